/- The law on sums of fractions. Its arguments: a row of fractions; a small fraction. No condition. -/
import Derived.Test.YtiaijoomngefnaaGreatDoorZVFrK
namespace Go.VS.YtiaijoomngefnaaGreatDoor
open Go Go.VL Go.VN Go.RowKit Go.Proofs
set_option maxRecDepth 100000
set_option linter.unusedVariables false

theorem addF_err {f g : FrN} (h : (addF f g).2 ≠ 0) : addF f g = (zF, (addF f g).2) := by
  unfold addF at h ⊢
  by_cases h1 : validF f = true ∧ validF g = true
  · rw [if_pos h1] at h ⊢
    unfold addN at h ⊢
    by_cases h2 : fits (nm f * dn g) = true ∧ fits (nm g * dn f) = true ∧ fits (dn f * dn g) = true
    · rw [if_pos h2] at h ⊢
      by_cases h3 : f.1 = g.1
      · rw [if_pos h3] at h ⊢
        by_cases h4 : fits (nm f * dn g + nm g * dn f) = true
        · rw [if_pos h4] at h; exact absurd rfl h
        · rw [if_neg h4]
      · rw [if_neg h3] at h
        by_cases h4 : nm f * dn g < nm g * dn f
        · rw [if_pos h4] at h; exact absurd rfl h
        · rw [if_neg h4] at h; exact absurd rfl h
    · rw [if_neg h2]
  · rw [if_neg h1]
theorem foldF_snoc {m : FrN} {x : FrN} : ∀ {l : List FrN} {o : FrN}, foldF o l = (x, 0) → foldF o (l ++ [m]) = addF x m
  | [], o, h => by
    have e : o = x := congrArg Prod.fst h
    subst e
    rw [List.nil_append, foldF]
    by_cases h1 : (addF o m).2 ≠ 0
    · rw [if_pos h1]; exact (addF_err h1).symm
    · rw [if_neg h1, foldF]
      exact Prod.ext rfl (Decidable.not_not.1 h1).symm
  | f :: l, o, h => by
    rw [foldF] at h
    rw [List.cons_append, foldF]
    by_cases h1 : (addF o f).2 ≠ 0
    · rw [if_pos h1] at h; exact absurd (congrArg Prod.snd h) h1
    · rw [if_neg h1] at h ⊢
      exact foldF_snoc h
theorem sumF_snoc {m : FrN} {x : FrN} {l : List FrN} (hm : validF m = true) (h : sumF l = (x, 0)) : sumF (l ++ [m]) = addF x m := by
  unfold sumF at h ⊢
  by_cases h1 : l.all validF = true
  · rw [if_pos h1] at h
    rw [if_pos (by rw [List.all_append, h1]; simp [hm])]
    exact foldF_snoc h
  · rw [if_neg h1] at h; cases h
theorem ofF_ok {a b : Int} (hb : b ≠ 0) (ha1 : -1000000 ≤ a) (ha2 : a ≤ 1000000) (hb1 : -1000000 ≤ b) (hb2 : b ≤ 1000000) : VF (ofF a b).1 := by
  unfold ofF
  rw [if_neg hb, if_neg (by omega)]
  exact red_VF (by omega) (of_num _ (by omega)) (of_num _ (by omega))
set_option maxHeartbeats 1000000 in
theorem law_Sum (l : List FrN) (a b : Int) (hx : ∀ x ∈ l, x.2.1.length ≤ 1000000000000000 ∧ x.2.2.length ≤ 1000000000000000) (ha : -32768 ≤ a ∧ a ≤ 32767) (hb : 0 ≤ b ∧ b ≤ 255) : Spc X 9 [.one (slc eF l), .agg [.int .i16 a, .int .u8 b]] (.one (.bool true)) := by
  refine Spc.start Tryz.func9 rfl (h := fun hs R hR => ?_)
  unfold Tryz.f9
  simp only [entryE, PA.av, List.map_cons, List.map_nil]
  have ll := (sane_slc hs.1).1
  refine walk (hQ := ?_)
  refine R_call l_awake (hK := ?_)
  refine walk (hQ := ?_)
  refine R_g_if (h1 := fun h0 => ?_) (h2 := fun h0 => ?_)
  case refine_2 =>
    refine walk (hQ := ?_)
    refine R_call l_awake (hK := ?_)
    refine walk (hQ := ?_)
    exact hR _ (ret1 (hp := rfl))
  simp only [Bool.false_eq_true, if_false] at h0
  have hfew := g_Few l 60 (by omega) hx
  refine walk (hQ := ?_)
  cases hf : (l.all fun f => decide ((f.2.1.length : Int) + f.2.2.length ≤ 60)) with
  | false =>
    rw [hf] at hfew
    refine R_call hfew (hK := ?_)
    refine walk (hQ := ?_)
    refine R_call l_awake (hK := ?_)
    refine walk (hQ := ?_)
    exact hR _ (ret1 (hp := rfl))
  | true =>
  rw [hf] at hfew
  refine R_call hfew (hK := ?_)
  have hvm := ofF_ok (a := a) (b := 1 + b) (by omega) (by omega) (by omega) (by omega) (by omega)
  have hmd := g_Made a b
  generalize (ofF a (1 + b)).1 = m at *
  have hsn := fun x => sumF_snoc (m := m) (x := x) (l := l) hvm.valid
  have k1 := f_Sum l (by omega)
  have k2 := g_Sum l (by omega)
  have k3 := g_Same (sumF l).1 (sumF l).1
  rw [decide_eq_true rfl] at k3
  have k4 := f_Sum (l ++ [m]) (by simp; omega)
  generalize sumF l = T at *
  obtain ⟨x, e⟩ := T
  dsimp only at k1 k2 k3
  refine walk (hQ := ?_)
  refine R_call (s_cloneF l (by omega)) (hK := ?_)
  refine walk (hQ := ?_)
  refine R_call k1 (hK := ?_)
  refine walk (hQ := ?_)
  refine R_call k2 (hK := ?_)
  by_cases he : e = 0
  · subst he
    rw [hsn x rfl] at k4
    have k5 := f_Add x m
    have k6 := g_Same (addF x m).1 (addF x m).1
    rw [decide_eq_true rfl] at k6
    generalize addF x m = A at *
    obtain ⟨r, e2⟩ := A
    dsimp only at k4 k5 k6
    refine walk (hQ := ?_)
    refine R_call k3 (hK := ?_)
    refine walk (hQ := ?_)
    refine R_call hmd (hK := ?_)
    refine walk (hQ := ?_)
    refine R_callN (o_cloneF l (by omega)) (hK := ?_)
    refine walk (hQ := ?_)
    refine R_bsl eF (l := [m]) (hK := ?_)
    refine walk (hQ := ?_)
    refine R_callF k4 (hK := ?_)
    refine walk (hQ := ?_)
    refine R_call k5 (hK := ?_)
    refine walk (hQ := ?_)
    rw [decide_eq_true (show e2 = e2 from rfl)]
    refine walk (hQ := ?_)
    refine R_call k6 (hK := ?_)
    refine walk (hQ := ?_)
    exact hR _ (ret1 (hp := rfl))
  · refine walk (hQ := ?_)
    rw [decide_eq_false (show ¬ ¬ e = e from fun h => h rfl)]
    refine walk (hQ := ?_)
    refine R_call k3 (hK := ?_)
    refine walk (hQ := ?_)
    refine W_if (ht := fun h1 => ?_) (hf := fun h1 => absurd he h1)
    refine walk (hQ := ?_)
    rw [decide_eq_true (show e = e from rfl)]
    refine walk (hQ := ?_)
    refine R_call k3 (hK := ?_)
    refine walk (hQ := ?_)
    exact hR _ (ret1 (hp := rfl))
end Go.VS.YtiaijoomngefnaaGreatDoor
