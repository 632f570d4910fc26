/- The law on the results of fractions. Its arguments: two fractions. No condition. -/
import Derived.Test.YtiaijoomngefnaaGreatDoorZVLaw03
namespace Go.VS.YtiaijoomngefnaaGreatDoor
open Go Go.VL Go.VN Go.RowKit Go.Proofs
set_option maxRecDepth 100000
set_option linter.unusedVariables false

theorem addN_ok {s t : Bool} {m n p q : Nat} (hn : 0 < n) (hq : 0 < q) (h : (addN s m n t p q).2 = 0) : VF (addN s m n t p q).1 := by
  unfold addN at h ⊢
  have hp : 0 < n * q := Nat.mul_pos hn hq
  by_cases h1 : fits (m * q) = true ∧ fits (p * n) = true ∧ fits (n * q) = true
  · rw [if_pos h1] at h ⊢
    by_cases h2 : s = t
    · rw [if_pos h2] at h ⊢
      by_cases h3 : fits (m * q + p * n) = true
      · rw [if_pos h3]; exact red_VF hp (fits_le h3) (fits_le h1.2.2)
      · rw [if_neg h3] at h; cases h
    · rw [if_neg h2]
      by_cases h3 : m * q < p * n
      · rw [if_pos h3]; exact red_VF hp (len_le (Nat.sub_le _ _) (fits_le h1.2.1)) (fits_le h1.2.2)
      · rw [if_neg h3]; exact red_VF hp (len_le (Nat.sub_le _ _) (fits_le h1.1)) (fits_le h1.2.2)
  · rw [if_neg h1] at h; cases h
theorem mulN_ok {s t : Bool} {m n p q : Nat} (hn : 0 < n) (hq : 0 < q) (h : (mulN s m n t p q).2 = 0) : VF (mulN s m n t p q).1 := by
  unfold mulN at h ⊢
  by_cases h1 : fits (m * p) = true ∧ fits (n * q) = true
  · rw [if_pos h1]; exact red_VF (Nat.mul_pos hn hq) (fits_le h1.1) (fits_le h1.2)
  · rw [if_neg h1] at h; cases h
theorem addF_ok {f g : FrN} (h : (addF f g).2 = 0) : validF (addF f g).1 = true := by
  unfold addF at h ⊢
  by_cases h1 : validF f = true ∧ validF g = true
  · rw [if_pos h1] at h ⊢; exact (addN_ok (validF_VF h1.1).pos (validF_VF h1.2).pos h).valid
  · rw [if_neg h1] at h; cases h
theorem subF_ok {f g : FrN} (h : (subF f g).2 = 0) : validF (subF f g).1 = true := by
  unfold subF at h ⊢
  by_cases h1 : validF f = true ∧ validF g = true
  · rw [if_pos h1] at h ⊢; exact addF_ok h
  · rw [if_neg h1] at h; cases h
theorem mulF_ok {f g : FrN} (h : (mulF f g).2 = 0) : validF (mulF f g).1 = true := by
  unfold mulF at h ⊢
  by_cases h1 : validF f = true ∧ validF g = true
  · rw [if_pos h1] at h ⊢; exact (mulN_ok (validF_VF h1.1).pos (validF_VF h1.2).pos h).valid
  · rw [if_neg h1] at h; cases h
theorem divF_ok {f g : FrN} (h : (divF f g).2 = 0) : validF (divF f g).1 = true := by
  unfold divF at h ⊢
  by_cases h1 : validF f = true ∧ validF g = true
  · rw [if_pos h1] at h ⊢
    by_cases h2 : g.2.1.isEmpty = true
    · rw [if_pos h2] at h; cases h
    · rw [if_neg h2] at h ⊢
      have h3 : 0 < nm g := by
        rcases Nat.eq_zero_or_pos (nm g) with h0 | h0
        · rw [(validF_VF h1.2).num, digs_empty, h0] at h2; exact absurd rfl h2
        · exact h0
      exact (mulN_ok (validF_VF h1.1).pos h3 h).valid
  · rw [if_neg h1] at h; cases h
set_option maxHeartbeats 4000000 in
theorem law_Results (x y : FrN) (hx : x.2.1.length ≤ 1000000000000000 ∧ x.2.2.length ≤ 1000000000000000) (hy : y.2.1.length ≤ 1000000000000000 ∧ y.2.2.length ≤ 1000000000000000) : Spc X 10 [ft x, ft y] (.one (.bool true)) := by
  refine Spc.start Tryz.func10 rfl (h := fun hs R hR => ?_)
  unfold Tryz.f10
  simp only [entryE, PA.av, List.map_cons, List.map_nil]
  have hfew := g_Few [x, y] 210 (by simp) (fun f hm => by
    rcases List.mem_cons.1 hm with rfl | hm
    · exact hx
    · rw [List.mem_singleton.1 hm]; exact hy)
  refine walk (hQ := ?_)
  refine R_call l_awake (hK := ?_)
  refine walk (hQ := ?_)
  refine R_bsl eF (l := [x, y]) (hK := ?_)
  refine walk (hQ := ?_)
  cases hf : ([x, y].all fun f => decide ((f.2.1.length : Int) + f.2.2.length ≤ 210)) with
  | false =>
    rw [hf] at hfew
    refine R_callP (ids' := []) hfew (hK := ?_)
    refine walk (hQ := ?_)
    refine R_call l_awake (hK := ?_)
    refine walk (hQ := ?_)
    exact hR _ (ret1 (hp := rfl))
  | true =>
  rw [hf] at hfew
  refine R_callP (ids' := []) hfew (hK := ?_)
  have kA := f_Add x y
  have gA := g_Add x y
  have vA := addF_ok (f := x) (g := y)
  have wA := g_Same (addF x y).1 (addF x y).1
  rw [decide_eq_true rfl] at wA
  have uA := f_Valid (addF x y).1
  generalize addF x y = T at kA gA vA wA uA
  obtain ⟨rA, eA⟩ := T
  dsimp only at kA gA vA wA uA
  have kS := f_Sub x y
  have gS := g_Sub x y
  have vS := subF_ok (f := x) (g := y)
  have wS := g_Same (subF x y).1 (subF x y).1
  rw [decide_eq_true rfl] at wS
  have uS := f_Valid (subF x y).1
  generalize subF x y = T at kS gS vS wS uS
  obtain ⟨rS, eS⟩ := T
  dsimp only at kS gS vS wS uS
  have kM := f_Mul x y
  have gM := g_Mul x y
  have vM := mulF_ok (f := x) (g := y)
  have wM := g_Same (mulF x y).1 (mulF x y).1
  rw [decide_eq_true rfl] at wM
  have uM := f_Valid (mulF x y).1
  generalize mulF x y = T at kM gM vM wM uM
  obtain ⟨rM, eM⟩ := T
  dsimp only at kM gM vM wM uM
  have kD := f_Div x y
  have gD := g_Div x y
  have vD := divF_ok (f := x) (g := y)
  have wD := g_Same (divF x y).1 (divF x y).1
  rw [decide_eq_true rfl] at wD
  have uD := f_Valid (divF x y).1
  generalize divF x y = T at kD gD vD wD uD
  obtain ⟨rD, eD⟩ := T
  dsimp only at kD gD vD wD uD
  by_cases hA : eA = 0
  · subst hA
    rw [vA rfl] at uA
    refine walk (hQ := ?_)
    refine R_call kA (hK := ?_)
    refine walk (hQ := ?_)
    refine R_call gA (hK := ?_)
    refine walk (hQ := ?_)
    refine R_call wA (hK := ?_)
    refine walk (hQ := ?_)
    refine R_call uA (hK := ?_)
    by_cases hS : eS = 0
    · subst hS
      rw [vS rfl] at uS
      refine walk (hQ := ?_)
      refine R_call kS (hK := ?_)
      refine walk (hQ := ?_)
      refine R_call gS (hK := ?_)
      refine walk (hQ := ?_)
      refine R_call wS (hK := ?_)
      refine walk (hQ := ?_)
      refine R_call uS (hK := ?_)
      by_cases hM : eM = 0
      · subst hM
        rw [vM rfl] at uM
        refine walk (hQ := ?_)
        refine R_call kM (hK := ?_)
        refine walk (hQ := ?_)
        refine R_call gM (hK := ?_)
        refine walk (hQ := ?_)
        refine R_call wM (hK := ?_)
        refine walk (hQ := ?_)
        refine R_call uM (hK := ?_)
        by_cases hD : eD = 0
        · subst hD
          rw [vD rfl] at uD
          refine walk (hQ := ?_)
          refine R_call kD (hK := ?_)
          refine walk (hQ := ?_)
          refine R_call gD (hK := ?_)
          refine walk (hQ := ?_)
          refine R_call wD (hK := ?_)
          refine walk (hQ := ?_)
          refine R_call uD (hK := ?_)
          refine walk (hQ := ?_)
          exact hR _ (ret1 (hp := rfl))
        · refine walk (hQ := ?_)
          refine R_call kD (hK := ?_)
          refine walk (hQ := ?_)
          refine R_call gD (hK := ?_)
          refine walk (hQ := ?_)
          rw [decide_eq_true (show eD = eD from rfl)]
          refine walk (hQ := ?_)
          refine R_call wD (hK := ?_)
          refine walk (hQ := ?_)
          rw [decide_eq_true (show ¬ eD = 0 from hD)]
          refine walk (hQ := ?_)
          exact hR _ (ret1 (hp := rfl))
      · refine walk (hQ := ?_)
        refine R_call kM (hK := ?_)
        refine walk (hQ := ?_)
        refine R_call gM (hK := ?_)
        refine walk (hQ := ?_)
        rw [decide_eq_false (show ¬ ¬ eM = eM from fun h => h rfl)]
        refine walk (hQ := ?_)
        refine R_call wM (hK := ?_)
        refine walk (hQ := ?_)
        rw [decide_eq_false hM]
        by_cases hD : eD = 0
        · subst hD
          rw [vD rfl] at uD
          refine walk (hQ := ?_)
          refine R_call kD (hK := ?_)
          refine walk (hQ := ?_)
          refine R_call gD (hK := ?_)
          refine walk (hQ := ?_)
          refine R_call wD (hK := ?_)
          refine walk (hQ := ?_)
          refine R_call uD (hK := ?_)
          refine walk (hQ := ?_)
          exact hR _ (ret1 (hp := rfl))
        · refine walk (hQ := ?_)
          refine R_call kD (hK := ?_)
          refine walk (hQ := ?_)
          refine R_call gD (hK := ?_)
          refine walk (hQ := ?_)
          rw [decide_eq_true (show eD = eD from rfl)]
          refine walk (hQ := ?_)
          refine R_call wD (hK := ?_)
          refine walk (hQ := ?_)
          rw [decide_eq_true (show ¬ eD = 0 from hD)]
          refine walk (hQ := ?_)
          exact hR _ (ret1 (hp := rfl))
    · refine walk (hQ := ?_)
      refine R_call kS (hK := ?_)
      refine walk (hQ := ?_)
      refine R_call gS (hK := ?_)
      refine walk (hQ := ?_)
      rw [decide_eq_false (show ¬ ¬ eS = eS from fun h => h rfl)]
      refine walk (hQ := ?_)
      refine R_call wS (hK := ?_)
      refine walk (hQ := ?_)
      rw [decide_eq_false hS]
      by_cases hM : eM = 0
      · subst hM
        rw [vM rfl] at uM
        refine walk (hQ := ?_)
        refine R_call kM (hK := ?_)
        refine walk (hQ := ?_)
        refine R_call gM (hK := ?_)
        refine walk (hQ := ?_)
        refine R_call wM (hK := ?_)
        refine walk (hQ := ?_)
        refine R_call uM (hK := ?_)
        by_cases hD : eD = 0
        · subst hD
          rw [vD rfl] at uD
          refine walk (hQ := ?_)
          refine R_call kD (hK := ?_)
          refine walk (hQ := ?_)
          refine R_call gD (hK := ?_)
          refine walk (hQ := ?_)
          refine R_call wD (hK := ?_)
          refine walk (hQ := ?_)
          refine R_call uD (hK := ?_)
          refine walk (hQ := ?_)
          exact hR _ (ret1 (hp := rfl))
        · refine walk (hQ := ?_)
          refine R_call kD (hK := ?_)
          refine walk (hQ := ?_)
          refine R_call gD (hK := ?_)
          refine walk (hQ := ?_)
          rw [decide_eq_true (show eD = eD from rfl)]
          refine walk (hQ := ?_)
          refine R_call wD (hK := ?_)
          refine walk (hQ := ?_)
          rw [decide_eq_true (show ¬ eD = 0 from hD)]
          refine walk (hQ := ?_)
          exact hR _ (ret1 (hp := rfl))
      · refine walk (hQ := ?_)
        refine R_call kM (hK := ?_)
        refine walk (hQ := ?_)
        refine R_call gM (hK := ?_)
        refine walk (hQ := ?_)
        rw [decide_eq_false (show ¬ ¬ eM = eM from fun h => h rfl)]
        refine walk (hQ := ?_)
        refine R_call wM (hK := ?_)
        refine walk (hQ := ?_)
        rw [decide_eq_false hM]
        by_cases hD : eD = 0
        · subst hD
          rw [vD rfl] at uD
          refine walk (hQ := ?_)
          refine R_call kD (hK := ?_)
          refine walk (hQ := ?_)
          refine R_call gD (hK := ?_)
          refine walk (hQ := ?_)
          refine R_call wD (hK := ?_)
          refine walk (hQ := ?_)
          refine R_call uD (hK := ?_)
          refine walk (hQ := ?_)
          exact hR _ (ret1 (hp := rfl))
        · refine walk (hQ := ?_)
          refine R_call kD (hK := ?_)
          refine walk (hQ := ?_)
          refine R_call gD (hK := ?_)
          refine walk (hQ := ?_)
          rw [decide_eq_true (show eD = eD from rfl)]
          refine walk (hQ := ?_)
          refine R_call wD (hK := ?_)
          refine walk (hQ := ?_)
          rw [decide_eq_true (show ¬ eD = 0 from hD)]
          refine walk (hQ := ?_)
          exact hR _ (ret1 (hp := rfl))
  · refine walk (hQ := ?_)
    refine R_call kA (hK := ?_)
    refine walk (hQ := ?_)
    refine R_call gA (hK := ?_)
    refine walk (hQ := ?_)
    rw [decide_eq_false (show ¬ ¬ eA = eA from fun h => h rfl)]
    refine walk (hQ := ?_)
    refine R_call wA (hK := ?_)
    refine walk (hQ := ?_)
    rw [decide_eq_false hA]
    by_cases hS : eS = 0
    · subst hS
      rw [vS rfl] at uS
      refine walk (hQ := ?_)
      refine R_call kS (hK := ?_)
      refine walk (hQ := ?_)
      refine R_call gS (hK := ?_)
      refine walk (hQ := ?_)
      refine R_call wS (hK := ?_)
      refine walk (hQ := ?_)
      refine R_call uS (hK := ?_)
      by_cases hM : eM = 0
      · subst hM
        rw [vM rfl] at uM
        refine walk (hQ := ?_)
        refine R_call kM (hK := ?_)
        refine walk (hQ := ?_)
        refine R_call gM (hK := ?_)
        refine walk (hQ := ?_)
        refine R_call wM (hK := ?_)
        refine walk (hQ := ?_)
        refine R_call uM (hK := ?_)
        by_cases hD : eD = 0
        · subst hD
          rw [vD rfl] at uD
          refine walk (hQ := ?_)
          refine R_call kD (hK := ?_)
          refine walk (hQ := ?_)
          refine R_call gD (hK := ?_)
          refine walk (hQ := ?_)
          refine R_call wD (hK := ?_)
          refine walk (hQ := ?_)
          refine R_call uD (hK := ?_)
          refine walk (hQ := ?_)
          exact hR _ (ret1 (hp := rfl))
        · refine walk (hQ := ?_)
          refine R_call kD (hK := ?_)
          refine walk (hQ := ?_)
          refine R_call gD (hK := ?_)
          refine walk (hQ := ?_)
          rw [decide_eq_true (show eD = eD from rfl)]
          refine walk (hQ := ?_)
          refine R_call wD (hK := ?_)
          refine walk (hQ := ?_)
          rw [decide_eq_true (show ¬ eD = 0 from hD)]
          refine walk (hQ := ?_)
          exact hR _ (ret1 (hp := rfl))
      · refine walk (hQ := ?_)
        refine R_call kM (hK := ?_)
        refine walk (hQ := ?_)
        refine R_call gM (hK := ?_)
        refine walk (hQ := ?_)
        rw [decide_eq_false (show ¬ ¬ eM = eM from fun h => h rfl)]
        refine walk (hQ := ?_)
        refine R_call wM (hK := ?_)
        refine walk (hQ := ?_)
        rw [decide_eq_false hM]
        by_cases hD : eD = 0
        · subst hD
          rw [vD rfl] at uD
          refine walk (hQ := ?_)
          refine R_call kD (hK := ?_)
          refine walk (hQ := ?_)
          refine R_call gD (hK := ?_)
          refine walk (hQ := ?_)
          refine R_call wD (hK := ?_)
          refine walk (hQ := ?_)
          refine R_call uD (hK := ?_)
          refine walk (hQ := ?_)
          exact hR _ (ret1 (hp := rfl))
        · refine walk (hQ := ?_)
          refine R_call kD (hK := ?_)
          refine walk (hQ := ?_)
          refine R_call gD (hK := ?_)
          refine walk (hQ := ?_)
          rw [decide_eq_true (show eD = eD from rfl)]
          refine walk (hQ := ?_)
          refine R_call wD (hK := ?_)
          refine walk (hQ := ?_)
          rw [decide_eq_true (show ¬ eD = 0 from hD)]
          refine walk (hQ := ?_)
          exact hR _ (ret1 (hp := rfl))
    · refine walk (hQ := ?_)
      refine R_call kS (hK := ?_)
      refine walk (hQ := ?_)
      refine R_call gS (hK := ?_)
      refine walk (hQ := ?_)
      rw [decide_eq_false (show ¬ ¬ eS = eS from fun h => h rfl)]
      refine walk (hQ := ?_)
      refine R_call wS (hK := ?_)
      refine walk (hQ := ?_)
      rw [decide_eq_false hS]
      by_cases hM : eM = 0
      · subst hM
        rw [vM rfl] at uM
        refine walk (hQ := ?_)
        refine R_call kM (hK := ?_)
        refine walk (hQ := ?_)
        refine R_call gM (hK := ?_)
        refine walk (hQ := ?_)
        refine R_call wM (hK := ?_)
        refine walk (hQ := ?_)
        refine R_call uM (hK := ?_)
        by_cases hD : eD = 0
        · subst hD
          rw [vD rfl] at uD
          refine walk (hQ := ?_)
          refine R_call kD (hK := ?_)
          refine walk (hQ := ?_)
          refine R_call gD (hK := ?_)
          refine walk (hQ := ?_)
          refine R_call wD (hK := ?_)
          refine walk (hQ := ?_)
          refine R_call uD (hK := ?_)
          refine walk (hQ := ?_)
          exact hR _ (ret1 (hp := rfl))
        · refine walk (hQ := ?_)
          refine R_call kD (hK := ?_)
          refine walk (hQ := ?_)
          refine R_call gD (hK := ?_)
          refine walk (hQ := ?_)
          rw [decide_eq_true (show eD = eD from rfl)]
          refine walk (hQ := ?_)
          refine R_call wD (hK := ?_)
          refine walk (hQ := ?_)
          rw [decide_eq_true (show ¬ eD = 0 from hD)]
          refine walk (hQ := ?_)
          exact hR _ (ret1 (hp := rfl))
      · refine walk (hQ := ?_)
        refine R_call kM (hK := ?_)
        refine walk (hQ := ?_)
        refine R_call gM (hK := ?_)
        refine walk (hQ := ?_)
        rw [decide_eq_false (show ¬ ¬ eM = eM from fun h => h rfl)]
        refine walk (hQ := ?_)
        refine R_call wM (hK := ?_)
        refine walk (hQ := ?_)
        rw [decide_eq_false hM]
        by_cases hD : eD = 0
        · subst hD
          rw [vD rfl] at uD
          refine walk (hQ := ?_)
          refine R_call kD (hK := ?_)
          refine walk (hQ := ?_)
          refine R_call gD (hK := ?_)
          refine walk (hQ := ?_)
          refine R_call wD (hK := ?_)
          refine walk (hQ := ?_)
          refine R_call uD (hK := ?_)
          refine walk (hQ := ?_)
          exact hR _ (ret1 (hp := rfl))
        · refine walk (hQ := ?_)
          refine R_call kD (hK := ?_)
          refine walk (hQ := ?_)
          refine R_call gD (hK := ?_)
          refine walk (hQ := ?_)
          rw [decide_eq_true (show eD = eD from rfl)]
          refine walk (hQ := ?_)
          refine R_call wD (hK := ?_)
          refine walk (hQ := ?_)
          rw [decide_eq_true (show ¬ eD = 0 from hD)]
          refine walk (hQ := ?_)
          exact hR _ (ret1 (hp := rfl))
end Go.VS.YtiaijoomngefnaaGreatDoor
