/- The examples of layer 3, and laws on fractions. Their arguments: fractions; strings; a number of digits. No condition. -/
import Derived.Test.YtiaijoomngefnaaGreatDoorYj
import Derived.Test.YtiaijoomngefnaaGreatDoorYVLAwk3
namespace Go.VS.YtiaijoomngefnaaGreatDoor
open Go Go.VL Go.VN Go.RowKit Go.Proofs
set_option maxRecDepth 100000
set_option linter.unusedVariables false

theorem l_awake : Spc X 12 [] (.one (.bool true)) := by
  refine Spc.start Tryz.func12 rfl (h := fun hs R hR => ?_)
  unfold Tryz.f12
  simp only [entryE]
  have h1 := f_Of 6 (-4)
  rw [ex3_of1] at h1
  have h2 := f_Format (true, [3], [2])
  rw [ex3_fmt] at h2
  have h3 := f_Of (-2) 3
  rw [ex3_of2] at h3
  have h4 := f_Decimal (true, [2], [3]) 3
  rw [ex3_dec] at h4
  have h5 := f_Parse [50, 47, 52] (by decide)
  rw [ex3_parse] at h5
  have h6 := f_Valid (true, [3], [2])
  rw [ex3_valid1] at h6
  have h7 := f_Cmp (true, [3], [2]) (true, [2], [3])
  rw [ex3_cmp] at h7
  refine walk (hQ := ?_)
  refine R_call h1 (hK := ?_)
  refine walk (hQ := ?_)
  refine R_call h2 (hK := ?_)
  refine walk (hQ := ?_)
  refine R_call h3 (hK := ?_)
  refine walk (hQ := ?_)
  refine R_call h4 (hK := ?_)
  refine walk (hQ := ?_)
  refine R_call h5 (hK := ?_)
  refine walk (hQ := ?_)
  refine R_call h6 (hK := ?_)
  refine walk (hQ := ?_)
  refine R_call h7 (hK := ?_)
  refine walk (hQ := ?_)
  exact hR _ (ret1 (hp := rfl))
theorem few1 (x : FrN) (most : Int) (la : x.2.1.length ≤ 1000000000000000) (lb : x.2.2.length ≤ 1000000000000000) : Spc X 13 [.one (slc eF [x]), .one (.int .i64 most)] (.one (.bool (decide ((x.2.1.length : Int) + x.2.2.length ≤ most)))) := by
  have := g_Few [x] most (by simp) (by simp [la, lb])
  simpa using this
theorem law_Text (x : FrN) (la : x.2.1.length ≤ 1000000000000000) (lb : x.2.2.length ≤ 1000000000000000) : Spc X 3 [ft x] (.one (.bool true)) := by
  refine Spc.start Tryz.func3 rfl (h := fun hs R hR => ?_)
  unfold Tryz.f3
  simp only [entryE, PA.av, List.map_cons, List.map_nil]
  have hfew := few1 x 210 la lb
  refine walk (hQ := ?_)
  refine R_call l_awake (hK := ?_)
  refine walk (hQ := ?_)
  refine R_bsl eF (l := [x]) (hK := ?_)
  refine walk (hQ := ?_)
  cases hf : decide ((x.2.1.length : Int) + x.2.2.length ≤ 210) with
  | false =>
    rw [hf] at hfew
    refine R_callP (ids' := []) hfew (hK := ?_)
    refine walk (hQ := ?_)
    refine R_call l_awake (hK := ?_)
    refine walk (hQ := ?_)
    exact hR _ (ret1 (hp := rfl))
  | true =>
  rw [hf] at hfew
  refine R_callP (ids' := []) hfew (hK := ?_)
  have k1 := f_Format x
  have k2 := g_Format x
  have k3 := f_Valid x
  have k4 := g_Valid x
  cases hv : validF x with
  | false =>
    have e : fmtF x = ([], 1) := by unfold fmtF; rw [hv]; rfl
    rw [e] at k1 k2
    rw [hv] at k3 k4
    refine walk (hQ := ?_)
    refine R_call k1 (hK := ?_)
    refine walk (hQ := ?_)
    refine R_call k2 (hK := ?_)
    refine walk (hQ := ?_)
    refine R_call k3 (hK := ?_)
    refine walk (hQ := ?_)
    refine R_call k4 (hK := ?_)
    refine walk (hQ := ?_)
    refine R_call k3 (hK := ?_)
    refine walk (hQ := ?_)
    refine R_call k4 (hK := ?_)
    refine walk (hQ := ?_)
    exact hR _ (ret1 (hp := rfl))
  | true =>
    have e : fmtF x = (fmtB x, 0) := by unfold fmtF; rw [hv]; rfl
    have k5 := parse_text hv
    have hlen : (fmtB x).length ≤ 10000 := by
      obtain ⟨ha, hb⟩ := validF_parts hv
      have l1 := fmt_len ha
      have l2 := fmt_len hb
      unfold fmtB
      rw [List.length_append, List.length_append]
      have a1 : (if x.1 = true then [(45 : UInt8)] else []).length ≤ 1 := by split <;> decide
      have a2 : (if x.2.2 = [1] then [] else [47] ++ fmtL x.2.2).length ≤ 802 := by
        split
        · decide
        · rw [List.length_append]; simp only [List.length_cons, List.length_nil]; omega
      omega
    rw [e] at k1 k2 k5
    simp only [] at k5
    have k6 := f_Parse (fmtB x) (by omega)
    rw [k5] at k6
    rw [hv] at k3 k4
    have k7 := g_Same x x
    rw [decide_eq_true rfl] at k7
    generalize fmtB x = S at *
    refine walk (hQ := ?_)
    refine R_call k1 (hK := ?_)
    refine walk (hQ := ?_)
    refine R_call k2 (hK := ?_)
    refine walk (hQ := ?_)
    refine R_call k3 (hK := ?_)
    refine walk (hQ := ?_)
    refine R_call k4 (hK := ?_)
    refine walk (hQ := ?_)
    rw [decide_eq_false (show ¬ ¬ S = S from fun h => h rfl)]
    refine walk (hQ := ?_)
    refine R_call k6 (hK := ?_)
    refine walk (hQ := ?_)
    refine R_call k7 (hK := ?_)
    refine walk (hQ := ?_)
    exact hR _ (ret1 (hp := rfl))
theorem law_Parse (s : List UInt8) (ls : s.length ≤ 1000000000000000) : Spc X 4 [.one (.str s)] (.one (.bool true)) := by
  refine Spc.start Tryz.func4 rfl (h := fun hs R hR => ?_)
  unfold Tryz.f4
  simp only [entryE, PA.av, List.map_cons, List.map_nil]
  refine walk (hQ := ?_)
  refine R_call l_awake (hK := ?_)
  refine walk (hQ := ?_)
  refine W_if (ht := fun h0 => ?_) (hf := fun h0 => ?_)
  · refine walk (hQ := ?_)
    refine R_call l_awake (hK := ?_)
    refine walk (hQ := ?_)
    exact hR _ (ret1 (hp := rfl))
  · have k1 := f_Parse s (by omega)
    have k2 := g_Parse s (by omega)
    have k3 := g_Same (parseF s).1 (parseF s).1
    rw [decide_eq_true rfl] at k3
    have hb := parse_back (s := s)
    have k4 := f_Format (parseF s).1
    have k5 := f_Valid (parseF s).1
    generalize parseF s = T at *
    obtain ⟨x, e⟩ := T
    dsimp only at k1 k2 k3 k4 k5 hb
    by_cases he : e = 0
    · subst he
      obtain ⟨b1, b2⟩ := hb rfl
      rw [b1] at k5
      rw [b2] at k4
      refine walk (hQ := ?_)
      refine R_call k1 (hK := ?_)
      refine walk (hQ := ?_)
      refine R_call k2 (hK := ?_)
      refine walk (hQ := ?_)
      refine R_call k3 (hK := ?_)
      refine walk (hQ := ?_)
      refine R_call k4 (hK := ?_)
      refine walk (hQ := ?_)
      rw [decide_eq_true (show s = s from rfl)]
      refine walk (hQ := ?_)
      refine R_call k5 (hK := ?_)
      refine walk (hQ := ?_)
      exact hR _ (ret1 (hp := rfl))
    · refine walk (hQ := ?_)
      refine R_call k1 (hK := ?_)
      refine walk (hQ := ?_)
      refine R_call k2 (hK := ?_)
      refine walk (hQ := ?_)
      rw [decide_eq_false (show ¬ ¬ e = e from fun h => h rfl)]
      refine walk (hQ := ?_)
      refine R_call k3 (hK := ?_)
      refine walk (hQ := ?_)
      refine W_if (ht := fun h1 => ?_) (hf := fun h1 => absurd he h1)
      refine walk (hQ := ?_)
      rw [decide_eq_true (show e = e from rfl)]
      refine walk (hQ := ?_)
      refine R_call k3 (hK := ?_)
      refine walk (hQ := ?_)
      exact hR _ (ret1 (hp := rfl))
theorem law_Decimal (x : FrN) (d : Int) (la : x.2.1.length ≤ 1000000000000000) (lb : x.2.2.length ≤ 1000000000000000) : Spc X 5 [ft x, .one (.int .i64 d)] (.one (.bool true)) := by
  refine Spc.start Tryz.func5 rfl (h := fun hs R hR => ?_)
  unfold Tryz.f5
  simp only [entryE, PA.av, List.map_cons, List.map_nil]
  have hfew := few1 x 210 la lb
  refine walk (hQ := ?_)
  refine R_call l_awake (hK := ?_)
  refine walk (hQ := ?_)
  refine R_bsl eF (l := [x]) (hK := ?_)
  refine walk (hQ := ?_)
  cases hf : decide ((x.2.1.length : Int) + x.2.2.length ≤ 210) with
  | false =>
    rw [hf] at hfew
    refine R_callP (ids' := []) hfew (hK := ?_)
    refine walk (hQ := ?_)
    refine R_call l_awake (hK := ?_)
    refine walk (hQ := ?_)
    exact hR _ (ret1 (hp := rfl))
  | true =>
  rw [hf] at hfew
  refine R_callP (ids' := []) hfew (hK := ?_)
  have k1 := f_Decimal x d
  have k2 := g_Decimal x d
  generalize decF x d = T at *
  refine walk (hQ := ?_)
  refine R_call k1 (hK := ?_)
  refine walk (hQ := ?_)
  refine R_call k2 (hK := ?_)
  refine walk (hQ := ?_)
  rw [decide_eq_true (show T.1 = T.1 from rfl)]
  refine walk (hQ := ?_)
  rw [decide_eq_true (show T.2 = T.2 from rfl)]
  exact hR _ (ret1 (hp := rfl))
end Go.VS.YtiaijoomngefnaaGreatDoor
