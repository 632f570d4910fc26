/- The law on the order of fractions. Its arguments: three fractions. No condition. -/
import Derived.Test.YtiaijoomngefnaaGreatDoorZVLaw03b
import Derived.Test.YtiaijoomngefnaaGreatDoorZVLRat
namespace Go.VS.YtiaijoomngefnaaGreatDoor
open Go Go.VL Go.VN Go.RowKit Go.Proofs
set_option maxRecDepth 100000
set_option linter.unusedVariables false

set_option maxHeartbeats 4000000 in
theorem law_Cmp (x y z : FrN) (hx : x.2.1.length ≤ 1000000000000000 ∧ x.2.2.length ≤ 1000000000000000) (hy : y.2.1.length ≤ 1000000000000000 ∧ y.2.2.length ≤ 1000000000000000) (hz : z.2.1.length ≤ 1000000000000000 ∧ z.2.2.length ≤ 1000000000000000) : Spc X 7 [ft x, ft y, ft z] (.one (.bool true)) := by
  refine Spc.start Tryz.func7 rfl (h := fun hs R hR => ?_)
  unfold Tryz.f7
  simp only [entryE, PA.av, List.map_cons, List.map_nil]
  have hfew := g_Few [x, y, z] 110 (by simp) (fun f hm => by
    rcases List.mem_cons.1 hm with rfl | hm
    · exact hx
    · rcases List.mem_cons.1 hm with rfl | hm
      · exact hy
      · rw [List.mem_singleton.1 hm]; exact hz)
  refine walk (hQ := ?_)
  refine R_call l_awake (hK := ?_)
  refine walk (hQ := ?_)
  refine R_bsl eF (l := [x, y, z]) (hK := ?_)
  refine walk (hQ := ?_)
  cases hf : ([x, y, z].all fun f => decide ((f.2.1.length : Int) + f.2.2.length ≤ 110)) with
  | false =>
    rw [hf] at hfew
    refine R_callP (ids' := []) hfew (hK := ?_)
    refine walk (hQ := ?_)
    refine R_call l_awake (hK := ?_)
    refine walk (hQ := ?_)
    exact hR _ (ret1 (hp := rfl))
  | true =>
  rw [hf] at hfew
  refine R_callP (ids' := []) hfew (hK := ?_)
  have k1 := f_Cmp x y
  have k2 := f_Cmp y z
  have k3 := f_Cmp x z
  have g1 := g_Cmp x y
  have g2 := g_Cmp y z
  have g3 := g_Cmp x z
  have k4 := f_Cmp y x
  rw [cmpF_swap x y] at k4
  have ab := cmpF_abs x y
  have k5 := g_Same x y
  have v1 := g_Valid x
  have v2 := g_Valid y
  have v3 := g_Valid z
  have htr := fun (h1 : VF x) (h2 : VF y) (h3 : VF z) => cmpF_trans h1 h2 h3
  have hze := fun (h1 : VF x) (h2 : VF y) => cmpF_zero h1 h2
  have hdf := fun (d : FrN) (hd : VF d) (h : subF x y = (d, 0)) => cmpF_diff hd h
  have hok := subF_ok (f := x) (g := y)
  have k6 := f_Sub x y
  have hZ := g_Zero
  rw [digs1] at hZ
  generalize cmpF x y = a at *
  generalize cmpF y z = b at *
  generalize cmpF x z = c at *
  refine walk (hQ := ?_)
  refine R_call k1 (hK := ?_)
  refine walk (hQ := ?_)
  refine R_call k2 (hK := ?_)
  refine walk (hQ := ?_)
  refine R_call k3 (hK := ?_)
  refine walk (hQ := ?_)
  refine R_call g1 (hK := ?_)
  refine walk (hQ := ?_)
  rw [decide_eq_false (show ¬ ¬ a = a from fun h => h rfl)]
  refine walk (hQ := ?_)
  refine R_call g2 (hK := ?_)
  refine walk (hQ := ?_)
  rw [decide_eq_false (show ¬ ¬ b = b from fun h => h rfl)]
  refine walk (hQ := ?_)
  refine R_call g3 (hK := ?_)
  refine walk (hQ := ?_)
  rw [decide_eq_false (show ¬ ¬ c = c from fun h => h rfl)]
  refine walk (hQ := ?_)
  refine R_call k4 (hK := ?_)
  refine walk (hQ := ?_)
  rw [decide_eq_false (show ¬ ¬ -a = -a from fun h => h rfl)]
  refine walk (hQ := ?_)
  cases hvx : validF x with
  | false =>
    rw [hvx] at v1
    refine R_call v1 (hK := ?_)
    refine walk (hQ := ?_)
    exact hR _ (ret1 (hp := rfl))
  | true =>
  rw [hvx] at v1
  refine R_call v1 (hK := ?_)
  refine walk (hQ := ?_)
  cases hvy : validF y with
  | false =>
    rw [hvy] at v2
    refine R_call v2 (hK := ?_)
    refine walk (hQ := ?_)
    exact hR _ (ret1 (hp := rfl))
  | true =>
  rw [hvy] at v2
  refine R_call v2 (hK := ?_)
  refine walk (hQ := ?_)
  cases hvz : validF z with
  | false =>
    rw [hvz] at v3
    refine R_call v3 (hK := ?_)
    refine walk (hQ := ?_)
    exact hR _ (ret1 (hp := rfl))
  | true =>
  rw [hvz] at v3
  have hX := validF_VF hvx
  have hY := validF_VF hvy
  have hZz := validF_VF hvz
  replace htr := htr hX hY hZz
  rw [← hze hX hY] at k5
  refine R_call v3 (hK := ?_)
  refine walk (hQ := ?_)
  generalize subF x y = T at *
  obtain ⟨d, e⟩ := T
  dsimp only at k6 hok
  refine R_call k6 (hK := ?_)
  by_cases he : e = 0
  case' pos =>
    subst he
    have k7 := f_Cmp d (false, [], [1])
    rw [hdf d (validF_VF (hok rfl)) rfl] at k7
    refine walk (hQ := ?_)
    refine R_call hZ (hK := ?_)
    refine walk (hQ := ?_)
    refine R_call k7 (hK := ?_)
    refine walk (hQ := ?_)
    rw [decide_eq_false (show ¬ ¬ a = a from fun h => h rfl)]
    refine walk (hQ := ?_)
  case' neg =>
    refine walk (hQ := ?_)
    rw [decide_eq_false he]
    refine walk (hQ := ?_)
  all_goals
    refine R_call k5 (hK := ?_)
    refine walk (hQ := ?_)
    rw [decide_eq_true (show decide (a = 0) = decide (a = 0) from rfl)]
    refine walk (hQ := ?_)
    refine R_g_if (h1 := fun h1 => ?_) (h2 := fun h1 => ?_)
    · simp only [Bool.false_eq_true, if_false] at h1
      refine walk (hQ := ?_)
      refine R_g_if (h1 := fun h2 => ?_) (h2 := fun h2 => ?_)
      · simp only [Bool.false_eq_true, if_false] at h2
        have h3 := htr h1 h2
        refine walk (hQ := ?_)
        rw [decide_eq_true h3]
        exact hR _ (ret1 (hp := rfl))
      · refine walk (hQ := ?_)
        exact hR _ (ret1 (hp := rfl))
    · refine walk (hQ := ?_)
      exact hR _ (ret1 (hp := rfl))
end Go.VS.YtiaijoomngefnaaGreatDoor
