/- The law on fractions of two numbers. Its arguments: two integers; an array of two numbers. No condition. -/
import Derived.Test.YtiaijoomngefnaaGreatDoorYVLaw03
import Derived.Test.YtiaijoomngefnaaGreatDoorYj
namespace Go.VS.YtiaijoomngefnaaGreatDoor
open Go Go.VL Go.VN Go.RowKit Go.Proofs
set_option maxRecDepth 100000
set_option linter.unusedVariables false

theorem law_Of (p q : Int) (a b : List Int) (la : a.length ≤ 1000000000000000) (lb : b.length ≤ 1000000000000000) : Spc X 6 [.one (.int .i64 p), .one (.int .i64 q), .agg [slc eI a, slc eI b]] (.one (.bool true)) := by
  refine Spc.start Tryz.func6 rfl (h := fun hs R hR => ?_)
  unfold Tryz.f6
  simp only [entryE, PA.av, List.map_cons, List.map_nil]
  have hfew := r_Few2 a b 210 la lb
  refine W_seq ?_
  refine W_reg ?_
  refine R_boxPu (l := [slc eI a, slc eI b]) (hK := ?_)
  refine walk (hQ := ?_)
  refine R_call l_awake (hK := ?_)
  refine walk (hQ := ?_)
  refine R_slArr (hK := ?_)
  refine walk (hQ := ?_)
  have k1 := f_Of p q
  have k2 := g_Of p q
  have k3 := f_New a b
  have k4 := g_New a b
  have hsa := g_Same (ofF p q).1 (ofF p q).1
  have hsb := g_Same (newF a b).1 (newF a b).1
  rw [decide_eq_true rfl] at hsa hsb
  generalize ofF p q = P at *
  generalize newF a b = Q at *
  cases hf : decide ((a.length : Int) + b.length ≤ 210) with
  | false =>
    rw [hf] at hfew
    refine R_callP (ids' := [0]) hfew (hv := .cons (.tmp rfl) (VA.one (VC.sub (e := eN) (l := [a, b]) (m := 0) (n := 2) rfl (fun _ => rfl) (by simp))) (.cons (.ci rfl) (VA.one (.pv rfl)) .nil)) (hK := ?_)
    refine walk (hQ := ?_)
    refine R_call l_awake (hK := ?_)
    refine walk (hQ := ?_)
    exact hR _ (ret1 (hp := rfl))
  | true =>
  rw [hf] at hfew
  refine R_callP (ids' := [0]) hfew (hv := .cons (.tmp rfl) (VA.one (VC.sub (e := eN) (l := [a, b]) (m := 0) (n := 2) rfl (fun _ => rfl) (by simp))) (.cons (.ci rfl) (VA.one (.pv rfl)) .nil)) (hK := ?_)
  refine walk (hQ := ?_)
  refine R_call k1 (hK := ?_)
  refine walk (hQ := ?_)
  refine R_call k2 (hK := ?_)
  refine walk (hQ := ?_)
  refine R_ldPuA (hK := ?_)
  refine walk (hQ := ?_)
  refine R_ldPuA (hK := ?_)
  refine walk (hQ := ?_)
  refine R_call k3 (hK := ?_)
  refine walk (hQ := ?_)
  refine R_ldPuA (hK := ?_)
  refine walk (hQ := ?_)
  refine R_ldPuA (hK := ?_)
  refine walk (hQ := ?_)
  refine R_call k4 (hK := ?_)
  refine walk (hQ := ?_)
  rw [decide_eq_true (show P.2 = P.2 from rfl)]
  refine walk (hQ := ?_)
  refine R_call hsa (hK := ?_)
  refine walk (hQ := ?_)
  rw [decide_eq_true (show Q.2 = Q.2 from rfl)]
  refine walk (hQ := ?_)
  refine R_call hsb (hK := ?_)
  refine walk (hQ := ?_)
  exact hR _ (ret1 (hp := rfl))
end Go.VS.YtiaijoomngefnaaGreatDoor
