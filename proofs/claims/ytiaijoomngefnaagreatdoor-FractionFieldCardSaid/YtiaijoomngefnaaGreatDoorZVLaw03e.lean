/- The law on the field of fractions. Its arguments: three small fractions. No condition. -/
import Derived.Test.YtiaijoomngefnaaGreatDoorZVLaw03b
import Derived.Test.YtiaijoomngefnaaGreatDoorZVLField
namespace Go.VS.YtiaijoomngefnaaGreatDoor
open Go Go.VL Go.VN Go.RowKit Go.Proofs
set_option maxRecDepth 100000
set_option linter.unusedVariables false

theorem l_two (g : FuncId) (x y r : FrN) (hg : Spc X g [ft x, ft y] (fr (r, 0))) : Spc X 44 [.one (.clo g []), ft x, ft y] (ft r) := by
  refine Spc.start Tryz.func44 rfl (h := fun hs R hR => ?_)
  unfold Tryz.f44
  simp only [entryE, PA.av, List.map_cons, List.map_nil]
  refine walk (hQ := ?_)
  refine R_call hg (hK := ?_)
  refine walk (hQ := ?_)
  exact hR _ (ret1 (hp := rfl))
set_option maxHeartbeats 4000000 in
theorem law_Field (a b c a' b' c' : Int) (ha : -32768 ≤ a ∧ a ≤ 32767) (ha' : 0 ≤ a' ∧ a' ≤ 255) (hb : -32768 ≤ b ∧ b ≤ 32767) (hb' : 0 ≤ b' ∧ b' ≤ 255) (hc : -32768 ≤ c ∧ c ≤ 32767) (hc' : 0 ≤ c' ∧ c' ≤ 255) : Spc X 11 [.agg [.int .i16 a, .int .u8 a'], .agg [.int .i16 b, .int .u8 b'], .agg [.int .i16 c, .int .u8 c']] (.one (.bool true)) := by
  refine Spc.start Tryz.func11 rfl (h := fun hs R hR => ?_)
  unfold Tryz.f11
  simp only [entryE, PA.av, List.map_cons, List.map_nil]
  obtain ⟨hx, _⟩ := small_bd ha ha'
  obtain ⟨hy, hy0⟩ := small_bd hb hb'
  obtain ⟨hz, _⟩ := small_bd hc hc'
  have m1 := g_Made a a'
  have m2 := g_Made b b'
  have m3 := g_Made c c'
  generalize (ofF a (1 + a')).1 = x at *
  generalize (ofF b (1 + b')).1 = y at *
  generalize (ofF c (1 + c')).1 = z at *
  obtain ⟨p1, q1, q2⟩ := fld_addc hx hy
  obtain ⟨p2, q3, q4⟩ := fld_mulc hx hy
  obtain ⟨p3, p4, p5, q5, q6, q7, q8⟩ := fld_adda hx hy hz
  obtain ⟨p6, p7, p8, q9, q10, q11, q12⟩ := fld_mula hx hy hz
  obtain ⟨p9, p10, p11, p12, q13, q14, q15, q16, q17⟩ := fld_dist hx hy hz
  obtain ⟨p13, q18, q19⟩ := fld_back hx hy
  have hdv := fld_divb hx hy
  have A := fun (u v r : FrN) (h : addF u v = (r, 0)) => l_two 37 u v r (by have := f_Add u v; rwa [h] at this)
  have S := fun (u v r : FrN) (h : subF u v = (r, 0)) => l_two 30 u v r (by have := f_Sub u v; rwa [h] at this)
  have M := fun (u v r : FrN) (h : mulF u v = (r, 0)) => l_two 40 u v r (by have := f_Mul u v; rwa [h] at this)
  have D := fun (u v r : FrN) (h : divF u v = (r, 0)) => l_two 42 u v r (by have := f_Div u v; rwa [h] at this)
  have E : ∀ u : FrN, Spc X 19 [ft u, ft u] (.one (.bool true)) := fun u => by
    have := g_Same u u
    rwa [decide_eq_true rfl] at this
  refine walk (hQ := ?_)
  refine R_call l_awake (hK := ?_)
  refine walk (hQ := ?_)
  refine R_call m1 (hK := ?_)
  refine walk (hQ := ?_)
  refine R_call m2 (hK := ?_)
  refine walk (hQ := ?_)
  refine R_call m3 (hK := ?_)
  refine walk (hQ := ?_)
  refine R_call (A x y _ q1) (hK := ?_)
  refine walk (hQ := ?_)
  refine R_call (A y x _ q2) (hK := ?_)
  refine walk (hQ := ?_)
  refine R_call (E _) (hK := ?_)
  refine walk (hQ := ?_)
  refine R_call (M x y _ q3) (hK := ?_)
  refine walk (hQ := ?_)
  refine R_call (M y x _ q4) (hK := ?_)
  refine walk (hQ := ?_)
  refine R_call (E _) (hK := ?_)
  refine walk (hQ := ?_)
  refine R_call (A x y _ q5) (hK := ?_)
  refine walk (hQ := ?_)
  refine R_call (A _ z _ q7) (hK := ?_)
  refine walk (hQ := ?_)
  refine R_call (A y z _ q6) (hK := ?_)
  refine walk (hQ := ?_)
  refine R_call (A x _ _ q8) (hK := ?_)
  refine walk (hQ := ?_)
  refine R_call (E _) (hK := ?_)
  refine walk (hQ := ?_)
  refine R_call (M x y _ q9) (hK := ?_)
  refine walk (hQ := ?_)
  refine R_call (M _ z _ q11) (hK := ?_)
  refine walk (hQ := ?_)
  refine R_call (M y z _ q10) (hK := ?_)
  refine walk (hQ := ?_)
  refine R_call (M x _ _ q12) (hK := ?_)
  refine walk (hQ := ?_)
  refine R_call (E _) (hK := ?_)
  refine walk (hQ := ?_)
  refine R_call (A y z _ q13) (hK := ?_)
  refine walk (hQ := ?_)
  refine R_call (M x _ _ q16) (hK := ?_)
  refine walk (hQ := ?_)
  refine R_call (M x y _ q14) (hK := ?_)
  refine walk (hQ := ?_)
  refine R_call (M x z _ q15) (hK := ?_)
  refine walk (hQ := ?_)
  refine R_call (A _ _ _ q17) (hK := ?_)
  refine walk (hQ := ?_)
  refine R_call (E _) (hK := ?_)
  refine walk (hQ := ?_)
  refine R_call (A x y _ q18) (hK := ?_)
  refine walk (hQ := ?_)
  refine R_call (S _ y _ q19) (hK := ?_)
  refine walk (hQ := ?_)
  refine R_call (E _) (hK := ?_)
  refine walk (hQ := ?_)
  refine R_g_if (h1 := fun h0 => ?_) (h2 := fun h0 => ?_)
  · simp only [Bool.false_eq_true, if_false] at h0
    obtain ⟨p14, q20, q21⟩ := hdv (by
      rcases Nat.eq_zero_or_pos (nm y) with h | h
      · exact absurd (hy0.1 h) h0
      · exact h)
    refine walk (hQ := ?_)
    refine R_call (M x y _ q20) (hK := ?_)
    refine walk (hQ := ?_)
    refine R_call (D _ y _ q21) (hK := ?_)
    refine walk (hQ := ?_)
    refine R_call (E _) (hK := ?_)
    refine walk (hQ := ?_)
    exact hR _ (ret1 (hp := rfl))
  · refine walk (hQ := ?_)
    exact hR _ (ret1 (hp := rfl))
end Go.VS.YtiaijoomngefnaaGreatDoor
