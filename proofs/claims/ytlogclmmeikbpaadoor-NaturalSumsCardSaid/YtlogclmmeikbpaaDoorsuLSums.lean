/- A printed text: for each Go function a Lean function with the same answers, and a proof that the machine's call comes to them. No condition. Written by a program of ours (wip/tools/pp.py) out of the translation. -/
import Derived.Test.YtlogclmmeikbpaaDoorsuGiven
import Derived.Test.YtlogclmmeikbpaaDoorsuFmt
import Derived.Test.YtlogclmmeikbpaaDoorsuPx0
import Derived.Test.YtlogclmmeikbpaaDoorsuQ
import Derived.Test.YtlogclmmeikbpaaDoorsuPx1
import Derived.Test.YtlogclmmeikbpaaDoorsuPx2
import Derived.Test.YtlogclmmeikbpaaDoorsuPx3
import Derived.Test.YtlogclmmeikbpaaDoorsuPx4
import Derived.Test.YtlogclmmeikbpaaDoorsuPx5
import Derived.Test.YtlogclmmeikbpaaDoorsuPx6
import Derived.Test.YtlogclmmeikbpaaDoorsuPx7
import Derived.Test.YtlogclmmeikbpaaDoorsuPx10
import Derived.Test.YtlogclmmeikbpaaDoorsuPx12
import Derived.Test.YtlogclmmeikbpaaDoorsuPx13
import Derived.Test.YtlogclmmeikbpaaDoorsuPx15
import Derived.Test.YtlogclmmeikbpaaDoorsuPx16
import Derived.Test.YtlogclmmeikbpaaDoorsuPx17
namespace Go.Proofs.YtlogclmmeikbpaaDoor.P
open Go.RowKit Go.Proofs.YtlogclmmeikbpaaDoor Go.Proofs.YtlogclmmeikbpaaDoor.Given Go.Proofs.YtlogclmmeikbpaaDoorW.PrintWords Go.Proofs.YtlogclmmeikbpaaDoorW.PrintLast Go.Proofs.YtlogclmmeikbpaaDoorW.PrintMore
attribute [local go_sem] max2_int min2_int max_two min_two max_three min_three max_four min_four   -- for this text's walks alone
set_option linter.unusedVariables false
set_option linter.unusedSimpArgs false

/-! ### ancepslaw02_NaturalSums: function 10 -/
def ancepslaw02_NaturalSums.f (k : Nat) (l0_0 : List Int) (l1_0 : List Int) : Option (Bool) := (ancepslaw02_awake.f k).bind fun t857 => (if t857 = true then ((ancepslaw02_few.f k (([(⟨l0_0⟩ : S24), (⟨l1_0⟩ : S24)] : List (S24)))).bind fun t861 => (if t861 = true then ((ancepslaw02_copied.f l0_0).bind fun t863 => ((ancepslaw02_copied.f l1_0).bind fun t866 => ((natural_Add.f k t863 t866).bind fun bt869 => ((ancepsref02_Add.f k l0_0 l1_0).bind fun bt874 => ((ancepslaw02_copied.f l0_0).bind fun t879 => ((ancepslaw02_copied.f l1_0).bind fun t882 => ((natural_Sub.f k t879 t882).bind fun bt885 => ((ancepsref02_Sub.f k l0_0 l1_0).bind fun bt890 => (if bt869.2 = bt874.2 then ((ancepsref02_Same.f k bt869.1 bt874.1).bind fun t895 => (if t895 = true then (if bt885.2 = bt890.2 then ((ancepsref02_Same.f k bt885.1 bt890.1).bind fun t896 => (some t896)) else (none)) else (none))) else (none)))))))))) else ((ancepslaw02_awake.f k).bind fun t862 => (some t862)))) else (none))
theorem ancepslaw02_NaturalSums.mono : ∀ a0 a1 k, LeO (ancepslaw02_NaturalSums.f k a0 a1) (ancepslaw02_NaturalSums.f (k + 1) a0 a1) := by
  intro a0 a1 k
  unfold ancepslaw02_NaturalSums.f
  repeat' first
      | (with_reducible exact ancepslaw02_awake.mono _)
      | (with_reducible exact ancepslaw02_few.mono _ _)
      | (with_reducible exact ancepsref02_Add.mono _ _ _)
      | (with_reducible exact ancepsref02_Same.mono _ _ _)
      | (with_reducible exact ancepsref02_Sub.mono _ _ _)
      | (with_reducible exact natural_Add.mono _ _ _)
      | (with_reducible exact natural_Sub.mono _ _ _)
      | (with_reducible exact LeO.refl _)
      | (with_reducible exact LeO.none _)
      | (with_reducible refine LeO.ite ?_ ?_)
      | (with_reducible refine LeO.bind ?_ (fun _ => ?_))
      | exact ancepslaw02_awake.mono _
      | exact ancepslaw02_few.mono _ _
      | exact ancepsref02_Add.mono _ _ _
      | exact ancepsref02_Same.mono _ _ _
      | exact ancepsref02_Sub.mono _ _ _
      | exact natural_Add.mono _ _ _
      | exact natural_Sub.mono _ _ _
      | exact LeO.none _
      | refine LeO.ite ?_ ?_
      | refine LeO.bind ?_ (fun _ => ?_)
def ancepslaw02_NaturalSums.T3 : Bool × List (List Nat × List Nat) := (true, [([], []), ([0], [0]), ([], []), ([2, 1], [2]), ([1, 3, 3], [1, 3]), ([4], [4]), ([5], [5]), ([5], [5]), ([], []), ([8, 6, 4, 0, 1, 2, 3, 4, 5, 6, 8], [6, 8]), ([7, 9, 0, 1, 2, 3, 4, 5, 6, 7, 8, 9], [7])])
def ancepslaw02_NaturalSums.B3 : List Nat := [0, 1, 0, 7, 15, 31, 63, 63, 0, 383, 1023]
theorem ancepslaw02_NaturalSums.tab3 : rtab .any (opsOf Tryd.f10 3) = ancepslaw02_NaturalSums.T3 := by kernel_rfl
theorem ancepslaw02_NaturalSums.bits3 : waitsOk ancepslaw02_NaturalSums.T3.2 ancepslaw02_NaturalSums.B3 = true := by kernel_rfl
def ancepslaw02_NaturalSums.T5 : Bool × List (List Nat × List Nat) := (true, [([], []), ([0], [0]), ([], []), ([2, 1], [2]), ([1, 3, 3], [1, 3]), ([4], [4]), ([5], [5]), ([5], [5]), ([], []), ([8, 6, 4, 0, 1, 2, 3, 4, 5, 6, 8], [6, 8]), ([7, 9, 0, 1, 2, 3, 4, 5, 6, 7, 8, 9], [7])])
def ancepslaw02_NaturalSums.B5 : List Nat := [0, 1, 0, 7, 15, 31, 63, 63, 0, 383, 1023]
theorem ancepslaw02_NaturalSums.tab5 : rtab .any (opsOf Tryd.f10 5) = ancepslaw02_NaturalSums.T5 := by kernel_rfl
theorem ancepslaw02_NaturalSums.bits5 : waitsOk ancepslaw02_NaturalSums.T5.2 ancepslaw02_NaturalSums.B5 = true := by kernel_rfl
set_option maxHeartbeats 8000000 in
set_option maxRecDepth 100000 in
theorem ancepslaw02_NaturalSums.calls (k : Nat) (P0_0_ : Nat → Prop) (A0_0 : Option Addr) (c0_0 : Nat) (l0_0 : List Int) (P1_0_ : Nat → Prop) (A1_0 : Option Addr) (c1_0 : Nat) (l1_0 : List Int) (r : Bool) (w : World) (hs0_0 : Kd.V (Kd.int .i64) 3 w w.heap.size (fun k_ => P0_0_ k_) (.slice A0_0 l0_0.length c0_0) l0_0) (hs1_0 : Kd.V (Kd.int .i64) 3 w w.heap.size (fun k_ => P1_0_ k_) (.slice A1_0 l1_0.length c1_0) l1_0) (hG : GL w) (h : ancepslaw02_NaturalSums.f k l0_0 l1_0 = some r) :
    Calls Tryd.prog 10 #[.agg #[.slice A0_0 l0_0.length c0_0], .agg #[.slice A1_0 l1_0.length c1_0]] w fun e w' => e = .returned (.bool r) ∧ Below w.heap.size w w' := by
  have hu24 := Tryd.underlying24
  have HO0_0 := Aside0.mk (show Kd.V (Kd.int .i64) 3 w w.heap.size (fun k_ => ((P0_0_ k_ ∨ P1_0_ k_) ∨ w.heap.size ≤ k_)) (.slice A0_0 l0_0.length c0_0) l0_0 from Kd.V_mono hs0_0 (fun k_ hk => .inl (.inl hk)))
  have HO1_0 := Aside0.mk (show Kd.V (Kd.int .i64) 3 w w.heap.size (fun k_ => ((P0_0_ k_ ∨ P1_0_ k_) ∨ w.heap.size ≤ k_)) (.slice A1_0 l1_0.length c1_0) l1_0 from Kd.V_mono hs1_0 (fun k_ hk => .inl (.inr hk)))
  have HB := Aside0.mk (Below.refl w.heap.size w)
  have HG := Aside0.mk hG
  clear hG
  have H : ((ancepslaw02_awake.f k).bind fun t857 => (if t857 = true then ((ancepslaw02_few.f k (([(⟨l0_0⟩ : S24), (⟨l1_0⟩ : S24)] : List (S24)))).bind fun t861 => (if t861 = true then ((ancepslaw02_copied.f l0_0).bind fun t863 => ((ancepslaw02_copied.f l1_0).bind fun t866 => ((natural_Add.f k t863 t866).bind fun bt869 => ((ancepsref02_Add.f k l0_0 l1_0).bind fun bt874 => ((ancepslaw02_copied.f l0_0).bind fun t879 => ((ancepslaw02_copied.f l1_0).bind fun t882 => ((natural_Sub.f k t879 t882).bind fun bt885 => ((ancepsref02_Sub.f k l0_0 l1_0).bind fun bt890 => (if bt869.2 = bt874.2 then ((ancepsref02_Same.f k bt869.1 bt874.1).bind fun t895 => (if t895 = true then (if bt885.2 = bt890.2 then ((ancepsref02_Same.f k bt885.1 bt890.1).bind fun t896 => (some t896)) else (none)) else (none))) else (none)))))))))) else ((ancepslaw02_awake.f k).bind fun t862 => (some t862)))) else (none))) = some r := h
  clear h
  replace H := Option.bind_eq_some_iff.mp H
  obtain ⟨t857, A30, H⟩ := H
  replace H : (if t857 = true then ((ancepslaw02_few.f k (([(⟨l0_0⟩ : S24), (⟨l1_0⟩ : S24)] : List (S24)))).bind fun t861 => (if t861 = true then ((ancepslaw02_copied.f l0_0).bind fun t863 => ((ancepslaw02_copied.f l1_0).bind fun t866 => ((natural_Add.f k t863 t866).bind fun bt869 => ((ancepsref02_Add.f k l0_0 l1_0).bind fun bt874 => ((ancepslaw02_copied.f l0_0).bind fun t879 => ((ancepslaw02_copied.f l1_0).bind fun t882 => ((natural_Sub.f k t879 t882).bind fun bt885 => ((ancepsref02_Sub.f k l0_0 l1_0).bind fun bt890 => (if bt869.2 = bt874.2 then ((ancepsref02_Same.f k bt869.1 bt874.1).bind fun t895 => (if t895 = true then (if bt885.2 = bt890.2 then ((ancepsref02_Same.f k bt885.1 bt890.1).bind fun t896 => (some t896)) else (none)) else (none))) else (none)))))))))) else ((ancepslaw02_awake.f k).bind fun t862 => (some t862)))) else (none)) = some r := H
  have A3 := Aside0.mk A30
  clear A30
  by_cases c4 : t857 = true
  · subst c4
    have H1 : ((ancepslaw02_few.f k (([(⟨l0_0⟩ : S24), (⟨l1_0⟩ : S24)] : List (S24)))).bind fun t861 => (if t861 = true then ((ancepslaw02_copied.f l0_0).bind fun t863 => ((ancepslaw02_copied.f l1_0).bind fun t866 => ((natural_Add.f k t863 t866).bind fun bt869 => ((ancepsref02_Add.f k l0_0 l1_0).bind fun bt874 => ((ancepslaw02_copied.f l0_0).bind fun t879 => ((ancepslaw02_copied.f l1_0).bind fun t882 => ((natural_Sub.f k t879 t882).bind fun bt885 => ((ancepsref02_Sub.f k l0_0 l1_0).bind fun bt890 => (if bt869.2 = bt874.2 then ((ancepsref02_Same.f k bt869.1 bt874.1).bind fun t895 => (if t895 = true then (if bt885.2 = bt890.2 then ((ancepsref02_Same.f k bt885.1 bt890.1).bind fun t896 => (some t896)) else (none)) else (none))) else (none)))))))))) else ((ancepslaw02_awake.f k).bind fun t862 => (some t862)))) = some r := by rw [if_pos rfl] at H; exact H
    clear H
    have H := H1
    clear H1
    obtain ⟨y858, hy858⟩ : ∃ y_ : List (S24), y_ = (([(⟨l0_0⟩ : S24), (⟨l1_0⟩ : S24)] : List (S24))) := ⟨_, rfl⟩
    replace H : ((ancepslaw02_few.f k y858).bind fun t861 => (if t861 = true then ((ancepslaw02_copied.f l0_0).bind fun t863 => ((ancepslaw02_copied.f l1_0).bind fun t866 => ((natural_Add.f k t863 t866).bind fun bt869 => ((ancepsref02_Add.f k l0_0 l1_0).bind fun bt874 => ((ancepslaw02_copied.f l0_0).bind fun t879 => ((ancepslaw02_copied.f l1_0).bind fun t882 => ((natural_Sub.f k t879 t882).bind fun bt885 => ((ancepsref02_Sub.f k l0_0 l1_0).bind fun bt890 => (if bt869.2 = bt874.2 then ((ancepsref02_Same.f k bt869.1 bt874.1).bind fun t895 => (if t895 = true then (if bt885.2 = bt890.2 then ((ancepsref02_Same.f k bt885.1 bt890.1).bind fun t896 => (some t896)) else (none)) else (none))) else (none)))))))))) else ((ancepslaw02_awake.f k).bind fun t862 => (some t862)))) = some r := by first | (rw [hy858]; with_reducible exact H) | (have H2_ := (Option.bind_some _ _).symm.trans H; rw [hy858]; with_reducible exact H2_) | (have H2_ := (Option.bind_some _ _).symm.trans H; with_reducible exact H2_) | with_reducible exact H | (rw [hy858]; exact H) | exact H
    have Ny858 := Aside0.mk hy858
    clear hy858
    replace H := Option.bind_eq_some_iff.mp H
    obtain ⟨t861, A50, H⟩ := H
    replace H : (if t861 = true then ((ancepslaw02_copied.f l0_0).bind fun t863 => ((ancepslaw02_copied.f l1_0).bind fun t866 => ((natural_Add.f k t863 t866).bind fun bt869 => ((ancepsref02_Add.f k l0_0 l1_0).bind fun bt874 => ((ancepslaw02_copied.f l0_0).bind fun t879 => ((ancepslaw02_copied.f l1_0).bind fun t882 => ((natural_Sub.f k t879 t882).bind fun bt885 => ((ancepsref02_Sub.f k l0_0 l1_0).bind fun bt890 => (if bt869.2 = bt874.2 then ((ancepsref02_Same.f k bt869.1 bt874.1).bind fun t895 => (if t895 = true then (if bt885.2 = bt890.2 then ((ancepsref02_Same.f k bt885.1 bt890.1).bind fun t896 => (some t896)) else (none)) else (none))) else (none)))))))))) else ((ancepslaw02_awake.f k).bind fun t862 => (some t862))) = some r := H
    have A5 := Aside0.mk A50
    clear A50
    by_cases c6 : t861 = true
    · subst c6
      have H1 : ((ancepslaw02_copied.f l0_0).bind fun t863 => ((ancepslaw02_copied.f l1_0).bind fun t866 => ((natural_Add.f k t863 t866).bind fun bt869 => ((ancepsref02_Add.f k l0_0 l1_0).bind fun bt874 => ((ancepslaw02_copied.f l0_0).bind fun t879 => ((ancepslaw02_copied.f l1_0).bind fun t882 => ((natural_Sub.f k t879 t882).bind fun bt885 => ((ancepsref02_Sub.f k l0_0 l1_0).bind fun bt890 => (if bt869.2 = bt874.2 then ((ancepsref02_Same.f k bt869.1 bt874.1).bind fun t895 => (if t895 = true then (if bt885.2 = bt890.2 then ((ancepsref02_Same.f k bt885.1 bt890.1).bind fun t896 => (some t896)) else (none)) else (none))) else (none)))))))))) = some r := by rw [if_pos rfl] at H; exact H
      clear H
      have H := H1
      clear H1
      replace H := Option.bind_eq_some_iff.mp H
      obtain ⟨t863, A70, H⟩ := H
      replace H : ((ancepslaw02_copied.f l1_0).bind fun t866 => ((natural_Add.f k t863 t866).bind fun bt869 => ((ancepsref02_Add.f k l0_0 l1_0).bind fun bt874 => ((ancepslaw02_copied.f l0_0).bind fun t879 => ((ancepslaw02_copied.f l1_0).bind fun t882 => ((natural_Sub.f k t879 t882).bind fun bt885 => ((ancepsref02_Sub.f k l0_0 l1_0).bind fun bt890 => (if bt869.2 = bt874.2 then ((ancepsref02_Same.f k bt869.1 bt874.1).bind fun t895 => (if t895 = true then (if bt885.2 = bt890.2 then ((ancepsref02_Same.f k bt885.1 bt890.1).bind fun t896 => (some t896)) else (none)) else (none))) else (none))))))))) = some r := H
      have A7 := Aside0.mk A70
      clear A70
      replace H := Option.bind_eq_some_iff.mp H
      obtain ⟨t866, A80, H⟩ := H
      replace H : ((natural_Add.f k t863 t866).bind fun bt869 => ((ancepsref02_Add.f k l0_0 l1_0).bind fun bt874 => ((ancepslaw02_copied.f l0_0).bind fun t879 => ((ancepslaw02_copied.f l1_0).bind fun t882 => ((natural_Sub.f k t879 t882).bind fun bt885 => ((ancepsref02_Sub.f k l0_0 l1_0).bind fun bt890 => (if bt869.2 = bt874.2 then ((ancepsref02_Same.f k bt869.1 bt874.1).bind fun t895 => (if t895 = true then (if bt885.2 = bt890.2 then ((ancepsref02_Same.f k bt885.1 bt890.1).bind fun t896 => (some t896)) else (none)) else (none))) else (none)))))))) = some r := H
      have A8 := Aside0.mk A80
      clear A80
      replace H := Option.bind_eq_some_iff.mp H
      obtain ⟨⟨t869, t872⟩, A90, H⟩ := H
      replace H : ((ancepsref02_Add.f k l0_0 l1_0).bind fun bt874 => ((ancepslaw02_copied.f l0_0).bind fun t879 => ((ancepslaw02_copied.f l1_0).bind fun t882 => ((natural_Sub.f k t879 t882).bind fun bt885 => ((ancepsref02_Sub.f k l0_0 l1_0).bind fun bt890 => (if t872 = bt874.2 then ((ancepsref02_Same.f k t869 bt874.1).bind fun t895 => (if t895 = true then (if bt885.2 = bt890.2 then ((ancepsref02_Same.f k bt885.1 bt890.1).bind fun t896 => (some t896)) else (none)) else (none))) else (none))))))) = some r := H
      have A9 := Aside0.mk A90
      clear A90
      replace H := Option.bind_eq_some_iff.mp H
      obtain ⟨⟨t874, t877⟩, A100, H⟩ := H
      replace H : ((ancepslaw02_copied.f l0_0).bind fun t879 => ((ancepslaw02_copied.f l1_0).bind fun t882 => ((natural_Sub.f k t879 t882).bind fun bt885 => ((ancepsref02_Sub.f k l0_0 l1_0).bind fun bt890 => (if t872 = t877 then ((ancepsref02_Same.f k t869 t874).bind fun t895 => (if t895 = true then (if bt885.2 = bt890.2 then ((ancepsref02_Same.f k bt885.1 bt890.1).bind fun t896 => (some t896)) else (none)) else (none))) else (none)))))) = some r := H
      have A10 := Aside0.mk A100
      clear A100
      replace H := Option.bind_eq_some_iff.mp H
      obtain ⟨t879, A110, H⟩ := H
      replace H : ((ancepslaw02_copied.f l1_0).bind fun t882 => ((natural_Sub.f k t879 t882).bind fun bt885 => ((ancepsref02_Sub.f k l0_0 l1_0).bind fun bt890 => (if t872 = t877 then ((ancepsref02_Same.f k t869 t874).bind fun t895 => (if t895 = true then (if bt885.2 = bt890.2 then ((ancepsref02_Same.f k bt885.1 bt890.1).bind fun t896 => (some t896)) else (none)) else (none))) else (none))))) = some r := H
      have A11 := Aside0.mk A110
      clear A110
      replace H := Option.bind_eq_some_iff.mp H
      obtain ⟨t882, A120, H⟩ := H
      replace H : ((natural_Sub.f k t879 t882).bind fun bt885 => ((ancepsref02_Sub.f k l0_0 l1_0).bind fun bt890 => (if t872 = t877 then ((ancepsref02_Same.f k t869 t874).bind fun t895 => (if t895 = true then (if bt885.2 = bt890.2 then ((ancepsref02_Same.f k bt885.1 bt890.1).bind fun t896 => (some t896)) else (none)) else (none))) else (none)))) = some r := H
      have A12 := Aside0.mk A120
      clear A120
      replace H := Option.bind_eq_some_iff.mp H
      obtain ⟨⟨t885, t888⟩, A130, H⟩ := H
      replace H : ((ancepsref02_Sub.f k l0_0 l1_0).bind fun bt890 => (if t872 = t877 then ((ancepsref02_Same.f k t869 t874).bind fun t895 => (if t895 = true then (if t888 = bt890.2 then ((ancepsref02_Same.f k t885 bt890.1).bind fun t896 => (some t896)) else (none)) else (none))) else (none))) = some r := H
      have A13 := Aside0.mk A130
      clear A130
      replace H := Option.bind_eq_some_iff.mp H
      obtain ⟨⟨t890, t893⟩, A140, H⟩ := H
      replace H : (if t872 = t877 then ((ancepsref02_Same.f k t869 t874).bind fun t895 => (if t895 = true then (if t888 = t893 then ((ancepsref02_Same.f k t885 t890).bind fun t896 => (some t896)) else (none)) else (none))) else (none)) = some r := H
      have A14 := Aside0.mk A140
      clear A140
      by_cases c15 : t872 = t877
      · rw [if_pos c15] at H
        have c15b0 : (t872 == t877) = true := beq_iff_eq.mpr c15
        have c15b1 : (t872 != t877) = false := bne_eq_false_iff_eq.mpr c15
        clear c15
        replace H := Option.bind_eq_some_iff.mp H
        obtain ⟨t895, A160, H⟩ := H
        replace H : (if t895 = true then (if t888 = t893 then ((ancepsref02_Same.f k t885 t890).bind fun t896 => (some t896)) else (none)) else (none)) = some r := H
        have A16 := Aside0.mk A160
        clear A160
        by_cases c17 : t895 = true
        · subst c17
          have H1 : (if t888 = t893 then ((ancepsref02_Same.f k t885 t890).bind fun t896 => (some t896)) else (none)) = some r := by rw [if_pos rfl] at H; exact H
          clear H
          have H := H1
          clear H1
          by_cases c18 : t888 = t893
          · rw [if_pos c18] at H
            have c18b0 : (t888 == t893) = true := beq_iff_eq.mpr c18
            have c18b1 : (t888 != t893) = false := bne_eq_false_iff_eq.mpr c18
            clear c18
            replace H := Option.bind_eq_some_iff.mp H
            obtain ⟨t896, A190, H⟩ := H
            replace H : (some t896) = some r := H
            have A19 := Aside0.mk A190
            clear A190
            obtain rfl := Option.some.inj H
            go_enter Tryd.func10, Tryd.ntmps10
            try go_wp2_with (first | ((with_reducible refine gate_dst (N := 2) rfl ?_); (try (refine gate_guard (by rfl) ?_; dsimp only)); refine box_event ?hg (N := 2) ?hd (cs := #[.slice A0_0 l0_0.length c0_0]) (t := 24) ?hr ?_; (case hd => rfl); (case hg => rfl); (case hr => first | (go_simp; done) | (go_simp; rfl)); intro gb855 hg w20 hbox hb; have n0_ := Aside0.mk (Kd.V_below (Kd.V_elderB (qv HO0_0.out) gb855 (Nat.le_of_eq hg.symm)) hb); have n1_ := Aside0.mk (Kd.V_below (Kd.V_elderB (qv HO1_0.out) gb855 (Nat.le_of_eq hg.symm)) hb); have n2_ := Aside0.mk (below_step (gx [] trivial HB.out) hb); have n3_ := Aside0.mk (hbox); have n4_ := Aside0.mk ((by rw [hg]; exact (below_size (gx [] trivial HB.out)) : w.heap.size ≤ gb855)); have n5_ := Aside0.mk ((by rw [hg]; exact (below_size (gx [] trivial HB.out)) : w.heap.size ≤ gb855)); clear HO0_0; clear HO1_0; clear HB; have HO0_0 := n0_; have HO1_0 := n1_; have HB := n2_; have BK855 := n3_; have GW855 := n4_; have GE855 := n5_; clear n0_ n1_ n2_ n3_ n4_ n5_; clear hb hbox hg) | ((with_reducible refine gate_dst (N := 3) rfl ?_); (try (refine gate_guard (by rfl) ?_; dsimp only)); refine box_event ?hg (N := 3) ?hd (cs := #[.slice A1_0 l1_0.length c1_0]) (t := 24) ?hr ?_; (case hd => rfl); (case hg => rfl); (case hr => first | (go_simp; done) | (go_simp; rfl)); intro gb856 hg w21 hbox hb; have n0_ := Aside0.mk (Kd.V_below (Kd.V_elderB (qv HO0_0.out) gb856 (Nat.le_of_eq hg.symm)) hb); have n1_ := Aside0.mk (Kd.V_below (Kd.V_elderB (qv HO1_0.out) gb856 (Nat.le_of_eq hg.symm)) hb); have n2_ := Aside0.mk (blk_below (g := gb855) (o := .cells #[.slice A0_0 l0_0.length c0_0] 24 (0, 0)) (qb BK855.out) hb); have n3_ := Aside0.mk (below_step (gx [gb855] ⟨GE855.out, trivial⟩ HB.out) hb); have n4_ := Aside0.mk (hbox); have n5_ := Aside0.mk ((by rw [hg]; exact (below_size (gx [gb855] ⟨GE855.out, trivial⟩ HB.out)) : w.heap.size ≤ gb856)); have n6_ := Aside0.mk ((by rw [hg]; exact (below_size (gx [gb855] ⟨GE855.out, trivial⟩ HB.out)) : w.heap.size ≤ gb856)); have n7_ := Aside0.mk ((by rw [hg]; exact Nat.ne_of_lt (blk_lt (g := gb855) (o := .cells #[.slice A0_0 l0_0.length c0_0] 24 (0, 0)) (qb BK855.out)) : gb855 ≠ gb856)); have n8_ := Aside0.mk ((by rw [hg]; exact Nat.ne_of_gt (blk_lt (g := gb855) (o := .cells #[.slice A0_0 l0_0.length c0_0] 24 (0, 0)) (qb BK855.out)) : gb856 ≠ gb855)); clear HO0_0; clear HO1_0; clear BK855; clear HB; have HO0_0 := n0_; have HO1_0 := n1_; have BK855 := n2_; have HB := n3_; have BK856 := n4_; have GW856 := n5_; have GE856 := n6_; have NB855_856 := n7_; have NB856_855 := n8_; clear n0_ n1_ n2_ n3_ n4_ n5_ n6_ n7_ n8_; clear hb hbox hg) | ((with_reducible refine gate_callee (f := 12) rfl ?_); refine goesL_ (some 13) rfl rfl Tryd.func12 (by kernel_rfl) rfl #[] rfl (by (try simp only [List.map_toArray, List.map_cons, List.map_nil]); first | done | rfl | (simp only [List.length_drop, List.length_take]; rfl)) ?_; (with_reducible refine (ancepslaw02_awake.calls k  true _ ?side1 A3.out).mono ?_); (case side1 => exact GL.below HG.out (gx [gb855, gb856] ⟨GE855.out, GE856.out, trivial⟩ HB.out)); rintro e w22 ⟨rfl, hb⟩; refine ⟨_, rfl, ?_⟩; have n0_ := Aside0.mk (Kd.V_below (qv HO0_0.out) hb); have n1_ := Aside0.mk (Kd.V_below (qv HO1_0.out) hb); have n2_ := Aside0.mk (blk_below (g := gb855) (o := .cells #[.slice A0_0 l0_0.length c0_0] 24 (0, 0)) (qb BK855.out) hb); have n3_ := Aside0.mk (blk_below (g := gb856) (o := .cells #[.slice A1_0 l1_0.length c1_0] 24 (0, 0)) (qb BK856.out) hb); have n4_ := Aside0.mk (below_step (gx [gb855, gb856] ⟨GE855.out, GE856.out, trivial⟩ HB.out) hb); clear HO0_0; clear HO1_0; clear BK855; clear BK856; clear HB; have HO0_0 := n0_; have HO1_0 := n1_; have BK855 := n2_; have BK856 := n3_; have HB := n4_; clear n0_ n1_ n2_ n3_ n4_; (try clear hb); (try clear hb2); (try clear hk); (try clear hi); have hnb23 := NB855_856.out; have hnc23 := NB856_855.out; have hcz24_0 : w22.cell? ⟨gb855, 0, none⟩ = some (.slice A0_0 l0_0.length c0_0) := (blk_cell BK855.out 0).trans rfl; have hfz24_0 := blk_frozen BK855.out 0; have hcz25_0 : w22.cell? ⟨gb856, 0, none⟩ = some (.slice A1_0 l1_0.length c1_0) := (blk_cell BK856.out 0).trans rfl; have hfz25_0 := blk_frozen BK856.out 0) | ((with_reducible refine gate_dst (N := 18) rfl ?_); (try (refine gate_guard (by rfl) ?_; dsimp only)); refine Kd.N_lit k24 _ 24 ?hg (N' := 18) ?hd (xs := ([(⟨l0_0⟩ : S24), (⟨l1_0⟩ : S24)] : List (S24))) (inner := [.slice A0_0 l0_0.length c0_0, .slice A1_0 l1_0.length c1_0]) (ok := (fun k_ => ((P0_0_ k_ ∨ P1_0_ k_) ∨ w.heap.size ≤ k_) ∧ k_ ≠ gb855 ∧ k_ ≠ gb856)) (okp := (fun k_ => ((P0_0_ k_ ∨ P1_0_ k_) ∨ w.heap.size ≤ k_) ∧ k_ ≠ gb855 ∧ k_ ≠ gb856)) ?hr ?hp (fun _ hk => hk) ((show ∀ k_, w22.heap.size ≤ k_ → (fun k_ => ((P0_0_ k_ ∨ P1_0_ k_) ∨ w.heap.size ≤ k_) ∧ k_ ≠ gb855 ∧ k_ ≠ gb856) k_ from fun k_ hk => ⟨(.inr (Nat.le_trans (below_size (gx [gb855, gb856] ⟨GE855.out, GE856.out, trivial⟩ HB.out)) hk)), Kd.freshB (g := gb855) (o := .cells #[.slice A0_0 l0_0.length c0_0] 24 (0, 0)) (qb BK855.out) k_ hk, Kd.freshB (g := gb856) (o := .cells #[.slice A1_0 l1_0.length c1_0] 24 (0, 0)) (qb BK856.out) k_ hk⟩) _ (Nat.le_refl _)) (Below.refl _ _) (Nat.le_refl _) (by simp) ?_; (case hd => rfl); (case hg => rfl); (case hr => first | (go_simp; done) | (go_simp; rfl)); (case hp => exact (Reps.one (show Kd.FK k24 _ _ (⟨l0_0⟩ : S24) [.slice A0_0 l0_0.length c0_0] from (k24_mkF _ _ (⟨l0_0⟩ : S24) (Kd.V_reads' (Kd.V_mono (ok' := (fun k_ => ((P0_0_ k_ ∨ P1_0_ k_) ∨ w.heap.size ≤ k_) ∧ k_ ≠ gb855 ∧ k_ ≠ gb856)) (HO0_0.out) (fun k_ hk => by first | exact ⟨hk.1.1, ⟨hk.1.2, hk.2⟩⟩ | grind))).2.1 (Kd.V_F (Kd.V_mono (ok' := (fun k_ => ((P0_0_ k_ ∨ P1_0_ k_) ∨ w.heap.size ≤ k_) ∧ k_ ≠ gb855 ∧ k_ ≠ gb856)) (HO0_0.out) (fun k_ hk => by first | exact ⟨hk.1.1, ⟨hk.1.2, hk.2⟩⟩ | grind))))) (Reps.one (show Kd.FK k24 _ _ (⟨l1_0⟩ : S24) [.slice A1_0 l1_0.length c1_0] from (k24_mkF _ _ (⟨l1_0⟩ : S24) (Kd.V_reads' (Kd.V_mono (ok' := (fun k_ => ((P0_0_ k_ ∨ P1_0_ k_) ∨ w.heap.size ≤ k_) ∧ k_ ≠ gb855 ∧ k_ ≠ gb856)) (HO1_0.out) (fun k_ hk => by first | exact ⟨hk.1.1, ⟨hk.1.2, hk.2⟩⟩ | grind))).2.1 (Kd.V_F (Kd.V_mono (ok' := (fun k_ => ((P0_0_ k_ ∨ P1_0_ k_) ∨ w.heap.size ≤ k_) ∧ k_ ≠ gb855 ∧ k_ ≠ gb856)) (HO1_0.out) (fun k_ hk => by first | exact ⟨hk.1.1, ⟨hk.1.2, hk.2⟩⟩ | grind))))) (Reps.none _ _)))); intro v859 w26 ho27 hb hg_ hnew_; clear hg_ hnew_; (first | rw [← Ny858.out] at ho27 | (simp only [Int.reduceToNat] at ho27; rw [← Ny858.out] at ho27)); have n0_ := Aside0.mk (Kd.V_elder' (qv HO0_0.out) (Kd.N_base ho27) hb); have n1_ := Aside0.mk (Kd.V_elder' (qv HO1_0.out) (Kd.N_base ho27) hb); have n2_ := Aside0.mk (Kd.N_lower ho27 (below_size (gx [gb855, gb856] ⟨GE855.out, GE856.out, trivial⟩ HB.out))); have n3_ := Aside0.mk (blk_below (g := gb855) (o := .cells #[.slice A0_0 l0_0.length c0_0] 24 (0, 0)) (qb BK855.out) hb); have n4_ := Aside0.mk (blk_below (g := gb856) (o := .cells #[.slice A1_0 l1_0.length c1_0] 24 (0, 0)) (qb BK856.out) hb); have n5_ := Aside0.mk (below_step (gx [gb855, gb856] ⟨GE855.out, GE856.out, trivial⟩ HB.out) hb); clear HO0_0; clear HO1_0; clear BK855; clear BK856; clear HB; have HO0_0 := n0_; have HO1_0 := n1_; have HO860 := n2_; have BK855 := n3_; have BK856 := n4_; have HB := n5_; clear n0_ n1_ n2_ n3_ n4_ n5_; clear hb ho27; obtain ⟨Ao28, co28, eo28⟩ := Kd.N_slice HO860.out; subst eo28) | (go_at_call 13; (with_reducible refine (ancepslaw02_few.calls k _ _ y858 true _ ?side1 ?side2 A5.out).mono ?_); (case side1 => repeat (first | exact (Kd.N_reads' HO860.out).2.2 | (with_reducible refine Kd.C_alloc ?_ _) | (with_reducible refine Kd.C_drewN ?_ _) | (with_reducible refine Kd.C_drew ?_))); (case side2 => exact (Kd.N_reads' HO860.out).2.1); rintro e w' ⟨rfl, ⟨nd, rfl⟩⟩; (try (rw [drewN_self w26]; generalize hq_ : World.drewN w26 _ = w26; have n0_ : Aside0 (Kd.V (Kd.int .i64) 3 w26 w.heap.size (fun k_ => ((P0_0_ k_ ∨ P1_0_ k_) ∨ w.heap.size ≤ k_) ∧ some k_ ≠ (.slice Ao28 y858.length co28 : Value).ownBlock ∧ k_ ≠ gb855 ∧ k_ ≠ gb856) (.slice A0_0 l0_0.length c0_0) l0_0) := ⟨by rw [← hq_]; exact (by (with_reducible repeat (first | apply Kd.V_alloc | apply Kd.V_drewN | apply Kd.V_drew)); exact Kd.V_mono HO0_0.out (fun _ hk => by first | exact ⟨hk.1.1.1, ⟨hk.2, ⟨hk.1.1.2, hk.1.2⟩⟩⟩ | grind))⟩; have n1_ : Aside0 (Kd.V (Kd.int .i64) 3 w26 w.heap.size (fun k_ => ((P0_0_ k_ ∨ P1_0_ k_) ∨ w.heap.size ≤ k_) ∧ some k_ ≠ (.slice Ao28 y858.length co28 : Value).ownBlock ∧ k_ ≠ gb855 ∧ k_ ≠ gb856) (.slice A1_0 l1_0.length c1_0) l1_0) := ⟨by rw [← hq_]; exact (by (with_reducible repeat (first | apply Kd.V_alloc | apply Kd.V_drewN | apply Kd.V_drew)); exact Kd.V_mono HO1_0.out (fun _ hk => by first | exact ⟨hk.1.1.1, ⟨hk.2, ⟨hk.1.1.2, hk.1.2⟩⟩⟩ | grind))⟩; have n2_ : Aside0 (Kd.N k24 24 w26 w.heap.size (fun k_ => ((P0_0_ k_ ∨ P1_0_ k_) ∨ w.heap.size ≤ k_) ∧ k_ ≠ gb855 ∧ k_ ≠ gb856) (.slice Ao28 y858.length co28) y858) := ⟨by rw [← hq_]; exact (qn HO860.out)⟩; have n3_ : Aside0 (w26.heap[gb855]? = some (.cells #[.slice A0_0 l0_0.length c0_0] 24 (0, 0))) := ⟨by rw [← hq_]; exact (qb BK855.out)⟩; have n4_ : Aside0 (w26.heap[gb856]? = some (.cells #[.slice A1_0 l1_0.length c1_0] 24 (0, 0))) := ⟨by rw [← hq_]; exact (qb BK856.out)⟩; have n5_ : Aside0 (Below w.heap.size w w26) := ⟨by rw [← hq_]; exact (gx [gb855, gb856] ⟨GE855.out, GE856.out, trivial⟩ HB.out)⟩; clear HO0_0 HO1_0 HO860 BK855 BK856 HB hq_; have HO0_0 := n0_; have HO1_0 := n1_; have HO860 := n2_; have BK855 := n3_; have BK856 := n4_; have HB := n5_; clear n0_ n1_ n2_ n3_ n4_ n5_))))
            have n0_ := Aside0.mk (Kd.V_drew HO0_0.out)
            have n1_ := Aside0.mk (Kd.V_drew HO1_0.out)
            have n2_ := Aside0.mk (Kd.N_drew HO860.out)
            have n3_ := Aside0.mk (blk_drew BK855.out)
            have n4_ := Aside0.mk (blk_drew BK856.out)
            have n5_ := Aside0.mk (below_drew1 HB.out)
            clear HO0_0
            clear HO1_0
            clear HO860
            clear BK855
            clear BK856
            clear HB
            have HO0_0 := n0_
            have HO1_0 := n1_
            have HO860 := n2_
            have BK855 := n3_
            have BK856 := n4_
            have HB := n5_
            clear n0_ n1_ n2_ n3_ n4_ n5_
            refine start_ (n := 11) (S := fun w' => w'.cell? ⟨gb855, 0, none⟩ = some (.slice A0_0 l0_0.length c0_0) ∧ w'.cell? ⟨gb856, 0, none⟩ = some (.slice A1_0 l1_0.length c1_0)) (ds := []) #[false, false, false, false, false, false, false, false, false, false, false] (by kernel_rfl) rfl rfl ⟨(blk_cell BK855.out 0).trans rfl, (blk_cell BK856.out 0).trans rfl⟩ (fun hHeld => ?_); refine with_tabW ancepslaw02_NaturalSums.tab3 ancepslaw02_NaturalSums.bits3 (fun HT_ HW_ => ?_)
            generalize w26.drew = w29 at HO0_0 HO1_0 HO860 BK855 BK856 HB hHeld ⊢
            refine take_ (i := 0) (N := some 24) (v := ?_) (a' := ?_) #[true, false, false, false, false, false, false, false, false, false, false] rfl rfl (take_ofW HT_.out HW_.out (by kernel_rfl)) (fun _ _ _ h => h) (Or.inl ⟨by rfl, ?_⟩) hHeld ?_ ?_
            rotate_left
            · rintro w' ⟨s0, s1⟩
              go_simp
              with_reducible rfl
            rotate_left
            · simp only [Act.put, List.setIfInBounds_toArray, List.set_cons_zero, List.set_cons_succ, i64_w, i32_w]
              rfl
            refine take_ (i := 2) (N := some 26) (v := ?_) (a' := ?_) #[true, false, true, false, false, false, false, false, false, false, false] rfl rfl (take_ofW HT_.out HW_.out (by kernel_rfl)) (fun _ _ _ h => h) (Or.inl ⟨by rfl, ?_⟩) hHeld ?_ ?_
            rotate_left
            · rintro w' ⟨s0, s1⟩
              go_simp
              with_reducible rfl
            rotate_left
            · simp only [Act.put, List.setIfInBounds_toArray, List.set_cons_zero, List.set_cons_succ, i64_w, i32_w]
              rfl
            refine join_ (σ := Value × Value × Value × Nat) 2 #[true, true, true, true, true, true, true, true, true, false, false] (fun s_ => [(25, .agg #[s_.1]), (27, .agg #[s_.2.1]), (28, .tuple #[.agg #[s_.2.2.1], .int .i64 t872]), (5, .pointer (some ⟨s_.2.2.2, 0, none⟩)), (23, .tuple #[.agg #[s_.2.2.1], .int .i64 t872]), (29, .agg #[s_.2.2.1]), (30, .int .i64 t872)]) (fun s_ w' => (w'.cell? ⟨gb855, 0, none⟩ = some (.slice A0_0 l0_0.length c0_0) ∧ w'.cell? ⟨gb856, 0, none⟩ = some (.slice A1_0 l1_0.length c1_0)) ∧ (Kd.V (Kd.int .i64) 3 w' w.heap.size (fun k_ => ((P0_0_ k_ ∨ P1_0_ k_) ∨ w.heap.size ≤ k_) ∧ some k_ ≠ (.slice Ao28 y858.length co28 : Value).ownBlock ∧ some k_ ≠ (s_.1 : Value).ownBlock ∧ some k_ ≠ (s_.2.1 : Value).ownBlock ∧ k_ ≠ gb855 ∧ k_ ≠ gb856 ∧ k_ ≠ s_.2.2.2) (.slice A0_0 l0_0.length c0_0) l0_0) ∧ (Kd.V (Kd.int .i64) 3 w' w.heap.size (fun k_ => ((P0_0_ k_ ∨ P1_0_ k_) ∨ w.heap.size ≤ k_) ∧ some k_ ≠ (.slice Ao28 y858.length co28 : Value).ownBlock ∧ some k_ ≠ (s_.1 : Value).ownBlock ∧ some k_ ≠ (s_.2.1 : Value).ownBlock ∧ k_ ≠ gb855 ∧ k_ ≠ gb856 ∧ k_ ≠ s_.2.2.2) (.slice A1_0 l1_0.length c1_0) l1_0) ∧ (Kd.N k24 24 w' w.heap.size (fun k_ => ((P0_0_ k_ ∨ P1_0_ k_) ∨ w.heap.size ≤ k_) ∧ some k_ ≠ (s_.1 : Value).ownBlock ∧ some k_ ≠ (s_.2.1 : Value).ownBlock ∧ k_ ≠ gb855 ∧ k_ ≠ gb856 ∧ k_ ≠ s_.2.2.2) (.slice Ao28 y858.length co28) y858) ∧ (Kd.R (Kd.int .i64) 3 w' w.heap.size (fun k_ => (w.heap.size ≤ k_) ∧ some k_ ≠ (s_.2.1 : Value).ownBlock) s_.1 t863) ∧ (Kd.R (Kd.int .i64) 3 w' w.heap.size (fun k_ => (w.heap.size ≤ k_) ∧ some k_ ≠ (s_.1 : Value).ownBlock) s_.2.1 t866) ∧ (Kd.V (Kd.int .i64) 3 w' w.heap.size (fun k_ => ((P0_0_ k_ ∨ P1_0_ k_) ∨ w.heap.size ≤ k_) ∧ some k_ ≠ (.slice Ao28 y858.length co28 : Value).ownBlock ∧ some k_ ≠ (s_.1 : Value).ownBlock ∧ some k_ ≠ (s_.2.1 : Value).ownBlock ∧ k_ ≠ gb855 ∧ k_ ≠ gb856 ∧ k_ ≠ s_.2.2.2) s_.2.2.1 t869) ∧ (w'.heap[gb855]? = some (.cells #[.slice A0_0 l0_0.length c0_0] 24 (0, 0))) ∧ (w'.heap[gb856]? = some (.cells #[.slice A1_0 l1_0.length c1_0] 24 (0, 0))) ∧ (w'.heap[s_.2.2.2]? = some (.cells #[.slice none 0 0] 24 (0, 0))) ∧ (w.heap.size ≤ s_.2.2.2) ∧ (w.heap.size ≤ s_.2.2.2) ∧ (gb855 ≠ s_.2.2.2) ∧ (s_.2.2.2 ≠ gb855) ∧ (gb856 ≠ s_.2.2.2) ∧ (s_.2.2.2 ≠ gb856) ∧ (Below w.heap.size w w')) ?_ ?_
            rotate_left
            · intro hCont
              refine two_ (i := 1) (j := 8) (Ni := some 25) (Nj := some 5) #[true, true, true, false, false, false, false, false, false, false, false] #[true, false, true, false, false, false, false, false, true, false, false] rfl rfl rfl rfl (two_of HT_.out (by kernel_rfl)) (by decide) (by decide) (fun K hK => ?_) (fun K hK => ?_)
              · skip
                refine goes_ Tryd.func15 (by kernel_rfl) rfl #[.agg #[.slice A0_0 l0_0.length c0_0]] (by rfl) rfl rfl (by (try simp only [List.map_toArray, List.map_cons, List.map_nil]); first | done | rfl | (simp only [List.length_drop, List.length_take]; rfl)) ?_
                with_reducible refine (ancepslaw02_copied.calls _ _ l0_0 t863 _ ?side1 ?side2 A7.out).mono ?_
                (case side1 => repeat (first | exact (Kd.V_reads' HO0_0.out).2.2 | (with_reducible refine Kd.C_alloc ?_ _) | (with_reducible refine Kd.C_drewN ?_ _) | (with_reducible refine Kd.C_drew ?_)))
                (case side2 => exact (Kd.V_reads' HO0_0.out).2.1)
                rintro e w30 ⟨v864, rfl, ho0, hb⟩
                refine ⟨_, rfl, ?_⟩
                have n0_ := Aside0.mk (Kd.V_elder' (qv HO0_0.out) (Kd.R_base ho0) hb)
                have n1_ := Aside0.mk (Kd.V_elder' (qv HO1_0.out) (Kd.R_base ho0) hb)
                have n2_ := Aside0.mk (Kd.N_elder' (qn HO860.out) (Kd.R_base ho0) hb)
                have n3_ := Aside0.mk (Kd.R_lower (Kd.R_newM (M := fun k_ => (w.heap.size ≤ k_)) ho0 (below_size (gx [gb855, gb856] ⟨GE855.out, GE856.out, trivial⟩ HB.out)) (fun k_ h_ => h_)) (below_size (gx [gb855, gb856] ⟨GE855.out, GE856.out, trivial⟩ HB.out)))
                have n4_ := Aside0.mk (blk_below (g := gb855) (o := .cells #[.slice A0_0 l0_0.length c0_0] 24 (0, 0)) (qb BK855.out) hb)
                have n5_ := Aside0.mk (blk_below (g := gb856) (o := .cells #[.slice A1_0 l1_0.length c1_0] 24 (0, 0)) (qb BK856.out) hb)
                have n6_ := Aside0.mk (below_step (gx [gb855, gb856] ⟨GE855.out, GE856.out, trivial⟩ HB.out) hb)
                clear HO0_0
                clear HO1_0
                clear HO860
                clear BK855
                clear BK856
                clear HB
                have HO0_0 := n0_
                have HO1_0 := n1_
                have HO860 := n2_
                have HO865 := n3_
                have BK855 := n4_
                have BK856 := n5_
                have HB := n6_
                clear n0_ n1_ n2_ n3_ n4_ n5_ n6_
                (try clear hb)
                (try clear hb2)
                (try clear hk)
                (try clear hi)
                (try clear ho0)
                refine hK.out _ _ ⟨(blk_cell BK855.out 0).trans rfl, (blk_cell BK856.out 0).trans rfl⟩ (fun hHeld => ?_)
                clear hK K
                refine norm_ (a' := ?_) ?_ ?_
                rotate_left
                · show Act.put _ (some 25) _ = _
                  simp only [Act.put, List.setIfInBounds_toArray, List.set_cons_zero, List.set_cons_succ, i64_w, i32_w]
                  rfl
                refine two_ (i := 3) (j := 8) (Ni := some 27) (Nj := some 5) #[true, true, true, true, false, false, false, false, false, false, false] #[true, true, true, false, false, false, false, false, true, false, false] rfl rfl rfl rfl (two_of HT_.out (by kernel_rfl)) (by decide) (by decide) (fun K hK => ?_) (fun K hK => ?_)
                · skip
                  refine goes_ Tryd.func15 (by kernel_rfl) rfl #[.agg #[.slice A1_0 l1_0.length c1_0]] (by rfl) rfl rfl (by (try simp only [List.map_toArray, List.map_cons, List.map_nil]); first | done | rfl | (simp only [List.length_drop, List.length_take]; rfl)) ?_
                  with_reducible refine (ancepslaw02_copied.calls _ _ l1_0 t866 _ ?side1 ?side2 A8.out).mono ?_
                  (case side1 => repeat (first | exact (Kd.V_reads' HO1_0.out).2.2 | (with_reducible refine Kd.C_alloc ?_ _) | (with_reducible refine Kd.C_drewN ?_ _) | (with_reducible refine Kd.C_drew ?_)))
                  (case side2 => exact (Kd.V_reads' HO1_0.out).2.1)
                  rintro e w31 ⟨v867, rfl, ho0, hb⟩
                  refine ⟨_, rfl, ?_⟩
                  have n0_ := Aside0.mk (Kd.V_elder' (qv HO0_0.out) (Kd.R_base ho0) hb)
                  have n1_ := Aside0.mk (Kd.V_elder' (qv HO1_0.out) (Kd.R_base ho0) hb)
                  have n2_ := Aside0.mk (Kd.N_elder' (qn HO860.out) (Kd.R_base ho0) hb)
                  have n3_ := Aside0.mk (Kd.R_elder' (qr HO865.out) (Kd.R_base ho0) hb)
                  have n4_ := Aside0.mk (Kd.R_lower (Kd.R_new' (Kd.R_newM (M := fun k_ => (w.heap.size ≤ k_)) ho0 (below_size (gx [gb855, gb856] ⟨GE855.out, GE856.out, trivial⟩ HB.out)) (fun k_ h_ => h_)) (Kd.R_lt (qr HO865.out))) (below_size (gx [gb855, gb856] ⟨GE855.out, GE856.out, trivial⟩ HB.out)))
                  have n5_ := Aside0.mk (blk_below (g := gb855) (o := .cells #[.slice A0_0 l0_0.length c0_0] 24 (0, 0)) (qb BK855.out) hb)
                  have n6_ := Aside0.mk (blk_below (g := gb856) (o := .cells #[.slice A1_0 l1_0.length c1_0] 24 (0, 0)) (qb BK856.out) hb)
                  have n7_ := Aside0.mk (below_step (gx [gb855, gb856] ⟨GE855.out, GE856.out, trivial⟩ HB.out) hb)
                  clear HO0_0
                  clear HO1_0
                  clear HO860
                  clear HO865
                  clear BK855
                  clear BK856
                  clear HB
                  have HO0_0 := n0_
                  have HO1_0 := n1_
                  have HO860 := n2_
                  have HO865 := n3_
                  have HO868 := n4_
                  have BK855 := n5_
                  have BK856 := n6_
                  have HB := n7_
                  clear n0_ n1_ n2_ n3_ n4_ n5_ n6_ n7_
                  (try clear hb)
                  (try clear hb2)
                  (try clear hk)
                  (try clear hi)
                  (try clear ho0)
                  obtain ⟨Ao32, co32, eo32⟩ := Kd.R_slice HO865.out
                  (first | subst eo32 | (injection eo32 with f1_ f2_ f3_; have f4_ := f1_.symm; have f5_ := f3_.symm; clear f1_ f2_ f3_; subst f4_; subst f5_))
                  obtain ⟨Ao33, co33, eo33⟩ := Kd.R_slice HO868.out
                  (first | subst eo33 | (injection eo33 with f1_ f2_ f3_; have f4_ := f1_.symm; have f5_ := f3_.symm; clear f1_ f2_ f3_; subst f4_; subst f5_))
                  refine hK.out _ _ ⟨(blk_cell BK855.out 0).trans rfl, (blk_cell BK856.out 0).trans rfl⟩ (fun hHeld => ?_)
                  clear hK K
                  refine norm_ (a' := ?_) ?_ ?_
                  rotate_left
                  · show Act.put _ (some 27) _ = _
                    simp only [Act.put, List.setIfInBounds_toArray, List.set_cons_zero, List.set_cons_succ, i64_w, i32_w]
                    rfl
                  refine two_ (i := 4) (j := 8) (Ni := some 28) (Nj := some 5) #[true, true, true, true, true, false, false, false, false, false, false] #[true, true, true, true, false, false, false, false, true, false, false] rfl rfl rfl rfl (two_of HT_.out (by kernel_rfl)) (by decide) (by decide) (fun K hK => ?_) (fun K hK => ?_)
                  · skip
                    refine goes_ Tryd.func35 (by kernel_rfl) rfl #[.agg #[.slice Ao32 t863.length co32], .agg #[.slice Ao33 t866.length co33]] (by rfl) rfl rfl (by (try simp only [List.map_toArray, List.map_cons, List.map_nil]); first | done | rfl | (simp only [List.length_drop, List.length_take]; rfl)) ?_
                    with_reducible refine (natural_Add.calls k _ _ t863 _ _ t866 t869 t872 _ ?side1 ?side2 ?side3 ?side4 A9.out).mono ?_
                    (case side1 => repeat (first | exact (Kd.R_reads' HO865.out).2.2 | (with_reducible refine Kd.C_alloc ?_ _) | (with_reducible refine Kd.C_drewN ?_ _) | (with_reducible refine Kd.C_drew ?_)))
                    (case side2 => exact (Kd.R_reads' HO865.out).2.1)
                    (case side3 => repeat (first | exact (Kd.R_reads' HO868.out).2.2 | (with_reducible refine Kd.C_alloc ?_ _) | (with_reducible refine Kd.C_drewN ?_ _) | (with_reducible refine Kd.C_drew ?_)))
                    (case side4 => exact (Kd.R_reads' HO868.out).2.1)
                    rintro e w34 ⟨v870, rfl, ho0, hb⟩
                    refine ⟨_, rfl, ?_⟩
                    have n0_ := Aside0.mk (Kd.V_below (qv HO0_0.out) hb)
                    have n1_ := Aside0.mk (Kd.V_below (qv HO1_0.out) hb)
                    have n2_ := Aside0.mk (Kd.N_below (qn HO860.out) hb)
                    have n3_ := Aside0.mk (Kd.R_below (qr HO865.out) hb)
                    have n4_ := Aside0.mk (Kd.R_below (qr HO868.out) hb)
                    have n5_ := Aside0.mk (Kd.V_lower (Kd.V_mono (ok' := fun k_ => ((P0_0_ k_ ∨ P1_0_ k_) ∨ w.heap.size ≤ k_) ∧ some k_ ≠ (.slice Ao28 y858.length co28 : Value).ownBlock ∧ some k_ ≠ (.slice Ao32 t863.length co32 : Value).ownBlock ∧ some k_ ≠ (.slice Ao33 t866.length co33 : Value).ownBlock ∧ k_ ≠ gb855 ∧ k_ ≠ gb856) ho0 (fun k_ hk_ => ⟨(.inr (Nat.le_trans (below_size (gx [gb855, gb856] ⟨GE855.out, GE856.out, trivial⟩ HB.out)) hk_)), (Kd.fresh' (Kd.N_lt (qn HO860.out)) k_ hk_), (Kd.fresh' (Kd.R_lt (qr HO865.out)) k_ hk_), (Kd.fresh' (Kd.R_lt (qr HO868.out)) k_ hk_), (Kd.freshB (g := gb855) (o := .cells #[.slice A0_0 l0_0.length c0_0] 24 (0, 0)) (qb BK855.out) k_ hk_), (Kd.freshB (g := gb856) (o := .cells #[.slice A1_0 l1_0.length c1_0] 24 (0, 0)) (qb BK856.out) k_ hk_)⟩)) (below_size (gx [gb855, gb856] ⟨GE855.out, GE856.out, trivial⟩ HB.out)))
                    have n6_ := Aside0.mk (blk_below (g := gb855) (o := .cells #[.slice A0_0 l0_0.length c0_0] 24 (0, 0)) (qb BK855.out) hb)
                    have n7_ := Aside0.mk (blk_below (g := gb856) (o := .cells #[.slice A1_0 l1_0.length c1_0] 24 (0, 0)) (qb BK856.out) hb)
                    have n8_ := Aside0.mk (below_step (gx [gb855, gb856] ⟨GE855.out, GE856.out, trivial⟩ HB.out) hb)
                    clear HO0_0
                    clear HO1_0
                    clear HO860
                    clear HO865
                    clear HO868
                    clear BK855
                    clear BK856
                    clear HB
                    have HO0_0 := n0_
                    have HO1_0 := n1_
                    have HO860 := n2_
                    have HO865 := n3_
                    have HO868 := n4_
                    have HO871 := n5_
                    have BK855 := n6_
                    have BK856 := n7_
                    have HB := n8_
                    clear n0_ n1_ n2_ n3_ n4_ n5_ n6_ n7_ n8_
                    (try clear hb)
                    (try clear hb2)
                    (try clear hk)
                    (try clear hi)
                    (try clear ho0)
                    refine hK.out _ _ ⟨(blk_cell BK855.out 0).trans rfl, (blk_cell BK856.out 0).trans rfl⟩ (fun hHeld => ?_)
                    clear hK K
                    refine norm_ (a' := ?_) ?_ ?_
                    rotate_left
                    · show Act.put _ (some 28) _ = _
                      simp only [Act.put, List.setIfInBounds_toArray, List.set_cons_zero, List.set_cons_succ, i64_w, i32_w]
                      rfl
                    refine pure_ (i := 5) (N := some 23) (v := ?_) (a' := ?_) #[true, true, true, true, true, true, false, false, false, false, false] rfl rfl (any_of HT_.out (by kernel_rfl)) (fun _ _ _ h => h) (Or.inl ⟨by rfl, ?_⟩) ?_ ?_
                    rotate_left
                    · intro w'
                      go_simp
                      with_reducible rfl
                    rotate_left
                    · simp only [Act.put, List.setIfInBounds_toArray, List.set_cons_zero, List.set_cons_succ, i64_w, i32_w]
                      rfl
                    refine pure_ (i := 6) (N := some 29) (v := ?_) (a' := ?_) #[true, true, true, true, true, true, true, false, false, false, false] rfl rfl (any_of HT_.out (by kernel_rfl)) (fun _ _ _ h => h) (Or.inl ⟨by rfl, ?_⟩) ?_ ?_
                    rotate_left
                    · intro w'
                      go_simp
                      with_reducible rfl
                    rotate_left
                    · simp only [Act.put, List.setIfInBounds_toArray, List.set_cons_zero, List.set_cons_succ, i64_w, i32_w]
                      rfl
                    refine pure_ (i := 7) (N := some 30) (v := ?_) (a' := ?_) #[true, true, true, true, true, true, true, true, false, false, false] rfl rfl (any_of HT_.out (by kernel_rfl)) (fun _ _ _ h => h) (Or.inl ⟨by rfl, ?_⟩) ?_ ?_
                    rotate_left
                    · intro w'
                      go_simp
                      with_reducible rfl
                    rotate_left
                    · simp only [Act.put, List.setIfInBounds_toArray, List.set_cons_zero, List.set_cons_succ, i64_w, i32_w]
                      rfl
                    refine one_ (i := 8) (N := some 5) #[true, true, true, true, true, true, true, true, true, false, false] rfl rfl (one_of HT_.out (by kernel_rfl)) (by decide) (fun K hK => ?_)
                    refine box_step ?hg (N := 5) ?hd (cs := #[.slice none 0 0]) (t := 24) ?hr ?_; (case hd => rfl); (case hg => rfl); (case hr => first | (go_simp; done) | (go_simp; rfl))
                    intro gb873 hg w35 hbox hb
                    have n0_ := Aside0.mk (Kd.V_below (Kd.V_elderB (qv HO0_0.out) gb873 (Nat.le_of_eq hg.symm)) hb)
                    have n1_ := Aside0.mk (Kd.V_below (Kd.V_elderB (qv HO1_0.out) gb873 (Nat.le_of_eq hg.symm)) hb)
                    have n2_ := Aside0.mk (Kd.N_below (Kd.N_elderB (qn HO860.out) gb873 (Nat.le_of_eq hg.symm)) hb)
                    have n3_ := Aside0.mk (Kd.R_below (qr HO865.out) hb)
                    have n4_ := Aside0.mk (Kd.R_below (qr HO868.out) hb)
                    have n5_ := Aside0.mk (Kd.V_below (Kd.V_elderB (qv HO871.out) gb873 (Nat.le_of_eq hg.symm)) hb)
                    have n6_ := Aside0.mk (blk_below (g := gb855) (o := .cells #[.slice A0_0 l0_0.length c0_0] 24 (0, 0)) (qb BK855.out) hb)
                    have n7_ := Aside0.mk (blk_below (g := gb856) (o := .cells #[.slice A1_0 l1_0.length c1_0] 24 (0, 0)) (qb BK856.out) hb)
                    have n8_ := Aside0.mk (below_step (gx [gb855, gb856] ⟨GE855.out, GE856.out, trivial⟩ HB.out) hb)
                    have n9_ := Aside0.mk (hbox)
                    have n10_ := Aside0.mk ((by rw [hg]; exact (below_size (gx [gb855, gb856] ⟨GE855.out, GE856.out, trivial⟩ HB.out)) : w.heap.size ≤ gb873))
                    have n11_ := Aside0.mk ((by rw [hg]; exact (below_size (gx [gb855, gb856] ⟨GE855.out, GE856.out, trivial⟩ HB.out)) : w.heap.size ≤ gb873))
                    have n12_ := Aside0.mk ((by rw [hg]; exact Nat.ne_of_lt (blk_lt (g := gb855) (o := .cells #[.slice A0_0 l0_0.length c0_0] 24 (0, 0)) (qb BK855.out)) : gb855 ≠ gb873))
                    have n13_ := Aside0.mk ((by rw [hg]; exact Nat.ne_of_gt (blk_lt (g := gb855) (o := .cells #[.slice A0_0 l0_0.length c0_0] 24 (0, 0)) (qb BK855.out)) : gb873 ≠ gb855))
                    have n14_ := Aside0.mk ((by rw [hg]; exact Nat.ne_of_lt (blk_lt (g := gb856) (o := .cells #[.slice A1_0 l1_0.length c1_0] 24 (0, 0)) (qb BK856.out)) : gb856 ≠ gb873))
                    have n15_ := Aside0.mk ((by rw [hg]; exact Nat.ne_of_gt (blk_lt (g := gb856) (o := .cells #[.slice A1_0 l1_0.length c1_0] 24 (0, 0)) (qb BK856.out)) : gb873 ≠ gb856))
                    clear HO0_0
                    clear HO1_0
                    clear HO860
                    clear HO865
                    clear HO868
                    clear HO871
                    clear BK855
                    clear BK856
                    clear HB
                    have HO0_0 := n0_
                    have HO1_0 := n1_
                    have HO860 := n2_
                    have HO865 := n3_
                    have HO868 := n4_
                    have HO871 := n5_
                    have BK855 := n6_
                    have BK856 := n7_
                    have HB := n8_
                    have BK873 := n9_
                    have GW873 := n10_
                    have GE873 := n11_
                    have NB855_873 := n12_
                    have NB873_855 := n13_
                    have NB856_873 := n14_
                    have NB873_856 := n15_
                    clear n0_ n1_ n2_ n3_ n4_ n5_ n6_ n7_ n8_ n9_ n10_ n11_ n12_ n13_ n14_ n15_
                    clear hb hbox hg
                    refine hK.out _ _ ⟨(blk_cell BK855.out 0).trans rfl, (blk_cell BK856.out 0).trans rfl⟩ (fun hHeld => ?_)
                    clear hK K
                    refine norm_ (a' := ?_) ?_ ?_
                    rotate_left
                    · show Act.put _ (some 5) _ = _
                      simp only [Act.put, List.setIfInBounds_toArray, List.set_cons_zero, List.set_cons_succ, i64_w, i32_w]
                      rfl
                    exact norm_ (by simp only [putAll, Act.put, List.setIfInBounds_toArray, List.set_cons_zero, List.set_cons_succ]) (hCont (.slice Ao32 t863.length co32, .slice Ao33 t866.length co33, v870, gb873) _ ⟨hHeld, (by (with_reducible repeat (first | apply Kd.V_alloc | apply Kd.V_drewN | apply Kd.V_drew)); exact Kd.V_mono HO0_0.out (fun _ hk => by first | exact ⟨hk.1.1.1.1.1.1, ⟨hk.1.1.1.2, ⟨hk.1.1.2, ⟨hk.1.2, ⟨hk.1.1.1.1.1.2, ⟨hk.1.1.1.1.2, hk.2⟩⟩⟩⟩⟩⟩ | grind)), (by (with_reducible repeat (first | apply Kd.V_alloc | apply Kd.V_drewN | apply Kd.V_drew)); exact Kd.V_mono HO1_0.out (fun _ hk => by first | exact ⟨hk.1.1.1.1.1.1, ⟨hk.1.1.1.2, ⟨hk.1.1.2, ⟨hk.1.2, ⟨hk.1.1.1.1.1.2, ⟨hk.1.1.1.1.2, hk.2⟩⟩⟩⟩⟩⟩ | grind)), (by (with_reducible repeat (first | apply Kd.N_alloc | apply Kd.N_drewN | apply Kd.N_drew)); exact Kd.N_mono HO860.out (fun _ hk => by first | exact ⟨hk.1.1.1.1, ⟨hk.1.1.2, ⟨hk.1.2, ⟨hk.1.1.1.2.1, ⟨hk.1.1.1.2.2, hk.2⟩⟩⟩⟩⟩ | grind)), (by (with_reducible repeat (first | apply Kd.R_alloc | apply Kd.R_drewN | apply Kd.R_drew)); exact Kd.R_mono HO865.out (fun _ hk => by first | exact ⟨hk.1.1, hk.2⟩ | grind)), (by (with_reducible repeat (first | apply Kd.R_alloc | apply Kd.R_drewN | apply Kd.R_drew)); exact Kd.R_mono HO868.out (fun _ hk => by first | exact ⟨hk.1.1, hk.2⟩ | grind)), (by (with_reducible repeat (first | apply Kd.V_alloc | apply Kd.V_drewN | apply Kd.V_drew)); exact Kd.V_mono HO871.out (fun _ hk => by first | exact ⟨hk.1.1, ⟨hk.1.2.1, ⟨hk.1.2.2.1, ⟨hk.1.2.2.2.1, ⟨hk.1.2.2.2.2.1, ⟨hk.1.2.2.2.2.2, hk.2⟩⟩⟩⟩⟩⟩ | grind)), (qb BK855.out), (qb BK856.out), (qb BK873.out), GW873.out, GE873.out, NB855_873.out, NB873_855.out, NB856_873.out, NB873_856.out, (gx [gb855, gb856, gb873] ⟨GE855.out, GE856.out, GE873.out, trivial⟩ HB.out)⟩)
                  · skip
                    refine box_step ?hg (N := 5) ?hd (cs := #[.slice none 0 0]) (t := 24) ?hr ?_; (case hd => rfl); (case hg => rfl); (case hr => first | (go_simp; done) | (go_simp; rfl))
                    intro gb873 hg w32 hbox hb
                    have n0_ := Aside0.mk (Kd.V_below (Kd.V_elderB (qv HO0_0.out) gb873 (Nat.le_of_eq hg.symm)) hb)
                    have n1_ := Aside0.mk (Kd.V_below (Kd.V_elderB (qv HO1_0.out) gb873 (Nat.le_of_eq hg.symm)) hb)
                    have n2_ := Aside0.mk (Kd.N_below (Kd.N_elderB (qn HO860.out) gb873 (Nat.le_of_eq hg.symm)) hb)
                    have n3_ := Aside0.mk (Kd.R_below (qr HO865.out) hb)
                    have n4_ := Aside0.mk (Kd.R_below (qr HO868.out) hb)
                    have n5_ := Aside0.mk (blk_below (g := gb855) (o := .cells #[.slice A0_0 l0_0.length c0_0] 24 (0, 0)) (qb BK855.out) hb)
                    have n6_ := Aside0.mk (blk_below (g := gb856) (o := .cells #[.slice A1_0 l1_0.length c1_0] 24 (0, 0)) (qb BK856.out) hb)
                    have n7_ := Aside0.mk (below_step (gx [gb855, gb856] ⟨GE855.out, GE856.out, trivial⟩ HB.out) hb)
                    have n8_ := Aside0.mk (hbox)
                    have n9_ := Aside0.mk ((by rw [hg]; exact (below_size (gx [gb855, gb856] ⟨GE855.out, GE856.out, trivial⟩ HB.out)) : w.heap.size ≤ gb873))
                    have n10_ := Aside0.mk ((by rw [hg]; exact (below_size (gx [gb855, gb856] ⟨GE855.out, GE856.out, trivial⟩ HB.out)) : w.heap.size ≤ gb873))
                    have n11_ := Aside0.mk ((by rw [hg]; exact Nat.ne_of_lt (blk_lt (g := gb855) (o := .cells #[.slice A0_0 l0_0.length c0_0] 24 (0, 0)) (qb BK855.out)) : gb855 ≠ gb873))
                    have n12_ := Aside0.mk ((by rw [hg]; exact Nat.ne_of_gt (blk_lt (g := gb855) (o := .cells #[.slice A0_0 l0_0.length c0_0] 24 (0, 0)) (qb BK855.out)) : gb873 ≠ gb855))
                    have n13_ := Aside0.mk ((by rw [hg]; exact Nat.ne_of_lt (blk_lt (g := gb856) (o := .cells #[.slice A1_0 l1_0.length c1_0] 24 (0, 0)) (qb BK856.out)) : gb856 ≠ gb873))
                    have n14_ := Aside0.mk ((by rw [hg]; exact Nat.ne_of_gt (blk_lt (g := gb856) (o := .cells #[.slice A1_0 l1_0.length c1_0] 24 (0, 0)) (qb BK856.out)) : gb873 ≠ gb856))
                    clear HO0_0
                    clear HO1_0
                    clear HO860
                    clear HO865
                    clear HO868
                    clear BK855
                    clear BK856
                    clear HB
                    have HO0_0 := n0_
                    have HO1_0 := n1_
                    have HO860 := n2_
                    have HO865 := n3_
                    have HO868 := n4_
                    have BK855 := n5_
                    have BK856 := n6_
                    have HB := n7_
                    have BK873 := n8_
                    have GW873 := n9_
                    have GE873 := n10_
                    have NB855_873 := n11_
                    have NB873_855 := n12_
                    have NB856_873 := n13_
                    have NB873_856 := n14_
                    clear n0_ n1_ n2_ n3_ n4_ n5_ n6_ n7_ n8_ n9_ n10_ n11_ n12_ n13_ n14_
                    clear hb hbox hg
                    obtain ⟨Ao33, co33, eo33⟩ := Kd.R_slice HO865.out
                    (first | subst eo33 | (injection eo33 with f1_ f2_ f3_; have f4_ := f1_.symm; have f5_ := f3_.symm; clear f1_ f2_ f3_; subst f4_; subst f5_))
                    obtain ⟨Ao34, co34, eo34⟩ := Kd.R_slice HO868.out
                    (first | subst eo34 | (injection eo34 with f1_ f2_ f3_; have f4_ := f1_.symm; have f5_ := f3_.symm; clear f1_ f2_ f3_; subst f4_; subst f5_))
                    refine hK.out _ _ ⟨(blk_cell BK855.out 0).trans rfl, (blk_cell BK856.out 0).trans rfl⟩ (fun hHeld => ?_)
                    clear hK K
                    refine norm_ (a' := ?_) ?_ ?_
                    rotate_left
                    · show Act.put _ (some 5) _ = _
                      simp only [Act.put, List.setIfInBounds_toArray, List.set_cons_zero, List.set_cons_succ, i64_w, i32_w]
                      rfl
                    refine one_ (i := 4) (N := some 28) #[true, true, true, true, true, false, false, false, true, false, false] rfl rfl (one_of HT_.out (by kernel_rfl)) (by decide) (fun K hK => ?_)
                    refine goes_ Tryd.func35 (by kernel_rfl) rfl #[.agg #[.slice Ao33 t863.length co33], .agg #[.slice Ao34 t866.length co34]] (by rfl) rfl rfl (by (try simp only [List.map_toArray, List.map_cons, List.map_nil]); first | done | rfl | (simp only [List.length_drop, List.length_take]; rfl)) ?_
                    with_reducible refine (natural_Add.calls k _ _ t863 _ _ t866 t869 t872 _ ?side1 ?side2 ?side3 ?side4 A9.out).mono ?_
                    (case side1 => repeat (first | exact (Kd.R_reads' HO865.out).2.2 | (with_reducible refine Kd.C_alloc ?_ _) | (with_reducible refine Kd.C_drewN ?_ _) | (with_reducible refine Kd.C_drew ?_)))
                    (case side2 => exact (Kd.R_reads' HO865.out).2.1)
                    (case side3 => repeat (first | exact (Kd.R_reads' HO868.out).2.2 | (with_reducible refine Kd.C_alloc ?_ _) | (with_reducible refine Kd.C_drewN ?_ _) | (with_reducible refine Kd.C_drew ?_)))
                    (case side4 => exact (Kd.R_reads' HO868.out).2.1)
                    rintro e w35 ⟨v870, rfl, ho0, hb⟩
                    refine ⟨_, rfl, ?_⟩
                    have n0_ := Aside0.mk (Kd.V_below (qv HO0_0.out) hb)
                    have n1_ := Aside0.mk (Kd.V_below (qv HO1_0.out) hb)
                    have n2_ := Aside0.mk (Kd.N_below (qn HO860.out) hb)
                    have n3_ := Aside0.mk (Kd.R_below (qr HO865.out) hb)
                    have n4_ := Aside0.mk (Kd.R_below (qr HO868.out) hb)
                    have n5_ := Aside0.mk (Kd.V_lower (Kd.V_mono (ok' := fun k_ => ((P0_0_ k_ ∨ P1_0_ k_) ∨ w.heap.size ≤ k_) ∧ some k_ ≠ (.slice Ao28 y858.length co28 : Value).ownBlock ∧ some k_ ≠ (.slice Ao33 t863.length co33 : Value).ownBlock ∧ some k_ ≠ (.slice Ao34 t866.length co34 : Value).ownBlock ∧ k_ ≠ gb855 ∧ k_ ≠ gb856 ∧ k_ ≠ gb873) ho0 (fun k_ hk_ => ⟨(.inr (Nat.le_trans (below_size (gx [gb855, gb856, gb873] ⟨GE855.out, GE856.out, GE873.out, trivial⟩ HB.out)) hk_)), (Kd.fresh' (Kd.N_lt (qn HO860.out)) k_ hk_), (Kd.fresh' (Kd.R_lt (qr HO865.out)) k_ hk_), (Kd.fresh' (Kd.R_lt (qr HO868.out)) k_ hk_), (Kd.freshB (g := gb855) (o := .cells #[.slice A0_0 l0_0.length c0_0] 24 (0, 0)) (qb BK855.out) k_ hk_), (Kd.freshB (g := gb856) (o := .cells #[.slice A1_0 l1_0.length c1_0] 24 (0, 0)) (qb BK856.out) k_ hk_), (Kd.freshB (g := gb873) (o := .cells #[.slice none 0 0] 24 (0, 0)) (qb BK873.out) k_ hk_)⟩)) (below_size (gx [gb855, gb856, gb873] ⟨GE855.out, GE856.out, GE873.out, trivial⟩ HB.out)))
                    have n6_ := Aside0.mk (blk_below (g := gb855) (o := .cells #[.slice A0_0 l0_0.length c0_0] 24 (0, 0)) (qb BK855.out) hb)
                    have n7_ := Aside0.mk (blk_below (g := gb856) (o := .cells #[.slice A1_0 l1_0.length c1_0] 24 (0, 0)) (qb BK856.out) hb)
                    have n8_ := Aside0.mk (blk_below (g := gb873) (o := .cells #[.slice none 0 0] 24 (0, 0)) (qb BK873.out) hb)
                    have n9_ := Aside0.mk (below_step (gx [gb855, gb856, gb873] ⟨GE855.out, GE856.out, GE873.out, trivial⟩ HB.out) hb)
                    clear HO0_0
                    clear HO1_0
                    clear HO860
                    clear HO865
                    clear HO868
                    clear BK855
                    clear BK856
                    clear BK873
                    clear HB
                    have HO0_0 := n0_
                    have HO1_0 := n1_
                    have HO860 := n2_
                    have HO865 := n3_
                    have HO868 := n4_
                    have HO871 := n5_
                    have BK855 := n6_
                    have BK856 := n7_
                    have BK873 := n8_
                    have HB := n9_
                    clear n0_ n1_ n2_ n3_ n4_ n5_ n6_ n7_ n8_ n9_
                    (try clear hb)
                    (try clear hb2)
                    (try clear hk)
                    (try clear hi)
                    (try clear ho0)
                    refine hK.out _ _ ⟨(blk_cell BK855.out 0).trans rfl, (blk_cell BK856.out 0).trans rfl⟩ (fun hHeld => ?_)
                    clear hK K
                    refine norm_ (a' := ?_) ?_ ?_
                    rotate_left
                    · show Act.put _ (some 28) _ = _
                      simp only [Act.put, List.setIfInBounds_toArray, List.set_cons_zero, List.set_cons_succ, i64_w, i32_w]
                      rfl
                    refine pure_ (i := 5) (N := some 23) (v := ?_) (a' := ?_) #[true, true, true, true, true, true, false, false, true, false, false] rfl rfl (any_of HT_.out (by kernel_rfl)) (fun _ _ _ h => h) (Or.inl ⟨by rfl, ?_⟩) ?_ ?_
                    rotate_left
                    · intro w'
                      go_simp
                      with_reducible rfl
                    rotate_left
                    · simp only [Act.put, List.setIfInBounds_toArray, List.set_cons_zero, List.set_cons_succ, i64_w, i32_w]
                      rfl
                    refine pure_ (i := 6) (N := some 29) (v := ?_) (a' := ?_) #[true, true, true, true, true, true, true, false, true, false, false] rfl rfl (any_of HT_.out (by kernel_rfl)) (fun _ _ _ h => h) (Or.inl ⟨by rfl, ?_⟩) ?_ ?_
                    rotate_left
                    · intro w'
                      go_simp
                      with_reducible rfl
                    rotate_left
                    · simp only [Act.put, List.setIfInBounds_toArray, List.set_cons_zero, List.set_cons_succ, i64_w, i32_w]
                      rfl
                    refine pure_ (i := 7) (N := some 30) (v := ?_) (a' := ?_) #[true, true, true, true, true, true, true, true, true, false, false] rfl rfl (any_of HT_.out (by kernel_rfl)) (fun _ _ _ h => h) (Or.inl ⟨by rfl, ?_⟩) ?_ ?_
                    rotate_left
                    · intro w'
                      go_simp
                      with_reducible rfl
                    rotate_left
                    · simp only [Act.put, List.setIfInBounds_toArray, List.set_cons_zero, List.set_cons_succ, i64_w, i32_w]
                      rfl
                    exact norm_ (by simp only [putAll, Act.put, List.setIfInBounds_toArray, List.set_cons_zero, List.set_cons_succ]) (hCont (.slice Ao33 t863.length co33, .slice Ao34 t866.length co34, v870, gb873) _ ⟨hHeld, (by (with_reducible repeat (first | apply Kd.V_alloc | apply Kd.V_drewN | apply Kd.V_drew)); exact Kd.V_mono HO0_0.out (fun _ hk => by first | exact ⟨hk.1.1.1.1.1.1, ⟨hk.1.1.1.2, ⟨hk.1.1.2, ⟨hk.1.2, ⟨hk.1.1.1.1.1.2, ⟨hk.1.1.1.1.2, hk.2⟩⟩⟩⟩⟩⟩ | grind)), (by (with_reducible repeat (first | apply Kd.V_alloc | apply Kd.V_drewN | apply Kd.V_drew)); exact Kd.V_mono HO1_0.out (fun _ hk => by first | exact ⟨hk.1.1.1.1.1.1, ⟨hk.1.1.1.2, ⟨hk.1.1.2, ⟨hk.1.2, ⟨hk.1.1.1.1.1.2, ⟨hk.1.1.1.1.2, hk.2⟩⟩⟩⟩⟩⟩ | grind)), (by (with_reducible repeat (first | apply Kd.N_alloc | apply Kd.N_drewN | apply Kd.N_drew)); exact Kd.N_mono HO860.out (fun _ hk => by first | exact ⟨hk.1.1.1.1, ⟨hk.1.1.2, ⟨hk.1.2, ⟨hk.1.1.1.2.1, ⟨hk.1.1.1.2.2, hk.2⟩⟩⟩⟩⟩ | grind)), (by (with_reducible repeat (first | apply Kd.R_alloc | apply Kd.R_drewN | apply Kd.R_drew)); exact Kd.R_mono HO865.out (fun _ hk => by first | exact ⟨hk.1.1, hk.2⟩ | grind)), (by (with_reducible repeat (first | apply Kd.R_alloc | apply Kd.R_drewN | apply Kd.R_drew)); exact Kd.R_mono HO868.out (fun _ hk => by first | exact ⟨hk.1.1, hk.2⟩ | grind)), (qv HO871.out), (qb BK855.out), (qb BK856.out), (qb BK873.out), GW873.out, GE873.out, NB855_873.out, NB873_855.out, NB856_873.out, NB873_856.out, (gx [gb855, gb856, gb873] ⟨GE855.out, GE856.out, GE873.out, trivial⟩ HB.out)⟩)
                · skip
                  refine box_step ?hg (N := 5) ?hd (cs := #[.slice none 0 0]) (t := 24) ?hr ?_; (case hd => rfl); (case hg => rfl); (case hr => first | (go_simp; done) | (go_simp; rfl))
                  intro gb873 hg w31 hbox hb
                  have n0_ := Aside0.mk (Kd.V_below (Kd.V_elderB (qv HO0_0.out) gb873 (Nat.le_of_eq hg.symm)) hb)
                  have n1_ := Aside0.mk (Kd.V_below (Kd.V_elderB (qv HO1_0.out) gb873 (Nat.le_of_eq hg.symm)) hb)
                  have n2_ := Aside0.mk (Kd.N_below (Kd.N_elderB (qn HO860.out) gb873 (Nat.le_of_eq hg.symm)) hb)
                  have n3_ := Aside0.mk (Kd.R_below (qr HO865.out) hb)
                  have n4_ := Aside0.mk (blk_below (g := gb855) (o := .cells #[.slice A0_0 l0_0.length c0_0] 24 (0, 0)) (qb BK855.out) hb)
                  have n5_ := Aside0.mk (blk_below (g := gb856) (o := .cells #[.slice A1_0 l1_0.length c1_0] 24 (0, 0)) (qb BK856.out) hb)
                  have n6_ := Aside0.mk (below_step (gx [gb855, gb856] ⟨GE855.out, GE856.out, trivial⟩ HB.out) hb)
                  have n7_ := Aside0.mk (hbox)
                  have n8_ := Aside0.mk ((by rw [hg]; exact (below_size (gx [gb855, gb856] ⟨GE855.out, GE856.out, trivial⟩ HB.out)) : w.heap.size ≤ gb873))
                  have n9_ := Aside0.mk ((by rw [hg]; exact (below_size (gx [gb855, gb856] ⟨GE855.out, GE856.out, trivial⟩ HB.out)) : w.heap.size ≤ gb873))
                  have n10_ := Aside0.mk ((by rw [hg]; exact Nat.ne_of_lt (blk_lt (g := gb855) (o := .cells #[.slice A0_0 l0_0.length c0_0] 24 (0, 0)) (qb BK855.out)) : gb855 ≠ gb873))
                  have n11_ := Aside0.mk ((by rw [hg]; exact Nat.ne_of_gt (blk_lt (g := gb855) (o := .cells #[.slice A0_0 l0_0.length c0_0] 24 (0, 0)) (qb BK855.out)) : gb873 ≠ gb855))
                  have n12_ := Aside0.mk ((by rw [hg]; exact Nat.ne_of_lt (blk_lt (g := gb856) (o := .cells #[.slice A1_0 l1_0.length c1_0] 24 (0, 0)) (qb BK856.out)) : gb856 ≠ gb873))
                  have n13_ := Aside0.mk ((by rw [hg]; exact Nat.ne_of_gt (blk_lt (g := gb856) (o := .cells #[.slice A1_0 l1_0.length c1_0] 24 (0, 0)) (qb BK856.out)) : gb873 ≠ gb856))
                  clear HO0_0
                  clear HO1_0
                  clear HO860
                  clear HO865
                  clear BK855
                  clear BK856
                  clear HB
                  have HO0_0 := n0_
                  have HO1_0 := n1_
                  have HO860 := n2_
                  have HO865 := n3_
                  have BK855 := n4_
                  have BK856 := n5_
                  have HB := n6_
                  have BK873 := n7_
                  have GW873 := n8_
                  have GE873 := n9_
                  have NB855_873 := n10_
                  have NB873_855 := n11_
                  have NB856_873 := n12_
                  have NB873_856 := n13_
                  clear n0_ n1_ n2_ n3_ n4_ n5_ n6_ n7_ n8_ n9_ n10_ n11_ n12_ n13_
                  clear hb hbox hg
                  refine hK.out _ _ ⟨(blk_cell BK855.out 0).trans rfl, (blk_cell BK856.out 0).trans rfl⟩ (fun hHeld => ?_)
                  clear hK K
                  refine norm_ (a' := ?_) ?_ ?_
                  rotate_left
                  · show Act.put _ (some 5) _ = _
                    simp only [Act.put, List.setIfInBounds_toArray, List.set_cons_zero, List.set_cons_succ, i64_w, i32_w]
                    rfl
                  refine one_ (i := 3) (N := some 27) #[true, true, true, true, false, false, false, false, true, false, false] rfl rfl (one_of HT_.out (by kernel_rfl)) (by decide) (fun K hK => ?_)
                  refine goes_ Tryd.func15 (by kernel_rfl) rfl #[.agg #[.slice A1_0 l1_0.length c1_0]] (by rfl) rfl rfl (by (try simp only [List.map_toArray, List.map_cons, List.map_nil]); first | done | rfl | (simp only [List.length_drop, List.length_take]; rfl)) ?_
                  with_reducible refine (ancepslaw02_copied.calls _ _ l1_0 t866 _ ?side1 ?side2 A8.out).mono ?_
                  (case side1 => repeat (first | exact (Kd.V_reads' HO1_0.out).2.2 | (with_reducible refine Kd.C_alloc ?_ _) | (with_reducible refine Kd.C_drewN ?_ _) | (with_reducible refine Kd.C_drew ?_)))
                  (case side2 => exact (Kd.V_reads' HO1_0.out).2.1)
                  rintro e w32 ⟨v867, rfl, ho0, hb⟩
                  refine ⟨_, rfl, ?_⟩
                  have n0_ := Aside0.mk (Kd.V_elder' (qv HO0_0.out) (Kd.R_base ho0) hb)
                  have n1_ := Aside0.mk (Kd.V_elder' (qv HO1_0.out) (Kd.R_base ho0) hb)
                  have n2_ := Aside0.mk (Kd.N_elder' (qn HO860.out) (Kd.R_base ho0) hb)
                  have n3_ := Aside0.mk (Kd.R_elder' (qr HO865.out) (Kd.R_base ho0) hb)
                  have n4_ := Aside0.mk (Kd.R_lower (Kd.R_new' (Kd.R_newM (M := fun k_ => (w.heap.size ≤ k_)) ho0 (below_size (gx [gb855, gb856, gb873] ⟨GE855.out, GE856.out, GE873.out, trivial⟩ HB.out)) (fun k_ h_ => h_)) (Kd.R_lt (qr HO865.out))) (below_size (gx [gb855, gb856, gb873] ⟨GE855.out, GE856.out, GE873.out, trivial⟩ HB.out)))
                  have n5_ := Aside0.mk (blk_below (g := gb855) (o := .cells #[.slice A0_0 l0_0.length c0_0] 24 (0, 0)) (qb BK855.out) hb)
                  have n6_ := Aside0.mk (blk_below (g := gb856) (o := .cells #[.slice A1_0 l1_0.length c1_0] 24 (0, 0)) (qb BK856.out) hb)
                  have n7_ := Aside0.mk (blk_below (g := gb873) (o := .cells #[.slice none 0 0] 24 (0, 0)) (qb BK873.out) hb)
                  have n8_ := Aside0.mk (below_step (gx [gb855, gb856, gb873] ⟨GE855.out, GE856.out, GE873.out, trivial⟩ HB.out) hb)
                  clear HO0_0
                  clear HO1_0
                  clear HO860
                  clear HO865
                  clear BK855
                  clear BK856
                  clear BK873
                  clear HB
                  have HO0_0 := n0_
                  have HO1_0 := n1_
                  have HO860 := n2_
                  have HO865 := n3_
                  have HO868 := n4_
                  have BK855 := n5_
                  have BK856 := n6_
                  have BK873 := n7_
                  have HB := n8_
                  clear n0_ n1_ n2_ n3_ n4_ n5_ n6_ n7_ n8_
                  (try clear hb)
                  (try clear hb2)
                  (try clear hk)
                  (try clear hi)
                  (try clear ho0)
                  obtain ⟨Ao33, co33, eo33⟩ := Kd.R_slice HO865.out
                  (first | subst eo33 | (injection eo33 with f1_ f2_ f3_; have f4_ := f1_.symm; have f5_ := f3_.symm; clear f1_ f2_ f3_; subst f4_; subst f5_))
                  obtain ⟨Ao34, co34, eo34⟩ := Kd.R_slice HO868.out
                  (first | subst eo34 | (injection eo34 with f1_ f2_ f3_; have f4_ := f1_.symm; have f5_ := f3_.symm; clear f1_ f2_ f3_; subst f4_; subst f5_))
                  refine hK.out _ _ ⟨(blk_cell BK855.out 0).trans rfl, (blk_cell BK856.out 0).trans rfl⟩ (fun hHeld => ?_)
                  clear hK K
                  refine norm_ (a' := ?_) ?_ ?_
                  rotate_left
                  · show Act.put _ (some 27) _ = _
                    simp only [Act.put, List.setIfInBounds_toArray, List.set_cons_zero, List.set_cons_succ, i64_w, i32_w]
                    rfl
                  refine one_ (i := 4) (N := some 28) #[true, true, true, true, true, false, false, false, true, false, false] rfl rfl (one_of HT_.out (by kernel_rfl)) (by decide) (fun K hK => ?_)
                  refine goes_ Tryd.func35 (by kernel_rfl) rfl #[.agg #[.slice Ao33 t863.length co33], .agg #[.slice Ao34 t866.length co34]] (by rfl) rfl rfl (by (try simp only [List.map_toArray, List.map_cons, List.map_nil]); first | done | rfl | (simp only [List.length_drop, List.length_take]; rfl)) ?_
                  with_reducible refine (natural_Add.calls k _ _ t863 _ _ t866 t869 t872 _ ?side1 ?side2 ?side3 ?side4 A9.out).mono ?_
                  (case side1 => repeat (first | exact (Kd.R_reads' HO865.out).2.2 | (with_reducible refine Kd.C_alloc ?_ _) | (with_reducible refine Kd.C_drewN ?_ _) | (with_reducible refine Kd.C_drew ?_)))
                  (case side2 => exact (Kd.R_reads' HO865.out).2.1)
                  (case side3 => repeat (first | exact (Kd.R_reads' HO868.out).2.2 | (with_reducible refine Kd.C_alloc ?_ _) | (with_reducible refine Kd.C_drewN ?_ _) | (with_reducible refine Kd.C_drew ?_)))
                  (case side4 => exact (Kd.R_reads' HO868.out).2.1)
                  rintro e w35 ⟨v870, rfl, ho0, hb⟩
                  refine ⟨_, rfl, ?_⟩
                  have n0_ := Aside0.mk (Kd.V_below (qv HO0_0.out) hb)
                  have n1_ := Aside0.mk (Kd.V_below (qv HO1_0.out) hb)
                  have n2_ := Aside0.mk (Kd.N_below (qn HO860.out) hb)
                  have n3_ := Aside0.mk (Kd.R_below (qr HO865.out) hb)
                  have n4_ := Aside0.mk (Kd.R_below (qr HO868.out) hb)
                  have n5_ := Aside0.mk (Kd.V_lower (Kd.V_mono (ok' := fun k_ => ((P0_0_ k_ ∨ P1_0_ k_) ∨ w.heap.size ≤ k_) ∧ some k_ ≠ (.slice Ao28 y858.length co28 : Value).ownBlock ∧ some k_ ≠ (.slice Ao33 t863.length co33 : Value).ownBlock ∧ some k_ ≠ (.slice Ao34 t866.length co34 : Value).ownBlock ∧ k_ ≠ gb855 ∧ k_ ≠ gb856 ∧ k_ ≠ gb873) ho0 (fun k_ hk_ => ⟨(.inr (Nat.le_trans (below_size (gx [gb855, gb856, gb873] ⟨GE855.out, GE856.out, GE873.out, trivial⟩ HB.out)) hk_)), (Kd.fresh' (Kd.N_lt (qn HO860.out)) k_ hk_), (Kd.fresh' (Kd.R_lt (qr HO865.out)) k_ hk_), (Kd.fresh' (Kd.R_lt (qr HO868.out)) k_ hk_), (Kd.freshB (g := gb855) (o := .cells #[.slice A0_0 l0_0.length c0_0] 24 (0, 0)) (qb BK855.out) k_ hk_), (Kd.freshB (g := gb856) (o := .cells #[.slice A1_0 l1_0.length c1_0] 24 (0, 0)) (qb BK856.out) k_ hk_), (Kd.freshB (g := gb873) (o := .cells #[.slice none 0 0] 24 (0, 0)) (qb BK873.out) k_ hk_)⟩)) (below_size (gx [gb855, gb856, gb873] ⟨GE855.out, GE856.out, GE873.out, trivial⟩ HB.out)))
                  have n6_ := Aside0.mk (blk_below (g := gb855) (o := .cells #[.slice A0_0 l0_0.length c0_0] 24 (0, 0)) (qb BK855.out) hb)
                  have n7_ := Aside0.mk (blk_below (g := gb856) (o := .cells #[.slice A1_0 l1_0.length c1_0] 24 (0, 0)) (qb BK856.out) hb)
                  have n8_ := Aside0.mk (blk_below (g := gb873) (o := .cells #[.slice none 0 0] 24 (0, 0)) (qb BK873.out) hb)
                  have n9_ := Aside0.mk (below_step (gx [gb855, gb856, gb873] ⟨GE855.out, GE856.out, GE873.out, trivial⟩ HB.out) hb)
                  clear HO0_0
                  clear HO1_0
                  clear HO860
                  clear HO865
                  clear HO868
                  clear BK855
                  clear BK856
                  clear BK873
                  clear HB
                  have HO0_0 := n0_
                  have HO1_0 := n1_
                  have HO860 := n2_
                  have HO865 := n3_
                  have HO868 := n4_
                  have HO871 := n5_
                  have BK855 := n6_
                  have BK856 := n7_
                  have BK873 := n8_
                  have HB := n9_
                  clear n0_ n1_ n2_ n3_ n4_ n5_ n6_ n7_ n8_ n9_
                  (try clear hb)
                  (try clear hb2)
                  (try clear hk)
                  (try clear hi)
                  (try clear ho0)
                  refine hK.out _ _ ⟨(blk_cell BK855.out 0).trans rfl, (blk_cell BK856.out 0).trans rfl⟩ (fun hHeld => ?_)
                  clear hK K
                  refine norm_ (a' := ?_) ?_ ?_
                  rotate_left
                  · show Act.put _ (some 28) _ = _
                    simp only [Act.put, List.setIfInBounds_toArray, List.set_cons_zero, List.set_cons_succ, i64_w, i32_w]
                    rfl
                  refine pure_ (i := 5) (N := some 23) (v := ?_) (a' := ?_) #[true, true, true, true, true, true, false, false, true, false, false] rfl rfl (any_of HT_.out (by kernel_rfl)) (fun _ _ _ h => h) (Or.inl ⟨by rfl, ?_⟩) ?_ ?_
                  rotate_left
                  · intro w'
                    go_simp
                    with_reducible rfl
                  rotate_left
                  · simp only [Act.put, List.setIfInBounds_toArray, List.set_cons_zero, List.set_cons_succ, i64_w, i32_w]
                    rfl
                  refine pure_ (i := 6) (N := some 29) (v := ?_) (a' := ?_) #[true, true, true, true, true, true, true, false, true, false, false] rfl rfl (any_of HT_.out (by kernel_rfl)) (fun _ _ _ h => h) (Or.inl ⟨by rfl, ?_⟩) ?_ ?_
                  rotate_left
                  · intro w'
                    go_simp
                    with_reducible rfl
                  rotate_left
                  · simp only [Act.put, List.setIfInBounds_toArray, List.set_cons_zero, List.set_cons_succ, i64_w, i32_w]
                    rfl
                  refine pure_ (i := 7) (N := some 30) (v := ?_) (a' := ?_) #[true, true, true, true, true, true, true, true, true, false, false] rfl rfl (any_of HT_.out (by kernel_rfl)) (fun _ _ _ h => h) (Or.inl ⟨by rfl, ?_⟩) ?_ ?_
                  rotate_left
                  · intro w'
                    go_simp
                    with_reducible rfl
                  rotate_left
                  · simp only [Act.put, List.setIfInBounds_toArray, List.set_cons_zero, List.set_cons_succ, i64_w, i32_w]
                    rfl
                  exact norm_ (by simp only [putAll, Act.put, List.setIfInBounds_toArray, List.set_cons_zero, List.set_cons_succ]) (hCont (.slice Ao33 t863.length co33, .slice Ao34 t866.length co34, v870, gb873) _ ⟨hHeld, (by (with_reducible repeat (first | apply Kd.V_alloc | apply Kd.V_drewN | apply Kd.V_drew)); exact Kd.V_mono HO0_0.out (fun _ hk => by first | exact ⟨hk.1.1.1.1.1.1, ⟨hk.1.1.1.2, ⟨hk.1.1.2, ⟨hk.2, ⟨hk.1.1.1.1.1.2, ⟨hk.1.1.1.1.2, hk.1.2⟩⟩⟩⟩⟩⟩ | grind)), (by (with_reducible repeat (first | apply Kd.V_alloc | apply Kd.V_drewN | apply Kd.V_drew)); exact Kd.V_mono HO1_0.out (fun _ hk => by first | exact ⟨hk.1.1.1.1.1.1, ⟨hk.1.1.1.2, ⟨hk.1.1.2, ⟨hk.2, ⟨hk.1.1.1.1.1.2, ⟨hk.1.1.1.1.2, hk.1.2⟩⟩⟩⟩⟩⟩ | grind)), (by (with_reducible repeat (first | apply Kd.N_alloc | apply Kd.N_drewN | apply Kd.N_drew)); exact Kd.N_mono HO860.out (fun _ hk => by first | exact ⟨hk.1.1.1.1, ⟨hk.1.1.2, ⟨hk.2, ⟨hk.1.1.1.2.1, ⟨hk.1.1.1.2.2, hk.1.2⟩⟩⟩⟩⟩ | grind)), (by (with_reducible repeat (first | apply Kd.R_alloc | apply Kd.R_drewN | apply Kd.R_drew)); exact Kd.R_mono HO865.out (fun _ hk => by first | exact ⟨hk.1.1, hk.2⟩ | grind)), (by (with_reducible repeat (first | apply Kd.R_alloc | apply Kd.R_drewN | apply Kd.R_drew)); exact Kd.R_mono HO868.out (fun _ hk => by first | exact ⟨hk.1.1, hk.2⟩ | grind)), (qv HO871.out), (qb BK855.out), (qb BK856.out), (qb BK873.out), GW873.out, GE873.out, NB855_873.out, NB873_855.out, NB856_873.out, NB873_856.out, (gx [gb855, gb856, gb873] ⟨GE855.out, GE856.out, GE873.out, trivial⟩ HB.out)⟩)
              · skip
                refine box_step ?hg (N := 5) ?hd (cs := #[.slice none 0 0]) (t := 24) ?hr ?_; (case hd => rfl); (case hg => rfl); (case hr => first | (go_simp; done) | (go_simp; rfl))
                intro gb873 hg w30 hbox hb
                have n0_ := Aside0.mk (Kd.V_below (Kd.V_elderB (qv HO0_0.out) gb873 (Nat.le_of_eq hg.symm)) hb)
                have n1_ := Aside0.mk (Kd.V_below (Kd.V_elderB (qv HO1_0.out) gb873 (Nat.le_of_eq hg.symm)) hb)
                have n2_ := Aside0.mk (Kd.N_below (Kd.N_elderB (qn HO860.out) gb873 (Nat.le_of_eq hg.symm)) hb)
                have n3_ := Aside0.mk (blk_below (g := gb855) (o := .cells #[.slice A0_0 l0_0.length c0_0] 24 (0, 0)) (qb BK855.out) hb)
                have n4_ := Aside0.mk (blk_below (g := gb856) (o := .cells #[.slice A1_0 l1_0.length c1_0] 24 (0, 0)) (qb BK856.out) hb)
                have n5_ := Aside0.mk (below_step (gx [gb855, gb856] ⟨GE855.out, GE856.out, trivial⟩ HB.out) hb)
                have n6_ := Aside0.mk (hbox)
                have n7_ := Aside0.mk ((by rw [hg]; exact (below_size (gx [gb855, gb856] ⟨GE855.out, GE856.out, trivial⟩ HB.out)) : w.heap.size ≤ gb873))
                have n8_ := Aside0.mk ((by rw [hg]; exact (below_size (gx [gb855, gb856] ⟨GE855.out, GE856.out, trivial⟩ HB.out)) : w.heap.size ≤ gb873))
                have n9_ := Aside0.mk ((by rw [hg]; exact Nat.ne_of_lt (blk_lt (g := gb855) (o := .cells #[.slice A0_0 l0_0.length c0_0] 24 (0, 0)) (qb BK855.out)) : gb855 ≠ gb873))
                have n10_ := Aside0.mk ((by rw [hg]; exact Nat.ne_of_gt (blk_lt (g := gb855) (o := .cells #[.slice A0_0 l0_0.length c0_0] 24 (0, 0)) (qb BK855.out)) : gb873 ≠ gb855))
                have n11_ := Aside0.mk ((by rw [hg]; exact Nat.ne_of_lt (blk_lt (g := gb856) (o := .cells #[.slice A1_0 l1_0.length c1_0] 24 (0, 0)) (qb BK856.out)) : gb856 ≠ gb873))
                have n12_ := Aside0.mk ((by rw [hg]; exact Nat.ne_of_gt (blk_lt (g := gb856) (o := .cells #[.slice A1_0 l1_0.length c1_0] 24 (0, 0)) (qb BK856.out)) : gb873 ≠ gb856))
                clear HO0_0
                clear HO1_0
                clear HO860
                clear BK855
                clear BK856
                clear HB
                have HO0_0 := n0_
                have HO1_0 := n1_
                have HO860 := n2_
                have BK855 := n3_
                have BK856 := n4_
                have HB := n5_
                have BK873 := n6_
                have GW873 := n7_
                have GE873 := n8_
                have NB855_873 := n9_
                have NB873_855 := n10_
                have NB856_873 := n11_
                have NB873_856 := n12_
                clear n0_ n1_ n2_ n3_ n4_ n5_ n6_ n7_ n8_ n9_ n10_ n11_ n12_
                clear hb hbox hg
                refine hK.out _ _ ⟨(blk_cell BK855.out 0).trans rfl, (blk_cell BK856.out 0).trans rfl⟩ (fun hHeld => ?_)
                clear hK K
                refine norm_ (a' := ?_) ?_ ?_
                rotate_left
                · show Act.put _ (some 5) _ = _
                  simp only [Act.put, List.setIfInBounds_toArray, List.set_cons_zero, List.set_cons_succ, i64_w, i32_w]
                  rfl
                refine one_ (i := 1) (N := some 25) #[true, true, true, false, false, false, false, false, true, false, false] rfl rfl (one_of HT_.out (by kernel_rfl)) (by decide) (fun K hK => ?_)
                refine goes_ Tryd.func15 (by kernel_rfl) rfl #[.agg #[.slice A0_0 l0_0.length c0_0]] (by rfl) rfl rfl (by (try simp only [List.map_toArray, List.map_cons, List.map_nil]); first | done | rfl | (simp only [List.length_drop, List.length_take]; rfl)) ?_
                with_reducible refine (ancepslaw02_copied.calls _ _ l0_0 t863 _ ?side1 ?side2 A7.out).mono ?_
                (case side1 => repeat (first | exact (Kd.V_reads' HO0_0.out).2.2 | (with_reducible refine Kd.C_alloc ?_ _) | (with_reducible refine Kd.C_drewN ?_ _) | (with_reducible refine Kd.C_drew ?_)))
                (case side2 => exact (Kd.V_reads' HO0_0.out).2.1)
                rintro e w31 ⟨v864, rfl, ho0, hb⟩
                refine ⟨_, rfl, ?_⟩
                have n0_ := Aside0.mk (Kd.V_elder' (qv HO0_0.out) (Kd.R_base ho0) hb)
                have n1_ := Aside0.mk (Kd.V_elder' (qv HO1_0.out) (Kd.R_base ho0) hb)
                have n2_ := Aside0.mk (Kd.N_elder' (qn HO860.out) (Kd.R_base ho0) hb)
                have n3_ := Aside0.mk (Kd.R_lower (Kd.R_newM (M := fun k_ => (w.heap.size ≤ k_)) ho0 (below_size (gx [gb855, gb856, gb873] ⟨GE855.out, GE856.out, GE873.out, trivial⟩ HB.out)) (fun k_ h_ => h_)) (below_size (gx [gb855, gb856, gb873] ⟨GE855.out, GE856.out, GE873.out, trivial⟩ HB.out)))
                have n4_ := Aside0.mk (blk_below (g := gb855) (o := .cells #[.slice A0_0 l0_0.length c0_0] 24 (0, 0)) (qb BK855.out) hb)
                have n5_ := Aside0.mk (blk_below (g := gb856) (o := .cells #[.slice A1_0 l1_0.length c1_0] 24 (0, 0)) (qb BK856.out) hb)
                have n6_ := Aside0.mk (blk_below (g := gb873) (o := .cells #[.slice none 0 0] 24 (0, 0)) (qb BK873.out) hb)
                have n7_ := Aside0.mk (below_step (gx [gb855, gb856, gb873] ⟨GE855.out, GE856.out, GE873.out, trivial⟩ HB.out) hb)
                clear HO0_0
                clear HO1_0
                clear HO860
                clear BK855
                clear BK856
                clear BK873
                clear HB
                have HO0_0 := n0_
                have HO1_0 := n1_
                have HO860 := n2_
                have HO865 := n3_
                have BK855 := n4_
                have BK856 := n5_
                have BK873 := n6_
                have HB := n7_
                clear n0_ n1_ n2_ n3_ n4_ n5_ n6_ n7_
                (try clear hb)
                (try clear hb2)
                (try clear hk)
                (try clear hi)
                (try clear ho0)
                refine hK.out _ _ ⟨(blk_cell BK855.out 0).trans rfl, (blk_cell BK856.out 0).trans rfl⟩ (fun hHeld => ?_)
                clear hK K
                refine norm_ (a' := ?_) ?_ ?_
                rotate_left
                · show Act.put _ (some 25) _ = _
                  simp only [Act.put, List.setIfInBounds_toArray, List.set_cons_zero, List.set_cons_succ, i64_w, i32_w]
                  rfl
                refine one_ (i := 3) (N := some 27) #[true, true, true, true, false, false, false, false, true, false, false] rfl rfl (one_of HT_.out (by kernel_rfl)) (by decide) (fun K hK => ?_)
                refine goes_ Tryd.func15 (by kernel_rfl) rfl #[.agg #[.slice A1_0 l1_0.length c1_0]] (by rfl) rfl rfl (by (try simp only [List.map_toArray, List.map_cons, List.map_nil]); first | done | rfl | (simp only [List.length_drop, List.length_take]; rfl)) ?_
                with_reducible refine (ancepslaw02_copied.calls _ _ l1_0 t866 _ ?side1 ?side2 A8.out).mono ?_
                (case side1 => repeat (first | exact (Kd.V_reads' HO1_0.out).2.2 | (with_reducible refine Kd.C_alloc ?_ _) | (with_reducible refine Kd.C_drewN ?_ _) | (with_reducible refine Kd.C_drew ?_)))
                (case side2 => exact (Kd.V_reads' HO1_0.out).2.1)
                rintro e w32 ⟨v867, rfl, ho0, hb⟩
                refine ⟨_, rfl, ?_⟩
                have n0_ := Aside0.mk (Kd.V_elder' (qv HO0_0.out) (Kd.R_base ho0) hb)
                have n1_ := Aside0.mk (Kd.V_elder' (qv HO1_0.out) (Kd.R_base ho0) hb)
                have n2_ := Aside0.mk (Kd.N_elder' (qn HO860.out) (Kd.R_base ho0) hb)
                have n3_ := Aside0.mk (Kd.R_elder' (qr HO865.out) (Kd.R_base ho0) hb)
                have n4_ := Aside0.mk (Kd.R_lower (Kd.R_new' (Kd.R_newM (M := fun k_ => (w.heap.size ≤ k_)) ho0 (below_size (gx [gb855, gb856, gb873] ⟨GE855.out, GE856.out, GE873.out, trivial⟩ HB.out)) (fun k_ h_ => h_)) (Kd.R_lt (qr HO865.out))) (below_size (gx [gb855, gb856, gb873] ⟨GE855.out, GE856.out, GE873.out, trivial⟩ HB.out)))
                have n5_ := Aside0.mk (blk_below (g := gb855) (o := .cells #[.slice A0_0 l0_0.length c0_0] 24 (0, 0)) (qb BK855.out) hb)
                have n6_ := Aside0.mk (blk_below (g := gb856) (o := .cells #[.slice A1_0 l1_0.length c1_0] 24 (0, 0)) (qb BK856.out) hb)
                have n7_ := Aside0.mk (blk_below (g := gb873) (o := .cells #[.slice none 0 0] 24 (0, 0)) (qb BK873.out) hb)
                have n8_ := Aside0.mk (below_step (gx [gb855, gb856, gb873] ⟨GE855.out, GE856.out, GE873.out, trivial⟩ HB.out) hb)
                clear HO0_0
                clear HO1_0
                clear HO860
                clear HO865
                clear BK855
                clear BK856
                clear BK873
                clear HB
                have HO0_0 := n0_
                have HO1_0 := n1_
                have HO860 := n2_
                have HO865 := n3_
                have HO868 := n4_
                have BK855 := n5_
                have BK856 := n6_
                have BK873 := n7_
                have HB := n8_
                clear n0_ n1_ n2_ n3_ n4_ n5_ n6_ n7_ n8_
                (try clear hb)
                (try clear hb2)
                (try clear hk)
                (try clear hi)
                (try clear ho0)
                obtain ⟨Ao33, co33, eo33⟩ := Kd.R_slice HO865.out
                (first | subst eo33 | (injection eo33 with f1_ f2_ f3_; have f4_ := f1_.symm; have f5_ := f3_.symm; clear f1_ f2_ f3_; subst f4_; subst f5_))
                obtain ⟨Ao34, co34, eo34⟩ := Kd.R_slice HO868.out
                (first | subst eo34 | (injection eo34 with f1_ f2_ f3_; have f4_ := f1_.symm; have f5_ := f3_.symm; clear f1_ f2_ f3_; subst f4_; subst f5_))
                refine hK.out _ _ ⟨(blk_cell BK855.out 0).trans rfl, (blk_cell BK856.out 0).trans rfl⟩ (fun hHeld => ?_)
                clear hK K
                refine norm_ (a' := ?_) ?_ ?_
                rotate_left
                · show Act.put _ (some 27) _ = _
                  simp only [Act.put, List.setIfInBounds_toArray, List.set_cons_zero, List.set_cons_succ, i64_w, i32_w]
                  rfl
                refine one_ (i := 4) (N := some 28) #[true, true, true, true, true, false, false, false, true, false, false] rfl rfl (one_of HT_.out (by kernel_rfl)) (by decide) (fun K hK => ?_)
                refine goes_ Tryd.func35 (by kernel_rfl) rfl #[.agg #[.slice Ao33 t863.length co33], .agg #[.slice Ao34 t866.length co34]] (by rfl) rfl rfl (by (try simp only [List.map_toArray, List.map_cons, List.map_nil]); first | done | rfl | (simp only [List.length_drop, List.length_take]; rfl)) ?_
                with_reducible refine (natural_Add.calls k _ _ t863 _ _ t866 t869 t872 _ ?side1 ?side2 ?side3 ?side4 A9.out).mono ?_
                (case side1 => repeat (first | exact (Kd.R_reads' HO865.out).2.2 | (with_reducible refine Kd.C_alloc ?_ _) | (with_reducible refine Kd.C_drewN ?_ _) | (with_reducible refine Kd.C_drew ?_)))
                (case side2 => exact (Kd.R_reads' HO865.out).2.1)
                (case side3 => repeat (first | exact (Kd.R_reads' HO868.out).2.2 | (with_reducible refine Kd.C_alloc ?_ _) | (with_reducible refine Kd.C_drewN ?_ _) | (with_reducible refine Kd.C_drew ?_)))
                (case side4 => exact (Kd.R_reads' HO868.out).2.1)
                rintro e w35 ⟨v870, rfl, ho0, hb⟩
                refine ⟨_, rfl, ?_⟩
                have n0_ := Aside0.mk (Kd.V_below (qv HO0_0.out) hb)
                have n1_ := Aside0.mk (Kd.V_below (qv HO1_0.out) hb)
                have n2_ := Aside0.mk (Kd.N_below (qn HO860.out) hb)
                have n3_ := Aside0.mk (Kd.R_below (qr HO865.out) hb)
                have n4_ := Aside0.mk (Kd.R_below (qr HO868.out) hb)
                have n5_ := Aside0.mk (Kd.V_lower (Kd.V_mono (ok' := fun k_ => ((P0_0_ k_ ∨ P1_0_ k_) ∨ w.heap.size ≤ k_) ∧ some k_ ≠ (.slice Ao28 y858.length co28 : Value).ownBlock ∧ some k_ ≠ (.slice Ao33 t863.length co33 : Value).ownBlock ∧ some k_ ≠ (.slice Ao34 t866.length co34 : Value).ownBlock ∧ k_ ≠ gb855 ∧ k_ ≠ gb856 ∧ k_ ≠ gb873) ho0 (fun k_ hk_ => ⟨(.inr (Nat.le_trans (below_size (gx [gb855, gb856, gb873] ⟨GE855.out, GE856.out, GE873.out, trivial⟩ HB.out)) hk_)), (Kd.fresh' (Kd.N_lt (qn HO860.out)) k_ hk_), (Kd.fresh' (Kd.R_lt (qr HO865.out)) k_ hk_), (Kd.fresh' (Kd.R_lt (qr HO868.out)) k_ hk_), (Kd.freshB (g := gb855) (o := .cells #[.slice A0_0 l0_0.length c0_0] 24 (0, 0)) (qb BK855.out) k_ hk_), (Kd.freshB (g := gb856) (o := .cells #[.slice A1_0 l1_0.length c1_0] 24 (0, 0)) (qb BK856.out) k_ hk_), (Kd.freshB (g := gb873) (o := .cells #[.slice none 0 0] 24 (0, 0)) (qb BK873.out) k_ hk_)⟩)) (below_size (gx [gb855, gb856, gb873] ⟨GE855.out, GE856.out, GE873.out, trivial⟩ HB.out)))
                have n6_ := Aside0.mk (blk_below (g := gb855) (o := .cells #[.slice A0_0 l0_0.length c0_0] 24 (0, 0)) (qb BK855.out) hb)
                have n7_ := Aside0.mk (blk_below (g := gb856) (o := .cells #[.slice A1_0 l1_0.length c1_0] 24 (0, 0)) (qb BK856.out) hb)
                have n8_ := Aside0.mk (blk_below (g := gb873) (o := .cells #[.slice none 0 0] 24 (0, 0)) (qb BK873.out) hb)
                have n9_ := Aside0.mk (below_step (gx [gb855, gb856, gb873] ⟨GE855.out, GE856.out, GE873.out, trivial⟩ HB.out) hb)
                clear HO0_0
                clear HO1_0
                clear HO860
                clear HO865
                clear HO868
                clear BK855
                clear BK856
                clear BK873
                clear HB
                have HO0_0 := n0_
                have HO1_0 := n1_
                have HO860 := n2_
                have HO865 := n3_
                have HO868 := n4_
                have HO871 := n5_
                have BK855 := n6_
                have BK856 := n7_
                have BK873 := n8_
                have HB := n9_
                clear n0_ n1_ n2_ n3_ n4_ n5_ n6_ n7_ n8_ n9_
                (try clear hb)
                (try clear hb2)
                (try clear hk)
                (try clear hi)
                (try clear ho0)
                refine hK.out _ _ ⟨(blk_cell BK855.out 0).trans rfl, (blk_cell BK856.out 0).trans rfl⟩ (fun hHeld => ?_)
                clear hK K
                refine norm_ (a' := ?_) ?_ ?_
                rotate_left
                · show Act.put _ (some 28) _ = _
                  simp only [Act.put, List.setIfInBounds_toArray, List.set_cons_zero, List.set_cons_succ, i64_w, i32_w]
                  rfl
                refine pure_ (i := 5) (N := some 23) (v := ?_) (a' := ?_) #[true, true, true, true, true, true, false, false, true, false, false] rfl rfl (any_of HT_.out (by kernel_rfl)) (fun _ _ _ h => h) (Or.inl ⟨by rfl, ?_⟩) ?_ ?_
                rotate_left
                · intro w'
                  go_simp
                  with_reducible rfl
                rotate_left
                · simp only [Act.put, List.setIfInBounds_toArray, List.set_cons_zero, List.set_cons_succ, i64_w, i32_w]
                  rfl
                refine pure_ (i := 6) (N := some 29) (v := ?_) (a' := ?_) #[true, true, true, true, true, true, true, false, true, false, false] rfl rfl (any_of HT_.out (by kernel_rfl)) (fun _ _ _ h => h) (Or.inl ⟨by rfl, ?_⟩) ?_ ?_
                rotate_left
                · intro w'
                  go_simp
                  with_reducible rfl
                rotate_left
                · simp only [Act.put, List.setIfInBounds_toArray, List.set_cons_zero, List.set_cons_succ, i64_w, i32_w]
                  rfl
                refine pure_ (i := 7) (N := some 30) (v := ?_) (a' := ?_) #[true, true, true, true, true, true, true, true, true, false, false] rfl rfl (any_of HT_.out (by kernel_rfl)) (fun _ _ _ h => h) (Or.inl ⟨by rfl, ?_⟩) ?_ ?_
                rotate_left
                · intro w'
                  go_simp
                  with_reducible rfl
                rotate_left
                · simp only [Act.put, List.setIfInBounds_toArray, List.set_cons_zero, List.set_cons_succ, i64_w, i32_w]
                  rfl
                exact norm_ (by simp only [putAll, Act.put, List.setIfInBounds_toArray, List.set_cons_zero, List.set_cons_succ]) (hCont (.slice Ao33 t863.length co33, .slice Ao34 t866.length co34, v870, gb873) _ ⟨hHeld, (by (with_reducible repeat (first | apply Kd.V_alloc | apply Kd.V_drewN | apply Kd.V_drew)); exact Kd.V_mono HO0_0.out (fun _ hk => by first | exact ⟨hk.1.1.1.1.1.1, ⟨hk.1.1.1.2, ⟨hk.1.2, ⟨hk.2, ⟨hk.1.1.1.1.1.2, ⟨hk.1.1.1.1.2, hk.1.1.2⟩⟩⟩⟩⟩⟩ | grind)), (by (with_reducible repeat (first | apply Kd.V_alloc | apply Kd.V_drewN | apply Kd.V_drew)); exact Kd.V_mono HO1_0.out (fun _ hk => by first | exact ⟨hk.1.1.1.1.1.1, ⟨hk.1.1.1.2, ⟨hk.1.2, ⟨hk.2, ⟨hk.1.1.1.1.1.2, ⟨hk.1.1.1.1.2, hk.1.1.2⟩⟩⟩⟩⟩⟩ | grind)), (by (with_reducible repeat (first | apply Kd.N_alloc | apply Kd.N_drewN | apply Kd.N_drew)); exact Kd.N_mono HO860.out (fun _ hk => by first | exact ⟨hk.1.1.1.1, ⟨hk.1.2, ⟨hk.2, ⟨hk.1.1.1.2.1, ⟨hk.1.1.1.2.2, hk.1.1.2⟩⟩⟩⟩⟩ | grind)), (by (with_reducible repeat (first | apply Kd.R_alloc | apply Kd.R_drewN | apply Kd.R_drew)); exact Kd.R_mono HO865.out (fun _ hk => by first | exact ⟨hk.1.1, hk.2⟩ | grind)), (by (with_reducible repeat (first | apply Kd.R_alloc | apply Kd.R_drewN | apply Kd.R_drew)); exact Kd.R_mono HO868.out (fun _ hk => by first | exact ⟨hk.1.1, hk.2⟩ | grind)), (qv HO871.out), (qb BK855.out), (qb BK856.out), (qb BK873.out), GW873.out, GE873.out, NB855_873.out, NB873_855.out, NB856_873.out, NB873_856.out, (gx [gb855, gb856, gb873] ⟨GE855.out, GE856.out, GE873.out, trivial⟩ HB.out)⟩)
            rintro ⟨v864, v867, v870, gb873⟩ w36 ⟨hS_, h0_, h1_, h2_, h3_, h4_, h5_, h6_, h7_, h8_, h9_, h10_, h11_, h12_, h13_, h14_, h15_⟩
            have n0_ : Aside0 (Kd.V (Kd.int .i64) 3 w36 w.heap.size (fun k_ => ((P0_0_ k_ ∨ P1_0_ k_) ∨ w.heap.size ≤ k_) ∧ some k_ ≠ (.slice Ao28 y858.length co28 : Value).ownBlock ∧ some k_ ≠ (v864 : Value).ownBlock ∧ some k_ ≠ (v867 : Value).ownBlock ∧ k_ ≠ gb855 ∧ k_ ≠ gb856 ∧ k_ ≠ gb873) (.slice A0_0 l0_0.length c0_0) l0_0) := ⟨h0_⟩
            have n1_ : Aside0 (Kd.V (Kd.int .i64) 3 w36 w.heap.size (fun k_ => ((P0_0_ k_ ∨ P1_0_ k_) ∨ w.heap.size ≤ k_) ∧ some k_ ≠ (.slice Ao28 y858.length co28 : Value).ownBlock ∧ some k_ ≠ (v864 : Value).ownBlock ∧ some k_ ≠ (v867 : Value).ownBlock ∧ k_ ≠ gb855 ∧ k_ ≠ gb856 ∧ k_ ≠ gb873) (.slice A1_0 l1_0.length c1_0) l1_0) := ⟨h1_⟩
            have n2_ : Aside0 (Kd.N k24 24 w36 w.heap.size (fun k_ => ((P0_0_ k_ ∨ P1_0_ k_) ∨ w.heap.size ≤ k_) ∧ some k_ ≠ (v864 : Value).ownBlock ∧ some k_ ≠ (v867 : Value).ownBlock ∧ k_ ≠ gb855 ∧ k_ ≠ gb856 ∧ k_ ≠ gb873) (.slice Ao28 y858.length co28) y858) := ⟨h2_⟩
            have n3_ : Aside0 (Kd.R (Kd.int .i64) 3 w36 w.heap.size (fun k_ => (w.heap.size ≤ k_) ∧ some k_ ≠ (v867 : Value).ownBlock) v864 t863) := ⟨h3_⟩
            have n4_ : Aside0 (Kd.R (Kd.int .i64) 3 w36 w.heap.size (fun k_ => (w.heap.size ≤ k_) ∧ some k_ ≠ (v864 : Value).ownBlock) v867 t866) := ⟨h4_⟩
            have n5_ : Aside0 (Kd.V (Kd.int .i64) 3 w36 w.heap.size (fun k_ => ((P0_0_ k_ ∨ P1_0_ k_) ∨ w.heap.size ≤ k_) ∧ some k_ ≠ (.slice Ao28 y858.length co28 : Value).ownBlock ∧ some k_ ≠ (v864 : Value).ownBlock ∧ some k_ ≠ (v867 : Value).ownBlock ∧ k_ ≠ gb855 ∧ k_ ≠ gb856 ∧ k_ ≠ gb873) v870 t869) := ⟨h5_⟩
            have n6_ : Aside0 (w36.heap[gb855]? = some (.cells #[.slice A0_0 l0_0.length c0_0] 24 (0, 0))) := ⟨h6_⟩
            have n7_ : Aside0 (w36.heap[gb856]? = some (.cells #[.slice A1_0 l1_0.length c1_0] 24 (0, 0))) := ⟨h7_⟩
            have n8_ : Aside0 (w36.heap[gb873]? = some (.cells #[.slice none 0 0] 24 (0, 0))) := ⟨h8_⟩
            have n9_ : Aside0 (w.heap.size ≤ gb873) := ⟨h9_⟩
            have n10_ : Aside0 (w.heap.size ≤ gb873) := ⟨h10_⟩
            have n11_ : Aside0 (gb855 ≠ gb873) := ⟨h11_⟩
            have n12_ : Aside0 (gb873 ≠ gb855) := ⟨h12_⟩
            have n13_ : Aside0 (gb856 ≠ gb873) := ⟨h13_⟩
            have n14_ : Aside0 (gb873 ≠ gb856) := ⟨h14_⟩
            have n15_ : Aside0 (Below w.heap.size w w36) := ⟨h15_⟩
            clear HO0_0
            clear HO1_0
            clear HO860
            clear BK855
            clear BK856
            clear HB
            clear h0_ h1_ h2_ h3_ h4_ h5_ h6_ h7_ h8_ h9_ h10_ h11_ h12_ h13_ h14_ h15_
            have HO0_0 := n0_
            have HO1_0 := n1_
            have HO860 := n2_
            have HO865 := n3_
            have HO868 := n4_
            have HO871 := n5_
            have BK855 := n6_
            have BK856 := n7_
            have BK873 := n8_
            have GW873 := n9_
            have GE873 := n10_
            have NB855_873 := n11_
            have NB873_855 := n12_
            have NB856_873 := n13_
            have NB873_856 := n14_
            have HB := n15_
            clear n0_ n1_ n2_ n3_ n4_ n5_ n6_ n7_ n8_ n9_ n10_ n11_ n12_ n13_ n14_ n15_
            have hHeld : w36.cell? ⟨gb855, 0, none⟩ = some (.slice A0_0 l0_0.length c0_0) ∧ w36.cell? ⟨gb856, 0, none⟩ = some (.slice A1_0 l1_0.length c1_0) := hS_
            obtain ⟨Ao37, co37, eo37⟩ := Kd.V_slice HO871.out
            (first | subst eo37 | (injection eo37 with f1_ f2_ f3_; have f4_ := f1_.symm; have f5_ := f3_.symm; clear f1_ f2_ f3_; subst f4_; subst f5_))
            refine norm_ (a' := ?_) ?_ ?_
            rotate_left
            · simp only [putAll, Act.put, List.setIfInBounds_toArray, List.set_cons_zero, List.set_cons_succ]
              rfl
            refine one_ (i := 9) (N := none) #[true, true, true, true, true, true, true, true, true, true, false] rfl rfl (one_of HT_.out (by kernel_rfl)) (by decide) (fun K hK => ?_)
            have hs38 : w36.cell? ⟨gb873, 0, none⟩ = some (.slice none 0 0) := (blk_cell BK873.out 0).trans rfl
            have hfs38 := blk_frozen BK873.out 0
            have hns38_0 := NB855_873.out
            have hns38_1 := NB856_873.out
            have hms38_0 := NB873_855.out
            have hms38_1 := NB873_856.out
            refine skip_ (w1 := ?_) (by rfl) rfl ?_ ?_
            rotate_left
            · go_simp
              rfl
            refine hK.out _ _ ⟨((cell_far (p := ⟨gb873, _, none⟩) NB855_873.out _).trans (hHeld.1)), ((cell_far (p := ⟨gb873, _, none⟩) NB856_873.out _).trans (hHeld.2))⟩ (fun hHeld => ?_)
            clear hK K
            refine pure_ (i := 10) (N := some 6) (v := ?_) (a' := ?_) #[true, true, true, true, true, true, true, true, true, true, true] rfl rfl (any_of HT_.out (by kernel_rfl)) (fun _ _ _ h => h) (Or.inl ⟨by rfl, ?_⟩) ?_ ?_
            rotate_left
            · intro w'
              go_simp
              with_reducible rfl
            rotate_left
            · simp only [Act.put, List.setIfInBounds_toArray, List.set_cons_zero, List.set_cons_succ, i64_w, i32_w]
              rfl
            refine done_ (done_of HT_.out (by kernel_rfl)) ?_
            have hnb39 := NB855_873.out
            have hnc39 := NB873_855.out
            have hcz40_0 : w36.cell? ⟨gb855, 0, none⟩ = some (.slice A0_0 l0_0.length c0_0) := (blk_cell BK855.out 0).trans rfl
            have hfz40_0 := blk_frozen BK855.out 0
            have hnb41 := NB856_873.out
            have hnc41 := NB873_856.out
            have hcz42_0 : w36.cell? ⟨gb856, 0, none⟩ = some (.slice A1_0 l1_0.length c1_0) := (blk_cell BK856.out 0).trans rfl
            have hfz42_0 := blk_frozen BK856.out 0
            try go_wp2_with (first | ((with_reducible refine gate_callee (f := 37) rfl ?_); refine goesL_ (some 34) rfl rfl Tryd.func37 (by kernel_rfl) rfl #[.agg #[.slice A0_0 l0_0.length c0_0], .agg #[.slice A1_0 l1_0.length c1_0]] rfl (by (try simp only [List.map_toArray, List.map_cons, List.map_nil]); first | done | rfl | (simp only [List.length_drop, List.length_take]; rfl)) ?_; (with_reducible refine (ancepsref02_Add.calls k _ _ l0_0 _ _ l1_0 t874 t877 _ ?side1 ?side2 ?side3 ?side4 A10.out).mono ?_); (case side1 => refine (Kd.V_reads' (e := 3) (base := w.heap.size) (ok := fun k_ => ((((P0_0_ k_ ∨ P1_0_ k_) ∨ w.heap.size ≤ k_)) ∧ (some k_ ≠ (.slice Ao28 y858.length co28 : Value).ownBlock ∧ (some k_ ≠ (v864 : Value).ownBlock ∧ (some k_ ≠ (v867 : Value).ownBlock ∧ (k_ ≠ gb855 ∧ (k_ ≠ gb856 ∧ k_ ≠ gb873))))))) (n := l0_0.length) (c := c0_0) ?_).2.2; exact (by (with_reducible repeat (first | apply Kd.V_alloc | apply Kd.V_drewN | apply Kd.V_drew)); exact (Kd.V_mono (Kd.V_far (p := ⟨gb873, 0, none⟩) (Kd.V_mono HO0_0.out (fun k_ hk => (⟨hk, hk.2.2.2.2.2.2⟩ : _ ∧ k_ ≠ gb873))) (fun _ hk => by first | exact hk.2 | grind) (.slice Ao37 t869.length co37)) (fun _ h_ => by first | exact h_.1 | grind)))); (case side2 => exact (Kd.V_reads' HO0_0.out).2.1); (case side3 => refine (Kd.V_reads' (e := 3) (base := w.heap.size) (ok := fun k_ => ((((P0_0_ k_ ∨ P1_0_ k_) ∨ w.heap.size ≤ k_)) ∧ (some k_ ≠ (.slice Ao28 y858.length co28 : Value).ownBlock ∧ (some k_ ≠ (v864 : Value).ownBlock ∧ (some k_ ≠ (v867 : Value).ownBlock ∧ (k_ ≠ gb855 ∧ (k_ ≠ gb856 ∧ k_ ≠ gb873))))))) (n := l1_0.length) (c := c1_0) ?_).2.2; exact (by (with_reducible repeat (first | apply Kd.V_alloc | apply Kd.V_drewN | apply Kd.V_drew)); exact (Kd.V_mono (Kd.V_far (p := ⟨gb873, 0, none⟩) (Kd.V_mono HO1_0.out (fun k_ hk => (⟨hk, hk.2.2.2.2.2.2⟩ : _ ∧ k_ ≠ gb873))) (fun _ hk => by first | exact hk.2 | grind) (.slice Ao37 t869.length co37)) (fun _ h_ => by first | exact h_.1 | grind)))); (case side4 => exact (Kd.V_reads' HO1_0.out).2.1); rintro e w43 ⟨v875, rfl, ho0, hb⟩; refine ⟨_, rfl, ?_⟩; have n0_ := Aside0.mk (Kd.V_below (by (with_reducible repeat (first | apply Kd.V_alloc | apply Kd.V_drewN | apply Kd.V_drew)); exact (Kd.V_mono (Kd.V_far (p := ⟨gb873, 0, none⟩) (Kd.V_mono HO0_0.out (fun k_ hk => (⟨hk, hk.2.2.2.2.2.2⟩ : _ ∧ k_ ≠ gb873))) (fun _ hk => by first | exact hk.2 | grind) (.slice Ao37 t869.length co37)) (fun _ h_ => by first | exact h_.1 | grind))) hb); have n1_ := Aside0.mk (Kd.V_below (by (with_reducible repeat (first | apply Kd.V_alloc | apply Kd.V_drewN | apply Kd.V_drew)); exact (Kd.V_mono (Kd.V_far (p := ⟨gb873, 0, none⟩) (Kd.V_mono HO1_0.out (fun k_ hk => (⟨hk, hk.2.2.2.2.2.2⟩ : _ ∧ k_ ≠ gb873))) (fun _ hk => by first | exact hk.2 | grind) (.slice Ao37 t869.length co37)) (fun _ h_ => by first | exact h_.1 | grind))) hb); have n2_ := Aside0.mk (Kd.N_below (by (with_reducible repeat (first | apply Kd.N_alloc | apply Kd.N_drewN | apply Kd.N_drew)); exact (Kd.N_mono (Kd.N_far (p := ⟨gb873, 0, none⟩) (Kd.N_mono HO860.out (fun k_ hk => (⟨hk, hk.2.2.2.2.2⟩ : _ ∧ k_ ≠ gb873))) (fun _ hk => by first | exact hk.2 | grind) (.slice Ao37 t869.length co37)) (fun _ h_ => by first | exact h_.1 | grind))) hb); have n3_ := Aside0.mk (Kd.R_below (by (with_reducible repeat (first | apply Kd.R_alloc | apply Kd.R_drewN | apply Kd.R_drew)); exact (Kd.R_mono (Kd.R_far (p := ⟨gb873, 0, none⟩) (Kd.R_types HO865.out BK873.out (by decide)) (fun _ hk => by first | exact hk.2 | grind) (.slice Ao37 t869.length co37)) (fun _ h_ => by first | exact h_.1 | grind))) hb); have n4_ := Aside0.mk (Kd.R_below (by (with_reducible repeat (first | apply Kd.R_alloc | apply Kd.R_drewN | apply Kd.R_drew)); exact (Kd.R_mono (Kd.R_far (p := ⟨gb873, 0, none⟩) (Kd.R_types HO868.out BK873.out (by decide)) (fun _ hk => by first | exact hk.2 | grind) (.slice Ao37 t869.length co37)) (fun _ h_ => by first | exact h_.1 | grind))) hb); have n5_ := Aside0.mk (Kd.V_below (by (with_reducible repeat (first | apply Kd.V_alloc | apply Kd.V_drewN | apply Kd.V_drew)); exact (Kd.V_mono (Kd.V_far (p := ⟨gb873, 0, none⟩) (Kd.V_mono HO871.out (fun k_ hk => (⟨hk, hk.2.2.2.2.2.2⟩ : _ ∧ k_ ≠ gb873))) (fun _ hk => by first | exact hk.2 | grind) (.slice Ao37 t869.length co37)) (fun _ h_ => by first | exact h_.1 | grind))) hb); have n6_ := Aside0.mk (Kd.V_lower (Kd.V_mono (ok' := fun k_ => ((P0_0_ k_ ∨ P1_0_ k_) ∨ w.heap.size ≤ k_) ∧ some k_ ≠ (.slice Ao28 y858.length co28 : Value).ownBlock ∧ some k_ ≠ (v864 : Value).ownBlock ∧ some k_ ≠ (v867 : Value).ownBlock ∧ k_ ≠ gb855 ∧ k_ ≠ gb856 ∧ k_ ≠ gb873) ho0 (fun k_ hk_ => ⟨(.inr (Nat.le_trans (below_size (gx [gb855, gb856, gb873] ⟨GE855.out, GE856.out, GE873.out, trivial⟩ HB.out)) hk_)), (Kd.fresh' (Kd.N_lt (by (with_reducible repeat (first | apply Kd.N_alloc | apply Kd.N_drewN | apply Kd.N_drew)); exact (Kd.N_mono (Kd.N_far (p := ⟨gb873, 0, none⟩) (Kd.N_mono HO860.out (fun k_ hk => (⟨hk, hk.2.2.2.2.2⟩ : _ ∧ k_ ≠ gb873))) (fun _ hk => by first | exact hk.2 | grind) (.slice Ao37 t869.length co37)) (fun _ h_ => by first | exact h_.1 | grind)))) k_ hk_), (Kd.fresh' (Kd.R_lt (by (with_reducible repeat (first | apply Kd.R_alloc | apply Kd.R_drewN | apply Kd.R_drew)); exact (Kd.R_mono (Kd.R_far (p := ⟨gb873, 0, none⟩) (Kd.R_types HO865.out BK873.out (by decide)) (fun _ hk => by first | exact hk.2 | grind) (.slice Ao37 t869.length co37)) (fun _ h_ => by first | exact h_.1 | grind)))) k_ hk_), (Kd.fresh' (Kd.R_lt (by (with_reducible repeat (first | apply Kd.R_alloc | apply Kd.R_drewN | apply Kd.R_drew)); exact (Kd.R_mono (Kd.R_far (p := ⟨gb873, 0, none⟩) (Kd.R_types HO868.out BK873.out (by decide)) (fun _ hk => by first | exact hk.2 | grind) (.slice Ao37 t869.length co37)) (fun _ h_ => by first | exact h_.1 | grind)))) k_ hk_), (Kd.freshB (g := gb855) (o := .cells #[.slice A0_0 l0_0.length c0_0] 24 (0, 0)) (by (with_reducible repeat (first | refine blk_drewN ?_ _ | refine blk_drew ?_ | refine blk_alloc ?_ _)); refine blk_far ?_ NB855_873.out _; (with_reducible repeat (first | refine blk_drewN ?_ _ | refine blk_drew ?_ | refine blk_alloc ?_ _)); exact BK855.out) k_ hk_), (Kd.freshB (g := gb856) (o := .cells #[.slice A1_0 l1_0.length c1_0] 24 (0, 0)) (by (with_reducible repeat (first | refine blk_drewN ?_ _ | refine blk_drew ?_ | refine blk_alloc ?_ _)); refine blk_far ?_ NB856_873.out _; (with_reducible repeat (first | refine blk_drewN ?_ _ | refine blk_drew ?_ | refine blk_alloc ?_ _)); exact BK856.out) k_ hk_), (Kd.freshB (g := gb873) (o := .cells #[.slice Ao37 t869.length co37] 24 (0, 0)) (by (with_reducible repeat (first | refine blk_drewN ?_ _ | refine blk_drew ?_ | refine blk_alloc ?_ _)); refine blk_put (cs := #[.slice none 0 0]) ?_ 0 _ rfl; (with_reducible repeat (first | refine blk_drewN ?_ _ | refine blk_drew ?_ | refine blk_alloc ?_ _)); exact BK873.out) k_ hk_)⟩)) (below_size (gx [gb855, gb856, gb873] ⟨GE855.out, GE856.out, GE873.out, trivial⟩ HB.out))); have n7_ := Aside0.mk (blk_below (g := gb855) (o := .cells #[.slice A0_0 l0_0.length c0_0] 24 (0, 0)) (by (with_reducible repeat (first | refine blk_drewN ?_ _ | refine blk_drew ?_ | refine blk_alloc ?_ _)); refine blk_far ?_ NB855_873.out _; (with_reducible repeat (first | refine blk_drewN ?_ _ | refine blk_drew ?_ | refine blk_alloc ?_ _)); exact BK855.out) hb); have n8_ := Aside0.mk (blk_below (g := gb856) (o := .cells #[.slice A1_0 l1_0.length c1_0] 24 (0, 0)) (by (with_reducible repeat (first | refine blk_drewN ?_ _ | refine blk_drew ?_ | refine blk_alloc ?_ _)); refine blk_far ?_ NB856_873.out _; (with_reducible repeat (first | refine blk_drewN ?_ _ | refine blk_drew ?_ | refine blk_alloc ?_ _)); exact BK856.out) hb); have n9_ := Aside0.mk (blk_below (g := gb873) (o := .cells #[.slice Ao37 t869.length co37] 24 (0, 0)) (by (with_reducible repeat (first | refine blk_drewN ?_ _ | refine blk_drew ?_ | refine blk_alloc ?_ _)); refine blk_put (cs := #[.slice none 0 0]) ?_ 0 _ rfl; (with_reducible repeat (first | refine blk_drewN ?_ _ | refine blk_drew ?_ | refine blk_alloc ?_ _)); exact BK873.out) hb); have n10_ := Aside0.mk (below_step (gx [gb855, gb856, gb873] ⟨GE855.out, GE856.out, GE873.out, trivial⟩ HB.out) hb); clear HO0_0; clear HO1_0; clear HO860; clear HO865; clear HO868; clear HO871; clear BK855; clear BK856; clear BK873; clear HB; have HO0_0 := n0_; have HO1_0 := n1_; have HO860 := n2_; have HO865 := n3_; have HO868 := n4_; have HO871 := n5_; have HO876 := n6_; have BK855 := n7_; have BK856 := n8_; have BK873 := n9_; have HB := n10_; clear n0_ n1_ n2_ n3_ n4_ n5_ n6_ n7_ n8_ n9_ n10_; (try clear hb); (try clear hb2); (try clear hk); (try clear hi); (try clear ho0)) | ((with_reducible refine gate_dst (N := 7) rfl ?_); (try (refine gate_guard (by rfl) ?_; dsimp only)); refine box_event ?hg (N := 7) ?hd (cs := #[.slice none 0 0]) (t := 24) ?hr ?_; (case hd => rfl); (case hg => rfl); (case hr => first | (go_simp; done) | (go_simp; rfl)); intro gb878 hg w44 hbox hb; have n0_ := Aside0.mk (Kd.V_below (Kd.V_elderB (qv HO0_0.out) gb878 (Nat.le_of_eq hg.symm)) hb); have n1_ := Aside0.mk (Kd.V_below (Kd.V_elderB (qv HO1_0.out) gb878 (Nat.le_of_eq hg.symm)) hb); have n2_ := Aside0.mk (Kd.N_below (Kd.N_elderB (qn HO860.out) gb878 (Nat.le_of_eq hg.symm)) hb); have n3_ := Aside0.mk (Kd.R_below (qr HO865.out) hb); have n4_ := Aside0.mk (Kd.R_below (qr HO868.out) hb); have n5_ := Aside0.mk (Kd.V_below (Kd.V_elderB (qv HO871.out) gb878 (Nat.le_of_eq hg.symm)) hb); have n6_ := Aside0.mk (Kd.V_below (Kd.V_elderB (qv HO876.out) gb878 (Nat.le_of_eq hg.symm)) hb); have n7_ := Aside0.mk (blk_below (g := gb855) (o := .cells #[.slice A0_0 l0_0.length c0_0] 24 (0, 0)) (qb BK855.out) hb); have n8_ := Aside0.mk (blk_below (g := gb856) (o := .cells #[.slice A1_0 l1_0.length c1_0] 24 (0, 0)) (qb BK856.out) hb); have n9_ := Aside0.mk (blk_below (g := gb873) (o := .cells #[.slice Ao37 t869.length co37] 24 (0, 0)) (qb BK873.out) hb); have n10_ := Aside0.mk (below_step (gx [gb855, gb856, gb873] ⟨GE855.out, GE856.out, GE873.out, trivial⟩ HB.out) hb); have n11_ := Aside0.mk (hbox); have n12_ := Aside0.mk ((by rw [hg]; exact (below_size (gx [gb855, gb856, gb873] ⟨GE855.out, GE856.out, GE873.out, trivial⟩ HB.out)) : w.heap.size ≤ gb878)); have n13_ := Aside0.mk ((by rw [hg]; exact (below_size (gx [gb855, gb856, gb873] ⟨GE855.out, GE856.out, GE873.out, trivial⟩ HB.out)) : w.heap.size ≤ gb878)); have n14_ := Aside0.mk ((by rw [hg]; exact Nat.ne_of_lt (blk_lt (g := gb855) (o := .cells #[.slice A0_0 l0_0.length c0_0] 24 (0, 0)) (qb BK855.out)) : gb855 ≠ gb878)); have n15_ := Aside0.mk ((by rw [hg]; exact Nat.ne_of_gt (blk_lt (g := gb855) (o := .cells #[.slice A0_0 l0_0.length c0_0] 24 (0, 0)) (qb BK855.out)) : gb878 ≠ gb855)); have n16_ := Aside0.mk ((by rw [hg]; exact Nat.ne_of_lt (blk_lt (g := gb856) (o := .cells #[.slice A1_0 l1_0.length c1_0] 24 (0, 0)) (qb BK856.out)) : gb856 ≠ gb878)); have n17_ := Aside0.mk ((by rw [hg]; exact Nat.ne_of_gt (blk_lt (g := gb856) (o := .cells #[.slice A1_0 l1_0.length c1_0] 24 (0, 0)) (qb BK856.out)) : gb878 ≠ gb856)); have n18_ := Aside0.mk ((by rw [hg]; exact Nat.ne_of_lt (blk_lt (g := gb873) (o := .cells #[.slice Ao37 t869.length co37] 24 (0, 0)) (qb BK873.out)) : gb873 ≠ gb878)); have n19_ := Aside0.mk ((by rw [hg]; exact Nat.ne_of_gt (blk_lt (g := gb873) (o := .cells #[.slice Ao37 t869.length co37] 24 (0, 0)) (qb BK873.out)) : gb878 ≠ gb873)); clear HO0_0; clear HO1_0; clear HO860; clear HO865; clear HO868; clear HO871; clear HO876; clear BK855; clear BK856; clear BK873; clear HB; have HO0_0 := n0_; have HO1_0 := n1_; have HO860 := n2_; have HO865 := n3_; have HO868 := n4_; have HO871 := n5_; have HO876 := n6_; have BK855 := n7_; have BK856 := n8_; have BK873 := n9_; have HB := n10_; have BK878 := n11_; have GW878 := n12_; have GE878 := n13_; have NB855_878 := n14_; have NB878_855 := n15_; have NB856_878 := n16_; have NB878_856 := n17_; have NB873_878 := n18_; have NB878_873 := n19_; clear n0_ n1_ n2_ n3_ n4_ n5_ n6_ n7_ n8_ n9_ n10_ n11_ n12_ n13_ n14_ n15_ n16_ n17_ n18_ n19_; clear hb hbox hg; obtain ⟨Ao45, co45, eo45⟩ := Kd.V_slice HO876.out; subst eo45; have hnb46 := NB878_855.out; have hnc46 := NB855_878.out; have hnb47 := NB878_856.out; have hnc47 := NB856_878.out; have hnb48 := NB878_873.out; have hnc48 := NB873_878.out; have hcz49_0 : w44.cell? ⟨gb878, 0, none⟩ = some (.slice none 0 0) := (blk_cell BK878.out 0).trans rfl; have hfz49_0 := blk_frozen BK878.out 0))
            have n0_ : Aside0 (Kd.V (Kd.int .i64) 3 (w44.setCell ⟨gb878, 0, none⟩ (.slice Ao45 t874.length co45)) w.heap.size (fun k_ => ((P0_0_ k_ ∨ P1_0_ k_) ∨ w.heap.size ≤ k_) ∧ some k_ ≠ (.slice Ao28 y858.length co28 : Value).ownBlock ∧ some k_ ≠ (v864 : Value).ownBlock ∧ some k_ ≠ (v867 : Value).ownBlock ∧ k_ ≠ gb855 ∧ k_ ≠ gb856 ∧ k_ ≠ gb873 ∧ k_ ≠ gb878) (.slice A0_0 l0_0.length c0_0) l0_0) := ⟨by (with_reducible repeat (first | apply Kd.V_alloc | apply Kd.V_drewN | apply Kd.V_drew)); exact Kd.V_mono (Kd.V_far (p := ⟨gb878, 0, none⟩) (Kd.V_mono HO0_0.out (fun k_ hk => (⟨hk, hk.2⟩ : _ ∧ k_ ≠ gb878))) (fun _ hk => by first | exact hk.2 | grind) (.slice Ao45 t874.length co45)) (fun _ hk => by first | exact ⟨hk.1.1.1, ⟨hk.1.1.2.1, ⟨hk.1.1.2.2.1, ⟨hk.1.1.2.2.2.1, ⟨hk.1.1.2.2.2.2.1, ⟨hk.1.1.2.2.2.2.2.1, ⟨hk.1.1.2.2.2.2.2.2, hk.1.2⟩⟩⟩⟩⟩⟩⟩ | grind)⟩
            have n1_ : Aside0 (Kd.V (Kd.int .i64) 3 (w44.setCell ⟨gb878, 0, none⟩ (.slice Ao45 t874.length co45)) w.heap.size (fun k_ => ((P0_0_ k_ ∨ P1_0_ k_) ∨ w.heap.size ≤ k_) ∧ some k_ ≠ (.slice Ao28 y858.length co28 : Value).ownBlock ∧ some k_ ≠ (v864 : Value).ownBlock ∧ some k_ ≠ (v867 : Value).ownBlock ∧ k_ ≠ gb855 ∧ k_ ≠ gb856 ∧ k_ ≠ gb873 ∧ k_ ≠ gb878) (.slice A1_0 l1_0.length c1_0) l1_0) := ⟨by (with_reducible repeat (first | apply Kd.V_alloc | apply Kd.V_drewN | apply Kd.V_drew)); exact Kd.V_mono (Kd.V_far (p := ⟨gb878, 0, none⟩) (Kd.V_mono HO1_0.out (fun k_ hk => (⟨hk, hk.2⟩ : _ ∧ k_ ≠ gb878))) (fun _ hk => by first | exact hk.2 | grind) (.slice Ao45 t874.length co45)) (fun _ hk => by first | exact ⟨hk.1.1.1, ⟨hk.1.1.2.1, ⟨hk.1.1.2.2.1, ⟨hk.1.1.2.2.2.1, ⟨hk.1.1.2.2.2.2.1, ⟨hk.1.1.2.2.2.2.2.1, ⟨hk.1.1.2.2.2.2.2.2, hk.1.2⟩⟩⟩⟩⟩⟩⟩ | grind)⟩
            have n2_ : Aside0 (Kd.N k24 24 (w44.setCell ⟨gb878, 0, none⟩ (.slice Ao45 t874.length co45)) w.heap.size (fun k_ => ((P0_0_ k_ ∨ P1_0_ k_) ∨ w.heap.size ≤ k_) ∧ some k_ ≠ (v864 : Value).ownBlock ∧ some k_ ≠ (v867 : Value).ownBlock ∧ k_ ≠ gb855 ∧ k_ ≠ gb856 ∧ k_ ≠ gb873 ∧ k_ ≠ gb878) (.slice Ao28 y858.length co28) y858) := ⟨by (with_reducible repeat (first | apply Kd.N_alloc | apply Kd.N_drewN | apply Kd.N_drew)); exact Kd.N_mono (Kd.N_far (p := ⟨gb878, 0, none⟩) (Kd.N_mono HO860.out (fun k_ hk => (⟨hk, hk.2⟩ : _ ∧ k_ ≠ gb878))) (fun _ hk => by first | exact hk.2 | grind) (.slice Ao45 t874.length co45)) (fun _ hk => by first | exact ⟨hk.1.1.1, ⟨hk.1.1.2.1, ⟨hk.1.1.2.2.1, ⟨hk.1.1.2.2.2.1, ⟨hk.1.1.2.2.2.2.1, ⟨hk.1.1.2.2.2.2.2, hk.1.2⟩⟩⟩⟩⟩⟩ | grind)⟩
            have n3_ : Aside0 (Kd.R (Kd.int .i64) 3 (w44.setCell ⟨gb878, 0, none⟩ (.slice Ao45 t874.length co45)) w.heap.size (fun k_ => (w.heap.size ≤ k_) ∧ some k_ ≠ (v867 : Value).ownBlock) v864 t863) := ⟨by (with_reducible repeat (first | apply Kd.R_alloc | apply Kd.R_drewN | apply Kd.R_drew)); exact Kd.R_mono (Kd.R_far (p := ⟨gb878, 0, none⟩) (Kd.R_types HO865.out BK878.out (by decide)) (fun _ hk => by first | exact hk.2 | grind) (.slice Ao45 t874.length co45)) (fun _ hk => by first | exact ⟨hk.1.1, hk.1.2⟩ | grind)⟩
            have n4_ : Aside0 (Kd.R (Kd.int .i64) 3 (w44.setCell ⟨gb878, 0, none⟩ (.slice Ao45 t874.length co45)) w.heap.size (fun k_ => (w.heap.size ≤ k_) ∧ some k_ ≠ (v864 : Value).ownBlock) v867 t866) := ⟨by (with_reducible repeat (first | apply Kd.R_alloc | apply Kd.R_drewN | apply Kd.R_drew)); exact Kd.R_mono (Kd.R_far (p := ⟨gb878, 0, none⟩) (Kd.R_types HO868.out BK878.out (by decide)) (fun _ hk => by first | exact hk.2 | grind) (.slice Ao45 t874.length co45)) (fun _ hk => by first | exact ⟨hk.1.1, hk.1.2⟩ | grind)⟩
            have n5_ : Aside0 (Kd.V (Kd.int .i64) 3 (w44.setCell ⟨gb878, 0, none⟩ (.slice Ao45 t874.length co45)) w.heap.size (fun k_ => ((P0_0_ k_ ∨ P1_0_ k_) ∨ w.heap.size ≤ k_) ∧ some k_ ≠ (.slice Ao28 y858.length co28 : Value).ownBlock ∧ some k_ ≠ (v864 : Value).ownBlock ∧ some k_ ≠ (v867 : Value).ownBlock ∧ k_ ≠ gb855 ∧ k_ ≠ gb856 ∧ k_ ≠ gb873 ∧ k_ ≠ gb878) (.slice Ao37 t869.length co37) t869) := ⟨by (with_reducible repeat (first | apply Kd.V_alloc | apply Kd.V_drewN | apply Kd.V_drew)); exact Kd.V_mono (Kd.V_far (p := ⟨gb878, 0, none⟩) (Kd.V_mono HO871.out (fun k_ hk => (⟨hk, hk.2⟩ : _ ∧ k_ ≠ gb878))) (fun _ hk => by first | exact hk.2 | grind) (.slice Ao45 t874.length co45)) (fun _ hk => by first | exact ⟨hk.1.1.1, ⟨hk.1.1.2.1, ⟨hk.1.1.2.2.1, ⟨hk.1.1.2.2.2.1, ⟨hk.1.1.2.2.2.2.1, ⟨hk.1.1.2.2.2.2.2.1, ⟨hk.1.1.2.2.2.2.2.2, hk.1.2⟩⟩⟩⟩⟩⟩⟩ | grind)⟩
            have n6_ : Aside0 (Kd.V (Kd.int .i64) 3 (w44.setCell ⟨gb878, 0, none⟩ (.slice Ao45 t874.length co45)) w.heap.size (fun k_ => ((P0_0_ k_ ∨ P1_0_ k_) ∨ w.heap.size ≤ k_) ∧ some k_ ≠ (.slice Ao28 y858.length co28 : Value).ownBlock ∧ some k_ ≠ (v864 : Value).ownBlock ∧ some k_ ≠ (v867 : Value).ownBlock ∧ k_ ≠ gb855 ∧ k_ ≠ gb856 ∧ k_ ≠ gb873 ∧ k_ ≠ gb878) (.slice Ao45 t874.length co45) t874) := ⟨by (with_reducible repeat (first | apply Kd.V_alloc | apply Kd.V_drewN | apply Kd.V_drew)); exact Kd.V_mono (Kd.V_far (p := ⟨gb878, 0, none⟩) (Kd.V_mono HO876.out (fun k_ hk => (⟨hk, hk.2⟩ : _ ∧ k_ ≠ gb878))) (fun _ hk => by first | exact hk.2 | grind) (.slice Ao45 t874.length co45)) (fun _ hk => by first | exact ⟨hk.1.1.1, ⟨hk.1.1.2.1, ⟨hk.1.1.2.2.1, ⟨hk.1.1.2.2.2.1, ⟨hk.1.1.2.2.2.2.1, ⟨hk.1.1.2.2.2.2.2.1, ⟨hk.1.1.2.2.2.2.2.2, hk.1.2⟩⟩⟩⟩⟩⟩⟩ | grind)⟩
            have n7_ : Aside0 ((w44.setCell ⟨gb878, 0, none⟩ (.slice Ao45 t874.length co45)).heap[gb855]? = some (.cells #[.slice A0_0 l0_0.length c0_0] 24 (0, 0))) := ⟨by (with_reducible repeat (first | refine blk_drewN ?_ _ | refine blk_drew ?_ | refine blk_alloc ?_ _)); refine blk_far ?_ NB855_878.out _; (with_reducible repeat (first | refine blk_drewN ?_ _ | refine blk_drew ?_ | refine blk_alloc ?_ _)); exact BK855.out⟩
            have n8_ : Aside0 ((w44.setCell ⟨gb878, 0, none⟩ (.slice Ao45 t874.length co45)).heap[gb856]? = some (.cells #[.slice A1_0 l1_0.length c1_0] 24 (0, 0))) := ⟨by (with_reducible repeat (first | refine blk_drewN ?_ _ | refine blk_drew ?_ | refine blk_alloc ?_ _)); refine blk_far ?_ NB856_878.out _; (with_reducible repeat (first | refine blk_drewN ?_ _ | refine blk_drew ?_ | refine blk_alloc ?_ _)); exact BK856.out⟩
            have n9_ : Aside0 ((w44.setCell ⟨gb878, 0, none⟩ (.slice Ao45 t874.length co45)).heap[gb873]? = some (.cells #[.slice Ao37 t869.length co37] 24 (0, 0))) := ⟨by (with_reducible repeat (first | refine blk_drewN ?_ _ | refine blk_drew ?_ | refine blk_alloc ?_ _)); refine blk_far ?_ NB873_878.out _; (with_reducible repeat (first | refine blk_drewN ?_ _ | refine blk_drew ?_ | refine blk_alloc ?_ _)); exact BK873.out⟩
            have n10_ : Aside0 ((w44.setCell ⟨gb878, 0, none⟩ (.slice Ao45 t874.length co45)).heap[gb878]? = some (.cells #[.slice Ao45 t874.length co45] 24 (0, 0))) := ⟨by (with_reducible repeat (first | refine blk_drewN ?_ _ | refine blk_drew ?_ | refine blk_alloc ?_ _)); refine blk_put (cs := #[.slice none 0 0]) ?_ 0 _ rfl; (with_reducible repeat (first | refine blk_drewN ?_ _ | refine blk_drew ?_ | refine blk_alloc ?_ _)); exact BK878.out⟩
            have n11_ : Aside0 (Below w.heap.size w (w44.setCell ⟨gb878, 0, none⟩ (.slice Ao45 t874.length co45))) := ⟨by repeat (first | (with_reducible first | exact HB.out | apply below_alloc | apply pw_below_drewN | apply below_drew1 | refine below_set ?_ GE855.out | refine below_set ?_ GE856.out | refine below_set ?_ GE873.out | refine below_set ?_ GE878.out) | exact HB.out)⟩
            (try clear HO0_0)
            (try clear HO1_0)
            (try clear HO860)
            (try clear HO865)
            (try clear HO868)
            (try clear HO871)
            (try clear HO876)
            (try clear BK855)
            (try clear BK856)
            (try clear BK873)
            (try clear BK878)
            (try clear HB)
            generalize (w44.setCell ⟨gb878, 0, none⟩ (.slice Ao45 t874.length co45)) = w50 at n0_ n1_ n2_ n3_ n4_ n5_ n6_ n7_ n8_ n9_ n10_ n11_ ⊢
            have HO0_0 := n0_
            have HO1_0 := n1_
            have HO860 := n2_
            have HO865 := n3_
            have HO868 := n4_
            have HO871 := n5_
            have HO876 := n6_
            have BK855 := n7_
            have BK856 := n8_
            have BK873 := n9_
            have BK878 := n10_
            have HB := n11_
            clear n0_ n1_ n2_ n3_ n4_ n5_ n6_ n7_ n8_ n9_ n10_ n11_
            have n0_ := Aside0.mk (Kd.V_drew HO0_0.out)
            have n1_ := Aside0.mk (Kd.V_drew HO1_0.out)
            have n2_ := Aside0.mk (Kd.N_drew HO860.out)
            have n3_ := Aside0.mk (Kd.R_drew HO865.out)
            have n4_ := Aside0.mk (Kd.R_drew HO868.out)
            have n5_ := Aside0.mk (Kd.V_drew HO871.out)
            have n6_ := Aside0.mk (Kd.V_drew HO876.out)
            have n7_ := Aside0.mk (blk_drew BK855.out)
            have n8_ := Aside0.mk (blk_drew BK856.out)
            have n9_ := Aside0.mk (blk_drew BK873.out)
            have n10_ := Aside0.mk (blk_drew BK878.out)
            have n11_ := Aside0.mk (below_drew1 HB.out)
            clear HO0_0
            clear HO1_0
            clear HO860
            clear HO865
            clear HO868
            clear HO871
            clear HO876
            clear BK855
            clear BK856
            clear BK873
            clear BK878
            clear HB
            have HO0_0 := n0_
            have HO1_0 := n1_
            have HO860 := n2_
            have HO865 := n3_
            have HO868 := n4_
            have HO871 := n5_
            have HO876 := n6_
            have BK855 := n7_
            have BK856 := n8_
            have BK873 := n9_
            have BK878 := n10_
            have HB := n11_
            clear n0_ n1_ n2_ n3_ n4_ n5_ n6_ n7_ n8_ n9_ n10_ n11_
            refine start_ (n := 11) (S := fun w' => w'.cell? ⟨gb855, 0, none⟩ = some (.slice A0_0 l0_0.length c0_0) ∧ w'.cell? ⟨gb856, 0, none⟩ = some (.slice A1_0 l1_0.length c1_0)) (ds := []) #[false, false, false, false, false, false, false, false, false, false, false] (by kernel_rfl) rfl rfl ⟨(blk_cell BK855.out 0).trans rfl, (blk_cell BK856.out 0).trans rfl⟩ (fun hHeld => ?_); refine with_tabW ancepslaw02_NaturalSums.tab5 ancepslaw02_NaturalSums.bits5 (fun HT_ HW_ => ?_)
            generalize w50.drew = w51 at HO0_0 HO1_0 HO860 HO865 HO868 HO871 HO876 BK855 BK856 BK873 BK878 HB hHeld ⊢
            refine take_ (i := 0) (N := some 38) (v := ?_) (a' := ?_) #[true, false, false, false, false, false, false, false, false, false, false] rfl rfl (take_ofW HT_.out HW_.out (by kernel_rfl)) (fun _ _ _ h => h) (Or.inl ⟨by rfl, ?_⟩) hHeld ?_ ?_
            rotate_left
            · rintro w' ⟨s0, s1⟩
              go_simp
              with_reducible rfl
            rotate_left
            · simp only [Act.put, List.setIfInBounds_toArray, List.set_cons_zero, List.set_cons_succ, i64_w, i32_w]
              rfl
            refine take_ (i := 2) (N := some 40) (v := ?_) (a' := ?_) #[true, false, true, false, false, false, false, false, false, false, false] rfl rfl (take_ofW HT_.out HW_.out (by kernel_rfl)) (fun _ _ _ h => h) (Or.inl ⟨by rfl, ?_⟩) hHeld ?_ ?_
            rotate_left
            · rintro w' ⟨s0, s1⟩
              go_simp
              with_reducible rfl
            rotate_left
            · simp only [Act.put, List.setIfInBounds_toArray, List.set_cons_zero, List.set_cons_succ, i64_w, i32_w]
              rfl
            refine join_ (σ := Value × Value × Value × Nat) 2 #[true, true, true, true, true, true, true, true, true, false, false] (fun s_ => [(39, .agg #[s_.1]), (41, .agg #[s_.2.1]), (42, .tuple #[.agg #[s_.2.2.1], .int .i64 t888]), (9, .pointer (some ⟨s_.2.2.2, 0, none⟩)), (37, .tuple #[.agg #[s_.2.2.1], .int .i64 t888]), (43, .agg #[s_.2.2.1]), (44, .int .i64 t888)]) (fun s_ w' => (w'.cell? ⟨gb855, 0, none⟩ = some (.slice A0_0 l0_0.length c0_0) ∧ w'.cell? ⟨gb856, 0, none⟩ = some (.slice A1_0 l1_0.length c1_0)) ∧ (Kd.V (Kd.int .i64) 3 w' w.heap.size (fun k_ => ((P0_0_ k_ ∨ P1_0_ k_) ∨ w.heap.size ≤ k_) ∧ some k_ ≠ (.slice Ao28 y858.length co28 : Value).ownBlock ∧ some k_ ≠ (v864 : Value).ownBlock ∧ some k_ ≠ (v867 : Value).ownBlock ∧ some k_ ≠ (s_.1 : Value).ownBlock ∧ some k_ ≠ (s_.2.1 : Value).ownBlock ∧ k_ ≠ gb855 ∧ k_ ≠ gb856 ∧ k_ ≠ gb873 ∧ k_ ≠ gb878 ∧ k_ ≠ s_.2.2.2) (.slice A0_0 l0_0.length c0_0) l0_0) ∧ (Kd.V (Kd.int .i64) 3 w' w.heap.size (fun k_ => ((P0_0_ k_ ∨ P1_0_ k_) ∨ w.heap.size ≤ k_) ∧ some k_ ≠ (.slice Ao28 y858.length co28 : Value).ownBlock ∧ some k_ ≠ (v864 : Value).ownBlock ∧ some k_ ≠ (v867 : Value).ownBlock ∧ some k_ ≠ (s_.1 : Value).ownBlock ∧ some k_ ≠ (s_.2.1 : Value).ownBlock ∧ k_ ≠ gb855 ∧ k_ ≠ gb856 ∧ k_ ≠ gb873 ∧ k_ ≠ gb878 ∧ k_ ≠ s_.2.2.2) (.slice A1_0 l1_0.length c1_0) l1_0) ∧ (Kd.N k24 24 w' w.heap.size (fun k_ => ((P0_0_ k_ ∨ P1_0_ k_) ∨ w.heap.size ≤ k_) ∧ some k_ ≠ (v864 : Value).ownBlock ∧ some k_ ≠ (v867 : Value).ownBlock ∧ some k_ ≠ (s_.1 : Value).ownBlock ∧ some k_ ≠ (s_.2.1 : Value).ownBlock ∧ k_ ≠ gb855 ∧ k_ ≠ gb856 ∧ k_ ≠ gb873 ∧ k_ ≠ gb878 ∧ k_ ≠ s_.2.2.2) (.slice Ao28 y858.length co28) y858) ∧ (Kd.R (Kd.int .i64) 3 w' w.heap.size (fun k_ => (w.heap.size ≤ k_) ∧ some k_ ≠ (v867 : Value).ownBlock ∧ some k_ ≠ (s_.1 : Value).ownBlock ∧ some k_ ≠ (s_.2.1 : Value).ownBlock) v864 t863) ∧ (Kd.R (Kd.int .i64) 3 w' w.heap.size (fun k_ => (w.heap.size ≤ k_) ∧ some k_ ≠ (v864 : Value).ownBlock ∧ some k_ ≠ (s_.1 : Value).ownBlock ∧ some k_ ≠ (s_.2.1 : Value).ownBlock) v867 t866) ∧ (Kd.V (Kd.int .i64) 3 w' w.heap.size (fun k_ => ((P0_0_ k_ ∨ P1_0_ k_) ∨ w.heap.size ≤ k_) ∧ some k_ ≠ (.slice Ao28 y858.length co28 : Value).ownBlock ∧ some k_ ≠ (v864 : Value).ownBlock ∧ some k_ ≠ (v867 : Value).ownBlock ∧ some k_ ≠ (s_.1 : Value).ownBlock ∧ some k_ ≠ (s_.2.1 : Value).ownBlock ∧ k_ ≠ gb855 ∧ k_ ≠ gb856 ∧ k_ ≠ gb873 ∧ k_ ≠ gb878 ∧ k_ ≠ s_.2.2.2) (.slice Ao37 t869.length co37) t869) ∧ (Kd.V (Kd.int .i64) 3 w' w.heap.size (fun k_ => ((P0_0_ k_ ∨ P1_0_ k_) ∨ w.heap.size ≤ k_) ∧ some k_ ≠ (.slice Ao28 y858.length co28 : Value).ownBlock ∧ some k_ ≠ (v864 : Value).ownBlock ∧ some k_ ≠ (v867 : Value).ownBlock ∧ some k_ ≠ (s_.1 : Value).ownBlock ∧ some k_ ≠ (s_.2.1 : Value).ownBlock ∧ k_ ≠ gb855 ∧ k_ ≠ gb856 ∧ k_ ≠ gb873 ∧ k_ ≠ gb878 ∧ k_ ≠ s_.2.2.2) (.slice Ao45 t874.length co45) t874) ∧ (Kd.R (Kd.int .i64) 3 w' w.heap.size (fun k_ => (w.heap.size ≤ k_) ∧ some k_ ≠ (v864 : Value).ownBlock ∧ some k_ ≠ (v867 : Value).ownBlock ∧ some k_ ≠ (s_.2.1 : Value).ownBlock) s_.1 t879) ∧ (Kd.R (Kd.int .i64) 3 w' w.heap.size (fun k_ => (w.heap.size ≤ k_) ∧ some k_ ≠ (v864 : Value).ownBlock ∧ some k_ ≠ (v867 : Value).ownBlock ∧ some k_ ≠ (s_.1 : Value).ownBlock) s_.2.1 t882) ∧ (Kd.V (Kd.int .i64) 3 w' w.heap.size (fun k_ => ((P0_0_ k_ ∨ P1_0_ k_) ∨ w.heap.size ≤ k_) ∧ some k_ ≠ (.slice Ao28 y858.length co28 : Value).ownBlock ∧ some k_ ≠ (v864 : Value).ownBlock ∧ some k_ ≠ (v867 : Value).ownBlock ∧ some k_ ≠ (s_.1 : Value).ownBlock ∧ some k_ ≠ (s_.2.1 : Value).ownBlock ∧ k_ ≠ gb855 ∧ k_ ≠ gb856 ∧ k_ ≠ gb873 ∧ k_ ≠ gb878 ∧ k_ ≠ s_.2.2.2) s_.2.2.1 t885) ∧ (w'.heap[gb855]? = some (.cells #[.slice A0_0 l0_0.length c0_0] 24 (0, 0))) ∧ (w'.heap[gb856]? = some (.cells #[.slice A1_0 l1_0.length c1_0] 24 (0, 0))) ∧ (w'.heap[gb873]? = some (.cells #[.slice Ao37 t869.length co37] 24 (0, 0))) ∧ (w'.heap[gb878]? = some (.cells #[.slice Ao45 t874.length co45] 24 (0, 0))) ∧ (w'.heap[s_.2.2.2]? = some (.cells #[.slice none 0 0] 24 (0, 0))) ∧ (w.heap.size ≤ s_.2.2.2) ∧ (w.heap.size ≤ s_.2.2.2) ∧ (gb855 ≠ s_.2.2.2) ∧ (s_.2.2.2 ≠ gb855) ∧ (gb856 ≠ s_.2.2.2) ∧ (s_.2.2.2 ≠ gb856) ∧ (gb873 ≠ s_.2.2.2) ∧ (s_.2.2.2 ≠ gb873) ∧ (gb878 ≠ s_.2.2.2) ∧ (s_.2.2.2 ≠ gb878) ∧ (Below w.heap.size w w')) ?_ ?_
            rotate_left
            · intro hCont
              refine two_ (i := 1) (j := 8) (Ni := some 39) (Nj := some 9) #[true, true, true, false, false, false, false, false, false, false, false] #[true, false, true, false, false, false, false, false, true, false, false] rfl rfl rfl rfl (two_of HT_.out (by kernel_rfl)) (by decide) (by decide) (fun K hK => ?_) (fun K hK => ?_)
              · skip
                refine goes_ Tryd.func15 (by kernel_rfl) rfl #[.agg #[.slice A0_0 l0_0.length c0_0]] (by rfl) rfl rfl (by (try simp only [List.map_toArray, List.map_cons, List.map_nil]); first | done | rfl | (simp only [List.length_drop, List.length_take]; rfl)) ?_
                with_reducible refine (ancepslaw02_copied.calls _ _ l0_0 t879 _ ?side1 ?side2 A11.out).mono ?_
                (case side1 => repeat (first | exact (Kd.V_reads' HO0_0.out).2.2 | (with_reducible refine Kd.C_alloc ?_ _) | (with_reducible refine Kd.C_drewN ?_ _) | (with_reducible refine Kd.C_drew ?_)))
                (case side2 => exact (Kd.V_reads' HO0_0.out).2.1)
                rintro e w52 ⟨v880, rfl, ho0, hb⟩
                refine ⟨_, rfl, ?_⟩
                have n0_ := Aside0.mk (Kd.V_elder' (qv HO0_0.out) (Kd.R_base ho0) hb)
                have n1_ := Aside0.mk (Kd.V_elder' (qv HO1_0.out) (Kd.R_base ho0) hb)
                have n2_ := Aside0.mk (Kd.N_elder' (qn HO860.out) (Kd.R_base ho0) hb)
                have n3_ := Aside0.mk (Kd.R_elder' (qr HO865.out) (Kd.R_base ho0) hb)
                have n4_ := Aside0.mk (Kd.R_elder' (qr HO868.out) (Kd.R_base ho0) hb)
                have n5_ := Aside0.mk (Kd.V_elder' (qv HO871.out) (Kd.R_base ho0) hb)
                have n6_ := Aside0.mk (Kd.V_elder' (qv HO876.out) (Kd.R_base ho0) hb)
                have n7_ := Aside0.mk (Kd.R_lower (Kd.R_new' (Kd.R_new' (Kd.R_newM (M := fun k_ => (w.heap.size ≤ k_)) ho0 (below_size (gx [gb855, gb856, gb873, gb878] ⟨GE855.out, GE856.out, GE873.out, GE878.out, trivial⟩ HB.out)) (fun k_ h_ => h_)) (Kd.R_lt (qr HO865.out))) (Kd.R_lt (qr HO868.out))) (below_size (gx [gb855, gb856, gb873, gb878] ⟨GE855.out, GE856.out, GE873.out, GE878.out, trivial⟩ HB.out)))
                have n8_ := Aside0.mk (blk_below (g := gb855) (o := .cells #[.slice A0_0 l0_0.length c0_0] 24 (0, 0)) (qb BK855.out) hb)
                have n9_ := Aside0.mk (blk_below (g := gb856) (o := .cells #[.slice A1_0 l1_0.length c1_0] 24 (0, 0)) (qb BK856.out) hb)
                have n10_ := Aside0.mk (blk_below (g := gb873) (o := .cells #[.slice Ao37 t869.length co37] 24 (0, 0)) (qb BK873.out) hb)
                have n11_ := Aside0.mk (blk_below (g := gb878) (o := .cells #[.slice Ao45 t874.length co45] 24 (0, 0)) (qb BK878.out) hb)
                have n12_ := Aside0.mk (below_step (gx [gb855, gb856, gb873, gb878] ⟨GE855.out, GE856.out, GE873.out, GE878.out, trivial⟩ HB.out) hb)
                clear HO0_0
                clear HO1_0
                clear HO860
                clear HO865
                clear HO868
                clear HO871
                clear HO876
                clear BK855
                clear BK856
                clear BK873
                clear BK878
                clear HB
                have HO0_0 := n0_
                have HO1_0 := n1_
                have HO860 := n2_
                have HO865 := n3_
                have HO868 := n4_
                have HO871 := n5_
                have HO876 := n6_
                have HO881 := n7_
                have BK855 := n8_
                have BK856 := n9_
                have BK873 := n10_
                have BK878 := n11_
                have HB := n12_
                clear n0_ n1_ n2_ n3_ n4_ n5_ n6_ n7_ n8_ n9_ n10_ n11_ n12_
                (try clear hb)
                (try clear hb2)
                (try clear hk)
                (try clear hi)
                (try clear ho0)
                refine hK.out _ _ ⟨(blk_cell BK855.out 0).trans rfl, (blk_cell BK856.out 0).trans rfl⟩ (fun hHeld => ?_)
                clear hK K
                refine norm_ (a' := ?_) ?_ ?_
                rotate_left
                · show Act.put _ (some 39) _ = _
                  simp only [Act.put, List.setIfInBounds_toArray, List.set_cons_zero, List.set_cons_succ, i64_w, i32_w]
                  rfl
                refine two_ (i := 3) (j := 8) (Ni := some 41) (Nj := some 9) #[true, true, true, true, false, false, false, false, false, false, false] #[true, true, true, false, false, false, false, false, true, false, false] rfl rfl rfl rfl (two_of HT_.out (by kernel_rfl)) (by decide) (by decide) (fun K hK => ?_) (fun K hK => ?_)
                · skip
                  refine goes_ Tryd.func15 (by kernel_rfl) rfl #[.agg #[.slice A1_0 l1_0.length c1_0]] (by rfl) rfl rfl (by (try simp only [List.map_toArray, List.map_cons, List.map_nil]); first | done | rfl | (simp only [List.length_drop, List.length_take]; rfl)) ?_
                  with_reducible refine (ancepslaw02_copied.calls _ _ l1_0 t882 _ ?side1 ?side2 A12.out).mono ?_
                  (case side1 => repeat (first | exact (Kd.V_reads' HO1_0.out).2.2 | (with_reducible refine Kd.C_alloc ?_ _) | (with_reducible refine Kd.C_drewN ?_ _) | (with_reducible refine Kd.C_drew ?_)))
                  (case side2 => exact (Kd.V_reads' HO1_0.out).2.1)
                  rintro e w53 ⟨v883, rfl, ho0, hb⟩
                  refine ⟨_, rfl, ?_⟩
                  have n0_ := Aside0.mk (Kd.V_elder' (qv HO0_0.out) (Kd.R_base ho0) hb)
                  have n1_ := Aside0.mk (Kd.V_elder' (qv HO1_0.out) (Kd.R_base ho0) hb)
                  have n2_ := Aside0.mk (Kd.N_elder' (qn HO860.out) (Kd.R_base ho0) hb)
                  have n3_ := Aside0.mk (Kd.R_elder' (qr HO865.out) (Kd.R_base ho0) hb)
                  have n4_ := Aside0.mk (Kd.R_elder' (qr HO868.out) (Kd.R_base ho0) hb)
                  have n5_ := Aside0.mk (Kd.V_elder' (qv HO871.out) (Kd.R_base ho0) hb)
                  have n6_ := Aside0.mk (Kd.V_elder' (qv HO876.out) (Kd.R_base ho0) hb)
                  have n7_ := Aside0.mk (Kd.R_elder' (qr HO881.out) (Kd.R_base ho0) hb)
                  have n8_ := Aside0.mk (Kd.R_lower (Kd.R_new' (Kd.R_new' (Kd.R_new' (Kd.R_newM (M := fun k_ => (w.heap.size ≤ k_)) ho0 (below_size (gx [gb855, gb856, gb873, gb878] ⟨GE855.out, GE856.out, GE873.out, GE878.out, trivial⟩ HB.out)) (fun k_ h_ => h_)) (Kd.R_lt (qr HO865.out))) (Kd.R_lt (qr HO868.out))) (Kd.R_lt (qr HO881.out))) (below_size (gx [gb855, gb856, gb873, gb878] ⟨GE855.out, GE856.out, GE873.out, GE878.out, trivial⟩ HB.out)))
                  have n9_ := Aside0.mk (blk_below (g := gb855) (o := .cells #[.slice A0_0 l0_0.length c0_0] 24 (0, 0)) (qb BK855.out) hb)
                  have n10_ := Aside0.mk (blk_below (g := gb856) (o := .cells #[.slice A1_0 l1_0.length c1_0] 24 (0, 0)) (qb BK856.out) hb)
                  have n11_ := Aside0.mk (blk_below (g := gb873) (o := .cells #[.slice Ao37 t869.length co37] 24 (0, 0)) (qb BK873.out) hb)
                  have n12_ := Aside0.mk (blk_below (g := gb878) (o := .cells #[.slice Ao45 t874.length co45] 24 (0, 0)) (qb BK878.out) hb)
                  have n13_ := Aside0.mk (below_step (gx [gb855, gb856, gb873, gb878] ⟨GE855.out, GE856.out, GE873.out, GE878.out, trivial⟩ HB.out) hb)
                  clear HO0_0
                  clear HO1_0
                  clear HO860
                  clear HO865
                  clear HO868
                  clear HO871
                  clear HO876
                  clear HO881
                  clear BK855
                  clear BK856
                  clear BK873
                  clear BK878
                  clear HB
                  have HO0_0 := n0_
                  have HO1_0 := n1_
                  have HO860 := n2_
                  have HO865 := n3_
                  have HO868 := n4_
                  have HO871 := n5_
                  have HO876 := n6_
                  have HO881 := n7_
                  have HO884 := n8_
                  have BK855 := n9_
                  have BK856 := n10_
                  have BK873 := n11_
                  have BK878 := n12_
                  have HB := n13_
                  clear n0_ n1_ n2_ n3_ n4_ n5_ n6_ n7_ n8_ n9_ n10_ n11_ n12_ n13_
                  (try clear hb)
                  (try clear hb2)
                  (try clear hk)
                  (try clear hi)
                  (try clear ho0)
                  obtain ⟨Ao54, co54, eo54⟩ := Kd.R_slice HO881.out
                  (first | subst eo54 | (injection eo54 with f1_ f2_ f3_; have f4_ := f1_.symm; have f5_ := f3_.symm; clear f1_ f2_ f3_; subst f4_; subst f5_))
                  obtain ⟨Ao55, co55, eo55⟩ := Kd.R_slice HO884.out
                  (first | subst eo55 | (injection eo55 with f1_ f2_ f3_; have f4_ := f1_.symm; have f5_ := f3_.symm; clear f1_ f2_ f3_; subst f4_; subst f5_))
                  refine hK.out _ _ ⟨(blk_cell BK855.out 0).trans rfl, (blk_cell BK856.out 0).trans rfl⟩ (fun hHeld => ?_)
                  clear hK K
                  refine norm_ (a' := ?_) ?_ ?_
                  rotate_left
                  · show Act.put _ (some 41) _ = _
                    simp only [Act.put, List.setIfInBounds_toArray, List.set_cons_zero, List.set_cons_succ, i64_w, i32_w]
                    rfl
                  refine two_ (i := 4) (j := 8) (Ni := some 42) (Nj := some 9) #[true, true, true, true, true, false, false, false, false, false, false] #[true, true, true, true, false, false, false, false, true, false, false] rfl rfl rfl rfl (two_of HT_.out (by kernel_rfl)) (by decide) (by decide) (fun K hK => ?_) (fun K hK => ?_)
                  · skip
                    refine goes_ Tryd.func38 (by kernel_rfl) rfl #[.agg #[.slice Ao54 t879.length co54], .agg #[.slice Ao55 t882.length co55]] (by rfl) rfl rfl (by (try simp only [List.map_toArray, List.map_cons, List.map_nil]); first | done | rfl | (simp only [List.length_drop, List.length_take]; rfl)) ?_
                    with_reducible refine (natural_Sub.calls k _ _ t879 _ _ t882 t885 t888 _ ?side1 ?side2 ?side3 ?side4 A13.out).mono ?_
                    (case side1 => repeat (first | exact (Kd.R_reads' HO881.out).2.2 | (with_reducible refine Kd.C_alloc ?_ _) | (with_reducible refine Kd.C_drewN ?_ _) | (with_reducible refine Kd.C_drew ?_)))
                    (case side2 => exact (Kd.R_reads' HO881.out).2.1)
                    (case side3 => repeat (first | exact (Kd.R_reads' HO884.out).2.2 | (with_reducible refine Kd.C_alloc ?_ _) | (with_reducible refine Kd.C_drewN ?_ _) | (with_reducible refine Kd.C_drew ?_)))
                    (case side4 => exact (Kd.R_reads' HO884.out).2.1)
                    rintro e w56 ⟨v886, rfl, ho0, hb⟩
                    refine ⟨_, rfl, ?_⟩
                    have n0_ := Aside0.mk (Kd.V_below (qv HO0_0.out) hb)
                    have n1_ := Aside0.mk (Kd.V_below (qv HO1_0.out) hb)
                    have n2_ := Aside0.mk (Kd.N_below (qn HO860.out) hb)
                    have n3_ := Aside0.mk (Kd.R_below (qr HO865.out) hb)
                    have n4_ := Aside0.mk (Kd.R_below (qr HO868.out) hb)
                    have n5_ := Aside0.mk (Kd.V_below (qv HO871.out) hb)
                    have n6_ := Aside0.mk (Kd.V_below (qv HO876.out) hb)
                    have n7_ := Aside0.mk (Kd.R_below (qr HO881.out) hb)
                    have n8_ := Aside0.mk (Kd.R_below (qr HO884.out) hb)
                    have n9_ := Aside0.mk (Kd.V_lower (Kd.V_mono (ok' := fun k_ => ((P0_0_ k_ ∨ P1_0_ k_) ∨ w.heap.size ≤ k_) ∧ some k_ ≠ (.slice Ao28 y858.length co28 : Value).ownBlock ∧ some k_ ≠ (v864 : Value).ownBlock ∧ some k_ ≠ (v867 : Value).ownBlock ∧ some k_ ≠ (.slice Ao54 t879.length co54 : Value).ownBlock ∧ some k_ ≠ (.slice Ao55 t882.length co55 : Value).ownBlock ∧ k_ ≠ gb855 ∧ k_ ≠ gb856 ∧ k_ ≠ gb873 ∧ k_ ≠ gb878) ho0 (fun k_ hk_ => ⟨(.inr (Nat.le_trans (below_size (gx [gb855, gb856, gb873, gb878] ⟨GE855.out, GE856.out, GE873.out, GE878.out, trivial⟩ HB.out)) hk_)), (Kd.fresh' (Kd.N_lt (qn HO860.out)) k_ hk_), (Kd.fresh' (Kd.R_lt (qr HO865.out)) k_ hk_), (Kd.fresh' (Kd.R_lt (qr HO868.out)) k_ hk_), (Kd.fresh' (Kd.R_lt (qr HO881.out)) k_ hk_), (Kd.fresh' (Kd.R_lt (qr HO884.out)) k_ hk_), (Kd.freshB (g := gb855) (o := .cells #[.slice A0_0 l0_0.length c0_0] 24 (0, 0)) (qb BK855.out) k_ hk_), (Kd.freshB (g := gb856) (o := .cells #[.slice A1_0 l1_0.length c1_0] 24 (0, 0)) (qb BK856.out) k_ hk_), (Kd.freshB (g := gb873) (o := .cells #[.slice Ao37 t869.length co37] 24 (0, 0)) (qb BK873.out) k_ hk_), (Kd.freshB (g := gb878) (o := .cells #[.slice Ao45 t874.length co45] 24 (0, 0)) (qb BK878.out) k_ hk_)⟩)) (below_size (gx [gb855, gb856, gb873, gb878] ⟨GE855.out, GE856.out, GE873.out, GE878.out, trivial⟩ HB.out)))
                    have n10_ := Aside0.mk (blk_below (g := gb855) (o := .cells #[.slice A0_0 l0_0.length c0_0] 24 (0, 0)) (qb BK855.out) hb)
                    have n11_ := Aside0.mk (blk_below (g := gb856) (o := .cells #[.slice A1_0 l1_0.length c1_0] 24 (0, 0)) (qb BK856.out) hb)
                    have n12_ := Aside0.mk (blk_below (g := gb873) (o := .cells #[.slice Ao37 t869.length co37] 24 (0, 0)) (qb BK873.out) hb)
                    have n13_ := Aside0.mk (blk_below (g := gb878) (o := .cells #[.slice Ao45 t874.length co45] 24 (0, 0)) (qb BK878.out) hb)
                    have n14_ := Aside0.mk (below_step (gx [gb855, gb856, gb873, gb878] ⟨GE855.out, GE856.out, GE873.out, GE878.out, trivial⟩ HB.out) hb)
                    clear HO0_0
                    clear HO1_0
                    clear HO860
                    clear HO865
                    clear HO868
                    clear HO871
                    clear HO876
                    clear HO881
                    clear HO884
                    clear BK855
                    clear BK856
                    clear BK873
                    clear BK878
                    clear HB
                    have HO0_0 := n0_
                    have HO1_0 := n1_
                    have HO860 := n2_
                    have HO865 := n3_
                    have HO868 := n4_
                    have HO871 := n5_
                    have HO876 := n6_
                    have HO881 := n7_
                    have HO884 := n8_
                    have HO887 := n9_
                    have BK855 := n10_
                    have BK856 := n11_
                    have BK873 := n12_
                    have BK878 := n13_
                    have HB := n14_
                    clear n0_ n1_ n2_ n3_ n4_ n5_ n6_ n7_ n8_ n9_ n10_ n11_ n12_ n13_ n14_
                    (try clear hb)
                    (try clear hb2)
                    (try clear hk)
                    (try clear hi)
                    (try clear ho0)
                    refine hK.out _ _ ⟨(blk_cell BK855.out 0).trans rfl, (blk_cell BK856.out 0).trans rfl⟩ (fun hHeld => ?_)
                    clear hK K
                    refine norm_ (a' := ?_) ?_ ?_
                    rotate_left
                    · show Act.put _ (some 42) _ = _
                      simp only [Act.put, List.setIfInBounds_toArray, List.set_cons_zero, List.set_cons_succ, i64_w, i32_w]
                      rfl
                    refine pure_ (i := 5) (N := some 37) (v := ?_) (a' := ?_) #[true, true, true, true, true, true, false, false, false, false, false] rfl rfl (any_of HT_.out (by kernel_rfl)) (fun _ _ _ h => h) (Or.inl ⟨by rfl, ?_⟩) ?_ ?_
                    rotate_left
                    · intro w'
                      go_simp
                      with_reducible rfl
                    rotate_left
                    · simp only [Act.put, List.setIfInBounds_toArray, List.set_cons_zero, List.set_cons_succ, i64_w, i32_w]
                      rfl
                    refine pure_ (i := 6) (N := some 43) (v := ?_) (a' := ?_) #[true, true, true, true, true, true, true, false, false, false, false] rfl rfl (any_of HT_.out (by kernel_rfl)) (fun _ _ _ h => h) (Or.inl ⟨by rfl, ?_⟩) ?_ ?_
                    rotate_left
                    · intro w'
                      go_simp
                      with_reducible rfl
                    rotate_left
                    · simp only [Act.put, List.setIfInBounds_toArray, List.set_cons_zero, List.set_cons_succ, i64_w, i32_w]
                      rfl
                    refine pure_ (i := 7) (N := some 44) (v := ?_) (a' := ?_) #[true, true, true, true, true, true, true, true, false, false, false] rfl rfl (any_of HT_.out (by kernel_rfl)) (fun _ _ _ h => h) (Or.inl ⟨by rfl, ?_⟩) ?_ ?_
                    rotate_left
                    · intro w'
                      go_simp
                      with_reducible rfl
                    rotate_left
                    · simp only [Act.put, List.setIfInBounds_toArray, List.set_cons_zero, List.set_cons_succ, i64_w, i32_w]
                      rfl
                    refine one_ (i := 8) (N := some 9) #[true, true, true, true, true, true, true, true, true, false, false] rfl rfl (one_of HT_.out (by kernel_rfl)) (by decide) (fun K hK => ?_)
                    refine box_step ?hg (N := 9) ?hd (cs := #[.slice none 0 0]) (t := 24) ?hr ?_; (case hd => rfl); (case hg => rfl); (case hr => first | (go_simp; done) | (go_simp; rfl))
                    intro gb889 hg w57 hbox hb
                    have n0_ := Aside0.mk (Kd.V_below (Kd.V_elderB (qv HO0_0.out) gb889 (Nat.le_of_eq hg.symm)) hb)
                    have n1_ := Aside0.mk (Kd.V_below (Kd.V_elderB (qv HO1_0.out) gb889 (Nat.le_of_eq hg.symm)) hb)
                    have n2_ := Aside0.mk (Kd.N_below (Kd.N_elderB (qn HO860.out) gb889 (Nat.le_of_eq hg.symm)) hb)
                    have n3_ := Aside0.mk (Kd.R_below (qr HO865.out) hb)
                    have n4_ := Aside0.mk (Kd.R_below (qr HO868.out) hb)
                    have n5_ := Aside0.mk (Kd.V_below (Kd.V_elderB (qv HO871.out) gb889 (Nat.le_of_eq hg.symm)) hb)
                    have n6_ := Aside0.mk (Kd.V_below (Kd.V_elderB (qv HO876.out) gb889 (Nat.le_of_eq hg.symm)) hb)
                    have n7_ := Aside0.mk (Kd.R_below (qr HO881.out) hb)
                    have n8_ := Aside0.mk (Kd.R_below (qr HO884.out) hb)
                    have n9_ := Aside0.mk (Kd.V_below (Kd.V_elderB (qv HO887.out) gb889 (Nat.le_of_eq hg.symm)) hb)
                    have n10_ := Aside0.mk (blk_below (g := gb855) (o := .cells #[.slice A0_0 l0_0.length c0_0] 24 (0, 0)) (qb BK855.out) hb)
                    have n11_ := Aside0.mk (blk_below (g := gb856) (o := .cells #[.slice A1_0 l1_0.length c1_0] 24 (0, 0)) (qb BK856.out) hb)
                    have n12_ := Aside0.mk (blk_below (g := gb873) (o := .cells #[.slice Ao37 t869.length co37] 24 (0, 0)) (qb BK873.out) hb)
                    have n13_ := Aside0.mk (blk_below (g := gb878) (o := .cells #[.slice Ao45 t874.length co45] 24 (0, 0)) (qb BK878.out) hb)
                    have n14_ := Aside0.mk (below_step (gx [gb855, gb856, gb873, gb878] ⟨GE855.out, GE856.out, GE873.out, GE878.out, trivial⟩ HB.out) hb)
                    have n15_ := Aside0.mk (hbox)
                    have n16_ := Aside0.mk ((by rw [hg]; exact (below_size (gx [gb855, gb856, gb873, gb878] ⟨GE855.out, GE856.out, GE873.out, GE878.out, trivial⟩ HB.out)) : w.heap.size ≤ gb889))
                    have n17_ := Aside0.mk ((by rw [hg]; exact (below_size (gx [gb855, gb856, gb873, gb878] ⟨GE855.out, GE856.out, GE873.out, GE878.out, trivial⟩ HB.out)) : w.heap.size ≤ gb889))
                    have n18_ := Aside0.mk ((by rw [hg]; exact Nat.ne_of_lt (blk_lt (g := gb855) (o := .cells #[.slice A0_0 l0_0.length c0_0] 24 (0, 0)) (qb BK855.out)) : gb855 ≠ gb889))
                    have n19_ := Aside0.mk ((by rw [hg]; exact Nat.ne_of_gt (blk_lt (g := gb855) (o := .cells #[.slice A0_0 l0_0.length c0_0] 24 (0, 0)) (qb BK855.out)) : gb889 ≠ gb855))
                    have n20_ := Aside0.mk ((by rw [hg]; exact Nat.ne_of_lt (blk_lt (g := gb856) (o := .cells #[.slice A1_0 l1_0.length c1_0] 24 (0, 0)) (qb BK856.out)) : gb856 ≠ gb889))
                    have n21_ := Aside0.mk ((by rw [hg]; exact Nat.ne_of_gt (blk_lt (g := gb856) (o := .cells #[.slice A1_0 l1_0.length c1_0] 24 (0, 0)) (qb BK856.out)) : gb889 ≠ gb856))
                    have n22_ := Aside0.mk ((by rw [hg]; exact Nat.ne_of_lt (blk_lt (g := gb873) (o := .cells #[.slice Ao37 t869.length co37] 24 (0, 0)) (qb BK873.out)) : gb873 ≠ gb889))
                    have n23_ := Aside0.mk ((by rw [hg]; exact Nat.ne_of_gt (blk_lt (g := gb873) (o := .cells #[.slice Ao37 t869.length co37] 24 (0, 0)) (qb BK873.out)) : gb889 ≠ gb873))
                    have n24_ := Aside0.mk ((by rw [hg]; exact Nat.ne_of_lt (blk_lt (g := gb878) (o := .cells #[.slice Ao45 t874.length co45] 24 (0, 0)) (qb BK878.out)) : gb878 ≠ gb889))
                    have n25_ := Aside0.mk ((by rw [hg]; exact Nat.ne_of_gt (blk_lt (g := gb878) (o := .cells #[.slice Ao45 t874.length co45] 24 (0, 0)) (qb BK878.out)) : gb889 ≠ gb878))
                    clear HO0_0
                    clear HO1_0
                    clear HO860
                    clear HO865
                    clear HO868
                    clear HO871
                    clear HO876
                    clear HO881
                    clear HO884
                    clear HO887
                    clear BK855
                    clear BK856
                    clear BK873
                    clear BK878
                    clear HB
                    have HO0_0 := n0_
                    have HO1_0 := n1_
                    have HO860 := n2_
                    have HO865 := n3_
                    have HO868 := n4_
                    have HO871 := n5_
                    have HO876 := n6_
                    have HO881 := n7_
                    have HO884 := n8_
                    have HO887 := n9_
                    have BK855 := n10_
                    have BK856 := n11_
                    have BK873 := n12_
                    have BK878 := n13_
                    have HB := n14_
                    have BK889 := n15_
                    have GW889 := n16_
                    have GE889 := n17_
                    have NB855_889 := n18_
                    have NB889_855 := n19_
                    have NB856_889 := n20_
                    have NB889_856 := n21_
                    have NB873_889 := n22_
                    have NB889_873 := n23_
                    have NB878_889 := n24_
                    have NB889_878 := n25_
                    clear n0_ n1_ n2_ n3_ n4_ n5_ n6_ n7_ n8_ n9_ n10_ n11_ n12_ n13_ n14_ n15_ n16_ n17_ n18_ n19_ n20_ n21_ n22_ n23_ n24_ n25_
                    clear hb hbox hg
                    refine hK.out _ _ ⟨(blk_cell BK855.out 0).trans rfl, (blk_cell BK856.out 0).trans rfl⟩ (fun hHeld => ?_)
                    clear hK K
                    refine norm_ (a' := ?_) ?_ ?_
                    rotate_left
                    · show Act.put _ (some 9) _ = _
                      simp only [Act.put, List.setIfInBounds_toArray, List.set_cons_zero, List.set_cons_succ, i64_w, i32_w]
                      rfl
                    exact norm_ (by simp only [putAll, Act.put, List.setIfInBounds_toArray, List.set_cons_zero, List.set_cons_succ]) (hCont (.slice Ao54 t879.length co54, .slice Ao55 t882.length co55, v886, gb889) _ ⟨hHeld, (by (with_reducible repeat (first | apply Kd.V_alloc | apply Kd.V_drewN | apply Kd.V_drew)); exact Kd.V_mono HO0_0.out (fun _ hk => by first | exact ⟨hk.1.1.1.1, ⟨hk.1.1.1.2.1, ⟨hk.1.1.1.2.2.1, ⟨hk.1.1.1.2.2.2.1, ⟨hk.1.1.2, ⟨hk.1.2, ⟨hk.1.1.1.2.2.2.2.1, ⟨hk.1.1.1.2.2.2.2.2.1, ⟨hk.1.1.1.2.2.2.2.2.2.1, ⟨hk.1.1.1.2.2.2.2.2.2.2, hk.2⟩⟩⟩⟩⟩⟩⟩⟩⟩⟩ | grind)), (by (with_reducible repeat (first | apply Kd.V_alloc | apply Kd.V_drewN | apply Kd.V_drew)); exact Kd.V_mono HO1_0.out (fun _ hk => by first | exact ⟨hk.1.1.1.1, ⟨hk.1.1.1.2.1, ⟨hk.1.1.1.2.2.1, ⟨hk.1.1.1.2.2.2.1, ⟨hk.1.1.2, ⟨hk.1.2, ⟨hk.1.1.1.2.2.2.2.1, ⟨hk.1.1.1.2.2.2.2.2.1, ⟨hk.1.1.1.2.2.2.2.2.2.1, ⟨hk.1.1.1.2.2.2.2.2.2.2, hk.2⟩⟩⟩⟩⟩⟩⟩⟩⟩⟩ | grind)), (by (with_reducible repeat (first | apply Kd.N_alloc | apply Kd.N_drewN | apply Kd.N_drew)); exact Kd.N_mono HO860.out (fun _ hk => by first | exact ⟨hk.1.1.1.1, ⟨hk.1.1.1.2.1, ⟨hk.1.1.1.2.2.1, ⟨hk.1.1.2, ⟨hk.1.2, ⟨hk.1.1.1.2.2.2.1, ⟨hk.1.1.1.2.2.2.2.1, ⟨hk.1.1.1.2.2.2.2.2.1, ⟨hk.1.1.1.2.2.2.2.2.2, hk.2⟩⟩⟩⟩⟩⟩⟩⟩⟩ | grind)), (by (with_reducible repeat (first | apply Kd.R_alloc | apply Kd.R_drewN | apply Kd.R_drew)); exact Kd.R_mono HO865.out (fun _ hk => by first | exact ⟨hk.1.1.1, ⟨hk.1.1.2, ⟨hk.1.2, hk.2⟩⟩⟩ | grind)), (by (with_reducible repeat (first | apply Kd.R_alloc | apply Kd.R_drewN | apply Kd.R_drew)); exact Kd.R_mono HO868.out (fun _ hk => by first | exact ⟨hk.1.1.1, ⟨hk.1.1.2, ⟨hk.1.2, hk.2⟩⟩⟩ | grind)), (by (with_reducible repeat (first | apply Kd.V_alloc | apply Kd.V_drewN | apply Kd.V_drew)); exact Kd.V_mono HO871.out (fun _ hk => by first | exact ⟨hk.1.1.1.1, ⟨hk.1.1.1.2.1, ⟨hk.1.1.1.2.2.1, ⟨hk.1.1.1.2.2.2.1, ⟨hk.1.1.2, ⟨hk.1.2, ⟨hk.1.1.1.2.2.2.2.1, ⟨hk.1.1.1.2.2.2.2.2.1, ⟨hk.1.1.1.2.2.2.2.2.2.1, ⟨hk.1.1.1.2.2.2.2.2.2.2, hk.2⟩⟩⟩⟩⟩⟩⟩⟩⟩⟩ | grind)), (by (with_reducible repeat (first | apply Kd.V_alloc | apply Kd.V_drewN | apply Kd.V_drew)); exact Kd.V_mono HO876.out (fun _ hk => by first | exact ⟨hk.1.1.1.1, ⟨hk.1.1.1.2.1, ⟨hk.1.1.1.2.2.1, ⟨hk.1.1.1.2.2.2.1, ⟨hk.1.1.2, ⟨hk.1.2, ⟨hk.1.1.1.2.2.2.2.1, ⟨hk.1.1.1.2.2.2.2.2.1, ⟨hk.1.1.1.2.2.2.2.2.2.1, ⟨hk.1.1.1.2.2.2.2.2.2.2, hk.2⟩⟩⟩⟩⟩⟩⟩⟩⟩⟩ | grind)), (by (with_reducible repeat (first | apply Kd.R_alloc | apply Kd.R_drewN | apply Kd.R_drew)); exact Kd.R_mono HO881.out (fun _ hk => by first | exact ⟨hk.1.1.1.1, ⟨hk.1.1.2, ⟨hk.1.2, hk.2⟩⟩⟩ | grind)), (by (with_reducible repeat (first | apply Kd.R_alloc | apply Kd.R_drewN | apply Kd.R_drew)); exact Kd.R_mono HO884.out (fun _ hk => by first | exact ⟨hk.1.1.1.1, ⟨hk.1.1.2, ⟨hk.1.2, hk.2⟩⟩⟩ | grind)), (by (with_reducible repeat (first | apply Kd.V_alloc | apply Kd.V_drewN | apply Kd.V_drew)); exact Kd.V_mono HO887.out (fun _ hk => by first | exact ⟨hk.1.1, ⟨hk.1.2.1, ⟨hk.1.2.2.1, ⟨hk.1.2.2.2.1, ⟨hk.1.2.2.2.2.1, ⟨hk.1.2.2.2.2.2.1, ⟨hk.1.2.2.2.2.2.2.1, ⟨hk.1.2.2.2.2.2.2.2.1, ⟨hk.1.2.2.2.2.2.2.2.2.1, ⟨hk.1.2.2.2.2.2.2.2.2.2, hk.2⟩⟩⟩⟩⟩⟩⟩⟩⟩⟩ | grind)), (qb BK855.out), (qb BK856.out), (qb BK873.out), (qb BK878.out), (qb BK889.out), GW889.out, GE889.out, NB855_889.out, NB889_855.out, NB856_889.out, NB889_856.out, NB873_889.out, NB889_873.out, NB878_889.out, NB889_878.out, (gx [gb855, gb856, gb873, gb878, gb889] ⟨GE855.out, GE856.out, GE873.out, GE878.out, GE889.out, trivial⟩ HB.out)⟩)
                  · skip
                    refine box_step ?hg (N := 9) ?hd (cs := #[.slice none 0 0]) (t := 24) ?hr ?_; (case hd => rfl); (case hg => rfl); (case hr => first | (go_simp; done) | (go_simp; rfl))
                    intro gb889 hg w54 hbox hb
                    have n0_ := Aside0.mk (Kd.V_below (Kd.V_elderB (qv HO0_0.out) gb889 (Nat.le_of_eq hg.symm)) hb)
                    have n1_ := Aside0.mk (Kd.V_below (Kd.V_elderB (qv HO1_0.out) gb889 (Nat.le_of_eq hg.symm)) hb)
                    have n2_ := Aside0.mk (Kd.N_below (Kd.N_elderB (qn HO860.out) gb889 (Nat.le_of_eq hg.symm)) hb)
                    have n3_ := Aside0.mk (Kd.R_below (qr HO865.out) hb)
                    have n4_ := Aside0.mk (Kd.R_below (qr HO868.out) hb)
                    have n5_ := Aside0.mk (Kd.V_below (Kd.V_elderB (qv HO871.out) gb889 (Nat.le_of_eq hg.symm)) hb)
                    have n6_ := Aside0.mk (Kd.V_below (Kd.V_elderB (qv HO876.out) gb889 (Nat.le_of_eq hg.symm)) hb)
                    have n7_ := Aside0.mk (Kd.R_below (qr HO881.out) hb)
                    have n8_ := Aside0.mk (Kd.R_below (qr HO884.out) hb)
                    have n9_ := Aside0.mk (blk_below (g := gb855) (o := .cells #[.slice A0_0 l0_0.length c0_0] 24 (0, 0)) (qb BK855.out) hb)
                    have n10_ := Aside0.mk (blk_below (g := gb856) (o := .cells #[.slice A1_0 l1_0.length c1_0] 24 (0, 0)) (qb BK856.out) hb)
                    have n11_ := Aside0.mk (blk_below (g := gb873) (o := .cells #[.slice Ao37 t869.length co37] 24 (0, 0)) (qb BK873.out) hb)
                    have n12_ := Aside0.mk (blk_below (g := gb878) (o := .cells #[.slice Ao45 t874.length co45] 24 (0, 0)) (qb BK878.out) hb)
                    have n13_ := Aside0.mk (below_step (gx [gb855, gb856, gb873, gb878] ⟨GE855.out, GE856.out, GE873.out, GE878.out, trivial⟩ HB.out) hb)
                    have n14_ := Aside0.mk (hbox)
                    have n15_ := Aside0.mk ((by rw [hg]; exact (below_size (gx [gb855, gb856, gb873, gb878] ⟨GE855.out, GE856.out, GE873.out, GE878.out, trivial⟩ HB.out)) : w.heap.size ≤ gb889))
                    have n16_ := Aside0.mk ((by rw [hg]; exact (below_size (gx [gb855, gb856, gb873, gb878] ⟨GE855.out, GE856.out, GE873.out, GE878.out, trivial⟩ HB.out)) : w.heap.size ≤ gb889))
                    have n17_ := Aside0.mk ((by rw [hg]; exact Nat.ne_of_lt (blk_lt (g := gb855) (o := .cells #[.slice A0_0 l0_0.length c0_0] 24 (0, 0)) (qb BK855.out)) : gb855 ≠ gb889))
                    have n18_ := Aside0.mk ((by rw [hg]; exact Nat.ne_of_gt (blk_lt (g := gb855) (o := .cells #[.slice A0_0 l0_0.length c0_0] 24 (0, 0)) (qb BK855.out)) : gb889 ≠ gb855))
                    have n19_ := Aside0.mk ((by rw [hg]; exact Nat.ne_of_lt (blk_lt (g := gb856) (o := .cells #[.slice A1_0 l1_0.length c1_0] 24 (0, 0)) (qb BK856.out)) : gb856 ≠ gb889))
                    have n20_ := Aside0.mk ((by rw [hg]; exact Nat.ne_of_gt (blk_lt (g := gb856) (o := .cells #[.slice A1_0 l1_0.length c1_0] 24 (0, 0)) (qb BK856.out)) : gb889 ≠ gb856))
                    have n21_ := Aside0.mk ((by rw [hg]; exact Nat.ne_of_lt (blk_lt (g := gb873) (o := .cells #[.slice Ao37 t869.length co37] 24 (0, 0)) (qb BK873.out)) : gb873 ≠ gb889))
                    have n22_ := Aside0.mk ((by rw [hg]; exact Nat.ne_of_gt (blk_lt (g := gb873) (o := .cells #[.slice Ao37 t869.length co37] 24 (0, 0)) (qb BK873.out)) : gb889 ≠ gb873))
                    have n23_ := Aside0.mk ((by rw [hg]; exact Nat.ne_of_lt (blk_lt (g := gb878) (o := .cells #[.slice Ao45 t874.length co45] 24 (0, 0)) (qb BK878.out)) : gb878 ≠ gb889))
                    have n24_ := Aside0.mk ((by rw [hg]; exact Nat.ne_of_gt (blk_lt (g := gb878) (o := .cells #[.slice Ao45 t874.length co45] 24 (0, 0)) (qb BK878.out)) : gb889 ≠ gb878))
                    clear HO0_0
                    clear HO1_0
                    clear HO860
                    clear HO865
                    clear HO868
                    clear HO871
                    clear HO876
                    clear HO881
                    clear HO884
                    clear BK855
                    clear BK856
                    clear BK873
                    clear BK878
                    clear HB
                    have HO0_0 := n0_
                    have HO1_0 := n1_
                    have HO860 := n2_
                    have HO865 := n3_
                    have HO868 := n4_
                    have HO871 := n5_
                    have HO876 := n6_
                    have HO881 := n7_
                    have HO884 := n8_
                    have BK855 := n9_
                    have BK856 := n10_
                    have BK873 := n11_
                    have BK878 := n12_
                    have HB := n13_
                    have BK889 := n14_
                    have GW889 := n15_
                    have GE889 := n16_
                    have NB855_889 := n17_
                    have NB889_855 := n18_
                    have NB856_889 := n19_
                    have NB889_856 := n20_
                    have NB873_889 := n21_
                    have NB889_873 := n22_
                    have NB878_889 := n23_
                    have NB889_878 := n24_
                    clear n0_ n1_ n2_ n3_ n4_ n5_ n6_ n7_ n8_ n9_ n10_ n11_ n12_ n13_ n14_ n15_ n16_ n17_ n18_ n19_ n20_ n21_ n22_ n23_ n24_
                    clear hb hbox hg
                    obtain ⟨Ao55, co55, eo55⟩ := Kd.R_slice HO881.out
                    (first | subst eo55 | (injection eo55 with f1_ f2_ f3_; have f4_ := f1_.symm; have f5_ := f3_.symm; clear f1_ f2_ f3_; subst f4_; subst f5_))
                    obtain ⟨Ao56, co56, eo56⟩ := Kd.R_slice HO884.out
                    (first | subst eo56 | (injection eo56 with f1_ f2_ f3_; have f4_ := f1_.symm; have f5_ := f3_.symm; clear f1_ f2_ f3_; subst f4_; subst f5_))
                    refine hK.out _ _ ⟨(blk_cell BK855.out 0).trans rfl, (blk_cell BK856.out 0).trans rfl⟩ (fun hHeld => ?_)
                    clear hK K
                    refine norm_ (a' := ?_) ?_ ?_
                    rotate_left
                    · show Act.put _ (some 9) _ = _
                      simp only [Act.put, List.setIfInBounds_toArray, List.set_cons_zero, List.set_cons_succ, i64_w, i32_w]
                      rfl
                    refine one_ (i := 4) (N := some 42) #[true, true, true, true, true, false, false, false, true, false, false] rfl rfl (one_of HT_.out (by kernel_rfl)) (by decide) (fun K hK => ?_)
                    refine goes_ Tryd.func38 (by kernel_rfl) rfl #[.agg #[.slice Ao55 t879.length co55], .agg #[.slice Ao56 t882.length co56]] (by rfl) rfl rfl (by (try simp only [List.map_toArray, List.map_cons, List.map_nil]); first | done | rfl | (simp only [List.length_drop, List.length_take]; rfl)) ?_
                    with_reducible refine (natural_Sub.calls k _ _ t879 _ _ t882 t885 t888 _ ?side1 ?side2 ?side3 ?side4 A13.out).mono ?_
                    (case side1 => repeat (first | exact (Kd.R_reads' HO881.out).2.2 | (with_reducible refine Kd.C_alloc ?_ _) | (with_reducible refine Kd.C_drewN ?_ _) | (with_reducible refine Kd.C_drew ?_)))
                    (case side2 => exact (Kd.R_reads' HO881.out).2.1)
                    (case side3 => repeat (first | exact (Kd.R_reads' HO884.out).2.2 | (with_reducible refine Kd.C_alloc ?_ _) | (with_reducible refine Kd.C_drewN ?_ _) | (with_reducible refine Kd.C_drew ?_)))
                    (case side4 => exact (Kd.R_reads' HO884.out).2.1)
                    rintro e w57 ⟨v886, rfl, ho0, hb⟩
                    refine ⟨_, rfl, ?_⟩
                    have n0_ := Aside0.mk (Kd.V_below (qv HO0_0.out) hb)
                    have n1_ := Aside0.mk (Kd.V_below (qv HO1_0.out) hb)
                    have n2_ := Aside0.mk (Kd.N_below (qn HO860.out) hb)
                    have n3_ := Aside0.mk (Kd.R_below (qr HO865.out) hb)
                    have n4_ := Aside0.mk (Kd.R_below (qr HO868.out) hb)
                    have n5_ := Aside0.mk (Kd.V_below (qv HO871.out) hb)
                    have n6_ := Aside0.mk (Kd.V_below (qv HO876.out) hb)
                    have n7_ := Aside0.mk (Kd.R_below (qr HO881.out) hb)
                    have n8_ := Aside0.mk (Kd.R_below (qr HO884.out) hb)
                    have n9_ := Aside0.mk (Kd.V_lower (Kd.V_mono (ok' := fun k_ => ((P0_0_ k_ ∨ P1_0_ k_) ∨ w.heap.size ≤ k_) ∧ some k_ ≠ (.slice Ao28 y858.length co28 : Value).ownBlock ∧ some k_ ≠ (v864 : Value).ownBlock ∧ some k_ ≠ (v867 : Value).ownBlock ∧ some k_ ≠ (.slice Ao55 t879.length co55 : Value).ownBlock ∧ some k_ ≠ (.slice Ao56 t882.length co56 : Value).ownBlock ∧ k_ ≠ gb855 ∧ k_ ≠ gb856 ∧ k_ ≠ gb873 ∧ k_ ≠ gb878 ∧ k_ ≠ gb889) ho0 (fun k_ hk_ => ⟨(.inr (Nat.le_trans (below_size (gx [gb855, gb856, gb873, gb878, gb889] ⟨GE855.out, GE856.out, GE873.out, GE878.out, GE889.out, trivial⟩ HB.out)) hk_)), (Kd.fresh' (Kd.N_lt (qn HO860.out)) k_ hk_), (Kd.fresh' (Kd.R_lt (qr HO865.out)) k_ hk_), (Kd.fresh' (Kd.R_lt (qr HO868.out)) k_ hk_), (Kd.fresh' (Kd.R_lt (qr HO881.out)) k_ hk_), (Kd.fresh' (Kd.R_lt (qr HO884.out)) k_ hk_), (Kd.freshB (g := gb855) (o := .cells #[.slice A0_0 l0_0.length c0_0] 24 (0, 0)) (qb BK855.out) k_ hk_), (Kd.freshB (g := gb856) (o := .cells #[.slice A1_0 l1_0.length c1_0] 24 (0, 0)) (qb BK856.out) k_ hk_), (Kd.freshB (g := gb873) (o := .cells #[.slice Ao37 t869.length co37] 24 (0, 0)) (qb BK873.out) k_ hk_), (Kd.freshB (g := gb878) (o := .cells #[.slice Ao45 t874.length co45] 24 (0, 0)) (qb BK878.out) k_ hk_), (Kd.freshB (g := gb889) (o := .cells #[.slice none 0 0] 24 (0, 0)) (qb BK889.out) k_ hk_)⟩)) (below_size (gx [gb855, gb856, gb873, gb878, gb889] ⟨GE855.out, GE856.out, GE873.out, GE878.out, GE889.out, trivial⟩ HB.out)))
                    have n10_ := Aside0.mk (blk_below (g := gb855) (o := .cells #[.slice A0_0 l0_0.length c0_0] 24 (0, 0)) (qb BK855.out) hb)
                    have n11_ := Aside0.mk (blk_below (g := gb856) (o := .cells #[.slice A1_0 l1_0.length c1_0] 24 (0, 0)) (qb BK856.out) hb)
                    have n12_ := Aside0.mk (blk_below (g := gb873) (o := .cells #[.slice Ao37 t869.length co37] 24 (0, 0)) (qb BK873.out) hb)
                    have n13_ := Aside0.mk (blk_below (g := gb878) (o := .cells #[.slice Ao45 t874.length co45] 24 (0, 0)) (qb BK878.out) hb)
                    have n14_ := Aside0.mk (blk_below (g := gb889) (o := .cells #[.slice none 0 0] 24 (0, 0)) (qb BK889.out) hb)
                    have n15_ := Aside0.mk (below_step (gx [gb855, gb856, gb873, gb878, gb889] ⟨GE855.out, GE856.out, GE873.out, GE878.out, GE889.out, trivial⟩ HB.out) hb)
                    clear HO0_0
                    clear HO1_0
                    clear HO860
                    clear HO865
                    clear HO868
                    clear HO871
                    clear HO876
                    clear HO881
                    clear HO884
                    clear BK855
                    clear BK856
                    clear BK873
                    clear BK878
                    clear BK889
                    clear HB
                    have HO0_0 := n0_
                    have HO1_0 := n1_
                    have HO860 := n2_
                    have HO865 := n3_
                    have HO868 := n4_
                    have HO871 := n5_
                    have HO876 := n6_
                    have HO881 := n7_
                    have HO884 := n8_
                    have HO887 := n9_
                    have BK855 := n10_
                    have BK856 := n11_
                    have BK873 := n12_
                    have BK878 := n13_
                    have BK889 := n14_
                    have HB := n15_
                    clear n0_ n1_ n2_ n3_ n4_ n5_ n6_ n7_ n8_ n9_ n10_ n11_ n12_ n13_ n14_ n15_
                    (try clear hb)
                    (try clear hb2)
                    (try clear hk)
                    (try clear hi)
                    (try clear ho0)
                    refine hK.out _ _ ⟨(blk_cell BK855.out 0).trans rfl, (blk_cell BK856.out 0).trans rfl⟩ (fun hHeld => ?_)
                    clear hK K
                    refine norm_ (a' := ?_) ?_ ?_
                    rotate_left
                    · show Act.put _ (some 42) _ = _
                      simp only [Act.put, List.setIfInBounds_toArray, List.set_cons_zero, List.set_cons_succ, i64_w, i32_w]
                      rfl
                    refine pure_ (i := 5) (N := some 37) (v := ?_) (a' := ?_) #[true, true, true, true, true, true, false, false, true, false, false] rfl rfl (any_of HT_.out (by kernel_rfl)) (fun _ _ _ h => h) (Or.inl ⟨by rfl, ?_⟩) ?_ ?_
                    rotate_left
                    · intro w'
                      go_simp
                      with_reducible rfl
                    rotate_left
                    · simp only [Act.put, List.setIfInBounds_toArray, List.set_cons_zero, List.set_cons_succ, i64_w, i32_w]
                      rfl
                    refine pure_ (i := 6) (N := some 43) (v := ?_) (a' := ?_) #[true, true, true, true, true, true, true, false, true, false, false] rfl rfl (any_of HT_.out (by kernel_rfl)) (fun _ _ _ h => h) (Or.inl ⟨by rfl, ?_⟩) ?_ ?_
                    rotate_left
                    · intro w'
                      go_simp
                      with_reducible rfl
                    rotate_left
                    · simp only [Act.put, List.setIfInBounds_toArray, List.set_cons_zero, List.set_cons_succ, i64_w, i32_w]
                      rfl
                    refine pure_ (i := 7) (N := some 44) (v := ?_) (a' := ?_) #[true, true, true, true, true, true, true, true, true, false, false] rfl rfl (any_of HT_.out (by kernel_rfl)) (fun _ _ _ h => h) (Or.inl ⟨by rfl, ?_⟩) ?_ ?_
                    rotate_left
                    · intro w'
                      go_simp
                      with_reducible rfl
                    rotate_left
                    · simp only [Act.put, List.setIfInBounds_toArray, List.set_cons_zero, List.set_cons_succ, i64_w, i32_w]
                      rfl
                    exact norm_ (by simp only [putAll, Act.put, List.setIfInBounds_toArray, List.set_cons_zero, List.set_cons_succ]) (hCont (.slice Ao55 t879.length co55, .slice Ao56 t882.length co56, v886, gb889) _ ⟨hHeld, (by (with_reducible repeat (first | apply Kd.V_alloc | apply Kd.V_drewN | apply Kd.V_drew)); exact Kd.V_mono HO0_0.out (fun _ hk => by first | exact ⟨hk.1.1.1.1, ⟨hk.1.1.1.2.1, ⟨hk.1.1.1.2.2.1, ⟨hk.1.1.1.2.2.2.1, ⟨hk.1.1.2, ⟨hk.1.2, ⟨hk.1.1.1.2.2.2.2.1, ⟨hk.1.1.1.2.2.2.2.2.1, ⟨hk.1.1.1.2.2.2.2.2.2.1, ⟨hk.1.1.1.2.2.2.2.2.2.2, hk.2⟩⟩⟩⟩⟩⟩⟩⟩⟩⟩ | grind)), (by (with_reducible repeat (first | apply Kd.V_alloc | apply Kd.V_drewN | apply Kd.V_drew)); exact Kd.V_mono HO1_0.out (fun _ hk => by first | exact ⟨hk.1.1.1.1, ⟨hk.1.1.1.2.1, ⟨hk.1.1.1.2.2.1, ⟨hk.1.1.1.2.2.2.1, ⟨hk.1.1.2, ⟨hk.1.2, ⟨hk.1.1.1.2.2.2.2.1, ⟨hk.1.1.1.2.2.2.2.2.1, ⟨hk.1.1.1.2.2.2.2.2.2.1, ⟨hk.1.1.1.2.2.2.2.2.2.2, hk.2⟩⟩⟩⟩⟩⟩⟩⟩⟩⟩ | grind)), (by (with_reducible repeat (first | apply Kd.N_alloc | apply Kd.N_drewN | apply Kd.N_drew)); exact Kd.N_mono HO860.out (fun _ hk => by first | exact ⟨hk.1.1.1.1, ⟨hk.1.1.1.2.1, ⟨hk.1.1.1.2.2.1, ⟨hk.1.1.2, ⟨hk.1.2, ⟨hk.1.1.1.2.2.2.1, ⟨hk.1.1.1.2.2.2.2.1, ⟨hk.1.1.1.2.2.2.2.2.1, ⟨hk.1.1.1.2.2.2.2.2.2, hk.2⟩⟩⟩⟩⟩⟩⟩⟩⟩ | grind)), (by (with_reducible repeat (first | apply Kd.R_alloc | apply Kd.R_drewN | apply Kd.R_drew)); exact Kd.R_mono HO865.out (fun _ hk => by first | exact ⟨hk.1.1.1, ⟨hk.1.1.2, ⟨hk.1.2, hk.2⟩⟩⟩ | grind)), (by (with_reducible repeat (first | apply Kd.R_alloc | apply Kd.R_drewN | apply Kd.R_drew)); exact Kd.R_mono HO868.out (fun _ hk => by first | exact ⟨hk.1.1.1, ⟨hk.1.1.2, ⟨hk.1.2, hk.2⟩⟩⟩ | grind)), (by (with_reducible repeat (first | apply Kd.V_alloc | apply Kd.V_drewN | apply Kd.V_drew)); exact Kd.V_mono HO871.out (fun _ hk => by first | exact ⟨hk.1.1.1.1, ⟨hk.1.1.1.2.1, ⟨hk.1.1.1.2.2.1, ⟨hk.1.1.1.2.2.2.1, ⟨hk.1.1.2, ⟨hk.1.2, ⟨hk.1.1.1.2.2.2.2.1, ⟨hk.1.1.1.2.2.2.2.2.1, ⟨hk.1.1.1.2.2.2.2.2.2.1, ⟨hk.1.1.1.2.2.2.2.2.2.2, hk.2⟩⟩⟩⟩⟩⟩⟩⟩⟩⟩ | grind)), (by (with_reducible repeat (first | apply Kd.V_alloc | apply Kd.V_drewN | apply Kd.V_drew)); exact Kd.V_mono HO876.out (fun _ hk => by first | exact ⟨hk.1.1.1.1, ⟨hk.1.1.1.2.1, ⟨hk.1.1.1.2.2.1, ⟨hk.1.1.1.2.2.2.1, ⟨hk.1.1.2, ⟨hk.1.2, ⟨hk.1.1.1.2.2.2.2.1, ⟨hk.1.1.1.2.2.2.2.2.1, ⟨hk.1.1.1.2.2.2.2.2.2.1, ⟨hk.1.1.1.2.2.2.2.2.2.2, hk.2⟩⟩⟩⟩⟩⟩⟩⟩⟩⟩ | grind)), (by (with_reducible repeat (first | apply Kd.R_alloc | apply Kd.R_drewN | apply Kd.R_drew)); exact Kd.R_mono HO881.out (fun _ hk => by first | exact ⟨hk.1.1.1.1, ⟨hk.1.1.2, ⟨hk.1.2, hk.2⟩⟩⟩ | grind)), (by (with_reducible repeat (first | apply Kd.R_alloc | apply Kd.R_drewN | apply Kd.R_drew)); exact Kd.R_mono HO884.out (fun _ hk => by first | exact ⟨hk.1.1.1.1, ⟨hk.1.1.2, ⟨hk.1.2, hk.2⟩⟩⟩ | grind)), (qv HO887.out), (qb BK855.out), (qb BK856.out), (qb BK873.out), (qb BK878.out), (qb BK889.out), GW889.out, GE889.out, NB855_889.out, NB889_855.out, NB856_889.out, NB889_856.out, NB873_889.out, NB889_873.out, NB878_889.out, NB889_878.out, (gx [gb855, gb856, gb873, gb878, gb889] ⟨GE855.out, GE856.out, GE873.out, GE878.out, GE889.out, trivial⟩ HB.out)⟩)
                · skip
                  refine box_step ?hg (N := 9) ?hd (cs := #[.slice none 0 0]) (t := 24) ?hr ?_; (case hd => rfl); (case hg => rfl); (case hr => first | (go_simp; done) | (go_simp; rfl))
                  intro gb889 hg w53 hbox hb
                  have n0_ := Aside0.mk (Kd.V_below (Kd.V_elderB (qv HO0_0.out) gb889 (Nat.le_of_eq hg.symm)) hb)
                  have n1_ := Aside0.mk (Kd.V_below (Kd.V_elderB (qv HO1_0.out) gb889 (Nat.le_of_eq hg.symm)) hb)
                  have n2_ := Aside0.mk (Kd.N_below (Kd.N_elderB (qn HO860.out) gb889 (Nat.le_of_eq hg.symm)) hb)
                  have n3_ := Aside0.mk (Kd.R_below (qr HO865.out) hb)
                  have n4_ := Aside0.mk (Kd.R_below (qr HO868.out) hb)
                  have n5_ := Aside0.mk (Kd.V_below (Kd.V_elderB (qv HO871.out) gb889 (Nat.le_of_eq hg.symm)) hb)
                  have n6_ := Aside0.mk (Kd.V_below (Kd.V_elderB (qv HO876.out) gb889 (Nat.le_of_eq hg.symm)) hb)
                  have n7_ := Aside0.mk (Kd.R_below (qr HO881.out) hb)
                  have n8_ := Aside0.mk (blk_below (g := gb855) (o := .cells #[.slice A0_0 l0_0.length c0_0] 24 (0, 0)) (qb BK855.out) hb)
                  have n9_ := Aside0.mk (blk_below (g := gb856) (o := .cells #[.slice A1_0 l1_0.length c1_0] 24 (0, 0)) (qb BK856.out) hb)
                  have n10_ := Aside0.mk (blk_below (g := gb873) (o := .cells #[.slice Ao37 t869.length co37] 24 (0, 0)) (qb BK873.out) hb)
                  have n11_ := Aside0.mk (blk_below (g := gb878) (o := .cells #[.slice Ao45 t874.length co45] 24 (0, 0)) (qb BK878.out) hb)
                  have n12_ := Aside0.mk (below_step (gx [gb855, gb856, gb873, gb878] ⟨GE855.out, GE856.out, GE873.out, GE878.out, trivial⟩ HB.out) hb)
                  have n13_ := Aside0.mk (hbox)
                  have n14_ := Aside0.mk ((by rw [hg]; exact (below_size (gx [gb855, gb856, gb873, gb878] ⟨GE855.out, GE856.out, GE873.out, GE878.out, trivial⟩ HB.out)) : w.heap.size ≤ gb889))
                  have n15_ := Aside0.mk ((by rw [hg]; exact (below_size (gx [gb855, gb856, gb873, gb878] ⟨GE855.out, GE856.out, GE873.out, GE878.out, trivial⟩ HB.out)) : w.heap.size ≤ gb889))
                  have n16_ := Aside0.mk ((by rw [hg]; exact Nat.ne_of_lt (blk_lt (g := gb855) (o := .cells #[.slice A0_0 l0_0.length c0_0] 24 (0, 0)) (qb BK855.out)) : gb855 ≠ gb889))
                  have n17_ := Aside0.mk ((by rw [hg]; exact Nat.ne_of_gt (blk_lt (g := gb855) (o := .cells #[.slice A0_0 l0_0.length c0_0] 24 (0, 0)) (qb BK855.out)) : gb889 ≠ gb855))
                  have n18_ := Aside0.mk ((by rw [hg]; exact Nat.ne_of_lt (blk_lt (g := gb856) (o := .cells #[.slice A1_0 l1_0.length c1_0] 24 (0, 0)) (qb BK856.out)) : gb856 ≠ gb889))
                  have n19_ := Aside0.mk ((by rw [hg]; exact Nat.ne_of_gt (blk_lt (g := gb856) (o := .cells #[.slice A1_0 l1_0.length c1_0] 24 (0, 0)) (qb BK856.out)) : gb889 ≠ gb856))
                  have n20_ := Aside0.mk ((by rw [hg]; exact Nat.ne_of_lt (blk_lt (g := gb873) (o := .cells #[.slice Ao37 t869.length co37] 24 (0, 0)) (qb BK873.out)) : gb873 ≠ gb889))
                  have n21_ := Aside0.mk ((by rw [hg]; exact Nat.ne_of_gt (blk_lt (g := gb873) (o := .cells #[.slice Ao37 t869.length co37] 24 (0, 0)) (qb BK873.out)) : gb889 ≠ gb873))
                  have n22_ := Aside0.mk ((by rw [hg]; exact Nat.ne_of_lt (blk_lt (g := gb878) (o := .cells #[.slice Ao45 t874.length co45] 24 (0, 0)) (qb BK878.out)) : gb878 ≠ gb889))
                  have n23_ := Aside0.mk ((by rw [hg]; exact Nat.ne_of_gt (blk_lt (g := gb878) (o := .cells #[.slice Ao45 t874.length co45] 24 (0, 0)) (qb BK878.out)) : gb889 ≠ gb878))
                  clear HO0_0
                  clear HO1_0
                  clear HO860
                  clear HO865
                  clear HO868
                  clear HO871
                  clear HO876
                  clear HO881
                  clear BK855
                  clear BK856
                  clear BK873
                  clear BK878
                  clear HB
                  have HO0_0 := n0_
                  have HO1_0 := n1_
                  have HO860 := n2_
                  have HO865 := n3_
                  have HO868 := n4_
                  have HO871 := n5_
                  have HO876 := n6_
                  have HO881 := n7_
                  have BK855 := n8_
                  have BK856 := n9_
                  have BK873 := n10_
                  have BK878 := n11_
                  have HB := n12_
                  have BK889 := n13_
                  have GW889 := n14_
                  have GE889 := n15_
                  have NB855_889 := n16_
                  have NB889_855 := n17_
                  have NB856_889 := n18_
                  have NB889_856 := n19_
                  have NB873_889 := n20_
                  have NB889_873 := n21_
                  have NB878_889 := n22_
                  have NB889_878 := n23_
                  clear n0_ n1_ n2_ n3_ n4_ n5_ n6_ n7_ n8_ n9_ n10_ n11_ n12_ n13_ n14_ n15_ n16_ n17_ n18_ n19_ n20_ n21_ n22_ n23_
                  clear hb hbox hg
                  refine hK.out _ _ ⟨(blk_cell BK855.out 0).trans rfl, (blk_cell BK856.out 0).trans rfl⟩ (fun hHeld => ?_)
                  clear hK K
                  refine norm_ (a' := ?_) ?_ ?_
                  rotate_left
                  · show Act.put _ (some 9) _ = _
                    simp only [Act.put, List.setIfInBounds_toArray, List.set_cons_zero, List.set_cons_succ, i64_w, i32_w]
                    rfl
                  refine one_ (i := 3) (N := some 41) #[true, true, true, true, false, false, false, false, true, false, false] rfl rfl (one_of HT_.out (by kernel_rfl)) (by decide) (fun K hK => ?_)
                  refine goes_ Tryd.func15 (by kernel_rfl) rfl #[.agg #[.slice A1_0 l1_0.length c1_0]] (by rfl) rfl rfl (by (try simp only [List.map_toArray, List.map_cons, List.map_nil]); first | done | rfl | (simp only [List.length_drop, List.length_take]; rfl)) ?_
                  with_reducible refine (ancepslaw02_copied.calls _ _ l1_0 t882 _ ?side1 ?side2 A12.out).mono ?_
                  (case side1 => repeat (first | exact (Kd.V_reads' HO1_0.out).2.2 | (with_reducible refine Kd.C_alloc ?_ _) | (with_reducible refine Kd.C_drewN ?_ _) | (with_reducible refine Kd.C_drew ?_)))
                  (case side2 => exact (Kd.V_reads' HO1_0.out).2.1)
                  rintro e w54 ⟨v883, rfl, ho0, hb⟩
                  refine ⟨_, rfl, ?_⟩
                  have n0_ := Aside0.mk (Kd.V_elder' (qv HO0_0.out) (Kd.R_base ho0) hb)
                  have n1_ := Aside0.mk (Kd.V_elder' (qv HO1_0.out) (Kd.R_base ho0) hb)
                  have n2_ := Aside0.mk (Kd.N_elder' (qn HO860.out) (Kd.R_base ho0) hb)
                  have n3_ := Aside0.mk (Kd.R_elder' (qr HO865.out) (Kd.R_base ho0) hb)
                  have n4_ := Aside0.mk (Kd.R_elder' (qr HO868.out) (Kd.R_base ho0) hb)
                  have n5_ := Aside0.mk (Kd.V_elder' (qv HO871.out) (Kd.R_base ho0) hb)
                  have n6_ := Aside0.mk (Kd.V_elder' (qv HO876.out) (Kd.R_base ho0) hb)
                  have n7_ := Aside0.mk (Kd.R_elder' (qr HO881.out) (Kd.R_base ho0) hb)
                  have n8_ := Aside0.mk (Kd.R_lower (Kd.R_new' (Kd.R_new' (Kd.R_new' (Kd.R_newM (M := fun k_ => (w.heap.size ≤ k_)) ho0 (below_size (gx [gb855, gb856, gb873, gb878, gb889] ⟨GE855.out, GE856.out, GE873.out, GE878.out, GE889.out, trivial⟩ HB.out)) (fun k_ h_ => h_)) (Kd.R_lt (qr HO865.out))) (Kd.R_lt (qr HO868.out))) (Kd.R_lt (qr HO881.out))) (below_size (gx [gb855, gb856, gb873, gb878, gb889] ⟨GE855.out, GE856.out, GE873.out, GE878.out, GE889.out, trivial⟩ HB.out)))
                  have n9_ := Aside0.mk (blk_below (g := gb855) (o := .cells #[.slice A0_0 l0_0.length c0_0] 24 (0, 0)) (qb BK855.out) hb)
                  have n10_ := Aside0.mk (blk_below (g := gb856) (o := .cells #[.slice A1_0 l1_0.length c1_0] 24 (0, 0)) (qb BK856.out) hb)
                  have n11_ := Aside0.mk (blk_below (g := gb873) (o := .cells #[.slice Ao37 t869.length co37] 24 (0, 0)) (qb BK873.out) hb)
                  have n12_ := Aside0.mk (blk_below (g := gb878) (o := .cells #[.slice Ao45 t874.length co45] 24 (0, 0)) (qb BK878.out) hb)
                  have n13_ := Aside0.mk (blk_below (g := gb889) (o := .cells #[.slice none 0 0] 24 (0, 0)) (qb BK889.out) hb)
                  have n14_ := Aside0.mk (below_step (gx [gb855, gb856, gb873, gb878, gb889] ⟨GE855.out, GE856.out, GE873.out, GE878.out, GE889.out, trivial⟩ HB.out) hb)
                  clear HO0_0
                  clear HO1_0
                  clear HO860
                  clear HO865
                  clear HO868
                  clear HO871
                  clear HO876
                  clear HO881
                  clear BK855
                  clear BK856
                  clear BK873
                  clear BK878
                  clear BK889
                  clear HB
                  have HO0_0 := n0_
                  have HO1_0 := n1_
                  have HO860 := n2_
                  have HO865 := n3_
                  have HO868 := n4_
                  have HO871 := n5_
                  have HO876 := n6_
                  have HO881 := n7_
                  have HO884 := n8_
                  have BK855 := n9_
                  have BK856 := n10_
                  have BK873 := n11_
                  have BK878 := n12_
                  have BK889 := n13_
                  have HB := n14_
                  clear n0_ n1_ n2_ n3_ n4_ n5_ n6_ n7_ n8_ n9_ n10_ n11_ n12_ n13_ n14_
                  (try clear hb)
                  (try clear hb2)
                  (try clear hk)
                  (try clear hi)
                  (try clear ho0)
                  obtain ⟨Ao55, co55, eo55⟩ := Kd.R_slice HO881.out
                  (first | subst eo55 | (injection eo55 with f1_ f2_ f3_; have f4_ := f1_.symm; have f5_ := f3_.symm; clear f1_ f2_ f3_; subst f4_; subst f5_))
                  obtain ⟨Ao56, co56, eo56⟩ := Kd.R_slice HO884.out
                  (first | subst eo56 | (injection eo56 with f1_ f2_ f3_; have f4_ := f1_.symm; have f5_ := f3_.symm; clear f1_ f2_ f3_; subst f4_; subst f5_))
                  refine hK.out _ _ ⟨(blk_cell BK855.out 0).trans rfl, (blk_cell BK856.out 0).trans rfl⟩ (fun hHeld => ?_)
                  clear hK K
                  refine norm_ (a' := ?_) ?_ ?_
                  rotate_left
                  · show Act.put _ (some 41) _ = _
                    simp only [Act.put, List.setIfInBounds_toArray, List.set_cons_zero, List.set_cons_succ, i64_w, i32_w]
                    rfl
                  refine one_ (i := 4) (N := some 42) #[true, true, true, true, true, false, false, false, true, false, false] rfl rfl (one_of HT_.out (by kernel_rfl)) (by decide) (fun K hK => ?_)
                  refine goes_ Tryd.func38 (by kernel_rfl) rfl #[.agg #[.slice Ao55 t879.length co55], .agg #[.slice Ao56 t882.length co56]] (by rfl) rfl rfl (by (try simp only [List.map_toArray, List.map_cons, List.map_nil]); first | done | rfl | (simp only [List.length_drop, List.length_take]; rfl)) ?_
                  with_reducible refine (natural_Sub.calls k _ _ t879 _ _ t882 t885 t888 _ ?side1 ?side2 ?side3 ?side4 A13.out).mono ?_
                  (case side1 => repeat (first | exact (Kd.R_reads' HO881.out).2.2 | (with_reducible refine Kd.C_alloc ?_ _) | (with_reducible refine Kd.C_drewN ?_ _) | (with_reducible refine Kd.C_drew ?_)))
                  (case side2 => exact (Kd.R_reads' HO881.out).2.1)
                  (case side3 => repeat (first | exact (Kd.R_reads' HO884.out).2.2 | (with_reducible refine Kd.C_alloc ?_ _) | (with_reducible refine Kd.C_drewN ?_ _) | (with_reducible refine Kd.C_drew ?_)))
                  (case side4 => exact (Kd.R_reads' HO884.out).2.1)
                  rintro e w57 ⟨v886, rfl, ho0, hb⟩
                  refine ⟨_, rfl, ?_⟩
                  have n0_ := Aside0.mk (Kd.V_below (qv HO0_0.out) hb)
                  have n1_ := Aside0.mk (Kd.V_below (qv HO1_0.out) hb)
                  have n2_ := Aside0.mk (Kd.N_below (qn HO860.out) hb)
                  have n3_ := Aside0.mk (Kd.R_below (qr HO865.out) hb)
                  have n4_ := Aside0.mk (Kd.R_below (qr HO868.out) hb)
                  have n5_ := Aside0.mk (Kd.V_below (qv HO871.out) hb)
                  have n6_ := Aside0.mk (Kd.V_below (qv HO876.out) hb)
                  have n7_ := Aside0.mk (Kd.R_below (qr HO881.out) hb)
                  have n8_ := Aside0.mk (Kd.R_below (qr HO884.out) hb)
                  have n9_ := Aside0.mk (Kd.V_lower (Kd.V_mono (ok' := fun k_ => ((P0_0_ k_ ∨ P1_0_ k_) ∨ w.heap.size ≤ k_) ∧ some k_ ≠ (.slice Ao28 y858.length co28 : Value).ownBlock ∧ some k_ ≠ (v864 : Value).ownBlock ∧ some k_ ≠ (v867 : Value).ownBlock ∧ some k_ ≠ (.slice Ao55 t879.length co55 : Value).ownBlock ∧ some k_ ≠ (.slice Ao56 t882.length co56 : Value).ownBlock ∧ k_ ≠ gb855 ∧ k_ ≠ gb856 ∧ k_ ≠ gb873 ∧ k_ ≠ gb878 ∧ k_ ≠ gb889) ho0 (fun k_ hk_ => ⟨(.inr (Nat.le_trans (below_size (gx [gb855, gb856, gb873, gb878, gb889] ⟨GE855.out, GE856.out, GE873.out, GE878.out, GE889.out, trivial⟩ HB.out)) hk_)), (Kd.fresh' (Kd.N_lt (qn HO860.out)) k_ hk_), (Kd.fresh' (Kd.R_lt (qr HO865.out)) k_ hk_), (Kd.fresh' (Kd.R_lt (qr HO868.out)) k_ hk_), (Kd.fresh' (Kd.R_lt (qr HO881.out)) k_ hk_), (Kd.fresh' (Kd.R_lt (qr HO884.out)) k_ hk_), (Kd.freshB (g := gb855) (o := .cells #[.slice A0_0 l0_0.length c0_0] 24 (0, 0)) (qb BK855.out) k_ hk_), (Kd.freshB (g := gb856) (o := .cells #[.slice A1_0 l1_0.length c1_0] 24 (0, 0)) (qb BK856.out) k_ hk_), (Kd.freshB (g := gb873) (o := .cells #[.slice Ao37 t869.length co37] 24 (0, 0)) (qb BK873.out) k_ hk_), (Kd.freshB (g := gb878) (o := .cells #[.slice Ao45 t874.length co45] 24 (0, 0)) (qb BK878.out) k_ hk_), (Kd.freshB (g := gb889) (o := .cells #[.slice none 0 0] 24 (0, 0)) (qb BK889.out) k_ hk_)⟩)) (below_size (gx [gb855, gb856, gb873, gb878, gb889] ⟨GE855.out, GE856.out, GE873.out, GE878.out, GE889.out, trivial⟩ HB.out)))
                  have n10_ := Aside0.mk (blk_below (g := gb855) (o := .cells #[.slice A0_0 l0_0.length c0_0] 24 (0, 0)) (qb BK855.out) hb)
                  have n11_ := Aside0.mk (blk_below (g := gb856) (o := .cells #[.slice A1_0 l1_0.length c1_0] 24 (0, 0)) (qb BK856.out) hb)
                  have n12_ := Aside0.mk (blk_below (g := gb873) (o := .cells #[.slice Ao37 t869.length co37] 24 (0, 0)) (qb BK873.out) hb)
                  have n13_ := Aside0.mk (blk_below (g := gb878) (o := .cells #[.slice Ao45 t874.length co45] 24 (0, 0)) (qb BK878.out) hb)
                  have n14_ := Aside0.mk (blk_below (g := gb889) (o := .cells #[.slice none 0 0] 24 (0, 0)) (qb BK889.out) hb)
                  have n15_ := Aside0.mk (below_step (gx [gb855, gb856, gb873, gb878, gb889] ⟨GE855.out, GE856.out, GE873.out, GE878.out, GE889.out, trivial⟩ HB.out) hb)
                  clear HO0_0
                  clear HO1_0
                  clear HO860
                  clear HO865
                  clear HO868
                  clear HO871
                  clear HO876
                  clear HO881
                  clear HO884
                  clear BK855
                  clear BK856
                  clear BK873
                  clear BK878
                  clear BK889
                  clear HB
                  have HO0_0 := n0_
                  have HO1_0 := n1_
                  have HO860 := n2_
                  have HO865 := n3_
                  have HO868 := n4_
                  have HO871 := n5_
                  have HO876 := n6_
                  have HO881 := n7_
                  have HO884 := n8_
                  have HO887 := n9_
                  have BK855 := n10_
                  have BK856 := n11_
                  have BK873 := n12_
                  have BK878 := n13_
                  have BK889 := n14_
                  have HB := n15_
                  clear n0_ n1_ n2_ n3_ n4_ n5_ n6_ n7_ n8_ n9_ n10_ n11_ n12_ n13_ n14_ n15_
                  (try clear hb)
                  (try clear hb2)
                  (try clear hk)
                  (try clear hi)
                  (try clear ho0)
                  refine hK.out _ _ ⟨(blk_cell BK855.out 0).trans rfl, (blk_cell BK856.out 0).trans rfl⟩ (fun hHeld => ?_)
                  clear hK K
                  refine norm_ (a' := ?_) ?_ ?_
                  rotate_left
                  · show Act.put _ (some 42) _ = _
                    simp only [Act.put, List.setIfInBounds_toArray, List.set_cons_zero, List.set_cons_succ, i64_w, i32_w]
                    rfl
                  refine pure_ (i := 5) (N := some 37) (v := ?_) (a' := ?_) #[true, true, true, true, true, true, false, false, true, false, false] rfl rfl (any_of HT_.out (by kernel_rfl)) (fun _ _ _ h => h) (Or.inl ⟨by rfl, ?_⟩) ?_ ?_
                  rotate_left
                  · intro w'
                    go_simp
                    with_reducible rfl
                  rotate_left
                  · simp only [Act.put, List.setIfInBounds_toArray, List.set_cons_zero, List.set_cons_succ, i64_w, i32_w]
                    rfl
                  refine pure_ (i := 6) (N := some 43) (v := ?_) (a' := ?_) #[true, true, true, true, true, true, true, false, true, false, false] rfl rfl (any_of HT_.out (by kernel_rfl)) (fun _ _ _ h => h) (Or.inl ⟨by rfl, ?_⟩) ?_ ?_
                  rotate_left
                  · intro w'
                    go_simp
                    with_reducible rfl
                  rotate_left
                  · simp only [Act.put, List.setIfInBounds_toArray, List.set_cons_zero, List.set_cons_succ, i64_w, i32_w]
                    rfl
                  refine pure_ (i := 7) (N := some 44) (v := ?_) (a' := ?_) #[true, true, true, true, true, true, true, true, true, false, false] rfl rfl (any_of HT_.out (by kernel_rfl)) (fun _ _ _ h => h) (Or.inl ⟨by rfl, ?_⟩) ?_ ?_
                  rotate_left
                  · intro w'
                    go_simp
                    with_reducible rfl
                  rotate_left
                  · simp only [Act.put, List.setIfInBounds_toArray, List.set_cons_zero, List.set_cons_succ, i64_w, i32_w]
                    rfl
                  exact norm_ (by simp only [putAll, Act.put, List.setIfInBounds_toArray, List.set_cons_zero, List.set_cons_succ]) (hCont (.slice Ao55 t879.length co55, .slice Ao56 t882.length co56, v886, gb889) _ ⟨hHeld, (by (with_reducible repeat (first | apply Kd.V_alloc | apply Kd.V_drewN | apply Kd.V_drew)); exact Kd.V_mono HO0_0.out (fun _ hk => by first | exact ⟨hk.1.1.1.1, ⟨hk.1.1.1.2.1, ⟨hk.1.1.1.2.2.1, ⟨hk.1.1.1.2.2.2.1, ⟨hk.1.1.2, ⟨hk.2, ⟨hk.1.1.1.2.2.2.2.1, ⟨hk.1.1.1.2.2.2.2.2.1, ⟨hk.1.1.1.2.2.2.2.2.2.1, ⟨hk.1.1.1.2.2.2.2.2.2.2, hk.1.2⟩⟩⟩⟩⟩⟩⟩⟩⟩⟩ | grind)), (by (with_reducible repeat (first | apply Kd.V_alloc | apply Kd.V_drewN | apply Kd.V_drew)); exact Kd.V_mono HO1_0.out (fun _ hk => by first | exact ⟨hk.1.1.1.1, ⟨hk.1.1.1.2.1, ⟨hk.1.1.1.2.2.1, ⟨hk.1.1.1.2.2.2.1, ⟨hk.1.1.2, ⟨hk.2, ⟨hk.1.1.1.2.2.2.2.1, ⟨hk.1.1.1.2.2.2.2.2.1, ⟨hk.1.1.1.2.2.2.2.2.2.1, ⟨hk.1.1.1.2.2.2.2.2.2.2, hk.1.2⟩⟩⟩⟩⟩⟩⟩⟩⟩⟩ | grind)), (by (with_reducible repeat (first | apply Kd.N_alloc | apply Kd.N_drewN | apply Kd.N_drew)); exact Kd.N_mono HO860.out (fun _ hk => by first | exact ⟨hk.1.1.1.1, ⟨hk.1.1.1.2.1, ⟨hk.1.1.1.2.2.1, ⟨hk.1.1.2, ⟨hk.2, ⟨hk.1.1.1.2.2.2.1, ⟨hk.1.1.1.2.2.2.2.1, ⟨hk.1.1.1.2.2.2.2.2.1, ⟨hk.1.1.1.2.2.2.2.2.2, hk.1.2⟩⟩⟩⟩⟩⟩⟩⟩⟩ | grind)), (by (with_reducible repeat (first | apply Kd.R_alloc | apply Kd.R_drewN | apply Kd.R_drew)); exact Kd.R_mono HO865.out (fun _ hk => by first | exact ⟨hk.1.1.1, ⟨hk.1.1.2, ⟨hk.1.2, hk.2⟩⟩⟩ | grind)), (by (with_reducible repeat (first | apply Kd.R_alloc | apply Kd.R_drewN | apply Kd.R_drew)); exact Kd.R_mono HO868.out (fun _ hk => by first | exact ⟨hk.1.1.1, ⟨hk.1.1.2, ⟨hk.1.2, hk.2⟩⟩⟩ | grind)), (by (with_reducible repeat (first | apply Kd.V_alloc | apply Kd.V_drewN | apply Kd.V_drew)); exact Kd.V_mono HO871.out (fun _ hk => by first | exact ⟨hk.1.1.1.1, ⟨hk.1.1.1.2.1, ⟨hk.1.1.1.2.2.1, ⟨hk.1.1.1.2.2.2.1, ⟨hk.1.1.2, ⟨hk.2, ⟨hk.1.1.1.2.2.2.2.1, ⟨hk.1.1.1.2.2.2.2.2.1, ⟨hk.1.1.1.2.2.2.2.2.2.1, ⟨hk.1.1.1.2.2.2.2.2.2.2, hk.1.2⟩⟩⟩⟩⟩⟩⟩⟩⟩⟩ | grind)), (by (with_reducible repeat (first | apply Kd.V_alloc | apply Kd.V_drewN | apply Kd.V_drew)); exact Kd.V_mono HO876.out (fun _ hk => by first | exact ⟨hk.1.1.1.1, ⟨hk.1.1.1.2.1, ⟨hk.1.1.1.2.2.1, ⟨hk.1.1.1.2.2.2.1, ⟨hk.1.1.2, ⟨hk.2, ⟨hk.1.1.1.2.2.2.2.1, ⟨hk.1.1.1.2.2.2.2.2.1, ⟨hk.1.1.1.2.2.2.2.2.2.1, ⟨hk.1.1.1.2.2.2.2.2.2.2, hk.1.2⟩⟩⟩⟩⟩⟩⟩⟩⟩⟩ | grind)), (by (with_reducible repeat (first | apply Kd.R_alloc | apply Kd.R_drewN | apply Kd.R_drew)); exact Kd.R_mono HO881.out (fun _ hk => by first | exact ⟨hk.1.1.1.1, ⟨hk.1.1.2, ⟨hk.1.2, hk.2⟩⟩⟩ | grind)), (by (with_reducible repeat (first | apply Kd.R_alloc | apply Kd.R_drewN | apply Kd.R_drew)); exact Kd.R_mono HO884.out (fun _ hk => by first | exact ⟨hk.1.1.1.1, ⟨hk.1.1.2, ⟨hk.1.2, hk.2⟩⟩⟩ | grind)), (qv HO887.out), (qb BK855.out), (qb BK856.out), (qb BK873.out), (qb BK878.out), (qb BK889.out), GW889.out, GE889.out, NB855_889.out, NB889_855.out, NB856_889.out, NB889_856.out, NB873_889.out, NB889_873.out, NB878_889.out, NB889_878.out, (gx [gb855, gb856, gb873, gb878, gb889] ⟨GE855.out, GE856.out, GE873.out, GE878.out, GE889.out, trivial⟩ HB.out)⟩)
              · skip
                refine box_step ?hg (N := 9) ?hd (cs := #[.slice none 0 0]) (t := 24) ?hr ?_; (case hd => rfl); (case hg => rfl); (case hr => first | (go_simp; done) | (go_simp; rfl))
                intro gb889 hg w52 hbox hb
                have n0_ := Aside0.mk (Kd.V_below (Kd.V_elderB (qv HO0_0.out) gb889 (Nat.le_of_eq hg.symm)) hb)
                have n1_ := Aside0.mk (Kd.V_below (Kd.V_elderB (qv HO1_0.out) gb889 (Nat.le_of_eq hg.symm)) hb)
                have n2_ := Aside0.mk (Kd.N_below (Kd.N_elderB (qn HO860.out) gb889 (Nat.le_of_eq hg.symm)) hb)
                have n3_ := Aside0.mk (Kd.R_below (qr HO865.out) hb)
                have n4_ := Aside0.mk (Kd.R_below (qr HO868.out) hb)
                have n5_ := Aside0.mk (Kd.V_below (Kd.V_elderB (qv HO871.out) gb889 (Nat.le_of_eq hg.symm)) hb)
                have n6_ := Aside0.mk (Kd.V_below (Kd.V_elderB (qv HO876.out) gb889 (Nat.le_of_eq hg.symm)) hb)
                have n7_ := Aside0.mk (blk_below (g := gb855) (o := .cells #[.slice A0_0 l0_0.length c0_0] 24 (0, 0)) (qb BK855.out) hb)
                have n8_ := Aside0.mk (blk_below (g := gb856) (o := .cells #[.slice A1_0 l1_0.length c1_0] 24 (0, 0)) (qb BK856.out) hb)
                have n9_ := Aside0.mk (blk_below (g := gb873) (o := .cells #[.slice Ao37 t869.length co37] 24 (0, 0)) (qb BK873.out) hb)
                have n10_ := Aside0.mk (blk_below (g := gb878) (o := .cells #[.slice Ao45 t874.length co45] 24 (0, 0)) (qb BK878.out) hb)
                have n11_ := Aside0.mk (below_step (gx [gb855, gb856, gb873, gb878] ⟨GE855.out, GE856.out, GE873.out, GE878.out, trivial⟩ HB.out) hb)
                have n12_ := Aside0.mk (hbox)
                have n13_ := Aside0.mk ((by rw [hg]; exact (below_size (gx [gb855, gb856, gb873, gb878] ⟨GE855.out, GE856.out, GE873.out, GE878.out, trivial⟩ HB.out)) : w.heap.size ≤ gb889))
                have n14_ := Aside0.mk ((by rw [hg]; exact (below_size (gx [gb855, gb856, gb873, gb878] ⟨GE855.out, GE856.out, GE873.out, GE878.out, trivial⟩ HB.out)) : w.heap.size ≤ gb889))
                have n15_ := Aside0.mk ((by rw [hg]; exact Nat.ne_of_lt (blk_lt (g := gb855) (o := .cells #[.slice A0_0 l0_0.length c0_0] 24 (0, 0)) (qb BK855.out)) : gb855 ≠ gb889))
                have n16_ := Aside0.mk ((by rw [hg]; exact Nat.ne_of_gt (blk_lt (g := gb855) (o := .cells #[.slice A0_0 l0_0.length c0_0] 24 (0, 0)) (qb BK855.out)) : gb889 ≠ gb855))
                have n17_ := Aside0.mk ((by rw [hg]; exact Nat.ne_of_lt (blk_lt (g := gb856) (o := .cells #[.slice A1_0 l1_0.length c1_0] 24 (0, 0)) (qb BK856.out)) : gb856 ≠ gb889))
                have n18_ := Aside0.mk ((by rw [hg]; exact Nat.ne_of_gt (blk_lt (g := gb856) (o := .cells #[.slice A1_0 l1_0.length c1_0] 24 (0, 0)) (qb BK856.out)) : gb889 ≠ gb856))
                have n19_ := Aside0.mk ((by rw [hg]; exact Nat.ne_of_lt (blk_lt (g := gb873) (o := .cells #[.slice Ao37 t869.length co37] 24 (0, 0)) (qb BK873.out)) : gb873 ≠ gb889))
                have n20_ := Aside0.mk ((by rw [hg]; exact Nat.ne_of_gt (blk_lt (g := gb873) (o := .cells #[.slice Ao37 t869.length co37] 24 (0, 0)) (qb BK873.out)) : gb889 ≠ gb873))
                have n21_ := Aside0.mk ((by rw [hg]; exact Nat.ne_of_lt (blk_lt (g := gb878) (o := .cells #[.slice Ao45 t874.length co45] 24 (0, 0)) (qb BK878.out)) : gb878 ≠ gb889))
                have n22_ := Aside0.mk ((by rw [hg]; exact Nat.ne_of_gt (blk_lt (g := gb878) (o := .cells #[.slice Ao45 t874.length co45] 24 (0, 0)) (qb BK878.out)) : gb889 ≠ gb878))
                clear HO0_0
                clear HO1_0
                clear HO860
                clear HO865
                clear HO868
                clear HO871
                clear HO876
                clear BK855
                clear BK856
                clear BK873
                clear BK878
                clear HB
                have HO0_0 := n0_
                have HO1_0 := n1_
                have HO860 := n2_
                have HO865 := n3_
                have HO868 := n4_
                have HO871 := n5_
                have HO876 := n6_
                have BK855 := n7_
                have BK856 := n8_
                have BK873 := n9_
                have BK878 := n10_
                have HB := n11_
                have BK889 := n12_
                have GW889 := n13_
                have GE889 := n14_
                have NB855_889 := n15_
                have NB889_855 := n16_
                have NB856_889 := n17_
                have NB889_856 := n18_
                have NB873_889 := n19_
                have NB889_873 := n20_
                have NB878_889 := n21_
                have NB889_878 := n22_
                clear n0_ n1_ n2_ n3_ n4_ n5_ n6_ n7_ n8_ n9_ n10_ n11_ n12_ n13_ n14_ n15_ n16_ n17_ n18_ n19_ n20_ n21_ n22_
                clear hb hbox hg
                refine hK.out _ _ ⟨(blk_cell BK855.out 0).trans rfl, (blk_cell BK856.out 0).trans rfl⟩ (fun hHeld => ?_)
                clear hK K
                refine norm_ (a' := ?_) ?_ ?_
                rotate_left
                · show Act.put _ (some 9) _ = _
                  simp only [Act.put, List.setIfInBounds_toArray, List.set_cons_zero, List.set_cons_succ, i64_w, i32_w]
                  rfl
                refine one_ (i := 1) (N := some 39) #[true, true, true, false, false, false, false, false, true, false, false] rfl rfl (one_of HT_.out (by kernel_rfl)) (by decide) (fun K hK => ?_)
                refine goes_ Tryd.func15 (by kernel_rfl) rfl #[.agg #[.slice A0_0 l0_0.length c0_0]] (by rfl) rfl rfl (by (try simp only [List.map_toArray, List.map_cons, List.map_nil]); first | done | rfl | (simp only [List.length_drop, List.length_take]; rfl)) ?_
                with_reducible refine (ancepslaw02_copied.calls _ _ l0_0 t879 _ ?side1 ?side2 A11.out).mono ?_
                (case side1 => repeat (first | exact (Kd.V_reads' HO0_0.out).2.2 | (with_reducible refine Kd.C_alloc ?_ _) | (with_reducible refine Kd.C_drewN ?_ _) | (with_reducible refine Kd.C_drew ?_)))
                (case side2 => exact (Kd.V_reads' HO0_0.out).2.1)
                rintro e w53 ⟨v880, rfl, ho0, hb⟩
                refine ⟨_, rfl, ?_⟩
                have n0_ := Aside0.mk (Kd.V_elder' (qv HO0_0.out) (Kd.R_base ho0) hb)
                have n1_ := Aside0.mk (Kd.V_elder' (qv HO1_0.out) (Kd.R_base ho0) hb)
                have n2_ := Aside0.mk (Kd.N_elder' (qn HO860.out) (Kd.R_base ho0) hb)
                have n3_ := Aside0.mk (Kd.R_elder' (qr HO865.out) (Kd.R_base ho0) hb)
                have n4_ := Aside0.mk (Kd.R_elder' (qr HO868.out) (Kd.R_base ho0) hb)
                have n5_ := Aside0.mk (Kd.V_elder' (qv HO871.out) (Kd.R_base ho0) hb)
                have n6_ := Aside0.mk (Kd.V_elder' (qv HO876.out) (Kd.R_base ho0) hb)
                have n7_ := Aside0.mk (Kd.R_lower (Kd.R_new' (Kd.R_new' (Kd.R_newM (M := fun k_ => (w.heap.size ≤ k_)) ho0 (below_size (gx [gb855, gb856, gb873, gb878, gb889] ⟨GE855.out, GE856.out, GE873.out, GE878.out, GE889.out, trivial⟩ HB.out)) (fun k_ h_ => h_)) (Kd.R_lt (qr HO865.out))) (Kd.R_lt (qr HO868.out))) (below_size (gx [gb855, gb856, gb873, gb878, gb889] ⟨GE855.out, GE856.out, GE873.out, GE878.out, GE889.out, trivial⟩ HB.out)))
                have n8_ := Aside0.mk (blk_below (g := gb855) (o := .cells #[.slice A0_0 l0_0.length c0_0] 24 (0, 0)) (qb BK855.out) hb)
                have n9_ := Aside0.mk (blk_below (g := gb856) (o := .cells #[.slice A1_0 l1_0.length c1_0] 24 (0, 0)) (qb BK856.out) hb)
                have n10_ := Aside0.mk (blk_below (g := gb873) (o := .cells #[.slice Ao37 t869.length co37] 24 (0, 0)) (qb BK873.out) hb)
                have n11_ := Aside0.mk (blk_below (g := gb878) (o := .cells #[.slice Ao45 t874.length co45] 24 (0, 0)) (qb BK878.out) hb)
                have n12_ := Aside0.mk (blk_below (g := gb889) (o := .cells #[.slice none 0 0] 24 (0, 0)) (qb BK889.out) hb)
                have n13_ := Aside0.mk (below_step (gx [gb855, gb856, gb873, gb878, gb889] ⟨GE855.out, GE856.out, GE873.out, GE878.out, GE889.out, trivial⟩ HB.out) hb)
                clear HO0_0
                clear HO1_0
                clear HO860
                clear HO865
                clear HO868
                clear HO871
                clear HO876
                clear BK855
                clear BK856
                clear BK873
                clear BK878
                clear BK889
                clear HB
                have HO0_0 := n0_
                have HO1_0 := n1_
                have HO860 := n2_
                have HO865 := n3_
                have HO868 := n4_
                have HO871 := n5_
                have HO876 := n6_
                have HO881 := n7_
                have BK855 := n8_
                have BK856 := n9_
                have BK873 := n10_
                have BK878 := n11_
                have BK889 := n12_
                have HB := n13_
                clear n0_ n1_ n2_ n3_ n4_ n5_ n6_ n7_ n8_ n9_ n10_ n11_ n12_ n13_
                (try clear hb)
                (try clear hb2)
                (try clear hk)
                (try clear hi)
                (try clear ho0)
                refine hK.out _ _ ⟨(blk_cell BK855.out 0).trans rfl, (blk_cell BK856.out 0).trans rfl⟩ (fun hHeld => ?_)
                clear hK K
                refine norm_ (a' := ?_) ?_ ?_
                rotate_left
                · show Act.put _ (some 39) _ = _
                  simp only [Act.put, List.setIfInBounds_toArray, List.set_cons_zero, List.set_cons_succ, i64_w, i32_w]
                  rfl
                refine one_ (i := 3) (N := some 41) #[true, true, true, true, false, false, false, false, true, false, false] rfl rfl (one_of HT_.out (by kernel_rfl)) (by decide) (fun K hK => ?_)
                refine goes_ Tryd.func15 (by kernel_rfl) rfl #[.agg #[.slice A1_0 l1_0.length c1_0]] (by rfl) rfl rfl (by (try simp only [List.map_toArray, List.map_cons, List.map_nil]); first | done | rfl | (simp only [List.length_drop, List.length_take]; rfl)) ?_
                with_reducible refine (ancepslaw02_copied.calls _ _ l1_0 t882 _ ?side1 ?side2 A12.out).mono ?_
                (case side1 => repeat (first | exact (Kd.V_reads' HO1_0.out).2.2 | (with_reducible refine Kd.C_alloc ?_ _) | (with_reducible refine Kd.C_drewN ?_ _) | (with_reducible refine Kd.C_drew ?_)))
                (case side2 => exact (Kd.V_reads' HO1_0.out).2.1)
                rintro e w54 ⟨v883, rfl, ho0, hb⟩
                refine ⟨_, rfl, ?_⟩
                have n0_ := Aside0.mk (Kd.V_elder' (qv HO0_0.out) (Kd.R_base ho0) hb)
                have n1_ := Aside0.mk (Kd.V_elder' (qv HO1_0.out) (Kd.R_base ho0) hb)
                have n2_ := Aside0.mk (Kd.N_elder' (qn HO860.out) (Kd.R_base ho0) hb)
                have n3_ := Aside0.mk (Kd.R_elder' (qr HO865.out) (Kd.R_base ho0) hb)
                have n4_ := Aside0.mk (Kd.R_elder' (qr HO868.out) (Kd.R_base ho0) hb)
                have n5_ := Aside0.mk (Kd.V_elder' (qv HO871.out) (Kd.R_base ho0) hb)
                have n6_ := Aside0.mk (Kd.V_elder' (qv HO876.out) (Kd.R_base ho0) hb)
                have n7_ := Aside0.mk (Kd.R_elder' (qr HO881.out) (Kd.R_base ho0) hb)
                have n8_ := Aside0.mk (Kd.R_lower (Kd.R_new' (Kd.R_new' (Kd.R_new' (Kd.R_newM (M := fun k_ => (w.heap.size ≤ k_)) ho0 (below_size (gx [gb855, gb856, gb873, gb878, gb889] ⟨GE855.out, GE856.out, GE873.out, GE878.out, GE889.out, trivial⟩ HB.out)) (fun k_ h_ => h_)) (Kd.R_lt (qr HO865.out))) (Kd.R_lt (qr HO868.out))) (Kd.R_lt (qr HO881.out))) (below_size (gx [gb855, gb856, gb873, gb878, gb889] ⟨GE855.out, GE856.out, GE873.out, GE878.out, GE889.out, trivial⟩ HB.out)))
                have n9_ := Aside0.mk (blk_below (g := gb855) (o := .cells #[.slice A0_0 l0_0.length c0_0] 24 (0, 0)) (qb BK855.out) hb)
                have n10_ := Aside0.mk (blk_below (g := gb856) (o := .cells #[.slice A1_0 l1_0.length c1_0] 24 (0, 0)) (qb BK856.out) hb)
                have n11_ := Aside0.mk (blk_below (g := gb873) (o := .cells #[.slice Ao37 t869.length co37] 24 (0, 0)) (qb BK873.out) hb)
                have n12_ := Aside0.mk (blk_below (g := gb878) (o := .cells #[.slice Ao45 t874.length co45] 24 (0, 0)) (qb BK878.out) hb)
                have n13_ := Aside0.mk (blk_below (g := gb889) (o := .cells #[.slice none 0 0] 24 (0, 0)) (qb BK889.out) hb)
                have n14_ := Aside0.mk (below_step (gx [gb855, gb856, gb873, gb878, gb889] ⟨GE855.out, GE856.out, GE873.out, GE878.out, GE889.out, trivial⟩ HB.out) hb)
                clear HO0_0
                clear HO1_0
                clear HO860
                clear HO865
                clear HO868
                clear HO871
                clear HO876
                clear HO881
                clear BK855
                clear BK856
                clear BK873
                clear BK878
                clear BK889
                clear HB
                have HO0_0 := n0_
                have HO1_0 := n1_
                have HO860 := n2_
                have HO865 := n3_
                have HO868 := n4_
                have HO871 := n5_
                have HO876 := n6_
                have HO881 := n7_
                have HO884 := n8_
                have BK855 := n9_
                have BK856 := n10_
                have BK873 := n11_
                have BK878 := n12_
                have BK889 := n13_
                have HB := n14_
                clear n0_ n1_ n2_ n3_ n4_ n5_ n6_ n7_ n8_ n9_ n10_ n11_ n12_ n13_ n14_
                (try clear hb)
                (try clear hb2)
                (try clear hk)
                (try clear hi)
                (try clear ho0)
                obtain ⟨Ao55, co55, eo55⟩ := Kd.R_slice HO881.out
                (first | subst eo55 | (injection eo55 with f1_ f2_ f3_; have f4_ := f1_.symm; have f5_ := f3_.symm; clear f1_ f2_ f3_; subst f4_; subst f5_))
                obtain ⟨Ao56, co56, eo56⟩ := Kd.R_slice HO884.out
                (first | subst eo56 | (injection eo56 with f1_ f2_ f3_; have f4_ := f1_.symm; have f5_ := f3_.symm; clear f1_ f2_ f3_; subst f4_; subst f5_))
                refine hK.out _ _ ⟨(blk_cell BK855.out 0).trans rfl, (blk_cell BK856.out 0).trans rfl⟩ (fun hHeld => ?_)
                clear hK K
                refine norm_ (a' := ?_) ?_ ?_
                rotate_left
                · show Act.put _ (some 41) _ = _
                  simp only [Act.put, List.setIfInBounds_toArray, List.set_cons_zero, List.set_cons_succ, i64_w, i32_w]
                  rfl
                refine one_ (i := 4) (N := some 42) #[true, true, true, true, true, false, false, false, true, false, false] rfl rfl (one_of HT_.out (by kernel_rfl)) (by decide) (fun K hK => ?_)
                refine goes_ Tryd.func38 (by kernel_rfl) rfl #[.agg #[.slice Ao55 t879.length co55], .agg #[.slice Ao56 t882.length co56]] (by rfl) rfl rfl (by (try simp only [List.map_toArray, List.map_cons, List.map_nil]); first | done | rfl | (simp only [List.length_drop, List.length_take]; rfl)) ?_
                with_reducible refine (natural_Sub.calls k _ _ t879 _ _ t882 t885 t888 _ ?side1 ?side2 ?side3 ?side4 A13.out).mono ?_
                (case side1 => repeat (first | exact (Kd.R_reads' HO881.out).2.2 | (with_reducible refine Kd.C_alloc ?_ _) | (with_reducible refine Kd.C_drewN ?_ _) | (with_reducible refine Kd.C_drew ?_)))
                (case side2 => exact (Kd.R_reads' HO881.out).2.1)
                (case side3 => repeat (first | exact (Kd.R_reads' HO884.out).2.2 | (with_reducible refine Kd.C_alloc ?_ _) | (with_reducible refine Kd.C_drewN ?_ _) | (with_reducible refine Kd.C_drew ?_)))
                (case side4 => exact (Kd.R_reads' HO884.out).2.1)
                rintro e w57 ⟨v886, rfl, ho0, hb⟩
                refine ⟨_, rfl, ?_⟩
                have n0_ := Aside0.mk (Kd.V_below (qv HO0_0.out) hb)
                have n1_ := Aside0.mk (Kd.V_below (qv HO1_0.out) hb)
                have n2_ := Aside0.mk (Kd.N_below (qn HO860.out) hb)
                have n3_ := Aside0.mk (Kd.R_below (qr HO865.out) hb)
                have n4_ := Aside0.mk (Kd.R_below (qr HO868.out) hb)
                have n5_ := Aside0.mk (Kd.V_below (qv HO871.out) hb)
                have n6_ := Aside0.mk (Kd.V_below (qv HO876.out) hb)
                have n7_ := Aside0.mk (Kd.R_below (qr HO881.out) hb)
                have n8_ := Aside0.mk (Kd.R_below (qr HO884.out) hb)
                have n9_ := Aside0.mk (Kd.V_lower (Kd.V_mono (ok' := fun k_ => ((P0_0_ k_ ∨ P1_0_ k_) ∨ w.heap.size ≤ k_) ∧ some k_ ≠ (.slice Ao28 y858.length co28 : Value).ownBlock ∧ some k_ ≠ (v864 : Value).ownBlock ∧ some k_ ≠ (v867 : Value).ownBlock ∧ some k_ ≠ (.slice Ao55 t879.length co55 : Value).ownBlock ∧ some k_ ≠ (.slice Ao56 t882.length co56 : Value).ownBlock ∧ k_ ≠ gb855 ∧ k_ ≠ gb856 ∧ k_ ≠ gb873 ∧ k_ ≠ gb878 ∧ k_ ≠ gb889) ho0 (fun k_ hk_ => ⟨(.inr (Nat.le_trans (below_size (gx [gb855, gb856, gb873, gb878, gb889] ⟨GE855.out, GE856.out, GE873.out, GE878.out, GE889.out, trivial⟩ HB.out)) hk_)), (Kd.fresh' (Kd.N_lt (qn HO860.out)) k_ hk_), (Kd.fresh' (Kd.R_lt (qr HO865.out)) k_ hk_), (Kd.fresh' (Kd.R_lt (qr HO868.out)) k_ hk_), (Kd.fresh' (Kd.R_lt (qr HO881.out)) k_ hk_), (Kd.fresh' (Kd.R_lt (qr HO884.out)) k_ hk_), (Kd.freshB (g := gb855) (o := .cells #[.slice A0_0 l0_0.length c0_0] 24 (0, 0)) (qb BK855.out) k_ hk_), (Kd.freshB (g := gb856) (o := .cells #[.slice A1_0 l1_0.length c1_0] 24 (0, 0)) (qb BK856.out) k_ hk_), (Kd.freshB (g := gb873) (o := .cells #[.slice Ao37 t869.length co37] 24 (0, 0)) (qb BK873.out) k_ hk_), (Kd.freshB (g := gb878) (o := .cells #[.slice Ao45 t874.length co45] 24 (0, 0)) (qb BK878.out) k_ hk_), (Kd.freshB (g := gb889) (o := .cells #[.slice none 0 0] 24 (0, 0)) (qb BK889.out) k_ hk_)⟩)) (below_size (gx [gb855, gb856, gb873, gb878, gb889] ⟨GE855.out, GE856.out, GE873.out, GE878.out, GE889.out, trivial⟩ HB.out)))
                have n10_ := Aside0.mk (blk_below (g := gb855) (o := .cells #[.slice A0_0 l0_0.length c0_0] 24 (0, 0)) (qb BK855.out) hb)
                have n11_ := Aside0.mk (blk_below (g := gb856) (o := .cells #[.slice A1_0 l1_0.length c1_0] 24 (0, 0)) (qb BK856.out) hb)
                have n12_ := Aside0.mk (blk_below (g := gb873) (o := .cells #[.slice Ao37 t869.length co37] 24 (0, 0)) (qb BK873.out) hb)
                have n13_ := Aside0.mk (blk_below (g := gb878) (o := .cells #[.slice Ao45 t874.length co45] 24 (0, 0)) (qb BK878.out) hb)
                have n14_ := Aside0.mk (blk_below (g := gb889) (o := .cells #[.slice none 0 0] 24 (0, 0)) (qb BK889.out) hb)
                have n15_ := Aside0.mk (below_step (gx [gb855, gb856, gb873, gb878, gb889] ⟨GE855.out, GE856.out, GE873.out, GE878.out, GE889.out, trivial⟩ HB.out) hb)
                clear HO0_0
                clear HO1_0
                clear HO860
                clear HO865
                clear HO868
                clear HO871
                clear HO876
                clear HO881
                clear HO884
                clear BK855
                clear BK856
                clear BK873
                clear BK878
                clear BK889
                clear HB
                have HO0_0 := n0_
                have HO1_0 := n1_
                have HO860 := n2_
                have HO865 := n3_
                have HO868 := n4_
                have HO871 := n5_
                have HO876 := n6_
                have HO881 := n7_
                have HO884 := n8_
                have HO887 := n9_
                have BK855 := n10_
                have BK856 := n11_
                have BK873 := n12_
                have BK878 := n13_
                have BK889 := n14_
                have HB := n15_
                clear n0_ n1_ n2_ n3_ n4_ n5_ n6_ n7_ n8_ n9_ n10_ n11_ n12_ n13_ n14_ n15_
                (try clear hb)
                (try clear hb2)
                (try clear hk)
                (try clear hi)
                (try clear ho0)
                refine hK.out _ _ ⟨(blk_cell BK855.out 0).trans rfl, (blk_cell BK856.out 0).trans rfl⟩ (fun hHeld => ?_)
                clear hK K
                refine norm_ (a' := ?_) ?_ ?_
                rotate_left
                · show Act.put _ (some 42) _ = _
                  simp only [Act.put, List.setIfInBounds_toArray, List.set_cons_zero, List.set_cons_succ, i64_w, i32_w]
                  rfl
                refine pure_ (i := 5) (N := some 37) (v := ?_) (a' := ?_) #[true, true, true, true, true, true, false, false, true, false, false] rfl rfl (any_of HT_.out (by kernel_rfl)) (fun _ _ _ h => h) (Or.inl ⟨by rfl, ?_⟩) ?_ ?_
                rotate_left
                · intro w'
                  go_simp
                  with_reducible rfl
                rotate_left
                · simp only [Act.put, List.setIfInBounds_toArray, List.set_cons_zero, List.set_cons_succ, i64_w, i32_w]
                  rfl
                refine pure_ (i := 6) (N := some 43) (v := ?_) (a' := ?_) #[true, true, true, true, true, true, true, false, true, false, false] rfl rfl (any_of HT_.out (by kernel_rfl)) (fun _ _ _ h => h) (Or.inl ⟨by rfl, ?_⟩) ?_ ?_
                rotate_left
                · intro w'
                  go_simp
                  with_reducible rfl
                rotate_left
                · simp only [Act.put, List.setIfInBounds_toArray, List.set_cons_zero, List.set_cons_succ, i64_w, i32_w]
                  rfl
                refine pure_ (i := 7) (N := some 44) (v := ?_) (a' := ?_) #[true, true, true, true, true, true, true, true, true, false, false] rfl rfl (any_of HT_.out (by kernel_rfl)) (fun _ _ _ h => h) (Or.inl ⟨by rfl, ?_⟩) ?_ ?_
                rotate_left
                · intro w'
                  go_simp
                  with_reducible rfl
                rotate_left
                · simp only [Act.put, List.setIfInBounds_toArray, List.set_cons_zero, List.set_cons_succ, i64_w, i32_w]
                  rfl
                exact norm_ (by simp only [putAll, Act.put, List.setIfInBounds_toArray, List.set_cons_zero, List.set_cons_succ]) (hCont (.slice Ao55 t879.length co55, .slice Ao56 t882.length co56, v886, gb889) _ ⟨hHeld, (by (with_reducible repeat (first | apply Kd.V_alloc | apply Kd.V_drewN | apply Kd.V_drew)); exact Kd.V_mono HO0_0.out (fun _ hk => by first | exact ⟨hk.1.1.1.1, ⟨hk.1.1.1.2.1, ⟨hk.1.1.1.2.2.1, ⟨hk.1.1.1.2.2.2.1, ⟨hk.1.2, ⟨hk.2, ⟨hk.1.1.1.2.2.2.2.1, ⟨hk.1.1.1.2.2.2.2.2.1, ⟨hk.1.1.1.2.2.2.2.2.2.1, ⟨hk.1.1.1.2.2.2.2.2.2.2, hk.1.1.2⟩⟩⟩⟩⟩⟩⟩⟩⟩⟩ | grind)), (by (with_reducible repeat (first | apply Kd.V_alloc | apply Kd.V_drewN | apply Kd.V_drew)); exact Kd.V_mono HO1_0.out (fun _ hk => by first | exact ⟨hk.1.1.1.1, ⟨hk.1.1.1.2.1, ⟨hk.1.1.1.2.2.1, ⟨hk.1.1.1.2.2.2.1, ⟨hk.1.2, ⟨hk.2, ⟨hk.1.1.1.2.2.2.2.1, ⟨hk.1.1.1.2.2.2.2.2.1, ⟨hk.1.1.1.2.2.2.2.2.2.1, ⟨hk.1.1.1.2.2.2.2.2.2.2, hk.1.1.2⟩⟩⟩⟩⟩⟩⟩⟩⟩⟩ | grind)), (by (with_reducible repeat (first | apply Kd.N_alloc | apply Kd.N_drewN | apply Kd.N_drew)); exact Kd.N_mono HO860.out (fun _ hk => by first | exact ⟨hk.1.1.1.1, ⟨hk.1.1.1.2.1, ⟨hk.1.1.1.2.2.1, ⟨hk.1.2, ⟨hk.2, ⟨hk.1.1.1.2.2.2.1, ⟨hk.1.1.1.2.2.2.2.1, ⟨hk.1.1.1.2.2.2.2.2.1, ⟨hk.1.1.1.2.2.2.2.2.2, hk.1.1.2⟩⟩⟩⟩⟩⟩⟩⟩⟩ | grind)), (by (with_reducible repeat (first | apply Kd.R_alloc | apply Kd.R_drewN | apply Kd.R_drew)); exact Kd.R_mono HO865.out (fun _ hk => by first | exact ⟨hk.1.1.1, ⟨hk.1.1.2, ⟨hk.1.2, hk.2⟩⟩⟩ | grind)), (by (with_reducible repeat (first | apply Kd.R_alloc | apply Kd.R_drewN | apply Kd.R_drew)); exact Kd.R_mono HO868.out (fun _ hk => by first | exact ⟨hk.1.1.1, ⟨hk.1.1.2, ⟨hk.1.2, hk.2⟩⟩⟩ | grind)), (by (with_reducible repeat (first | apply Kd.V_alloc | apply Kd.V_drewN | apply Kd.V_drew)); exact Kd.V_mono HO871.out (fun _ hk => by first | exact ⟨hk.1.1.1.1, ⟨hk.1.1.1.2.1, ⟨hk.1.1.1.2.2.1, ⟨hk.1.1.1.2.2.2.1, ⟨hk.1.2, ⟨hk.2, ⟨hk.1.1.1.2.2.2.2.1, ⟨hk.1.1.1.2.2.2.2.2.1, ⟨hk.1.1.1.2.2.2.2.2.2.1, ⟨hk.1.1.1.2.2.2.2.2.2.2, hk.1.1.2⟩⟩⟩⟩⟩⟩⟩⟩⟩⟩ | grind)), (by (with_reducible repeat (first | apply Kd.V_alloc | apply Kd.V_drewN | apply Kd.V_drew)); exact Kd.V_mono HO876.out (fun _ hk => by first | exact ⟨hk.1.1.1.1, ⟨hk.1.1.1.2.1, ⟨hk.1.1.1.2.2.1, ⟨hk.1.1.1.2.2.2.1, ⟨hk.1.2, ⟨hk.2, ⟨hk.1.1.1.2.2.2.2.1, ⟨hk.1.1.1.2.2.2.2.2.1, ⟨hk.1.1.1.2.2.2.2.2.2.1, ⟨hk.1.1.1.2.2.2.2.2.2.2, hk.1.1.2⟩⟩⟩⟩⟩⟩⟩⟩⟩⟩ | grind)), (by (with_reducible repeat (first | apply Kd.R_alloc | apply Kd.R_drewN | apply Kd.R_drew)); exact Kd.R_mono HO881.out (fun _ hk => by first | exact ⟨hk.1.1.1.1, ⟨hk.1.1.2, ⟨hk.1.2, hk.2⟩⟩⟩ | grind)), (by (with_reducible repeat (first | apply Kd.R_alloc | apply Kd.R_drewN | apply Kd.R_drew)); exact Kd.R_mono HO884.out (fun _ hk => by first | exact ⟨hk.1.1.1.1, ⟨hk.1.1.2, ⟨hk.1.2, hk.2⟩⟩⟩ | grind)), (qv HO887.out), (qb BK855.out), (qb BK856.out), (qb BK873.out), (qb BK878.out), (qb BK889.out), GW889.out, GE889.out, NB855_889.out, NB889_855.out, NB856_889.out, NB889_856.out, NB873_889.out, NB889_873.out, NB878_889.out, NB889_878.out, (gx [gb855, gb856, gb873, gb878, gb889] ⟨GE855.out, GE856.out, GE873.out, GE878.out, GE889.out, trivial⟩ HB.out)⟩)
            rintro ⟨v880, v883, v886, gb889⟩ w58 ⟨hS_, h0_, h1_, h2_, h3_, h4_, h5_, h6_, h7_, h8_, h9_, h10_, h11_, h12_, h13_, h14_, h15_, h16_, h17_, h18_, h19_, h20_, h21_, h22_, h23_, h24_, h25_⟩
            have n0_ : Aside0 (Kd.V (Kd.int .i64) 3 w58 w.heap.size (fun k_ => ((P0_0_ k_ ∨ P1_0_ k_) ∨ w.heap.size ≤ k_) ∧ some k_ ≠ (.slice Ao28 y858.length co28 : Value).ownBlock ∧ some k_ ≠ (v864 : Value).ownBlock ∧ some k_ ≠ (v867 : Value).ownBlock ∧ some k_ ≠ (v880 : Value).ownBlock ∧ some k_ ≠ (v883 : Value).ownBlock ∧ k_ ≠ gb855 ∧ k_ ≠ gb856 ∧ k_ ≠ gb873 ∧ k_ ≠ gb878 ∧ k_ ≠ gb889) (.slice A0_0 l0_0.length c0_0) l0_0) := ⟨h0_⟩
            have n1_ : Aside0 (Kd.V (Kd.int .i64) 3 w58 w.heap.size (fun k_ => ((P0_0_ k_ ∨ P1_0_ k_) ∨ w.heap.size ≤ k_) ∧ some k_ ≠ (.slice Ao28 y858.length co28 : Value).ownBlock ∧ some k_ ≠ (v864 : Value).ownBlock ∧ some k_ ≠ (v867 : Value).ownBlock ∧ some k_ ≠ (v880 : Value).ownBlock ∧ some k_ ≠ (v883 : Value).ownBlock ∧ k_ ≠ gb855 ∧ k_ ≠ gb856 ∧ k_ ≠ gb873 ∧ k_ ≠ gb878 ∧ k_ ≠ gb889) (.slice A1_0 l1_0.length c1_0) l1_0) := ⟨h1_⟩
            have n2_ : Aside0 (Kd.N k24 24 w58 w.heap.size (fun k_ => ((P0_0_ k_ ∨ P1_0_ k_) ∨ w.heap.size ≤ k_) ∧ some k_ ≠ (v864 : Value).ownBlock ∧ some k_ ≠ (v867 : Value).ownBlock ∧ some k_ ≠ (v880 : Value).ownBlock ∧ some k_ ≠ (v883 : Value).ownBlock ∧ k_ ≠ gb855 ∧ k_ ≠ gb856 ∧ k_ ≠ gb873 ∧ k_ ≠ gb878 ∧ k_ ≠ gb889) (.slice Ao28 y858.length co28) y858) := ⟨h2_⟩
            have n3_ : Aside0 (Kd.R (Kd.int .i64) 3 w58 w.heap.size (fun k_ => (w.heap.size ≤ k_) ∧ some k_ ≠ (v867 : Value).ownBlock ∧ some k_ ≠ (v880 : Value).ownBlock ∧ some k_ ≠ (v883 : Value).ownBlock) v864 t863) := ⟨h3_⟩
            have n4_ : Aside0 (Kd.R (Kd.int .i64) 3 w58 w.heap.size (fun k_ => (w.heap.size ≤ k_) ∧ some k_ ≠ (v864 : Value).ownBlock ∧ some k_ ≠ (v880 : Value).ownBlock ∧ some k_ ≠ (v883 : Value).ownBlock) v867 t866) := ⟨h4_⟩
            have n5_ : Aside0 (Kd.V (Kd.int .i64) 3 w58 w.heap.size (fun k_ => ((P0_0_ k_ ∨ P1_0_ k_) ∨ w.heap.size ≤ k_) ∧ some k_ ≠ (.slice Ao28 y858.length co28 : Value).ownBlock ∧ some k_ ≠ (v864 : Value).ownBlock ∧ some k_ ≠ (v867 : Value).ownBlock ∧ some k_ ≠ (v880 : Value).ownBlock ∧ some k_ ≠ (v883 : Value).ownBlock ∧ k_ ≠ gb855 ∧ k_ ≠ gb856 ∧ k_ ≠ gb873 ∧ k_ ≠ gb878 ∧ k_ ≠ gb889) (.slice Ao37 t869.length co37) t869) := ⟨h5_⟩
            have n6_ : Aside0 (Kd.V (Kd.int .i64) 3 w58 w.heap.size (fun k_ => ((P0_0_ k_ ∨ P1_0_ k_) ∨ w.heap.size ≤ k_) ∧ some k_ ≠ (.slice Ao28 y858.length co28 : Value).ownBlock ∧ some k_ ≠ (v864 : Value).ownBlock ∧ some k_ ≠ (v867 : Value).ownBlock ∧ some k_ ≠ (v880 : Value).ownBlock ∧ some k_ ≠ (v883 : Value).ownBlock ∧ k_ ≠ gb855 ∧ k_ ≠ gb856 ∧ k_ ≠ gb873 ∧ k_ ≠ gb878 ∧ k_ ≠ gb889) (.slice Ao45 t874.length co45) t874) := ⟨h6_⟩
            have n7_ : Aside0 (Kd.R (Kd.int .i64) 3 w58 w.heap.size (fun k_ => (w.heap.size ≤ k_) ∧ some k_ ≠ (v864 : Value).ownBlock ∧ some k_ ≠ (v867 : Value).ownBlock ∧ some k_ ≠ (v883 : Value).ownBlock) v880 t879) := ⟨h7_⟩
            have n8_ : Aside0 (Kd.R (Kd.int .i64) 3 w58 w.heap.size (fun k_ => (w.heap.size ≤ k_) ∧ some k_ ≠ (v864 : Value).ownBlock ∧ some k_ ≠ (v867 : Value).ownBlock ∧ some k_ ≠ (v880 : Value).ownBlock) v883 t882) := ⟨h8_⟩
            have n9_ : Aside0 (Kd.V (Kd.int .i64) 3 w58 w.heap.size (fun k_ => ((P0_0_ k_ ∨ P1_0_ k_) ∨ w.heap.size ≤ k_) ∧ some k_ ≠ (.slice Ao28 y858.length co28 : Value).ownBlock ∧ some k_ ≠ (v864 : Value).ownBlock ∧ some k_ ≠ (v867 : Value).ownBlock ∧ some k_ ≠ (v880 : Value).ownBlock ∧ some k_ ≠ (v883 : Value).ownBlock ∧ k_ ≠ gb855 ∧ k_ ≠ gb856 ∧ k_ ≠ gb873 ∧ k_ ≠ gb878 ∧ k_ ≠ gb889) v886 t885) := ⟨h9_⟩
            have n10_ : Aside0 (w58.heap[gb855]? = some (.cells #[.slice A0_0 l0_0.length c0_0] 24 (0, 0))) := ⟨h10_⟩
            have n11_ : Aside0 (w58.heap[gb856]? = some (.cells #[.slice A1_0 l1_0.length c1_0] 24 (0, 0))) := ⟨h11_⟩
            have n12_ : Aside0 (w58.heap[gb873]? = some (.cells #[.slice Ao37 t869.length co37] 24 (0, 0))) := ⟨h12_⟩
            have n13_ : Aside0 (w58.heap[gb878]? = some (.cells #[.slice Ao45 t874.length co45] 24 (0, 0))) := ⟨h13_⟩
            have n14_ : Aside0 (w58.heap[gb889]? = some (.cells #[.slice none 0 0] 24 (0, 0))) := ⟨h14_⟩
            have n15_ : Aside0 (w.heap.size ≤ gb889) := ⟨h15_⟩
            have n16_ : Aside0 (w.heap.size ≤ gb889) := ⟨h16_⟩
            have n17_ : Aside0 (gb855 ≠ gb889) := ⟨h17_⟩
            have n18_ : Aside0 (gb889 ≠ gb855) := ⟨h18_⟩
            have n19_ : Aside0 (gb856 ≠ gb889) := ⟨h19_⟩
            have n20_ : Aside0 (gb889 ≠ gb856) := ⟨h20_⟩
            have n21_ : Aside0 (gb873 ≠ gb889) := ⟨h21_⟩
            have n22_ : Aside0 (gb889 ≠ gb873) := ⟨h22_⟩
            have n23_ : Aside0 (gb878 ≠ gb889) := ⟨h23_⟩
            have n24_ : Aside0 (gb889 ≠ gb878) := ⟨h24_⟩
            have n25_ : Aside0 (Below w.heap.size w w58) := ⟨h25_⟩
            clear HO0_0
            clear HO1_0
            clear HO860
            clear HO865
            clear HO868
            clear HO871
            clear HO876
            clear BK855
            clear BK856
            clear BK873
            clear BK878
            clear HB
            clear h0_ h1_ h2_ h3_ h4_ h5_ h6_ h7_ h8_ h9_ h10_ h11_ h12_ h13_ h14_ h15_ h16_ h17_ h18_ h19_ h20_ h21_ h22_ h23_ h24_ h25_
            have HO0_0 := n0_
            have HO1_0 := n1_
            have HO860 := n2_
            have HO865 := n3_
            have HO868 := n4_
            have HO871 := n5_
            have HO876 := n6_
            have HO881 := n7_
            have HO884 := n8_
            have HO887 := n9_
            have BK855 := n10_
            have BK856 := n11_
            have BK873 := n12_
            have BK878 := n13_
            have BK889 := n14_
            have GW889 := n15_
            have GE889 := n16_
            have NB855_889 := n17_
            have NB889_855 := n18_
            have NB856_889 := n19_
            have NB889_856 := n20_
            have NB873_889 := n21_
            have NB889_873 := n22_
            have NB878_889 := n23_
            have NB889_878 := n24_
            have HB := n25_
            clear n0_ n1_ n2_ n3_ n4_ n5_ n6_ n7_ n8_ n9_ n10_ n11_ n12_ n13_ n14_ n15_ n16_ n17_ n18_ n19_ n20_ n21_ n22_ n23_ n24_ n25_
            have hHeld : w58.cell? ⟨gb855, 0, none⟩ = some (.slice A0_0 l0_0.length c0_0) ∧ w58.cell? ⟨gb856, 0, none⟩ = some (.slice A1_0 l1_0.length c1_0) := hS_
            obtain ⟨Ao59, co59, eo59⟩ := Kd.V_slice HO887.out
            (first | subst eo59 | (injection eo59 with f1_ f2_ f3_; have f4_ := f1_.symm; have f5_ := f3_.symm; clear f1_ f2_ f3_; subst f4_; subst f5_))
            refine norm_ (a' := ?_) ?_ ?_
            rotate_left
            · simp only [putAll, Act.put, List.setIfInBounds_toArray, List.set_cons_zero, List.set_cons_succ]
              rfl
            refine one_ (i := 9) (N := none) #[true, true, true, true, true, true, true, true, true, true, false] rfl rfl (one_of HT_.out (by kernel_rfl)) (by decide) (fun K hK => ?_)
            have hs60 : w58.cell? ⟨gb889, 0, none⟩ = some (.slice none 0 0) := (blk_cell BK889.out 0).trans rfl
            have hfs60 := blk_frozen BK889.out 0
            have hns60_0 := NB855_889.out
            have hns60_1 := NB856_889.out
            have hns60_2 := NB873_889.out
            have hns60_3 := NB878_889.out
            have hms60_0 := NB889_855.out
            have hms60_1 := NB889_856.out
            have hms60_2 := NB889_873.out
            have hms60_3 := NB889_878.out
            refine skip_ (w1 := ?_) (by rfl) rfl ?_ ?_
            rotate_left
            · go_simp
              rfl
            refine hK.out _ _ ⟨((cell_far (p := ⟨gb889, _, none⟩) NB855_889.out _).trans (hHeld.1)), ((cell_far (p := ⟨gb889, _, none⟩) NB856_889.out _).trans (hHeld.2))⟩ (fun hHeld => ?_)
            clear hK K
            refine pure_ (i := 10) (N := some 10) (v := ?_) (a' := ?_) #[true, true, true, true, true, true, true, true, true, true, true] rfl rfl (any_of HT_.out (by kernel_rfl)) (fun _ _ _ h => h) (Or.inl ⟨by rfl, ?_⟩) ?_ ?_
            rotate_left
            · intro w'
              go_simp
              with_reducible rfl
            rotate_left
            · simp only [Act.put, List.setIfInBounds_toArray, List.set_cons_zero, List.set_cons_succ, i64_w, i32_w]
              rfl
            refine done_ (done_of HT_.out (by kernel_rfl)) ?_
            have hnb61 := NB855_889.out
            have hnc61 := NB889_855.out
            have hcz62_0 : w58.cell? ⟨gb855, 0, none⟩ = some (.slice A0_0 l0_0.length c0_0) := (blk_cell BK855.out 0).trans rfl
            have hfz62_0 := blk_frozen BK855.out 0
            have hnb63 := NB856_889.out
            have hnc63 := NB889_856.out
            have hcz64_0 : w58.cell? ⟨gb856, 0, none⟩ = some (.slice A1_0 l1_0.length c1_0) := (blk_cell BK856.out 0).trans rfl
            have hfz64_0 := blk_frozen BK856.out 0
            try go_wp2_with (first | ((with_reducible refine gate_callee (f := 39) rfl ?_); refine goesL_ (some 48) rfl rfl Tryd.func39 (by kernel_rfl) rfl #[.agg #[.slice A0_0 l0_0.length c0_0], .agg #[.slice A1_0 l1_0.length c1_0]] rfl (by (try simp only [List.map_toArray, List.map_cons, List.map_nil]); first | done | rfl | (simp only [List.length_drop, List.length_take]; rfl)) ?_; (with_reducible refine (ancepsref02_Sub.calls k _ _ l0_0 _ _ l1_0 t890 t893 _ ?side1 ?side2 ?side3 ?side4 A14.out).mono ?_); (case side1 => refine (Kd.V_reads' (e := 3) (base := w.heap.size) (ok := fun k_ => ((((P0_0_ k_ ∨ P1_0_ k_) ∨ w.heap.size ≤ k_)) ∧ (some k_ ≠ (.slice Ao28 y858.length co28 : Value).ownBlock ∧ (some k_ ≠ (v864 : Value).ownBlock ∧ (some k_ ≠ (v867 : Value).ownBlock ∧ (some k_ ≠ (v880 : Value).ownBlock ∧ (some k_ ≠ (v883 : Value).ownBlock ∧ (k_ ≠ gb855 ∧ (k_ ≠ gb856 ∧ (k_ ≠ gb873 ∧ (k_ ≠ gb878 ∧ k_ ≠ gb889))))))))))) (n := l0_0.length) (c := c0_0) ?_).2.2; exact (by (with_reducible repeat (first | apply Kd.V_alloc | apply Kd.V_drewN | apply Kd.V_drew)); exact (Kd.V_mono (Kd.V_far (p := ⟨gb889, 0, none⟩) (Kd.V_mono HO0_0.out (fun k_ hk => (⟨hk, hk.2.2.2.2.2.2.2.2.2.2⟩ : _ ∧ k_ ≠ gb889))) (fun _ hk => by first | exact hk.2 | grind) (.slice Ao59 t885.length co59)) (fun _ h_ => by first | exact h_.1 | grind)))); (case side2 => exact (Kd.V_reads' HO0_0.out).2.1); (case side3 => refine (Kd.V_reads' (e := 3) (base := w.heap.size) (ok := fun k_ => ((((P0_0_ k_ ∨ P1_0_ k_) ∨ w.heap.size ≤ k_)) ∧ (some k_ ≠ (.slice Ao28 y858.length co28 : Value).ownBlock ∧ (some k_ ≠ (v864 : Value).ownBlock ∧ (some k_ ≠ (v867 : Value).ownBlock ∧ (some k_ ≠ (v880 : Value).ownBlock ∧ (some k_ ≠ (v883 : Value).ownBlock ∧ (k_ ≠ gb855 ∧ (k_ ≠ gb856 ∧ (k_ ≠ gb873 ∧ (k_ ≠ gb878 ∧ k_ ≠ gb889))))))))))) (n := l1_0.length) (c := c1_0) ?_).2.2; exact (by (with_reducible repeat (first | apply Kd.V_alloc | apply Kd.V_drewN | apply Kd.V_drew)); exact (Kd.V_mono (Kd.V_far (p := ⟨gb889, 0, none⟩) (Kd.V_mono HO1_0.out (fun k_ hk => (⟨hk, hk.2.2.2.2.2.2.2.2.2.2⟩ : _ ∧ k_ ≠ gb889))) (fun _ hk => by first | exact hk.2 | grind) (.slice Ao59 t885.length co59)) (fun _ h_ => by first | exact h_.1 | grind)))); (case side4 => exact (Kd.V_reads' HO1_0.out).2.1); rintro e w65 ⟨v891, rfl, ho0, hb⟩; refine ⟨_, rfl, ?_⟩; have n0_ := Aside0.mk (Kd.V_below (by (with_reducible repeat (first | apply Kd.V_alloc | apply Kd.V_drewN | apply Kd.V_drew)); exact (Kd.V_mono (Kd.V_far (p := ⟨gb889, 0, none⟩) (Kd.V_mono HO0_0.out (fun k_ hk => (⟨hk, hk.2.2.2.2.2.2.2.2.2.2⟩ : _ ∧ k_ ≠ gb889))) (fun _ hk => by first | exact hk.2 | grind) (.slice Ao59 t885.length co59)) (fun _ h_ => by first | exact h_.1 | grind))) hb); have n1_ := Aside0.mk (Kd.V_below (by (with_reducible repeat (first | apply Kd.V_alloc | apply Kd.V_drewN | apply Kd.V_drew)); exact (Kd.V_mono (Kd.V_far (p := ⟨gb889, 0, none⟩) (Kd.V_mono HO1_0.out (fun k_ hk => (⟨hk, hk.2.2.2.2.2.2.2.2.2.2⟩ : _ ∧ k_ ≠ gb889))) (fun _ hk => by first | exact hk.2 | grind) (.slice Ao59 t885.length co59)) (fun _ h_ => by first | exact h_.1 | grind))) hb); have n2_ := Aside0.mk (Kd.N_below (by (with_reducible repeat (first | apply Kd.N_alloc | apply Kd.N_drewN | apply Kd.N_drew)); exact (Kd.N_mono (Kd.N_far (p := ⟨gb889, 0, none⟩) (Kd.N_mono HO860.out (fun k_ hk => (⟨hk, hk.2.2.2.2.2.2.2.2.2⟩ : _ ∧ k_ ≠ gb889))) (fun _ hk => by first | exact hk.2 | grind) (.slice Ao59 t885.length co59)) (fun _ h_ => by first | exact h_.1 | grind))) hb); have n3_ := Aside0.mk (Kd.R_below (by (with_reducible repeat (first | apply Kd.R_alloc | apply Kd.R_drewN | apply Kd.R_drew)); exact (Kd.R_mono (Kd.R_far (p := ⟨gb889, 0, none⟩) (Kd.R_types HO865.out BK889.out (by decide)) (fun _ hk => by first | exact hk.2 | grind) (.slice Ao59 t885.length co59)) (fun _ h_ => by first | exact h_.1 | grind))) hb); have n4_ := Aside0.mk (Kd.R_below (by (with_reducible repeat (first | apply Kd.R_alloc | apply Kd.R_drewN | apply Kd.R_drew)); exact (Kd.R_mono (Kd.R_far (p := ⟨gb889, 0, none⟩) (Kd.R_types HO868.out BK889.out (by decide)) (fun _ hk => by first | exact hk.2 | grind) (.slice Ao59 t885.length co59)) (fun _ h_ => by first | exact h_.1 | grind))) hb); have n5_ := Aside0.mk (Kd.V_below (by (with_reducible repeat (first | apply Kd.V_alloc | apply Kd.V_drewN | apply Kd.V_drew)); exact (Kd.V_mono (Kd.V_far (p := ⟨gb889, 0, none⟩) (Kd.V_mono HO871.out (fun k_ hk => (⟨hk, hk.2.2.2.2.2.2.2.2.2.2⟩ : _ ∧ k_ ≠ gb889))) (fun _ hk => by first | exact hk.2 | grind) (.slice Ao59 t885.length co59)) (fun _ h_ => by first | exact h_.1 | grind))) hb); have n6_ := Aside0.mk (Kd.V_below (by (with_reducible repeat (first | apply Kd.V_alloc | apply Kd.V_drewN | apply Kd.V_drew)); exact (Kd.V_mono (Kd.V_far (p := ⟨gb889, 0, none⟩) (Kd.V_mono HO876.out (fun k_ hk => (⟨hk, hk.2.2.2.2.2.2.2.2.2.2⟩ : _ ∧ k_ ≠ gb889))) (fun _ hk => by first | exact hk.2 | grind) (.slice Ao59 t885.length co59)) (fun _ h_ => by first | exact h_.1 | grind))) hb); have n7_ := Aside0.mk (Kd.R_below (by (with_reducible repeat (first | apply Kd.R_alloc | apply Kd.R_drewN | apply Kd.R_drew)); exact (Kd.R_mono (Kd.R_far (p := ⟨gb889, 0, none⟩) (Kd.R_types HO881.out BK889.out (by decide)) (fun _ hk => by first | exact hk.2 | grind) (.slice Ao59 t885.length co59)) (fun _ h_ => by first | exact h_.1 | grind))) hb); have n8_ := Aside0.mk (Kd.R_below (by (with_reducible repeat (first | apply Kd.R_alloc | apply Kd.R_drewN | apply Kd.R_drew)); exact (Kd.R_mono (Kd.R_far (p := ⟨gb889, 0, none⟩) (Kd.R_types HO884.out BK889.out (by decide)) (fun _ hk => by first | exact hk.2 | grind) (.slice Ao59 t885.length co59)) (fun _ h_ => by first | exact h_.1 | grind))) hb); have n9_ := Aside0.mk (Kd.V_below (by (with_reducible repeat (first | apply Kd.V_alloc | apply Kd.V_drewN | apply Kd.V_drew)); exact (Kd.V_mono (Kd.V_far (p := ⟨gb889, 0, none⟩) (Kd.V_mono HO887.out (fun k_ hk => (⟨hk, hk.2.2.2.2.2.2.2.2.2.2⟩ : _ ∧ k_ ≠ gb889))) (fun _ hk => by first | exact hk.2 | grind) (.slice Ao59 t885.length co59)) (fun _ h_ => by first | exact h_.1 | grind))) hb); have n10_ := Aside0.mk (Kd.V_lower (Kd.V_mono (ok' := fun k_ => ((P0_0_ k_ ∨ P1_0_ k_) ∨ w.heap.size ≤ k_) ∧ some k_ ≠ (.slice Ao28 y858.length co28 : Value).ownBlock ∧ some k_ ≠ (v864 : Value).ownBlock ∧ some k_ ≠ (v867 : Value).ownBlock ∧ some k_ ≠ (v880 : Value).ownBlock ∧ some k_ ≠ (v883 : Value).ownBlock ∧ k_ ≠ gb855 ∧ k_ ≠ gb856 ∧ k_ ≠ gb873 ∧ k_ ≠ gb878 ∧ k_ ≠ gb889) ho0 (fun k_ hk_ => ⟨(.inr (Nat.le_trans (below_size (gx [gb855, gb856, gb873, gb878, gb889] ⟨GE855.out, GE856.out, GE873.out, GE878.out, GE889.out, trivial⟩ HB.out)) hk_)), (Kd.fresh' (Kd.N_lt (by (with_reducible repeat (first | apply Kd.N_alloc | apply Kd.N_drewN | apply Kd.N_drew)); exact (Kd.N_mono (Kd.N_far (p := ⟨gb889, 0, none⟩) (Kd.N_mono HO860.out (fun k_ hk => (⟨hk, hk.2.2.2.2.2.2.2.2.2⟩ : _ ∧ k_ ≠ gb889))) (fun _ hk => by first | exact hk.2 | grind) (.slice Ao59 t885.length co59)) (fun _ h_ => by first | exact h_.1 | grind)))) k_ hk_), (Kd.fresh' (Kd.R_lt (by (with_reducible repeat (first | apply Kd.R_alloc | apply Kd.R_drewN | apply Kd.R_drew)); exact (Kd.R_mono (Kd.R_far (p := ⟨gb889, 0, none⟩) (Kd.R_types HO865.out BK889.out (by decide)) (fun _ hk => by first | exact hk.2 | grind) (.slice Ao59 t885.length co59)) (fun _ h_ => by first | exact h_.1 | grind)))) k_ hk_), (Kd.fresh' (Kd.R_lt (by (with_reducible repeat (first | apply Kd.R_alloc | apply Kd.R_drewN | apply Kd.R_drew)); exact (Kd.R_mono (Kd.R_far (p := ⟨gb889, 0, none⟩) (Kd.R_types HO868.out BK889.out (by decide)) (fun _ hk => by first | exact hk.2 | grind) (.slice Ao59 t885.length co59)) (fun _ h_ => by first | exact h_.1 | grind)))) k_ hk_), (Kd.fresh' (Kd.R_lt (by (with_reducible repeat (first | apply Kd.R_alloc | apply Kd.R_drewN | apply Kd.R_drew)); exact (Kd.R_mono (Kd.R_far (p := ⟨gb889, 0, none⟩) (Kd.R_types HO881.out BK889.out (by decide)) (fun _ hk => by first | exact hk.2 | grind) (.slice Ao59 t885.length co59)) (fun _ h_ => by first | exact h_.1 | grind)))) k_ hk_), (Kd.fresh' (Kd.R_lt (by (with_reducible repeat (first | apply Kd.R_alloc | apply Kd.R_drewN | apply Kd.R_drew)); exact (Kd.R_mono (Kd.R_far (p := ⟨gb889, 0, none⟩) (Kd.R_types HO884.out BK889.out (by decide)) (fun _ hk => by first | exact hk.2 | grind) (.slice Ao59 t885.length co59)) (fun _ h_ => by first | exact h_.1 | grind)))) k_ hk_), (Kd.freshB (g := gb855) (o := .cells #[.slice A0_0 l0_0.length c0_0] 24 (0, 0)) (by (with_reducible repeat (first | refine blk_drewN ?_ _ | refine blk_drew ?_ | refine blk_alloc ?_ _)); refine blk_far ?_ NB855_889.out _; (with_reducible repeat (first | refine blk_drewN ?_ _ | refine blk_drew ?_ | refine blk_alloc ?_ _)); exact BK855.out) k_ hk_), (Kd.freshB (g := gb856) (o := .cells #[.slice A1_0 l1_0.length c1_0] 24 (0, 0)) (by (with_reducible repeat (first | refine blk_drewN ?_ _ | refine blk_drew ?_ | refine blk_alloc ?_ _)); refine blk_far ?_ NB856_889.out _; (with_reducible repeat (first | refine blk_drewN ?_ _ | refine blk_drew ?_ | refine blk_alloc ?_ _)); exact BK856.out) k_ hk_), (Kd.freshB (g := gb873) (o := .cells #[.slice Ao37 t869.length co37] 24 (0, 0)) (by (with_reducible repeat (first | refine blk_drewN ?_ _ | refine blk_drew ?_ | refine blk_alloc ?_ _)); refine blk_far ?_ NB873_889.out _; (with_reducible repeat (first | refine blk_drewN ?_ _ | refine blk_drew ?_ | refine blk_alloc ?_ _)); exact BK873.out) k_ hk_), (Kd.freshB (g := gb878) (o := .cells #[.slice Ao45 t874.length co45] 24 (0, 0)) (by (with_reducible repeat (first | refine blk_drewN ?_ _ | refine blk_drew ?_ | refine blk_alloc ?_ _)); refine blk_far ?_ NB878_889.out _; (with_reducible repeat (first | refine blk_drewN ?_ _ | refine blk_drew ?_ | refine blk_alloc ?_ _)); exact BK878.out) k_ hk_), (Kd.freshB (g := gb889) (o := .cells #[.slice Ao59 t885.length co59] 24 (0, 0)) (by (with_reducible repeat (first | refine blk_drewN ?_ _ | refine blk_drew ?_ | refine blk_alloc ?_ _)); refine blk_put (cs := #[.slice none 0 0]) ?_ 0 _ rfl; (with_reducible repeat (first | refine blk_drewN ?_ _ | refine blk_drew ?_ | refine blk_alloc ?_ _)); exact BK889.out) k_ hk_)⟩)) (below_size (gx [gb855, gb856, gb873, gb878, gb889] ⟨GE855.out, GE856.out, GE873.out, GE878.out, GE889.out, trivial⟩ HB.out))); have n11_ := Aside0.mk (blk_below (g := gb855) (o := .cells #[.slice A0_0 l0_0.length c0_0] 24 (0, 0)) (by (with_reducible repeat (first | refine blk_drewN ?_ _ | refine blk_drew ?_ | refine blk_alloc ?_ _)); refine blk_far ?_ NB855_889.out _; (with_reducible repeat (first | refine blk_drewN ?_ _ | refine blk_drew ?_ | refine blk_alloc ?_ _)); exact BK855.out) hb); have n12_ := Aside0.mk (blk_below (g := gb856) (o := .cells #[.slice A1_0 l1_0.length c1_0] 24 (0, 0)) (by (with_reducible repeat (first | refine blk_drewN ?_ _ | refine blk_drew ?_ | refine blk_alloc ?_ _)); refine blk_far ?_ NB856_889.out _; (with_reducible repeat (first | refine blk_drewN ?_ _ | refine blk_drew ?_ | refine blk_alloc ?_ _)); exact BK856.out) hb); have n13_ := Aside0.mk (blk_below (g := gb873) (o := .cells #[.slice Ao37 t869.length co37] 24 (0, 0)) (by (with_reducible repeat (first | refine blk_drewN ?_ _ | refine blk_drew ?_ | refine blk_alloc ?_ _)); refine blk_far ?_ NB873_889.out _; (with_reducible repeat (first | refine blk_drewN ?_ _ | refine blk_drew ?_ | refine blk_alloc ?_ _)); exact BK873.out) hb); have n14_ := Aside0.mk (blk_below (g := gb878) (o := .cells #[.slice Ao45 t874.length co45] 24 (0, 0)) (by (with_reducible repeat (first | refine blk_drewN ?_ _ | refine blk_drew ?_ | refine blk_alloc ?_ _)); refine blk_far ?_ NB878_889.out _; (with_reducible repeat (first | refine blk_drewN ?_ _ | refine blk_drew ?_ | refine blk_alloc ?_ _)); exact BK878.out) hb); have n15_ := Aside0.mk (blk_below (g := gb889) (o := .cells #[.slice Ao59 t885.length co59] 24 (0, 0)) (by (with_reducible repeat (first | refine blk_drewN ?_ _ | refine blk_drew ?_ | refine blk_alloc ?_ _)); refine blk_put (cs := #[.slice none 0 0]) ?_ 0 _ rfl; (with_reducible repeat (first | refine blk_drewN ?_ _ | refine blk_drew ?_ | refine blk_alloc ?_ _)); exact BK889.out) hb); have n16_ := Aside0.mk (below_step (gx [gb855, gb856, gb873, gb878, gb889] ⟨GE855.out, GE856.out, GE873.out, GE878.out, GE889.out, trivial⟩ HB.out) hb); clear HO0_0; clear HO1_0; clear HO860; clear HO865; clear HO868; clear HO871; clear HO876; clear HO881; clear HO884; clear HO887; clear BK855; clear BK856; clear BK873; clear BK878; clear BK889; clear HB; have HO0_0 := n0_; have HO1_0 := n1_; have HO860 := n2_; have HO865 := n3_; have HO868 := n4_; have HO871 := n5_; have HO876 := n6_; have HO881 := n7_; have HO884 := n8_; have HO887 := n9_; have HO892 := n10_; have BK855 := n11_; have BK856 := n12_; have BK873 := n13_; have BK878 := n14_; have BK889 := n15_; have HB := n16_; clear n0_ n1_ n2_ n3_ n4_ n5_ n6_ n7_ n8_ n9_ n10_ n11_ n12_ n13_ n14_ n15_ n16_; (try clear hb); (try clear hb2); (try clear hk); (try clear hi); (try clear ho0)) | ((with_reducible refine gate_dst (N := 11) rfl ?_); (try (refine gate_guard (by rfl) ?_; dsimp only)); refine box_event ?hg (N := 11) ?hd (cs := #[.slice none 0 0]) (t := 24) ?hr ?_; (case hd => rfl); (case hg => rfl); (case hr => first | (go_simp; done) | (go_simp; rfl)); intro gb894 hg w66 hbox hb; have n0_ := Aside0.mk (Kd.V_below (Kd.V_elderB (qv HO0_0.out) gb894 (Nat.le_of_eq hg.symm)) hb); have n1_ := Aside0.mk (Kd.V_below (Kd.V_elderB (qv HO1_0.out) gb894 (Nat.le_of_eq hg.symm)) hb); have n2_ := Aside0.mk (Kd.N_below (Kd.N_elderB (qn HO860.out) gb894 (Nat.le_of_eq hg.symm)) hb); have n3_ := Aside0.mk (Kd.R_below (qr HO865.out) hb); have n4_ := Aside0.mk (Kd.R_below (qr HO868.out) hb); have n5_ := Aside0.mk (Kd.V_below (Kd.V_elderB (qv HO871.out) gb894 (Nat.le_of_eq hg.symm)) hb); have n6_ := Aside0.mk (Kd.V_below (Kd.V_elderB (qv HO876.out) gb894 (Nat.le_of_eq hg.symm)) hb); have n7_ := Aside0.mk (Kd.R_below (qr HO881.out) hb); have n8_ := Aside0.mk (Kd.R_below (qr HO884.out) hb); have n9_ := Aside0.mk (Kd.V_below (Kd.V_elderB (qv HO887.out) gb894 (Nat.le_of_eq hg.symm)) hb); have n10_ := Aside0.mk (Kd.V_below (Kd.V_elderB (qv HO892.out) gb894 (Nat.le_of_eq hg.symm)) hb); have n11_ := Aside0.mk (blk_below (g := gb855) (o := .cells #[.slice A0_0 l0_0.length c0_0] 24 (0, 0)) (qb BK855.out) hb); have n12_ := Aside0.mk (blk_below (g := gb856) (o := .cells #[.slice A1_0 l1_0.length c1_0] 24 (0, 0)) (qb BK856.out) hb); have n13_ := Aside0.mk (blk_below (g := gb873) (o := .cells #[.slice Ao37 t869.length co37] 24 (0, 0)) (qb BK873.out) hb); have n14_ := Aside0.mk (blk_below (g := gb878) (o := .cells #[.slice Ao45 t874.length co45] 24 (0, 0)) (qb BK878.out) hb); have n15_ := Aside0.mk (blk_below (g := gb889) (o := .cells #[.slice Ao59 t885.length co59] 24 (0, 0)) (qb BK889.out) hb); have n16_ := Aside0.mk (below_step (gx [gb855, gb856, gb873, gb878, gb889] ⟨GE855.out, GE856.out, GE873.out, GE878.out, GE889.out, trivial⟩ HB.out) hb); have n17_ := Aside0.mk (hbox); have n18_ := Aside0.mk ((by rw [hg]; exact (below_size (gx [gb855, gb856, gb873, gb878, gb889] ⟨GE855.out, GE856.out, GE873.out, GE878.out, GE889.out, trivial⟩ HB.out)) : w.heap.size ≤ gb894)); have n19_ := Aside0.mk ((by rw [hg]; exact (below_size (gx [gb855, gb856, gb873, gb878, gb889] ⟨GE855.out, GE856.out, GE873.out, GE878.out, GE889.out, trivial⟩ HB.out)) : w.heap.size ≤ gb894)); have n20_ := Aside0.mk ((by rw [hg]; exact Nat.ne_of_lt (blk_lt (g := gb855) (o := .cells #[.slice A0_0 l0_0.length c0_0] 24 (0, 0)) (qb BK855.out)) : gb855 ≠ gb894)); have n21_ := Aside0.mk ((by rw [hg]; exact Nat.ne_of_gt (blk_lt (g := gb855) (o := .cells #[.slice A0_0 l0_0.length c0_0] 24 (0, 0)) (qb BK855.out)) : gb894 ≠ gb855)); have n22_ := Aside0.mk ((by rw [hg]; exact Nat.ne_of_lt (blk_lt (g := gb856) (o := .cells #[.slice A1_0 l1_0.length c1_0] 24 (0, 0)) (qb BK856.out)) : gb856 ≠ gb894)); have n23_ := Aside0.mk ((by rw [hg]; exact Nat.ne_of_gt (blk_lt (g := gb856) (o := .cells #[.slice A1_0 l1_0.length c1_0] 24 (0, 0)) (qb BK856.out)) : gb894 ≠ gb856)); have n24_ := Aside0.mk ((by rw [hg]; exact Nat.ne_of_lt (blk_lt (g := gb873) (o := .cells #[.slice Ao37 t869.length co37] 24 (0, 0)) (qb BK873.out)) : gb873 ≠ gb894)); have n25_ := Aside0.mk ((by rw [hg]; exact Nat.ne_of_gt (blk_lt (g := gb873) (o := .cells #[.slice Ao37 t869.length co37] 24 (0, 0)) (qb BK873.out)) : gb894 ≠ gb873)); have n26_ := Aside0.mk ((by rw [hg]; exact Nat.ne_of_lt (blk_lt (g := gb878) (o := .cells #[.slice Ao45 t874.length co45] 24 (0, 0)) (qb BK878.out)) : gb878 ≠ gb894)); have n27_ := Aside0.mk ((by rw [hg]; exact Nat.ne_of_gt (blk_lt (g := gb878) (o := .cells #[.slice Ao45 t874.length co45] 24 (0, 0)) (qb BK878.out)) : gb894 ≠ gb878)); have n28_ := Aside0.mk ((by rw [hg]; exact Nat.ne_of_lt (blk_lt (g := gb889) (o := .cells #[.slice Ao59 t885.length co59] 24 (0, 0)) (qb BK889.out)) : gb889 ≠ gb894)); have n29_ := Aside0.mk ((by rw [hg]; exact Nat.ne_of_gt (blk_lt (g := gb889) (o := .cells #[.slice Ao59 t885.length co59] 24 (0, 0)) (qb BK889.out)) : gb894 ≠ gb889)); clear HO0_0; clear HO1_0; clear HO860; clear HO865; clear HO868; clear HO871; clear HO876; clear HO881; clear HO884; clear HO887; clear HO892; clear BK855; clear BK856; clear BK873; clear BK878; clear BK889; clear HB; have HO0_0 := n0_; have HO1_0 := n1_; have HO860 := n2_; have HO865 := n3_; have HO868 := n4_; have HO871 := n5_; have HO876 := n6_; have HO881 := n7_; have HO884 := n8_; have HO887 := n9_; have HO892 := n10_; have BK855 := n11_; have BK856 := n12_; have BK873 := n13_; have BK878 := n14_; have BK889 := n15_; have HB := n16_; have BK894 := n17_; have GW894 := n18_; have GE894 := n19_; have NB855_894 := n20_; have NB894_855 := n21_; have NB856_894 := n22_; have NB894_856 := n23_; have NB873_894 := n24_; have NB894_873 := n25_; have NB878_894 := n26_; have NB894_878 := n27_; have NB889_894 := n28_; have NB894_889 := n29_; clear n0_ n1_ n2_ n3_ n4_ n5_ n6_ n7_ n8_ n9_ n10_ n11_ n12_ n13_ n14_ n15_ n16_ n17_ n18_ n19_ n20_ n21_ n22_ n23_ n24_ n25_ n26_ n27_ n28_ n29_; clear hb hbox hg; obtain ⟨Ao67, co67, eo67⟩ := Kd.V_slice HO892.out; subst eo67; have hnb68 := NB894_855.out; have hnc68 := NB855_894.out; have hnb69 := NB894_856.out; have hnc69 := NB856_894.out; have hnb70 := NB894_873.out; have hnc70 := NB873_894.out; have hnb71 := NB894_878.out; have hnc71 := NB878_894.out; have hnb72 := NB894_889.out; have hnc72 := NB889_894.out; have hcz73_0 : w66.cell? ⟨gb894, 0, none⟩ = some (.slice none 0 0) := (blk_cell BK894.out 0).trans rfl; have hfz73_0 := blk_frozen BK894.out 0; have hnb74 := NB873_889.out; have hnc74 := NB889_873.out; have hcz75_0 : w66.cell? ⟨gb873, 0, none⟩ = some (.slice Ao37 t869.length co37) := (blk_cell BK873.out 0).trans rfl; have hfz75_0 := blk_frozen BK873.out 0; have hnb76 := NB878_889.out; have hnc76 := NB889_878.out; have hcz77_0 : w66.cell? ⟨gb878, 0, none⟩ = some (.slice Ao45 t874.length co45) := (blk_cell BK878.out 0).trans rfl; have hfz77_0 := blk_frozen BK878.out 0) | (go_at_call 17; (with_reducible refine (ancepsref02_Same.calls k _ _ t869 _ _ t874 true _ ?side1 ?side2 ?side3 ?side4 A16.out).mono ?_); (case side1 => refine (Kd.V_reads' (e := 3) (base := w.heap.size) (ok := fun k_ => (((((P0_0_ k_ ∨ P1_0_ k_) ∨ w.heap.size ≤ k_)) ∧ (some k_ ≠ (.slice Ao28 y858.length co28 : Value).ownBlock ∧ (some k_ ≠ (v864 : Value).ownBlock ∧ (some k_ ≠ (v867 : Value).ownBlock ∧ (some k_ ≠ (v880 : Value).ownBlock ∧ (some k_ ≠ (v883 : Value).ownBlock ∧ (k_ ≠ gb855 ∧ (k_ ≠ gb856 ∧ (k_ ≠ gb873 ∧ (k_ ≠ gb878 ∧ k_ ≠ gb889)))))))))) ∧ k_ ≠ gb894)) (n := t869.length) (c := co37) ?_).2.2; exact (by (with_reducible repeat (first | apply Kd.V_alloc | apply Kd.V_drewN | apply Kd.V_drew)); exact (Kd.V_mono (Kd.V_far (p := ⟨gb894, 0, none⟩) (Kd.V_mono HO871.out (fun k_ hk => (⟨hk, hk.2⟩ : _ ∧ k_ ≠ gb894))) (fun _ hk => by first | exact hk.2 | grind) (.slice Ao67 t890.length co67)) (fun _ h_ => by first | exact h_.1 | grind)))); (case side2 => exact (Kd.V_reads' HO871.out).2.1); (case side3 => refine (Kd.V_reads' (e := 3) (base := w.heap.size) (ok := fun k_ => (((((P0_0_ k_ ∨ P1_0_ k_) ∨ w.heap.size ≤ k_)) ∧ (some k_ ≠ (.slice Ao28 y858.length co28 : Value).ownBlock ∧ (some k_ ≠ (v864 : Value).ownBlock ∧ (some k_ ≠ (v867 : Value).ownBlock ∧ (some k_ ≠ (v880 : Value).ownBlock ∧ (some k_ ≠ (v883 : Value).ownBlock ∧ (k_ ≠ gb855 ∧ (k_ ≠ gb856 ∧ (k_ ≠ gb873 ∧ (k_ ≠ gb878 ∧ k_ ≠ gb889)))))))))) ∧ k_ ≠ gb894)) (n := t874.length) (c := co45) ?_).2.2; exact (by (with_reducible repeat (first | apply Kd.V_alloc | apply Kd.V_drewN | apply Kd.V_drew)); exact (Kd.V_mono (Kd.V_far (p := ⟨gb894, 0, none⟩) (Kd.V_mono HO876.out (fun k_ hk => (⟨hk, hk.2⟩ : _ ∧ k_ ≠ gb894))) (fun _ hk => by first | exact hk.2 | grind) (.slice Ao67 t890.length co67)) (fun _ h_ => by first | exact h_.1 | grind)))); (case side4 => exact (Kd.V_reads' HO876.out).2.1); rintro e w78 ⟨rfl, hb⟩; have n0_ := Aside0.mk (Kd.V_below (by (with_reducible repeat (first | apply Kd.V_alloc | apply Kd.V_drewN | apply Kd.V_drew)); exact (Kd.V_mono (Kd.V_far (p := ⟨gb894, 0, none⟩) (Kd.V_mono HO0_0.out (fun k_ hk => (⟨hk, hk.2⟩ : _ ∧ k_ ≠ gb894))) (fun _ hk => by first | exact hk.2 | grind) (.slice Ao67 t890.length co67)) (fun _ h_ => by first | exact h_.1 | grind))) hb); have n1_ := Aside0.mk (Kd.V_below (by (with_reducible repeat (first | apply Kd.V_alloc | apply Kd.V_drewN | apply Kd.V_drew)); exact (Kd.V_mono (Kd.V_far (p := ⟨gb894, 0, none⟩) (Kd.V_mono HO1_0.out (fun k_ hk => (⟨hk, hk.2⟩ : _ ∧ k_ ≠ gb894))) (fun _ hk => by first | exact hk.2 | grind) (.slice Ao67 t890.length co67)) (fun _ h_ => by first | exact h_.1 | grind))) hb); have n2_ := Aside0.mk (Kd.N_below (by (with_reducible repeat (first | apply Kd.N_alloc | apply Kd.N_drewN | apply Kd.N_drew)); exact (Kd.N_mono (Kd.N_far (p := ⟨gb894, 0, none⟩) (Kd.N_mono HO860.out (fun k_ hk => (⟨hk, hk.2⟩ : _ ∧ k_ ≠ gb894))) (fun _ hk => by first | exact hk.2 | grind) (.slice Ao67 t890.length co67)) (fun _ h_ => by first | exact h_.1 | grind))) hb); have n3_ := Aside0.mk (Kd.R_below (by (with_reducible repeat (first | apply Kd.R_alloc | apply Kd.R_drewN | apply Kd.R_drew)); exact (Kd.R_mono (Kd.R_far (p := ⟨gb894, 0, none⟩) (Kd.R_types HO865.out BK894.out (by decide)) (fun _ hk => by first | exact hk.2 | grind) (.slice Ao67 t890.length co67)) (fun _ h_ => by first | exact h_.1 | grind))) hb); have n4_ := Aside0.mk (Kd.R_below (by (with_reducible repeat (first | apply Kd.R_alloc | apply Kd.R_drewN | apply Kd.R_drew)); exact (Kd.R_mono (Kd.R_far (p := ⟨gb894, 0, none⟩) (Kd.R_types HO868.out BK894.out (by decide)) (fun _ hk => by first | exact hk.2 | grind) (.slice Ao67 t890.length co67)) (fun _ h_ => by first | exact h_.1 | grind))) hb); have n5_ := Aside0.mk (Kd.V_below (by (with_reducible repeat (first | apply Kd.V_alloc | apply Kd.V_drewN | apply Kd.V_drew)); exact (Kd.V_mono (Kd.V_far (p := ⟨gb894, 0, none⟩) (Kd.V_mono HO871.out (fun k_ hk => (⟨hk, hk.2⟩ : _ ∧ k_ ≠ gb894))) (fun _ hk => by first | exact hk.2 | grind) (.slice Ao67 t890.length co67)) (fun _ h_ => by first | exact h_.1 | grind))) hb); have n6_ := Aside0.mk (Kd.V_below (by (with_reducible repeat (first | apply Kd.V_alloc | apply Kd.V_drewN | apply Kd.V_drew)); exact (Kd.V_mono (Kd.V_far (p := ⟨gb894, 0, none⟩) (Kd.V_mono HO876.out (fun k_ hk => (⟨hk, hk.2⟩ : _ ∧ k_ ≠ gb894))) (fun _ hk => by first | exact hk.2 | grind) (.slice Ao67 t890.length co67)) (fun _ h_ => by first | exact h_.1 | grind))) hb); have n7_ := Aside0.mk (Kd.R_below (by (with_reducible repeat (first | apply Kd.R_alloc | apply Kd.R_drewN | apply Kd.R_drew)); exact (Kd.R_mono (Kd.R_far (p := ⟨gb894, 0, none⟩) (Kd.R_types HO881.out BK894.out (by decide)) (fun _ hk => by first | exact hk.2 | grind) (.slice Ao67 t890.length co67)) (fun _ h_ => by first | exact h_.1 | grind))) hb); have n8_ := Aside0.mk (Kd.R_below (by (with_reducible repeat (first | apply Kd.R_alloc | apply Kd.R_drewN | apply Kd.R_drew)); exact (Kd.R_mono (Kd.R_far (p := ⟨gb894, 0, none⟩) (Kd.R_types HO884.out BK894.out (by decide)) (fun _ hk => by first | exact hk.2 | grind) (.slice Ao67 t890.length co67)) (fun _ h_ => by first | exact h_.1 | grind))) hb); have n9_ := Aside0.mk (Kd.V_below (by (with_reducible repeat (first | apply Kd.V_alloc | apply Kd.V_drewN | apply Kd.V_drew)); exact (Kd.V_mono (Kd.V_far (p := ⟨gb894, 0, none⟩) (Kd.V_mono HO887.out (fun k_ hk => (⟨hk, hk.2⟩ : _ ∧ k_ ≠ gb894))) (fun _ hk => by first | exact hk.2 | grind) (.slice Ao67 t890.length co67)) (fun _ h_ => by first | exact h_.1 | grind))) hb); have n10_ := Aside0.mk (Kd.V_below (by (with_reducible repeat (first | apply Kd.V_alloc | apply Kd.V_drewN | apply Kd.V_drew)); exact (Kd.V_mono (Kd.V_far (p := ⟨gb894, 0, none⟩) (Kd.V_mono HO892.out (fun k_ hk => (⟨hk, hk.2⟩ : _ ∧ k_ ≠ gb894))) (fun _ hk => by first | exact hk.2 | grind) (.slice Ao67 t890.length co67)) (fun _ h_ => by first | exact h_.1 | grind))) hb); have n11_ := Aside0.mk (blk_below (g := gb855) (o := .cells #[.slice A0_0 l0_0.length c0_0] 24 (0, 0)) (by (with_reducible repeat (first | refine blk_drewN ?_ _ | refine blk_drew ?_ | refine blk_alloc ?_ _)); refine blk_far ?_ NB855_894.out _; (with_reducible repeat (first | refine blk_drewN ?_ _ | refine blk_drew ?_ | refine blk_alloc ?_ _)); exact BK855.out) hb); have n12_ := Aside0.mk (blk_below (g := gb856) (o := .cells #[.slice A1_0 l1_0.length c1_0] 24 (0, 0)) (by (with_reducible repeat (first | refine blk_drewN ?_ _ | refine blk_drew ?_ | refine blk_alloc ?_ _)); refine blk_far ?_ NB856_894.out _; (with_reducible repeat (first | refine blk_drewN ?_ _ | refine blk_drew ?_ | refine blk_alloc ?_ _)); exact BK856.out) hb); have n13_ := Aside0.mk (blk_below (g := gb873) (o := .cells #[.slice Ao37 t869.length co37] 24 (0, 0)) (by (with_reducible repeat (first | refine blk_drewN ?_ _ | refine blk_drew ?_ | refine blk_alloc ?_ _)); refine blk_far ?_ NB873_894.out _; (with_reducible repeat (first | refine blk_drewN ?_ _ | refine blk_drew ?_ | refine blk_alloc ?_ _)); exact BK873.out) hb); have n14_ := Aside0.mk (blk_below (g := gb878) (o := .cells #[.slice Ao45 t874.length co45] 24 (0, 0)) (by (with_reducible repeat (first | refine blk_drewN ?_ _ | refine blk_drew ?_ | refine blk_alloc ?_ _)); refine blk_far ?_ NB878_894.out _; (with_reducible repeat (first | refine blk_drewN ?_ _ | refine blk_drew ?_ | refine blk_alloc ?_ _)); exact BK878.out) hb); have n15_ := Aside0.mk (blk_below (g := gb889) (o := .cells #[.slice Ao59 t885.length co59] 24 (0, 0)) (by (with_reducible repeat (first | refine blk_drewN ?_ _ | refine blk_drew ?_ | refine blk_alloc ?_ _)); refine blk_far ?_ NB889_894.out _; (with_reducible repeat (first | refine blk_drewN ?_ _ | refine blk_drew ?_ | refine blk_alloc ?_ _)); exact BK889.out) hb); have n16_ := Aside0.mk (blk_below (g := gb894) (o := .cells #[.slice Ao67 t890.length co67] 24 (0, 0)) (by (with_reducible repeat (first | refine blk_drewN ?_ _ | refine blk_drew ?_ | refine blk_alloc ?_ _)); refine blk_put (cs := #[.slice none 0 0]) ?_ 0 _ rfl; (with_reducible repeat (first | refine blk_drewN ?_ _ | refine blk_drew ?_ | refine blk_alloc ?_ _)); exact BK894.out) hb); have n17_ := Aside0.mk (below_step (gx [gb855, gb856, gb873, gb878, gb889, gb894] ⟨GE855.out, GE856.out, GE873.out, GE878.out, GE889.out, GE894.out, trivial⟩ HB.out) hb); clear HO0_0; clear HO1_0; clear HO860; clear HO865; clear HO868; clear HO871; clear HO876; clear HO881; clear HO884; clear HO887; clear HO892; clear BK855; clear BK856; clear BK873; clear BK878; clear BK889; clear BK894; clear HB; have HO0_0 := n0_; have HO1_0 := n1_; have HO860 := n2_; have HO865 := n3_; have HO868 := n4_; have HO871 := n5_; have HO876 := n6_; have HO881 := n7_; have HO884 := n8_; have HO887 := n9_; have HO892 := n10_; have BK855 := n11_; have BK856 := n12_; have BK873 := n13_; have BK878 := n14_; have BK889 := n15_; have BK894 := n16_; have HB := n17_; clear n0_ n1_ n2_ n3_ n4_ n5_ n6_ n7_ n8_ n9_ n10_ n11_ n12_ n13_ n14_ n15_ n16_ n17_; (try clear hb); (try clear hb2); (try clear hk); (try clear hi); have hcz79_0 : w78.cell? ⟨gb889, 0, none⟩ = some (.slice Ao59 t885.length co59) := (blk_cell BK889.out 0).trans rfl; have hfz79_0 := blk_frozen BK889.out 0; have hcz80_0 : w78.cell? ⟨gb894, 0, none⟩ = some (.slice Ao67 t890.length co67) := (blk_cell BK894.out 0).trans rfl; have hfz80_0 := blk_frozen BK894.out 0) | (go_at_call 17; (with_reducible refine (ancepsref02_Same.calls k _ _ t885 _ _ t890 t896 _ ?side1 ?side2 ?side3 ?side4 A19.out).mono ?_); (case side1 => repeat (first | exact (Kd.V_reads' HO887.out).2.2 | (with_reducible refine Kd.C_alloc ?_ _) | (with_reducible refine Kd.C_drewN ?_ _) | (with_reducible refine Kd.C_drew ?_))); (case side2 => exact (Kd.V_reads' HO887.out).2.1); (case side3 => repeat (first | exact (Kd.V_reads' HO892.out).2.2 | (with_reducible refine Kd.C_alloc ?_ _) | (with_reducible refine Kd.C_drewN ?_ _) | (with_reducible refine Kd.C_drew ?_))); (case side4 => exact (Kd.V_reads' HO892.out).2.1); rintro e w81 ⟨rfl, hb⟩; have n0_ := Aside0.mk (Kd.V_below (qv HO0_0.out) hb); have n1_ := Aside0.mk (Kd.V_below (qv HO1_0.out) hb); have n2_ := Aside0.mk (Kd.N_below (qn HO860.out) hb); have n3_ := Aside0.mk (Kd.R_below (qr HO865.out) hb); have n4_ := Aside0.mk (Kd.R_below (qr HO868.out) hb); have n5_ := Aside0.mk (Kd.V_below (qv HO871.out) hb); have n6_ := Aside0.mk (Kd.V_below (qv HO876.out) hb); have n7_ := Aside0.mk (Kd.R_below (qr HO881.out) hb); have n8_ := Aside0.mk (Kd.R_below (qr HO884.out) hb); have n9_ := Aside0.mk (Kd.V_below (qv HO887.out) hb); have n10_ := Aside0.mk (Kd.V_below (qv HO892.out) hb); have n11_ := Aside0.mk (blk_below (g := gb855) (o := .cells #[.slice A0_0 l0_0.length c0_0] 24 (0, 0)) (qb BK855.out) hb); have n12_ := Aside0.mk (blk_below (g := gb856) (o := .cells #[.slice A1_0 l1_0.length c1_0] 24 (0, 0)) (qb BK856.out) hb); have n13_ := Aside0.mk (blk_below (g := gb873) (o := .cells #[.slice Ao37 t869.length co37] 24 (0, 0)) (qb BK873.out) hb); have n14_ := Aside0.mk (blk_below (g := gb878) (o := .cells #[.slice Ao45 t874.length co45] 24 (0, 0)) (qb BK878.out) hb); have n15_ := Aside0.mk (blk_below (g := gb889) (o := .cells #[.slice Ao59 t885.length co59] 24 (0, 0)) (qb BK889.out) hb); have n16_ := Aside0.mk (blk_below (g := gb894) (o := .cells #[.slice Ao67 t890.length co67] 24 (0, 0)) (qb BK894.out) hb); have n17_ := Aside0.mk (below_step (gx [gb855, gb856, gb873, gb878, gb889, gb894] ⟨GE855.out, GE856.out, GE873.out, GE878.out, GE889.out, GE894.out, trivial⟩ HB.out) hb); clear HO0_0; clear HO1_0; clear HO860; clear HO865; clear HO868; clear HO871; clear HO876; clear HO881; clear HO884; clear HO887; clear HO892; clear BK855; clear BK856; clear BK873; clear BK878; clear BK889; clear BK894; clear HB; have HO0_0 := n0_; have HO1_0 := n1_; have HO860 := n2_; have HO865 := n3_; have HO868 := n4_; have HO871 := n5_; have HO876 := n6_; have HO881 := n7_; have HO884 := n8_; have HO887 := n9_; have HO892 := n10_; have BK855 := n11_; have BK856 := n12_; have BK873 := n13_; have BK878 := n14_; have BK889 := n15_; have BK894 := n16_; have HB := n17_; clear n0_ n1_ n2_ n3_ n4_ n5_ n6_ n7_ n8_ n9_ n10_ n11_ n12_ n13_ n14_ n15_ n16_ n17_; (try clear hb); (try clear hb2); (try clear hk); (try clear hi)))
            go_ret
            exact ⟨by first | rfl | (simp [errW_none, errW_some] <;> rfl) | (simp [*, errW_none, errW_some] <;> rfl), by repeat (first | (with_reducible first | exact HB.out | apply below_alloc | apply pw_below_drewN | apply below_drew1 | refine below_set ?_ GE855.out | refine below_set ?_ GE856.out | refine below_set ?_ GE873.out | refine below_set ?_ GE878.out | refine below_set ?_ GE889.out | refine below_set ?_ GE894.out) | exact HB.out)⟩
          · rw [if_neg c18] at H
            exact absurd H (by simp)
        · replace c17 := Bool.eq_false_iff.mpr c17
          subst c17
          have H1 : (none) = some r := by rw [if_neg (show ¬ (false = true) by decide)] at H; exact H
          clear H
          have H := H1
          clear H1
          exact absurd H (by simp)
      · rw [if_neg c15] at H
        exact absurd H (by simp)
    · replace c6 := Bool.eq_false_iff.mpr c6
      subst c6
      have H1 : ((ancepslaw02_awake.f k).bind fun t862 => (some t862)) = some r := by rw [if_neg (show ¬ (false = true) by decide)] at H; exact H
      clear H
      have H := H1
      clear H1
      replace H := Option.bind_eq_some_iff.mp H
      obtain ⟨t862, A820, H⟩ := H
      replace H : (some t862) = some r := H
      have A82 := Aside0.mk A820
      clear A820
      obtain rfl := Option.some.inj H
      go_enter Tryd.func10, Tryd.ntmps10
      go_wp2_with (first | ((with_reducible refine gate_dst (N := 2) rfl ?_); (try (refine gate_guard (by rfl) ?_; dsimp only)); refine box_event ?hg (N := 2) ?hd (cs := #[.slice A0_0 l0_0.length c0_0]) (t := 24) ?hr ?_; (case hd => rfl); (case hg => rfl); (case hr => first | (go_simp; done) | (go_simp; rfl)); intro gb855 hg w83 hbox hb; have n0_ := Aside0.mk (Kd.V_below (Kd.V_elderB (qv HO0_0.out) gb855 (Nat.le_of_eq hg.symm)) hb); have n1_ := Aside0.mk (Kd.V_below (Kd.V_elderB (qv HO1_0.out) gb855 (Nat.le_of_eq hg.symm)) hb); have n2_ := Aside0.mk (below_step (gx [] trivial HB.out) hb); have n3_ := Aside0.mk (hbox); have n4_ := Aside0.mk ((by rw [hg]; exact (below_size (gx [] trivial HB.out)) : w.heap.size ≤ gb855)); have n5_ := Aside0.mk ((by rw [hg]; exact (below_size (gx [] trivial HB.out)) : w.heap.size ≤ gb855)); clear HO0_0; clear HO1_0; clear HB; have HO0_0 := n0_; have HO1_0 := n1_; have HB := n2_; have BK855 := n3_; have GW855 := n4_; have GE855 := n5_; clear n0_ n1_ n2_ n3_ n4_ n5_; clear hb hbox hg) | ((with_reducible refine gate_dst (N := 3) rfl ?_); (try (refine gate_guard (by rfl) ?_; dsimp only)); refine box_event ?hg (N := 3) ?hd (cs := #[.slice A1_0 l1_0.length c1_0]) (t := 24) ?hr ?_; (case hd => rfl); (case hg => rfl); (case hr => first | (go_simp; done) | (go_simp; rfl)); intro gb856 hg w84 hbox hb; have n0_ := Aside0.mk (Kd.V_below (Kd.V_elderB (qv HO0_0.out) gb856 (Nat.le_of_eq hg.symm)) hb); have n1_ := Aside0.mk (Kd.V_below (Kd.V_elderB (qv HO1_0.out) gb856 (Nat.le_of_eq hg.symm)) hb); have n2_ := Aside0.mk (blk_below (g := gb855) (o := .cells #[.slice A0_0 l0_0.length c0_0] 24 (0, 0)) (qb BK855.out) hb); have n3_ := Aside0.mk (below_step (gx [gb855] ⟨GE855.out, trivial⟩ HB.out) hb); have n4_ := Aside0.mk (hbox); have n5_ := Aside0.mk ((by rw [hg]; exact (below_size (gx [gb855] ⟨GE855.out, trivial⟩ HB.out)) : w.heap.size ≤ gb856)); have n6_ := Aside0.mk ((by rw [hg]; exact (below_size (gx [gb855] ⟨GE855.out, trivial⟩ HB.out)) : w.heap.size ≤ gb856)); have n7_ := Aside0.mk ((by rw [hg]; exact Nat.ne_of_lt (blk_lt (g := gb855) (o := .cells #[.slice A0_0 l0_0.length c0_0] 24 (0, 0)) (qb BK855.out)) : gb855 ≠ gb856)); have n8_ := Aside0.mk ((by rw [hg]; exact Nat.ne_of_gt (blk_lt (g := gb855) (o := .cells #[.slice A0_0 l0_0.length c0_0] 24 (0, 0)) (qb BK855.out)) : gb856 ≠ gb855)); clear HO0_0; clear HO1_0; clear BK855; clear HB; have HO0_0 := n0_; have HO1_0 := n1_; have BK855 := n2_; have HB := n3_; have BK856 := n4_; have GW856 := n5_; have GE856 := n6_; have NB855_856 := n7_; have NB856_855 := n8_; clear n0_ n1_ n2_ n3_ n4_ n5_ n6_ n7_ n8_; clear hb hbox hg) | ((with_reducible refine gate_callee (f := 12) rfl ?_); refine goesL_ (some 13) rfl rfl Tryd.func12 (by kernel_rfl) rfl #[] rfl (by (try simp only [List.map_toArray, List.map_cons, List.map_nil]); first | done | rfl | (simp only [List.length_drop, List.length_take]; rfl)) ?_; (with_reducible refine (ancepslaw02_awake.calls k  true _ ?side1 A3.out).mono ?_); (case side1 => exact GL.below HG.out (gx [gb855, gb856] ⟨GE855.out, GE856.out, trivial⟩ HB.out)); rintro e w85 ⟨rfl, hb⟩; refine ⟨_, rfl, ?_⟩; have n0_ := Aside0.mk (Kd.V_below (qv HO0_0.out) hb); have n1_ := Aside0.mk (Kd.V_below (qv HO1_0.out) hb); have n2_ := Aside0.mk (blk_below (g := gb855) (o := .cells #[.slice A0_0 l0_0.length c0_0] 24 (0, 0)) (qb BK855.out) hb); have n3_ := Aside0.mk (blk_below (g := gb856) (o := .cells #[.slice A1_0 l1_0.length c1_0] 24 (0, 0)) (qb BK856.out) hb); have n4_ := Aside0.mk (below_step (gx [gb855, gb856] ⟨GE855.out, GE856.out, trivial⟩ HB.out) hb); clear HO0_0; clear HO1_0; clear BK855; clear BK856; clear HB; have HO0_0 := n0_; have HO1_0 := n1_; have BK855 := n2_; have BK856 := n3_; have HB := n4_; clear n0_ n1_ n2_ n3_ n4_; (try clear hb); (try clear hb2); (try clear hk); (try clear hi); have hnb86 := NB855_856.out; have hnc86 := NB856_855.out; have hcz87_0 : w85.cell? ⟨gb855, 0, none⟩ = some (.slice A0_0 l0_0.length c0_0) := (blk_cell BK855.out 0).trans rfl; have hfz87_0 := blk_frozen BK855.out 0; have hcz88_0 : w85.cell? ⟨gb856, 0, none⟩ = some (.slice A1_0 l1_0.length c1_0) := (blk_cell BK856.out 0).trans rfl; have hfz88_0 := blk_frozen BK856.out 0) | ((with_reducible refine gate_dst (N := 18) rfl ?_); (try (refine gate_guard (by rfl) ?_; dsimp only)); refine Kd.N_lit k24 _ 24 ?hg (N' := 18) ?hd (xs := ([(⟨l0_0⟩ : S24), (⟨l1_0⟩ : S24)] : List (S24))) (inner := [.slice A0_0 l0_0.length c0_0, .slice A1_0 l1_0.length c1_0]) (ok := (fun k_ => ((P0_0_ k_ ∨ P1_0_ k_) ∨ w.heap.size ≤ k_) ∧ k_ ≠ gb855 ∧ k_ ≠ gb856)) (okp := (fun k_ => ((P0_0_ k_ ∨ P1_0_ k_) ∨ w.heap.size ≤ k_) ∧ k_ ≠ gb855 ∧ k_ ≠ gb856)) ?hr ?hp (fun _ hk => hk) ((show ∀ k_, w85.heap.size ≤ k_ → (fun k_ => ((P0_0_ k_ ∨ P1_0_ k_) ∨ w.heap.size ≤ k_) ∧ k_ ≠ gb855 ∧ k_ ≠ gb856) k_ from fun k_ hk => ⟨(.inr (Nat.le_trans (below_size (gx [gb855, gb856] ⟨GE855.out, GE856.out, trivial⟩ HB.out)) hk)), Kd.freshB (g := gb855) (o := .cells #[.slice A0_0 l0_0.length c0_0] 24 (0, 0)) (qb BK855.out) k_ hk, Kd.freshB (g := gb856) (o := .cells #[.slice A1_0 l1_0.length c1_0] 24 (0, 0)) (qb BK856.out) k_ hk⟩) _ (Nat.le_refl _)) (Below.refl _ _) (Nat.le_refl _) (by simp) ?_; (case hd => rfl); (case hg => rfl); (case hr => first | (go_simp; done) | (go_simp; rfl)); (case hp => exact (Reps.one (show Kd.FK k24 _ _ (⟨l0_0⟩ : S24) [.slice A0_0 l0_0.length c0_0] from (k24_mkF _ _ (⟨l0_0⟩ : S24) (Kd.V_reads' (Kd.V_mono (ok' := (fun k_ => ((P0_0_ k_ ∨ P1_0_ k_) ∨ w.heap.size ≤ k_) ∧ k_ ≠ gb855 ∧ k_ ≠ gb856)) (HO0_0.out) (fun k_ hk => by first | exact ⟨hk.1.1, ⟨hk.1.2, hk.2⟩⟩ | grind))).2.1 (Kd.V_F (Kd.V_mono (ok' := (fun k_ => ((P0_0_ k_ ∨ P1_0_ k_) ∨ w.heap.size ≤ k_) ∧ k_ ≠ gb855 ∧ k_ ≠ gb856)) (HO0_0.out) (fun k_ hk => by first | exact ⟨hk.1.1, ⟨hk.1.2, hk.2⟩⟩ | grind))))) (Reps.one (show Kd.FK k24 _ _ (⟨l1_0⟩ : S24) [.slice A1_0 l1_0.length c1_0] from (k24_mkF _ _ (⟨l1_0⟩ : S24) (Kd.V_reads' (Kd.V_mono (ok' := (fun k_ => ((P0_0_ k_ ∨ P1_0_ k_) ∨ w.heap.size ≤ k_) ∧ k_ ≠ gb855 ∧ k_ ≠ gb856)) (HO1_0.out) (fun k_ hk => by first | exact ⟨hk.1.1, ⟨hk.1.2, hk.2⟩⟩ | grind))).2.1 (Kd.V_F (Kd.V_mono (ok' := (fun k_ => ((P0_0_ k_ ∨ P1_0_ k_) ∨ w.heap.size ≤ k_) ∧ k_ ≠ gb855 ∧ k_ ≠ gb856)) (HO1_0.out) (fun k_ hk => by first | exact ⟨hk.1.1, ⟨hk.1.2, hk.2⟩⟩ | grind))))) (Reps.none _ _)))); intro v859 w89 ho90 hb hg_ hnew_; clear hg_ hnew_; (first | rw [← Ny858.out] at ho90 | (simp only [Int.reduceToNat] at ho90; rw [← Ny858.out] at ho90)); have n0_ := Aside0.mk (Kd.V_elder' (qv HO0_0.out) (Kd.N_base ho90) hb); have n1_ := Aside0.mk (Kd.V_elder' (qv HO1_0.out) (Kd.N_base ho90) hb); have n2_ := Aside0.mk (Kd.N_lower ho90 (below_size (gx [gb855, gb856] ⟨GE855.out, GE856.out, trivial⟩ HB.out))); have n3_ := Aside0.mk (blk_below (g := gb855) (o := .cells #[.slice A0_0 l0_0.length c0_0] 24 (0, 0)) (qb BK855.out) hb); have n4_ := Aside0.mk (blk_below (g := gb856) (o := .cells #[.slice A1_0 l1_0.length c1_0] 24 (0, 0)) (qb BK856.out) hb); have n5_ := Aside0.mk (below_step (gx [gb855, gb856] ⟨GE855.out, GE856.out, trivial⟩ HB.out) hb); clear HO0_0; clear HO1_0; clear BK855; clear BK856; clear HB; have HO0_0 := n0_; have HO1_0 := n1_; have HO860 := n2_; have BK855 := n3_; have BK856 := n4_; have HB := n5_; clear n0_ n1_ n2_ n3_ n4_ n5_; clear hb ho90; obtain ⟨Ao91, co91, eo91⟩ := Kd.N_slice HO860.out; subst eo91) | (go_at_call 13; (with_reducible refine (ancepslaw02_few.calls k _ _ y858 false _ ?side1 ?side2 A5.out).mono ?_); (case side1 => repeat (first | exact (Kd.N_reads' HO860.out).2.2 | (with_reducible refine Kd.C_alloc ?_ _) | (with_reducible refine Kd.C_drewN ?_ _) | (with_reducible refine Kd.C_drew ?_))); (case side2 => exact (Kd.N_reads' HO860.out).2.1); rintro e w' ⟨rfl, ⟨nd, rfl⟩⟩) | ((with_reducible refine gate_callee (f := 12) rfl ?_); refine goesL_ (some 22) rfl rfl Tryd.func12 (by kernel_rfl) rfl #[] rfl (by (try simp only [List.map_toArray, List.map_cons, List.map_nil]); first | done | rfl | (simp only [List.length_drop, List.length_take]; rfl)) ?_; (with_reducible refine (ancepslaw02_awake.calls k  t862 _ ?side1 A82.out).mono ?_); (case side1 => exact GL.below HG.out (gx [gb855, gb856] ⟨GE855.out, GE856.out, trivial⟩ HB.out)); rintro e w92 ⟨rfl, hb⟩; refine ⟨_, rfl, ?_⟩; have n0_ := Aside0.mk (Kd.V_below (qv HO0_0.out) hb); have n1_ := Aside0.mk (Kd.V_below (qv HO1_0.out) hb); have n2_ := Aside0.mk (Kd.N_below (qn HO860.out) hb); have n3_ := Aside0.mk (blk_below (g := gb855) (o := .cells #[.slice A0_0 l0_0.length c0_0] 24 (0, 0)) (qb BK855.out) hb); have n4_ := Aside0.mk (blk_below (g := gb856) (o := .cells #[.slice A1_0 l1_0.length c1_0] 24 (0, 0)) (qb BK856.out) hb); have n5_ := Aside0.mk (below_step (gx [gb855, gb856] ⟨GE855.out, GE856.out, trivial⟩ HB.out) hb); clear HO0_0; clear HO1_0; clear HO860; clear BK855; clear BK856; clear HB; have HO0_0 := n0_; have HO1_0 := n1_; have HO860 := n2_; have BK855 := n3_; have BK856 := n4_; have HB := n5_; clear n0_ n1_ n2_ n3_ n4_ n5_; (try clear hb); (try clear hb2); (try clear hk); (try clear hi)))
      go_ret
      exact ⟨by first | rfl | (simp [errW_none, errW_some] <;> rfl) | (simp [*, errW_none, errW_some] <;> rfl), by repeat (first | (with_reducible first | exact HB.out | apply below_alloc | apply pw_below_drewN | apply below_drew1 | refine below_set ?_ GE855.out | refine below_set ?_ GE856.out) | exact HB.out)⟩
  · replace c4 := Bool.eq_false_iff.mpr c4
    subst c4
    have H1 : (none) = some r := by rw [if_neg (show ¬ (false = true) by decide)] at H; exact H
    clear H
    have H := H1
    clear H1
    exact absurd H (by simp)
end Go.Proofs.YtlogclmmeikbpaaDoor.P

