/- A printed text: for each Go function a Lean function with the same answers, and a proof that the machine's call comes to them. No condition. Written by a program of ours (wip/tools/pp.py) out of the translation. -/
import Derived.Test.YtlogclmmeikbpaaDoorvaPx0
import Derived.Test.YtlogclmmeikbpaaDoorvaGiven
import Derived.Test.YtlogclmmeikbpaaDoorvaPx2
import Derived.Test.YtlogclmmeikbpaaDoorvaPx5
import Derived.Test.YtlogclmmeikbpaaDoorvaPx7
import Derived.Test.YtlogclmmeikbpaaDoorvaPx10
namespace Go.Proofs.YtlogclmmeikbpaaDoor.P
open Go.RowKit Go.Proofs.YtlogclmmeikbpaaDoor Go.Proofs.YtlogclmmeikbpaaDoor.Given Go.Proofs.YtlogclmmeikbpaaDoorW.PrintWords Go.Proofs.YtlogclmmeikbpaaDoorW.PrintLast Go.Proofs.YtlogclmmeikbpaaDoorW.PrintMore
attribute [local go_sem] max2_int min2_int max_two min_two max_three min_three max_four min_four   -- for this text's walks alone
set_option linter.unusedVariables false
set_option linter.unusedSimpArgs false

/-! ### ancepslaw02_NaturalValid: function 6 -/
def ancepslaw02_NaturalValid.f (k : Nat) (l0_0 : List Int) (l1_0 : List Int) (a2 : Int) : Option (Bool) := (ancepslaw02_awake.f k).bind fun t451 => (if t451 = true then ((ancepslaw02_few.f k (([(⟨l0_0⟩ : S24), (⟨l1_0⟩ : S24)] : List (S24)))).bind fun t455 => (if t455 = true then ((natural_Of.f k a2).bind fun bt457 => ((ancepsref02_Of.f k a2).bind fun bt462 => ((natural_Valid.f l0_0).bind fun t467 => ((ancepsref02_Valid.f k l0_0).bind fun t468 => (if (t467 == t468) = true then ((natural_Cmp.f k l0_0 l1_0).bind fun t469 => ((ancepsref02_Cmp.f k l0_0 l1_0).bind fun t470 => (if t469 = t470 then ((natural_Cmp.f k l1_0 l0_0).bind fun t471 => ((ancepsref02_Cmp.f k l0_0 l1_0).bind fun t472 => (if t471 = (wrap64 (-t472)) then (if bt457.2 = bt462.2 then ((ancepsref02_Same.f k bt457.1 bt462.1).bind fun t473 => (some t473)) else (none)) else (some false)))) else (none)))) else (some false)))))) else ((ancepslaw02_awake.f k).bind fun t456 => (some t456)))) else (none))
theorem ancepslaw02_NaturalValid.mono : ∀ a0 a1 a2 k, LeO (ancepslaw02_NaturalValid.f k a0 a1 a2) (ancepslaw02_NaturalValid.f (k + 1) a0 a1 a2) := by
  intro a0 a1 a2 k
  unfold ancepslaw02_NaturalValid.f
  repeat' first
      | (with_reducible exact ancepslaw02_awake.mono _)
      | (with_reducible exact ancepslaw02_few.mono _ _)
      | (with_reducible exact ancepsref02_Cmp.mono _ _ _)
      | (with_reducible exact ancepsref02_Of.mono _ _)
      | (with_reducible exact ancepsref02_Same.mono _ _ _)
      | (with_reducible exact ancepsref02_Valid.mono _ _)
      | (with_reducible exact natural_Cmp.mono _ _ _)
      | (with_reducible exact natural_Of.mono _ _)
      | (with_reducible exact LeO.refl _)
      | (with_reducible exact LeO.none _)
      | (with_reducible refine LeO.ite ?_ ?_)
      | (with_reducible refine LeO.bind ?_ (fun _ => ?_))
      | exact ancepslaw02_awake.mono _
      | exact ancepslaw02_few.mono _ _
      | exact ancepsref02_Cmp.mono _ _ _
      | exact ancepsref02_Of.mono _ _
      | exact ancepsref02_Same.mono _ _ _
      | exact ancepsref02_Valid.mono _ _
      | exact natural_Cmp.mono _ _ _
      | exact natural_Of.mono _ _
      | exact LeO.none _
      | refine LeO.ite ?_ ?_
      | refine LeO.bind ?_ (fun _ => ?_)
def ancepslaw02_NaturalValid.T5 : Bool × List (List Nat × List Nat) := (true, [([], []), ([0], [0]), ([], []), ([2, 1], [2]), ([1, 3], [1, 3]), ([4, 3], [4]), ([5], [5]), ([5], [5]), ([6, 7, 5, 5], [5, 6, 7]), ([5], [5]), ([5], [5]), ([9, 10, 8, 5], [5, 9, 10]), ([8, 11, 5], [5, 8, 11]), ([5, 12], [5, 12]), ([13, 11], [13]), ([14], [14]), ([14], [14]), ([15, 16, 14, 14], [14, 15, 16]), ([14], [14]), ([14], [14]), ([18, 19, 17, 14], [14, 18, 19]), ([20, 14], [14, 20]), ([17, 21, 14], [14, 17, 21]), ([14, 22], [14, 22]), ([23, 20], [23]), ([24], [24]), ([24], [24]), ([25, 26, 24], [24, 25, 26]), ([24, 27], [24, 27]), ([28, 24], [28]), ([29], [29]), ([29], [29]), ([30, 31, 29, 29], [29, 30, 31]), ([29, 32], [29, 32]), ([33, 32, 0, 1, 2, 3, 4, 5, 6, 7, 8, 9, 10, 11, 12, 13, 14, 15, 16, 17, 18, 19, 20, 21, 22, 23, 24, 25, 26, 27, 28, 29, 30, 31, 32, 33], [33])])
def ancepslaw02_NaturalValid.B5 : List Nat := [0, 1, 0, 7, 15, 31, 63, 63, 255, 63, 63, 2047, 4095, 8191, 16383, 32767, 32767, 131071, 32767, 32767, 1048575, 2097151, 4194303, 8388607, 16777215, 33554431, 33554431, 134217727, 268435455, 536870911, 1073741823, 1073741823, 4294967295, 8589934591, 17179869183]
theorem ancepslaw02_NaturalValid.tab5 : rtab .any (opsOf Tryd.f6 5) = ancepslaw02_NaturalValid.T5 := by kernel_rfl
theorem ancepslaw02_NaturalValid.bits5 : waitsOk ancepslaw02_NaturalValid.T5.2 ancepslaw02_NaturalValid.B5 = true := by kernel_rfl
set_option maxHeartbeats 8000000 in
set_option maxRecDepth 100000 in
theorem ancepslaw02_NaturalValid.calls (k : Nat) (P0_0_ : Nat → Prop) (A0_0 : Option Addr) (c0_0 : Nat) (l0_0 : List Int) (P1_0_ : Nat → Prop) (A1_0 : Option Addr) (c1_0 : Nat) (l1_0 : List Int) (a2 : Int) (r : Bool) (w : World) (hs0_0 : Kd.V (Kd.int .i64) 3 w w.heap.size (fun k_ => P0_0_ k_) (.slice A0_0 l0_0.length c0_0) l0_0) (hs1_0 : Kd.V (Kd.int .i64) 3 w w.heap.size (fun k_ => P1_0_ k_) (.slice A1_0 l1_0.length c1_0) l1_0) (hG : GL w) (h : ancepslaw02_NaturalValid.f k l0_0 l1_0 a2 = some r) :
    Calls Tryd.prog 6 #[.agg #[.slice A0_0 l0_0.length c0_0], .agg #[.slice A1_0 l1_0.length c1_0], .int .i64 a2] w fun e w' => e = .returned (.bool r) ∧ Below w.heap.size w w' := by
  have hu24 := Tryd.underlying24
  have HO0_0 := Aside0.mk (show Kd.V (Kd.int .i64) 3 w w.heap.size (fun k_ => ((P0_0_ k_ ∨ P1_0_ k_) ∨ w.heap.size ≤ k_)) (.slice A0_0 l0_0.length c0_0) l0_0 from Kd.V_mono hs0_0 (fun k_ hk => .inl (.inl hk)))
  have HO1_0 := Aside0.mk (show Kd.V (Kd.int .i64) 3 w w.heap.size (fun k_ => ((P0_0_ k_ ∨ P1_0_ k_) ∨ w.heap.size ≤ k_)) (.slice A1_0 l1_0.length c1_0) l1_0 from Kd.V_mono hs1_0 (fun k_ hk => .inl (.inr hk)))
  have HB := Aside0.mk (Below.refl w.heap.size w)
  have HG := Aside0.mk hG
  clear hG
  have H : ((ancepslaw02_awake.f k).bind fun t451 => (if t451 = true then ((ancepslaw02_few.f k (([(⟨l0_0⟩ : S24), (⟨l1_0⟩ : S24)] : List (S24)))).bind fun t455 => (if t455 = true then ((natural_Of.f k a2).bind fun bt457 => ((ancepsref02_Of.f k a2).bind fun bt462 => ((natural_Valid.f l0_0).bind fun t467 => ((ancepsref02_Valid.f k l0_0).bind fun t468 => (if (t467 == t468) = true then ((natural_Cmp.f k l0_0 l1_0).bind fun t469 => ((ancepsref02_Cmp.f k l0_0 l1_0).bind fun t470 => (if t469 = t470 then ((natural_Cmp.f k l1_0 l0_0).bind fun t471 => ((ancepsref02_Cmp.f k l0_0 l1_0).bind fun t472 => (if t471 = (wrap64 (-t472)) then (if bt457.2 = bt462.2 then ((ancepsref02_Same.f k bt457.1 bt462.1).bind fun t473 => (some t473)) else (none)) else (some false)))) else (none)))) else (some false)))))) else ((ancepslaw02_awake.f k).bind fun t456 => (some t456)))) else (none))) = some r := h
  clear h
  replace H := Option.bind_eq_some_iff.mp H
  obtain ⟨t451, A40, H⟩ := H
  replace H : (if t451 = true then ((ancepslaw02_few.f k (([(⟨l0_0⟩ : S24), (⟨l1_0⟩ : S24)] : List (S24)))).bind fun t455 => (if t455 = true then ((natural_Of.f k a2).bind fun bt457 => ((ancepsref02_Of.f k a2).bind fun bt462 => ((natural_Valid.f l0_0).bind fun t467 => ((ancepsref02_Valid.f k l0_0).bind fun t468 => (if (t467 == t468) = true then ((natural_Cmp.f k l0_0 l1_0).bind fun t469 => ((ancepsref02_Cmp.f k l0_0 l1_0).bind fun t470 => (if t469 = t470 then ((natural_Cmp.f k l1_0 l0_0).bind fun t471 => ((ancepsref02_Cmp.f k l0_0 l1_0).bind fun t472 => (if t471 = (wrap64 (-t472)) then (if bt457.2 = bt462.2 then ((ancepsref02_Same.f k bt457.1 bt462.1).bind fun t473 => (some t473)) else (none)) else (some false)))) else (none)))) else (some false)))))) else ((ancepslaw02_awake.f k).bind fun t456 => (some t456)))) else (none)) = some r := H
  have A4 := Aside0.mk A40
  clear A40
  by_cases c5 : t451 = true
  · subst c5
    have H1 : ((ancepslaw02_few.f k (([(⟨l0_0⟩ : S24), (⟨l1_0⟩ : S24)] : List (S24)))).bind fun t455 => (if t455 = true then ((natural_Of.f k a2).bind fun bt457 => ((ancepsref02_Of.f k a2).bind fun bt462 => ((natural_Valid.f l0_0).bind fun t467 => ((ancepsref02_Valid.f k l0_0).bind fun t468 => (if (t467 == t468) = true then ((natural_Cmp.f k l0_0 l1_0).bind fun t469 => ((ancepsref02_Cmp.f k l0_0 l1_0).bind fun t470 => (if t469 = t470 then ((natural_Cmp.f k l1_0 l0_0).bind fun t471 => ((ancepsref02_Cmp.f k l0_0 l1_0).bind fun t472 => (if t471 = (wrap64 (-t472)) then (if bt457.2 = bt462.2 then ((ancepsref02_Same.f k bt457.1 bt462.1).bind fun t473 => (some t473)) else (none)) else (some false)))) else (none)))) else (some false)))))) else ((ancepslaw02_awake.f k).bind fun t456 => (some t456)))) = some r := by rw [if_pos rfl] at H; exact H
    clear H
    have H := H1
    clear H1
    obtain ⟨y452, hy452⟩ : ∃ y_ : List (S24), y_ = (([(⟨l0_0⟩ : S24), (⟨l1_0⟩ : S24)] : List (S24))) := ⟨_, rfl⟩
    replace H : ((ancepslaw02_few.f k y452).bind fun t455 => (if t455 = true then ((natural_Of.f k a2).bind fun bt457 => ((ancepsref02_Of.f k a2).bind fun bt462 => ((natural_Valid.f l0_0).bind fun t467 => ((ancepsref02_Valid.f k l0_0).bind fun t468 => (if (t467 == t468) = true then ((natural_Cmp.f k l0_0 l1_0).bind fun t469 => ((ancepsref02_Cmp.f k l0_0 l1_0).bind fun t470 => (if t469 = t470 then ((natural_Cmp.f k l1_0 l0_0).bind fun t471 => ((ancepsref02_Cmp.f k l0_0 l1_0).bind fun t472 => (if t471 = (wrap64 (-t472)) then (if bt457.2 = bt462.2 then ((ancepsref02_Same.f k bt457.1 bt462.1).bind fun t473 => (some t473)) else (none)) else (some false)))) else (none)))) else (some false)))))) else ((ancepslaw02_awake.f k).bind fun t456 => (some t456)))) = some r := by first | (rw [hy452]; with_reducible exact H) | (have H2_ := (Option.bind_some _ _).symm.trans H; rw [hy452]; with_reducible exact H2_) | (have H2_ := (Option.bind_some _ _).symm.trans H; with_reducible exact H2_) | with_reducible exact H | (rw [hy452]; exact H) | exact H
    have Ny452 := Aside0.mk hy452
    clear hy452
    replace H := Option.bind_eq_some_iff.mp H
    obtain ⟨t455, A60, H⟩ := H
    replace H : (if t455 = true then ((natural_Of.f k a2).bind fun bt457 => ((ancepsref02_Of.f k a2).bind fun bt462 => ((natural_Valid.f l0_0).bind fun t467 => ((ancepsref02_Valid.f k l0_0).bind fun t468 => (if (t467 == t468) = true then ((natural_Cmp.f k l0_0 l1_0).bind fun t469 => ((ancepsref02_Cmp.f k l0_0 l1_0).bind fun t470 => (if t469 = t470 then ((natural_Cmp.f k l1_0 l0_0).bind fun t471 => ((ancepsref02_Cmp.f k l0_0 l1_0).bind fun t472 => (if t471 = (wrap64 (-t472)) then (if bt457.2 = bt462.2 then ((ancepsref02_Same.f k bt457.1 bt462.1).bind fun t473 => (some t473)) else (none)) else (some false)))) else (none)))) else (some false)))))) else ((ancepslaw02_awake.f k).bind fun t456 => (some t456))) = some r := H
    have A6 := Aside0.mk A60
    clear A60
    by_cases c7 : t455 = true
    · subst c7
      have H1 : ((natural_Of.f k a2).bind fun bt457 => ((ancepsref02_Of.f k a2).bind fun bt462 => ((natural_Valid.f l0_0).bind fun t467 => ((ancepsref02_Valid.f k l0_0).bind fun t468 => (if (t467 == t468) = true then ((natural_Cmp.f k l0_0 l1_0).bind fun t469 => ((ancepsref02_Cmp.f k l0_0 l1_0).bind fun t470 => (if t469 = t470 then ((natural_Cmp.f k l1_0 l0_0).bind fun t471 => ((ancepsref02_Cmp.f k l0_0 l1_0).bind fun t472 => (if t471 = (wrap64 (-t472)) then (if bt457.2 = bt462.2 then ((ancepsref02_Same.f k bt457.1 bt462.1).bind fun t473 => (some t473)) else (none)) else (some false)))) else (none)))) else (some false)))))) = some r := by rw [if_pos rfl] at H; exact H
      clear H
      have H := H1
      clear H1
      replace H := Option.bind_eq_some_iff.mp H
      obtain ⟨⟨t457, t460⟩, A80, H⟩ := H
      replace H : ((ancepsref02_Of.f k a2).bind fun bt462 => ((natural_Valid.f l0_0).bind fun t467 => ((ancepsref02_Valid.f k l0_0).bind fun t468 => (if (t467 == t468) = true then ((natural_Cmp.f k l0_0 l1_0).bind fun t469 => ((ancepsref02_Cmp.f k l0_0 l1_0).bind fun t470 => (if t469 = t470 then ((natural_Cmp.f k l1_0 l0_0).bind fun t471 => ((ancepsref02_Cmp.f k l0_0 l1_0).bind fun t472 => (if t471 = (wrap64 (-t472)) then (if t460 = bt462.2 then ((ancepsref02_Same.f k t457 bt462.1).bind fun t473 => (some t473)) else (none)) else (some false)))) else (none)))) else (some false))))) = some r := H
      have A8 := Aside0.mk A80
      clear A80
      replace H := Option.bind_eq_some_iff.mp H
      obtain ⟨⟨t462, t465⟩, A90, H⟩ := H
      replace H : ((natural_Valid.f l0_0).bind fun t467 => ((ancepsref02_Valid.f k l0_0).bind fun t468 => (if (t467 == t468) = true then ((natural_Cmp.f k l0_0 l1_0).bind fun t469 => ((ancepsref02_Cmp.f k l0_0 l1_0).bind fun t470 => (if t469 = t470 then ((natural_Cmp.f k l1_0 l0_0).bind fun t471 => ((ancepsref02_Cmp.f k l0_0 l1_0).bind fun t472 => (if t471 = (wrap64 (-t472)) then (if t460 = t465 then ((ancepsref02_Same.f k t457 t462).bind fun t473 => (some t473)) else (none)) else (some false)))) else (none)))) else (some false)))) = some r := H
      have A9 := Aside0.mk A90
      clear A90
      replace H := Option.bind_eq_some_iff.mp H
      obtain ⟨t467, A100, H⟩ := H
      replace H : ((ancepsref02_Valid.f k l0_0).bind fun t468 => (if (t467 == t468) = true then ((natural_Cmp.f k l0_0 l1_0).bind fun t469 => ((ancepsref02_Cmp.f k l0_0 l1_0).bind fun t470 => (if t469 = t470 then ((natural_Cmp.f k l1_0 l0_0).bind fun t471 => ((ancepsref02_Cmp.f k l0_0 l1_0).bind fun t472 => (if t471 = (wrap64 (-t472)) then (if t460 = t465 then ((ancepsref02_Same.f k t457 t462).bind fun t473 => (some t473)) else (none)) else (some false)))) else (none)))) else (some false))) = some r := H
      have A10 := Aside0.mk A100
      clear A100
      replace H := Option.bind_eq_some_iff.mp H
      obtain ⟨t468, A110, H⟩ := H
      replace H : (if (t467 == t468) = true then ((natural_Cmp.f k l0_0 l1_0).bind fun t469 => ((ancepsref02_Cmp.f k l0_0 l1_0).bind fun t470 => (if t469 = t470 then ((natural_Cmp.f k l1_0 l0_0).bind fun t471 => ((ancepsref02_Cmp.f k l0_0 l1_0).bind fun t472 => (if t471 = (wrap64 (-t472)) then (if t460 = t465 then ((ancepsref02_Same.f k t457 t462).bind fun t473 => (some t473)) else (none)) else (some false)))) else (none)))) else (some false)) = some r := H
      have A11 := Aside0.mk A110
      clear A110
      by_cases c12 : (t467 == t468) = true
      · rw [if_pos c12] at H
        have c12b0 : (t467 == t468) = true := c12
        (try (have c12b1 : decide (t467 = t468) = true := by simpa using c12))
        (try (have c12b2 : (t467 == t468) = true := by simpa using c12))
        clear c12
        replace H := Option.bind_eq_some_iff.mp H
        obtain ⟨t469, A130, H⟩ := H
        replace H : ((ancepsref02_Cmp.f k l0_0 l1_0).bind fun t470 => (if t469 = t470 then ((natural_Cmp.f k l1_0 l0_0).bind fun t471 => ((ancepsref02_Cmp.f k l0_0 l1_0).bind fun t472 => (if t471 = (wrap64 (-t472)) then (if t460 = t465 then ((ancepsref02_Same.f k t457 t462).bind fun t473 => (some t473)) else (none)) else (some false)))) else (none))) = some r := H
        have A13 := Aside0.mk A130
        clear A130
        replace H := Option.bind_eq_some_iff.mp H
        obtain ⟨t470, A140, H⟩ := H
        replace H : (if t469 = t470 then ((natural_Cmp.f k l1_0 l0_0).bind fun t471 => ((ancepsref02_Cmp.f k l0_0 l1_0).bind fun t472 => (if t471 = (wrap64 (-t472)) then (if t460 = t465 then ((ancepsref02_Same.f k t457 t462).bind fun t473 => (some t473)) else (none)) else (some false)))) else (none)) = some r := H
        have A14 := Aside0.mk A140
        clear A140
        by_cases c15 : t469 = t470
        · rw [if_pos c15] at H
          have c15b0 : (t469 == t470) = true := beq_iff_eq.mpr c15
          have c15b1 : (t469 != t470) = false := bne_eq_false_iff_eq.mpr c15
          clear c15
          replace H := Option.bind_eq_some_iff.mp H
          obtain ⟨t471, A160, H⟩ := H
          replace H : ((ancepsref02_Cmp.f k l0_0 l1_0).bind fun t472 => (if t471 = (wrap64 (-t472)) then (if t460 = t465 then ((ancepsref02_Same.f k t457 t462).bind fun t473 => (some t473)) else (none)) else (some false))) = some r := H
          have A16 := Aside0.mk A160
          clear A160
          replace H := Option.bind_eq_some_iff.mp H
          obtain ⟨t472, A170, H⟩ := H
          replace H : (if t471 = (wrap64 (-t472)) then (if t460 = t465 then ((ancepsref02_Same.f k t457 t462).bind fun t473 => (some t473)) else (none)) else (some false)) = some r := H
          have A17 := Aside0.mk A170
          clear A170
          by_cases c18 : t471 = (wrap64 (-t472))
          · rw [if_pos c18] at H
            have c18b0 : (t471 == (wrap64 (-t472))) = true := beq_iff_eq.mpr c18
            have c18b1 : (t471 != (wrap64 (-t472))) = false := bne_eq_false_iff_eq.mpr c18
            clear c18
            by_cases c19 : t460 = t465
            · rw [if_pos c19] at H
              have c19b0 : (t460 == t465) = true := beq_iff_eq.mpr c19
              have c19b1 : (t460 != t465) = false := bne_eq_false_iff_eq.mpr c19
              clear c19
              replace H := Option.bind_eq_some_iff.mp H
              obtain ⟨t473, A200, H⟩ := H
              replace H : (some t473) = some r := H
              have A20 := Aside0.mk A200
              clear A200
              obtain rfl := Option.some.inj H
              go_enter Tryd.func6, Tryd.ntmps6
              try go_wp2_with (first | ((with_reducible refine gate_dst (N := 3) rfl ?_); (try (refine gate_guard (by rfl) ?_; dsimp only)); refine box_event ?hg (N := 3) ?hd (cs := #[.slice A0_0 l0_0.length c0_0]) (t := 24) ?hr ?_; (case hd => rfl); (case hg => rfl); (case hr => first | (go_simp; done) | (go_simp; rfl)); intro gb449 hg w21 hbox hb; have n0_ := Aside0.mk (Kd.V_below (Kd.V_elderB (by (with_reducible repeat (first | apply Kd.V_alloc | apply Kd.V_drewN | apply Kd.V_drew)); exact HO0_0.out) gb449 (Nat.le_of_eq hg.symm)) hb); have n1_ := Aside0.mk (Kd.V_below (Kd.V_elderB (by (with_reducible repeat (first | apply Kd.V_alloc | apply Kd.V_drewN | apply Kd.V_drew)); exact HO1_0.out) gb449 (Nat.le_of_eq hg.symm)) hb); have n2_ := Aside0.mk (below_step (by repeat (first | (with_reducible first | exact HB.out | apply below_alloc | apply pw_below_drewN | apply below_drew1) | exact HB.out)) hb); have n3_ := Aside0.mk (hbox); have n4_ := Aside0.mk ((by rw [hg]; exact (below_size (by repeat (first | (with_reducible first | exact HB.out | apply below_alloc | apply pw_below_drewN | apply below_drew1) | exact HB.out))) : w.heap.size ≤ gb449)); have n5_ := Aside0.mk ((by rw [hg]; exact (below_size (by repeat (first | (with_reducible first | exact HB.out | apply below_alloc | apply pw_below_drewN | apply below_drew1) | exact HB.out))) : w.heap.size ≤ gb449)); clear HO0_0; clear HO1_0; clear HB; have HO0_0 := n0_; have HO1_0 := n1_; have HB := n2_; have BK449 := n3_; have GW449 := n4_; have GE449 := n5_; clear n0_ n1_ n2_ n3_ n4_ n5_; clear hb hbox hg) | ((with_reducible refine gate_dst (N := 4) rfl ?_); (try (refine gate_guard (by rfl) ?_; dsimp only)); refine box_event ?hg (N := 4) ?hd (cs := #[.slice A1_0 l1_0.length c1_0]) (t := 24) ?hr ?_; (case hd => rfl); (case hg => rfl); (case hr => first | (go_simp; done) | (go_simp; rfl)); intro gb450 hg w22 hbox hb; have n0_ := Aside0.mk (Kd.V_below (Kd.V_elderB (by (with_reducible repeat (first | apply Kd.V_alloc | apply Kd.V_drewN | apply Kd.V_drew)); exact HO0_0.out) gb450 (Nat.le_of_eq hg.symm)) hb); have n1_ := Aside0.mk (Kd.V_below (Kd.V_elderB (by (with_reducible repeat (first | apply Kd.V_alloc | apply Kd.V_drewN | apply Kd.V_drew)); exact HO1_0.out) gb450 (Nat.le_of_eq hg.symm)) hb); have n2_ := Aside0.mk (blk_below (g := gb449) (o := .cells #[.slice A0_0 l0_0.length c0_0] 24 (0, 0)) (by (with_reducible repeat (first | refine blk_drewN ?_ _ | refine blk_drew ?_ | refine blk_alloc ?_ _)); exact BK449.out) hb); have n3_ := Aside0.mk (below_step (by repeat (first | (with_reducible first | exact HB.out | apply below_alloc | apply pw_below_drewN | apply below_drew1 | refine below_set ?_ GE449.out) | exact HB.out)) hb); have n4_ := Aside0.mk (hbox); have n5_ := Aside0.mk ((by rw [hg]; exact (below_size (by repeat (first | (with_reducible first | exact HB.out | apply below_alloc | apply pw_below_drewN | apply below_drew1 | refine below_set ?_ GE449.out) | exact HB.out))) : w.heap.size ≤ gb450)); have n6_ := Aside0.mk ((by rw [hg]; exact (below_size (by repeat (first | (with_reducible first | exact HB.out | apply below_alloc | apply pw_below_drewN | apply below_drew1 | refine below_set ?_ GE449.out) | exact HB.out))) : w.heap.size ≤ gb450)); have n7_ := Aside0.mk ((by rw [hg]; exact Nat.ne_of_lt (blk_lt (g := gb449) (o := .cells #[.slice A0_0 l0_0.length c0_0] 24 (0, 0)) (by (with_reducible repeat (first | refine blk_drewN ?_ _ | refine blk_drew ?_ | refine blk_alloc ?_ _)); exact BK449.out)) : gb449 ≠ gb450)); have n8_ := Aside0.mk ((by rw [hg]; exact Nat.ne_of_gt (blk_lt (g := gb449) (o := .cells #[.slice A0_0 l0_0.length c0_0] 24 (0, 0)) (by (with_reducible repeat (first | refine blk_drewN ?_ _ | refine blk_drew ?_ | refine blk_alloc ?_ _)); exact BK449.out)) : gb450 ≠ gb449)); clear HO0_0; clear HO1_0; clear BK449; clear HB; have HO0_0 := n0_; have HO1_0 := n1_; have BK449 := n2_; have HB := n3_; have BK450 := n4_; have GW450 := n5_; have GE450 := n6_; have NB449_450 := n7_; have NB450_449 := n8_; clear n0_ n1_ n2_ n3_ n4_ n5_ n6_ n7_ n8_; clear hb hbox hg) | ((with_reducible refine gate_callee (f := 12) rfl ?_); refine goesL_ (some 11) rfl rfl Tryd.func12 (by kernel_rfl) rfl #[] rfl (by (try simp only [List.map_toArray, List.map_cons, List.map_nil]); first | done | rfl | (simp only [List.length_drop, List.length_take]; rfl)) ?_; (with_reducible refine (ancepslaw02_awake.calls k  true _ ?side1 A4.out).mono ?_); (case side1 => exact GL.below HG.out (by repeat (first | (with_reducible first | exact HB.out | apply below_alloc | apply pw_below_drewN | apply below_drew1 | refine below_set ?_ GE449.out | refine below_set ?_ GE450.out) | exact HB.out))); rintro e w23 ⟨rfl, hb⟩; refine ⟨_, rfl, ?_⟩; have n0_ := Aside0.mk (Kd.V_below (by (with_reducible repeat (first | apply Kd.V_alloc | apply Kd.V_drewN | apply Kd.V_drew)); exact HO0_0.out) hb); have n1_ := Aside0.mk (Kd.V_below (by (with_reducible repeat (first | apply Kd.V_alloc | apply Kd.V_drewN | apply Kd.V_drew)); exact HO1_0.out) hb); have n2_ := Aside0.mk (blk_below (g := gb449) (o := .cells #[.slice A0_0 l0_0.length c0_0] 24 (0, 0)) (by (with_reducible repeat (first | refine blk_drewN ?_ _ | refine blk_drew ?_ | refine blk_alloc ?_ _)); exact BK449.out) hb); have n3_ := Aside0.mk (blk_below (g := gb450) (o := .cells #[.slice A1_0 l1_0.length c1_0] 24 (0, 0)) (by (with_reducible repeat (first | refine blk_drewN ?_ _ | refine blk_drew ?_ | refine blk_alloc ?_ _)); exact BK450.out) hb); have n4_ := Aside0.mk (below_step (by repeat (first | (with_reducible first | exact HB.out | apply below_alloc | apply pw_below_drewN | apply below_drew1 | refine below_set ?_ GE449.out | refine below_set ?_ GE450.out) | exact HB.out)) hb); clear HO0_0; clear HO1_0; clear BK449; clear BK450; clear HB; have HO0_0 := n0_; have HO1_0 := n1_; have BK449 := n2_; have BK450 := n3_; have HB := n4_; clear n0_ n1_ n2_ n3_ n4_; (try clear hb); (try clear hb2); (try clear hk); (try clear hi); have hnb24 := NB449_450.out; have hnc24 := NB450_449.out; have hcz25_0 : w23.cell? ⟨gb449, 0, none⟩ = some (.slice A0_0 l0_0.length c0_0) := (blk_cell BK449.out 0).trans rfl; have hfz25_0 := blk_frozen BK449.out 0; have hcz26_0 : w23.cell? ⟨gb450, 0, none⟩ = some (.slice A1_0 l1_0.length c1_0) := (blk_cell BK450.out 0).trans rfl; have hfz26_0 := blk_frozen BK450.out 0) | ((with_reducible refine gate_dst (N := 16) rfl ?_); (try (refine gate_guard (by rfl) ?_; dsimp only)); refine Kd.N_lit k24 _ 24 ?hg (N' := 16) ?hd (xs := ([(⟨l0_0⟩ : S24), (⟨l1_0⟩ : S24)] : List (S24))) (inner := [.slice A0_0 l0_0.length c0_0, .slice A1_0 l1_0.length c1_0]) (ok := (fun k_ => ((P0_0_ k_ ∨ P1_0_ k_) ∨ w.heap.size ≤ k_) ∧ k_ ≠ gb449 ∧ k_ ≠ gb450)) (okp := (fun k_ => ((P0_0_ k_ ∨ P1_0_ k_) ∨ w.heap.size ≤ k_) ∧ k_ ≠ gb449 ∧ k_ ≠ gb450)) ?hr ?hp (fun _ hk => hk) ((show ∀ k_, w23.heap.size ≤ k_ → (fun k_ => ((P0_0_ k_ ∨ P1_0_ k_) ∨ w.heap.size ≤ k_) ∧ k_ ≠ gb449 ∧ k_ ≠ gb450) k_ from fun k_ hk => ⟨(.inr (Nat.le_trans (below_size (by repeat (first | (with_reducible first | exact HB.out | apply below_alloc | apply pw_below_drewN | apply below_drew1 | refine below_set ?_ GE449.out | refine below_set ?_ GE450.out) | exact HB.out))) hk)), Kd.freshB (g := gb449) (o := .cells #[.slice A0_0 l0_0.length c0_0] 24 (0, 0)) (by (with_reducible repeat (first | refine blk_drewN ?_ _ | refine blk_drew ?_ | refine blk_alloc ?_ _)); exact BK449.out) k_ hk, Kd.freshB (g := gb450) (o := .cells #[.slice A1_0 l1_0.length c1_0] 24 (0, 0)) (by (with_reducible repeat (first | refine blk_drewN ?_ _ | refine blk_drew ?_ | refine blk_alloc ?_ _)); exact BK450.out) k_ hk⟩) _ (Nat.le_refl _)) (Below.refl _ _) (Nat.le_refl _) (by simp) ?_; (case hd => rfl); (case hg => rfl); (case hr => first | (go_simp; done) | (go_simp; rfl)); (case hp => exact (Reps.one (show Kd.FK k24 _ _ (⟨l0_0⟩ : S24) [.slice A0_0 l0_0.length c0_0] from (k24_mkF _ _ (⟨l0_0⟩ : S24) (Kd.V_reads' (Kd.V_mono (ok' := (fun k_ => ((P0_0_ k_ ∨ P1_0_ k_) ∨ w.heap.size ≤ k_) ∧ k_ ≠ gb449 ∧ k_ ≠ gb450)) (HO0_0.out) (fun k_ hk => by first | exact ⟨hk.1.1, ⟨hk.1.2, hk.2⟩⟩ | grind))).2.1 (Kd.V_F (Kd.V_mono (ok' := (fun k_ => ((P0_0_ k_ ∨ P1_0_ k_) ∨ w.heap.size ≤ k_) ∧ k_ ≠ gb449 ∧ k_ ≠ gb450)) (HO0_0.out) (fun k_ hk => by first | exact ⟨hk.1.1, ⟨hk.1.2, hk.2⟩⟩ | grind))))) (Reps.one (show Kd.FK k24 _ _ (⟨l1_0⟩ : S24) [.slice A1_0 l1_0.length c1_0] from (k24_mkF _ _ (⟨l1_0⟩ : S24) (Kd.V_reads' (Kd.V_mono (ok' := (fun k_ => ((P0_0_ k_ ∨ P1_0_ k_) ∨ w.heap.size ≤ k_) ∧ k_ ≠ gb449 ∧ k_ ≠ gb450)) (HO1_0.out) (fun k_ hk => by first | exact ⟨hk.1.1, ⟨hk.1.2, hk.2⟩⟩ | grind))).2.1 (Kd.V_F (Kd.V_mono (ok' := (fun k_ => ((P0_0_ k_ ∨ P1_0_ k_) ∨ w.heap.size ≤ k_) ∧ k_ ≠ gb449 ∧ k_ ≠ gb450)) (HO1_0.out) (fun k_ hk => by first | exact ⟨hk.1.1, ⟨hk.1.2, hk.2⟩⟩ | grind))))) (Reps.none _ _)))); intro v453 w27 ho28 hb hg_ hnew_; clear hg_ hnew_; (first | rw [← Ny452.out] at ho28 | (simp only [Int.reduceToNat] at ho28; rw [← Ny452.out] at ho28)); have n0_ := Aside0.mk (Kd.V_elder' (by (with_reducible repeat (first | apply Kd.V_alloc | apply Kd.V_drewN | apply Kd.V_drew)); exact HO0_0.out) (Kd.N_base ho28) hb); have n1_ := Aside0.mk (Kd.V_elder' (by (with_reducible repeat (first | apply Kd.V_alloc | apply Kd.V_drewN | apply Kd.V_drew)); exact HO1_0.out) (Kd.N_base ho28) hb); have n2_ := Aside0.mk (Kd.N_lower ho28 (below_size (by repeat (first | (with_reducible first | exact HB.out | apply below_alloc | apply pw_below_drewN | apply below_drew1 | refine below_set ?_ GE449.out | refine below_set ?_ GE450.out) | exact HB.out)))); have n3_ := Aside0.mk (blk_below (g := gb449) (o := .cells #[.slice A0_0 l0_0.length c0_0] 24 (0, 0)) (by (with_reducible repeat (first | refine blk_drewN ?_ _ | refine blk_drew ?_ | refine blk_alloc ?_ _)); exact BK449.out) hb); have n4_ := Aside0.mk (blk_below (g := gb450) (o := .cells #[.slice A1_0 l1_0.length c1_0] 24 (0, 0)) (by (with_reducible repeat (first | refine blk_drewN ?_ _ | refine blk_drew ?_ | refine blk_alloc ?_ _)); exact BK450.out) hb); have n5_ := Aside0.mk (below_step (by repeat (first | (with_reducible first | exact HB.out | apply below_alloc | apply pw_below_drewN | apply below_drew1 | refine below_set ?_ GE449.out | refine below_set ?_ GE450.out) | exact HB.out)) hb); clear HO0_0; clear HO1_0; clear BK449; clear BK450; clear HB; have HO0_0 := n0_; have HO1_0 := n1_; have HO454 := n2_; have BK449 := n3_; have BK450 := n4_; have HB := n5_; clear n0_ n1_ n2_ n3_ n4_ n5_; clear hb ho28; obtain ⟨Ao29, co29, eo29⟩ := Kd.N_slice HO454.out; subst eo29) | (go_at_call 13; (with_reducible refine (ancepslaw02_few.calls k _ _ y452 true _ ?side1 ?side2 A6.out).mono ?_); (case side1 => repeat (first | exact (Kd.N_reads' HO454.out).2.2 | (with_reducible refine Kd.C_alloc ?_ _) | (with_reducible refine Kd.C_drewN ?_ _) | (with_reducible refine Kd.C_drew ?_))); (case side2 => exact (Kd.N_reads' HO454.out).2.1); rintro e w' ⟨rfl, ⟨nd, rfl⟩⟩; (try (rw [drewN_self w27]; generalize hq_ : World.drewN w27 _ = w27; have n0_ : Aside0 (Kd.V (Kd.int .i64) 3 w27 w.heap.size (fun k_ => ((P0_0_ k_ ∨ P1_0_ k_) ∨ w.heap.size ≤ k_) ∧ some k_ ≠ (.slice Ao29 y452.length co29 : Value).ownBlock ∧ k_ ≠ gb449 ∧ k_ ≠ gb450) (.slice A0_0 l0_0.length c0_0) l0_0) := ⟨by rw [← hq_]; exact (by (with_reducible repeat (first | apply Kd.V_alloc | apply Kd.V_drewN | apply Kd.V_drew)); exact Kd.V_mono HO0_0.out (fun _ hk => by first | exact ⟨hk.1.1.1, ⟨hk.2, ⟨hk.1.1.2, hk.1.2⟩⟩⟩ | grind))⟩; have n1_ : Aside0 (Kd.V (Kd.int .i64) 3 w27 w.heap.size (fun k_ => ((P0_0_ k_ ∨ P1_0_ k_) ∨ w.heap.size ≤ k_) ∧ some k_ ≠ (.slice Ao29 y452.length co29 : Value).ownBlock ∧ k_ ≠ gb449 ∧ k_ ≠ gb450) (.slice A1_0 l1_0.length c1_0) l1_0) := ⟨by rw [← hq_]; exact (by (with_reducible repeat (first | apply Kd.V_alloc | apply Kd.V_drewN | apply Kd.V_drew)); exact Kd.V_mono HO1_0.out (fun _ hk => by first | exact ⟨hk.1.1.1, ⟨hk.2, ⟨hk.1.1.2, hk.1.2⟩⟩⟩ | grind))⟩; have n2_ : Aside0 (Kd.N k24 24 w27 w.heap.size (fun k_ => ((P0_0_ k_ ∨ P1_0_ k_) ∨ w.heap.size ≤ k_) ∧ k_ ≠ gb449 ∧ k_ ≠ gb450) (.slice Ao29 y452.length co29) y452) := ⟨by rw [← hq_]; exact (by (with_reducible repeat (first | apply Kd.N_alloc | apply Kd.N_drewN | apply Kd.N_drew)); exact HO454.out)⟩; have n3_ : Aside0 (w27.heap[gb449]? = some (.cells #[.slice A0_0 l0_0.length c0_0] 24 (0, 0))) := ⟨by rw [← hq_]; exact (by (with_reducible repeat (first | refine blk_drewN ?_ _ | refine blk_drew ?_ | refine blk_alloc ?_ _)); exact BK449.out)⟩; have n4_ : Aside0 (w27.heap[gb450]? = some (.cells #[.slice A1_0 l1_0.length c1_0] 24 (0, 0))) := ⟨by rw [← hq_]; exact (by (with_reducible repeat (first | refine blk_drewN ?_ _ | refine blk_drew ?_ | refine blk_alloc ?_ _)); exact BK450.out)⟩; have n5_ : Aside0 (Below w.heap.size w w27) := ⟨by rw [← hq_]; exact (by repeat (first | (with_reducible first | exact HB.out | apply below_alloc | apply pw_below_drewN | apply below_drew1 | refine below_set ?_ GE449.out | refine below_set ?_ GE450.out) | exact HB.out))⟩; clear HO0_0 HO1_0 HO454 BK449 BK450 HB hq_; have HO0_0 := n0_; have HO1_0 := n1_; have HO454 := n2_; have BK449 := n3_; have BK450 := n4_; have HB := n5_; clear n0_ n1_ n2_ n3_ n4_ n5_))) | ((with_reducible refine gate_callee (f := 22) rfl ?_); refine goesL_ (some 23) rfl rfl Tryd.func22 (by kernel_rfl) rfl #[.int .i64 a2] rfl (by (try simp only [List.map_toArray, List.map_cons, List.map_nil]); first | done | rfl | (simp only [List.length_drop, List.length_take]; rfl)) ?_; (with_reducible refine (natural_Of.calls k a2 t457 t460 _ A8.out).mono ?_); rintro e w30 ⟨v458, rfl, ho0, hb⟩; refine ⟨_, rfl, ?_⟩; have n0_ := Aside0.mk (Kd.V_below (by (with_reducible repeat (first | apply Kd.V_alloc | apply Kd.V_drewN | apply Kd.V_drew)); exact HO0_0.out) hb); have n1_ := Aside0.mk (Kd.V_below (by (with_reducible repeat (first | apply Kd.V_alloc | apply Kd.V_drewN | apply Kd.V_drew)); exact HO1_0.out) hb); have n2_ := Aside0.mk (Kd.N_below (by (with_reducible repeat (first | apply Kd.N_alloc | apply Kd.N_drewN | apply Kd.N_drew)); exact HO454.out) hb); have n3_ := Aside0.mk (Kd.V_lower (Kd.V_mono (ok' := fun k_ => ((P0_0_ k_ ∨ P1_0_ k_) ∨ w.heap.size ≤ k_) ∧ some k_ ≠ (.slice Ao29 y452.length co29 : Value).ownBlock ∧ k_ ≠ gb449 ∧ k_ ≠ gb450) ho0 (fun k_ hk_ => ⟨(.inr (Nat.le_trans (below_size (by repeat (first | (with_reducible first | exact HB.out | apply below_alloc | apply pw_below_drewN | apply below_drew1 | refine below_set ?_ GE449.out | refine below_set ?_ GE450.out) | exact HB.out))) hk_)), (Kd.fresh' (Kd.N_lt (by (with_reducible repeat (first | apply Kd.N_alloc | apply Kd.N_drewN | apply Kd.N_drew)); exact HO454.out)) k_ hk_), (Kd.freshB (g := gb449) (o := .cells #[.slice A0_0 l0_0.length c0_0] 24 (0, 0)) (by (with_reducible repeat (first | refine blk_drewN ?_ _ | refine blk_drew ?_ | refine blk_alloc ?_ _)); exact BK449.out) k_ hk_), (Kd.freshB (g := gb450) (o := .cells #[.slice A1_0 l1_0.length c1_0] 24 (0, 0)) (by (with_reducible repeat (first | refine blk_drewN ?_ _ | refine blk_drew ?_ | refine blk_alloc ?_ _)); exact BK450.out) k_ hk_)⟩)) (below_size (by repeat (first | (with_reducible first | exact HB.out | apply below_alloc | apply pw_below_drewN | apply below_drew1 | refine below_set ?_ GE449.out | refine below_set ?_ GE450.out) | exact HB.out)))); have n4_ := Aside0.mk (blk_below (g := gb449) (o := .cells #[.slice A0_0 l0_0.length c0_0] 24 (0, 0)) (by (with_reducible repeat (first | refine blk_drewN ?_ _ | refine blk_drew ?_ | refine blk_alloc ?_ _)); exact BK449.out) hb); have n5_ := Aside0.mk (blk_below (g := gb450) (o := .cells #[.slice A1_0 l1_0.length c1_0] 24 (0, 0)) (by (with_reducible repeat (first | refine blk_drewN ?_ _ | refine blk_drew ?_ | refine blk_alloc ?_ _)); exact BK450.out) hb); have n6_ := Aside0.mk (below_step (by repeat (first | (with_reducible first | exact HB.out | apply below_alloc | apply pw_below_drewN | apply below_drew1 | refine below_set ?_ GE449.out | refine below_set ?_ GE450.out) | exact HB.out)) hb); clear HO0_0; clear HO1_0; clear HO454; clear BK449; clear BK450; clear HB; have HO0_0 := n0_; have HO1_0 := n1_; have HO454 := n2_; have HO459 := n3_; have BK449 := n4_; have BK450 := n5_; have HB := n6_; clear n0_ n1_ n2_ n3_ n4_ n5_ n6_; (try clear hb); (try clear hb2); (try clear hk); (try clear hi); (try clear ho0)) | ((with_reducible refine gate_dst (N := 7) rfl ?_); (try (refine gate_guard (by rfl) ?_; dsimp only)); refine box_event ?hg (N := 7) ?hd (cs := #[.slice none 0 0]) (t := 24) ?hr ?_; (case hd => rfl); (case hg => rfl); (case hr => first | (go_simp; done) | (go_simp; rfl)); intro gb461 hg w31 hbox hb; have n0_ := Aside0.mk (Kd.V_below (Kd.V_elderB (by (with_reducible repeat (first | apply Kd.V_alloc | apply Kd.V_drewN | apply Kd.V_drew)); exact HO0_0.out) gb461 (Nat.le_of_eq hg.symm)) hb); have n1_ := Aside0.mk (Kd.V_below (Kd.V_elderB (by (with_reducible repeat (first | apply Kd.V_alloc | apply Kd.V_drewN | apply Kd.V_drew)); exact HO1_0.out) gb461 (Nat.le_of_eq hg.symm)) hb); have n2_ := Aside0.mk (Kd.N_below (Kd.N_elderB (by (with_reducible repeat (first | apply Kd.N_alloc | apply Kd.N_drewN | apply Kd.N_drew)); exact HO454.out) gb461 (Nat.le_of_eq hg.symm)) hb); have n3_ := Aside0.mk (Kd.V_below (Kd.V_elderB (by (with_reducible repeat (first | apply Kd.V_alloc | apply Kd.V_drewN | apply Kd.V_drew)); exact HO459.out) gb461 (Nat.le_of_eq hg.symm)) hb); have n4_ := Aside0.mk (blk_below (g := gb449) (o := .cells #[.slice A0_0 l0_0.length c0_0] 24 (0, 0)) (by (with_reducible repeat (first | refine blk_drewN ?_ _ | refine blk_drew ?_ | refine blk_alloc ?_ _)); exact BK449.out) hb); have n5_ := Aside0.mk (blk_below (g := gb450) (o := .cells #[.slice A1_0 l1_0.length c1_0] 24 (0, 0)) (by (with_reducible repeat (first | refine blk_drewN ?_ _ | refine blk_drew ?_ | refine blk_alloc ?_ _)); exact BK450.out) hb); have n6_ := Aside0.mk (below_step (by repeat (first | (with_reducible first | exact HB.out | apply below_alloc | apply pw_below_drewN | apply below_drew1 | refine below_set ?_ GE449.out | refine below_set ?_ GE450.out) | exact HB.out)) hb); have n7_ := Aside0.mk (hbox); have n8_ := Aside0.mk ((by rw [hg]; exact (below_size (by repeat (first | (with_reducible first | exact HB.out | apply below_alloc | apply pw_below_drewN | apply below_drew1 | refine below_set ?_ GE449.out | refine below_set ?_ GE450.out) | exact HB.out))) : w.heap.size ≤ gb461)); have n9_ := Aside0.mk ((by rw [hg]; exact (below_size (by repeat (first | (with_reducible first | exact HB.out | apply below_alloc | apply pw_below_drewN | apply below_drew1 | refine below_set ?_ GE449.out | refine below_set ?_ GE450.out) | exact HB.out))) : w.heap.size ≤ gb461)); have n10_ := Aside0.mk ((by rw [hg]; exact Nat.ne_of_lt (blk_lt (g := gb449) (o := .cells #[.slice A0_0 l0_0.length c0_0] 24 (0, 0)) (by (with_reducible repeat (first | refine blk_drewN ?_ _ | refine blk_drew ?_ | refine blk_alloc ?_ _)); exact BK449.out)) : gb449 ≠ gb461)); have n11_ := Aside0.mk ((by rw [hg]; exact Nat.ne_of_gt (blk_lt (g := gb449) (o := .cells #[.slice A0_0 l0_0.length c0_0] 24 (0, 0)) (by (with_reducible repeat (first | refine blk_drewN ?_ _ | refine blk_drew ?_ | refine blk_alloc ?_ _)); exact BK449.out)) : gb461 ≠ gb449)); have n12_ := Aside0.mk ((by rw [hg]; exact Nat.ne_of_lt (blk_lt (g := gb450) (o := .cells #[.slice A1_0 l1_0.length c1_0] 24 (0, 0)) (by (with_reducible repeat (first | refine blk_drewN ?_ _ | refine blk_drew ?_ | refine blk_alloc ?_ _)); exact BK450.out)) : gb450 ≠ gb461)); have n13_ := Aside0.mk ((by rw [hg]; exact Nat.ne_of_gt (blk_lt (g := gb450) (o := .cells #[.slice A1_0 l1_0.length c1_0] 24 (0, 0)) (by (with_reducible repeat (first | refine blk_drewN ?_ _ | refine blk_drew ?_ | refine blk_alloc ?_ _)); exact BK450.out)) : gb461 ≠ gb450)); clear HO0_0; clear HO1_0; clear HO454; clear HO459; clear BK449; clear BK450; clear HB; have HO0_0 := n0_; have HO1_0 := n1_; have HO454 := n2_; have HO459 := n3_; have BK449 := n4_; have BK450 := n5_; have HB := n6_; have BK461 := n7_; have GW461 := n8_; have GE461 := n9_; have NB449_461 := n10_; have NB461_449 := n11_; have NB450_461 := n12_; have NB461_450 := n13_; clear n0_ n1_ n2_ n3_ n4_ n5_ n6_ n7_ n8_ n9_ n10_ n11_ n12_ n13_; clear hb hbox hg; obtain ⟨Ao32, co32, eo32⟩ := Kd.V_slice HO459.out; subst eo32; have hnb33 := NB461_449.out; have hnc33 := NB449_461.out; have hnb34 := NB461_450.out; have hnc34 := NB450_461.out; have hcz35_0 : w31.cell? ⟨gb461, 0, none⟩ = some (.slice none 0 0) := (blk_cell BK461.out 0).trans rfl; have hfz35_0 := blk_frozen BK461.out 0) | ((with_reducible refine gate_callee (f := 23) rfl ?_); refine goesL_ (some 28) rfl rfl Tryd.func23 (by kernel_rfl) rfl #[.int .i64 a2] rfl (by (try simp only [List.map_toArray, List.map_cons, List.map_nil]); first | done | rfl | (simp only [List.length_drop, List.length_take]; rfl)) ?_; (with_reducible refine (ancepsref02_Of.calls k a2 t462 t465 _ A9.out).mono ?_); rintro e w36 ⟨v463, rfl, ho0, hb⟩; refine ⟨_, rfl, ?_⟩; have n0_ := Aside0.mk (Kd.V_elder' (by (with_reducible repeat (first | apply Kd.V_alloc | apply Kd.V_drewN | apply Kd.V_drew)); exact (Kd.V_mono (Kd.V_far (p := ⟨gb461, 0, none⟩) (Kd.V_mono HO0_0.out (fun k_ hk => (⟨hk, hk.2⟩ : _ ∧ k_ ≠ gb461))) (fun _ hk => by first | exact hk.2 | grind) (.slice Ao32 t457.length co32)) (fun _ h_ => by first | exact h_.1 | grind))) (Kd.R_base ho0) hb); have n1_ := Aside0.mk (Kd.V_elder' (by (with_reducible repeat (first | apply Kd.V_alloc | apply Kd.V_drewN | apply Kd.V_drew)); exact (Kd.V_mono (Kd.V_far (p := ⟨gb461, 0, none⟩) (Kd.V_mono HO1_0.out (fun k_ hk => (⟨hk, hk.2⟩ : _ ∧ k_ ≠ gb461))) (fun _ hk => by first | exact hk.2 | grind) (.slice Ao32 t457.length co32)) (fun _ h_ => by first | exact h_.1 | grind))) (Kd.R_base ho0) hb); have n2_ := Aside0.mk (Kd.N_elder' (by (with_reducible repeat (first | apply Kd.N_alloc | apply Kd.N_drewN | apply Kd.N_drew)); exact (Kd.N_mono (Kd.N_far (p := ⟨gb461, 0, none⟩) (Kd.N_mono HO454.out (fun k_ hk => (⟨hk, hk.2⟩ : _ ∧ k_ ≠ gb461))) (fun _ hk => by first | exact hk.2 | grind) (.slice Ao32 t457.length co32)) (fun _ h_ => by first | exact h_.1 | grind))) (Kd.R_base ho0) hb); have n3_ := Aside0.mk (Kd.V_elder' (by (with_reducible repeat (first | apply Kd.V_alloc | apply Kd.V_drewN | apply Kd.V_drew)); exact (Kd.V_mono (Kd.V_far (p := ⟨gb461, 0, none⟩) (Kd.V_mono HO459.out (fun k_ hk => (⟨hk, hk.2⟩ : _ ∧ k_ ≠ gb461))) (fun _ hk => by first | exact hk.2 | grind) (.slice Ao32 t457.length co32)) (fun _ h_ => by first | exact h_.1 | grind))) (Kd.R_base ho0) hb); have n4_ := Aside0.mk (Kd.R_lower (Kd.R_newM (M := fun k_ => (w.heap.size ≤ k_)) ho0 (below_size (by repeat (first | (with_reducible first | exact HB.out | apply below_alloc | apply pw_below_drewN | apply below_drew1 | refine below_set ?_ GE449.out | refine below_set ?_ GE450.out | refine below_set ?_ GE461.out) | exact HB.out))) (fun k_ h_ => h_)) (below_size (by repeat (first | (with_reducible first | exact HB.out | apply below_alloc | apply pw_below_drewN | apply below_drew1 | refine below_set ?_ GE449.out | refine below_set ?_ GE450.out | refine below_set ?_ GE461.out) | exact HB.out)))); have n5_ := Aside0.mk (blk_below (g := gb449) (o := .cells #[.slice A0_0 l0_0.length c0_0] 24 (0, 0)) (by (with_reducible repeat (first | refine blk_drewN ?_ _ | refine blk_drew ?_ | refine blk_alloc ?_ _)); refine blk_far ?_ NB449_461.out _; (with_reducible repeat (first | refine blk_drewN ?_ _ | refine blk_drew ?_ | refine blk_alloc ?_ _)); exact BK449.out) hb); have n6_ := Aside0.mk (blk_below (g := gb450) (o := .cells #[.slice A1_0 l1_0.length c1_0] 24 (0, 0)) (by (with_reducible repeat (first | refine blk_drewN ?_ _ | refine blk_drew ?_ | refine blk_alloc ?_ _)); refine blk_far ?_ NB450_461.out _; (with_reducible repeat (first | refine blk_drewN ?_ _ | refine blk_drew ?_ | refine blk_alloc ?_ _)); exact BK450.out) hb); have n7_ := Aside0.mk (blk_below (g := gb461) (o := .cells #[.slice Ao32 t457.length co32] 24 (0, 0)) (by (with_reducible repeat (first | refine blk_drewN ?_ _ | refine blk_drew ?_ | refine blk_alloc ?_ _)); refine blk_put (cs := #[.slice none 0 0]) ?_ 0 _ rfl; (with_reducible repeat (first | refine blk_drewN ?_ _ | refine blk_drew ?_ | refine blk_alloc ?_ _)); exact BK461.out) hb); have n8_ := Aside0.mk (below_step (by repeat (first | (with_reducible first | exact HB.out | apply below_alloc | apply pw_below_drewN | apply below_drew1 | refine below_set ?_ GE449.out | refine below_set ?_ GE450.out | refine below_set ?_ GE461.out) | exact HB.out)) hb); clear HO0_0; clear HO1_0; clear HO454; clear HO459; clear BK449; clear BK450; clear BK461; clear HB; have HO0_0 := n0_; have HO1_0 := n1_; have HO454 := n2_; have HO459 := n3_; have HO464 := n4_; have BK449 := n5_; have BK450 := n6_; have BK461 := n7_; have HB := n8_; clear n0_ n1_ n2_ n3_ n4_ n5_ n6_ n7_ n8_; (try clear hb); (try clear hb2); (try clear hk); (try clear hi); (try clear ho0)) | ((with_reducible refine gate_dst (N := 9) rfl ?_); (try (refine gate_guard (by rfl) ?_; dsimp only)); refine box_event ?hg (N := 9) ?hd (cs := #[.slice none 0 0]) (t := 24) ?hr ?_; (case hd => rfl); (case hg => rfl); (case hr => first | (go_simp; done) | (go_simp; rfl)); intro gb466 hg w37 hbox hb; have n0_ := Aside0.mk (Kd.V_below (Kd.V_elderB (by (with_reducible repeat (first | apply Kd.V_alloc | apply Kd.V_drewN | apply Kd.V_drew)); exact HO0_0.out) gb466 (Nat.le_of_eq hg.symm)) hb); have n1_ := Aside0.mk (Kd.V_below (Kd.V_elderB (by (with_reducible repeat (first | apply Kd.V_alloc | apply Kd.V_drewN | apply Kd.V_drew)); exact HO1_0.out) gb466 (Nat.le_of_eq hg.symm)) hb); have n2_ := Aside0.mk (Kd.N_below (Kd.N_elderB (by (with_reducible repeat (first | apply Kd.N_alloc | apply Kd.N_drewN | apply Kd.N_drew)); exact HO454.out) gb466 (Nat.le_of_eq hg.symm)) hb); have n3_ := Aside0.mk (Kd.V_below (Kd.V_elderB (by (with_reducible repeat (first | apply Kd.V_alloc | apply Kd.V_drewN | apply Kd.V_drew)); exact HO459.out) gb466 (Nat.le_of_eq hg.symm)) hb); have n4_ := Aside0.mk (Kd.R_below (by (with_reducible repeat (first | apply Kd.R_alloc | apply Kd.R_drewN | apply Kd.R_drew)); exact HO464.out) hb); have n5_ := Aside0.mk (blk_below (g := gb449) (o := .cells #[.slice A0_0 l0_0.length c0_0] 24 (0, 0)) (by (with_reducible repeat (first | refine blk_drewN ?_ _ | refine blk_drew ?_ | refine blk_alloc ?_ _)); exact BK449.out) hb); have n6_ := Aside0.mk (blk_below (g := gb450) (o := .cells #[.slice A1_0 l1_0.length c1_0] 24 (0, 0)) (by (with_reducible repeat (first | refine blk_drewN ?_ _ | refine blk_drew ?_ | refine blk_alloc ?_ _)); exact BK450.out) hb); have n7_ := Aside0.mk (blk_below (g := gb461) (o := .cells #[.slice Ao32 t457.length co32] 24 (0, 0)) (by (with_reducible repeat (first | refine blk_drewN ?_ _ | refine blk_drew ?_ | refine blk_alloc ?_ _)); exact BK461.out) hb); have n8_ := Aside0.mk (below_step (by repeat (first | (with_reducible first | exact HB.out | apply below_alloc | apply pw_below_drewN | apply below_drew1 | refine below_set ?_ GE449.out | refine below_set ?_ GE450.out | refine below_set ?_ GE461.out) | exact HB.out)) hb); have n9_ := Aside0.mk (hbox); have n10_ := Aside0.mk ((by rw [hg]; exact (below_size (by repeat (first | (with_reducible first | exact HB.out | apply below_alloc | apply pw_below_drewN | apply below_drew1 | refine below_set ?_ GE449.out | refine below_set ?_ GE450.out | refine below_set ?_ GE461.out) | exact HB.out))) : w.heap.size ≤ gb466)); have n11_ := Aside0.mk ((by rw [hg]; exact (below_size (by repeat (first | (with_reducible first | exact HB.out | apply below_alloc | apply pw_below_drewN | apply below_drew1 | refine below_set ?_ GE449.out | refine below_set ?_ GE450.out | refine below_set ?_ GE461.out) | exact HB.out))) : w.heap.size ≤ gb466)); have n12_ := Aside0.mk ((by rw [hg]; exact Nat.ne_of_lt (blk_lt (g := gb449) (o := .cells #[.slice A0_0 l0_0.length c0_0] 24 (0, 0)) (by (with_reducible repeat (first | refine blk_drewN ?_ _ | refine blk_drew ?_ | refine blk_alloc ?_ _)); exact BK449.out)) : gb449 ≠ gb466)); have n13_ := Aside0.mk ((by rw [hg]; exact Nat.ne_of_gt (blk_lt (g := gb449) (o := .cells #[.slice A0_0 l0_0.length c0_0] 24 (0, 0)) (by (with_reducible repeat (first | refine blk_drewN ?_ _ | refine blk_drew ?_ | refine blk_alloc ?_ _)); exact BK449.out)) : gb466 ≠ gb449)); have n14_ := Aside0.mk ((by rw [hg]; exact Nat.ne_of_lt (blk_lt (g := gb450) (o := .cells #[.slice A1_0 l1_0.length c1_0] 24 (0, 0)) (by (with_reducible repeat (first | refine blk_drewN ?_ _ | refine blk_drew ?_ | refine blk_alloc ?_ _)); exact BK450.out)) : gb450 ≠ gb466)); have n15_ := Aside0.mk ((by rw [hg]; exact Nat.ne_of_gt (blk_lt (g := gb450) (o := .cells #[.slice A1_0 l1_0.length c1_0] 24 (0, 0)) (by (with_reducible repeat (first | refine blk_drewN ?_ _ | refine blk_drew ?_ | refine blk_alloc ?_ _)); exact BK450.out)) : gb466 ≠ gb450)); have n16_ := Aside0.mk ((by rw [hg]; exact Nat.ne_of_lt (blk_lt (g := gb461) (o := .cells #[.slice Ao32 t457.length co32] 24 (0, 0)) (by (with_reducible repeat (first | refine blk_drewN ?_ _ | refine blk_drew ?_ | refine blk_alloc ?_ _)); exact BK461.out)) : gb461 ≠ gb466)); have n17_ := Aside0.mk ((by rw [hg]; exact Nat.ne_of_gt (blk_lt (g := gb461) (o := .cells #[.slice Ao32 t457.length co32] 24 (0, 0)) (by (with_reducible repeat (first | refine blk_drewN ?_ _ | refine blk_drew ?_ | refine blk_alloc ?_ _)); exact BK461.out)) : gb466 ≠ gb461)); clear HO0_0; clear HO1_0; clear HO454; clear HO459; clear HO464; clear BK449; clear BK450; clear BK461; clear HB; have HO0_0 := n0_; have HO1_0 := n1_; have HO454 := n2_; have HO459 := n3_; have HO464 := n4_; have BK449 := n5_; have BK450 := n6_; have BK461 := n7_; have HB := n8_; have BK466 := n9_; have GW466 := n10_; have GE466 := n11_; have NB449_466 := n12_; have NB466_449 := n13_; have NB450_466 := n14_; have NB466_450 := n15_; have NB461_466 := n16_; have NB466_461 := n17_; clear n0_ n1_ n2_ n3_ n4_ n5_ n6_ n7_ n8_ n9_ n10_ n11_ n12_ n13_ n14_ n15_ n16_ n17_; clear hb hbox hg; obtain ⟨Ao38, co38, eo38⟩ := Kd.R_slice HO464.out; subst eo38; have hnb39 := NB466_449.out; have hnc39 := NB449_466.out; have hnb40 := NB466_450.out; have hnc40 := NB450_466.out; have hnb41 := NB466_461.out; have hnc41 := NB461_466.out; have hcz42_0 : w37.cell? ⟨gb466, 0, none⟩ = some (.slice none 0 0) := (blk_cell BK466.out 0).trans rfl; have hfz42_0 := blk_frozen BK466.out 0))
              have n0_ : Aside0 (Kd.V (Kd.int .i64) 3 (w37.setCell ⟨gb466, 0, none⟩ (.slice Ao38 t462.length co38)) w.heap.size (fun k_ => ((P0_0_ k_ ∨ P1_0_ k_) ∨ w.heap.size ≤ k_) ∧ some k_ ≠ (.slice Ao29 y452.length co29 : Value).ownBlock ∧ some k_ ≠ (.slice Ao38 t462.length co38 : Value).ownBlock ∧ k_ ≠ gb449 ∧ k_ ≠ gb450 ∧ k_ ≠ gb461 ∧ k_ ≠ gb466) (.slice A0_0 l0_0.length c0_0) l0_0) := ⟨by (with_reducible repeat (first | apply Kd.V_alloc | apply Kd.V_drewN | apply Kd.V_drew)); exact Kd.V_mono (Kd.V_far (p := ⟨gb466, 0, none⟩) (Kd.V_mono HO0_0.out (fun k_ hk => (⟨hk, hk.2⟩ : _ ∧ k_ ≠ gb466))) (fun _ hk => by first | exact hk.2 | grind) (.slice Ao38 t462.length co38)) (fun _ hk => by first | exact ⟨hk.1.1.1.1.1.1.1, ⟨hk.1.1.1.1.2, ⟨hk.1.1.2, ⟨hk.1.1.1.1.1.1.2, ⟨hk.1.1.1.1.1.2, ⟨hk.1.1.1.2, hk.1.2⟩⟩⟩⟩⟩⟩ | grind)⟩
              have n1_ : Aside0 (Kd.V (Kd.int .i64) 3 (w37.setCell ⟨gb466, 0, none⟩ (.slice Ao38 t462.length co38)) w.heap.size (fun k_ => ((P0_0_ k_ ∨ P1_0_ k_) ∨ w.heap.size ≤ k_) ∧ some k_ ≠ (.slice Ao29 y452.length co29 : Value).ownBlock ∧ some k_ ≠ (.slice Ao38 t462.length co38 : Value).ownBlock ∧ k_ ≠ gb449 ∧ k_ ≠ gb450 ∧ k_ ≠ gb461 ∧ k_ ≠ gb466) (.slice A1_0 l1_0.length c1_0) l1_0) := ⟨by (with_reducible repeat (first | apply Kd.V_alloc | apply Kd.V_drewN | apply Kd.V_drew)); exact Kd.V_mono (Kd.V_far (p := ⟨gb466, 0, none⟩) (Kd.V_mono HO1_0.out (fun k_ hk => (⟨hk, hk.2⟩ : _ ∧ k_ ≠ gb466))) (fun _ hk => by first | exact hk.2 | grind) (.slice Ao38 t462.length co38)) (fun _ hk => by first | exact ⟨hk.1.1.1.1.1.1.1, ⟨hk.1.1.1.1.2, ⟨hk.1.1.2, ⟨hk.1.1.1.1.1.1.2, ⟨hk.1.1.1.1.1.2, ⟨hk.1.1.1.2, hk.1.2⟩⟩⟩⟩⟩⟩ | grind)⟩
              have n2_ : Aside0 (Kd.N k24 24 (w37.setCell ⟨gb466, 0, none⟩ (.slice Ao38 t462.length co38)) w.heap.size (fun k_ => ((P0_0_ k_ ∨ P1_0_ k_) ∨ w.heap.size ≤ k_) ∧ some k_ ≠ (.slice Ao38 t462.length co38 : Value).ownBlock ∧ k_ ≠ gb449 ∧ k_ ≠ gb450 ∧ k_ ≠ gb461 ∧ k_ ≠ gb466) (.slice Ao29 y452.length co29) y452) := ⟨by (with_reducible repeat (first | apply Kd.N_alloc | apply Kd.N_drewN | apply Kd.N_drew)); exact Kd.N_mono (Kd.N_far (p := ⟨gb466, 0, none⟩) (Kd.N_mono HO454.out (fun k_ hk => (⟨hk, hk.2⟩ : _ ∧ k_ ≠ gb466))) (fun _ hk => by first | exact hk.2 | grind) (.slice Ao38 t462.length co38)) (fun _ hk => by first | exact ⟨hk.1.1.1.1.1, ⟨hk.1.1.2, ⟨hk.1.1.1.1.2.1, ⟨hk.1.1.1.1.2.2, ⟨hk.1.1.1.2, hk.1.2⟩⟩⟩⟩⟩ | grind)⟩
              have n3_ : Aside0 (Kd.V (Kd.int .i64) 3 (w37.setCell ⟨gb466, 0, none⟩ (.slice Ao38 t462.length co38)) w.heap.size (fun k_ => ((P0_0_ k_ ∨ P1_0_ k_) ∨ w.heap.size ≤ k_) ∧ some k_ ≠ (.slice Ao29 y452.length co29 : Value).ownBlock ∧ some k_ ≠ (.slice Ao38 t462.length co38 : Value).ownBlock ∧ k_ ≠ gb449 ∧ k_ ≠ gb450 ∧ k_ ≠ gb461 ∧ k_ ≠ gb466) (.slice Ao32 t457.length co32) t457) := ⟨by (with_reducible repeat (first | apply Kd.V_alloc | apply Kd.V_drewN | apply Kd.V_drew)); exact Kd.V_mono (Kd.V_far (p := ⟨gb466, 0, none⟩) (Kd.V_mono HO459.out (fun k_ hk => (⟨hk, hk.2⟩ : _ ∧ k_ ≠ gb466))) (fun _ hk => by first | exact hk.2 | grind) (.slice Ao38 t462.length co38)) (fun _ hk => by first | exact ⟨hk.1.1.1.1.1, ⟨hk.1.1.1.1.2.1, ⟨hk.1.1.2, ⟨hk.1.1.1.1.2.2.1, ⟨hk.1.1.1.1.2.2.2, ⟨hk.1.1.1.2, hk.1.2⟩⟩⟩⟩⟩⟩ | grind)⟩
              have n4_ : Aside0 (Kd.R (Kd.int .i64) 3 (w37.setCell ⟨gb466, 0, none⟩ (.slice Ao38 t462.length co38)) w.heap.size (fun k_ => (w.heap.size ≤ k_)) (.slice Ao38 t462.length co38) t462) := ⟨by (with_reducible repeat (first | apply Kd.R_alloc | apply Kd.R_drewN | apply Kd.R_drew)); exact Kd.R_mono (Kd.R_far (p := ⟨gb466, 0, none⟩) (Kd.R_types HO464.out BK466.out (by decide)) (fun _ hk => by first | exact hk.2 | grind) (.slice Ao38 t462.length co38)) (fun _ hk => by first | exact hk.1.1 | grind)⟩
              have n5_ : Aside0 ((w37.setCell ⟨gb466, 0, none⟩ (.slice Ao38 t462.length co38)).heap[gb449]? = some (.cells #[.slice A0_0 l0_0.length c0_0] 24 (0, 0))) := ⟨by (with_reducible repeat (first | refine blk_drewN ?_ _ | refine blk_drew ?_ | refine blk_alloc ?_ _)); refine blk_far ?_ NB449_466.out _; (with_reducible repeat (first | refine blk_drewN ?_ _ | refine blk_drew ?_ | refine blk_alloc ?_ _)); exact BK449.out⟩
              have n6_ : Aside0 ((w37.setCell ⟨gb466, 0, none⟩ (.slice Ao38 t462.length co38)).heap[gb450]? = some (.cells #[.slice A1_0 l1_0.length c1_0] 24 (0, 0))) := ⟨by (with_reducible repeat (first | refine blk_drewN ?_ _ | refine blk_drew ?_ | refine blk_alloc ?_ _)); refine blk_far ?_ NB450_466.out _; (with_reducible repeat (first | refine blk_drewN ?_ _ | refine blk_drew ?_ | refine blk_alloc ?_ _)); exact BK450.out⟩
              have n7_ : Aside0 ((w37.setCell ⟨gb466, 0, none⟩ (.slice Ao38 t462.length co38)).heap[gb461]? = some (.cells #[.slice Ao32 t457.length co32] 24 (0, 0))) := ⟨by (with_reducible repeat (first | refine blk_drewN ?_ _ | refine blk_drew ?_ | refine blk_alloc ?_ _)); refine blk_far ?_ NB461_466.out _; (with_reducible repeat (first | refine blk_drewN ?_ _ | refine blk_drew ?_ | refine blk_alloc ?_ _)); exact BK461.out⟩
              have n8_ : Aside0 ((w37.setCell ⟨gb466, 0, none⟩ (.slice Ao38 t462.length co38)).heap[gb466]? = some (.cells #[.slice Ao38 t462.length co38] 24 (0, 0))) := ⟨by (with_reducible repeat (first | refine blk_drewN ?_ _ | refine blk_drew ?_ | refine blk_alloc ?_ _)); refine blk_put (cs := #[.slice none 0 0]) ?_ 0 _ rfl; (with_reducible repeat (first | refine blk_drewN ?_ _ | refine blk_drew ?_ | refine blk_alloc ?_ _)); exact BK466.out⟩
              have n9_ : Aside0 (Below w.heap.size w (w37.setCell ⟨gb466, 0, none⟩ (.slice Ao38 t462.length co38))) := ⟨by repeat (first | (with_reducible first | exact HB.out | apply below_alloc | apply pw_below_drewN | apply below_drew1 | refine below_set ?_ GE449.out | refine below_set ?_ GE450.out | refine below_set ?_ GE461.out | refine below_set ?_ GE466.out) | exact HB.out)⟩
              (try clear HO0_0)
              (try clear HO1_0)
              (try clear HO454)
              (try clear HO459)
              (try clear HO464)
              (try clear BK449)
              (try clear BK450)
              (try clear BK461)
              (try clear BK466)
              (try clear HB)
              generalize (w37.setCell ⟨gb466, 0, none⟩ (.slice Ao38 t462.length co38)) = w43 at n0_ n1_ n2_ n3_ n4_ n5_ n6_ n7_ n8_ n9_ ⊢
              have HO0_0 := n0_
              have HO1_0 := n1_
              have HO454 := n2_
              have HO459 := n3_
              have HO464 := n4_
              have BK449 := n5_
              have BK450 := n6_
              have BK461 := n7_
              have BK466 := n8_
              have HB := n9_
              clear n0_ n1_ n2_ n3_ n4_ n5_ n6_ n7_ n8_ n9_
              have n0_ := Aside0.mk (Kd.V_drew HO0_0.out)
              have n1_ := Aside0.mk (Kd.V_drew HO1_0.out)
              have n2_ := Aside0.mk (Kd.N_drew HO454.out)
              have n3_ := Aside0.mk (Kd.V_drew HO459.out)
              have n4_ := Aside0.mk (Kd.R_drew HO464.out)
              have n5_ := Aside0.mk (blk_drew BK449.out)
              have n6_ := Aside0.mk (blk_drew BK450.out)
              have n7_ := Aside0.mk (blk_drew BK461.out)
              have n8_ := Aside0.mk (blk_drew BK466.out)
              have n9_ := Aside0.mk (below_drew1 HB.out)
              clear HO0_0
              clear HO1_0
              clear HO454
              clear HO459
              clear HO464
              clear BK449
              clear BK450
              clear BK461
              clear BK466
              clear HB
              have HO0_0 := n0_
              have HO1_0 := n1_
              have HO454 := n2_
              have HO459 := n3_
              have HO464 := n4_
              have BK449 := n5_
              have BK450 := n6_
              have BK461 := n7_
              have BK466 := n8_
              have HB := n9_
              clear n0_ n1_ n2_ n3_ n4_ n5_ n6_ n7_ n8_ n9_
              refine start_ (n := 35) (S := fun w' => w'.cell? ⟨gb449, 0, none⟩ = some (.slice A0_0 l0_0.length c0_0) ∧ w'.cell? ⟨gb450, 0, none⟩ = some (.slice A1_0 l1_0.length c1_0) ∧ w'.cell? ⟨gb461, 0, none⟩ = some (.slice Ao32 t457.length co32) ∧ w'.cell? ⟨gb466, 0, none⟩ = some (.slice Ao38 t462.length co38)) (ds := []) #[false, false, false, false, false, false, false, false, false, false, false, false, false, false, false, false, false, false, false, false, false, false, false, false, false, false, false, false, false, false, false, false, false, false, false] (by kernel_rfl) rfl rfl ⟨(blk_cell BK449.out 0).trans rfl, (blk_cell BK450.out 0).trans rfl, (blk_cell BK461.out 0).trans rfl, (blk_cell BK466.out 0).trans rfl⟩ (fun hHeld => ?_); refine with_tabW ancepslaw02_NaturalValid.tab5 ancepslaw02_NaturalValid.bits5 (fun HT_ HW_ => ?_)
              generalize w43.drew = w44 at HO0_0 HO1_0 HO454 HO459 HO464 BK449 BK450 BK461 BK466 HB hHeld ⊢
              refine take_ (i := 0) (N := some 31) (v := ?_) (a' := ?_) #[true, false, false, false, false, false, false, false, false, false, false, false, false, false, false, false, false, false, false, false, false, false, false, false, false, false, false, false, false, false, false, false, false, false, false] rfl rfl (take_ofW HT_.out HW_.out (by kernel_rfl)) (fun _ _ _ h => h) (Or.inl ⟨by rfl, ?_⟩) hHeld ?_ ?_
              rotate_left
              · rintro w' ⟨s0, s1, s2, s3⟩
                go_simp
                with_reducible rfl
              rotate_left
              · simp only [Act.put, List.setIfInBounds_toArray, List.set_cons_zero, List.set_cons_succ, i64_w, i32_w]
                rfl
              refine take_ (i := 2) (N := some 33) (v := ?_) (a' := ?_) #[true, false, true, false, false, false, false, false, false, false, false, false, false, false, false, false, false, false, false, false, false, false, false, false, false, false, false, false, false, false, false, false, false, false, false] rfl rfl (take_ofW HT_.out HW_.out (by kernel_rfl)) (fun _ _ _ h => h) (Or.inl ⟨by rfl, ?_⟩) hHeld ?_ ?_
              rotate_left
              · rintro w' ⟨s0, s1, s2, s3⟩
                go_simp
                with_reducible rfl
              rotate_left
              · simp only [Act.put, List.setIfInBounds_toArray, List.set_cons_zero, List.set_cons_succ, i64_w, i32_w]
                rfl
              refine one_ (i := 1) (N := some 32) #[true, true, true, false, false, false, false, false, false, false, false, false, false, false, false, false, false, false, false, false, false, false, false, false, false, false, false, false, false, false, false, false, false, false, false] rfl rfl (one_of HT_.out (by kernel_rfl)) (by decide) (fun K hK => ?_)
              refine goes_ Tryd.func24 (by kernel_rfl) rfl #[.agg #[.slice A0_0 l0_0.length c0_0]] (by rfl) rfl rfl (by (try simp only [List.map_toArray, List.map_cons, List.map_nil]); first | done | rfl | (simp only [List.length_drop, List.length_take]; rfl)) ?_
              with_reducible refine (natural_Valid.calls _ _ l0_0 t467 _ ?side1 ?side2 A10.out).mono ?_
              (case side1 => repeat (first | exact (Kd.V_reads' HO0_0.out).2.2 | (with_reducible refine Kd.C_alloc ?_ _) | (with_reducible refine Kd.C_drewN ?_ _) | (with_reducible refine Kd.C_drew ?_)))
              (case side2 => exact (Kd.V_reads' HO0_0.out).2.1)
              rintro e w45 ⟨rfl, hb⟩
              refine ⟨_, rfl, ?_⟩
              have n0_ := Aside0.mk (Kd.V_below (by (with_reducible repeat (first | apply Kd.V_alloc | apply Kd.V_drewN | apply Kd.V_drew)); exact HO0_0.out) hb)
              have n1_ := Aside0.mk (Kd.V_below (by (with_reducible repeat (first | apply Kd.V_alloc | apply Kd.V_drewN | apply Kd.V_drew)); exact HO1_0.out) hb)
              have n2_ := Aside0.mk (Kd.N_below (by (with_reducible repeat (first | apply Kd.N_alloc | apply Kd.N_drewN | apply Kd.N_drew)); exact HO454.out) hb)
              have n3_ := Aside0.mk (Kd.V_below (by (with_reducible repeat (first | apply Kd.V_alloc | apply Kd.V_drewN | apply Kd.V_drew)); exact HO459.out) hb)
              have n4_ := Aside0.mk (Kd.R_below (by (with_reducible repeat (first | apply Kd.R_alloc | apply Kd.R_drewN | apply Kd.R_drew)); exact HO464.out) hb)
              have n5_ := Aside0.mk (blk_below (g := gb449) (o := .cells #[.slice A0_0 l0_0.length c0_0] 24 (0, 0)) (by (with_reducible repeat (first | refine blk_drewN ?_ _ | refine blk_drew ?_ | refine blk_alloc ?_ _)); exact BK449.out) hb)
              have n6_ := Aside0.mk (blk_below (g := gb450) (o := .cells #[.slice A1_0 l1_0.length c1_0] 24 (0, 0)) (by (with_reducible repeat (first | refine blk_drewN ?_ _ | refine blk_drew ?_ | refine blk_alloc ?_ _)); exact BK450.out) hb)
              have n7_ := Aside0.mk (blk_below (g := gb461) (o := .cells #[.slice Ao32 t457.length co32] 24 (0, 0)) (by (with_reducible repeat (first | refine blk_drewN ?_ _ | refine blk_drew ?_ | refine blk_alloc ?_ _)); exact BK461.out) hb)
              have n8_ := Aside0.mk (blk_below (g := gb466) (o := .cells #[.slice Ao38 t462.length co38] 24 (0, 0)) (by (with_reducible repeat (first | refine blk_drewN ?_ _ | refine blk_drew ?_ | refine blk_alloc ?_ _)); exact BK466.out) hb)
              have n9_ := Aside0.mk (below_step (by repeat (first | (with_reducible first | exact HB.out | apply below_alloc | apply pw_below_drewN | apply below_drew1 | refine below_set ?_ GE449.out | refine below_set ?_ GE450.out | refine below_set ?_ GE461.out | refine below_set ?_ GE466.out) | exact HB.out)) hb)
              clear HO0_0
              clear HO1_0
              clear HO454
              clear HO459
              clear HO464
              clear BK449
              clear BK450
              clear BK461
              clear BK466
              clear HB
              have HO0_0 := n0_
              have HO1_0 := n1_
              have HO454 := n2_
              have HO459 := n3_
              have HO464 := n4_
              have BK449 := n5_
              have BK450 := n6_
              have BK461 := n7_
              have BK466 := n8_
              have HB := n9_
              clear n0_ n1_ n2_ n3_ n4_ n5_ n6_ n7_ n8_ n9_
              (try clear hb)
              (try clear hb2)
              (try clear hk)
              (try clear hi)
              refine hK.out _ _ ⟨(blk_cell BK449.out 0).trans rfl, (blk_cell BK450.out 0).trans rfl, (blk_cell BK461.out 0).trans rfl, (blk_cell BK466.out 0).trans rfl⟩ (fun hHeld => ?_)
              clear hK K
              refine norm_ (a' := ?_) ?_ ?_
              rotate_left
              · show Act.put _ (some 32) _ = _
                simp only [Act.put, List.setIfInBounds_toArray, List.set_cons_zero, List.set_cons_succ, i64_w, i32_w]
                rfl
              refine one_ (i := 3) (N := some 34) #[true, true, true, true, false, false, false, false, false, false, false, false, false, false, false, false, false, false, false, false, false, false, false, false, false, false, false, false, false, false, false, false, false, false, false] rfl rfl (one_of HT_.out (by kernel_rfl)) (by decide) (fun K hK => ?_)
              refine goes_ Tryd.func25 (by kernel_rfl) rfl #[.agg #[.slice A0_0 l0_0.length c0_0]] (by rfl) rfl rfl (by (try simp only [List.map_toArray, List.map_cons, List.map_nil]); first | done | rfl | (simp only [List.length_drop, List.length_take]; rfl)) ?_
              with_reducible refine (ancepsref02_Valid.calls k _ _ l0_0 t468 _ ?side1 ?side2 A11.out).mono ?_
              (case side1 => repeat (first | exact (Kd.V_reads' HO0_0.out).2.2 | (with_reducible refine Kd.C_alloc ?_ _) | (with_reducible refine Kd.C_drewN ?_ _) | (with_reducible refine Kd.C_drew ?_)))
              (case side2 => exact (Kd.V_reads' HO0_0.out).2.1)
              rintro e w46 ⟨rfl, hb⟩
              refine ⟨_, rfl, ?_⟩
              have n0_ := Aside0.mk (Kd.V_below (by (with_reducible repeat (first | apply Kd.V_alloc | apply Kd.V_drewN | apply Kd.V_drew)); exact HO0_0.out) hb)
              have n1_ := Aside0.mk (Kd.V_below (by (with_reducible repeat (first | apply Kd.V_alloc | apply Kd.V_drewN | apply Kd.V_drew)); exact HO1_0.out) hb)
              have n2_ := Aside0.mk (Kd.N_below (by (with_reducible repeat (first | apply Kd.N_alloc | apply Kd.N_drewN | apply Kd.N_drew)); exact HO454.out) hb)
              have n3_ := Aside0.mk (Kd.V_below (by (with_reducible repeat (first | apply Kd.V_alloc | apply Kd.V_drewN | apply Kd.V_drew)); exact HO459.out) hb)
              have n4_ := Aside0.mk (Kd.R_below (by (with_reducible repeat (first | apply Kd.R_alloc | apply Kd.R_drewN | apply Kd.R_drew)); exact HO464.out) hb)
              have n5_ := Aside0.mk (blk_below (g := gb449) (o := .cells #[.slice A0_0 l0_0.length c0_0] 24 (0, 0)) (by (with_reducible repeat (first | refine blk_drewN ?_ _ | refine blk_drew ?_ | refine blk_alloc ?_ _)); exact BK449.out) hb)
              have n6_ := Aside0.mk (blk_below (g := gb450) (o := .cells #[.slice A1_0 l1_0.length c1_0] 24 (0, 0)) (by (with_reducible repeat (first | refine blk_drewN ?_ _ | refine blk_drew ?_ | refine blk_alloc ?_ _)); exact BK450.out) hb)
              have n7_ := Aside0.mk (blk_below (g := gb461) (o := .cells #[.slice Ao32 t457.length co32] 24 (0, 0)) (by (with_reducible repeat (first | refine blk_drewN ?_ _ | refine blk_drew ?_ | refine blk_alloc ?_ _)); exact BK461.out) hb)
              have n8_ := Aside0.mk (blk_below (g := gb466) (o := .cells #[.slice Ao38 t462.length co38] 24 (0, 0)) (by (with_reducible repeat (first | refine blk_drewN ?_ _ | refine blk_drew ?_ | refine blk_alloc ?_ _)); exact BK466.out) hb)
              have n9_ := Aside0.mk (below_step (by repeat (first | (with_reducible first | exact HB.out | apply below_alloc | apply pw_below_drewN | apply below_drew1 | refine below_set ?_ GE449.out | refine below_set ?_ GE450.out | refine below_set ?_ GE461.out | refine below_set ?_ GE466.out) | exact HB.out)) hb)
              clear HO0_0
              clear HO1_0
              clear HO454
              clear HO459
              clear HO464
              clear BK449
              clear BK450
              clear BK461
              clear BK466
              clear HB
              have HO0_0 := n0_
              have HO1_0 := n1_
              have HO454 := n2_
              have HO459 := n3_
              have HO464 := n4_
              have BK449 := n5_
              have BK450 := n6_
              have BK461 := n7_
              have BK466 := n8_
              have HB := n9_
              clear n0_ n1_ n2_ n3_ n4_ n5_ n6_ n7_ n8_ n9_
              (try clear hb)
              (try clear hb2)
              (try clear hk)
              (try clear hi)
              refine hK.out _ _ ⟨(blk_cell BK449.out 0).trans rfl, (blk_cell BK450.out 0).trans rfl, (blk_cell BK461.out 0).trans rfl, (blk_cell BK466.out 0).trans rfl⟩ (fun hHeld => ?_)
              clear hK K
              refine norm_ (a' := ?_) ?_ ?_
              rotate_left
              · show Act.put _ (some 34) _ = _
                simp only [Act.put, List.setIfInBounds_toArray, List.set_cons_zero, List.set_cons_succ, i64_w, i32_w]
                rfl
              refine pure_ (i := 4) (N := some 35) (v := ?_) (a' := ?_) #[true, true, true, true, true, false, false, false, false, false, false, false, false, false, false, false, false, false, false, false, false, false, false, false, false, false, false, false, false, false, false, false, false, false, false] rfl rfl (any_of HT_.out (by kernel_rfl)) (fun _ _ _ h => h) (Or.inl ⟨by rfl, ?_⟩) ?_ ?_
              rotate_left
              · intro w'
                go_simp
                with_reducible rfl
              rotate_left
              · simp only [Act.put, List.setIfInBounds_toArray, List.set_cons_zero, List.set_cons_succ, i64_w, i32_w]
                rfl
              refine pure_ (i := 5) (N := some 36) (v := ?_) (a' := ?_) #[true, true, true, true, true, true, false, false, false, false, false, false, false, false, false, false, false, false, false, false, false, false, false, false, false, false, false, false, false, false, false, false, false, false, false] rfl rfl (any_of HT_.out (by kernel_rfl)) (fun _ _ _ h => h) (Or.inl ⟨by rfl, ?_⟩) ?_ ?_
              rotate_left
              · intro w'
                go_simp
                with_reducible rfl
              rotate_left
              · simp only [Act.put, List.setIfInBounds_toArray, List.set_cons_zero, List.set_cons_succ, i64_w, i32_w]
                rfl
              refine take_ (i := 6) (N := some 37) (v := ?_) (a' := ?_) #[true, true, true, true, true, true, true, false, false, false, false, false, false, false, false, false, false, false, false, false, false, false, false, false, false, false, false, false, false, false, false, false, false, false, false] rfl rfl (take_ofW HT_.out HW_.out (by kernel_rfl)) (fun _ _ _ h => h) (Or.inl ⟨by rfl, ?_⟩) hHeld ?_ ?_
              rotate_left
              · rintro w' ⟨s0, s1, s2, s3⟩
                go_simp
                with_reducible rfl
              rotate_left
              · simp only [Act.put, List.setIfInBounds_toArray, List.set_cons_zero, List.set_cons_succ, i64_w, i32_w]
                rfl
              refine take_ (i := 7) (N := some 38) (v := ?_) (a' := ?_) #[true, true, true, true, true, true, true, true, false, false, false, false, false, false, false, false, false, false, false, false, false, false, false, false, false, false, false, false, false, false, false, false, false, false, false] rfl rfl (take_ofW HT_.out HW_.out (by kernel_rfl)) (fun _ _ _ h => h) (Or.inl ⟨by rfl, ?_⟩) hHeld ?_ ?_
              rotate_left
              · rintro w' ⟨s0, s1, s2, s3⟩
                go_simp
                with_reducible rfl
              rotate_left
              · simp only [Act.put, List.setIfInBounds_toArray, List.set_cons_zero, List.set_cons_succ, i64_w, i32_w]
                rfl
              refine take_ (i := 9) (N := some 40) (v := ?_) (a' := ?_) #[true, true, true, true, true, true, true, true, false, true, false, false, false, false, false, false, false, false, false, false, false, false, false, false, false, false, false, false, false, false, false, false, false, false, false] rfl rfl (take_ofW HT_.out HW_.out (by kernel_rfl)) (fun _ _ _ h => h) (Or.inl ⟨by rfl, ?_⟩) hHeld ?_ ?_
              rotate_left
              · rintro w' ⟨s0, s1, s2, s3⟩
                go_simp
                with_reducible rfl
              rotate_left
              · simp only [Act.put, List.setIfInBounds_toArray, List.set_cons_zero, List.set_cons_succ, i64_w, i32_w]
                rfl
              refine take_ (i := 10) (N := some 41) (v := ?_) (a' := ?_) #[true, true, true, true, true, true, true, true, false, true, true, false, false, false, false, false, false, false, false, false, false, false, false, false, false, false, false, false, false, false, false, false, false, false, false] rfl rfl (take_ofW HT_.out HW_.out (by kernel_rfl)) (fun _ _ _ h => h) (Or.inl ⟨by rfl, ?_⟩) hHeld ?_ ?_
              rotate_left
              · rintro w' ⟨s0, s1, s2, s3⟩
                go_simp
                with_reducible rfl
              rotate_left
              · simp only [Act.put, List.setIfInBounds_toArray, List.set_cons_zero, List.set_cons_succ, i64_w, i32_w]
                rfl
              refine one_ (i := 8) (N := some 39) #[true, true, true, true, true, true, true, true, true, true, true, false, false, false, false, false, false, false, false, false, false, false, false, false, false, false, false, false, false, false, false, false, false, false, false] rfl rfl (one_of HT_.out (by kernel_rfl)) (by decide) (fun K hK => ?_)
              refine goes_ Tryd.func26 (by kernel_rfl) rfl #[.agg #[.slice A0_0 l0_0.length c0_0], .agg #[.slice A1_0 l1_0.length c1_0]] (by rfl) rfl rfl (by (try simp only [List.map_toArray, List.map_cons, List.map_nil]); first | done | rfl | (simp only [List.length_drop, List.length_take]; rfl)) ?_
              with_reducible refine (natural_Cmp.calls k _ _ l0_0 _ _ l1_0 t469 _ ?side1 ?side2 ?side3 ?side4 A13.out).mono ?_
              (case side1 => repeat (first | exact (Kd.V_reads' HO0_0.out).2.2 | (with_reducible refine Kd.C_alloc ?_ _) | (with_reducible refine Kd.C_drewN ?_ _) | (with_reducible refine Kd.C_drew ?_)))
              (case side2 => exact (Kd.V_reads' HO0_0.out).2.1)
              (case side3 => repeat (first | exact (Kd.V_reads' HO1_0.out).2.2 | (with_reducible refine Kd.C_alloc ?_ _) | (with_reducible refine Kd.C_drewN ?_ _) | (with_reducible refine Kd.C_drew ?_)))
              (case side4 => exact (Kd.V_reads' HO1_0.out).2.1)
              rintro e w47 ⟨rfl, hb⟩
              refine ⟨_, rfl, ?_⟩
              have n0_ := Aside0.mk (Kd.V_below (by (with_reducible repeat (first | apply Kd.V_alloc | apply Kd.V_drewN | apply Kd.V_drew)); exact HO0_0.out) hb)
              have n1_ := Aside0.mk (Kd.V_below (by (with_reducible repeat (first | apply Kd.V_alloc | apply Kd.V_drewN | apply Kd.V_drew)); exact HO1_0.out) hb)
              have n2_ := Aside0.mk (Kd.N_below (by (with_reducible repeat (first | apply Kd.N_alloc | apply Kd.N_drewN | apply Kd.N_drew)); exact HO454.out) hb)
              have n3_ := Aside0.mk (Kd.V_below (by (with_reducible repeat (first | apply Kd.V_alloc | apply Kd.V_drewN | apply Kd.V_drew)); exact HO459.out) hb)
              have n4_ := Aside0.mk (Kd.R_below (by (with_reducible repeat (first | apply Kd.R_alloc | apply Kd.R_drewN | apply Kd.R_drew)); exact HO464.out) hb)
              have n5_ := Aside0.mk (blk_below (g := gb449) (o := .cells #[.slice A0_0 l0_0.length c0_0] 24 (0, 0)) (by (with_reducible repeat (first | refine blk_drewN ?_ _ | refine blk_drew ?_ | refine blk_alloc ?_ _)); exact BK449.out) hb)
              have n6_ := Aside0.mk (blk_below (g := gb450) (o := .cells #[.slice A1_0 l1_0.length c1_0] 24 (0, 0)) (by (with_reducible repeat (first | refine blk_drewN ?_ _ | refine blk_drew ?_ | refine blk_alloc ?_ _)); exact BK450.out) hb)
              have n7_ := Aside0.mk (blk_below (g := gb461) (o := .cells #[.slice Ao32 t457.length co32] 24 (0, 0)) (by (with_reducible repeat (first | refine blk_drewN ?_ _ | refine blk_drew ?_ | refine blk_alloc ?_ _)); exact BK461.out) hb)
              have n8_ := Aside0.mk (blk_below (g := gb466) (o := .cells #[.slice Ao38 t462.length co38] 24 (0, 0)) (by (with_reducible repeat (first | refine blk_drewN ?_ _ | refine blk_drew ?_ | refine blk_alloc ?_ _)); exact BK466.out) hb)
              have n9_ := Aside0.mk (below_step (by repeat (first | (with_reducible first | exact HB.out | apply below_alloc | apply pw_below_drewN | apply below_drew1 | refine below_set ?_ GE449.out | refine below_set ?_ GE450.out | refine below_set ?_ GE461.out | refine below_set ?_ GE466.out) | exact HB.out)) hb)
              clear HO0_0
              clear HO1_0
              clear HO454
              clear HO459
              clear HO464
              clear BK449
              clear BK450
              clear BK461
              clear BK466
              clear HB
              have HO0_0 := n0_
              have HO1_0 := n1_
              have HO454 := n2_
              have HO459 := n3_
              have HO464 := n4_
              have BK449 := n5_
              have BK450 := n6_
              have BK461 := n7_
              have BK466 := n8_
              have HB := n9_
              clear n0_ n1_ n2_ n3_ n4_ n5_ n6_ n7_ n8_ n9_
              (try clear hb)
              (try clear hb2)
              (try clear hk)
              (try clear hi)
              refine hK.out _ _ ⟨(blk_cell BK449.out 0).trans rfl, (blk_cell BK450.out 0).trans rfl, (blk_cell BK461.out 0).trans rfl, (blk_cell BK466.out 0).trans rfl⟩ (fun hHeld => ?_)
              clear hK K
              refine norm_ (a' := ?_) ?_ ?_
              rotate_left
              · show Act.put _ (some 39) _ = _
                simp only [Act.put, List.setIfInBounds_toArray, List.set_cons_zero, List.set_cons_succ, i64_w, i32_w]
                rfl
              refine one_ (i := 11) (N := some 42) #[true, true, true, true, true, true, true, true, true, true, true, true, false, false, false, false, false, false, false, false, false, false, false, false, false, false, false, false, false, false, false, false, false, false, false] rfl rfl (one_of HT_.out (by kernel_rfl)) (by decide) (fun K hK => ?_)
              refine goes_ Tryd.func27 (by kernel_rfl) rfl #[.agg #[.slice A0_0 l0_0.length c0_0], .agg #[.slice A1_0 l1_0.length c1_0]] (by rfl) rfl rfl (by (try simp only [List.map_toArray, List.map_cons, List.map_nil]); first | done | rfl | (simp only [List.length_drop, List.length_take]; rfl)) ?_
              with_reducible refine (ancepsref02_Cmp.calls k _ _ l0_0 _ _ l1_0 t470 _ ?side1 ?side2 ?side3 ?side4 A14.out).mono ?_
              (case side1 => repeat (first | exact (Kd.V_reads' HO0_0.out).2.2 | (with_reducible refine Kd.C_alloc ?_ _) | (with_reducible refine Kd.C_drewN ?_ _) | (with_reducible refine Kd.C_drew ?_)))
              (case side2 => exact (Kd.V_reads' HO0_0.out).2.1)
              (case side3 => repeat (first | exact (Kd.V_reads' HO1_0.out).2.2 | (with_reducible refine Kd.C_alloc ?_ _) | (with_reducible refine Kd.C_drewN ?_ _) | (with_reducible refine Kd.C_drew ?_)))
              (case side4 => exact (Kd.V_reads' HO1_0.out).2.1)
              rintro e w48 ⟨rfl, hb⟩
              refine ⟨_, rfl, ?_⟩
              have n0_ := Aside0.mk (Kd.V_below (by (with_reducible repeat (first | apply Kd.V_alloc | apply Kd.V_drewN | apply Kd.V_drew)); exact HO0_0.out) hb)
              have n1_ := Aside0.mk (Kd.V_below (by (with_reducible repeat (first | apply Kd.V_alloc | apply Kd.V_drewN | apply Kd.V_drew)); exact HO1_0.out) hb)
              have n2_ := Aside0.mk (Kd.N_below (by (with_reducible repeat (first | apply Kd.N_alloc | apply Kd.N_drewN | apply Kd.N_drew)); exact HO454.out) hb)
              have n3_ := Aside0.mk (Kd.V_below (by (with_reducible repeat (first | apply Kd.V_alloc | apply Kd.V_drewN | apply Kd.V_drew)); exact HO459.out) hb)
              have n4_ := Aside0.mk (Kd.R_below (by (with_reducible repeat (first | apply Kd.R_alloc | apply Kd.R_drewN | apply Kd.R_drew)); exact HO464.out) hb)
              have n5_ := Aside0.mk (blk_below (g := gb449) (o := .cells #[.slice A0_0 l0_0.length c0_0] 24 (0, 0)) (by (with_reducible repeat (first | refine blk_drewN ?_ _ | refine blk_drew ?_ | refine blk_alloc ?_ _)); exact BK449.out) hb)
              have n6_ := Aside0.mk (blk_below (g := gb450) (o := .cells #[.slice A1_0 l1_0.length c1_0] 24 (0, 0)) (by (with_reducible repeat (first | refine blk_drewN ?_ _ | refine blk_drew ?_ | refine blk_alloc ?_ _)); exact BK450.out) hb)
              have n7_ := Aside0.mk (blk_below (g := gb461) (o := .cells #[.slice Ao32 t457.length co32] 24 (0, 0)) (by (with_reducible repeat (first | refine blk_drewN ?_ _ | refine blk_drew ?_ | refine blk_alloc ?_ _)); exact BK461.out) hb)
              have n8_ := Aside0.mk (blk_below (g := gb466) (o := .cells #[.slice Ao38 t462.length co38] 24 (0, 0)) (by (with_reducible repeat (first | refine blk_drewN ?_ _ | refine blk_drew ?_ | refine blk_alloc ?_ _)); exact BK466.out) hb)
              have n9_ := Aside0.mk (below_step (by repeat (first | (with_reducible first | exact HB.out | apply below_alloc | apply pw_below_drewN | apply below_drew1 | refine below_set ?_ GE449.out | refine below_set ?_ GE450.out | refine below_set ?_ GE461.out | refine below_set ?_ GE466.out) | exact HB.out)) hb)
              clear HO0_0
              clear HO1_0
              clear HO454
              clear HO459
              clear HO464
              clear BK449
              clear BK450
              clear BK461
              clear BK466
              clear HB
              have HO0_0 := n0_
              have HO1_0 := n1_
              have HO454 := n2_
              have HO459 := n3_
              have HO464 := n4_
              have BK449 := n5_
              have BK450 := n6_
              have BK461 := n7_
              have BK466 := n8_
              have HB := n9_
              clear n0_ n1_ n2_ n3_ n4_ n5_ n6_ n7_ n8_ n9_
              (try clear hb)
              (try clear hb2)
              (try clear hk)
              (try clear hi)
              refine hK.out _ _ ⟨(blk_cell BK449.out 0).trans rfl, (blk_cell BK450.out 0).trans rfl, (blk_cell BK461.out 0).trans rfl, (blk_cell BK466.out 0).trans rfl⟩ (fun hHeld => ?_)
              clear hK K
              refine norm_ (a' := ?_) ?_ ?_
              rotate_left
              · show Act.put _ (some 42) _ = _
                simp only [Act.put, List.setIfInBounds_toArray, List.set_cons_zero, List.set_cons_succ, i64_w, i32_w]
                rfl
              refine pure_ (i := 12) (N := some 43) (v := ?_) (a' := ?_) #[true, true, true, true, true, true, true, true, true, true, true, true, true, false, false, false, false, false, false, false, false, false, false, false, false, false, false, false, false, false, false, false, false, false, false] rfl rfl (any_of HT_.out (by kernel_rfl)) (fun _ _ _ h => h) (Or.inl ⟨by rfl, ?_⟩) ?_ ?_
              rotate_left
              · intro w'
                go_simp
                with_reducible rfl
              rotate_left
              · simp only [Act.put, List.setIfInBounds_toArray, List.set_cons_zero, List.set_cons_succ, i64_w, i32_w]
                rfl
              refine pure_ (i := 13) (N := some 44) (v := ?_) (a' := ?_) #[true, true, true, true, true, true, true, true, true, true, true, true, true, true, false, false, false, false, false, false, false, false, false, false, false, false, false, false, false, false, false, false, false, false, false] rfl rfl (any_of HT_.out (by kernel_rfl)) (fun _ _ _ h => h) (Or.inl ⟨by rfl, ?_⟩) ?_ ?_
              rotate_left
              · intro w'
                go_simp
                with_reducible rfl
              rotate_left
              · simp only [Act.put, List.setIfInBounds_toArray, List.set_cons_zero, List.set_cons_succ, i64_w, i32_w]
                rfl
              refine pure_ (i := 14) (N := some 45) (v := ?_) (a' := ?_) #[true, true, true, true, true, true, true, true, true, true, true, true, true, true, true, false, false, false, false, false, false, false, false, false, false, false, false, false, false, false, false, false, false, false, false] rfl rfl (any_of HT_.out (by kernel_rfl)) (fun _ _ _ h => h) (Or.inl ⟨by rfl, ?_⟩) ?_ ?_
              rotate_left
              · intro w'
                go_simp
                with_reducible rfl
              rotate_left
              · simp only [Act.put, List.setIfInBounds_toArray, List.set_cons_zero, List.set_cons_succ, i64_w, i32_w]
                rfl
              refine take_ (i := 15) (N := some 46) (v := ?_) (a' := ?_) #[true, true, true, true, true, true, true, true, true, true, true, true, true, true, true, true, false, false, false, false, false, false, false, false, false, false, false, false, false, false, false, false, false, false, false] rfl rfl (take_ofW HT_.out HW_.out (by kernel_rfl)) (fun _ _ _ h => h) (Or.inl ⟨by rfl, ?_⟩) hHeld ?_ ?_
              rotate_left
              · rintro w' ⟨s0, s1, s2, s3⟩
                go_simp
                with_reducible rfl
              rotate_left
              · simp only [Act.put, List.setIfInBounds_toArray, List.set_cons_zero, List.set_cons_succ, i64_w, i32_w]
                rfl
              refine take_ (i := 16) (N := some 47) (v := ?_) (a' := ?_) #[true, true, true, true, true, true, true, true, true, true, true, true, true, true, true, true, true, false, false, false, false, false, false, false, false, false, false, false, false, false, false, false, false, false, false] rfl rfl (take_ofW HT_.out HW_.out (by kernel_rfl)) (fun _ _ _ h => h) (Or.inl ⟨by rfl, ?_⟩) hHeld ?_ ?_
              rotate_left
              · rintro w' ⟨s0, s1, s2, s3⟩
                go_simp
                with_reducible rfl
              rotate_left
              · simp only [Act.put, List.setIfInBounds_toArray, List.set_cons_zero, List.set_cons_succ, i64_w, i32_w]
                rfl
              refine take_ (i := 18) (N := some 49) (v := ?_) (a' := ?_) #[true, true, true, true, true, true, true, true, true, true, true, true, true, true, true, true, true, false, true, false, false, false, false, false, false, false, false, false, false, false, false, false, false, false, false] rfl rfl (take_ofW HT_.out HW_.out (by kernel_rfl)) (fun _ _ _ h => h) (Or.inl ⟨by rfl, ?_⟩) hHeld ?_ ?_
              rotate_left
              · rintro w' ⟨s0, s1, s2, s3⟩
                go_simp
                with_reducible rfl
              rotate_left
              · simp only [Act.put, List.setIfInBounds_toArray, List.set_cons_zero, List.set_cons_succ, i64_w, i32_w]
                rfl
              refine take_ (i := 19) (N := some 50) (v := ?_) (a' := ?_) #[true, true, true, true, true, true, true, true, true, true, true, true, true, true, true, true, true, false, true, true, false, false, false, false, false, false, false, false, false, false, false, false, false, false, false] rfl rfl (take_ofW HT_.out HW_.out (by kernel_rfl)) (fun _ _ _ h => h) (Or.inl ⟨by rfl, ?_⟩) hHeld ?_ ?_
              rotate_left
              · rintro w' ⟨s0, s1, s2, s3⟩
                go_simp
                with_reducible rfl
              rotate_left
              · simp only [Act.put, List.setIfInBounds_toArray, List.set_cons_zero, List.set_cons_succ, i64_w, i32_w]
                rfl
              refine one_ (i := 17) (N := some 48) #[true, true, true, true, true, true, true, true, true, true, true, true, true, true, true, true, true, true, true, true, false, false, false, false, false, false, false, false, false, false, false, false, false, false, false] rfl rfl (one_of HT_.out (by kernel_rfl)) (by decide) (fun K hK => ?_)
              refine goes_ Tryd.func26 (by kernel_rfl) rfl #[.agg #[.slice A1_0 l1_0.length c1_0], .agg #[.slice A0_0 l0_0.length c0_0]] (by rfl) rfl rfl (by (try simp only [List.map_toArray, List.map_cons, List.map_nil]); first | done | rfl | (simp only [List.length_drop, List.length_take]; rfl)) ?_
              with_reducible refine (natural_Cmp.calls k _ _ l1_0 _ _ l0_0 t471 _ ?side1 ?side2 ?side3 ?side4 A16.out).mono ?_
              (case side1 => repeat (first | exact (Kd.V_reads' HO1_0.out).2.2 | (with_reducible refine Kd.C_alloc ?_ _) | (with_reducible refine Kd.C_drewN ?_ _) | (with_reducible refine Kd.C_drew ?_)))
              (case side2 => exact (Kd.V_reads' HO1_0.out).2.1)
              (case side3 => repeat (first | exact (Kd.V_reads' HO0_0.out).2.2 | (with_reducible refine Kd.C_alloc ?_ _) | (with_reducible refine Kd.C_drewN ?_ _) | (with_reducible refine Kd.C_drew ?_)))
              (case side4 => exact (Kd.V_reads' HO0_0.out).2.1)
              rintro e w49 ⟨rfl, hb⟩
              refine ⟨_, rfl, ?_⟩
              have n0_ := Aside0.mk (Kd.V_below (by (with_reducible repeat (first | apply Kd.V_alloc | apply Kd.V_drewN | apply Kd.V_drew)); exact HO0_0.out) hb)
              have n1_ := Aside0.mk (Kd.V_below (by (with_reducible repeat (first | apply Kd.V_alloc | apply Kd.V_drewN | apply Kd.V_drew)); exact HO1_0.out) hb)
              have n2_ := Aside0.mk (Kd.N_below (by (with_reducible repeat (first | apply Kd.N_alloc | apply Kd.N_drewN | apply Kd.N_drew)); exact HO454.out) hb)
              have n3_ := Aside0.mk (Kd.V_below (by (with_reducible repeat (first | apply Kd.V_alloc | apply Kd.V_drewN | apply Kd.V_drew)); exact HO459.out) hb)
              have n4_ := Aside0.mk (Kd.R_below (by (with_reducible repeat (first | apply Kd.R_alloc | apply Kd.R_drewN | apply Kd.R_drew)); exact HO464.out) hb)
              have n5_ := Aside0.mk (blk_below (g := gb449) (o := .cells #[.slice A0_0 l0_0.length c0_0] 24 (0, 0)) (by (with_reducible repeat (first | refine blk_drewN ?_ _ | refine blk_drew ?_ | refine blk_alloc ?_ _)); exact BK449.out) hb)
              have n6_ := Aside0.mk (blk_below (g := gb450) (o := .cells #[.slice A1_0 l1_0.length c1_0] 24 (0, 0)) (by (with_reducible repeat (first | refine blk_drewN ?_ _ | refine blk_drew ?_ | refine blk_alloc ?_ _)); exact BK450.out) hb)
              have n7_ := Aside0.mk (blk_below (g := gb461) (o := .cells #[.slice Ao32 t457.length co32] 24 (0, 0)) (by (with_reducible repeat (first | refine blk_drewN ?_ _ | refine blk_drew ?_ | refine blk_alloc ?_ _)); exact BK461.out) hb)
              have n8_ := Aside0.mk (blk_below (g := gb466) (o := .cells #[.slice Ao38 t462.length co38] 24 (0, 0)) (by (with_reducible repeat (first | refine blk_drewN ?_ _ | refine blk_drew ?_ | refine blk_alloc ?_ _)); exact BK466.out) hb)
              have n9_ := Aside0.mk (below_step (by repeat (first | (with_reducible first | exact HB.out | apply below_alloc | apply pw_below_drewN | apply below_drew1 | refine below_set ?_ GE449.out | refine below_set ?_ GE450.out | refine below_set ?_ GE461.out | refine below_set ?_ GE466.out) | exact HB.out)) hb)
              clear HO0_0
              clear HO1_0
              clear HO454
              clear HO459
              clear HO464
              clear BK449
              clear BK450
              clear BK461
              clear BK466
              clear HB
              have HO0_0 := n0_
              have HO1_0 := n1_
              have HO454 := n2_
              have HO459 := n3_
              have HO464 := n4_
              have BK449 := n5_
              have BK450 := n6_
              have BK461 := n7_
              have BK466 := n8_
              have HB := n9_
              clear n0_ n1_ n2_ n3_ n4_ n5_ n6_ n7_ n8_ n9_
              (try clear hb)
              (try clear hb2)
              (try clear hk)
              (try clear hi)
              refine hK.out _ _ ⟨(blk_cell BK449.out 0).trans rfl, (blk_cell BK450.out 0).trans rfl, (blk_cell BK461.out 0).trans rfl, (blk_cell BK466.out 0).trans rfl⟩ (fun hHeld => ?_)
              clear hK K
              refine norm_ (a' := ?_) ?_ ?_
              rotate_left
              · show Act.put _ (some 48) _ = _
                simp only [Act.put, List.setIfInBounds_toArray, List.set_cons_zero, List.set_cons_succ, i64_w, i32_w]
                rfl
              refine one_ (i := 20) (N := some 51) #[true, true, true, true, true, true, true, true, true, true, true, true, true, true, true, true, true, true, true, true, true, false, false, false, false, false, false, false, false, false, false, false, false, false, false] rfl rfl (one_of HT_.out (by kernel_rfl)) (by decide) (fun K hK => ?_)
              refine goes_ Tryd.func27 (by kernel_rfl) rfl #[.agg #[.slice A0_0 l0_0.length c0_0], .agg #[.slice A1_0 l1_0.length c1_0]] (by rfl) rfl rfl (by (try simp only [List.map_toArray, List.map_cons, List.map_nil]); first | done | rfl | (simp only [List.length_drop, List.length_take]; rfl)) ?_
              with_reducible refine (ancepsref02_Cmp.calls k _ _ l0_0 _ _ l1_0 t472 _ ?side1 ?side2 ?side3 ?side4 A17.out).mono ?_
              (case side1 => repeat (first | exact (Kd.V_reads' HO0_0.out).2.2 | (with_reducible refine Kd.C_alloc ?_ _) | (with_reducible refine Kd.C_drewN ?_ _) | (with_reducible refine Kd.C_drew ?_)))
              (case side2 => exact (Kd.V_reads' HO0_0.out).2.1)
              (case side3 => repeat (first | exact (Kd.V_reads' HO1_0.out).2.2 | (with_reducible refine Kd.C_alloc ?_ _) | (with_reducible refine Kd.C_drewN ?_ _) | (with_reducible refine Kd.C_drew ?_)))
              (case side4 => exact (Kd.V_reads' HO1_0.out).2.1)
              rintro e w50 ⟨rfl, hb⟩
              refine ⟨_, rfl, ?_⟩
              have n0_ := Aside0.mk (Kd.V_below (by (with_reducible repeat (first | apply Kd.V_alloc | apply Kd.V_drewN | apply Kd.V_drew)); exact HO0_0.out) hb)
              have n1_ := Aside0.mk (Kd.V_below (by (with_reducible repeat (first | apply Kd.V_alloc | apply Kd.V_drewN | apply Kd.V_drew)); exact HO1_0.out) hb)
              have n2_ := Aside0.mk (Kd.N_below (by (with_reducible repeat (first | apply Kd.N_alloc | apply Kd.N_drewN | apply Kd.N_drew)); exact HO454.out) hb)
              have n3_ := Aside0.mk (Kd.V_below (by (with_reducible repeat (first | apply Kd.V_alloc | apply Kd.V_drewN | apply Kd.V_drew)); exact HO459.out) hb)
              have n4_ := Aside0.mk (Kd.R_below (by (with_reducible repeat (first | apply Kd.R_alloc | apply Kd.R_drewN | apply Kd.R_drew)); exact HO464.out) hb)
              have n5_ := Aside0.mk (blk_below (g := gb449) (o := .cells #[.slice A0_0 l0_0.length c0_0] 24 (0, 0)) (by (with_reducible repeat (first | refine blk_drewN ?_ _ | refine blk_drew ?_ | refine blk_alloc ?_ _)); exact BK449.out) hb)
              have n6_ := Aside0.mk (blk_below (g := gb450) (o := .cells #[.slice A1_0 l1_0.length c1_0] 24 (0, 0)) (by (with_reducible repeat (first | refine blk_drewN ?_ _ | refine blk_drew ?_ | refine blk_alloc ?_ _)); exact BK450.out) hb)
              have n7_ := Aside0.mk (blk_below (g := gb461) (o := .cells #[.slice Ao32 t457.length co32] 24 (0, 0)) (by (with_reducible repeat (first | refine blk_drewN ?_ _ | refine blk_drew ?_ | refine blk_alloc ?_ _)); exact BK461.out) hb)
              have n8_ := Aside0.mk (blk_below (g := gb466) (o := .cells #[.slice Ao38 t462.length co38] 24 (0, 0)) (by (with_reducible repeat (first | refine blk_drewN ?_ _ | refine blk_drew ?_ | refine blk_alloc ?_ _)); exact BK466.out) hb)
              have n9_ := Aside0.mk (below_step (by repeat (first | (with_reducible first | exact HB.out | apply below_alloc | apply pw_below_drewN | apply below_drew1 | refine below_set ?_ GE449.out | refine below_set ?_ GE450.out | refine below_set ?_ GE461.out | refine below_set ?_ GE466.out) | exact HB.out)) hb)
              clear HO0_0
              clear HO1_0
              clear HO454
              clear HO459
              clear HO464
              clear BK449
              clear BK450
              clear BK461
              clear BK466
              clear HB
              have HO0_0 := n0_
              have HO1_0 := n1_
              have HO454 := n2_
              have HO459 := n3_
              have HO464 := n4_
              have BK449 := n5_
              have BK450 := n6_
              have BK461 := n7_
              have BK466 := n8_
              have HB := n9_
              clear n0_ n1_ n2_ n3_ n4_ n5_ n6_ n7_ n8_ n9_
              (try clear hb)
              (try clear hb2)
              (try clear hk)
              (try clear hi)
              refine hK.out _ _ ⟨(blk_cell BK449.out 0).trans rfl, (blk_cell BK450.out 0).trans rfl, (blk_cell BK461.out 0).trans rfl, (blk_cell BK466.out 0).trans rfl⟩ (fun hHeld => ?_)
              clear hK K
              refine norm_ (a' := ?_) ?_ ?_
              rotate_left
              · show Act.put _ (some 51) _ = _
                simp only [Act.put, List.setIfInBounds_toArray, List.set_cons_zero, List.set_cons_succ, i64_w, i32_w]
                rfl
              refine pure_ (i := 21) (N := some 52) (v := ?_) (a' := ?_) #[true, true, true, true, true, true, true, true, true, true, true, true, true, true, true, true, true, true, true, true, true, true, false, false, false, false, false, false, false, false, false, false, false, false, false] rfl rfl (any_of HT_.out (by kernel_rfl)) (fun _ _ _ h => h) (Or.inl ⟨by rfl, ?_⟩) ?_ ?_
              rotate_left
              · intro w'
                go_simp
                with_reducible rfl
              rotate_left
              · simp only [Act.put, List.setIfInBounds_toArray, List.set_cons_zero, List.set_cons_succ, i64_w, i32_w]
                rfl
              refine pure_ (i := 22) (N := some 53) (v := ?_) (a' := ?_) #[true, true, true, true, true, true, true, true, true, true, true, true, true, true, true, true, true, true, true, true, true, true, true, false, false, false, false, false, false, false, false, false, false, false, false] rfl rfl (any_of HT_.out (by kernel_rfl)) (fun _ _ _ h => h) (Or.inl ⟨by rfl, ?_⟩) ?_ ?_
              rotate_left
              · intro w'
                go_simp
                with_reducible rfl
              rotate_left
              · simp only [Act.put, List.setIfInBounds_toArray, List.set_cons_zero, List.set_cons_succ, i64_w, i32_w]
                rfl
              refine pure_ (i := 23) (N := some 54) (v := ?_) (a' := ?_) #[true, true, true, true, true, true, true, true, true, true, true, true, true, true, true, true, true, true, true, true, true, true, true, true, false, false, false, false, false, false, false, false, false, false, false] rfl rfl (any_of HT_.out (by kernel_rfl)) (fun _ _ _ h => h) (Or.inl ⟨by rfl, ?_⟩) ?_ ?_
              rotate_left
              · intro w'
                go_simp
                with_reducible rfl
              rotate_left
              · simp only [Act.put, List.setIfInBounds_toArray, List.set_cons_zero, List.set_cons_succ, i64_w, i32_w]
                rfl
              refine pure_ (i := 24) (N := some 55) (v := ?_) (a' := ?_) #[true, true, true, true, true, true, true, true, true, true, true, true, true, true, true, true, true, true, true, true, true, true, true, true, true, false, false, false, false, false, false, false, false, false, false] rfl rfl (any_of HT_.out (by kernel_rfl)) (fun _ _ _ h => h) (Or.inl ⟨by rfl, ?_⟩) ?_ ?_
              rotate_left
              · intro w'
                go_simp
                with_reducible rfl
              rotate_left
              · simp only [Act.put, List.setIfInBounds_toArray, List.set_cons_zero, List.set_cons_succ, i64_w, i32_w]
                rfl
              refine pure_ (i := 25) (N := some 56) (v := ?_) (a' := ?_) #[true, true, true, true, true, true, true, true, true, true, true, true, true, true, true, true, true, true, true, true, true, true, true, true, true, true, false, false, false, false, false, false, false, false, false] rfl rfl (any_of HT_.out (by kernel_rfl)) (fun _ _ _ h => h) (Or.inl ⟨by rfl, ?_⟩) ?_ ?_
              rotate_left
              · intro w'
                go_simp
                with_reducible rfl
              rotate_left
              · simp only [Act.put, List.setIfInBounds_toArray, List.set_cons_zero, List.set_cons_succ, i64_w, i32_w]
                rfl
              refine pure_ (i := 26) (N := some 57) (v := ?_) (a' := ?_) #[true, true, true, true, true, true, true, true, true, true, true, true, true, true, true, true, true, true, true, true, true, true, true, true, true, true, true, false, false, false, false, false, false, false, false] rfl rfl (any_of HT_.out (by kernel_rfl)) (fun _ _ _ h => h) (Or.inl ⟨by rfl, ?_⟩) ?_ ?_
              rotate_left
              · intro w'
                go_simp
                with_reducible rfl
              rotate_left
              · simp only [Act.put, List.setIfInBounds_toArray, List.set_cons_zero, List.set_cons_succ, i64_w, i32_w]
                rfl
              refine pure_ (i := 27) (N := some 58) (v := ?_) (a' := ?_) #[true, true, true, true, true, true, true, true, true, true, true, true, true, true, true, true, true, true, true, true, true, true, true, true, true, true, true, true, false, false, false, false, false, false, false] rfl rfl (any_of HT_.out (by kernel_rfl)) (fun _ _ _ h => h) (Or.inl ⟨by rfl, ?_⟩) ?_ ?_
              rotate_left
              · intro w'
                go_simp
                with_reducible rfl
              rotate_left
              · simp only [Act.put, List.setIfInBounds_toArray, List.set_cons_zero, List.set_cons_succ, i64_w, i32_w]
                rfl
              refine pure_ (i := 28) (N := some 59) (v := ?_) (a' := ?_) #[true, true, true, true, true, true, true, true, true, true, true, true, true, true, true, true, true, true, true, true, true, true, true, true, true, true, true, true, true, false, false, false, false, false, false] rfl rfl (any_of HT_.out (by kernel_rfl)) (fun _ _ _ h => h) (Or.inl ⟨by rfl, ?_⟩) ?_ ?_
              rotate_left
              · intro w'
                go_simp
                with_reducible rfl
              rotate_left
              · simp only [Act.put, List.setIfInBounds_toArray, List.set_cons_zero, List.set_cons_succ, i64_w, i32_w]
                rfl
              refine pure_ (i := 29) (N := some 60) (v := ?_) (a' := ?_) #[true, true, true, true, true, true, true, true, true, true, true, true, true, true, true, true, true, true, true, true, true, true, true, true, true, true, true, true, true, true, false, false, false, false, false] rfl rfl (any_of HT_.out (by kernel_rfl)) (fun _ _ _ h => h) (Or.inl ⟨by rfl, ?_⟩) ?_ ?_
              rotate_left
              · intro w'
                go_simp
                with_reducible rfl
              rotate_left
              · simp only [Act.put, List.setIfInBounds_toArray, List.set_cons_zero, List.set_cons_succ, i64_w, i32_w]
                rfl
              refine take_ (i := 30) (N := some 61) (v := ?_) (a' := ?_) #[true, true, true, true, true, true, true, true, true, true, true, true, true, true, true, true, true, true, true, true, true, true, true, true, true, true, true, true, true, true, true, false, false, false, false] rfl rfl (take_ofW HT_.out HW_.out (by kernel_rfl)) (fun _ _ _ h => h) (Or.inl ⟨by rfl, ?_⟩) hHeld ?_ ?_
              rotate_left
              · rintro w' ⟨s0, s1, s2, s3⟩
                go_simp
                with_reducible rfl
              rotate_left
              · simp only [Act.put, List.setIfInBounds_toArray, List.set_cons_zero, List.set_cons_succ, i64_w, i32_w]
                rfl
              refine take_ (i := 31) (N := some 62) (v := ?_) (a' := ?_) #[true, true, true, true, true, true, true, true, true, true, true, true, true, true, true, true, true, true, true, true, true, true, true, true, true, true, true, true, true, true, true, true, false, false, false] rfl rfl (take_ofW HT_.out HW_.out (by kernel_rfl)) (fun _ _ _ h => h) (Or.inl ⟨by rfl, ?_⟩) hHeld ?_ ?_
              rotate_left
              · rintro w' ⟨s0, s1, s2, s3⟩
                go_simp
                with_reducible rfl
              rotate_left
              · simp only [Act.put, List.setIfInBounds_toArray, List.set_cons_zero, List.set_cons_succ, i64_w, i32_w]
                rfl
              refine one_ (i := 32) (N := some 63) #[true, true, true, true, true, true, true, true, true, true, true, true, true, true, true, true, true, true, true, true, true, true, true, true, true, true, true, true, true, true, true, true, true, false, false] rfl rfl (one_of HT_.out (by kernel_rfl)) (by decide) (fun K hK => ?_)
              refine goes_ Tryd.func17 (by kernel_rfl) rfl #[.agg #[.slice Ao32 t457.length co32], .agg #[.slice Ao38 t462.length co38]] (by rfl) rfl rfl (by (try simp only [List.map_toArray, List.map_cons, List.map_nil]); first | done | rfl | (simp only [List.length_drop, List.length_take]; rfl)) ?_
              with_reducible refine (ancepsref02_Same.calls k _ _ t457 _ _ t462 t473 _ ?side1 ?side2 ?side3 ?side4 A20.out).mono ?_
              (case side1 => repeat (first | exact (Kd.V_reads' HO459.out).2.2 | (with_reducible refine Kd.C_alloc ?_ _) | (with_reducible refine Kd.C_drewN ?_ _) | (with_reducible refine Kd.C_drew ?_)))
              (case side2 => exact (Kd.V_reads' HO459.out).2.1)
              (case side3 => repeat (first | exact (Kd.R_reads' HO464.out).2.2 | (with_reducible refine Kd.C_alloc ?_ _) | (with_reducible refine Kd.C_drewN ?_ _) | (with_reducible refine Kd.C_drew ?_)))
              (case side4 => exact (Kd.R_reads' HO464.out).2.1)
              rintro e w51 ⟨rfl, hb⟩
              refine ⟨_, rfl, ?_⟩
              have n0_ := Aside0.mk (Kd.V_below (by (with_reducible repeat (first | apply Kd.V_alloc | apply Kd.V_drewN | apply Kd.V_drew)); exact HO0_0.out) hb)
              have n1_ := Aside0.mk (Kd.V_below (by (with_reducible repeat (first | apply Kd.V_alloc | apply Kd.V_drewN | apply Kd.V_drew)); exact HO1_0.out) hb)
              have n2_ := Aside0.mk (Kd.N_below (by (with_reducible repeat (first | apply Kd.N_alloc | apply Kd.N_drewN | apply Kd.N_drew)); exact HO454.out) hb)
              have n3_ := Aside0.mk (Kd.V_below (by (with_reducible repeat (first | apply Kd.V_alloc | apply Kd.V_drewN | apply Kd.V_drew)); exact HO459.out) hb)
              have n4_ := Aside0.mk (Kd.R_below (by (with_reducible repeat (first | apply Kd.R_alloc | apply Kd.R_drewN | apply Kd.R_drew)); exact HO464.out) hb)
              have n5_ := Aside0.mk (blk_below (g := gb449) (o := .cells #[.slice A0_0 l0_0.length c0_0] 24 (0, 0)) (by (with_reducible repeat (first | refine blk_drewN ?_ _ | refine blk_drew ?_ | refine blk_alloc ?_ _)); exact BK449.out) hb)
              have n6_ := Aside0.mk (blk_below (g := gb450) (o := .cells #[.slice A1_0 l1_0.length c1_0] 24 (0, 0)) (by (with_reducible repeat (first | refine blk_drewN ?_ _ | refine blk_drew ?_ | refine blk_alloc ?_ _)); exact BK450.out) hb)
              have n7_ := Aside0.mk (blk_below (g := gb461) (o := .cells #[.slice Ao32 t457.length co32] 24 (0, 0)) (by (with_reducible repeat (first | refine blk_drewN ?_ _ | refine blk_drew ?_ | refine blk_alloc ?_ _)); exact BK461.out) hb)
              have n8_ := Aside0.mk (blk_below (g := gb466) (o := .cells #[.slice Ao38 t462.length co38] 24 (0, 0)) (by (with_reducible repeat (first | refine blk_drewN ?_ _ | refine blk_drew ?_ | refine blk_alloc ?_ _)); exact BK466.out) hb)
              have n9_ := Aside0.mk (below_step (by repeat (first | (with_reducible first | exact HB.out | apply below_alloc | apply pw_below_drewN | apply below_drew1 | refine below_set ?_ GE449.out | refine below_set ?_ GE450.out | refine below_set ?_ GE461.out | refine below_set ?_ GE466.out) | exact HB.out)) hb)
              clear HO0_0
              clear HO1_0
              clear HO454
              clear HO459
              clear HO464
              clear BK449
              clear BK450
              clear BK461
              clear BK466
              clear HB
              have HO0_0 := n0_
              have HO1_0 := n1_
              have HO454 := n2_
              have HO459 := n3_
              have HO464 := n4_
              have BK449 := n5_
              have BK450 := n6_
              have BK461 := n7_
              have BK466 := n8_
              have HB := n9_
              clear n0_ n1_ n2_ n3_ n4_ n5_ n6_ n7_ n8_ n9_
              (try clear hb)
              (try clear hb2)
              (try clear hk)
              (try clear hi)
              refine hK.out _ _ ⟨(blk_cell BK449.out 0).trans rfl, (blk_cell BK450.out 0).trans rfl, (blk_cell BK461.out 0).trans rfl, (blk_cell BK466.out 0).trans rfl⟩ (fun hHeld => ?_)
              clear hK K
              refine norm_ (a' := ?_) ?_ ?_
              rotate_left
              · show Act.put _ (some 63) _ = _
                simp only [Act.put, List.setIfInBounds_toArray, List.set_cons_zero, List.set_cons_succ, i64_w, i32_w]
                rfl
              refine pure_ (i := 33) (N := some 64) (v := ?_) (a' := ?_) #[true, true, true, true, true, true, true, true, true, true, true, true, true, true, true, true, true, true, true, true, true, true, true, true, true, true, true, true, true, true, true, true, true, true, false] rfl rfl (any_of HT_.out (by kernel_rfl)) (fun _ _ _ h => h) (Or.inl ⟨by rfl, ?_⟩) ?_ ?_
              rotate_left
              · intro w'
                go_simp
                with_reducible rfl
              rotate_left
              · simp only [Act.put, List.setIfInBounds_toArray, List.set_cons_zero, List.set_cons_succ, i64_w, i32_w]
                rfl
              refine pure_ (i := 34) (N := some 6) (v := ?_) (a' := ?_) #[true, true, true, true, true, true, true, true, true, true, true, true, true, true, true, true, true, true, true, true, true, true, true, true, true, true, true, true, true, true, true, true, true, true, true] rfl rfl (any_of HT_.out (by kernel_rfl)) (fun _ _ _ h => h) (Or.inl ⟨by rfl, ?_⟩) ?_ ?_
              rotate_left
              · intro w'
                go_simp
                with_reducible rfl
              rotate_left
              · simp only [Act.put, List.setIfInBounds_toArray, List.set_cons_zero, List.set_cons_succ, i64_w, i32_w]
                rfl
              refine done_ (done_of HT_.out (by kernel_rfl)) ?_
              try go_wp2
              go_ret
              exact ⟨by first | rfl | (simp [errW_none, errW_some] <;> rfl) | (simp [*, errW_none, errW_some] <;> rfl), by repeat (first | (with_reducible first | exact HB.out | apply below_alloc | apply pw_below_drewN | apply below_drew1 | refine below_set ?_ GE449.out | refine below_set ?_ GE450.out | refine below_set ?_ GE461.out | refine below_set ?_ GE466.out) | exact HB.out)⟩
            · rw [if_neg c19] at H
              exact absurd H (by simp)
          · rw [if_neg c18] at H
            have c18b0 : (t471 == (wrap64 (-t472))) = false := beq_eq_false_iff_ne.mpr c18
            have c18b1 : (t471 != (wrap64 (-t472))) = true := bne_iff_ne.mpr c18
            obtain rfl := Option.some.inj H
            go_enter Tryd.func6, Tryd.ntmps6
            try go_wp2_with (first | ((with_reducible refine gate_dst (N := 3) rfl ?_); (try (refine gate_guard (by rfl) ?_; dsimp only)); refine box_event ?hg (N := 3) ?hd (cs := #[.slice A0_0 l0_0.length c0_0]) (t := 24) ?hr ?_; (case hd => rfl); (case hg => rfl); (case hr => first | (go_simp; done) | (go_simp; rfl)); intro gb449 hg w52 hbox hb; have n0_ := Aside0.mk (Kd.V_below (Kd.V_elderB (by (with_reducible repeat (first | apply Kd.V_alloc | apply Kd.V_drewN | apply Kd.V_drew)); exact HO0_0.out) gb449 (Nat.le_of_eq hg.symm)) hb); have n1_ := Aside0.mk (Kd.V_below (Kd.V_elderB (by (with_reducible repeat (first | apply Kd.V_alloc | apply Kd.V_drewN | apply Kd.V_drew)); exact HO1_0.out) gb449 (Nat.le_of_eq hg.symm)) hb); have n2_ := Aside0.mk (below_step (by repeat (first | (with_reducible first | exact HB.out | apply below_alloc | apply pw_below_drewN | apply below_drew1) | exact HB.out)) hb); have n3_ := Aside0.mk (hbox); have n4_ := Aside0.mk ((by rw [hg]; exact (below_size (by repeat (first | (with_reducible first | exact HB.out | apply below_alloc | apply pw_below_drewN | apply below_drew1) | exact HB.out))) : w.heap.size ≤ gb449)); have n5_ := Aside0.mk ((by rw [hg]; exact (below_size (by repeat (first | (with_reducible first | exact HB.out | apply below_alloc | apply pw_below_drewN | apply below_drew1) | exact HB.out))) : w.heap.size ≤ gb449)); clear HO0_0; clear HO1_0; clear HB; have HO0_0 := n0_; have HO1_0 := n1_; have HB := n2_; have BK449 := n3_; have GW449 := n4_; have GE449 := n5_; clear n0_ n1_ n2_ n3_ n4_ n5_; clear hb hbox hg) | ((with_reducible refine gate_dst (N := 4) rfl ?_); (try (refine gate_guard (by rfl) ?_; dsimp only)); refine box_event ?hg (N := 4) ?hd (cs := #[.slice A1_0 l1_0.length c1_0]) (t := 24) ?hr ?_; (case hd => rfl); (case hg => rfl); (case hr => first | (go_simp; done) | (go_simp; rfl)); intro gb450 hg w53 hbox hb; have n0_ := Aside0.mk (Kd.V_below (Kd.V_elderB (by (with_reducible repeat (first | apply Kd.V_alloc | apply Kd.V_drewN | apply Kd.V_drew)); exact HO0_0.out) gb450 (Nat.le_of_eq hg.symm)) hb); have n1_ := Aside0.mk (Kd.V_below (Kd.V_elderB (by (with_reducible repeat (first | apply Kd.V_alloc | apply Kd.V_drewN | apply Kd.V_drew)); exact HO1_0.out) gb450 (Nat.le_of_eq hg.symm)) hb); have n2_ := Aside0.mk (blk_below (g := gb449) (o := .cells #[.slice A0_0 l0_0.length c0_0] 24 (0, 0)) (by (with_reducible repeat (first | refine blk_drewN ?_ _ | refine blk_drew ?_ | refine blk_alloc ?_ _)); exact BK449.out) hb); have n3_ := Aside0.mk (below_step (by repeat (first | (with_reducible first | exact HB.out | apply below_alloc | apply pw_below_drewN | apply below_drew1 | refine below_set ?_ GE449.out) | exact HB.out)) hb); have n4_ := Aside0.mk (hbox); have n5_ := Aside0.mk ((by rw [hg]; exact (below_size (by repeat (first | (with_reducible first | exact HB.out | apply below_alloc | apply pw_below_drewN | apply below_drew1 | refine below_set ?_ GE449.out) | exact HB.out))) : w.heap.size ≤ gb450)); have n6_ := Aside0.mk ((by rw [hg]; exact (below_size (by repeat (first | (with_reducible first | exact HB.out | apply below_alloc | apply pw_below_drewN | apply below_drew1 | refine below_set ?_ GE449.out) | exact HB.out))) : w.heap.size ≤ gb450)); have n7_ := Aside0.mk ((by rw [hg]; exact Nat.ne_of_lt (blk_lt (g := gb449) (o := .cells #[.slice A0_0 l0_0.length c0_0] 24 (0, 0)) (by (with_reducible repeat (first | refine blk_drewN ?_ _ | refine blk_drew ?_ | refine blk_alloc ?_ _)); exact BK449.out)) : gb449 ≠ gb450)); have n8_ := Aside0.mk ((by rw [hg]; exact Nat.ne_of_gt (blk_lt (g := gb449) (o := .cells #[.slice A0_0 l0_0.length c0_0] 24 (0, 0)) (by (with_reducible repeat (first | refine blk_drewN ?_ _ | refine blk_drew ?_ | refine blk_alloc ?_ _)); exact BK449.out)) : gb450 ≠ gb449)); clear HO0_0; clear HO1_0; clear BK449; clear HB; have HO0_0 := n0_; have HO1_0 := n1_; have BK449 := n2_; have HB := n3_; have BK450 := n4_; have GW450 := n5_; have GE450 := n6_; have NB449_450 := n7_; have NB450_449 := n8_; clear n0_ n1_ n2_ n3_ n4_ n5_ n6_ n7_ n8_; clear hb hbox hg) | ((with_reducible refine gate_callee (f := 12) rfl ?_); refine goesL_ (some 11) rfl rfl Tryd.func12 (by kernel_rfl) rfl #[] rfl (by (try simp only [List.map_toArray, List.map_cons, List.map_nil]); first | done | rfl | (simp only [List.length_drop, List.length_take]; rfl)) ?_; (with_reducible refine (ancepslaw02_awake.calls k  true _ ?side1 A4.out).mono ?_); (case side1 => exact GL.below HG.out (by repeat (first | (with_reducible first | exact HB.out | apply below_alloc | apply pw_below_drewN | apply below_drew1 | refine below_set ?_ GE449.out | refine below_set ?_ GE450.out) | exact HB.out))); rintro e w54 ⟨rfl, hb⟩; refine ⟨_, rfl, ?_⟩; have n0_ := Aside0.mk (Kd.V_below (by (with_reducible repeat (first | apply Kd.V_alloc | apply Kd.V_drewN | apply Kd.V_drew)); exact HO0_0.out) hb); have n1_ := Aside0.mk (Kd.V_below (by (with_reducible repeat (first | apply Kd.V_alloc | apply Kd.V_drewN | apply Kd.V_drew)); exact HO1_0.out) hb); have n2_ := Aside0.mk (blk_below (g := gb449) (o := .cells #[.slice A0_0 l0_0.length c0_0] 24 (0, 0)) (by (with_reducible repeat (first | refine blk_drewN ?_ _ | refine blk_drew ?_ | refine blk_alloc ?_ _)); exact BK449.out) hb); have n3_ := Aside0.mk (blk_below (g := gb450) (o := .cells #[.slice A1_0 l1_0.length c1_0] 24 (0, 0)) (by (with_reducible repeat (first | refine blk_drewN ?_ _ | refine blk_drew ?_ | refine blk_alloc ?_ _)); exact BK450.out) hb); have n4_ := Aside0.mk (below_step (by repeat (first | (with_reducible first | exact HB.out | apply below_alloc | apply pw_below_drewN | apply below_drew1 | refine below_set ?_ GE449.out | refine below_set ?_ GE450.out) | exact HB.out)) hb); clear HO0_0; clear HO1_0; clear BK449; clear BK450; clear HB; have HO0_0 := n0_; have HO1_0 := n1_; have BK449 := n2_; have BK450 := n3_; have HB := n4_; clear n0_ n1_ n2_ n3_ n4_; (try clear hb); (try clear hb2); (try clear hk); (try clear hi); have hnb55 := NB449_450.out; have hnc55 := NB450_449.out; have hcz56_0 : w54.cell? ⟨gb449, 0, none⟩ = some (.slice A0_0 l0_0.length c0_0) := (blk_cell BK449.out 0).trans rfl; have hfz56_0 := blk_frozen BK449.out 0; have hcz57_0 : w54.cell? ⟨gb450, 0, none⟩ = some (.slice A1_0 l1_0.length c1_0) := (blk_cell BK450.out 0).trans rfl; have hfz57_0 := blk_frozen BK450.out 0) | ((with_reducible refine gate_dst (N := 16) rfl ?_); (try (refine gate_guard (by rfl) ?_; dsimp only)); refine Kd.N_lit k24 _ 24 ?hg (N' := 16) ?hd (xs := ([(⟨l0_0⟩ : S24), (⟨l1_0⟩ : S24)] : List (S24))) (inner := [.slice A0_0 l0_0.length c0_0, .slice A1_0 l1_0.length c1_0]) (ok := (fun k_ => ((P0_0_ k_ ∨ P1_0_ k_) ∨ w.heap.size ≤ k_) ∧ k_ ≠ gb449 ∧ k_ ≠ gb450)) (okp := (fun k_ => ((P0_0_ k_ ∨ P1_0_ k_) ∨ w.heap.size ≤ k_) ∧ k_ ≠ gb449 ∧ k_ ≠ gb450)) ?hr ?hp (fun _ hk => hk) ((show ∀ k_, w54.heap.size ≤ k_ → (fun k_ => ((P0_0_ k_ ∨ P1_0_ k_) ∨ w.heap.size ≤ k_) ∧ k_ ≠ gb449 ∧ k_ ≠ gb450) k_ from fun k_ hk => ⟨(.inr (Nat.le_trans (below_size (by repeat (first | (with_reducible first | exact HB.out | apply below_alloc | apply pw_below_drewN | apply below_drew1 | refine below_set ?_ GE449.out | refine below_set ?_ GE450.out) | exact HB.out))) hk)), Kd.freshB (g := gb449) (o := .cells #[.slice A0_0 l0_0.length c0_0] 24 (0, 0)) (by (with_reducible repeat (first | refine blk_drewN ?_ _ | refine blk_drew ?_ | refine blk_alloc ?_ _)); exact BK449.out) k_ hk, Kd.freshB (g := gb450) (o := .cells #[.slice A1_0 l1_0.length c1_0] 24 (0, 0)) (by (with_reducible repeat (first | refine blk_drewN ?_ _ | refine blk_drew ?_ | refine blk_alloc ?_ _)); exact BK450.out) k_ hk⟩) _ (Nat.le_refl _)) (Below.refl _ _) (Nat.le_refl _) (by simp) ?_; (case hd => rfl); (case hg => rfl); (case hr => first | (go_simp; done) | (go_simp; rfl)); (case hp => exact (Reps.one (show Kd.FK k24 _ _ (⟨l0_0⟩ : S24) [.slice A0_0 l0_0.length c0_0] from (k24_mkF _ _ (⟨l0_0⟩ : S24) (Kd.V_reads' (Kd.V_mono (ok' := (fun k_ => ((P0_0_ k_ ∨ P1_0_ k_) ∨ w.heap.size ≤ k_) ∧ k_ ≠ gb449 ∧ k_ ≠ gb450)) (HO0_0.out) (fun k_ hk => by first | exact ⟨hk.1.1, ⟨hk.1.2, hk.2⟩⟩ | grind))).2.1 (Kd.V_F (Kd.V_mono (ok' := (fun k_ => ((P0_0_ k_ ∨ P1_0_ k_) ∨ w.heap.size ≤ k_) ∧ k_ ≠ gb449 ∧ k_ ≠ gb450)) (HO0_0.out) (fun k_ hk => by first | exact ⟨hk.1.1, ⟨hk.1.2, hk.2⟩⟩ | grind))))) (Reps.one (show Kd.FK k24 _ _ (⟨l1_0⟩ : S24) [.slice A1_0 l1_0.length c1_0] from (k24_mkF _ _ (⟨l1_0⟩ : S24) (Kd.V_reads' (Kd.V_mono (ok' := (fun k_ => ((P0_0_ k_ ∨ P1_0_ k_) ∨ w.heap.size ≤ k_) ∧ k_ ≠ gb449 ∧ k_ ≠ gb450)) (HO1_0.out) (fun k_ hk => by first | exact ⟨hk.1.1, ⟨hk.1.2, hk.2⟩⟩ | grind))).2.1 (Kd.V_F (Kd.V_mono (ok' := (fun k_ => ((P0_0_ k_ ∨ P1_0_ k_) ∨ w.heap.size ≤ k_) ∧ k_ ≠ gb449 ∧ k_ ≠ gb450)) (HO1_0.out) (fun k_ hk => by first | exact ⟨hk.1.1, ⟨hk.1.2, hk.2⟩⟩ | grind))))) (Reps.none _ _)))); intro v453 w58 ho59 hb hg_ hnew_; clear hg_ hnew_; (first | rw [← Ny452.out] at ho59 | (simp only [Int.reduceToNat] at ho59; rw [← Ny452.out] at ho59)); have n0_ := Aside0.mk (Kd.V_elder' (by (with_reducible repeat (first | apply Kd.V_alloc | apply Kd.V_drewN | apply Kd.V_drew)); exact HO0_0.out) (Kd.N_base ho59) hb); have n1_ := Aside0.mk (Kd.V_elder' (by (with_reducible repeat (first | apply Kd.V_alloc | apply Kd.V_drewN | apply Kd.V_drew)); exact HO1_0.out) (Kd.N_base ho59) hb); have n2_ := Aside0.mk (Kd.N_lower ho59 (below_size (by repeat (first | (with_reducible first | exact HB.out | apply below_alloc | apply pw_below_drewN | apply below_drew1 | refine below_set ?_ GE449.out | refine below_set ?_ GE450.out) | exact HB.out)))); have n3_ := Aside0.mk (blk_below (g := gb449) (o := .cells #[.slice A0_0 l0_0.length c0_0] 24 (0, 0)) (by (with_reducible repeat (first | refine blk_drewN ?_ _ | refine blk_drew ?_ | refine blk_alloc ?_ _)); exact BK449.out) hb); have n4_ := Aside0.mk (blk_below (g := gb450) (o := .cells #[.slice A1_0 l1_0.length c1_0] 24 (0, 0)) (by (with_reducible repeat (first | refine blk_drewN ?_ _ | refine blk_drew ?_ | refine blk_alloc ?_ _)); exact BK450.out) hb); have n5_ := Aside0.mk (below_step (by repeat (first | (with_reducible first | exact HB.out | apply below_alloc | apply pw_below_drewN | apply below_drew1 | refine below_set ?_ GE449.out | refine below_set ?_ GE450.out) | exact HB.out)) hb); clear HO0_0; clear HO1_0; clear BK449; clear BK450; clear HB; have HO0_0 := n0_; have HO1_0 := n1_; have HO454 := n2_; have BK449 := n3_; have BK450 := n4_; have HB := n5_; clear n0_ n1_ n2_ n3_ n4_ n5_; clear hb ho59; obtain ⟨Ao60, co60, eo60⟩ := Kd.N_slice HO454.out; subst eo60) | (go_at_call 13; (with_reducible refine (ancepslaw02_few.calls k _ _ y452 true _ ?side1 ?side2 A6.out).mono ?_); (case side1 => repeat (first | exact (Kd.N_reads' HO454.out).2.2 | (with_reducible refine Kd.C_alloc ?_ _) | (with_reducible refine Kd.C_drewN ?_ _) | (with_reducible refine Kd.C_drew ?_))); (case side2 => exact (Kd.N_reads' HO454.out).2.1); rintro e w' ⟨rfl, ⟨nd, rfl⟩⟩; (try (rw [drewN_self w58]; generalize hq_ : World.drewN w58 _ = w58; have n0_ : Aside0 (Kd.V (Kd.int .i64) 3 w58 w.heap.size (fun k_ => ((P0_0_ k_ ∨ P1_0_ k_) ∨ w.heap.size ≤ k_) ∧ some k_ ≠ (.slice Ao60 y452.length co60 : Value).ownBlock ∧ k_ ≠ gb449 ∧ k_ ≠ gb450) (.slice A0_0 l0_0.length c0_0) l0_0) := ⟨by rw [← hq_]; exact (by (with_reducible repeat (first | apply Kd.V_alloc | apply Kd.V_drewN | apply Kd.V_drew)); exact Kd.V_mono HO0_0.out (fun _ hk => by first | exact ⟨hk.1.1.1, ⟨hk.2, ⟨hk.1.1.2, hk.1.2⟩⟩⟩ | grind))⟩; have n1_ : Aside0 (Kd.V (Kd.int .i64) 3 w58 w.heap.size (fun k_ => ((P0_0_ k_ ∨ P1_0_ k_) ∨ w.heap.size ≤ k_) ∧ some k_ ≠ (.slice Ao60 y452.length co60 : Value).ownBlock ∧ k_ ≠ gb449 ∧ k_ ≠ gb450) (.slice A1_0 l1_0.length c1_0) l1_0) := ⟨by rw [← hq_]; exact (by (with_reducible repeat (first | apply Kd.V_alloc | apply Kd.V_drewN | apply Kd.V_drew)); exact Kd.V_mono HO1_0.out (fun _ hk => by first | exact ⟨hk.1.1.1, ⟨hk.2, ⟨hk.1.1.2, hk.1.2⟩⟩⟩ | grind))⟩; have n2_ : Aside0 (Kd.N k24 24 w58 w.heap.size (fun k_ => ((P0_0_ k_ ∨ P1_0_ k_) ∨ w.heap.size ≤ k_) ∧ k_ ≠ gb449 ∧ k_ ≠ gb450) (.slice Ao60 y452.length co60) y452) := ⟨by rw [← hq_]; exact (by (with_reducible repeat (first | apply Kd.N_alloc | apply Kd.N_drewN | apply Kd.N_drew)); exact HO454.out)⟩; have n3_ : Aside0 (w58.heap[gb449]? = some (.cells #[.slice A0_0 l0_0.length c0_0] 24 (0, 0))) := ⟨by rw [← hq_]; exact (by (with_reducible repeat (first | refine blk_drewN ?_ _ | refine blk_drew ?_ | refine blk_alloc ?_ _)); exact BK449.out)⟩; have n4_ : Aside0 (w58.heap[gb450]? = some (.cells #[.slice A1_0 l1_0.length c1_0] 24 (0, 0))) := ⟨by rw [← hq_]; exact (by (with_reducible repeat (first | refine blk_drewN ?_ _ | refine blk_drew ?_ | refine blk_alloc ?_ _)); exact BK450.out)⟩; have n5_ : Aside0 (Below w.heap.size w w58) := ⟨by rw [← hq_]; exact (by repeat (first | (with_reducible first | exact HB.out | apply below_alloc | apply pw_below_drewN | apply below_drew1 | refine below_set ?_ GE449.out | refine below_set ?_ GE450.out) | exact HB.out))⟩; clear HO0_0 HO1_0 HO454 BK449 BK450 HB hq_; have HO0_0 := n0_; have HO1_0 := n1_; have HO454 := n2_; have BK449 := n3_; have BK450 := n4_; have HB := n5_; clear n0_ n1_ n2_ n3_ n4_ n5_))) | ((with_reducible refine gate_callee (f := 22) rfl ?_); refine goesL_ (some 23) rfl rfl Tryd.func22 (by kernel_rfl) rfl #[.int .i64 a2] rfl (by (try simp only [List.map_toArray, List.map_cons, List.map_nil]); first | done | rfl | (simp only [List.length_drop, List.length_take]; rfl)) ?_; (with_reducible refine (natural_Of.calls k a2 t457 t460 _ A8.out).mono ?_); rintro e w61 ⟨v458, rfl, ho0, hb⟩; refine ⟨_, rfl, ?_⟩; have n0_ := Aside0.mk (Kd.V_below (by (with_reducible repeat (first | apply Kd.V_alloc | apply Kd.V_drewN | apply Kd.V_drew)); exact HO0_0.out) hb); have n1_ := Aside0.mk (Kd.V_below (by (with_reducible repeat (first | apply Kd.V_alloc | apply Kd.V_drewN | apply Kd.V_drew)); exact HO1_0.out) hb); have n2_ := Aside0.mk (Kd.N_below (by (with_reducible repeat (first | apply Kd.N_alloc | apply Kd.N_drewN | apply Kd.N_drew)); exact HO454.out) hb); have n3_ := Aside0.mk (Kd.V_lower (Kd.V_mono (ok' := fun k_ => ((P0_0_ k_ ∨ P1_0_ k_) ∨ w.heap.size ≤ k_) ∧ some k_ ≠ (.slice Ao60 y452.length co60 : Value).ownBlock ∧ k_ ≠ gb449 ∧ k_ ≠ gb450) ho0 (fun k_ hk_ => ⟨(.inr (Nat.le_trans (below_size (by repeat (first | (with_reducible first | exact HB.out | apply below_alloc | apply pw_below_drewN | apply below_drew1 | refine below_set ?_ GE449.out | refine below_set ?_ GE450.out) | exact HB.out))) hk_)), (Kd.fresh' (Kd.N_lt (by (with_reducible repeat (first | apply Kd.N_alloc | apply Kd.N_drewN | apply Kd.N_drew)); exact HO454.out)) k_ hk_), (Kd.freshB (g := gb449) (o := .cells #[.slice A0_0 l0_0.length c0_0] 24 (0, 0)) (by (with_reducible repeat (first | refine blk_drewN ?_ _ | refine blk_drew ?_ | refine blk_alloc ?_ _)); exact BK449.out) k_ hk_), (Kd.freshB (g := gb450) (o := .cells #[.slice A1_0 l1_0.length c1_0] 24 (0, 0)) (by (with_reducible repeat (first | refine blk_drewN ?_ _ | refine blk_drew ?_ | refine blk_alloc ?_ _)); exact BK450.out) k_ hk_)⟩)) (below_size (by repeat (first | (with_reducible first | exact HB.out | apply below_alloc | apply pw_below_drewN | apply below_drew1 | refine below_set ?_ GE449.out | refine below_set ?_ GE450.out) | exact HB.out)))); have n4_ := Aside0.mk (blk_below (g := gb449) (o := .cells #[.slice A0_0 l0_0.length c0_0] 24 (0, 0)) (by (with_reducible repeat (first | refine blk_drewN ?_ _ | refine blk_drew ?_ | refine blk_alloc ?_ _)); exact BK449.out) hb); have n5_ := Aside0.mk (blk_below (g := gb450) (o := .cells #[.slice A1_0 l1_0.length c1_0] 24 (0, 0)) (by (with_reducible repeat (first | refine blk_drewN ?_ _ | refine blk_drew ?_ | refine blk_alloc ?_ _)); exact BK450.out) hb); have n6_ := Aside0.mk (below_step (by repeat (first | (with_reducible first | exact HB.out | apply below_alloc | apply pw_below_drewN | apply below_drew1 | refine below_set ?_ GE449.out | refine below_set ?_ GE450.out) | exact HB.out)) hb); clear HO0_0; clear HO1_0; clear HO454; clear BK449; clear BK450; clear HB; have HO0_0 := n0_; have HO1_0 := n1_; have HO454 := n2_; have HO459 := n3_; have BK449 := n4_; have BK450 := n5_; have HB := n6_; clear n0_ n1_ n2_ n3_ n4_ n5_ n6_; (try clear hb); (try clear hb2); (try clear hk); (try clear hi); (try clear ho0)) | ((with_reducible refine gate_dst (N := 7) rfl ?_); (try (refine gate_guard (by rfl) ?_; dsimp only)); refine box_event ?hg (N := 7) ?hd (cs := #[.slice none 0 0]) (t := 24) ?hr ?_; (case hd => rfl); (case hg => rfl); (case hr => first | (go_simp; done) | (go_simp; rfl)); intro gb461 hg w62 hbox hb; have n0_ := Aside0.mk (Kd.V_below (Kd.V_elderB (by (with_reducible repeat (first | apply Kd.V_alloc | apply Kd.V_drewN | apply Kd.V_drew)); exact HO0_0.out) gb461 (Nat.le_of_eq hg.symm)) hb); have n1_ := Aside0.mk (Kd.V_below (Kd.V_elderB (by (with_reducible repeat (first | apply Kd.V_alloc | apply Kd.V_drewN | apply Kd.V_drew)); exact HO1_0.out) gb461 (Nat.le_of_eq hg.symm)) hb); have n2_ := Aside0.mk (Kd.N_below (Kd.N_elderB (by (with_reducible repeat (first | apply Kd.N_alloc | apply Kd.N_drewN | apply Kd.N_drew)); exact HO454.out) gb461 (Nat.le_of_eq hg.symm)) hb); have n3_ := Aside0.mk (Kd.V_below (Kd.V_elderB (by (with_reducible repeat (first | apply Kd.V_alloc | apply Kd.V_drewN | apply Kd.V_drew)); exact HO459.out) gb461 (Nat.le_of_eq hg.symm)) hb); have n4_ := Aside0.mk (blk_below (g := gb449) (o := .cells #[.slice A0_0 l0_0.length c0_0] 24 (0, 0)) (by (with_reducible repeat (first | refine blk_drewN ?_ _ | refine blk_drew ?_ | refine blk_alloc ?_ _)); exact BK449.out) hb); have n5_ := Aside0.mk (blk_below (g := gb450) (o := .cells #[.slice A1_0 l1_0.length c1_0] 24 (0, 0)) (by (with_reducible repeat (first | refine blk_drewN ?_ _ | refine blk_drew ?_ | refine blk_alloc ?_ _)); exact BK450.out) hb); have n6_ := Aside0.mk (below_step (by repeat (first | (with_reducible first | exact HB.out | apply below_alloc | apply pw_below_drewN | apply below_drew1 | refine below_set ?_ GE449.out | refine below_set ?_ GE450.out) | exact HB.out)) hb); have n7_ := Aside0.mk (hbox); have n8_ := Aside0.mk ((by rw [hg]; exact (below_size (by repeat (first | (with_reducible first | exact HB.out | apply below_alloc | apply pw_below_drewN | apply below_drew1 | refine below_set ?_ GE449.out | refine below_set ?_ GE450.out) | exact HB.out))) : w.heap.size ≤ gb461)); have n9_ := Aside0.mk ((by rw [hg]; exact (below_size (by repeat (first | (with_reducible first | exact HB.out | apply below_alloc | apply pw_below_drewN | apply below_drew1 | refine below_set ?_ GE449.out | refine below_set ?_ GE450.out) | exact HB.out))) : w.heap.size ≤ gb461)); have n10_ := Aside0.mk ((by rw [hg]; exact Nat.ne_of_lt (blk_lt (g := gb449) (o := .cells #[.slice A0_0 l0_0.length c0_0] 24 (0, 0)) (by (with_reducible repeat (first | refine blk_drewN ?_ _ | refine blk_drew ?_ | refine blk_alloc ?_ _)); exact BK449.out)) : gb449 ≠ gb461)); have n11_ := Aside0.mk ((by rw [hg]; exact Nat.ne_of_gt (blk_lt (g := gb449) (o := .cells #[.slice A0_0 l0_0.length c0_0] 24 (0, 0)) (by (with_reducible repeat (first | refine blk_drewN ?_ _ | refine blk_drew ?_ | refine blk_alloc ?_ _)); exact BK449.out)) : gb461 ≠ gb449)); have n12_ := Aside0.mk ((by rw [hg]; exact Nat.ne_of_lt (blk_lt (g := gb450) (o := .cells #[.slice A1_0 l1_0.length c1_0] 24 (0, 0)) (by (with_reducible repeat (first | refine blk_drewN ?_ _ | refine blk_drew ?_ | refine blk_alloc ?_ _)); exact BK450.out)) : gb450 ≠ gb461)); have n13_ := Aside0.mk ((by rw [hg]; exact Nat.ne_of_gt (blk_lt (g := gb450) (o := .cells #[.slice A1_0 l1_0.length c1_0] 24 (0, 0)) (by (with_reducible repeat (first | refine blk_drewN ?_ _ | refine blk_drew ?_ | refine blk_alloc ?_ _)); exact BK450.out)) : gb461 ≠ gb450)); clear HO0_0; clear HO1_0; clear HO454; clear HO459; clear BK449; clear BK450; clear HB; have HO0_0 := n0_; have HO1_0 := n1_; have HO454 := n2_; have HO459 := n3_; have BK449 := n4_; have BK450 := n5_; have HB := n6_; have BK461 := n7_; have GW461 := n8_; have GE461 := n9_; have NB449_461 := n10_; have NB461_449 := n11_; have NB450_461 := n12_; have NB461_450 := n13_; clear n0_ n1_ n2_ n3_ n4_ n5_ n6_ n7_ n8_ n9_ n10_ n11_ n12_ n13_; clear hb hbox hg; obtain ⟨Ao63, co63, eo63⟩ := Kd.V_slice HO459.out; subst eo63; have hnb64 := NB461_449.out; have hnc64 := NB449_461.out; have hnb65 := NB461_450.out; have hnc65 := NB450_461.out; have hcz66_0 : w62.cell? ⟨gb461, 0, none⟩ = some (.slice none 0 0) := (blk_cell BK461.out 0).trans rfl; have hfz66_0 := blk_frozen BK461.out 0) | ((with_reducible refine gate_callee (f := 23) rfl ?_); refine goesL_ (some 28) rfl rfl Tryd.func23 (by kernel_rfl) rfl #[.int .i64 a2] rfl (by (try simp only [List.map_toArray, List.map_cons, List.map_nil]); first | done | rfl | (simp only [List.length_drop, List.length_take]; rfl)) ?_; (with_reducible refine (ancepsref02_Of.calls k a2 t462 t465 _ A9.out).mono ?_); rintro e w67 ⟨v463, rfl, ho0, hb⟩; refine ⟨_, rfl, ?_⟩; have n0_ := Aside0.mk (Kd.V_elder' (by (with_reducible repeat (first | apply Kd.V_alloc | apply Kd.V_drewN | apply Kd.V_drew)); exact (Kd.V_mono (Kd.V_far (p := ⟨gb461, 0, none⟩) (Kd.V_mono HO0_0.out (fun k_ hk => (⟨hk, hk.2⟩ : _ ∧ k_ ≠ gb461))) (fun _ hk => by first | exact hk.2 | grind) (.slice Ao63 t457.length co63)) (fun _ h_ => by first | exact h_.1 | grind))) (Kd.R_base ho0) hb); have n1_ := Aside0.mk (Kd.V_elder' (by (with_reducible repeat (first | apply Kd.V_alloc | apply Kd.V_drewN | apply Kd.V_drew)); exact (Kd.V_mono (Kd.V_far (p := ⟨gb461, 0, none⟩) (Kd.V_mono HO1_0.out (fun k_ hk => (⟨hk, hk.2⟩ : _ ∧ k_ ≠ gb461))) (fun _ hk => by first | exact hk.2 | grind) (.slice Ao63 t457.length co63)) (fun _ h_ => by first | exact h_.1 | grind))) (Kd.R_base ho0) hb); have n2_ := Aside0.mk (Kd.N_elder' (by (with_reducible repeat (first | apply Kd.N_alloc | apply Kd.N_drewN | apply Kd.N_drew)); exact (Kd.N_mono (Kd.N_far (p := ⟨gb461, 0, none⟩) (Kd.N_mono HO454.out (fun k_ hk => (⟨hk, hk.2⟩ : _ ∧ k_ ≠ gb461))) (fun _ hk => by first | exact hk.2 | grind) (.slice Ao63 t457.length co63)) (fun _ h_ => by first | exact h_.1 | grind))) (Kd.R_base ho0) hb); have n3_ := Aside0.mk (Kd.V_elder' (by (with_reducible repeat (first | apply Kd.V_alloc | apply Kd.V_drewN | apply Kd.V_drew)); exact (Kd.V_mono (Kd.V_far (p := ⟨gb461, 0, none⟩) (Kd.V_mono HO459.out (fun k_ hk => (⟨hk, hk.2⟩ : _ ∧ k_ ≠ gb461))) (fun _ hk => by first | exact hk.2 | grind) (.slice Ao63 t457.length co63)) (fun _ h_ => by first | exact h_.1 | grind))) (Kd.R_base ho0) hb); have n4_ := Aside0.mk (Kd.R_lower (Kd.R_newM (M := fun k_ => (w.heap.size ≤ k_)) ho0 (below_size (by repeat (first | (with_reducible first | exact HB.out | apply below_alloc | apply pw_below_drewN | apply below_drew1 | refine below_set ?_ GE449.out | refine below_set ?_ GE450.out | refine below_set ?_ GE461.out) | exact HB.out))) (fun k_ h_ => h_)) (below_size (by repeat (first | (with_reducible first | exact HB.out | apply below_alloc | apply pw_below_drewN | apply below_drew1 | refine below_set ?_ GE449.out | refine below_set ?_ GE450.out | refine below_set ?_ GE461.out) | exact HB.out)))); have n5_ := Aside0.mk (blk_below (g := gb449) (o := .cells #[.slice A0_0 l0_0.length c0_0] 24 (0, 0)) (by (with_reducible repeat (first | refine blk_drewN ?_ _ | refine blk_drew ?_ | refine blk_alloc ?_ _)); refine blk_far ?_ NB449_461.out _; (with_reducible repeat (first | refine blk_drewN ?_ _ | refine blk_drew ?_ | refine blk_alloc ?_ _)); exact BK449.out) hb); have n6_ := Aside0.mk (blk_below (g := gb450) (o := .cells #[.slice A1_0 l1_0.length c1_0] 24 (0, 0)) (by (with_reducible repeat (first | refine blk_drewN ?_ _ | refine blk_drew ?_ | refine blk_alloc ?_ _)); refine blk_far ?_ NB450_461.out _; (with_reducible repeat (first | refine blk_drewN ?_ _ | refine blk_drew ?_ | refine blk_alloc ?_ _)); exact BK450.out) hb); have n7_ := Aside0.mk (blk_below (g := gb461) (o := .cells #[.slice Ao63 t457.length co63] 24 (0, 0)) (by (with_reducible repeat (first | refine blk_drewN ?_ _ | refine blk_drew ?_ | refine blk_alloc ?_ _)); refine blk_put (cs := #[.slice none 0 0]) ?_ 0 _ rfl; (with_reducible repeat (first | refine blk_drewN ?_ _ | refine blk_drew ?_ | refine blk_alloc ?_ _)); exact BK461.out) hb); have n8_ := Aside0.mk (below_step (by repeat (first | (with_reducible first | exact HB.out | apply below_alloc | apply pw_below_drewN | apply below_drew1 | refine below_set ?_ GE449.out | refine below_set ?_ GE450.out | refine below_set ?_ GE461.out) | exact HB.out)) hb); clear HO0_0; clear HO1_0; clear HO454; clear HO459; clear BK449; clear BK450; clear BK461; clear HB; have HO0_0 := n0_; have HO1_0 := n1_; have HO454 := n2_; have HO459 := n3_; have HO464 := n4_; have BK449 := n5_; have BK450 := n6_; have BK461 := n7_; have HB := n8_; clear n0_ n1_ n2_ n3_ n4_ n5_ n6_ n7_ n8_; (try clear hb); (try clear hb2); (try clear hk); (try clear hi); (try clear ho0)) | ((with_reducible refine gate_dst (N := 9) rfl ?_); (try (refine gate_guard (by rfl) ?_; dsimp only)); refine box_event ?hg (N := 9) ?hd (cs := #[.slice none 0 0]) (t := 24) ?hr ?_; (case hd => rfl); (case hg => rfl); (case hr => first | (go_simp; done) | (go_simp; rfl)); intro gb466 hg w68 hbox hb; have n0_ := Aside0.mk (Kd.V_below (Kd.V_elderB (by (with_reducible repeat (first | apply Kd.V_alloc | apply Kd.V_drewN | apply Kd.V_drew)); exact HO0_0.out) gb466 (Nat.le_of_eq hg.symm)) hb); have n1_ := Aside0.mk (Kd.V_below (Kd.V_elderB (by (with_reducible repeat (first | apply Kd.V_alloc | apply Kd.V_drewN | apply Kd.V_drew)); exact HO1_0.out) gb466 (Nat.le_of_eq hg.symm)) hb); have n2_ := Aside0.mk (Kd.N_below (Kd.N_elderB (by (with_reducible repeat (first | apply Kd.N_alloc | apply Kd.N_drewN | apply Kd.N_drew)); exact HO454.out) gb466 (Nat.le_of_eq hg.symm)) hb); have n3_ := Aside0.mk (Kd.V_below (Kd.V_elderB (by (with_reducible repeat (first | apply Kd.V_alloc | apply Kd.V_drewN | apply Kd.V_drew)); exact HO459.out) gb466 (Nat.le_of_eq hg.symm)) hb); have n4_ := Aside0.mk (Kd.R_below (by (with_reducible repeat (first | apply Kd.R_alloc | apply Kd.R_drewN | apply Kd.R_drew)); exact HO464.out) hb); have n5_ := Aside0.mk (blk_below (g := gb449) (o := .cells #[.slice A0_0 l0_0.length c0_0] 24 (0, 0)) (by (with_reducible repeat (first | refine blk_drewN ?_ _ | refine blk_drew ?_ | refine blk_alloc ?_ _)); exact BK449.out) hb); have n6_ := Aside0.mk (blk_below (g := gb450) (o := .cells #[.slice A1_0 l1_0.length c1_0] 24 (0, 0)) (by (with_reducible repeat (first | refine blk_drewN ?_ _ | refine blk_drew ?_ | refine blk_alloc ?_ _)); exact BK450.out) hb); have n7_ := Aside0.mk (blk_below (g := gb461) (o := .cells #[.slice Ao63 t457.length co63] 24 (0, 0)) (by (with_reducible repeat (first | refine blk_drewN ?_ _ | refine blk_drew ?_ | refine blk_alloc ?_ _)); exact BK461.out) hb); have n8_ := Aside0.mk (below_step (by repeat (first | (with_reducible first | exact HB.out | apply below_alloc | apply pw_below_drewN | apply below_drew1 | refine below_set ?_ GE449.out | refine below_set ?_ GE450.out | refine below_set ?_ GE461.out) | exact HB.out)) hb); have n9_ := Aside0.mk (hbox); have n10_ := Aside0.mk ((by rw [hg]; exact (below_size (by repeat (first | (with_reducible first | exact HB.out | apply below_alloc | apply pw_below_drewN | apply below_drew1 | refine below_set ?_ GE449.out | refine below_set ?_ GE450.out | refine below_set ?_ GE461.out) | exact HB.out))) : w.heap.size ≤ gb466)); have n11_ := Aside0.mk ((by rw [hg]; exact (below_size (by repeat (first | (with_reducible first | exact HB.out | apply below_alloc | apply pw_below_drewN | apply below_drew1 | refine below_set ?_ GE449.out | refine below_set ?_ GE450.out | refine below_set ?_ GE461.out) | exact HB.out))) : w.heap.size ≤ gb466)); have n12_ := Aside0.mk ((by rw [hg]; exact Nat.ne_of_lt (blk_lt (g := gb449) (o := .cells #[.slice A0_0 l0_0.length c0_0] 24 (0, 0)) (by (with_reducible repeat (first | refine blk_drewN ?_ _ | refine blk_drew ?_ | refine blk_alloc ?_ _)); exact BK449.out)) : gb449 ≠ gb466)); have n13_ := Aside0.mk ((by rw [hg]; exact Nat.ne_of_gt (blk_lt (g := gb449) (o := .cells #[.slice A0_0 l0_0.length c0_0] 24 (0, 0)) (by (with_reducible repeat (first | refine blk_drewN ?_ _ | refine blk_drew ?_ | refine blk_alloc ?_ _)); exact BK449.out)) : gb466 ≠ gb449)); have n14_ := Aside0.mk ((by rw [hg]; exact Nat.ne_of_lt (blk_lt (g := gb450) (o := .cells #[.slice A1_0 l1_0.length c1_0] 24 (0, 0)) (by (with_reducible repeat (first | refine blk_drewN ?_ _ | refine blk_drew ?_ | refine blk_alloc ?_ _)); exact BK450.out)) : gb450 ≠ gb466)); have n15_ := Aside0.mk ((by rw [hg]; exact Nat.ne_of_gt (blk_lt (g := gb450) (o := .cells #[.slice A1_0 l1_0.length c1_0] 24 (0, 0)) (by (with_reducible repeat (first | refine blk_drewN ?_ _ | refine blk_drew ?_ | refine blk_alloc ?_ _)); exact BK450.out)) : gb466 ≠ gb450)); have n16_ := Aside0.mk ((by rw [hg]; exact Nat.ne_of_lt (blk_lt (g := gb461) (o := .cells #[.slice Ao63 t457.length co63] 24 (0, 0)) (by (with_reducible repeat (first | refine blk_drewN ?_ _ | refine blk_drew ?_ | refine blk_alloc ?_ _)); exact BK461.out)) : gb461 ≠ gb466)); have n17_ := Aside0.mk ((by rw [hg]; exact Nat.ne_of_gt (blk_lt (g := gb461) (o := .cells #[.slice Ao63 t457.length co63] 24 (0, 0)) (by (with_reducible repeat (first | refine blk_drewN ?_ _ | refine blk_drew ?_ | refine blk_alloc ?_ _)); exact BK461.out)) : gb466 ≠ gb461)); clear HO0_0; clear HO1_0; clear HO454; clear HO459; clear HO464; clear BK449; clear BK450; clear BK461; clear HB; have HO0_0 := n0_; have HO1_0 := n1_; have HO454 := n2_; have HO459 := n3_; have HO464 := n4_; have BK449 := n5_; have BK450 := n6_; have BK461 := n7_; have HB := n8_; have BK466 := n9_; have GW466 := n10_; have GE466 := n11_; have NB449_466 := n12_; have NB466_449 := n13_; have NB450_466 := n14_; have NB466_450 := n15_; have NB461_466 := n16_; have NB466_461 := n17_; clear n0_ n1_ n2_ n3_ n4_ n5_ n6_ n7_ n8_ n9_ n10_ n11_ n12_ n13_ n14_ n15_ n16_ n17_; clear hb hbox hg; obtain ⟨Ao69, co69, eo69⟩ := Kd.R_slice HO464.out; subst eo69; have hnb70 := NB466_449.out; have hnc70 := NB449_466.out; have hnb71 := NB466_450.out; have hnc71 := NB450_466.out; have hnb72 := NB466_461.out; have hnc72 := NB461_466.out; have hcz73_0 : w68.cell? ⟨gb466, 0, none⟩ = some (.slice none 0 0) := (blk_cell BK466.out 0).trans rfl; have hfz73_0 := blk_frozen BK466.out 0))
            have n0_ : Aside0 (Kd.V (Kd.int .i64) 3 (w68.setCell ⟨gb466, 0, none⟩ (.slice Ao69 t462.length co69)) w.heap.size (fun k_ => ((P0_0_ k_ ∨ P1_0_ k_) ∨ w.heap.size ≤ k_) ∧ some k_ ≠ (.slice Ao60 y452.length co60 : Value).ownBlock ∧ some k_ ≠ (.slice Ao69 t462.length co69 : Value).ownBlock ∧ k_ ≠ gb449 ∧ k_ ≠ gb450 ∧ k_ ≠ gb461 ∧ k_ ≠ gb466) (.slice A0_0 l0_0.length c0_0) l0_0) := ⟨by (with_reducible repeat (first | apply Kd.V_alloc | apply Kd.V_drewN | apply Kd.V_drew)); exact Kd.V_mono (Kd.V_far (p := ⟨gb466, 0, none⟩) (Kd.V_mono HO0_0.out (fun k_ hk => (⟨hk, hk.2⟩ : _ ∧ k_ ≠ gb466))) (fun _ hk => by first | exact hk.2 | grind) (.slice Ao69 t462.length co69)) (fun _ hk => by first | exact ⟨hk.1.1.1.1.1.1.1, ⟨hk.1.1.1.1.2, ⟨hk.1.1.2, ⟨hk.1.1.1.1.1.1.2, ⟨hk.1.1.1.1.1.2, ⟨hk.1.1.1.2, hk.1.2⟩⟩⟩⟩⟩⟩ | grind)⟩
            have n1_ : Aside0 (Kd.V (Kd.int .i64) 3 (w68.setCell ⟨gb466, 0, none⟩ (.slice Ao69 t462.length co69)) w.heap.size (fun k_ => ((P0_0_ k_ ∨ P1_0_ k_) ∨ w.heap.size ≤ k_) ∧ some k_ ≠ (.slice Ao60 y452.length co60 : Value).ownBlock ∧ some k_ ≠ (.slice Ao69 t462.length co69 : Value).ownBlock ∧ k_ ≠ gb449 ∧ k_ ≠ gb450 ∧ k_ ≠ gb461 ∧ k_ ≠ gb466) (.slice A1_0 l1_0.length c1_0) l1_0) := ⟨by (with_reducible repeat (first | apply Kd.V_alloc | apply Kd.V_drewN | apply Kd.V_drew)); exact Kd.V_mono (Kd.V_far (p := ⟨gb466, 0, none⟩) (Kd.V_mono HO1_0.out (fun k_ hk => (⟨hk, hk.2⟩ : _ ∧ k_ ≠ gb466))) (fun _ hk => by first | exact hk.2 | grind) (.slice Ao69 t462.length co69)) (fun _ hk => by first | exact ⟨hk.1.1.1.1.1.1.1, ⟨hk.1.1.1.1.2, ⟨hk.1.1.2, ⟨hk.1.1.1.1.1.1.2, ⟨hk.1.1.1.1.1.2, ⟨hk.1.1.1.2, hk.1.2⟩⟩⟩⟩⟩⟩ | grind)⟩
            have n2_ : Aside0 (Kd.N k24 24 (w68.setCell ⟨gb466, 0, none⟩ (.slice Ao69 t462.length co69)) w.heap.size (fun k_ => ((P0_0_ k_ ∨ P1_0_ k_) ∨ w.heap.size ≤ k_) ∧ some k_ ≠ (.slice Ao69 t462.length co69 : Value).ownBlock ∧ k_ ≠ gb449 ∧ k_ ≠ gb450 ∧ k_ ≠ gb461 ∧ k_ ≠ gb466) (.slice Ao60 y452.length co60) y452) := ⟨by (with_reducible repeat (first | apply Kd.N_alloc | apply Kd.N_drewN | apply Kd.N_drew)); exact Kd.N_mono (Kd.N_far (p := ⟨gb466, 0, none⟩) (Kd.N_mono HO454.out (fun k_ hk => (⟨hk, hk.2⟩ : _ ∧ k_ ≠ gb466))) (fun _ hk => by first | exact hk.2 | grind) (.slice Ao69 t462.length co69)) (fun _ hk => by first | exact ⟨hk.1.1.1.1.1, ⟨hk.1.1.2, ⟨hk.1.1.1.1.2.1, ⟨hk.1.1.1.1.2.2, ⟨hk.1.1.1.2, hk.1.2⟩⟩⟩⟩⟩ | grind)⟩
            have n3_ : Aside0 (Kd.V (Kd.int .i64) 3 (w68.setCell ⟨gb466, 0, none⟩ (.slice Ao69 t462.length co69)) w.heap.size (fun k_ => ((P0_0_ k_ ∨ P1_0_ k_) ∨ w.heap.size ≤ k_) ∧ some k_ ≠ (.slice Ao60 y452.length co60 : Value).ownBlock ∧ some k_ ≠ (.slice Ao69 t462.length co69 : Value).ownBlock ∧ k_ ≠ gb449 ∧ k_ ≠ gb450 ∧ k_ ≠ gb461 ∧ k_ ≠ gb466) (.slice Ao63 t457.length co63) t457) := ⟨by (with_reducible repeat (first | apply Kd.V_alloc | apply Kd.V_drewN | apply Kd.V_drew)); exact Kd.V_mono (Kd.V_far (p := ⟨gb466, 0, none⟩) (Kd.V_mono HO459.out (fun k_ hk => (⟨hk, hk.2⟩ : _ ∧ k_ ≠ gb466))) (fun _ hk => by first | exact hk.2 | grind) (.slice Ao69 t462.length co69)) (fun _ hk => by first | exact ⟨hk.1.1.1.1.1, ⟨hk.1.1.1.1.2.1, ⟨hk.1.1.2, ⟨hk.1.1.1.1.2.2.1, ⟨hk.1.1.1.1.2.2.2, ⟨hk.1.1.1.2, hk.1.2⟩⟩⟩⟩⟩⟩ | grind)⟩
            have n4_ : Aside0 (Kd.R (Kd.int .i64) 3 (w68.setCell ⟨gb466, 0, none⟩ (.slice Ao69 t462.length co69)) w.heap.size (fun k_ => (w.heap.size ≤ k_)) (.slice Ao69 t462.length co69) t462) := ⟨by (with_reducible repeat (first | apply Kd.R_alloc | apply Kd.R_drewN | apply Kd.R_drew)); exact Kd.R_mono (Kd.R_far (p := ⟨gb466, 0, none⟩) (Kd.R_types HO464.out BK466.out (by decide)) (fun _ hk => by first | exact hk.2 | grind) (.slice Ao69 t462.length co69)) (fun _ hk => by first | exact hk.1.1 | grind)⟩
            have n5_ : Aside0 ((w68.setCell ⟨gb466, 0, none⟩ (.slice Ao69 t462.length co69)).heap[gb449]? = some (.cells #[.slice A0_0 l0_0.length c0_0] 24 (0, 0))) := ⟨by (with_reducible repeat (first | refine blk_drewN ?_ _ | refine blk_drew ?_ | refine blk_alloc ?_ _)); refine blk_far ?_ NB449_466.out _; (with_reducible repeat (first | refine blk_drewN ?_ _ | refine blk_drew ?_ | refine blk_alloc ?_ _)); exact BK449.out⟩
            have n6_ : Aside0 ((w68.setCell ⟨gb466, 0, none⟩ (.slice Ao69 t462.length co69)).heap[gb450]? = some (.cells #[.slice A1_0 l1_0.length c1_0] 24 (0, 0))) := ⟨by (with_reducible repeat (first | refine blk_drewN ?_ _ | refine blk_drew ?_ | refine blk_alloc ?_ _)); refine blk_far ?_ NB450_466.out _; (with_reducible repeat (first | refine blk_drewN ?_ _ | refine blk_drew ?_ | refine blk_alloc ?_ _)); exact BK450.out⟩
            have n7_ : Aside0 ((w68.setCell ⟨gb466, 0, none⟩ (.slice Ao69 t462.length co69)).heap[gb461]? = some (.cells #[.slice Ao63 t457.length co63] 24 (0, 0))) := ⟨by (with_reducible repeat (first | refine blk_drewN ?_ _ | refine blk_drew ?_ | refine blk_alloc ?_ _)); refine blk_far ?_ NB461_466.out _; (with_reducible repeat (first | refine blk_drewN ?_ _ | refine blk_drew ?_ | refine blk_alloc ?_ _)); exact BK461.out⟩
            have n8_ : Aside0 ((w68.setCell ⟨gb466, 0, none⟩ (.slice Ao69 t462.length co69)).heap[gb466]? = some (.cells #[.slice Ao69 t462.length co69] 24 (0, 0))) := ⟨by (with_reducible repeat (first | refine blk_drewN ?_ _ | refine blk_drew ?_ | refine blk_alloc ?_ _)); refine blk_put (cs := #[.slice none 0 0]) ?_ 0 _ rfl; (with_reducible repeat (first | refine blk_drewN ?_ _ | refine blk_drew ?_ | refine blk_alloc ?_ _)); exact BK466.out⟩
            have n9_ : Aside0 (Below w.heap.size w (w68.setCell ⟨gb466, 0, none⟩ (.slice Ao69 t462.length co69))) := ⟨by repeat (first | (with_reducible first | exact HB.out | apply below_alloc | apply pw_below_drewN | apply below_drew1 | refine below_set ?_ GE449.out | refine below_set ?_ GE450.out | refine below_set ?_ GE461.out | refine below_set ?_ GE466.out) | exact HB.out)⟩
            (try clear HO0_0)
            (try clear HO1_0)
            (try clear HO454)
            (try clear HO459)
            (try clear HO464)
            (try clear BK449)
            (try clear BK450)
            (try clear BK461)
            (try clear BK466)
            (try clear HB)
            generalize (w68.setCell ⟨gb466, 0, none⟩ (.slice Ao69 t462.length co69)) = w74 at n0_ n1_ n2_ n3_ n4_ n5_ n6_ n7_ n8_ n9_ ⊢
            have HO0_0 := n0_
            have HO1_0 := n1_
            have HO454 := n2_
            have HO459 := n3_
            have HO464 := n4_
            have BK449 := n5_
            have BK450 := n6_
            have BK461 := n7_
            have BK466 := n8_
            have HB := n9_
            clear n0_ n1_ n2_ n3_ n4_ n5_ n6_ n7_ n8_ n9_
            have n0_ := Aside0.mk (Kd.V_drew HO0_0.out)
            have n1_ := Aside0.mk (Kd.V_drew HO1_0.out)
            have n2_ := Aside0.mk (Kd.N_drew HO454.out)
            have n3_ := Aside0.mk (Kd.V_drew HO459.out)
            have n4_ := Aside0.mk (Kd.R_drew HO464.out)
            have n5_ := Aside0.mk (blk_drew BK449.out)
            have n6_ := Aside0.mk (blk_drew BK450.out)
            have n7_ := Aside0.mk (blk_drew BK461.out)
            have n8_ := Aside0.mk (blk_drew BK466.out)
            have n9_ := Aside0.mk (below_drew1 HB.out)
            clear HO0_0
            clear HO1_0
            clear HO454
            clear HO459
            clear HO464
            clear BK449
            clear BK450
            clear BK461
            clear BK466
            clear HB
            have HO0_0 := n0_
            have HO1_0 := n1_
            have HO454 := n2_
            have HO459 := n3_
            have HO464 := n4_
            have BK449 := n5_
            have BK450 := n6_
            have BK461 := n7_
            have BK466 := n8_
            have HB := n9_
            clear n0_ n1_ n2_ n3_ n4_ n5_ n6_ n7_ n8_ n9_
            refine start_ (n := 35) (S := fun w' => w'.cell? ⟨gb449, 0, none⟩ = some (.slice A0_0 l0_0.length c0_0) ∧ w'.cell? ⟨gb450, 0, none⟩ = some (.slice A1_0 l1_0.length c1_0)) (ds := []) #[false, false, false, false, false, false, false, false, false, false, false, false, false, false, false, false, false, false, false, false, false, false, false, false, false, false, false, false, false, false, false, false, false, false, false] (by kernel_rfl) rfl rfl ⟨(blk_cell BK449.out 0).trans rfl, (blk_cell BK450.out 0).trans rfl⟩ (fun hHeld => ?_); refine with_tabW ancepslaw02_NaturalValid.tab5 ancepslaw02_NaturalValid.bits5 (fun HT_ HW_ => ?_)
            generalize w74.drew = w75 at HO0_0 HO1_0 HO454 HO459 HO464 BK449 BK450 BK461 BK466 HB hHeld ⊢
            refine take_ (i := 0) (N := some 31) (v := ?_) (a' := ?_) #[true, false, false, false, false, false, false, false, false, false, false, false, false, false, false, false, false, false, false, false, false, false, false, false, false, false, false, false, false, false, false, false, false, false, false] rfl rfl (take_ofW HT_.out HW_.out (by kernel_rfl)) (fun _ _ _ h => h) (Or.inl ⟨by rfl, ?_⟩) hHeld ?_ ?_
            rotate_left
            · rintro w' ⟨s0, s1⟩
              go_simp
              with_reducible rfl
            rotate_left
            · simp only [Act.put, List.setIfInBounds_toArray, List.set_cons_zero, List.set_cons_succ, i64_w, i32_w]
              rfl
            refine take_ (i := 2) (N := some 33) (v := ?_) (a' := ?_) #[true, false, true, false, false, false, false, false, false, false, false, false, false, false, false, false, false, false, false, false, false, false, false, false, false, false, false, false, false, false, false, false, false, false, false] rfl rfl (take_ofW HT_.out HW_.out (by kernel_rfl)) (fun _ _ _ h => h) (Or.inl ⟨by rfl, ?_⟩) hHeld ?_ ?_
            rotate_left
            · rintro w' ⟨s0, s1⟩
              go_simp
              with_reducible rfl
            rotate_left
            · simp only [Act.put, List.setIfInBounds_toArray, List.set_cons_zero, List.set_cons_succ, i64_w, i32_w]
              rfl
            refine one_ (i := 1) (N := some 32) #[true, true, true, false, false, false, false, false, false, false, false, false, false, false, false, false, false, false, false, false, false, false, false, false, false, false, false, false, false, false, false, false, false, false, false] rfl rfl (one_of HT_.out (by kernel_rfl)) (by decide) (fun K hK => ?_)
            refine goes_ Tryd.func24 (by kernel_rfl) rfl #[.agg #[.slice A0_0 l0_0.length c0_0]] (by rfl) rfl rfl (by (try simp only [List.map_toArray, List.map_cons, List.map_nil]); first | done | rfl | (simp only [List.length_drop, List.length_take]; rfl)) ?_
            with_reducible refine (natural_Valid.calls _ _ l0_0 t467 _ ?side1 ?side2 A10.out).mono ?_
            (case side1 => repeat (first | exact (Kd.V_reads' HO0_0.out).2.2 | (with_reducible refine Kd.C_alloc ?_ _) | (with_reducible refine Kd.C_drewN ?_ _) | (with_reducible refine Kd.C_drew ?_)))
            (case side2 => exact (Kd.V_reads' HO0_0.out).2.1)
            rintro e w76 ⟨rfl, hb⟩
            refine ⟨_, rfl, ?_⟩
            have n0_ := Aside0.mk (Kd.V_below (by (with_reducible repeat (first | apply Kd.V_alloc | apply Kd.V_drewN | apply Kd.V_drew)); exact HO0_0.out) hb)
            have n1_ := Aside0.mk (Kd.V_below (by (with_reducible repeat (first | apply Kd.V_alloc | apply Kd.V_drewN | apply Kd.V_drew)); exact HO1_0.out) hb)
            have n2_ := Aside0.mk (Kd.N_below (by (with_reducible repeat (first | apply Kd.N_alloc | apply Kd.N_drewN | apply Kd.N_drew)); exact HO454.out) hb)
            have n3_ := Aside0.mk (Kd.V_below (by (with_reducible repeat (first | apply Kd.V_alloc | apply Kd.V_drewN | apply Kd.V_drew)); exact HO459.out) hb)
            have n4_ := Aside0.mk (Kd.R_below (by (with_reducible repeat (first | apply Kd.R_alloc | apply Kd.R_drewN | apply Kd.R_drew)); exact HO464.out) hb)
            have n5_ := Aside0.mk (blk_below (g := gb449) (o := .cells #[.slice A0_0 l0_0.length c0_0] 24 (0, 0)) (by (with_reducible repeat (first | refine blk_drewN ?_ _ | refine blk_drew ?_ | refine blk_alloc ?_ _)); exact BK449.out) hb)
            have n6_ := Aside0.mk (blk_below (g := gb450) (o := .cells #[.slice A1_0 l1_0.length c1_0] 24 (0, 0)) (by (with_reducible repeat (first | refine blk_drewN ?_ _ | refine blk_drew ?_ | refine blk_alloc ?_ _)); exact BK450.out) hb)
            have n7_ := Aside0.mk (blk_below (g := gb461) (o := .cells #[.slice Ao63 t457.length co63] 24 (0, 0)) (by (with_reducible repeat (first | refine blk_drewN ?_ _ | refine blk_drew ?_ | refine blk_alloc ?_ _)); exact BK461.out) hb)
            have n8_ := Aside0.mk (blk_below (g := gb466) (o := .cells #[.slice Ao69 t462.length co69] 24 (0, 0)) (by (with_reducible repeat (first | refine blk_drewN ?_ _ | refine blk_drew ?_ | refine blk_alloc ?_ _)); exact BK466.out) hb)
            have n9_ := Aside0.mk (below_step (by repeat (first | (with_reducible first | exact HB.out | apply below_alloc | apply pw_below_drewN | apply below_drew1 | refine below_set ?_ GE449.out | refine below_set ?_ GE450.out | refine below_set ?_ GE461.out | refine below_set ?_ GE466.out) | exact HB.out)) hb)
            clear HO0_0
            clear HO1_0
            clear HO454
            clear HO459
            clear HO464
            clear BK449
            clear BK450
            clear BK461
            clear BK466
            clear HB
            have HO0_0 := n0_
            have HO1_0 := n1_
            have HO454 := n2_
            have HO459 := n3_
            have HO464 := n4_
            have BK449 := n5_
            have BK450 := n6_
            have BK461 := n7_
            have BK466 := n8_
            have HB := n9_
            clear n0_ n1_ n2_ n3_ n4_ n5_ n6_ n7_ n8_ n9_
            (try clear hb)
            (try clear hb2)
            (try clear hk)
            (try clear hi)
            refine hK.out _ _ ⟨(blk_cell BK449.out 0).trans rfl, (blk_cell BK450.out 0).trans rfl⟩ (fun hHeld => ?_)
            clear hK K
            refine norm_ (a' := ?_) ?_ ?_
            rotate_left
            · show Act.put _ (some 32) _ = _
              simp only [Act.put, List.setIfInBounds_toArray, List.set_cons_zero, List.set_cons_succ, i64_w, i32_w]
              rfl
            refine one_ (i := 3) (N := some 34) #[true, true, true, true, false, false, false, false, false, false, false, false, false, false, false, false, false, false, false, false, false, false, false, false, false, false, false, false, false, false, false, false, false, false, false] rfl rfl (one_of HT_.out (by kernel_rfl)) (by decide) (fun K hK => ?_)
            refine goes_ Tryd.func25 (by kernel_rfl) rfl #[.agg #[.slice A0_0 l0_0.length c0_0]] (by rfl) rfl rfl (by (try simp only [List.map_toArray, List.map_cons, List.map_nil]); first | done | rfl | (simp only [List.length_drop, List.length_take]; rfl)) ?_
            with_reducible refine (ancepsref02_Valid.calls k _ _ l0_0 t468 _ ?side1 ?side2 A11.out).mono ?_
            (case side1 => repeat (first | exact (Kd.V_reads' HO0_0.out).2.2 | (with_reducible refine Kd.C_alloc ?_ _) | (with_reducible refine Kd.C_drewN ?_ _) | (with_reducible refine Kd.C_drew ?_)))
            (case side2 => exact (Kd.V_reads' HO0_0.out).2.1)
            rintro e w77 ⟨rfl, hb⟩
            refine ⟨_, rfl, ?_⟩
            have n0_ := Aside0.mk (Kd.V_below (by (with_reducible repeat (first | apply Kd.V_alloc | apply Kd.V_drewN | apply Kd.V_drew)); exact HO0_0.out) hb)
            have n1_ := Aside0.mk (Kd.V_below (by (with_reducible repeat (first | apply Kd.V_alloc | apply Kd.V_drewN | apply Kd.V_drew)); exact HO1_0.out) hb)
            have n2_ := Aside0.mk (Kd.N_below (by (with_reducible repeat (first | apply Kd.N_alloc | apply Kd.N_drewN | apply Kd.N_drew)); exact HO454.out) hb)
            have n3_ := Aside0.mk (Kd.V_below (by (with_reducible repeat (first | apply Kd.V_alloc | apply Kd.V_drewN | apply Kd.V_drew)); exact HO459.out) hb)
            have n4_ := Aside0.mk (Kd.R_below (by (with_reducible repeat (first | apply Kd.R_alloc | apply Kd.R_drewN | apply Kd.R_drew)); exact HO464.out) hb)
            have n5_ := Aside0.mk (blk_below (g := gb449) (o := .cells #[.slice A0_0 l0_0.length c0_0] 24 (0, 0)) (by (with_reducible repeat (first | refine blk_drewN ?_ _ | refine blk_drew ?_ | refine blk_alloc ?_ _)); exact BK449.out) hb)
            have n6_ := Aside0.mk (blk_below (g := gb450) (o := .cells #[.slice A1_0 l1_0.length c1_0] 24 (0, 0)) (by (with_reducible repeat (first | refine blk_drewN ?_ _ | refine blk_drew ?_ | refine blk_alloc ?_ _)); exact BK450.out) hb)
            have n7_ := Aside0.mk (blk_below (g := gb461) (o := .cells #[.slice Ao63 t457.length co63] 24 (0, 0)) (by (with_reducible repeat (first | refine blk_drewN ?_ _ | refine blk_drew ?_ | refine blk_alloc ?_ _)); exact BK461.out) hb)
            have n8_ := Aside0.mk (blk_below (g := gb466) (o := .cells #[.slice Ao69 t462.length co69] 24 (0, 0)) (by (with_reducible repeat (first | refine blk_drewN ?_ _ | refine blk_drew ?_ | refine blk_alloc ?_ _)); exact BK466.out) hb)
            have n9_ := Aside0.mk (below_step (by repeat (first | (with_reducible first | exact HB.out | apply below_alloc | apply pw_below_drewN | apply below_drew1 | refine below_set ?_ GE449.out | refine below_set ?_ GE450.out | refine below_set ?_ GE461.out | refine below_set ?_ GE466.out) | exact HB.out)) hb)
            clear HO0_0
            clear HO1_0
            clear HO454
            clear HO459
            clear HO464
            clear BK449
            clear BK450
            clear BK461
            clear BK466
            clear HB
            have HO0_0 := n0_
            have HO1_0 := n1_
            have HO454 := n2_
            have HO459 := n3_
            have HO464 := n4_
            have BK449 := n5_
            have BK450 := n6_
            have BK461 := n7_
            have BK466 := n8_
            have HB := n9_
            clear n0_ n1_ n2_ n3_ n4_ n5_ n6_ n7_ n8_ n9_
            (try clear hb)
            (try clear hb2)
            (try clear hk)
            (try clear hi)
            refine hK.out _ _ ⟨(blk_cell BK449.out 0).trans rfl, (blk_cell BK450.out 0).trans rfl⟩ (fun hHeld => ?_)
            clear hK K
            refine norm_ (a' := ?_) ?_ ?_
            rotate_left
            · show Act.put _ (some 34) _ = _
              simp only [Act.put, List.setIfInBounds_toArray, List.set_cons_zero, List.set_cons_succ, i64_w, i32_w]
              rfl
            refine pure_ (i := 4) (N := some 35) (v := ?_) (a' := ?_) #[true, true, true, true, true, false, false, false, false, false, false, false, false, false, false, false, false, false, false, false, false, false, false, false, false, false, false, false, false, false, false, false, false, false, false] rfl rfl (any_of HT_.out (by kernel_rfl)) (fun _ _ _ h => h) (Or.inl ⟨by rfl, ?_⟩) ?_ ?_
            rotate_left
            · intro w'
              go_simp
              with_reducible rfl
            rotate_left
            · simp only [Act.put, List.setIfInBounds_toArray, List.set_cons_zero, List.set_cons_succ, i64_w, i32_w]
              rfl
            refine pure_ (i := 5) (N := some 36) (v := ?_) (a' := ?_) #[true, true, true, true, true, true, false, false, false, false, false, false, false, false, false, false, false, false, false, false, false, false, false, false, false, false, false, false, false, false, false, false, false, false, false] rfl rfl (any_of HT_.out (by kernel_rfl)) (fun _ _ _ h => h) (Or.inl ⟨by rfl, ?_⟩) ?_ ?_
            rotate_left
            · intro w'
              go_simp
              with_reducible rfl
            rotate_left
            · simp only [Act.put, List.setIfInBounds_toArray, List.set_cons_zero, List.set_cons_succ, i64_w, i32_w]
              rfl
            refine take_ (i := 6) (N := some 37) (v := ?_) (a' := ?_) #[true, true, true, true, true, true, true, false, false, false, false, false, false, false, false, false, false, false, false, false, false, false, false, false, false, false, false, false, false, false, false, false, false, false, false] rfl rfl (take_ofW HT_.out HW_.out (by kernel_rfl)) (fun _ _ _ h => h) (Or.inl ⟨by rfl, ?_⟩) hHeld ?_ ?_
            rotate_left
            · rintro w' ⟨s0, s1⟩
              go_simp
              with_reducible rfl
            rotate_left
            · simp only [Act.put, List.setIfInBounds_toArray, List.set_cons_zero, List.set_cons_succ, i64_w, i32_w]
              rfl
            refine take_ (i := 7) (N := some 38) (v := ?_) (a' := ?_) #[true, true, true, true, true, true, true, true, false, false, false, false, false, false, false, false, false, false, false, false, false, false, false, false, false, false, false, false, false, false, false, false, false, false, false] rfl rfl (take_ofW HT_.out HW_.out (by kernel_rfl)) (fun _ _ _ h => h) (Or.inl ⟨by rfl, ?_⟩) hHeld ?_ ?_
            rotate_left
            · rintro w' ⟨s0, s1⟩
              go_simp
              with_reducible rfl
            rotate_left
            · simp only [Act.put, List.setIfInBounds_toArray, List.set_cons_zero, List.set_cons_succ, i64_w, i32_w]
              rfl
            refine take_ (i := 9) (N := some 40) (v := ?_) (a' := ?_) #[true, true, true, true, true, true, true, true, false, true, false, false, false, false, false, false, false, false, false, false, false, false, false, false, false, false, false, false, false, false, false, false, false, false, false] rfl rfl (take_ofW HT_.out HW_.out (by kernel_rfl)) (fun _ _ _ h => h) (Or.inl ⟨by rfl, ?_⟩) hHeld ?_ ?_
            rotate_left
            · rintro w' ⟨s0, s1⟩
              go_simp
              with_reducible rfl
            rotate_left
            · simp only [Act.put, List.setIfInBounds_toArray, List.set_cons_zero, List.set_cons_succ, i64_w, i32_w]
              rfl
            refine take_ (i := 10) (N := some 41) (v := ?_) (a' := ?_) #[true, true, true, true, true, true, true, true, false, true, true, false, false, false, false, false, false, false, false, false, false, false, false, false, false, false, false, false, false, false, false, false, false, false, false] rfl rfl (take_ofW HT_.out HW_.out (by kernel_rfl)) (fun _ _ _ h => h) (Or.inl ⟨by rfl, ?_⟩) hHeld ?_ ?_
            rotate_left
            · rintro w' ⟨s0, s1⟩
              go_simp
              with_reducible rfl
            rotate_left
            · simp only [Act.put, List.setIfInBounds_toArray, List.set_cons_zero, List.set_cons_succ, i64_w, i32_w]
              rfl
            refine one_ (i := 8) (N := some 39) #[true, true, true, true, true, true, true, true, true, true, true, false, false, false, false, false, false, false, false, false, false, false, false, false, false, false, false, false, false, false, false, false, false, false, false] rfl rfl (one_of HT_.out (by kernel_rfl)) (by decide) (fun K hK => ?_)
            refine goes_ Tryd.func26 (by kernel_rfl) rfl #[.agg #[.slice A0_0 l0_0.length c0_0], .agg #[.slice A1_0 l1_0.length c1_0]] (by rfl) rfl rfl (by (try simp only [List.map_toArray, List.map_cons, List.map_nil]); first | done | rfl | (simp only [List.length_drop, List.length_take]; rfl)) ?_
            with_reducible refine (natural_Cmp.calls k _ _ l0_0 _ _ l1_0 t469 _ ?side1 ?side2 ?side3 ?side4 A13.out).mono ?_
            (case side1 => repeat (first | exact (Kd.V_reads' HO0_0.out).2.2 | (with_reducible refine Kd.C_alloc ?_ _) | (with_reducible refine Kd.C_drewN ?_ _) | (with_reducible refine Kd.C_drew ?_)))
            (case side2 => exact (Kd.V_reads' HO0_0.out).2.1)
            (case side3 => repeat (first | exact (Kd.V_reads' HO1_0.out).2.2 | (with_reducible refine Kd.C_alloc ?_ _) | (with_reducible refine Kd.C_drewN ?_ _) | (with_reducible refine Kd.C_drew ?_)))
            (case side4 => exact (Kd.V_reads' HO1_0.out).2.1)
            rintro e w78 ⟨rfl, hb⟩
            refine ⟨_, rfl, ?_⟩
            have n0_ := Aside0.mk (Kd.V_below (by (with_reducible repeat (first | apply Kd.V_alloc | apply Kd.V_drewN | apply Kd.V_drew)); exact HO0_0.out) hb)
            have n1_ := Aside0.mk (Kd.V_below (by (with_reducible repeat (first | apply Kd.V_alloc | apply Kd.V_drewN | apply Kd.V_drew)); exact HO1_0.out) hb)
            have n2_ := Aside0.mk (Kd.N_below (by (with_reducible repeat (first | apply Kd.N_alloc | apply Kd.N_drewN | apply Kd.N_drew)); exact HO454.out) hb)
            have n3_ := Aside0.mk (Kd.V_below (by (with_reducible repeat (first | apply Kd.V_alloc | apply Kd.V_drewN | apply Kd.V_drew)); exact HO459.out) hb)
            have n4_ := Aside0.mk (Kd.R_below (by (with_reducible repeat (first | apply Kd.R_alloc | apply Kd.R_drewN | apply Kd.R_drew)); exact HO464.out) hb)
            have n5_ := Aside0.mk (blk_below (g := gb449) (o := .cells #[.slice A0_0 l0_0.length c0_0] 24 (0, 0)) (by (with_reducible repeat (first | refine blk_drewN ?_ _ | refine blk_drew ?_ | refine blk_alloc ?_ _)); exact BK449.out) hb)
            have n6_ := Aside0.mk (blk_below (g := gb450) (o := .cells #[.slice A1_0 l1_0.length c1_0] 24 (0, 0)) (by (with_reducible repeat (first | refine blk_drewN ?_ _ | refine blk_drew ?_ | refine blk_alloc ?_ _)); exact BK450.out) hb)
            have n7_ := Aside0.mk (blk_below (g := gb461) (o := .cells #[.slice Ao63 t457.length co63] 24 (0, 0)) (by (with_reducible repeat (first | refine blk_drewN ?_ _ | refine blk_drew ?_ | refine blk_alloc ?_ _)); exact BK461.out) hb)
            have n8_ := Aside0.mk (blk_below (g := gb466) (o := .cells #[.slice Ao69 t462.length co69] 24 (0, 0)) (by (with_reducible repeat (first | refine blk_drewN ?_ _ | refine blk_drew ?_ | refine blk_alloc ?_ _)); exact BK466.out) hb)
            have n9_ := Aside0.mk (below_step (by repeat (first | (with_reducible first | exact HB.out | apply below_alloc | apply pw_below_drewN | apply below_drew1 | refine below_set ?_ GE449.out | refine below_set ?_ GE450.out | refine below_set ?_ GE461.out | refine below_set ?_ GE466.out) | exact HB.out)) hb)
            clear HO0_0
            clear HO1_0
            clear HO454
            clear HO459
            clear HO464
            clear BK449
            clear BK450
            clear BK461
            clear BK466
            clear HB
            have HO0_0 := n0_
            have HO1_0 := n1_
            have HO454 := n2_
            have HO459 := n3_
            have HO464 := n4_
            have BK449 := n5_
            have BK450 := n6_
            have BK461 := n7_
            have BK466 := n8_
            have HB := n9_
            clear n0_ n1_ n2_ n3_ n4_ n5_ n6_ n7_ n8_ n9_
            (try clear hb)
            (try clear hb2)
            (try clear hk)
            (try clear hi)
            refine hK.out _ _ ⟨(blk_cell BK449.out 0).trans rfl, (blk_cell BK450.out 0).trans rfl⟩ (fun hHeld => ?_)
            clear hK K
            refine norm_ (a' := ?_) ?_ ?_
            rotate_left
            · show Act.put _ (some 39) _ = _
              simp only [Act.put, List.setIfInBounds_toArray, List.set_cons_zero, List.set_cons_succ, i64_w, i32_w]
              rfl
            refine one_ (i := 11) (N := some 42) #[true, true, true, true, true, true, true, true, true, true, true, true, false, false, false, false, false, false, false, false, false, false, false, false, false, false, false, false, false, false, false, false, false, false, false] rfl rfl (one_of HT_.out (by kernel_rfl)) (by decide) (fun K hK => ?_)
            refine goes_ Tryd.func27 (by kernel_rfl) rfl #[.agg #[.slice A0_0 l0_0.length c0_0], .agg #[.slice A1_0 l1_0.length c1_0]] (by rfl) rfl rfl (by (try simp only [List.map_toArray, List.map_cons, List.map_nil]); first | done | rfl | (simp only [List.length_drop, List.length_take]; rfl)) ?_
            with_reducible refine (ancepsref02_Cmp.calls k _ _ l0_0 _ _ l1_0 t470 _ ?side1 ?side2 ?side3 ?side4 A14.out).mono ?_
            (case side1 => repeat (first | exact (Kd.V_reads' HO0_0.out).2.2 | (with_reducible refine Kd.C_alloc ?_ _) | (with_reducible refine Kd.C_drewN ?_ _) | (with_reducible refine Kd.C_drew ?_)))
            (case side2 => exact (Kd.V_reads' HO0_0.out).2.1)
            (case side3 => repeat (first | exact (Kd.V_reads' HO1_0.out).2.2 | (with_reducible refine Kd.C_alloc ?_ _) | (with_reducible refine Kd.C_drewN ?_ _) | (with_reducible refine Kd.C_drew ?_)))
            (case side4 => exact (Kd.V_reads' HO1_0.out).2.1)
            rintro e w79 ⟨rfl, hb⟩
            refine ⟨_, rfl, ?_⟩
            have n0_ := Aside0.mk (Kd.V_below (by (with_reducible repeat (first | apply Kd.V_alloc | apply Kd.V_drewN | apply Kd.V_drew)); exact HO0_0.out) hb)
            have n1_ := Aside0.mk (Kd.V_below (by (with_reducible repeat (first | apply Kd.V_alloc | apply Kd.V_drewN | apply Kd.V_drew)); exact HO1_0.out) hb)
            have n2_ := Aside0.mk (Kd.N_below (by (with_reducible repeat (first | apply Kd.N_alloc | apply Kd.N_drewN | apply Kd.N_drew)); exact HO454.out) hb)
            have n3_ := Aside0.mk (Kd.V_below (by (with_reducible repeat (first | apply Kd.V_alloc | apply Kd.V_drewN | apply Kd.V_drew)); exact HO459.out) hb)
            have n4_ := Aside0.mk (Kd.R_below (by (with_reducible repeat (first | apply Kd.R_alloc | apply Kd.R_drewN | apply Kd.R_drew)); exact HO464.out) hb)
            have n5_ := Aside0.mk (blk_below (g := gb449) (o := .cells #[.slice A0_0 l0_0.length c0_0] 24 (0, 0)) (by (with_reducible repeat (first | refine blk_drewN ?_ _ | refine blk_drew ?_ | refine blk_alloc ?_ _)); exact BK449.out) hb)
            have n6_ := Aside0.mk (blk_below (g := gb450) (o := .cells #[.slice A1_0 l1_0.length c1_0] 24 (0, 0)) (by (with_reducible repeat (first | refine blk_drewN ?_ _ | refine blk_drew ?_ | refine blk_alloc ?_ _)); exact BK450.out) hb)
            have n7_ := Aside0.mk (blk_below (g := gb461) (o := .cells #[.slice Ao63 t457.length co63] 24 (0, 0)) (by (with_reducible repeat (first | refine blk_drewN ?_ _ | refine blk_drew ?_ | refine blk_alloc ?_ _)); exact BK461.out) hb)
            have n8_ := Aside0.mk (blk_below (g := gb466) (o := .cells #[.slice Ao69 t462.length co69] 24 (0, 0)) (by (with_reducible repeat (first | refine blk_drewN ?_ _ | refine blk_drew ?_ | refine blk_alloc ?_ _)); exact BK466.out) hb)
            have n9_ := Aside0.mk (below_step (by repeat (first | (with_reducible first | exact HB.out | apply below_alloc | apply pw_below_drewN | apply below_drew1 | refine below_set ?_ GE449.out | refine below_set ?_ GE450.out | refine below_set ?_ GE461.out | refine below_set ?_ GE466.out) | exact HB.out)) hb)
            clear HO0_0
            clear HO1_0
            clear HO454
            clear HO459
            clear HO464
            clear BK449
            clear BK450
            clear BK461
            clear BK466
            clear HB
            have HO0_0 := n0_
            have HO1_0 := n1_
            have HO454 := n2_
            have HO459 := n3_
            have HO464 := n4_
            have BK449 := n5_
            have BK450 := n6_
            have BK461 := n7_
            have BK466 := n8_
            have HB := n9_
            clear n0_ n1_ n2_ n3_ n4_ n5_ n6_ n7_ n8_ n9_
            (try clear hb)
            (try clear hb2)
            (try clear hk)
            (try clear hi)
            refine hK.out _ _ ⟨(blk_cell BK449.out 0).trans rfl, (blk_cell BK450.out 0).trans rfl⟩ (fun hHeld => ?_)
            clear hK K
            refine norm_ (a' := ?_) ?_ ?_
            rotate_left
            · show Act.put _ (some 42) _ = _
              simp only [Act.put, List.setIfInBounds_toArray, List.set_cons_zero, List.set_cons_succ, i64_w, i32_w]
              rfl
            refine pure_ (i := 12) (N := some 43) (v := ?_) (a' := ?_) #[true, true, true, true, true, true, true, true, true, true, true, true, true, false, false, false, false, false, false, false, false, false, false, false, false, false, false, false, false, false, false, false, false, false, false] rfl rfl (any_of HT_.out (by kernel_rfl)) (fun _ _ _ h => h) (Or.inl ⟨by rfl, ?_⟩) ?_ ?_
            rotate_left
            · intro w'
              go_simp
              with_reducible rfl
            rotate_left
            · simp only [Act.put, List.setIfInBounds_toArray, List.set_cons_zero, List.set_cons_succ, i64_w, i32_w]
              rfl
            refine pure_ (i := 13) (N := some 44) (v := ?_) (a' := ?_) #[true, true, true, true, true, true, true, true, true, true, true, true, true, true, false, false, false, false, false, false, false, false, false, false, false, false, false, false, false, false, false, false, false, false, false] rfl rfl (any_of HT_.out (by kernel_rfl)) (fun _ _ _ h => h) (Or.inl ⟨by rfl, ?_⟩) ?_ ?_
            rotate_left
            · intro w'
              go_simp
              with_reducible rfl
            rotate_left
            · simp only [Act.put, List.setIfInBounds_toArray, List.set_cons_zero, List.set_cons_succ, i64_w, i32_w]
              rfl
            refine pure_ (i := 14) (N := some 45) (v := ?_) (a' := ?_) #[true, true, true, true, true, true, true, true, true, true, true, true, true, true, true, false, false, false, false, false, false, false, false, false, false, false, false, false, false, false, false, false, false, false, false] rfl rfl (any_of HT_.out (by kernel_rfl)) (fun _ _ _ h => h) (Or.inl ⟨by rfl, ?_⟩) ?_ ?_
            rotate_left
            · intro w'
              go_simp
              with_reducible rfl
            rotate_left
            · simp only [Act.put, List.setIfInBounds_toArray, List.set_cons_zero, List.set_cons_succ, i64_w, i32_w]
              rfl
            refine take_ (i := 15) (N := some 46) (v := ?_) (a' := ?_) #[true, true, true, true, true, true, true, true, true, true, true, true, true, true, true, true, false, false, false, false, false, false, false, false, false, false, false, false, false, false, false, false, false, false, false] rfl rfl (take_ofW HT_.out HW_.out (by kernel_rfl)) (fun _ _ _ h => h) (Or.inl ⟨by rfl, ?_⟩) hHeld ?_ ?_
            rotate_left
            · rintro w' ⟨s0, s1⟩
              go_simp
              with_reducible rfl
            rotate_left
            · simp only [Act.put, List.setIfInBounds_toArray, List.set_cons_zero, List.set_cons_succ, i64_w, i32_w]
              rfl
            refine take_ (i := 16) (N := some 47) (v := ?_) (a' := ?_) #[true, true, true, true, true, true, true, true, true, true, true, true, true, true, true, true, true, false, false, false, false, false, false, false, false, false, false, false, false, false, false, false, false, false, false] rfl rfl (take_ofW HT_.out HW_.out (by kernel_rfl)) (fun _ _ _ h => h) (Or.inl ⟨by rfl, ?_⟩) hHeld ?_ ?_
            rotate_left
            · rintro w' ⟨s0, s1⟩
              go_simp
              with_reducible rfl
            rotate_left
            · simp only [Act.put, List.setIfInBounds_toArray, List.set_cons_zero, List.set_cons_succ, i64_w, i32_w]
              rfl
            refine take_ (i := 18) (N := some 49) (v := ?_) (a' := ?_) #[true, true, true, true, true, true, true, true, true, true, true, true, true, true, true, true, true, false, true, false, false, false, false, false, false, false, false, false, false, false, false, false, false, false, false] rfl rfl (take_ofW HT_.out HW_.out (by kernel_rfl)) (fun _ _ _ h => h) (Or.inl ⟨by rfl, ?_⟩) hHeld ?_ ?_
            rotate_left
            · rintro w' ⟨s0, s1⟩
              go_simp
              with_reducible rfl
            rotate_left
            · simp only [Act.put, List.setIfInBounds_toArray, List.set_cons_zero, List.set_cons_succ, i64_w, i32_w]
              rfl
            refine take_ (i := 19) (N := some 50) (v := ?_) (a' := ?_) #[true, true, true, true, true, true, true, true, true, true, true, true, true, true, true, true, true, false, true, true, false, false, false, false, false, false, false, false, false, false, false, false, false, false, false] rfl rfl (take_ofW HT_.out HW_.out (by kernel_rfl)) (fun _ _ _ h => h) (Or.inl ⟨by rfl, ?_⟩) hHeld ?_ ?_
            rotate_left
            · rintro w' ⟨s0, s1⟩
              go_simp
              with_reducible rfl
            rotate_left
            · simp only [Act.put, List.setIfInBounds_toArray, List.set_cons_zero, List.set_cons_succ, i64_w, i32_w]
              rfl
            refine one_ (i := 17) (N := some 48) #[true, true, true, true, true, true, true, true, true, true, true, true, true, true, true, true, true, true, true, true, false, false, false, false, false, false, false, false, false, false, false, false, false, false, false] rfl rfl (one_of HT_.out (by kernel_rfl)) (by decide) (fun K hK => ?_)
            refine goes_ Tryd.func26 (by kernel_rfl) rfl #[.agg #[.slice A1_0 l1_0.length c1_0], .agg #[.slice A0_0 l0_0.length c0_0]] (by rfl) rfl rfl (by (try simp only [List.map_toArray, List.map_cons, List.map_nil]); first | done | rfl | (simp only [List.length_drop, List.length_take]; rfl)) ?_
            with_reducible refine (natural_Cmp.calls k _ _ l1_0 _ _ l0_0 t471 _ ?side1 ?side2 ?side3 ?side4 A16.out).mono ?_
            (case side1 => repeat (first | exact (Kd.V_reads' HO1_0.out).2.2 | (with_reducible refine Kd.C_alloc ?_ _) | (with_reducible refine Kd.C_drewN ?_ _) | (with_reducible refine Kd.C_drew ?_)))
            (case side2 => exact (Kd.V_reads' HO1_0.out).2.1)
            (case side3 => repeat (first | exact (Kd.V_reads' HO0_0.out).2.2 | (with_reducible refine Kd.C_alloc ?_ _) | (with_reducible refine Kd.C_drewN ?_ _) | (with_reducible refine Kd.C_drew ?_)))
            (case side4 => exact (Kd.V_reads' HO0_0.out).2.1)
            rintro e w80 ⟨rfl, hb⟩
            refine ⟨_, rfl, ?_⟩
            have n0_ := Aside0.mk (Kd.V_below (by (with_reducible repeat (first | apply Kd.V_alloc | apply Kd.V_drewN | apply Kd.V_drew)); exact HO0_0.out) hb)
            have n1_ := Aside0.mk (Kd.V_below (by (with_reducible repeat (first | apply Kd.V_alloc | apply Kd.V_drewN | apply Kd.V_drew)); exact HO1_0.out) hb)
            have n2_ := Aside0.mk (Kd.N_below (by (with_reducible repeat (first | apply Kd.N_alloc | apply Kd.N_drewN | apply Kd.N_drew)); exact HO454.out) hb)
            have n3_ := Aside0.mk (Kd.V_below (by (with_reducible repeat (first | apply Kd.V_alloc | apply Kd.V_drewN | apply Kd.V_drew)); exact HO459.out) hb)
            have n4_ := Aside0.mk (Kd.R_below (by (with_reducible repeat (first | apply Kd.R_alloc | apply Kd.R_drewN | apply Kd.R_drew)); exact HO464.out) hb)
            have n5_ := Aside0.mk (blk_below (g := gb449) (o := .cells #[.slice A0_0 l0_0.length c0_0] 24 (0, 0)) (by (with_reducible repeat (first | refine blk_drewN ?_ _ | refine blk_drew ?_ | refine blk_alloc ?_ _)); exact BK449.out) hb)
            have n6_ := Aside0.mk (blk_below (g := gb450) (o := .cells #[.slice A1_0 l1_0.length c1_0] 24 (0, 0)) (by (with_reducible repeat (first | refine blk_drewN ?_ _ | refine blk_drew ?_ | refine blk_alloc ?_ _)); exact BK450.out) hb)
            have n7_ := Aside0.mk (blk_below (g := gb461) (o := .cells #[.slice Ao63 t457.length co63] 24 (0, 0)) (by (with_reducible repeat (first | refine blk_drewN ?_ _ | refine blk_drew ?_ | refine blk_alloc ?_ _)); exact BK461.out) hb)
            have n8_ := Aside0.mk (blk_below (g := gb466) (o := .cells #[.slice Ao69 t462.length co69] 24 (0, 0)) (by (with_reducible repeat (first | refine blk_drewN ?_ _ | refine blk_drew ?_ | refine blk_alloc ?_ _)); exact BK466.out) hb)
            have n9_ := Aside0.mk (below_step (by repeat (first | (with_reducible first | exact HB.out | apply below_alloc | apply pw_below_drewN | apply below_drew1 | refine below_set ?_ GE449.out | refine below_set ?_ GE450.out | refine below_set ?_ GE461.out | refine below_set ?_ GE466.out) | exact HB.out)) hb)
            clear HO0_0
            clear HO1_0
            clear HO454
            clear HO459
            clear HO464
            clear BK449
            clear BK450
            clear BK461
            clear BK466
            clear HB
            have HO0_0 := n0_
            have HO1_0 := n1_
            have HO454 := n2_
            have HO459 := n3_
            have HO464 := n4_
            have BK449 := n5_
            have BK450 := n6_
            have BK461 := n7_
            have BK466 := n8_
            have HB := n9_
            clear n0_ n1_ n2_ n3_ n4_ n5_ n6_ n7_ n8_ n9_
            (try clear hb)
            (try clear hb2)
            (try clear hk)
            (try clear hi)
            refine hK.out _ _ ⟨(blk_cell BK449.out 0).trans rfl, (blk_cell BK450.out 0).trans rfl⟩ (fun hHeld => ?_)
            clear hK K
            refine norm_ (a' := ?_) ?_ ?_
            rotate_left
            · show Act.put _ (some 48) _ = _
              simp only [Act.put, List.setIfInBounds_toArray, List.set_cons_zero, List.set_cons_succ, i64_w, i32_w]
              rfl
            refine one_ (i := 20) (N := some 51) #[true, true, true, true, true, true, true, true, true, true, true, true, true, true, true, true, true, true, true, true, true, false, false, false, false, false, false, false, false, false, false, false, false, false, false] rfl rfl (one_of HT_.out (by kernel_rfl)) (by decide) (fun K hK => ?_)
            refine goes_ Tryd.func27 (by kernel_rfl) rfl #[.agg #[.slice A0_0 l0_0.length c0_0], .agg #[.slice A1_0 l1_0.length c1_0]] (by rfl) rfl rfl (by (try simp only [List.map_toArray, List.map_cons, List.map_nil]); first | done | rfl | (simp only [List.length_drop, List.length_take]; rfl)) ?_
            with_reducible refine (ancepsref02_Cmp.calls k _ _ l0_0 _ _ l1_0 t472 _ ?side1 ?side2 ?side3 ?side4 A17.out).mono ?_
            (case side1 => repeat (first | exact (Kd.V_reads' HO0_0.out).2.2 | (with_reducible refine Kd.C_alloc ?_ _) | (with_reducible refine Kd.C_drewN ?_ _) | (with_reducible refine Kd.C_drew ?_)))
            (case side2 => exact (Kd.V_reads' HO0_0.out).2.1)
            (case side3 => repeat (first | exact (Kd.V_reads' HO1_0.out).2.2 | (with_reducible refine Kd.C_alloc ?_ _) | (with_reducible refine Kd.C_drewN ?_ _) | (with_reducible refine Kd.C_drew ?_)))
            (case side4 => exact (Kd.V_reads' HO1_0.out).2.1)
            rintro e w81 ⟨rfl, hb⟩
            refine ⟨_, rfl, ?_⟩
            have n0_ := Aside0.mk (Kd.V_below (by (with_reducible repeat (first | apply Kd.V_alloc | apply Kd.V_drewN | apply Kd.V_drew)); exact HO0_0.out) hb)
            have n1_ := Aside0.mk (Kd.V_below (by (with_reducible repeat (first | apply Kd.V_alloc | apply Kd.V_drewN | apply Kd.V_drew)); exact HO1_0.out) hb)
            have n2_ := Aside0.mk (Kd.N_below (by (with_reducible repeat (first | apply Kd.N_alloc | apply Kd.N_drewN | apply Kd.N_drew)); exact HO454.out) hb)
            have n3_ := Aside0.mk (Kd.V_below (by (with_reducible repeat (first | apply Kd.V_alloc | apply Kd.V_drewN | apply Kd.V_drew)); exact HO459.out) hb)
            have n4_ := Aside0.mk (Kd.R_below (by (with_reducible repeat (first | apply Kd.R_alloc | apply Kd.R_drewN | apply Kd.R_drew)); exact HO464.out) hb)
            have n5_ := Aside0.mk (blk_below (g := gb449) (o := .cells #[.slice A0_0 l0_0.length c0_0] 24 (0, 0)) (by (with_reducible repeat (first | refine blk_drewN ?_ _ | refine blk_drew ?_ | refine blk_alloc ?_ _)); exact BK449.out) hb)
            have n6_ := Aside0.mk (blk_below (g := gb450) (o := .cells #[.slice A1_0 l1_0.length c1_0] 24 (0, 0)) (by (with_reducible repeat (first | refine blk_drewN ?_ _ | refine blk_drew ?_ | refine blk_alloc ?_ _)); exact BK450.out) hb)
            have n7_ := Aside0.mk (blk_below (g := gb461) (o := .cells #[.slice Ao63 t457.length co63] 24 (0, 0)) (by (with_reducible repeat (first | refine blk_drewN ?_ _ | refine blk_drew ?_ | refine blk_alloc ?_ _)); exact BK461.out) hb)
            have n8_ := Aside0.mk (blk_below (g := gb466) (o := .cells #[.slice Ao69 t462.length co69] 24 (0, 0)) (by (with_reducible repeat (first | refine blk_drewN ?_ _ | refine blk_drew ?_ | refine blk_alloc ?_ _)); exact BK466.out) hb)
            have n9_ := Aside0.mk (below_step (by repeat (first | (with_reducible first | exact HB.out | apply below_alloc | apply pw_below_drewN | apply below_drew1 | refine below_set ?_ GE449.out | refine below_set ?_ GE450.out | refine below_set ?_ GE461.out | refine below_set ?_ GE466.out) | exact HB.out)) hb)
            clear HO0_0
            clear HO1_0
            clear HO454
            clear HO459
            clear HO464
            clear BK449
            clear BK450
            clear BK461
            clear BK466
            clear HB
            have HO0_0 := n0_
            have HO1_0 := n1_
            have HO454 := n2_
            have HO459 := n3_
            have HO464 := n4_
            have BK449 := n5_
            have BK450 := n6_
            have BK461 := n7_
            have BK466 := n8_
            have HB := n9_
            clear n0_ n1_ n2_ n3_ n4_ n5_ n6_ n7_ n8_ n9_
            (try clear hb)
            (try clear hb2)
            (try clear hk)
            (try clear hi)
            refine hK.out _ _ ⟨(blk_cell BK449.out 0).trans rfl, (blk_cell BK450.out 0).trans rfl⟩ (fun hHeld => ?_)
            clear hK K
            refine norm_ (a' := ?_) ?_ ?_
            rotate_left
            · show Act.put _ (some 51) _ = _
              simp only [Act.put, List.setIfInBounds_toArray, List.set_cons_zero, List.set_cons_succ, i64_w, i32_w]
              rfl
            refine pure_ (i := 21) (N := some 52) (v := ?_) (a' := ?_) #[true, true, true, true, true, true, true, true, true, true, true, true, true, true, true, true, true, true, true, true, true, true, false, false, false, false, false, false, false, false, false, false, false, false, false] rfl rfl (any_of HT_.out (by kernel_rfl)) (fun _ _ _ h => h) (Or.inl ⟨by rfl, ?_⟩) ?_ ?_
            rotate_left
            · intro w'
              go_simp
              with_reducible rfl
            rotate_left
            · simp only [Act.put, List.setIfInBounds_toArray, List.set_cons_zero, List.set_cons_succ, i64_w, i32_w]
              rfl
            refine pure_ (i := 22) (N := some 53) (v := ?_) (a' := ?_) #[true, true, true, true, true, true, true, true, true, true, true, true, true, true, true, true, true, true, true, true, true, true, true, false, false, false, false, false, false, false, false, false, false, false, false] rfl rfl (any_of HT_.out (by kernel_rfl)) (fun _ _ _ h => h) (Or.inl ⟨by rfl, ?_⟩) ?_ ?_
            rotate_left
            · intro w'
              go_simp
              with_reducible rfl
            rotate_left
            · simp only [Act.put, List.setIfInBounds_toArray, List.set_cons_zero, List.set_cons_succ, i64_w, i32_w]
              rfl
            refine pure_ (i := 23) (N := some 54) (v := ?_) (a' := ?_) #[true, true, true, true, true, true, true, true, true, true, true, true, true, true, true, true, true, true, true, true, true, true, true, true, false, false, false, false, false, false, false, false, false, false, false] rfl rfl (any_of HT_.out (by kernel_rfl)) (fun _ _ _ h => h) (Or.inl ⟨by rfl, ?_⟩) ?_ ?_
            rotate_left
            · intro w'
              go_simp
              with_reducible rfl
            rotate_left
            · simp only [Act.put, List.setIfInBounds_toArray, List.set_cons_zero, List.set_cons_succ, i64_w, i32_w]
              rfl
            refine pure_ (i := 24) (N := some 55) (v := ?_) (a' := ?_) #[true, true, true, true, true, true, true, true, true, true, true, true, true, true, true, true, true, true, true, true, true, true, true, true, true, false, false, false, false, false, false, false, false, false, false] rfl rfl (any_of HT_.out (by kernel_rfl)) (fun _ _ _ h => h) (Or.inl ⟨by rfl, ?_⟩) ?_ ?_
            rotate_left
            · intro w'
              go_simp
              with_reducible rfl
            rotate_left
            · simp only [Act.put, List.setIfInBounds_toArray, List.set_cons_zero, List.set_cons_succ, i64_w, i32_w]
              rfl
            refine pure_ (i := 25) (N := some 56) (v := undef) (a' := ?_) #[true, true, true, true, true, true, true, true, true, true, true, true, true, true, true, true, true, true, true, true, true, true, true, true, true, true, false, false, false, false, false, false, false, false, false] rfl rfl (any_of HT_.out (by kernel_rfl)) (fun _ _ _ h => h) (Or.inr ⟨by rfl, rfl⟩) ?_ ?_
            rotate_left
            · simp only [Act.put, List.setIfInBounds_toArray, List.set_cons_zero, List.set_cons_succ, i64_w, i32_w]
              rfl
            refine pure_ (i := 26) (N := some 57) (v := undef) (a' := ?_) #[true, true, true, true, true, true, true, true, true, true, true, true, true, true, true, true, true, true, true, true, true, true, true, true, true, true, true, false, false, false, false, false, false, false, false] rfl rfl (any_of HT_.out (by kernel_rfl)) (fun _ _ _ h => h) (Or.inr ⟨by rfl, rfl⟩) ?_ ?_
            rotate_left
            · simp only [Act.put, List.setIfInBounds_toArray, List.set_cons_zero, List.set_cons_succ, i64_w, i32_w]
              rfl
            refine pure_ (i := 27) (N := some 58) (v := undef) (a' := ?_) #[true, true, true, true, true, true, true, true, true, true, true, true, true, true, true, true, true, true, true, true, true, true, true, true, true, true, true, true, false, false, false, false, false, false, false] rfl rfl (any_of HT_.out (by kernel_rfl)) (fun _ _ _ h => h) (Or.inr ⟨by rfl, rfl⟩) ?_ ?_
            rotate_left
            · simp only [Act.put, List.setIfInBounds_toArray, List.set_cons_zero, List.set_cons_succ, i64_w, i32_w]
              rfl
            refine pure_ (i := 28) (N := some 59) (v := ?_) (a' := ?_) #[true, true, true, true, true, true, true, true, true, true, true, true, true, true, true, true, true, true, true, true, true, true, true, true, true, true, true, true, true, false, false, false, false, false, false] rfl rfl (any_of HT_.out (by kernel_rfl)) (fun _ _ _ h => h) (Or.inl ⟨by rfl, ?_⟩) ?_ ?_
            rotate_left
            · intro w'
              go_simp
              with_reducible rfl
            rotate_left
            · simp only [Act.put, List.setIfInBounds_toArray, List.set_cons_zero, List.set_cons_succ, i64_w, i32_w]
              rfl
            refine pure_ (i := 29) (N := some 60) (v := ?_) (a' := ?_) #[true, true, true, true, true, true, true, true, true, true, true, true, true, true, true, true, true, true, true, true, true, true, true, true, true, true, true, true, true, true, false, false, false, false, false] rfl rfl (any_of HT_.out (by kernel_rfl)) (fun _ _ _ h => h) (Or.inl ⟨by rfl, ?_⟩) ?_ ?_
            rotate_left
            · intro w'
              go_simp
              with_reducible rfl
            rotate_left
            · simp only [Act.put, List.setIfInBounds_toArray, List.set_cons_zero, List.set_cons_succ, i64_w, i32_w]
              rfl
            refine pure_ (i := 30) (N := some 61) (v := undef) (a' := ?_) #[true, true, true, true, true, true, true, true, true, true, true, true, true, true, true, true, true, true, true, true, true, true, true, true, true, true, true, true, true, true, true, false, false, false, false] rfl rfl (any_of HT_.out (by kernel_rfl)) (fun _ _ _ h => h) (Or.inr ⟨by rfl, rfl⟩) ?_ ?_
            rotate_left
            · simp only [Act.put, List.setIfInBounds_toArray, List.set_cons_zero, List.set_cons_succ, i64_w, i32_w]
              rfl
            refine pure_ (i := 31) (N := some 62) (v := undef) (a' := ?_) #[true, true, true, true, true, true, true, true, true, true, true, true, true, true, true, true, true, true, true, true, true, true, true, true, true, true, true, true, true, true, true, true, false, false, false] rfl rfl (any_of HT_.out (by kernel_rfl)) (fun _ _ _ h => h) (Or.inr ⟨by rfl, rfl⟩) ?_ ?_
            rotate_left
            · simp only [Act.put, List.setIfInBounds_toArray, List.set_cons_zero, List.set_cons_succ, i64_w, i32_w]
              rfl
            refine pure_ (i := 32) (N := some 63) (v := undef) (a' := ?_) #[true, true, true, true, true, true, true, true, true, true, true, true, true, true, true, true, true, true, true, true, true, true, true, true, true, true, true, true, true, true, true, true, true, false, false] rfl rfl (any_of HT_.out (by kernel_rfl)) (fun _ _ _ h => h) (Or.inr ⟨by rfl, rfl⟩) ?_ ?_
            rotate_left
            · simp only [Act.put, List.setIfInBounds_toArray, List.set_cons_zero, List.set_cons_succ, i64_w, i32_w]
              rfl
            refine pure_ (i := 33) (N := some 64) (v := ?_) (a' := ?_) #[true, true, true, true, true, true, true, true, true, true, true, true, true, true, true, true, true, true, true, true, true, true, true, true, true, true, true, true, true, true, true, true, true, true, false] rfl rfl (any_of HT_.out (by kernel_rfl)) (fun _ _ _ h => h) (Or.inl ⟨by rfl, ?_⟩) ?_ ?_
            rotate_left
            · intro w'
              go_simp
              with_reducible rfl
            rotate_left
            · simp only [Act.put, List.setIfInBounds_toArray, List.set_cons_zero, List.set_cons_succ, i64_w, i32_w]
              rfl
            refine pure_ (i := 34) (N := some 6) (v := ?_) (a' := ?_) #[true, true, true, true, true, true, true, true, true, true, true, true, true, true, true, true, true, true, true, true, true, true, true, true, true, true, true, true, true, true, true, true, true, true, true] rfl rfl (any_of HT_.out (by kernel_rfl)) (fun _ _ _ h => h) (Or.inl ⟨by rfl, ?_⟩) ?_ ?_
            rotate_left
            · intro w'
              go_simp
              with_reducible rfl
            rotate_left
            · simp only [Act.put, List.setIfInBounds_toArray, List.set_cons_zero, List.set_cons_succ, i64_w, i32_w]
              rfl
            refine done_ (done_of HT_.out (by kernel_rfl)) ?_
            try go_wp2
            go_ret
            exact ⟨by first | rfl | (simp [errW_none, errW_some] <;> rfl) | (simp [*, errW_none, errW_some] <;> rfl), by repeat (first | (with_reducible first | exact HB.out | apply below_alloc | apply pw_below_drewN | apply below_drew1 | refine below_set ?_ GE449.out | refine below_set ?_ GE450.out | refine below_set ?_ GE461.out | refine below_set ?_ GE466.out) | exact HB.out)⟩
        · rw [if_neg c15] at H
          exact absurd H (by simp)
      · rw [if_neg c12] at H
        have c12b0 : (t467 == t468) = false := by simpa using c12
        (try (have c12b1 : decide (t467 = t468) = false := by simpa using c12))
        (try (have c12b2 : (t467 == t468) = false := by simpa using c12))
        (try (have c12b3 : ¬ (t467 = t468) := by simpa using c12))
        clear c12
        obtain rfl := Option.some.inj H
        go_enter Tryd.func6, Tryd.ntmps6
        try go_wp2_with (first | ((with_reducible refine gate_dst (N := 3) rfl ?_); (try (refine gate_guard (by rfl) ?_; dsimp only)); refine box_event ?hg (N := 3) ?hd (cs := #[.slice A0_0 l0_0.length c0_0]) (t := 24) ?hr ?_; (case hd => rfl); (case hg => rfl); (case hr => first | (go_simp; done) | (go_simp; rfl)); intro gb449 hg w82 hbox hb; have n0_ := Aside0.mk (Kd.V_below (Kd.V_elderB (by (with_reducible repeat (first | apply Kd.V_alloc | apply Kd.V_drewN | apply Kd.V_drew)); exact HO0_0.out) gb449 (Nat.le_of_eq hg.symm)) hb); have n1_ := Aside0.mk (Kd.V_below (Kd.V_elderB (by (with_reducible repeat (first | apply Kd.V_alloc | apply Kd.V_drewN | apply Kd.V_drew)); exact HO1_0.out) gb449 (Nat.le_of_eq hg.symm)) hb); have n2_ := Aside0.mk (below_step (by repeat (first | (with_reducible first | exact HB.out | apply below_alloc | apply pw_below_drewN | apply below_drew1) | exact HB.out)) hb); have n3_ := Aside0.mk (hbox); have n4_ := Aside0.mk ((by rw [hg]; exact (below_size (by repeat (first | (with_reducible first | exact HB.out | apply below_alloc | apply pw_below_drewN | apply below_drew1) | exact HB.out))) : w.heap.size ≤ gb449)); have n5_ := Aside0.mk ((by rw [hg]; exact (below_size (by repeat (first | (with_reducible first | exact HB.out | apply below_alloc | apply pw_below_drewN | apply below_drew1) | exact HB.out))) : w.heap.size ≤ gb449)); clear HO0_0; clear HO1_0; clear HB; have HO0_0 := n0_; have HO1_0 := n1_; have HB := n2_; have BK449 := n3_; have GW449 := n4_; have GE449 := n5_; clear n0_ n1_ n2_ n3_ n4_ n5_; clear hb hbox hg) | ((with_reducible refine gate_dst (N := 4) rfl ?_); (try (refine gate_guard (by rfl) ?_; dsimp only)); refine box_event ?hg (N := 4) ?hd (cs := #[.slice A1_0 l1_0.length c1_0]) (t := 24) ?hr ?_; (case hd => rfl); (case hg => rfl); (case hr => first | (go_simp; done) | (go_simp; rfl)); intro gb450 hg w83 hbox hb; have n0_ := Aside0.mk (Kd.V_below (Kd.V_elderB (by (with_reducible repeat (first | apply Kd.V_alloc | apply Kd.V_drewN | apply Kd.V_drew)); exact HO0_0.out) gb450 (Nat.le_of_eq hg.symm)) hb); have n1_ := Aside0.mk (Kd.V_below (Kd.V_elderB (by (with_reducible repeat (first | apply Kd.V_alloc | apply Kd.V_drewN | apply Kd.V_drew)); exact HO1_0.out) gb450 (Nat.le_of_eq hg.symm)) hb); have n2_ := Aside0.mk (blk_below (g := gb449) (o := .cells #[.slice A0_0 l0_0.length c0_0] 24 (0, 0)) (by (with_reducible repeat (first | refine blk_drewN ?_ _ | refine blk_drew ?_ | refine blk_alloc ?_ _)); exact BK449.out) hb); have n3_ := Aside0.mk (below_step (by repeat (first | (with_reducible first | exact HB.out | apply below_alloc | apply pw_below_drewN | apply below_drew1 | refine below_set ?_ GE449.out) | exact HB.out)) hb); have n4_ := Aside0.mk (hbox); have n5_ := Aside0.mk ((by rw [hg]; exact (below_size (by repeat (first | (with_reducible first | exact HB.out | apply below_alloc | apply pw_below_drewN | apply below_drew1 | refine below_set ?_ GE449.out) | exact HB.out))) : w.heap.size ≤ gb450)); have n6_ := Aside0.mk ((by rw [hg]; exact (below_size (by repeat (first | (with_reducible first | exact HB.out | apply below_alloc | apply pw_below_drewN | apply below_drew1 | refine below_set ?_ GE449.out) | exact HB.out))) : w.heap.size ≤ gb450)); have n7_ := Aside0.mk ((by rw [hg]; exact Nat.ne_of_lt (blk_lt (g := gb449) (o := .cells #[.slice A0_0 l0_0.length c0_0] 24 (0, 0)) (by (with_reducible repeat (first | refine blk_drewN ?_ _ | refine blk_drew ?_ | refine blk_alloc ?_ _)); exact BK449.out)) : gb449 ≠ gb450)); have n8_ := Aside0.mk ((by rw [hg]; exact Nat.ne_of_gt (blk_lt (g := gb449) (o := .cells #[.slice A0_0 l0_0.length c0_0] 24 (0, 0)) (by (with_reducible repeat (first | refine blk_drewN ?_ _ | refine blk_drew ?_ | refine blk_alloc ?_ _)); exact BK449.out)) : gb450 ≠ gb449)); clear HO0_0; clear HO1_0; clear BK449; clear HB; have HO0_0 := n0_; have HO1_0 := n1_; have BK449 := n2_; have HB := n3_; have BK450 := n4_; have GW450 := n5_; have GE450 := n6_; have NB449_450 := n7_; have NB450_449 := n8_; clear n0_ n1_ n2_ n3_ n4_ n5_ n6_ n7_ n8_; clear hb hbox hg) | ((with_reducible refine gate_callee (f := 12) rfl ?_); refine goesL_ (some 11) rfl rfl Tryd.func12 (by kernel_rfl) rfl #[] rfl (by (try simp only [List.map_toArray, List.map_cons, List.map_nil]); first | done | rfl | (simp only [List.length_drop, List.length_take]; rfl)) ?_; (with_reducible refine (ancepslaw02_awake.calls k  true _ ?side1 A4.out).mono ?_); (case side1 => exact GL.below HG.out (by repeat (first | (with_reducible first | exact HB.out | apply below_alloc | apply pw_below_drewN | apply below_drew1 | refine below_set ?_ GE449.out | refine below_set ?_ GE450.out) | exact HB.out))); rintro e w84 ⟨rfl, hb⟩; refine ⟨_, rfl, ?_⟩; have n0_ := Aside0.mk (Kd.V_below (by (with_reducible repeat (first | apply Kd.V_alloc | apply Kd.V_drewN | apply Kd.V_drew)); exact HO0_0.out) hb); have n1_ := Aside0.mk (Kd.V_below (by (with_reducible repeat (first | apply Kd.V_alloc | apply Kd.V_drewN | apply Kd.V_drew)); exact HO1_0.out) hb); have n2_ := Aside0.mk (blk_below (g := gb449) (o := .cells #[.slice A0_0 l0_0.length c0_0] 24 (0, 0)) (by (with_reducible repeat (first | refine blk_drewN ?_ _ | refine blk_drew ?_ | refine blk_alloc ?_ _)); exact BK449.out) hb); have n3_ := Aside0.mk (blk_below (g := gb450) (o := .cells #[.slice A1_0 l1_0.length c1_0] 24 (0, 0)) (by (with_reducible repeat (first | refine blk_drewN ?_ _ | refine blk_drew ?_ | refine blk_alloc ?_ _)); exact BK450.out) hb); have n4_ := Aside0.mk (below_step (by repeat (first | (with_reducible first | exact HB.out | apply below_alloc | apply pw_below_drewN | apply below_drew1 | refine below_set ?_ GE449.out | refine below_set ?_ GE450.out) | exact HB.out)) hb); clear HO0_0; clear HO1_0; clear BK449; clear BK450; clear HB; have HO0_0 := n0_; have HO1_0 := n1_; have BK449 := n2_; have BK450 := n3_; have HB := n4_; clear n0_ n1_ n2_ n3_ n4_; (try clear hb); (try clear hb2); (try clear hk); (try clear hi); have hnb85 := NB449_450.out; have hnc85 := NB450_449.out; have hcz86_0 : w84.cell? ⟨gb449, 0, none⟩ = some (.slice A0_0 l0_0.length c0_0) := (blk_cell BK449.out 0).trans rfl; have hfz86_0 := blk_frozen BK449.out 0; have hcz87_0 : w84.cell? ⟨gb450, 0, none⟩ = some (.slice A1_0 l1_0.length c1_0) := (blk_cell BK450.out 0).trans rfl; have hfz87_0 := blk_frozen BK450.out 0) | ((with_reducible refine gate_dst (N := 16) rfl ?_); (try (refine gate_guard (by rfl) ?_; dsimp only)); refine Kd.N_lit k24 _ 24 ?hg (N' := 16) ?hd (xs := ([(⟨l0_0⟩ : S24), (⟨l1_0⟩ : S24)] : List (S24))) (inner := [.slice A0_0 l0_0.length c0_0, .slice A1_0 l1_0.length c1_0]) (ok := (fun k_ => ((P0_0_ k_ ∨ P1_0_ k_) ∨ w.heap.size ≤ k_) ∧ k_ ≠ gb449 ∧ k_ ≠ gb450)) (okp := (fun k_ => ((P0_0_ k_ ∨ P1_0_ k_) ∨ w.heap.size ≤ k_) ∧ k_ ≠ gb449 ∧ k_ ≠ gb450)) ?hr ?hp (fun _ hk => hk) ((show ∀ k_, w84.heap.size ≤ k_ → (fun k_ => ((P0_0_ k_ ∨ P1_0_ k_) ∨ w.heap.size ≤ k_) ∧ k_ ≠ gb449 ∧ k_ ≠ gb450) k_ from fun k_ hk => ⟨(.inr (Nat.le_trans (below_size (by repeat (first | (with_reducible first | exact HB.out | apply below_alloc | apply pw_below_drewN | apply below_drew1 | refine below_set ?_ GE449.out | refine below_set ?_ GE450.out) | exact HB.out))) hk)), Kd.freshB (g := gb449) (o := .cells #[.slice A0_0 l0_0.length c0_0] 24 (0, 0)) (by (with_reducible repeat (first | refine blk_drewN ?_ _ | refine blk_drew ?_ | refine blk_alloc ?_ _)); exact BK449.out) k_ hk, Kd.freshB (g := gb450) (o := .cells #[.slice A1_0 l1_0.length c1_0] 24 (0, 0)) (by (with_reducible repeat (first | refine blk_drewN ?_ _ | refine blk_drew ?_ | refine blk_alloc ?_ _)); exact BK450.out) k_ hk⟩) _ (Nat.le_refl _)) (Below.refl _ _) (Nat.le_refl _) (by simp) ?_; (case hd => rfl); (case hg => rfl); (case hr => first | (go_simp; done) | (go_simp; rfl)); (case hp => exact (Reps.one (show Kd.FK k24 _ _ (⟨l0_0⟩ : S24) [.slice A0_0 l0_0.length c0_0] from (k24_mkF _ _ (⟨l0_0⟩ : S24) (Kd.V_reads' (Kd.V_mono (ok' := (fun k_ => ((P0_0_ k_ ∨ P1_0_ k_) ∨ w.heap.size ≤ k_) ∧ k_ ≠ gb449 ∧ k_ ≠ gb450)) (HO0_0.out) (fun k_ hk => by first | exact ⟨hk.1.1, ⟨hk.1.2, hk.2⟩⟩ | grind))).2.1 (Kd.V_F (Kd.V_mono (ok' := (fun k_ => ((P0_0_ k_ ∨ P1_0_ k_) ∨ w.heap.size ≤ k_) ∧ k_ ≠ gb449 ∧ k_ ≠ gb450)) (HO0_0.out) (fun k_ hk => by first | exact ⟨hk.1.1, ⟨hk.1.2, hk.2⟩⟩ | grind))))) (Reps.one (show Kd.FK k24 _ _ (⟨l1_0⟩ : S24) [.slice A1_0 l1_0.length c1_0] from (k24_mkF _ _ (⟨l1_0⟩ : S24) (Kd.V_reads' (Kd.V_mono (ok' := (fun k_ => ((P0_0_ k_ ∨ P1_0_ k_) ∨ w.heap.size ≤ k_) ∧ k_ ≠ gb449 ∧ k_ ≠ gb450)) (HO1_0.out) (fun k_ hk => by first | exact ⟨hk.1.1, ⟨hk.1.2, hk.2⟩⟩ | grind))).2.1 (Kd.V_F (Kd.V_mono (ok' := (fun k_ => ((P0_0_ k_ ∨ P1_0_ k_) ∨ w.heap.size ≤ k_) ∧ k_ ≠ gb449 ∧ k_ ≠ gb450)) (HO1_0.out) (fun k_ hk => by first | exact ⟨hk.1.1, ⟨hk.1.2, hk.2⟩⟩ | grind))))) (Reps.none _ _)))); intro v453 w88 ho89 hb hg_ hnew_; clear hg_ hnew_; (first | rw [← Ny452.out] at ho89 | (simp only [Int.reduceToNat] at ho89; rw [← Ny452.out] at ho89)); have n0_ := Aside0.mk (Kd.V_elder' (by (with_reducible repeat (first | apply Kd.V_alloc | apply Kd.V_drewN | apply Kd.V_drew)); exact HO0_0.out) (Kd.N_base ho89) hb); have n1_ := Aside0.mk (Kd.V_elder' (by (with_reducible repeat (first | apply Kd.V_alloc | apply Kd.V_drewN | apply Kd.V_drew)); exact HO1_0.out) (Kd.N_base ho89) hb); have n2_ := Aside0.mk (Kd.N_lower ho89 (below_size (by repeat (first | (with_reducible first | exact HB.out | apply below_alloc | apply pw_below_drewN | apply below_drew1 | refine below_set ?_ GE449.out | refine below_set ?_ GE450.out) | exact HB.out)))); have n3_ := Aside0.mk (blk_below (g := gb449) (o := .cells #[.slice A0_0 l0_0.length c0_0] 24 (0, 0)) (by (with_reducible repeat (first | refine blk_drewN ?_ _ | refine blk_drew ?_ | refine blk_alloc ?_ _)); exact BK449.out) hb); have n4_ := Aside0.mk (blk_below (g := gb450) (o := .cells #[.slice A1_0 l1_0.length c1_0] 24 (0, 0)) (by (with_reducible repeat (first | refine blk_drewN ?_ _ | refine blk_drew ?_ | refine blk_alloc ?_ _)); exact BK450.out) hb); have n5_ := Aside0.mk (below_step (by repeat (first | (with_reducible first | exact HB.out | apply below_alloc | apply pw_below_drewN | apply below_drew1 | refine below_set ?_ GE449.out | refine below_set ?_ GE450.out) | exact HB.out)) hb); clear HO0_0; clear HO1_0; clear BK449; clear BK450; clear HB; have HO0_0 := n0_; have HO1_0 := n1_; have HO454 := n2_; have BK449 := n3_; have BK450 := n4_; have HB := n5_; clear n0_ n1_ n2_ n3_ n4_ n5_; clear hb ho89; obtain ⟨Ao90, co90, eo90⟩ := Kd.N_slice HO454.out; subst eo90) | (go_at_call 13; (with_reducible refine (ancepslaw02_few.calls k _ _ y452 true _ ?side1 ?side2 A6.out).mono ?_); (case side1 => repeat (first | exact (Kd.N_reads' HO454.out).2.2 | (with_reducible refine Kd.C_alloc ?_ _) | (with_reducible refine Kd.C_drewN ?_ _) | (with_reducible refine Kd.C_drew ?_))); (case side2 => exact (Kd.N_reads' HO454.out).2.1); rintro e w' ⟨rfl, ⟨nd, rfl⟩⟩; (try (rw [drewN_self w88]; generalize hq_ : World.drewN w88 _ = w88; have n0_ : Aside0 (Kd.V (Kd.int .i64) 3 w88 w.heap.size (fun k_ => ((P0_0_ k_ ∨ P1_0_ k_) ∨ w.heap.size ≤ k_) ∧ some k_ ≠ (.slice Ao90 y452.length co90 : Value).ownBlock ∧ k_ ≠ gb449 ∧ k_ ≠ gb450) (.slice A0_0 l0_0.length c0_0) l0_0) := ⟨by rw [← hq_]; exact (by (with_reducible repeat (first | apply Kd.V_alloc | apply Kd.V_drewN | apply Kd.V_drew)); exact Kd.V_mono HO0_0.out (fun _ hk => by first | exact ⟨hk.1.1.1, ⟨hk.2, ⟨hk.1.1.2, hk.1.2⟩⟩⟩ | grind))⟩; have n1_ : Aside0 (Kd.V (Kd.int .i64) 3 w88 w.heap.size (fun k_ => ((P0_0_ k_ ∨ P1_0_ k_) ∨ w.heap.size ≤ k_) ∧ some k_ ≠ (.slice Ao90 y452.length co90 : Value).ownBlock ∧ k_ ≠ gb449 ∧ k_ ≠ gb450) (.slice A1_0 l1_0.length c1_0) l1_0) := ⟨by rw [← hq_]; exact (by (with_reducible repeat (first | apply Kd.V_alloc | apply Kd.V_drewN | apply Kd.V_drew)); exact Kd.V_mono HO1_0.out (fun _ hk => by first | exact ⟨hk.1.1.1, ⟨hk.2, ⟨hk.1.1.2, hk.1.2⟩⟩⟩ | grind))⟩; have n2_ : Aside0 (Kd.N k24 24 w88 w.heap.size (fun k_ => ((P0_0_ k_ ∨ P1_0_ k_) ∨ w.heap.size ≤ k_) ∧ k_ ≠ gb449 ∧ k_ ≠ gb450) (.slice Ao90 y452.length co90) y452) := ⟨by rw [← hq_]; exact (by (with_reducible repeat (first | apply Kd.N_alloc | apply Kd.N_drewN | apply Kd.N_drew)); exact HO454.out)⟩; have n3_ : Aside0 (w88.heap[gb449]? = some (.cells #[.slice A0_0 l0_0.length c0_0] 24 (0, 0))) := ⟨by rw [← hq_]; exact (by (with_reducible repeat (first | refine blk_drewN ?_ _ | refine blk_drew ?_ | refine blk_alloc ?_ _)); exact BK449.out)⟩; have n4_ : Aside0 (w88.heap[gb450]? = some (.cells #[.slice A1_0 l1_0.length c1_0] 24 (0, 0))) := ⟨by rw [← hq_]; exact (by (with_reducible repeat (first | refine blk_drewN ?_ _ | refine blk_drew ?_ | refine blk_alloc ?_ _)); exact BK450.out)⟩; have n5_ : Aside0 (Below w.heap.size w w88) := ⟨by rw [← hq_]; exact (by repeat (first | (with_reducible first | exact HB.out | apply below_alloc | apply pw_below_drewN | apply below_drew1 | refine below_set ?_ GE449.out | refine below_set ?_ GE450.out) | exact HB.out))⟩; clear HO0_0 HO1_0 HO454 BK449 BK450 HB hq_; have HO0_0 := n0_; have HO1_0 := n1_; have HO454 := n2_; have BK449 := n3_; have BK450 := n4_; have HB := n5_; clear n0_ n1_ n2_ n3_ n4_ n5_))) | ((with_reducible refine gate_callee (f := 22) rfl ?_); refine goesL_ (some 23) rfl rfl Tryd.func22 (by kernel_rfl) rfl #[.int .i64 a2] rfl (by (try simp only [List.map_toArray, List.map_cons, List.map_nil]); first | done | rfl | (simp only [List.length_drop, List.length_take]; rfl)) ?_; (with_reducible refine (natural_Of.calls k a2 t457 t460 _ A8.out).mono ?_); rintro e w91 ⟨v458, rfl, ho0, hb⟩; refine ⟨_, rfl, ?_⟩; have n0_ := Aside0.mk (Kd.V_below (by (with_reducible repeat (first | apply Kd.V_alloc | apply Kd.V_drewN | apply Kd.V_drew)); exact HO0_0.out) hb); have n1_ := Aside0.mk (Kd.V_below (by (with_reducible repeat (first | apply Kd.V_alloc | apply Kd.V_drewN | apply Kd.V_drew)); exact HO1_0.out) hb); have n2_ := Aside0.mk (Kd.N_below (by (with_reducible repeat (first | apply Kd.N_alloc | apply Kd.N_drewN | apply Kd.N_drew)); exact HO454.out) hb); have n3_ := Aside0.mk (Kd.V_lower (Kd.V_mono (ok' := fun k_ => ((P0_0_ k_ ∨ P1_0_ k_) ∨ w.heap.size ≤ k_) ∧ some k_ ≠ (.slice Ao90 y452.length co90 : Value).ownBlock ∧ k_ ≠ gb449 ∧ k_ ≠ gb450) ho0 (fun k_ hk_ => ⟨(.inr (Nat.le_trans (below_size (by repeat (first | (with_reducible first | exact HB.out | apply below_alloc | apply pw_below_drewN | apply below_drew1 | refine below_set ?_ GE449.out | refine below_set ?_ GE450.out) | exact HB.out))) hk_)), (Kd.fresh' (Kd.N_lt (by (with_reducible repeat (first | apply Kd.N_alloc | apply Kd.N_drewN | apply Kd.N_drew)); exact HO454.out)) k_ hk_), (Kd.freshB (g := gb449) (o := .cells #[.slice A0_0 l0_0.length c0_0] 24 (0, 0)) (by (with_reducible repeat (first | refine blk_drewN ?_ _ | refine blk_drew ?_ | refine blk_alloc ?_ _)); exact BK449.out) k_ hk_), (Kd.freshB (g := gb450) (o := .cells #[.slice A1_0 l1_0.length c1_0] 24 (0, 0)) (by (with_reducible repeat (first | refine blk_drewN ?_ _ | refine blk_drew ?_ | refine blk_alloc ?_ _)); exact BK450.out) k_ hk_)⟩)) (below_size (by repeat (first | (with_reducible first | exact HB.out | apply below_alloc | apply pw_below_drewN | apply below_drew1 | refine below_set ?_ GE449.out | refine below_set ?_ GE450.out) | exact HB.out)))); have n4_ := Aside0.mk (blk_below (g := gb449) (o := .cells #[.slice A0_0 l0_0.length c0_0] 24 (0, 0)) (by (with_reducible repeat (first | refine blk_drewN ?_ _ | refine blk_drew ?_ | refine blk_alloc ?_ _)); exact BK449.out) hb); have n5_ := Aside0.mk (blk_below (g := gb450) (o := .cells #[.slice A1_0 l1_0.length c1_0] 24 (0, 0)) (by (with_reducible repeat (first | refine blk_drewN ?_ _ | refine blk_drew ?_ | refine blk_alloc ?_ _)); exact BK450.out) hb); have n6_ := Aside0.mk (below_step (by repeat (first | (with_reducible first | exact HB.out | apply below_alloc | apply pw_below_drewN | apply below_drew1 | refine below_set ?_ GE449.out | refine below_set ?_ GE450.out) | exact HB.out)) hb); clear HO0_0; clear HO1_0; clear HO454; clear BK449; clear BK450; clear HB; have HO0_0 := n0_; have HO1_0 := n1_; have HO454 := n2_; have HO459 := n3_; have BK449 := n4_; have BK450 := n5_; have HB := n6_; clear n0_ n1_ n2_ n3_ n4_ n5_ n6_; (try clear hb); (try clear hb2); (try clear hk); (try clear hi); (try clear ho0)) | ((with_reducible refine gate_dst (N := 7) rfl ?_); (try (refine gate_guard (by rfl) ?_; dsimp only)); refine box_event ?hg (N := 7) ?hd (cs := #[.slice none 0 0]) (t := 24) ?hr ?_; (case hd => rfl); (case hg => rfl); (case hr => first | (go_simp; done) | (go_simp; rfl)); intro gb461 hg w92 hbox hb; have n0_ := Aside0.mk (Kd.V_below (Kd.V_elderB (by (with_reducible repeat (first | apply Kd.V_alloc | apply Kd.V_drewN | apply Kd.V_drew)); exact HO0_0.out) gb461 (Nat.le_of_eq hg.symm)) hb); have n1_ := Aside0.mk (Kd.V_below (Kd.V_elderB (by (with_reducible repeat (first | apply Kd.V_alloc | apply Kd.V_drewN | apply Kd.V_drew)); exact HO1_0.out) gb461 (Nat.le_of_eq hg.symm)) hb); have n2_ := Aside0.mk (Kd.N_below (Kd.N_elderB (by (with_reducible repeat (first | apply Kd.N_alloc | apply Kd.N_drewN | apply Kd.N_drew)); exact HO454.out) gb461 (Nat.le_of_eq hg.symm)) hb); have n3_ := Aside0.mk (Kd.V_below (Kd.V_elderB (by (with_reducible repeat (first | apply Kd.V_alloc | apply Kd.V_drewN | apply Kd.V_drew)); exact HO459.out) gb461 (Nat.le_of_eq hg.symm)) hb); have n4_ := Aside0.mk (blk_below (g := gb449) (o := .cells #[.slice A0_0 l0_0.length c0_0] 24 (0, 0)) (by (with_reducible repeat (first | refine blk_drewN ?_ _ | refine blk_drew ?_ | refine blk_alloc ?_ _)); exact BK449.out) hb); have n5_ := Aside0.mk (blk_below (g := gb450) (o := .cells #[.slice A1_0 l1_0.length c1_0] 24 (0, 0)) (by (with_reducible repeat (first | refine blk_drewN ?_ _ | refine blk_drew ?_ | refine blk_alloc ?_ _)); exact BK450.out) hb); have n6_ := Aside0.mk (below_step (by repeat (first | (with_reducible first | exact HB.out | apply below_alloc | apply pw_below_drewN | apply below_drew1 | refine below_set ?_ GE449.out | refine below_set ?_ GE450.out) | exact HB.out)) hb); have n7_ := Aside0.mk (hbox); have n8_ := Aside0.mk ((by rw [hg]; exact (below_size (by repeat (first | (with_reducible first | exact HB.out | apply below_alloc | apply pw_below_drewN | apply below_drew1 | refine below_set ?_ GE449.out | refine below_set ?_ GE450.out) | exact HB.out))) : w.heap.size ≤ gb461)); have n9_ := Aside0.mk ((by rw [hg]; exact (below_size (by repeat (first | (with_reducible first | exact HB.out | apply below_alloc | apply pw_below_drewN | apply below_drew1 | refine below_set ?_ GE449.out | refine below_set ?_ GE450.out) | exact HB.out))) : w.heap.size ≤ gb461)); have n10_ := Aside0.mk ((by rw [hg]; exact Nat.ne_of_lt (blk_lt (g := gb449) (o := .cells #[.slice A0_0 l0_0.length c0_0] 24 (0, 0)) (by (with_reducible repeat (first | refine blk_drewN ?_ _ | refine blk_drew ?_ | refine blk_alloc ?_ _)); exact BK449.out)) : gb449 ≠ gb461)); have n11_ := Aside0.mk ((by rw [hg]; exact Nat.ne_of_gt (blk_lt (g := gb449) (o := .cells #[.slice A0_0 l0_0.length c0_0] 24 (0, 0)) (by (with_reducible repeat (first | refine blk_drewN ?_ _ | refine blk_drew ?_ | refine blk_alloc ?_ _)); exact BK449.out)) : gb461 ≠ gb449)); have n12_ := Aside0.mk ((by rw [hg]; exact Nat.ne_of_lt (blk_lt (g := gb450) (o := .cells #[.slice A1_0 l1_0.length c1_0] 24 (0, 0)) (by (with_reducible repeat (first | refine blk_drewN ?_ _ | refine blk_drew ?_ | refine blk_alloc ?_ _)); exact BK450.out)) : gb450 ≠ gb461)); have n13_ := Aside0.mk ((by rw [hg]; exact Nat.ne_of_gt (blk_lt (g := gb450) (o := .cells #[.slice A1_0 l1_0.length c1_0] 24 (0, 0)) (by (with_reducible repeat (first | refine blk_drewN ?_ _ | refine blk_drew ?_ | refine blk_alloc ?_ _)); exact BK450.out)) : gb461 ≠ gb450)); clear HO0_0; clear HO1_0; clear HO454; clear HO459; clear BK449; clear BK450; clear HB; have HO0_0 := n0_; have HO1_0 := n1_; have HO454 := n2_; have HO459 := n3_; have BK449 := n4_; have BK450 := n5_; have HB := n6_; have BK461 := n7_; have GW461 := n8_; have GE461 := n9_; have NB449_461 := n10_; have NB461_449 := n11_; have NB450_461 := n12_; have NB461_450 := n13_; clear n0_ n1_ n2_ n3_ n4_ n5_ n6_ n7_ n8_ n9_ n10_ n11_ n12_ n13_; clear hb hbox hg; obtain ⟨Ao93, co93, eo93⟩ := Kd.V_slice HO459.out; subst eo93; have hnb94 := NB461_449.out; have hnc94 := NB449_461.out; have hnb95 := NB461_450.out; have hnc95 := NB450_461.out; have hcz96_0 : w92.cell? ⟨gb461, 0, none⟩ = some (.slice none 0 0) := (blk_cell BK461.out 0).trans rfl; have hfz96_0 := blk_frozen BK461.out 0) | ((with_reducible refine gate_callee (f := 23) rfl ?_); refine goesL_ (some 28) rfl rfl Tryd.func23 (by kernel_rfl) rfl #[.int .i64 a2] rfl (by (try simp only [List.map_toArray, List.map_cons, List.map_nil]); first | done | rfl | (simp only [List.length_drop, List.length_take]; rfl)) ?_; (with_reducible refine (ancepsref02_Of.calls k a2 t462 t465 _ A9.out).mono ?_); rintro e w97 ⟨v463, rfl, ho0, hb⟩; refine ⟨_, rfl, ?_⟩; have n0_ := Aside0.mk (Kd.V_elder' (by (with_reducible repeat (first | apply Kd.V_alloc | apply Kd.V_drewN | apply Kd.V_drew)); exact (Kd.V_mono (Kd.V_far (p := ⟨gb461, 0, none⟩) (Kd.V_mono HO0_0.out (fun k_ hk => (⟨hk, hk.2⟩ : _ ∧ k_ ≠ gb461))) (fun _ hk => by first | exact hk.2 | grind) (.slice Ao93 t457.length co93)) (fun _ h_ => by first | exact h_.1 | grind))) (Kd.R_base ho0) hb); have n1_ := Aside0.mk (Kd.V_elder' (by (with_reducible repeat (first | apply Kd.V_alloc | apply Kd.V_drewN | apply Kd.V_drew)); exact (Kd.V_mono (Kd.V_far (p := ⟨gb461, 0, none⟩) (Kd.V_mono HO1_0.out (fun k_ hk => (⟨hk, hk.2⟩ : _ ∧ k_ ≠ gb461))) (fun _ hk => by first | exact hk.2 | grind) (.slice Ao93 t457.length co93)) (fun _ h_ => by first | exact h_.1 | grind))) (Kd.R_base ho0) hb); have n2_ := Aside0.mk (Kd.N_elder' (by (with_reducible repeat (first | apply Kd.N_alloc | apply Kd.N_drewN | apply Kd.N_drew)); exact (Kd.N_mono (Kd.N_far (p := ⟨gb461, 0, none⟩) (Kd.N_mono HO454.out (fun k_ hk => (⟨hk, hk.2⟩ : _ ∧ k_ ≠ gb461))) (fun _ hk => by first | exact hk.2 | grind) (.slice Ao93 t457.length co93)) (fun _ h_ => by first | exact h_.1 | grind))) (Kd.R_base ho0) hb); have n3_ := Aside0.mk (Kd.V_elder' (by (with_reducible repeat (first | apply Kd.V_alloc | apply Kd.V_drewN | apply Kd.V_drew)); exact (Kd.V_mono (Kd.V_far (p := ⟨gb461, 0, none⟩) (Kd.V_mono HO459.out (fun k_ hk => (⟨hk, hk.2⟩ : _ ∧ k_ ≠ gb461))) (fun _ hk => by first | exact hk.2 | grind) (.slice Ao93 t457.length co93)) (fun _ h_ => by first | exact h_.1 | grind))) (Kd.R_base ho0) hb); have n4_ := Aside0.mk (Kd.R_lower (Kd.R_newM (M := fun k_ => (w.heap.size ≤ k_)) ho0 (below_size (by repeat (first | (with_reducible first | exact HB.out | apply below_alloc | apply pw_below_drewN | apply below_drew1 | refine below_set ?_ GE449.out | refine below_set ?_ GE450.out | refine below_set ?_ GE461.out) | exact HB.out))) (fun k_ h_ => h_)) (below_size (by repeat (first | (with_reducible first | exact HB.out | apply below_alloc | apply pw_below_drewN | apply below_drew1 | refine below_set ?_ GE449.out | refine below_set ?_ GE450.out | refine below_set ?_ GE461.out) | exact HB.out)))); have n5_ := Aside0.mk (blk_below (g := gb449) (o := .cells #[.slice A0_0 l0_0.length c0_0] 24 (0, 0)) (by (with_reducible repeat (first | refine blk_drewN ?_ _ | refine blk_drew ?_ | refine blk_alloc ?_ _)); refine blk_far ?_ NB449_461.out _; (with_reducible repeat (first | refine blk_drewN ?_ _ | refine blk_drew ?_ | refine blk_alloc ?_ _)); exact BK449.out) hb); have n6_ := Aside0.mk (blk_below (g := gb450) (o := .cells #[.slice A1_0 l1_0.length c1_0] 24 (0, 0)) (by (with_reducible repeat (first | refine blk_drewN ?_ _ | refine blk_drew ?_ | refine blk_alloc ?_ _)); refine blk_far ?_ NB450_461.out _; (with_reducible repeat (first | refine blk_drewN ?_ _ | refine blk_drew ?_ | refine blk_alloc ?_ _)); exact BK450.out) hb); have n7_ := Aside0.mk (blk_below (g := gb461) (o := .cells #[.slice Ao93 t457.length co93] 24 (0, 0)) (by (with_reducible repeat (first | refine blk_drewN ?_ _ | refine blk_drew ?_ | refine blk_alloc ?_ _)); refine blk_put (cs := #[.slice none 0 0]) ?_ 0 _ rfl; (with_reducible repeat (first | refine blk_drewN ?_ _ | refine blk_drew ?_ | refine blk_alloc ?_ _)); exact BK461.out) hb); have n8_ := Aside0.mk (below_step (by repeat (first | (with_reducible first | exact HB.out | apply below_alloc | apply pw_below_drewN | apply below_drew1 | refine below_set ?_ GE449.out | refine below_set ?_ GE450.out | refine below_set ?_ GE461.out) | exact HB.out)) hb); clear HO0_0; clear HO1_0; clear HO454; clear HO459; clear BK449; clear BK450; clear BK461; clear HB; have HO0_0 := n0_; have HO1_0 := n1_; have HO454 := n2_; have HO459 := n3_; have HO464 := n4_; have BK449 := n5_; have BK450 := n6_; have BK461 := n7_; have HB := n8_; clear n0_ n1_ n2_ n3_ n4_ n5_ n6_ n7_ n8_; (try clear hb); (try clear hb2); (try clear hk); (try clear hi); (try clear ho0)) | ((with_reducible refine gate_dst (N := 9) rfl ?_); (try (refine gate_guard (by rfl) ?_; dsimp only)); refine box_event ?hg (N := 9) ?hd (cs := #[.slice none 0 0]) (t := 24) ?hr ?_; (case hd => rfl); (case hg => rfl); (case hr => first | (go_simp; done) | (go_simp; rfl)); intro gb466 hg w98 hbox hb; have n0_ := Aside0.mk (Kd.V_below (Kd.V_elderB (by (with_reducible repeat (first | apply Kd.V_alloc | apply Kd.V_drewN | apply Kd.V_drew)); exact HO0_0.out) gb466 (Nat.le_of_eq hg.symm)) hb); have n1_ := Aside0.mk (Kd.V_below (Kd.V_elderB (by (with_reducible repeat (first | apply Kd.V_alloc | apply Kd.V_drewN | apply Kd.V_drew)); exact HO1_0.out) gb466 (Nat.le_of_eq hg.symm)) hb); have n2_ := Aside0.mk (Kd.N_below (Kd.N_elderB (by (with_reducible repeat (first | apply Kd.N_alloc | apply Kd.N_drewN | apply Kd.N_drew)); exact HO454.out) gb466 (Nat.le_of_eq hg.symm)) hb); have n3_ := Aside0.mk (Kd.V_below (Kd.V_elderB (by (with_reducible repeat (first | apply Kd.V_alloc | apply Kd.V_drewN | apply Kd.V_drew)); exact HO459.out) gb466 (Nat.le_of_eq hg.symm)) hb); have n4_ := Aside0.mk (Kd.R_below (by (with_reducible repeat (first | apply Kd.R_alloc | apply Kd.R_drewN | apply Kd.R_drew)); exact HO464.out) hb); have n5_ := Aside0.mk (blk_below (g := gb449) (o := .cells #[.slice A0_0 l0_0.length c0_0] 24 (0, 0)) (by (with_reducible repeat (first | refine blk_drewN ?_ _ | refine blk_drew ?_ | refine blk_alloc ?_ _)); exact BK449.out) hb); have n6_ := Aside0.mk (blk_below (g := gb450) (o := .cells #[.slice A1_0 l1_0.length c1_0] 24 (0, 0)) (by (with_reducible repeat (first | refine blk_drewN ?_ _ | refine blk_drew ?_ | refine blk_alloc ?_ _)); exact BK450.out) hb); have n7_ := Aside0.mk (blk_below (g := gb461) (o := .cells #[.slice Ao93 t457.length co93] 24 (0, 0)) (by (with_reducible repeat (first | refine blk_drewN ?_ _ | refine blk_drew ?_ | refine blk_alloc ?_ _)); exact BK461.out) hb); have n8_ := Aside0.mk (below_step (by repeat (first | (with_reducible first | exact HB.out | apply below_alloc | apply pw_below_drewN | apply below_drew1 | refine below_set ?_ GE449.out | refine below_set ?_ GE450.out | refine below_set ?_ GE461.out) | exact HB.out)) hb); have n9_ := Aside0.mk (hbox); have n10_ := Aside0.mk ((by rw [hg]; exact (below_size (by repeat (first | (with_reducible first | exact HB.out | apply below_alloc | apply pw_below_drewN | apply below_drew1 | refine below_set ?_ GE449.out | refine below_set ?_ GE450.out | refine below_set ?_ GE461.out) | exact HB.out))) : w.heap.size ≤ gb466)); have n11_ := Aside0.mk ((by rw [hg]; exact (below_size (by repeat (first | (with_reducible first | exact HB.out | apply below_alloc | apply pw_below_drewN | apply below_drew1 | refine below_set ?_ GE449.out | refine below_set ?_ GE450.out | refine below_set ?_ GE461.out) | exact HB.out))) : w.heap.size ≤ gb466)); have n12_ := Aside0.mk ((by rw [hg]; exact Nat.ne_of_lt (blk_lt (g := gb449) (o := .cells #[.slice A0_0 l0_0.length c0_0] 24 (0, 0)) (by (with_reducible repeat (first | refine blk_drewN ?_ _ | refine blk_drew ?_ | refine blk_alloc ?_ _)); exact BK449.out)) : gb449 ≠ gb466)); have n13_ := Aside0.mk ((by rw [hg]; exact Nat.ne_of_gt (blk_lt (g := gb449) (o := .cells #[.slice A0_0 l0_0.length c0_0] 24 (0, 0)) (by (with_reducible repeat (first | refine blk_drewN ?_ _ | refine blk_drew ?_ | refine blk_alloc ?_ _)); exact BK449.out)) : gb466 ≠ gb449)); have n14_ := Aside0.mk ((by rw [hg]; exact Nat.ne_of_lt (blk_lt (g := gb450) (o := .cells #[.slice A1_0 l1_0.length c1_0] 24 (0, 0)) (by (with_reducible repeat (first | refine blk_drewN ?_ _ | refine blk_drew ?_ | refine blk_alloc ?_ _)); exact BK450.out)) : gb450 ≠ gb466)); have n15_ := Aside0.mk ((by rw [hg]; exact Nat.ne_of_gt (blk_lt (g := gb450) (o := .cells #[.slice A1_0 l1_0.length c1_0] 24 (0, 0)) (by (with_reducible repeat (first | refine blk_drewN ?_ _ | refine blk_drew ?_ | refine blk_alloc ?_ _)); exact BK450.out)) : gb466 ≠ gb450)); have n16_ := Aside0.mk ((by rw [hg]; exact Nat.ne_of_lt (blk_lt (g := gb461) (o := .cells #[.slice Ao93 t457.length co93] 24 (0, 0)) (by (with_reducible repeat (first | refine blk_drewN ?_ _ | refine blk_drew ?_ | refine blk_alloc ?_ _)); exact BK461.out)) : gb461 ≠ gb466)); have n17_ := Aside0.mk ((by rw [hg]; exact Nat.ne_of_gt (blk_lt (g := gb461) (o := .cells #[.slice Ao93 t457.length co93] 24 (0, 0)) (by (with_reducible repeat (first | refine blk_drewN ?_ _ | refine blk_drew ?_ | refine blk_alloc ?_ _)); exact BK461.out)) : gb466 ≠ gb461)); clear HO0_0; clear HO1_0; clear HO454; clear HO459; clear HO464; clear BK449; clear BK450; clear BK461; clear HB; have HO0_0 := n0_; have HO1_0 := n1_; have HO454 := n2_; have HO459 := n3_; have HO464 := n4_; have BK449 := n5_; have BK450 := n6_; have BK461 := n7_; have HB := n8_; have BK466 := n9_; have GW466 := n10_; have GE466 := n11_; have NB449_466 := n12_; have NB466_449 := n13_; have NB450_466 := n14_; have NB466_450 := n15_; have NB461_466 := n16_; have NB466_461 := n17_; clear n0_ n1_ n2_ n3_ n4_ n5_ n6_ n7_ n8_ n9_ n10_ n11_ n12_ n13_ n14_ n15_ n16_ n17_; clear hb hbox hg; obtain ⟨Ao99, co99, eo99⟩ := Kd.R_slice HO464.out; subst eo99; have hnb100 := NB466_449.out; have hnc100 := NB449_466.out; have hnb101 := NB466_450.out; have hnc101 := NB450_466.out; have hnb102 := NB466_461.out; have hnc102 := NB461_466.out; have hcz103_0 : w98.cell? ⟨gb466, 0, none⟩ = some (.slice none 0 0) := (blk_cell BK466.out 0).trans rfl; have hfz103_0 := blk_frozen BK466.out 0))
        have n0_ : Aside0 (Kd.V (Kd.int .i64) 3 (w98.setCell ⟨gb466, 0, none⟩ (.slice Ao99 t462.length co99)) w.heap.size (fun k_ => ((P0_0_ k_ ∨ P1_0_ k_) ∨ w.heap.size ≤ k_) ∧ some k_ ≠ (.slice Ao90 y452.length co90 : Value).ownBlock ∧ some k_ ≠ (.slice Ao99 t462.length co99 : Value).ownBlock ∧ k_ ≠ gb449 ∧ k_ ≠ gb450 ∧ k_ ≠ gb461 ∧ k_ ≠ gb466) (.slice A0_0 l0_0.length c0_0) l0_0) := ⟨by (with_reducible repeat (first | apply Kd.V_alloc | apply Kd.V_drewN | apply Kd.V_drew)); exact Kd.V_mono (Kd.V_far (p := ⟨gb466, 0, none⟩) (Kd.V_mono HO0_0.out (fun k_ hk => (⟨hk, hk.2⟩ : _ ∧ k_ ≠ gb466))) (fun _ hk => by first | exact hk.2 | grind) (.slice Ao99 t462.length co99)) (fun _ hk => by first | exact ⟨hk.1.1.1.1.1.1.1, ⟨hk.1.1.1.1.2, ⟨hk.1.1.2, ⟨hk.1.1.1.1.1.1.2, ⟨hk.1.1.1.1.1.2, ⟨hk.1.1.1.2, hk.1.2⟩⟩⟩⟩⟩⟩ | grind)⟩
        have n1_ : Aside0 (Kd.V (Kd.int .i64) 3 (w98.setCell ⟨gb466, 0, none⟩ (.slice Ao99 t462.length co99)) w.heap.size (fun k_ => ((P0_0_ k_ ∨ P1_0_ k_) ∨ w.heap.size ≤ k_) ∧ some k_ ≠ (.slice Ao90 y452.length co90 : Value).ownBlock ∧ some k_ ≠ (.slice Ao99 t462.length co99 : Value).ownBlock ∧ k_ ≠ gb449 ∧ k_ ≠ gb450 ∧ k_ ≠ gb461 ∧ k_ ≠ gb466) (.slice A1_0 l1_0.length c1_0) l1_0) := ⟨by (with_reducible repeat (first | apply Kd.V_alloc | apply Kd.V_drewN | apply Kd.V_drew)); exact Kd.V_mono (Kd.V_far (p := ⟨gb466, 0, none⟩) (Kd.V_mono HO1_0.out (fun k_ hk => (⟨hk, hk.2⟩ : _ ∧ k_ ≠ gb466))) (fun _ hk => by first | exact hk.2 | grind) (.slice Ao99 t462.length co99)) (fun _ hk => by first | exact ⟨hk.1.1.1.1.1.1.1, ⟨hk.1.1.1.1.2, ⟨hk.1.1.2, ⟨hk.1.1.1.1.1.1.2, ⟨hk.1.1.1.1.1.2, ⟨hk.1.1.1.2, hk.1.2⟩⟩⟩⟩⟩⟩ | grind)⟩
        have n2_ : Aside0 (Kd.N k24 24 (w98.setCell ⟨gb466, 0, none⟩ (.slice Ao99 t462.length co99)) w.heap.size (fun k_ => ((P0_0_ k_ ∨ P1_0_ k_) ∨ w.heap.size ≤ k_) ∧ some k_ ≠ (.slice Ao99 t462.length co99 : Value).ownBlock ∧ k_ ≠ gb449 ∧ k_ ≠ gb450 ∧ k_ ≠ gb461 ∧ k_ ≠ gb466) (.slice Ao90 y452.length co90) y452) := ⟨by (with_reducible repeat (first | apply Kd.N_alloc | apply Kd.N_drewN | apply Kd.N_drew)); exact Kd.N_mono (Kd.N_far (p := ⟨gb466, 0, none⟩) (Kd.N_mono HO454.out (fun k_ hk => (⟨hk, hk.2⟩ : _ ∧ k_ ≠ gb466))) (fun _ hk => by first | exact hk.2 | grind) (.slice Ao99 t462.length co99)) (fun _ hk => by first | exact ⟨hk.1.1.1.1.1, ⟨hk.1.1.2, ⟨hk.1.1.1.1.2.1, ⟨hk.1.1.1.1.2.2, ⟨hk.1.1.1.2, hk.1.2⟩⟩⟩⟩⟩ | grind)⟩
        have n3_ : Aside0 (Kd.V (Kd.int .i64) 3 (w98.setCell ⟨gb466, 0, none⟩ (.slice Ao99 t462.length co99)) w.heap.size (fun k_ => ((P0_0_ k_ ∨ P1_0_ k_) ∨ w.heap.size ≤ k_) ∧ some k_ ≠ (.slice Ao90 y452.length co90 : Value).ownBlock ∧ some k_ ≠ (.slice Ao99 t462.length co99 : Value).ownBlock ∧ k_ ≠ gb449 ∧ k_ ≠ gb450 ∧ k_ ≠ gb461 ∧ k_ ≠ gb466) (.slice Ao93 t457.length co93) t457) := ⟨by (with_reducible repeat (first | apply Kd.V_alloc | apply Kd.V_drewN | apply Kd.V_drew)); exact Kd.V_mono (Kd.V_far (p := ⟨gb466, 0, none⟩) (Kd.V_mono HO459.out (fun k_ hk => (⟨hk, hk.2⟩ : _ ∧ k_ ≠ gb466))) (fun _ hk => by first | exact hk.2 | grind) (.slice Ao99 t462.length co99)) (fun _ hk => by first | exact ⟨hk.1.1.1.1.1, ⟨hk.1.1.1.1.2.1, ⟨hk.1.1.2, ⟨hk.1.1.1.1.2.2.1, ⟨hk.1.1.1.1.2.2.2, ⟨hk.1.1.1.2, hk.1.2⟩⟩⟩⟩⟩⟩ | grind)⟩
        have n4_ : Aside0 (Kd.R (Kd.int .i64) 3 (w98.setCell ⟨gb466, 0, none⟩ (.slice Ao99 t462.length co99)) w.heap.size (fun k_ => (w.heap.size ≤ k_)) (.slice Ao99 t462.length co99) t462) := ⟨by (with_reducible repeat (first | apply Kd.R_alloc | apply Kd.R_drewN | apply Kd.R_drew)); exact Kd.R_mono (Kd.R_far (p := ⟨gb466, 0, none⟩) (Kd.R_types HO464.out BK466.out (by decide)) (fun _ hk => by first | exact hk.2 | grind) (.slice Ao99 t462.length co99)) (fun _ hk => by first | exact hk.1.1 | grind)⟩
        have n5_ : Aside0 ((w98.setCell ⟨gb466, 0, none⟩ (.slice Ao99 t462.length co99)).heap[gb449]? = some (.cells #[.slice A0_0 l0_0.length c0_0] 24 (0, 0))) := ⟨by (with_reducible repeat (first | refine blk_drewN ?_ _ | refine blk_drew ?_ | refine blk_alloc ?_ _)); refine blk_far ?_ NB449_466.out _; (with_reducible repeat (first | refine blk_drewN ?_ _ | refine blk_drew ?_ | refine blk_alloc ?_ _)); exact BK449.out⟩
        have n6_ : Aside0 ((w98.setCell ⟨gb466, 0, none⟩ (.slice Ao99 t462.length co99)).heap[gb450]? = some (.cells #[.slice A1_0 l1_0.length c1_0] 24 (0, 0))) := ⟨by (with_reducible repeat (first | refine blk_drewN ?_ _ | refine blk_drew ?_ | refine blk_alloc ?_ _)); refine blk_far ?_ NB450_466.out _; (with_reducible repeat (first | refine blk_drewN ?_ _ | refine blk_drew ?_ | refine blk_alloc ?_ _)); exact BK450.out⟩
        have n7_ : Aside0 ((w98.setCell ⟨gb466, 0, none⟩ (.slice Ao99 t462.length co99)).heap[gb461]? = some (.cells #[.slice Ao93 t457.length co93] 24 (0, 0))) := ⟨by (with_reducible repeat (first | refine blk_drewN ?_ _ | refine blk_drew ?_ | refine blk_alloc ?_ _)); refine blk_far ?_ NB461_466.out _; (with_reducible repeat (first | refine blk_drewN ?_ _ | refine blk_drew ?_ | refine blk_alloc ?_ _)); exact BK461.out⟩
        have n8_ : Aside0 ((w98.setCell ⟨gb466, 0, none⟩ (.slice Ao99 t462.length co99)).heap[gb466]? = some (.cells #[.slice Ao99 t462.length co99] 24 (0, 0))) := ⟨by (with_reducible repeat (first | refine blk_drewN ?_ _ | refine blk_drew ?_ | refine blk_alloc ?_ _)); refine blk_put (cs := #[.slice none 0 0]) ?_ 0 _ rfl; (with_reducible repeat (first | refine blk_drewN ?_ _ | refine blk_drew ?_ | refine blk_alloc ?_ _)); exact BK466.out⟩
        have n9_ : Aside0 (Below w.heap.size w (w98.setCell ⟨gb466, 0, none⟩ (.slice Ao99 t462.length co99))) := ⟨by repeat (first | (with_reducible first | exact HB.out | apply below_alloc | apply pw_below_drewN | apply below_drew1 | refine below_set ?_ GE449.out | refine below_set ?_ GE450.out | refine below_set ?_ GE461.out | refine below_set ?_ GE466.out) | exact HB.out)⟩
        (try clear HO0_0)
        (try clear HO1_0)
        (try clear HO454)
        (try clear HO459)
        (try clear HO464)
        (try clear BK449)
        (try clear BK450)
        (try clear BK461)
        (try clear BK466)
        (try clear HB)
        generalize (w98.setCell ⟨gb466, 0, none⟩ (.slice Ao99 t462.length co99)) = w104 at n0_ n1_ n2_ n3_ n4_ n5_ n6_ n7_ n8_ n9_ ⊢
        have HO0_0 := n0_
        have HO1_0 := n1_
        have HO454 := n2_
        have HO459 := n3_
        have HO464 := n4_
        have BK449 := n5_
        have BK450 := n6_
        have BK461 := n7_
        have BK466 := n8_
        have HB := n9_
        clear n0_ n1_ n2_ n3_ n4_ n5_ n6_ n7_ n8_ n9_
        have n0_ := Aside0.mk (Kd.V_drew HO0_0.out)
        have n1_ := Aside0.mk (Kd.V_drew HO1_0.out)
        have n2_ := Aside0.mk (Kd.N_drew HO454.out)
        have n3_ := Aside0.mk (Kd.V_drew HO459.out)
        have n4_ := Aside0.mk (Kd.R_drew HO464.out)
        have n5_ := Aside0.mk (blk_drew BK449.out)
        have n6_ := Aside0.mk (blk_drew BK450.out)
        have n7_ := Aside0.mk (blk_drew BK461.out)
        have n8_ := Aside0.mk (blk_drew BK466.out)
        have n9_ := Aside0.mk (below_drew1 HB.out)
        clear HO0_0
        clear HO1_0
        clear HO454
        clear HO459
        clear HO464
        clear BK449
        clear BK450
        clear BK461
        clear BK466
        clear HB
        have HO0_0 := n0_
        have HO1_0 := n1_
        have HO454 := n2_
        have HO459 := n3_
        have HO464 := n4_
        have BK449 := n5_
        have BK450 := n6_
        have BK461 := n7_
        have BK466 := n8_
        have HB := n9_
        clear n0_ n1_ n2_ n3_ n4_ n5_ n6_ n7_ n8_ n9_
        refine start_ (n := 35) (S := fun w' => w'.cell? ⟨gb449, 0, none⟩ = some (.slice A0_0 l0_0.length c0_0)) (ds := []) #[false, false, false, false, false, false, false, false, false, false, false, false, false, false, false, false, false, false, false, false, false, false, false, false, false, false, false, false, false, false, false, false, false, false, false] (by kernel_rfl) rfl rfl ((blk_cell BK449.out 0).trans rfl) (fun hHeld => ?_); refine with_tabW ancepslaw02_NaturalValid.tab5 ancepslaw02_NaturalValid.bits5 (fun HT_ HW_ => ?_)
        generalize w104.drew = w105 at HO0_0 HO1_0 HO454 HO459 HO464 BK449 BK450 BK461 BK466 HB hHeld ⊢
        refine take_ (i := 0) (N := some 31) (v := ?_) (a' := ?_) #[true, false, false, false, false, false, false, false, false, false, false, false, false, false, false, false, false, false, false, false, false, false, false, false, false, false, false, false, false, false, false, false, false, false, false] rfl rfl (take_ofW HT_.out HW_.out (by kernel_rfl)) (fun _ _ _ h => h) (Or.inl ⟨by rfl, ?_⟩) hHeld ?_ ?_
        rotate_left
        · intro w' s0
          go_simp
          with_reducible rfl
        rotate_left
        · simp only [Act.put, List.setIfInBounds_toArray, List.set_cons_zero, List.set_cons_succ, i64_w, i32_w]
          rfl
        refine take_ (i := 2) (N := some 33) (v := ?_) (a' := ?_) #[true, false, true, false, false, false, false, false, false, false, false, false, false, false, false, false, false, false, false, false, false, false, false, false, false, false, false, false, false, false, false, false, false, false, false] rfl rfl (take_ofW HT_.out HW_.out (by kernel_rfl)) (fun _ _ _ h => h) (Or.inl ⟨by rfl, ?_⟩) hHeld ?_ ?_
        rotate_left
        · intro w' s0
          go_simp
          with_reducible rfl
        rotate_left
        · simp only [Act.put, List.setIfInBounds_toArray, List.set_cons_zero, List.set_cons_succ, i64_w, i32_w]
          rfl
        refine one_ (i := 1) (N := some 32) #[true, true, true, false, false, false, false, false, false, false, false, false, false, false, false, false, false, false, false, false, false, false, false, false, false, false, false, false, false, false, false, false, false, false, false] rfl rfl (one_of HT_.out (by kernel_rfl)) (by decide) (fun K hK => ?_)
        refine goes_ Tryd.func24 (by kernel_rfl) rfl #[.agg #[.slice A0_0 l0_0.length c0_0]] (by rfl) rfl rfl (by (try simp only [List.map_toArray, List.map_cons, List.map_nil]); first | done | rfl | (simp only [List.length_drop, List.length_take]; rfl)) ?_
        with_reducible refine (natural_Valid.calls _ _ l0_0 t467 _ ?side1 ?side2 A10.out).mono ?_
        (case side1 => repeat (first | exact (Kd.V_reads' HO0_0.out).2.2 | (with_reducible refine Kd.C_alloc ?_ _) | (with_reducible refine Kd.C_drewN ?_ _) | (with_reducible refine Kd.C_drew ?_)))
        (case side2 => exact (Kd.V_reads' HO0_0.out).2.1)
        rintro e w106 ⟨rfl, hb⟩
        refine ⟨_, rfl, ?_⟩
        have n0_ := Aside0.mk (Kd.V_below (by (with_reducible repeat (first | apply Kd.V_alloc | apply Kd.V_drewN | apply Kd.V_drew)); exact HO0_0.out) hb)
        have n1_ := Aside0.mk (Kd.V_below (by (with_reducible repeat (first | apply Kd.V_alloc | apply Kd.V_drewN | apply Kd.V_drew)); exact HO1_0.out) hb)
        have n2_ := Aside0.mk (Kd.N_below (by (with_reducible repeat (first | apply Kd.N_alloc | apply Kd.N_drewN | apply Kd.N_drew)); exact HO454.out) hb)
        have n3_ := Aside0.mk (Kd.V_below (by (with_reducible repeat (first | apply Kd.V_alloc | apply Kd.V_drewN | apply Kd.V_drew)); exact HO459.out) hb)
        have n4_ := Aside0.mk (Kd.R_below (by (with_reducible repeat (first | apply Kd.R_alloc | apply Kd.R_drewN | apply Kd.R_drew)); exact HO464.out) hb)
        have n5_ := Aside0.mk (blk_below (g := gb449) (o := .cells #[.slice A0_0 l0_0.length c0_0] 24 (0, 0)) (by (with_reducible repeat (first | refine blk_drewN ?_ _ | refine blk_drew ?_ | refine blk_alloc ?_ _)); exact BK449.out) hb)
        have n6_ := Aside0.mk (blk_below (g := gb450) (o := .cells #[.slice A1_0 l1_0.length c1_0] 24 (0, 0)) (by (with_reducible repeat (first | refine blk_drewN ?_ _ | refine blk_drew ?_ | refine blk_alloc ?_ _)); exact BK450.out) hb)
        have n7_ := Aside0.mk (blk_below (g := gb461) (o := .cells #[.slice Ao93 t457.length co93] 24 (0, 0)) (by (with_reducible repeat (first | refine blk_drewN ?_ _ | refine blk_drew ?_ | refine blk_alloc ?_ _)); exact BK461.out) hb)
        have n8_ := Aside0.mk (blk_below (g := gb466) (o := .cells #[.slice Ao99 t462.length co99] 24 (0, 0)) (by (with_reducible repeat (first | refine blk_drewN ?_ _ | refine blk_drew ?_ | refine blk_alloc ?_ _)); exact BK466.out) hb)
        have n9_ := Aside0.mk (below_step (by repeat (first | (with_reducible first | exact HB.out | apply below_alloc | apply pw_below_drewN | apply below_drew1 | refine below_set ?_ GE449.out | refine below_set ?_ GE450.out | refine below_set ?_ GE461.out | refine below_set ?_ GE466.out) | exact HB.out)) hb)
        clear HO0_0
        clear HO1_0
        clear HO454
        clear HO459
        clear HO464
        clear BK449
        clear BK450
        clear BK461
        clear BK466
        clear HB
        have HO0_0 := n0_
        have HO1_0 := n1_
        have HO454 := n2_
        have HO459 := n3_
        have HO464 := n4_
        have BK449 := n5_
        have BK450 := n6_
        have BK461 := n7_
        have BK466 := n8_
        have HB := n9_
        clear n0_ n1_ n2_ n3_ n4_ n5_ n6_ n7_ n8_ n9_
        (try clear hb)
        (try clear hb2)
        (try clear hk)
        (try clear hi)
        refine hK.out _ _ ((blk_cell BK449.out 0).trans rfl) (fun hHeld => ?_)
        clear hK K
        refine norm_ (a' := ?_) ?_ ?_
        rotate_left
        · show Act.put _ (some 32) _ = _
          simp only [Act.put, List.setIfInBounds_toArray, List.set_cons_zero, List.set_cons_succ, i64_w, i32_w]
          rfl
        refine one_ (i := 3) (N := some 34) #[true, true, true, true, false, false, false, false, false, false, false, false, false, false, false, false, false, false, false, false, false, false, false, false, false, false, false, false, false, false, false, false, false, false, false] rfl rfl (one_of HT_.out (by kernel_rfl)) (by decide) (fun K hK => ?_)
        refine goes_ Tryd.func25 (by kernel_rfl) rfl #[.agg #[.slice A0_0 l0_0.length c0_0]] (by rfl) rfl rfl (by (try simp only [List.map_toArray, List.map_cons, List.map_nil]); first | done | rfl | (simp only [List.length_drop, List.length_take]; rfl)) ?_
        with_reducible refine (ancepsref02_Valid.calls k _ _ l0_0 t468 _ ?side1 ?side2 A11.out).mono ?_
        (case side1 => repeat (first | exact (Kd.V_reads' HO0_0.out).2.2 | (with_reducible refine Kd.C_alloc ?_ _) | (with_reducible refine Kd.C_drewN ?_ _) | (with_reducible refine Kd.C_drew ?_)))
        (case side2 => exact (Kd.V_reads' HO0_0.out).2.1)
        rintro e w107 ⟨rfl, hb⟩
        refine ⟨_, rfl, ?_⟩
        have n0_ := Aside0.mk (Kd.V_below (by (with_reducible repeat (first | apply Kd.V_alloc | apply Kd.V_drewN | apply Kd.V_drew)); exact HO0_0.out) hb)
        have n1_ := Aside0.mk (Kd.V_below (by (with_reducible repeat (first | apply Kd.V_alloc | apply Kd.V_drewN | apply Kd.V_drew)); exact HO1_0.out) hb)
        have n2_ := Aside0.mk (Kd.N_below (by (with_reducible repeat (first | apply Kd.N_alloc | apply Kd.N_drewN | apply Kd.N_drew)); exact HO454.out) hb)
        have n3_ := Aside0.mk (Kd.V_below (by (with_reducible repeat (first | apply Kd.V_alloc | apply Kd.V_drewN | apply Kd.V_drew)); exact HO459.out) hb)
        have n4_ := Aside0.mk (Kd.R_below (by (with_reducible repeat (first | apply Kd.R_alloc | apply Kd.R_drewN | apply Kd.R_drew)); exact HO464.out) hb)
        have n5_ := Aside0.mk (blk_below (g := gb449) (o := .cells #[.slice A0_0 l0_0.length c0_0] 24 (0, 0)) (by (with_reducible repeat (first | refine blk_drewN ?_ _ | refine blk_drew ?_ | refine blk_alloc ?_ _)); exact BK449.out) hb)
        have n6_ := Aside0.mk (blk_below (g := gb450) (o := .cells #[.slice A1_0 l1_0.length c1_0] 24 (0, 0)) (by (with_reducible repeat (first | refine blk_drewN ?_ _ | refine blk_drew ?_ | refine blk_alloc ?_ _)); exact BK450.out) hb)
        have n7_ := Aside0.mk (blk_below (g := gb461) (o := .cells #[.slice Ao93 t457.length co93] 24 (0, 0)) (by (with_reducible repeat (first | refine blk_drewN ?_ _ | refine blk_drew ?_ | refine blk_alloc ?_ _)); exact BK461.out) hb)
        have n8_ := Aside0.mk (blk_below (g := gb466) (o := .cells #[.slice Ao99 t462.length co99] 24 (0, 0)) (by (with_reducible repeat (first | refine blk_drewN ?_ _ | refine blk_drew ?_ | refine blk_alloc ?_ _)); exact BK466.out) hb)
        have n9_ := Aside0.mk (below_step (by repeat (first | (with_reducible first | exact HB.out | apply below_alloc | apply pw_below_drewN | apply below_drew1 | refine below_set ?_ GE449.out | refine below_set ?_ GE450.out | refine below_set ?_ GE461.out | refine below_set ?_ GE466.out) | exact HB.out)) hb)
        clear HO0_0
        clear HO1_0
        clear HO454
        clear HO459
        clear HO464
        clear BK449
        clear BK450
        clear BK461
        clear BK466
        clear HB
        have HO0_0 := n0_
        have HO1_0 := n1_
        have HO454 := n2_
        have HO459 := n3_
        have HO464 := n4_
        have BK449 := n5_
        have BK450 := n6_
        have BK461 := n7_
        have BK466 := n8_
        have HB := n9_
        clear n0_ n1_ n2_ n3_ n4_ n5_ n6_ n7_ n8_ n9_
        (try clear hb)
        (try clear hb2)
        (try clear hk)
        (try clear hi)
        refine hK.out _ _ ((blk_cell BK449.out 0).trans rfl) (fun hHeld => ?_)
        clear hK K
        refine norm_ (a' := ?_) ?_ ?_
        rotate_left
        · show Act.put _ (some 34) _ = _
          simp only [Act.put, List.setIfInBounds_toArray, List.set_cons_zero, List.set_cons_succ, i64_w, i32_w]
          rfl
        refine pure_ (i := 4) (N := some 35) (v := ?_) (a' := ?_) #[true, true, true, true, true, false, false, false, false, false, false, false, false, false, false, false, false, false, false, false, false, false, false, false, false, false, false, false, false, false, false, false, false, false, false] rfl rfl (any_of HT_.out (by kernel_rfl)) (fun _ _ _ h => h) (Or.inl ⟨by rfl, ?_⟩) ?_ ?_
        rotate_left
        · intro w'
          go_simp
          with_reducible rfl
        rotate_left
        · simp only [Act.put, List.setIfInBounds_toArray, List.set_cons_zero, List.set_cons_succ, i64_w, i32_w]
          rfl
        refine pure_ (i := 5) (N := some 36) (v := ?_) (a' := ?_) #[true, true, true, true, true, true, false, false, false, false, false, false, false, false, false, false, false, false, false, false, false, false, false, false, false, false, false, false, false, false, false, false, false, false, false] rfl rfl (any_of HT_.out (by kernel_rfl)) (fun _ _ _ h => h) (Or.inl ⟨by rfl, ?_⟩) ?_ ?_
        rotate_left
        · intro w'
          go_simp
          with_reducible rfl
        rotate_left
        · simp only [Act.put, List.setIfInBounds_toArray, List.set_cons_zero, List.set_cons_succ, i64_w, i32_w]
          rfl
        refine pure_ (i := 6) (N := some 37) (v := undef) (a' := ?_) #[true, true, true, true, true, true, true, false, false, false, false, false, false, false, false, false, false, false, false, false, false, false, false, false, false, false, false, false, false, false, false, false, false, false, false] rfl rfl (any_of HT_.out (by kernel_rfl)) (fun _ _ _ h => h) (Or.inr ⟨by rfl, rfl⟩) ?_ ?_
        rotate_left
        · simp only [Act.put, List.setIfInBounds_toArray, List.set_cons_zero, List.set_cons_succ, i64_w, i32_w]
          rfl
        refine pure_ (i := 7) (N := some 38) (v := undef) (a' := ?_) #[true, true, true, true, true, true, true, true, false, false, false, false, false, false, false, false, false, false, false, false, false, false, false, false, false, false, false, false, false, false, false, false, false, false, false] rfl rfl (any_of HT_.out (by kernel_rfl)) (fun _ _ _ h => h) (Or.inr ⟨by rfl, rfl⟩) ?_ ?_
        rotate_left
        · simp only [Act.put, List.setIfInBounds_toArray, List.set_cons_zero, List.set_cons_succ, i64_w, i32_w]
          rfl
        refine pure_ (i := 8) (N := some 39) (v := undef) (a' := ?_) #[true, true, true, true, true, true, true, true, true, false, false, false, false, false, false, false, false, false, false, false, false, false, false, false, false, false, false, false, false, false, false, false, false, false, false] rfl rfl (any_of HT_.out (by kernel_rfl)) (fun _ _ _ h => h) (Or.inr ⟨by rfl, rfl⟩) ?_ ?_
        rotate_left
        · simp only [Act.put, List.setIfInBounds_toArray, List.set_cons_zero, List.set_cons_succ, i64_w, i32_w]
          rfl
        refine pure_ (i := 9) (N := some 40) (v := undef) (a' := ?_) #[true, true, true, true, true, true, true, true, true, true, false, false, false, false, false, false, false, false, false, false, false, false, false, false, false, false, false, false, false, false, false, false, false, false, false] rfl rfl (any_of HT_.out (by kernel_rfl)) (fun _ _ _ h => h) (Or.inr ⟨by rfl, rfl⟩) ?_ ?_
        rotate_left
        · simp only [Act.put, List.setIfInBounds_toArray, List.set_cons_zero, List.set_cons_succ, i64_w, i32_w]
          rfl
        refine pure_ (i := 10) (N := some 41) (v := undef) (a' := ?_) #[true, true, true, true, true, true, true, true, true, true, true, false, false, false, false, false, false, false, false, false, false, false, false, false, false, false, false, false, false, false, false, false, false, false, false] rfl rfl (any_of HT_.out (by kernel_rfl)) (fun _ _ _ h => h) (Or.inr ⟨by rfl, rfl⟩) ?_ ?_
        rotate_left
        · simp only [Act.put, List.setIfInBounds_toArray, List.set_cons_zero, List.set_cons_succ, i64_w, i32_w]
          rfl
        refine pure_ (i := 11) (N := some 42) (v := undef) (a' := ?_) #[true, true, true, true, true, true, true, true, true, true, true, true, false, false, false, false, false, false, false, false, false, false, false, false, false, false, false, false, false, false, false, false, false, false, false] rfl rfl (any_of HT_.out (by kernel_rfl)) (fun _ _ _ h => h) (Or.inr ⟨by rfl, rfl⟩) ?_ ?_
        rotate_left
        · simp only [Act.put, List.setIfInBounds_toArray, List.set_cons_zero, List.set_cons_succ, i64_w, i32_w]
          rfl
        refine pure_ (i := 12) (N := some 43) (v := undef) (a' := ?_) #[true, true, true, true, true, true, true, true, true, true, true, true, true, false, false, false, false, false, false, false, false, false, false, false, false, false, false, false, false, false, false, false, false, false, false] rfl rfl (any_of HT_.out (by kernel_rfl)) (fun _ _ _ h => h) (Or.inr ⟨by rfl, rfl⟩) ?_ ?_
        rotate_left
        · simp only [Act.put, List.setIfInBounds_toArray, List.set_cons_zero, List.set_cons_succ, i64_w, i32_w]
          rfl
        refine pure_ (i := 13) (N := some 44) (v := ?_) (a' := ?_) #[true, true, true, true, true, true, true, true, true, true, true, true, true, true, false, false, false, false, false, false, false, false, false, false, false, false, false, false, false, false, false, false, false, false, false] rfl rfl (any_of HT_.out (by kernel_rfl)) (fun _ _ _ h => h) (Or.inl ⟨by rfl, ?_⟩) ?_ ?_
        rotate_left
        · intro w'
          go_simp
          with_reducible rfl
        rotate_left
        · simp only [Act.put, List.setIfInBounds_toArray, List.set_cons_zero, List.set_cons_succ, i64_w, i32_w]
          rfl
        refine pure_ (i := 14) (N := some 45) (v := ?_) (a' := ?_) #[true, true, true, true, true, true, true, true, true, true, true, true, true, true, true, false, false, false, false, false, false, false, false, false, false, false, false, false, false, false, false, false, false, false, false] rfl rfl (any_of HT_.out (by kernel_rfl)) (fun _ _ _ h => h) (Or.inl ⟨by rfl, ?_⟩) ?_ ?_
        rotate_left
        · intro w'
          go_simp
          with_reducible rfl
        rotate_left
        · simp only [Act.put, List.setIfInBounds_toArray, List.set_cons_zero, List.set_cons_succ, i64_w, i32_w]
          rfl
        refine pure_ (i := 15) (N := some 46) (v := undef) (a' := ?_) #[true, true, true, true, true, true, true, true, true, true, true, true, true, true, true, true, false, false, false, false, false, false, false, false, false, false, false, false, false, false, false, false, false, false, false] rfl rfl (any_of HT_.out (by kernel_rfl)) (fun _ _ _ h => h) (Or.inr ⟨by rfl, rfl⟩) ?_ ?_
        rotate_left
        · simp only [Act.put, List.setIfInBounds_toArray, List.set_cons_zero, List.set_cons_succ, i64_w, i32_w]
          rfl
        refine pure_ (i := 16) (N := some 47) (v := undef) (a' := ?_) #[true, true, true, true, true, true, true, true, true, true, true, true, true, true, true, true, true, false, false, false, false, false, false, false, false, false, false, false, false, false, false, false, false, false, false] rfl rfl (any_of HT_.out (by kernel_rfl)) (fun _ _ _ h => h) (Or.inr ⟨by rfl, rfl⟩) ?_ ?_
        rotate_left
        · simp only [Act.put, List.setIfInBounds_toArray, List.set_cons_zero, List.set_cons_succ, i64_w, i32_w]
          rfl
        refine pure_ (i := 17) (N := some 48) (v := undef) (a' := ?_) #[true, true, true, true, true, true, true, true, true, true, true, true, true, true, true, true, true, true, false, false, false, false, false, false, false, false, false, false, false, false, false, false, false, false, false] rfl rfl (any_of HT_.out (by kernel_rfl)) (fun _ _ _ h => h) (Or.inr ⟨by rfl, rfl⟩) ?_ ?_
        rotate_left
        · simp only [Act.put, List.setIfInBounds_toArray, List.set_cons_zero, List.set_cons_succ, i64_w, i32_w]
          rfl
        refine pure_ (i := 18) (N := some 49) (v := undef) (a' := ?_) #[true, true, true, true, true, true, true, true, true, true, true, true, true, true, true, true, true, true, true, false, false, false, false, false, false, false, false, false, false, false, false, false, false, false, false] rfl rfl (any_of HT_.out (by kernel_rfl)) (fun _ _ _ h => h) (Or.inr ⟨by rfl, rfl⟩) ?_ ?_
        rotate_left
        · simp only [Act.put, List.setIfInBounds_toArray, List.set_cons_zero, List.set_cons_succ, i64_w, i32_w]
          rfl
        refine pure_ (i := 19) (N := some 50) (v := undef) (a' := ?_) #[true, true, true, true, true, true, true, true, true, true, true, true, true, true, true, true, true, true, true, true, false, false, false, false, false, false, false, false, false, false, false, false, false, false, false] rfl rfl (any_of HT_.out (by kernel_rfl)) (fun _ _ _ h => h) (Or.inr ⟨by rfl, rfl⟩) ?_ ?_
        rotate_left
        · simp only [Act.put, List.setIfInBounds_toArray, List.set_cons_zero, List.set_cons_succ, i64_w, i32_w]
          rfl
        refine pure_ (i := 20) (N := some 51) (v := undef) (a' := ?_) #[true, true, true, true, true, true, true, true, true, true, true, true, true, true, true, true, true, true, true, true, true, false, false, false, false, false, false, false, false, false, false, false, false, false, false] rfl rfl (any_of HT_.out (by kernel_rfl)) (fun _ _ _ h => h) (Or.inr ⟨by rfl, rfl⟩) ?_ ?_
        rotate_left
        · simp only [Act.put, List.setIfInBounds_toArray, List.set_cons_zero, List.set_cons_succ, i64_w, i32_w]
          rfl
        refine pure_ (i := 21) (N := some 52) (v := undef) (a' := ?_) #[true, true, true, true, true, true, true, true, true, true, true, true, true, true, true, true, true, true, true, true, true, true, false, false, false, false, false, false, false, false, false, false, false, false, false] rfl rfl (any_of HT_.out (by kernel_rfl)) (fun _ _ _ h => h) (Or.inr ⟨by rfl, rfl⟩) ?_ ?_
        rotate_left
        · simp only [Act.put, List.setIfInBounds_toArray, List.set_cons_zero, List.set_cons_succ, i64_w, i32_w]
          rfl
        refine pure_ (i := 22) (N := some 53) (v := undef) (a' := ?_) #[true, true, true, true, true, true, true, true, true, true, true, true, true, true, true, true, true, true, true, true, true, true, true, false, false, false, false, false, false, false, false, false, false, false, false] rfl rfl (any_of HT_.out (by kernel_rfl)) (fun _ _ _ h => h) (Or.inr ⟨by rfl, rfl⟩) ?_ ?_
        rotate_left
        · simp only [Act.put, List.setIfInBounds_toArray, List.set_cons_zero, List.set_cons_succ, i64_w, i32_w]
          rfl
        refine pure_ (i := 23) (N := some 54) (v := ?_) (a' := ?_) #[true, true, true, true, true, true, true, true, true, true, true, true, true, true, true, true, true, true, true, true, true, true, true, true, false, false, false, false, false, false, false, false, false, false, false] rfl rfl (any_of HT_.out (by kernel_rfl)) (fun _ _ _ h => h) (Or.inl ⟨by rfl, ?_⟩) ?_ ?_
        rotate_left
        · intro w'
          go_simp
          with_reducible rfl
        rotate_left
        · simp only [Act.put, List.setIfInBounds_toArray, List.set_cons_zero, List.set_cons_succ, i64_w, i32_w]
          rfl
        refine pure_ (i := 24) (N := some 55) (v := ?_) (a' := ?_) #[true, true, true, true, true, true, true, true, true, true, true, true, true, true, true, true, true, true, true, true, true, true, true, true, true, false, false, false, false, false, false, false, false, false, false] rfl rfl (any_of HT_.out (by kernel_rfl)) (fun _ _ _ h => h) (Or.inl ⟨by rfl, ?_⟩) ?_ ?_
        rotate_left
        · intro w'
          go_simp
          with_reducible rfl
        rotate_left
        · simp only [Act.put, List.setIfInBounds_toArray, List.set_cons_zero, List.set_cons_succ, i64_w, i32_w]
          rfl
        refine pure_ (i := 25) (N := some 56) (v := undef) (a' := ?_) #[true, true, true, true, true, true, true, true, true, true, true, true, true, true, true, true, true, true, true, true, true, true, true, true, true, true, false, false, false, false, false, false, false, false, false] rfl rfl (any_of HT_.out (by kernel_rfl)) (fun _ _ _ h => h) (Or.inr ⟨by rfl, rfl⟩) ?_ ?_
        rotate_left
        · simp only [Act.put, List.setIfInBounds_toArray, List.set_cons_zero, List.set_cons_succ, i64_w, i32_w]
          rfl
        refine pure_ (i := 26) (N := some 57) (v := undef) (a' := ?_) #[true, true, true, true, true, true, true, true, true, true, true, true, true, true, true, true, true, true, true, true, true, true, true, true, true, true, true, false, false, false, false, false, false, false, false] rfl rfl (any_of HT_.out (by kernel_rfl)) (fun _ _ _ h => h) (Or.inr ⟨by rfl, rfl⟩) ?_ ?_
        rotate_left
        · simp only [Act.put, List.setIfInBounds_toArray, List.set_cons_zero, List.set_cons_succ, i64_w, i32_w]
          rfl
        refine pure_ (i := 27) (N := some 58) (v := undef) (a' := ?_) #[true, true, true, true, true, true, true, true, true, true, true, true, true, true, true, true, true, true, true, true, true, true, true, true, true, true, true, true, false, false, false, false, false, false, false] rfl rfl (any_of HT_.out (by kernel_rfl)) (fun _ _ _ h => h) (Or.inr ⟨by rfl, rfl⟩) ?_ ?_
        rotate_left
        · simp only [Act.put, List.setIfInBounds_toArray, List.set_cons_zero, List.set_cons_succ, i64_w, i32_w]
          rfl
        refine pure_ (i := 28) (N := some 59) (v := ?_) (a' := ?_) #[true, true, true, true, true, true, true, true, true, true, true, true, true, true, true, true, true, true, true, true, true, true, true, true, true, true, true, true, true, false, false, false, false, false, false] rfl rfl (any_of HT_.out (by kernel_rfl)) (fun _ _ _ h => h) (Or.inl ⟨by rfl, ?_⟩) ?_ ?_
        rotate_left
        · intro w'
          go_simp
          with_reducible rfl
        rotate_left
        · simp only [Act.put, List.setIfInBounds_toArray, List.set_cons_zero, List.set_cons_succ, i64_w, i32_w]
          rfl
        refine pure_ (i := 29) (N := some 60) (v := ?_) (a' := ?_) #[true, true, true, true, true, true, true, true, true, true, true, true, true, true, true, true, true, true, true, true, true, true, true, true, true, true, true, true, true, true, false, false, false, false, false] rfl rfl (any_of HT_.out (by kernel_rfl)) (fun _ _ _ h => h) (Or.inl ⟨by rfl, ?_⟩) ?_ ?_
        rotate_left
        · intro w'
          go_simp
          with_reducible rfl
        rotate_left
        · simp only [Act.put, List.setIfInBounds_toArray, List.set_cons_zero, List.set_cons_succ, i64_w, i32_w]
          rfl
        refine pure_ (i := 30) (N := some 61) (v := undef) (a' := ?_) #[true, true, true, true, true, true, true, true, true, true, true, true, true, true, true, true, true, true, true, true, true, true, true, true, true, true, true, true, true, true, true, false, false, false, false] rfl rfl (any_of HT_.out (by kernel_rfl)) (fun _ _ _ h => h) (Or.inr ⟨by rfl, rfl⟩) ?_ ?_
        rotate_left
        · simp only [Act.put, List.setIfInBounds_toArray, List.set_cons_zero, List.set_cons_succ, i64_w, i32_w]
          rfl
        refine pure_ (i := 31) (N := some 62) (v := undef) (a' := ?_) #[true, true, true, true, true, true, true, true, true, true, true, true, true, true, true, true, true, true, true, true, true, true, true, true, true, true, true, true, true, true, true, true, false, false, false] rfl rfl (any_of HT_.out (by kernel_rfl)) (fun _ _ _ h => h) (Or.inr ⟨by rfl, rfl⟩) ?_ ?_
        rotate_left
        · simp only [Act.put, List.setIfInBounds_toArray, List.set_cons_zero, List.set_cons_succ, i64_w, i32_w]
          rfl
        refine pure_ (i := 32) (N := some 63) (v := undef) (a' := ?_) #[true, true, true, true, true, true, true, true, true, true, true, true, true, true, true, true, true, true, true, true, true, true, true, true, true, true, true, true, true, true, true, true, true, false, false] rfl rfl (any_of HT_.out (by kernel_rfl)) (fun _ _ _ h => h) (Or.inr ⟨by rfl, rfl⟩) ?_ ?_
        rotate_left
        · simp only [Act.put, List.setIfInBounds_toArray, List.set_cons_zero, List.set_cons_succ, i64_w, i32_w]
          rfl
        refine pure_ (i := 33) (N := some 64) (v := ?_) (a' := ?_) #[true, true, true, true, true, true, true, true, true, true, true, true, true, true, true, true, true, true, true, true, true, true, true, true, true, true, true, true, true, true, true, true, true, true, false] rfl rfl (any_of HT_.out (by kernel_rfl)) (fun _ _ _ h => h) (Or.inl ⟨by rfl, ?_⟩) ?_ ?_
        rotate_left
        · intro w'
          go_simp
          with_reducible rfl
        rotate_left
        · simp only [Act.put, List.setIfInBounds_toArray, List.set_cons_zero, List.set_cons_succ, i64_w, i32_w]
          rfl
        refine pure_ (i := 34) (N := some 6) (v := ?_) (a' := ?_) #[true, true, true, true, true, true, true, true, true, true, true, true, true, true, true, true, true, true, true, true, true, true, true, true, true, true, true, true, true, true, true, true, true, true, true] rfl rfl (any_of HT_.out (by kernel_rfl)) (fun _ _ _ h => h) (Or.inl ⟨by rfl, ?_⟩) ?_ ?_
        rotate_left
        · intro w'
          go_simp
          with_reducible rfl
        rotate_left
        · simp only [Act.put, List.setIfInBounds_toArray, List.set_cons_zero, List.set_cons_succ, i64_w, i32_w]
          rfl
        refine done_ (done_of HT_.out (by kernel_rfl)) ?_
        try go_wp2
        go_ret
        exact ⟨by first | rfl | (simp [errW_none, errW_some] <;> rfl) | (simp [*, errW_none, errW_some] <;> rfl), by repeat (first | (with_reducible first | exact HB.out | apply below_alloc | apply pw_below_drewN | apply below_drew1 | refine below_set ?_ GE449.out | refine below_set ?_ GE450.out | refine below_set ?_ GE461.out | refine below_set ?_ GE466.out) | exact HB.out)⟩
    · replace c7 := Bool.eq_false_iff.mpr c7
      subst c7
      have H1 : ((ancepslaw02_awake.f k).bind fun t456 => (some t456)) = some r := by rw [if_neg (show ¬ (false = true) by decide)] at H; exact H
      clear H
      have H := H1
      clear H1
      replace H := Option.bind_eq_some_iff.mp H
      obtain ⟨t456, A1080, H⟩ := H
      replace H : (some t456) = some r := H
      have A108 := Aside0.mk A1080
      clear A1080
      obtain rfl := Option.some.inj H
      go_enter Tryd.func6, Tryd.ntmps6
      go_wp2_with (first | ((with_reducible refine gate_dst (N := 3) rfl ?_); (try (refine gate_guard (by rfl) ?_; dsimp only)); refine box_event ?hg (N := 3) ?hd (cs := #[.slice A0_0 l0_0.length c0_0]) (t := 24) ?hr ?_; (case hd => rfl); (case hg => rfl); (case hr => first | (go_simp; done) | (go_simp; rfl)); intro gb449 hg w109 hbox hb; have n0_ := Aside0.mk (Kd.V_below (Kd.V_elderB (by (with_reducible repeat (first | apply Kd.V_alloc | apply Kd.V_drewN | apply Kd.V_drew)); exact HO0_0.out) gb449 (Nat.le_of_eq hg.symm)) hb); have n1_ := Aside0.mk (Kd.V_below (Kd.V_elderB (by (with_reducible repeat (first | apply Kd.V_alloc | apply Kd.V_drewN | apply Kd.V_drew)); exact HO1_0.out) gb449 (Nat.le_of_eq hg.symm)) hb); have n2_ := Aside0.mk (below_step (by repeat (first | (with_reducible first | exact HB.out | apply below_alloc | apply pw_below_drewN | apply below_drew1) | exact HB.out)) hb); have n3_ := Aside0.mk (hbox); have n4_ := Aside0.mk ((by rw [hg]; exact (below_size (by repeat (first | (with_reducible first | exact HB.out | apply below_alloc | apply pw_below_drewN | apply below_drew1) | exact HB.out))) : w.heap.size ≤ gb449)); have n5_ := Aside0.mk ((by rw [hg]; exact (below_size (by repeat (first | (with_reducible first | exact HB.out | apply below_alloc | apply pw_below_drewN | apply below_drew1) | exact HB.out))) : w.heap.size ≤ gb449)); clear HO0_0; clear HO1_0; clear HB; have HO0_0 := n0_; have HO1_0 := n1_; have HB := n2_; have BK449 := n3_; have GW449 := n4_; have GE449 := n5_; clear n0_ n1_ n2_ n3_ n4_ n5_; clear hb hbox hg) | ((with_reducible refine gate_dst (N := 4) rfl ?_); (try (refine gate_guard (by rfl) ?_; dsimp only)); refine box_event ?hg (N := 4) ?hd (cs := #[.slice A1_0 l1_0.length c1_0]) (t := 24) ?hr ?_; (case hd => rfl); (case hg => rfl); (case hr => first | (go_simp; done) | (go_simp; rfl)); intro gb450 hg w110 hbox hb; have n0_ := Aside0.mk (Kd.V_below (Kd.V_elderB (by (with_reducible repeat (first | apply Kd.V_alloc | apply Kd.V_drewN | apply Kd.V_drew)); exact HO0_0.out) gb450 (Nat.le_of_eq hg.symm)) hb); have n1_ := Aside0.mk (Kd.V_below (Kd.V_elderB (by (with_reducible repeat (first | apply Kd.V_alloc | apply Kd.V_drewN | apply Kd.V_drew)); exact HO1_0.out) gb450 (Nat.le_of_eq hg.symm)) hb); have n2_ := Aside0.mk (blk_below (g := gb449) (o := .cells #[.slice A0_0 l0_0.length c0_0] 24 (0, 0)) (by (with_reducible repeat (first | refine blk_drewN ?_ _ | refine blk_drew ?_ | refine blk_alloc ?_ _)); exact BK449.out) hb); have n3_ := Aside0.mk (below_step (by repeat (first | (with_reducible first | exact HB.out | apply below_alloc | apply pw_below_drewN | apply below_drew1 | refine below_set ?_ GE449.out) | exact HB.out)) hb); have n4_ := Aside0.mk (hbox); have n5_ := Aside0.mk ((by rw [hg]; exact (below_size (by repeat (first | (with_reducible first | exact HB.out | apply below_alloc | apply pw_below_drewN | apply below_drew1 | refine below_set ?_ GE449.out) | exact HB.out))) : w.heap.size ≤ gb450)); have n6_ := Aside0.mk ((by rw [hg]; exact (below_size (by repeat (first | (with_reducible first | exact HB.out | apply below_alloc | apply pw_below_drewN | apply below_drew1 | refine below_set ?_ GE449.out) | exact HB.out))) : w.heap.size ≤ gb450)); have n7_ := Aside0.mk ((by rw [hg]; exact Nat.ne_of_lt (blk_lt (g := gb449) (o := .cells #[.slice A0_0 l0_0.length c0_0] 24 (0, 0)) (by (with_reducible repeat (first | refine blk_drewN ?_ _ | refine blk_drew ?_ | refine blk_alloc ?_ _)); exact BK449.out)) : gb449 ≠ gb450)); have n8_ := Aside0.mk ((by rw [hg]; exact Nat.ne_of_gt (blk_lt (g := gb449) (o := .cells #[.slice A0_0 l0_0.length c0_0] 24 (0, 0)) (by (with_reducible repeat (first | refine blk_drewN ?_ _ | refine blk_drew ?_ | refine blk_alloc ?_ _)); exact BK449.out)) : gb450 ≠ gb449)); clear HO0_0; clear HO1_0; clear BK449; clear HB; have HO0_0 := n0_; have HO1_0 := n1_; have BK449 := n2_; have HB := n3_; have BK450 := n4_; have GW450 := n5_; have GE450 := n6_; have NB449_450 := n7_; have NB450_449 := n8_; clear n0_ n1_ n2_ n3_ n4_ n5_ n6_ n7_ n8_; clear hb hbox hg) | ((with_reducible refine gate_callee (f := 12) rfl ?_); refine goesL_ (some 11) rfl rfl Tryd.func12 (by kernel_rfl) rfl #[] rfl (by (try simp only [List.map_toArray, List.map_cons, List.map_nil]); first | done | rfl | (simp only [List.length_drop, List.length_take]; rfl)) ?_; (with_reducible refine (ancepslaw02_awake.calls k  true _ ?side1 A4.out).mono ?_); (case side1 => exact GL.below HG.out (by repeat (first | (with_reducible first | exact HB.out | apply below_alloc | apply pw_below_drewN | apply below_drew1 | refine below_set ?_ GE449.out | refine below_set ?_ GE450.out) | exact HB.out))); rintro e w111 ⟨rfl, hb⟩; refine ⟨_, rfl, ?_⟩; have n0_ := Aside0.mk (Kd.V_below (by (with_reducible repeat (first | apply Kd.V_alloc | apply Kd.V_drewN | apply Kd.V_drew)); exact HO0_0.out) hb); have n1_ := Aside0.mk (Kd.V_below (by (with_reducible repeat (first | apply Kd.V_alloc | apply Kd.V_drewN | apply Kd.V_drew)); exact HO1_0.out) hb); have n2_ := Aside0.mk (blk_below (g := gb449) (o := .cells #[.slice A0_0 l0_0.length c0_0] 24 (0, 0)) (by (with_reducible repeat (first | refine blk_drewN ?_ _ | refine blk_drew ?_ | refine blk_alloc ?_ _)); exact BK449.out) hb); have n3_ := Aside0.mk (blk_below (g := gb450) (o := .cells #[.slice A1_0 l1_0.length c1_0] 24 (0, 0)) (by (with_reducible repeat (first | refine blk_drewN ?_ _ | refine blk_drew ?_ | refine blk_alloc ?_ _)); exact BK450.out) hb); have n4_ := Aside0.mk (below_step (by repeat (first | (with_reducible first | exact HB.out | apply below_alloc | apply pw_below_drewN | apply below_drew1 | refine below_set ?_ GE449.out | refine below_set ?_ GE450.out) | exact HB.out)) hb); clear HO0_0; clear HO1_0; clear BK449; clear BK450; clear HB; have HO0_0 := n0_; have HO1_0 := n1_; have BK449 := n2_; have BK450 := n3_; have HB := n4_; clear n0_ n1_ n2_ n3_ n4_; (try clear hb); (try clear hb2); (try clear hk); (try clear hi); have hnb112 := NB449_450.out; have hnc112 := NB450_449.out; have hcz113_0 : w111.cell? ⟨gb449, 0, none⟩ = some (.slice A0_0 l0_0.length c0_0) := (blk_cell BK449.out 0).trans rfl; have hfz113_0 := blk_frozen BK449.out 0; have hcz114_0 : w111.cell? ⟨gb450, 0, none⟩ = some (.slice A1_0 l1_0.length c1_0) := (blk_cell BK450.out 0).trans rfl; have hfz114_0 := blk_frozen BK450.out 0) | ((with_reducible refine gate_dst (N := 16) rfl ?_); (try (refine gate_guard (by rfl) ?_; dsimp only)); refine Kd.N_lit k24 _ 24 ?hg (N' := 16) ?hd (xs := ([(⟨l0_0⟩ : S24), (⟨l1_0⟩ : S24)] : List (S24))) (inner := [.slice A0_0 l0_0.length c0_0, .slice A1_0 l1_0.length c1_0]) (ok := (fun k_ => ((P0_0_ k_ ∨ P1_0_ k_) ∨ w.heap.size ≤ k_) ∧ k_ ≠ gb449 ∧ k_ ≠ gb450)) (okp := (fun k_ => ((P0_0_ k_ ∨ P1_0_ k_) ∨ w.heap.size ≤ k_) ∧ k_ ≠ gb449 ∧ k_ ≠ gb450)) ?hr ?hp (fun _ hk => hk) ((show ∀ k_, w111.heap.size ≤ k_ → (fun k_ => ((P0_0_ k_ ∨ P1_0_ k_) ∨ w.heap.size ≤ k_) ∧ k_ ≠ gb449 ∧ k_ ≠ gb450) k_ from fun k_ hk => ⟨(.inr (Nat.le_trans (below_size (by repeat (first | (with_reducible first | exact HB.out | apply below_alloc | apply pw_below_drewN | apply below_drew1 | refine below_set ?_ GE449.out | refine below_set ?_ GE450.out) | exact HB.out))) hk)), Kd.freshB (g := gb449) (o := .cells #[.slice A0_0 l0_0.length c0_0] 24 (0, 0)) (by (with_reducible repeat (first | refine blk_drewN ?_ _ | refine blk_drew ?_ | refine blk_alloc ?_ _)); exact BK449.out) k_ hk, Kd.freshB (g := gb450) (o := .cells #[.slice A1_0 l1_0.length c1_0] 24 (0, 0)) (by (with_reducible repeat (first | refine blk_drewN ?_ _ | refine blk_drew ?_ | refine blk_alloc ?_ _)); exact BK450.out) k_ hk⟩) _ (Nat.le_refl _)) (Below.refl _ _) (Nat.le_refl _) (by simp) ?_; (case hd => rfl); (case hg => rfl); (case hr => first | (go_simp; done) | (go_simp; rfl)); (case hp => exact (Reps.one (show Kd.FK k24 _ _ (⟨l0_0⟩ : S24) [.slice A0_0 l0_0.length c0_0] from (k24_mkF _ _ (⟨l0_0⟩ : S24) (Kd.V_reads' (Kd.V_mono (ok' := (fun k_ => ((P0_0_ k_ ∨ P1_0_ k_) ∨ w.heap.size ≤ k_) ∧ k_ ≠ gb449 ∧ k_ ≠ gb450)) (HO0_0.out) (fun k_ hk => by first | exact ⟨hk.1.1, ⟨hk.1.2, hk.2⟩⟩ | grind))).2.1 (Kd.V_F (Kd.V_mono (ok' := (fun k_ => ((P0_0_ k_ ∨ P1_0_ k_) ∨ w.heap.size ≤ k_) ∧ k_ ≠ gb449 ∧ k_ ≠ gb450)) (HO0_0.out) (fun k_ hk => by first | exact ⟨hk.1.1, ⟨hk.1.2, hk.2⟩⟩ | grind))))) (Reps.one (show Kd.FK k24 _ _ (⟨l1_0⟩ : S24) [.slice A1_0 l1_0.length c1_0] from (k24_mkF _ _ (⟨l1_0⟩ : S24) (Kd.V_reads' (Kd.V_mono (ok' := (fun k_ => ((P0_0_ k_ ∨ P1_0_ k_) ∨ w.heap.size ≤ k_) ∧ k_ ≠ gb449 ∧ k_ ≠ gb450)) (HO1_0.out) (fun k_ hk => by first | exact ⟨hk.1.1, ⟨hk.1.2, hk.2⟩⟩ | grind))).2.1 (Kd.V_F (Kd.V_mono (ok' := (fun k_ => ((P0_0_ k_ ∨ P1_0_ k_) ∨ w.heap.size ≤ k_) ∧ k_ ≠ gb449 ∧ k_ ≠ gb450)) (HO1_0.out) (fun k_ hk => by first | exact ⟨hk.1.1, ⟨hk.1.2, hk.2⟩⟩ | grind))))) (Reps.none _ _)))); intro v453 w115 ho116 hb hg_ hnew_; clear hg_ hnew_; (first | rw [← Ny452.out] at ho116 | (simp only [Int.reduceToNat] at ho116; rw [← Ny452.out] at ho116)); have n0_ := Aside0.mk (Kd.V_elder' (by (with_reducible repeat (first | apply Kd.V_alloc | apply Kd.V_drewN | apply Kd.V_drew)); exact HO0_0.out) (Kd.N_base ho116) hb); have n1_ := Aside0.mk (Kd.V_elder' (by (with_reducible repeat (first | apply Kd.V_alloc | apply Kd.V_drewN | apply Kd.V_drew)); exact HO1_0.out) (Kd.N_base ho116) hb); have n2_ := Aside0.mk (Kd.N_lower ho116 (below_size (by repeat (first | (with_reducible first | exact HB.out | apply below_alloc | apply pw_below_drewN | apply below_drew1 | refine below_set ?_ GE449.out | refine below_set ?_ GE450.out) | exact HB.out)))); have n3_ := Aside0.mk (blk_below (g := gb449) (o := .cells #[.slice A0_0 l0_0.length c0_0] 24 (0, 0)) (by (with_reducible repeat (first | refine blk_drewN ?_ _ | refine blk_drew ?_ | refine blk_alloc ?_ _)); exact BK449.out) hb); have n4_ := Aside0.mk (blk_below (g := gb450) (o := .cells #[.slice A1_0 l1_0.length c1_0] 24 (0, 0)) (by (with_reducible repeat (first | refine blk_drewN ?_ _ | refine blk_drew ?_ | refine blk_alloc ?_ _)); exact BK450.out) hb); have n5_ := Aside0.mk (below_step (by repeat (first | (with_reducible first | exact HB.out | apply below_alloc | apply pw_below_drewN | apply below_drew1 | refine below_set ?_ GE449.out | refine below_set ?_ GE450.out) | exact HB.out)) hb); clear HO0_0; clear HO1_0; clear BK449; clear BK450; clear HB; have HO0_0 := n0_; have HO1_0 := n1_; have HO454 := n2_; have BK449 := n3_; have BK450 := n4_; have HB := n5_; clear n0_ n1_ n2_ n3_ n4_ n5_; clear hb ho116; obtain ⟨Ao117, co117, eo117⟩ := Kd.N_slice HO454.out; subst eo117) | (go_at_call 13; (with_reducible refine (ancepslaw02_few.calls k _ _ y452 false _ ?side1 ?side2 A6.out).mono ?_); (case side1 => repeat (first | exact (Kd.N_reads' HO454.out).2.2 | (with_reducible refine Kd.C_alloc ?_ _) | (with_reducible refine Kd.C_drewN ?_ _) | (with_reducible refine Kd.C_drew ?_))); (case side2 => exact (Kd.N_reads' HO454.out).2.1); rintro e w' ⟨rfl, ⟨nd, rfl⟩⟩) | ((with_reducible refine gate_callee (f := 12) rfl ?_); refine goesL_ (some 20) rfl rfl Tryd.func12 (by kernel_rfl) rfl #[] rfl (by (try simp only [List.map_toArray, List.map_cons, List.map_nil]); first | done | rfl | (simp only [List.length_drop, List.length_take]; rfl)) ?_; (with_reducible refine (ancepslaw02_awake.calls k  t456 _ ?side1 A108.out).mono ?_); (case side1 => exact GL.below HG.out (by repeat (first | (with_reducible first | exact HB.out | apply below_alloc | apply pw_below_drewN | apply below_drew1 | refine below_set ?_ GE449.out | refine below_set ?_ GE450.out) | exact HB.out))); rintro e w118 ⟨rfl, hb⟩; refine ⟨_, rfl, ?_⟩; have n0_ := Aside0.mk (Kd.V_below (by (with_reducible repeat (first | apply Kd.V_alloc | apply Kd.V_drewN | apply Kd.V_drew)); exact HO0_0.out) hb); have n1_ := Aside0.mk (Kd.V_below (by (with_reducible repeat (first | apply Kd.V_alloc | apply Kd.V_drewN | apply Kd.V_drew)); exact HO1_0.out) hb); have n2_ := Aside0.mk (Kd.N_below (by (with_reducible repeat (first | apply Kd.N_alloc | apply Kd.N_drewN | apply Kd.N_drew)); exact HO454.out) hb); have n3_ := Aside0.mk (blk_below (g := gb449) (o := .cells #[.slice A0_0 l0_0.length c0_0] 24 (0, 0)) (by (with_reducible repeat (first | refine blk_drewN ?_ _ | refine blk_drew ?_ | refine blk_alloc ?_ _)); exact BK449.out) hb); have n4_ := Aside0.mk (blk_below (g := gb450) (o := .cells #[.slice A1_0 l1_0.length c1_0] 24 (0, 0)) (by (with_reducible repeat (first | refine blk_drewN ?_ _ | refine blk_drew ?_ | refine blk_alloc ?_ _)); exact BK450.out) hb); have n5_ := Aside0.mk (below_step (by repeat (first | (with_reducible first | exact HB.out | apply below_alloc | apply pw_below_drewN | apply below_drew1 | refine below_set ?_ GE449.out | refine below_set ?_ GE450.out) | exact HB.out)) hb); clear HO0_0; clear HO1_0; clear HO454; clear BK449; clear BK450; clear HB; have HO0_0 := n0_; have HO1_0 := n1_; have HO454 := n2_; have BK449 := n3_; have BK450 := n4_; have HB := n5_; clear n0_ n1_ n2_ n3_ n4_ n5_; (try clear hb); (try clear hb2); (try clear hk); (try clear hi)))
      go_ret
      exact ⟨by first | rfl | (simp [errW_none, errW_some] <;> rfl) | (simp [*, errW_none, errW_some] <;> rfl), by repeat (first | (with_reducible first | exact HB.out | apply below_alloc | apply pw_below_drewN | apply below_drew1 | refine below_set ?_ GE449.out | refine below_set ?_ GE450.out) | exact HB.out)⟩
  · replace c5 := Bool.eq_false_iff.mpr c5
    subst c5
    have H1 : (none) = some r := by rw [if_neg (show ¬ (false = true) by decide)] at H; exact H
    clear H
    have H := H1
    clear H1
    exact absurd H (by simp)

end Go.Proofs.YtlogclmmeikbpaaDoor.P

