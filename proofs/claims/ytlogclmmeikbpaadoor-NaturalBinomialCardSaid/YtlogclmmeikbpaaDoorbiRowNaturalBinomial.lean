/- The row of NaturalBinomial and its tied card, out of one fact: that the law's call returns true and turns nothing that was there. No condition beyond the row's. Written by a program of ours (wip/tools/row.py). -/
import Derived.Test.YtlogclmmeikbpaaDoorCards
import Derived.Test.YtlogclmmeikbpaaDoorTie
import Derived.Test.YtlogclmmeikbpaaDoorbiOpen
namespace Go.Proofs.YtlogclmmeikbpaaDoor.NaturalBinomial
open Go.ChangeShapes Go.WideShapes Go.ChangeAt Go.RowKit Go.Proofs.YtlogclmmeikbpaaDoorW.PrintWords
open Go.ChangeMaps (open_string shut_string)
set_option linter.unusedVariables false
set_option maxRecDepth 100000 in
theorem lifted (law : ∀ (a0 : Int) (a1 : Int) (W : World) (hG : GL W) (z0 : -9223372036854775808 ≤ a0 ∧ a0 ≤ 9223372036854775807) (z1 : -9223372036854775808 ≤ a1 ∧ a1 ≤ 9223372036854775807), Calls Tryd.prog 8 #[.int .i64 a0, .int .i64 a1] W fun e W' => e = .returned (.bool true) ∧ Below W.heap.size W W')
    (os : Os) (started : os.Started) (H : Type) (enc : TypeId × Value → H) :
    ReturnsInHanded {} Tryd.checked os 8 .any (fun w args => (Rows.naturalBinomialSpec.pre enc Tryd.prog Tryd.f8 [] false w args ∧ laidMetH Tryd.prog Rows.naturalBinomialRow.laid w) ∧ sizedMet enc Tryd.prog Tryd.f8 (OpenSpec.ofChange Rows.naturalBinomialSpec) false w args)
      (Rows.naturalBinomialSpec.post enc Tryd.prog Tryd.f8 false true false false) := by
  refine returnsInHanded_of_change_and (C := Tryd.checked) (X := fun w _ => laidMetH Tryd.prog Rows.naturalBinomialRow.laid w) (fun _ _ _ hh h => h.of_heap hh) ownNone started (by kernel_rfl) Tryd.func8
    (ChangeSpec.witness_shaped (enc := enc) (C := Tryd.checked) (os := os) (X := fun w _ => laidMetH Tryd.prog Rows.naturalBinomialRow.laid w) false (World.laidAll Tryd.prog os Rows.naturalBinomialRow.laid) #[.int .i64 0, .int .i64 0] 8 (World.laidAll_os _ _ _)
      (World.shaped_of_ZipB (by kernel_rfl) (by kernel_rfl)) (by kernel_rfl) (by kernel_rfl) (by kernel_rfl)
      (by rw [MakeChecks.laidMetH_plain _ _ _ (by kernel_rfl)]; exact laidMet_laidAll _ (by kernel_rfl) (by kernel_rfl))) ?_
  intro W base args ds gs before hval0 hW _ hsz0 hL _
  have hsz : (DataW.weightsEach Tryd.prog (Tryd.f8.params.toList ++ Rows.naturalBinomialSpec.plain.varTypes Tryd.prog) (ds ++ gs)).all (· ≤ reachBytes) = true := hsz0
  have hval : ∀ (j : Nat) t v, Tryd.f8.params[j]? = some t → args[j]? = some v → Value.okWide Tryd.prog W .any base t v := hval0
  have hW' := hW
  obtain ⟨p, q, hA0, hV, rfl, hfz, hnd⟩ := hW
  have hA : DataW.TrodAll enc Tryd.prog W 0 (fun _ => true) true Tryd.f8.params.toList args.toList ds p := hA0
  rw [Tryd.params8] at hA hval hsz
  obtain ⟨v0, vs0, d0, ds0, p0, q0, hargs, rfl, rfl, h0, r0⟩ := trodAll_cons hA
  obtain ⟨v1, vs1, d1, ds1, p1, q1, rfl, rfl, rfl, h1, r1⟩ := trodAll_cons r0
  obtain ⟨rfl, rfl, rfl⟩ := trodAll_nil r1
  obtain rfl : args = #[v0, v1] := by cases args; simp_all
  obtain ⟨rfl, rfl⟩ := trodVars_none hV
  have k0 := h0
  have lt0 : ∀ x ∈ p0, x.block < W.heap.size := by obtain ⟨m, hm⟩ := k0; exact DataW.trod_lt m _ _ _ hm
  obtain ⟨a0, rfl, rfl, rfl, y0⟩ := open_int Tryd.underlying3 (hval 0 3 v0 rfl rfl) h0
  have z0 : -9223372036854775808 ≤ a0 ∧ a0 ≤ 9223372036854775807 := by simpa [Lit.wf, IntKind.min, IntKind.max, IntKind.signed, IntKind.bits] using y0
  have k1 := h1
  have lt1 : ∀ x ∈ p1, x.block < W.heap.size := by obtain ⟨m, hm⟩ := k1; exact DataW.trod_lt m _ _ _ hm
  obtain ⟨a1, rfl, rfl, rfl, y1⟩ := open_int Tryd.underlying3 (hval 1 3 v1 rfl rfl) h1
  have z1 : -9223372036854775808 ≤ a1 ∧ a1 ≤ 9223372036854775807 := by simpa [Lit.wf, IntKind.min, IntKind.max, IntKind.signed, IntKind.bits] using y1
  have hG : GL W := GL.of_laid hL (by kernel_rfl) (by first | exact .tail _ (.tail _ (.head _)) | exact .head _ | exact .tail _ (.head _) | exact .tail _ (.tail _ (.tail _ (.head _))))
  clear hA0 hval0 hsz0 hsz hval
  refine (law a0 a1 W hG z0 z1).mono fun e W' ⟨he, bel⟩ => ?_
  subst he
  exact ⟨_, rfl, _, _, _, [], _, [], hW', trodAll_mk1 (shut_bool Tryd.underlying4 _), (trodAll_cons_mk (shut_int Tryd.underlying3 y0) (trodAll_cons_mk (shut_int Tryd.underlying3 y1) trodAll_mk0)), rfl, bel.frame _, fun h => by cases h⟩
theorem over (law : ∀ (a0 : Int) (a1 : Int) (W : World) (hG : GL W) (z0 : -9223372036854775808 ≤ a0 ∧ a0 ≤ 9223372036854775807) (z1 : -9223372036854775808 ≤ a1 ∧ a1 ≤ 9223372036854775807), Calls Tryd.prog 8 #[.int .i64 a0, .int .i64 a1] W fun e W' => e = .returned (.bool true) ∧ Below W.heap.size W W') : Rows.naturalBinomialRow.holds Tryd.pinned (OpenSpec.ofChange Rows.naturalBinomialSpec) :=
  OpenClaim.holds_of_wide 8 Tryd.f8 rfl rfl rfl rfl rfl rfl rfl ⟨rfl, rfl, rfl, rfl, rfl⟩ rfl rfl rfl rfl rfl (by kernel_rfl) Tryd.func8 (by kernel_rfl)
    (of_decide_eq_true (by kernel_rfl)) (by unfold Func.isWrapper; first | (rw [if_pos (by decide +kernel)]; kernel_rfl) | (rw [if_neg (by decide +kernel)]; exact ⟨rfl, rfl⟩))
    (fun os started H enc _ => lifted law os started H enc)
theorem card (law : ∀ (a0 : Int) (a1 : Int) (W : World) (hG : GL W) (z0 : -9223372036854775808 ≤ a0 ∧ a0 ≤ 9223372036854775807) (z1 : -9223372036854775808 ≤ a1 ∧ a1 ≤ 9223372036854775807), Calls Tryd.prog 8 #[.int .i64 a0, .int .i64 a1] W fun e W' => e = .returned (.bool true) ∧ Below W.heap.size W W') : Rows.NaturalBinomialCardSaid :=
  Claim7.holds_tied_plain_at .later [] Rows.naturalBinomialCard.laidKinds true Rows.naturalBinomialCard.stood.harness Rows.naturalBinomialCard.stood.looks
    (over law) (fun _ h => by cases h) (by kernel_rfl) (fun _ h => by cases h) naturalBinomial_row_tie rfl ⟨rfl, rfl⟩ (by kernel_rfl) rfl
    (fun f fn hf hfn => by
      obtain rfl : f = 8 := Option.some.inj ((show Tryd.prog.funcNamed Rows.naturalBinomialRow.func = some 8 by kernel_rfl).symm.trans hf) |>.symm
      obtain rfl : fn = Tryd.f8 := (Option.some.inj (Tryd.func8.symm.trans hfn)).symm
      exact ⟨by kernel_rfl, fun j t ht => by
        rw [Tryd.params8] at ht
        have hm : t ∈ [3, 3] := by simpa using Array.mem_of_getElem? ht
        have hall : ([3, 3].all fun u => !Tryd.prog.wantsStandIn u) = true := by kernel_rfl
        exact (show Tryd.prog.wantsStandIn t = false by simpa using List.all_eq_true.1 hall t hm)⟩)
    (by kernel_rfl)
end Go.Proofs.YtlogclmmeikbpaaDoor.NaturalBinomial

