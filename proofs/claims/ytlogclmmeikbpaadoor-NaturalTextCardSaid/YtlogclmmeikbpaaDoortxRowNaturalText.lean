/- The row of NaturalText and its tied card, out of one fact: that the law's call returns true and turns nothing that was there. No condition beyond the row's. Written by a program of ours (wip/tools/row.py). -/
import Derived.Test.YtlogclmmeikbpaaDoorCards
import Derived.Test.YtlogclmmeikbpaaDoorTie
import Derived.Test.YtlogclmmeikbpaaDoortxOpen
namespace Go.Proofs.YtlogclmmeikbpaaDoor.NaturalText
open Go.ChangeShapes Go.WideShapes Go.ChangeAt Go.RowKit Go.Proofs.YtlogclmmeikbpaaDoorW.PrintWords
open Go.ChangeMaps (open_string shut_string)
set_option linter.unusedVariables false
set_option maxRecDepth 100000 in
theorem lifted (law : ∀ (A0 : Option Addr) (c0 : Nat) (l0 : List Int) (W : World) (hG : GL W) (z0 : l0.length * 8 ≤ 140737488351232) (hr0 : Kd.C (Kd.int .i64) W A0 l0.length l0) (hc0 : l0.length ≤ c0) (hz0 : ∀ d ∈ l0, (Lit.int .i64 d).wf = true), Calls Tryd.prog 4 #[.agg #[.slice A0 l0.length c0]] W fun e W' => e = .returned (.bool true) ∧ Below W.heap.size W W')
    (os : Os) (started : os.Started) (H : Type) (enc : TypeId × Value → H) :
    ReturnsInHanded {} Tryd.checked os 4 .any (fun w args => (Rows.naturalTextSpec.pre enc Tryd.prog Tryd.f4 [] false w args ∧ laidMetH Tryd.prog Rows.naturalTextRow.laid w) ∧ sizedMet enc Tryd.prog Tryd.f4 (OpenSpec.ofChange Rows.naturalTextSpec) false w args)
      (Rows.naturalTextSpec.post enc Tryd.prog Tryd.f4 false true false false) := by
  refine returnsInHanded_of_change_and (C := Tryd.checked) (X := fun w _ => laidMetH Tryd.prog Rows.naturalTextRow.laid w) (fun _ _ _ hh h => h.of_heap hh) ownNone started (by kernel_rfl) Tryd.func4
    (ChangeSpec.witness_shaped (enc := enc) (C := Tryd.checked) (os := os) (X := fun w _ => laidMetH Tryd.prog Rows.naturalTextRow.laid w) false (World.laidAll Tryd.prog os Rows.naturalTextRow.laid) #[.agg #[.slice none 0 0]] 8 (World.laidAll_os _ _ _)
      (World.shaped_of_ZipB (by kernel_rfl) (by kernel_rfl)) (by kernel_rfl) (by kernel_rfl) (by kernel_rfl)
      (by rw [MakeChecks.laidMetH_plain _ _ _ (by kernel_rfl)]; exact laidMet_laidAll _ (by kernel_rfl) (by kernel_rfl))) ?_
  intro W base args ds gs before hval0 hW _ hsz0 hL _
  have hsz : (DataW.weightsEach Tryd.prog (Tryd.f4.params.toList ++ Rows.naturalTextSpec.plain.varTypes Tryd.prog) (ds ++ gs)).all (· ≤ reachBytes) = true := hsz0
  have hval : ∀ (j : Nat) t v, Tryd.f4.params[j]? = some t → args[j]? = some v → Value.okWide Tryd.prog W .any base t v := hval0
  have hW' := hW
  obtain ⟨p, q, hA0, hV, rfl, hfz, hnd⟩ := hW
  have hA : DataW.TrodAll enc Tryd.prog W 0 (fun _ => true) true Tryd.f4.params.toList args.toList ds p := hA0
  rw [Tryd.params4] at hA hval hsz
  obtain ⟨v0, vs0, d0, ds0, p0, q0, hargs, rfl, rfl, h0, r0⟩ := trodAll_cons hA
  obtain ⟨rfl, rfl, rfl⟩ := trodAll_nil r0
  obtain rfl : args = #[v0] := by cases args; simp_all
  obtain ⟨rfl, rfl⟩ := trodVars_none hV
  have k0 := h0
  have lt0 : ∀ x ∈ p0, x.block < W.heap.size := by obtain ⟨m, hm⟩ := k0; exact DataW.trod_lt m _ _ _ hm
  obtain ⟨A0, c0, l0, rfl, hr0, hc0, hz0, z0⟩ := open_S (B := 8) (j := 0) Tryd.underlying24 rfl rfl (by kernel_rfl) (by kernel_rfl) Tryd.underlying22 Tryd.underlying3 (by kernel_rfl) (by kernel_rfl) (hval 0 24 v0 rfl rfl) h0 hsz rfl rfl
  have hG : GL W := GL.of_laid hL (by kernel_rfl) (by first | exact .tail _ (.tail _ (.head _)) | exact .head _ | exact .tail _ (.head _) | exact .tail _ (.tail _ (.tail _ (.head _))))
  clear hA0 hval0 hsz0 hsz hval
  refine (law A0 c0 l0 W hG z0 hr0 hc0 hz0).mono fun e W' ⟨he, bel⟩ => ?_
  subst he
  exact ⟨_, rfl, _, _, _, [], _, [], hW', trodAll_mk1 (shut_bool Tryd.underlying4 _), (trodAll_cons_mk (Below.trod laidOut (by kernel_rfl) (of_decide_eq_true (by kernel_rfl)) k0 bel lt0) trodAll_mk0), rfl, bel.frame _, fun h => by cases h⟩
theorem over (law : ∀ (A0 : Option Addr) (c0 : Nat) (l0 : List Int) (W : World) (hG : GL W) (z0 : l0.length * 8 ≤ 140737488351232) (hr0 : Kd.C (Kd.int .i64) W A0 l0.length l0) (hc0 : l0.length ≤ c0) (hz0 : ∀ d ∈ l0, (Lit.int .i64 d).wf = true), Calls Tryd.prog 4 #[.agg #[.slice A0 l0.length c0]] W fun e W' => e = .returned (.bool true) ∧ Below W.heap.size W W') : Rows.naturalTextRow.holds Tryd.pinned (OpenSpec.ofChange Rows.naturalTextSpec) :=
  OpenClaim.holds_of_wide 4 Tryd.f4 rfl rfl rfl rfl rfl rfl rfl ⟨rfl, rfl, rfl, rfl, rfl⟩ rfl rfl rfl rfl rfl (by kernel_rfl) Tryd.func4 (by kernel_rfl)
    (of_decide_eq_true (by kernel_rfl)) (by unfold Func.isWrapper; first | (rw [if_pos (by decide +kernel)]; kernel_rfl) | (rw [if_neg (by decide +kernel)]; exact ⟨rfl, rfl⟩))
    (fun os started H enc _ => lifted law os started H enc)
theorem card (law : ∀ (A0 : Option Addr) (c0 : Nat) (l0 : List Int) (W : World) (hG : GL W) (z0 : l0.length * 8 ≤ 140737488351232) (hr0 : Kd.C (Kd.int .i64) W A0 l0.length l0) (hc0 : l0.length ≤ c0) (hz0 : ∀ d ∈ l0, (Lit.int .i64 d).wf = true), Calls Tryd.prog 4 #[.agg #[.slice A0 l0.length c0]] W fun e W' => e = .returned (.bool true) ∧ Below W.heap.size W W') : Rows.NaturalTextCardSaid :=
  Claim7.holds_tied_plain_at .later [] Rows.naturalTextCard.laidKinds true Rows.naturalTextCard.stood.harness Rows.naturalTextCard.stood.looks
    (over law) (fun _ h => by cases h) (by kernel_rfl) (fun _ h => by cases h) naturalText_row_tie rfl ⟨rfl, rfl⟩ (by kernel_rfl) rfl
    (fun f fn hf hfn => by
      obtain rfl : f = 4 := Option.some.inj ((show Tryd.prog.funcNamed Rows.naturalTextRow.func = some 4 by kernel_rfl).symm.trans hf) |>.symm
      obtain rfl : fn = Tryd.f4 := (Option.some.inj (Tryd.func4.symm.trans hfn)).symm
      exact ⟨by kernel_rfl, fun j t ht => by
        rw [Tryd.params4] at ht
        have hm : t ∈ [24] := by simpa using Array.mem_of_getElem? ht
        have hall : ([24].all fun u => !Tryd.prog.wantsStandIn u) = true := by kernel_rfl
        exact (show Tryd.prog.wantsStandIn t = false by simpa using List.all_eq_true.1 hall t hm)⟩)
    (by kernel_rfl)
end Go.Proofs.YtlogclmmeikbpaaDoor.NaturalText

