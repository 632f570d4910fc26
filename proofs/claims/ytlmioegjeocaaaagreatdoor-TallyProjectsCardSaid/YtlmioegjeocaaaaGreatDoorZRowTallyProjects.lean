/- The row of TallyProjects and its tied card, out of one contract: that the law's call returns true and turns nothing that was there. No condition beyond the row's. Written by a program of ours (wip/tools/row2.py). -/
import Derived.Test.YtlmioegjeocaaaaGreatDoorCards
import Derived.Test.YtlmioegjeocaaaaGreatDoorTie
import Derived.Test.YtlmioegjeocaaaaGreatDoorZn
namespace Go.Proofs.YtlmioegjeocaaaaGreatDoor.TallyProjects
open Go.ChangeShapes Go.WideShapes Go.ChangeAt Go.RowKit Go.VL Go.VS.YtlmioegjeocaaaaGreatDoor
set_option linter.unusedVariables false
abbrev shs : List (Bool × List Ty) := [(true, [.sl 16 [.str], .sl 8 [.int .i64]]), (false, [.int .i64])]
set_option maxRecDepth 100000 in
theorem lifted (law : ∀ pas, Shapes shs pas → Spc X 3 pas (.one (.bool true)))
    (os : Os) (started : os.Started) (H : Type) (enc : TypeId × Value → H) :
    ReturnsInHanded {} Tryz.checked os 3 .any (fun w args => (Rows.tallyProjectsSpec.pre enc Tryz.prog Tryz.f3 [] false w args ∧ laidMetH Tryz.prog Rows.tallyProjectsRow.laid w) ∧ sizedMet enc Tryz.prog Tryz.f3 (OpenSpec.ofChange Rows.tallyProjectsSpec) false w args)
      (Rows.tallyProjectsSpec.post enc Tryz.prog Tryz.f3 false true false false) := by
  refine returnsInHanded_of_change_and (C := Tryz.checked) (X := fun w _ => laidMetH Tryz.prog Rows.tallyProjectsRow.laid w) (fun _ _ _ hh h => h.of_heap hh) ownNone started (by kernel_rfl) Tryz.func3
    (ChangeSpec.witness_shaped (enc := enc) (C := Tryz.checked) (os := os) (X := fun w _ => laidMetH Tryz.prog Rows.tallyProjectsRow.laid w) false (World.laidAll Tryz.prog os Rows.tallyProjectsRow.laid) #[.agg (.mk [.slice .none 0 0, .slice .none 0 0]), .int .i64 (0)] 12 (World.laidAll_os _ _ _)
      (World.shaped_of_ZipB (by kernel_rfl) (by kernel_rfl)) (by kernel_rfl) (by kernel_rfl) (by kernel_rfl)
      (by rw [MakeChecks.laidMetH_plain _ _ _ (by kernel_rfl)]; exact laidMet_laidAll _ (by kernel_rfl) (by kernel_rfl))) ?_
  intro W base args ds gs before hval0 hW _ hsz0 hL _
  have hsz : (DataW.weightsEach Tryz.prog (Tryz.f3.params.toList ++ Rows.tallyProjectsSpec.plain.varTypes Tryz.prog) (ds ++ gs)).all (· ≤ reachBytes) = true := hsz0
  have hval : ∀ (j : Nat) t v, Tryz.f3.params[j]? = some t → args[j]? = some v → Value.okWide Tryz.prog W .any base t v := hval0
  have hW' := hW
  obtain ⟨p, q, hA0, hV, rfl, hfz, hnd⟩ := hW
  have hA : DataW.TrodAll enc Tryz.prog W 0 (fun _ => true) true Tryz.f3.params.toList args.toList ds p := hA0
  rw [Tryz.params3] at hA hval hsz
  have hA1 := hA
  obtain ⟨v0, vs0, d0, ds0, p0, q0, hargs, rfl, rfl, h0, r0⟩ := trodAll_cons hA1
  obtain ⟨v1, vs1, d1, ds1, p1, q1, rfl, rfl, rfl, h1, r1⟩ := trodAll_cons r0
  obtain ⟨rfl, rfl, rfl⟩ := trodAll_nil r1
  obtain rfl : args = #[v0, v1] := by cases args; simp_all
  obtain ⟨rfl, rfl⟩ := trodVars_none hV
  have hG : GL W := GL.of_laid hL (by kernel_rfl) (by first | exact .tail _ (.tail _ (.head _)) | exact .head _ | exact .tail _ (.head _) | exact .tail _ (.tail _ (.tail _ (.head _))) | exact .tail _ (.tail _ (.tail _ (.tail _ (.head _)))))
  clear hA0 hval0 hsz0
  refine (row_calls (X := X) (us := Rows.tallyProjectsSpec.plain.varTypes Tryz.prog) (gs := []) hA (fun j t v ht hv => hval j t v (by simpa using ht) (by simpa using hv)) (show _ = some shs by kernel_rfl) hsz hG law).mono fun e W' ⟨he, bel⟩ => ?_
  subst he
  exact ⟨_, rfl, _, _, _, [], _, [], hW', trodAll_mk1 (shut_bool Tryz.underlying4 _), trodAll_below laidOut bel (by kernel_rfl) hA, rfl, bel.frame _, fun h => by cases h⟩
theorem over (law : ∀ pas, Shapes shs pas → Spc X 3 pas (.one (.bool true))) : Rows.tallyProjectsRow.holds Tryz.pinned (OpenSpec.ofChange Rows.tallyProjectsSpec) :=
  OpenClaim.holds_of_wide 3 Tryz.f3 rfl rfl rfl rfl rfl rfl rfl ⟨rfl, rfl, rfl, rfl, rfl⟩ rfl rfl rfl rfl rfl (by kernel_rfl) Tryz.func3 (by kernel_rfl)
    (of_decide_eq_true (by kernel_rfl)) (by unfold Func.isWrapper; first | (rw [if_pos (by decide +kernel)]; kernel_rfl) | (rw [if_neg (by decide +kernel)]; exact ⟨rfl, rfl⟩))
    (fun os started H enc _ => lifted law os started H enc)
theorem card (law : ∀ pas, Shapes shs pas → Spc X 3 pas (.one (.bool true))) : Rows.TallyProjectsCardSaid :=
  Claim7.holds_tied_plain_at .later [] Rows.tallyProjectsCard.laidKinds true Rows.tallyProjectsCard.stood.harness Rows.tallyProjectsCard.stood.looks
    (over law) (fun _ h => by cases h) (by kernel_rfl) (fun _ h => by cases h) tallyProjects_row_tie rfl ⟨rfl, rfl⟩ (by kernel_rfl) rfl
    (fun f fn hf hfn => by
      obtain rfl : f = 3 := Option.some.inj ((show Tryz.prog.funcNamed Rows.tallyProjectsRow.func = some 3 by kernel_rfl).symm.trans hf) |>.symm
      obtain rfl : fn = Tryz.f3 := (Option.some.inj (Tryz.func3.symm.trans hfn)).symm
      exact ⟨by kernel_rfl, fun j t ht => by
        rw [Tryz.params3] at ht
        have hm : t ∈ [25, 3] := by simpa using Array.mem_of_getElem? ht
        have hall : ([25, 3].all fun u => !Tryz.prog.wantsStandIn u) = true := by kernel_rfl
        exact (show Tryz.prog.wantsStandIn t = false by simpa using List.all_eq_true.1 hall t hm)⟩)
    (by kernel_rfl)
end Go.Proofs.YtlmioegjeocaaaaGreatDoor.TallyProjects
