/- The row of NaturalRing and its tied card, out of one fact: that the law's call returns true and turns nothing that was there. No condition beyond the row's. Written by a program of ours (wip/tools/row.py). -/
import Derived.Test.YtlogclmmeikbpaaDoorCards
import Derived.Test.YtlogclmmeikbpaaDoorTie
import Derived.Test.YtlogclmmeikbpaaDoorriOpen
namespace Go.Proofs.YtlogclmmeikbpaaDoor.NaturalRing
open Go.ChangeShapes Go.WideShapes Go.ChangeAt Go.RowKit Go.Proofs.YtlogclmmeikbpaaDoorW.PrintWords
open Go.ChangeMaps (open_string shut_string)
set_option linter.unusedVariables false
set_option maxRecDepth 100000 in
theorem lifted (law : ∀ (A0 : Option Addr) (c0 : Nat) (l0 : List Int) (A1 : Option Addr) (c1 : Nat) (l1 : List Int) (A2 : Option Addr) (c2 : Nat) (l2 : List Int) (W : World) (hG : GL W) (z0 : l0.length * 2 ≤ 140737488351232) (hr0 : Kd.C (Kd.int .u16) W A0 l0.length l0) (hc0 : l0.length ≤ c0) (hz0 : ∀ d ∈ l0, (Lit.int .u16 d).wf = true) (z1 : l1.length * 2 ≤ 140737488351232) (hr1 : Kd.C (Kd.int .u16) W A1 l1.length l1) (hc1 : l1.length ≤ c1) (hz1 : ∀ d ∈ l1, (Lit.int .u16 d).wf = true) (z2 : l2.length * 2 ≤ 140737488351232) (hr2 : Kd.C (Kd.int .u16) W A2 l2.length l2) (hc2 : l2.length ≤ c2) (hz2 : ∀ d ∈ l2, (Lit.int .u16 d).wf = true), Calls Tryd.prog 11 #[.slice A0 l0.length c0, .slice A1 l1.length c1, .slice A2 l2.length c2] W fun e W' => e = .returned (.bool true) ∧ Below W.heap.size W W')
    (os : Os) (started : os.Started) (H : Type) (enc : TypeId × Value → H) :
    ReturnsInHanded {} Tryd.checked os 11 .any (fun w args => (Rows.naturalRingSpec.pre enc Tryd.prog Tryd.f11 [] false w args ∧ laidMetH Tryd.prog Rows.naturalRingRow.laid w) ∧ sizedMet enc Tryd.prog Tryd.f11 (OpenSpec.ofChange Rows.naturalRingSpec) false w args)
      (Rows.naturalRingSpec.post enc Tryd.prog Tryd.f11 false true false false) := by
  refine returnsInHanded_of_change_and (C := Tryd.checked) (X := fun w _ => laidMetH Tryd.prog Rows.naturalRingRow.laid w) (fun _ _ _ hh h => h.of_heap hh) ownNone started (by kernel_rfl) Tryd.func11
    (ChangeSpec.witness_shaped (enc := enc) (C := Tryd.checked) (os := os) (X := fun w _ => laidMetH Tryd.prog Rows.naturalRingRow.laid w) false (World.laidAll Tryd.prog os Rows.naturalRingRow.laid) #[.slice none 0 0, .slice none 0 0, .slice none 0 0] 8 (World.laidAll_os _ _ _)
      (World.shaped_of_ZipB (by kernel_rfl) (by kernel_rfl)) (by kernel_rfl) (by kernel_rfl) (by kernel_rfl)
      (by rw [MakeChecks.laidMetH_plain _ _ _ (by kernel_rfl)]; exact laidMet_laidAll _ (by kernel_rfl) (by kernel_rfl))) ?_
  intro W base args ds gs before hval0 hW _ hsz0 hL _
  have hsz : (DataW.weightsEach Tryd.prog (Tryd.f11.params.toList ++ Rows.naturalRingSpec.plain.varTypes Tryd.prog) (ds ++ gs)).all (· ≤ reachBytes) = true := hsz0
  have hval : ∀ (j : Nat) t v, Tryd.f11.params[j]? = some t → args[j]? = some v → Value.okWide Tryd.prog W .any base t v := hval0
  have hW' := hW
  obtain ⟨p, q, hA0, hV, rfl, hfz, hnd⟩ := hW
  have hA : DataW.TrodAll enc Tryd.prog W 0 (fun _ => true) true Tryd.f11.params.toList args.toList ds p := hA0
  rw [Tryd.params11] at hA hval hsz
  obtain ⟨v0, vs0, d0, ds0, p0, q0, hargs, rfl, rfl, h0, r0⟩ := trodAll_cons hA
  obtain ⟨v1, vs1, d1, ds1, p1, q1, rfl, rfl, rfl, h1, r1⟩ := trodAll_cons r0
  obtain ⟨v2, vs2, d2, ds2, p2, q2, rfl, rfl, rfl, h2, r2⟩ := trodAll_cons r1
  obtain ⟨rfl, rfl, rfl⟩ := trodAll_nil r2
  obtain rfl : args = #[v0, v1, v2] := by cases args; simp_all
  obtain ⟨rfl, rfl⟩ := trodVars_none hV
  have k0 := h0
  have lt0 : ∀ x ∈ p0, x.block < W.heap.size := by obtain ⟨m, hm⟩ := k0; exact DataW.trod_lt m _ _ _ hm
  obtain ⟨A0, c0, l0, rfl, hr0, hc0, hz0, z0⟩ := open_C (B := 2) (j := 0) Tryd.underlying40 Tryd.underlying73 (by kernel_rfl) (by kernel_rfl) (hval 0 40 v0 rfl rfl) h0 hsz rfl rfl
  have k1 := h1
  have lt1 : ∀ x ∈ p1, x.block < W.heap.size := by obtain ⟨m, hm⟩ := k1; exact DataW.trod_lt m _ _ _ hm
  obtain ⟨A1, c1, l1, rfl, hr1, hc1, hz1, z1⟩ := open_C (B := 2) (j := 1) Tryd.underlying40 Tryd.underlying73 (by kernel_rfl) (by kernel_rfl) (hval 1 40 v1 rfl rfl) h1 hsz rfl rfl
  have k2 := h2
  have lt2 : ∀ x ∈ p2, x.block < W.heap.size := by obtain ⟨m, hm⟩ := k2; exact DataW.trod_lt m _ _ _ hm
  obtain ⟨A2, c2, l2, rfl, hr2, hc2, hz2, z2⟩ := open_C (B := 2) (j := 2) Tryd.underlying40 Tryd.underlying73 (by kernel_rfl) (by kernel_rfl) (hval 2 40 v2 rfl rfl) h2 hsz rfl rfl
  have hG : GL W := GL.of_laid hL (by kernel_rfl) (by first | exact .tail _ (.tail _ (.head _)) | exact .head _ | exact .tail _ (.head _) | exact .tail _ (.tail _ (.tail _ (.head _))))
  clear hA0 hval0 hsz0 hsz hval
  refine (law A0 c0 l0 A1 c1 l1 A2 c2 l2 W hG z0 hr0 hc0 hz0 z1 hr1 hc1 hz1 z2 hr2 hc2 hz2).mono fun e W' ⟨he, bel⟩ => ?_
  subst he
  exact ⟨_, rfl, _, _, _, [], _, [], hW', trodAll_mk1 (shut_bool Tryd.underlying4 _), (trodAll_cons_mk (Below.trod laidOut (by kernel_rfl) (of_decide_eq_true (by kernel_rfl)) k0 bel lt0) (trodAll_cons_mk (Below.trod laidOut (by kernel_rfl) (of_decide_eq_true (by kernel_rfl)) k1 bel lt1) (trodAll_cons_mk (Below.trod laidOut (by kernel_rfl) (of_decide_eq_true (by kernel_rfl)) k2 bel lt2) trodAll_mk0))), rfl, bel.frame _, fun h => by cases h⟩
theorem over (law : ∀ (A0 : Option Addr) (c0 : Nat) (l0 : List Int) (A1 : Option Addr) (c1 : Nat) (l1 : List Int) (A2 : Option Addr) (c2 : Nat) (l2 : List Int) (W : World) (hG : GL W) (z0 : l0.length * 2 ≤ 140737488351232) (hr0 : Kd.C (Kd.int .u16) W A0 l0.length l0) (hc0 : l0.length ≤ c0) (hz0 : ∀ d ∈ l0, (Lit.int .u16 d).wf = true) (z1 : l1.length * 2 ≤ 140737488351232) (hr1 : Kd.C (Kd.int .u16) W A1 l1.length l1) (hc1 : l1.length ≤ c1) (hz1 : ∀ d ∈ l1, (Lit.int .u16 d).wf = true) (z2 : l2.length * 2 ≤ 140737488351232) (hr2 : Kd.C (Kd.int .u16) W A2 l2.length l2) (hc2 : l2.length ≤ c2) (hz2 : ∀ d ∈ l2, (Lit.int .u16 d).wf = true), Calls Tryd.prog 11 #[.slice A0 l0.length c0, .slice A1 l1.length c1, .slice A2 l2.length c2] W fun e W' => e = .returned (.bool true) ∧ Below W.heap.size W W') : Rows.naturalRingRow.holds Tryd.pinned (OpenSpec.ofChange Rows.naturalRingSpec) :=
  OpenClaim.holds_of_wide 11 Tryd.f11 rfl rfl rfl rfl rfl rfl rfl ⟨rfl, rfl, rfl, rfl, rfl⟩ rfl rfl rfl rfl rfl (by kernel_rfl) Tryd.func11 (by kernel_rfl)
    (of_decide_eq_true (by kernel_rfl)) (by unfold Func.isWrapper; first | (rw [if_pos (by decide +kernel)]; kernel_rfl) | (rw [if_neg (by decide +kernel)]; exact ⟨rfl, rfl⟩))
    (fun os started H enc _ => lifted law os started H enc)
theorem card (law : ∀ (A0 : Option Addr) (c0 : Nat) (l0 : List Int) (A1 : Option Addr) (c1 : Nat) (l1 : List Int) (A2 : Option Addr) (c2 : Nat) (l2 : List Int) (W : World) (hG : GL W) (z0 : l0.length * 2 ≤ 140737488351232) (hr0 : Kd.C (Kd.int .u16) W A0 l0.length l0) (hc0 : l0.length ≤ c0) (hz0 : ∀ d ∈ l0, (Lit.int .u16 d).wf = true) (z1 : l1.length * 2 ≤ 140737488351232) (hr1 : Kd.C (Kd.int .u16) W A1 l1.length l1) (hc1 : l1.length ≤ c1) (hz1 : ∀ d ∈ l1, (Lit.int .u16 d).wf = true) (z2 : l2.length * 2 ≤ 140737488351232) (hr2 : Kd.C (Kd.int .u16) W A2 l2.length l2) (hc2 : l2.length ≤ c2) (hz2 : ∀ d ∈ l2, (Lit.int .u16 d).wf = true), Calls Tryd.prog 11 #[.slice A0 l0.length c0, .slice A1 l1.length c1, .slice A2 l2.length c2] W fun e W' => e = .returned (.bool true) ∧ Below W.heap.size W W') : Rows.NaturalRingCardSaid :=
  Claim7.holds_tied_plain_at .later [] Rows.naturalRingCard.laidKinds true Rows.naturalRingCard.stood.harness Rows.naturalRingCard.stood.looks
    (over law) (fun _ h => by cases h) (by kernel_rfl) (fun _ h => by cases h) naturalRing_row_tie rfl ⟨rfl, rfl⟩ (by kernel_rfl) rfl
    (fun f fn hf hfn => by
      obtain rfl : f = 11 := Option.some.inj ((show Tryd.prog.funcNamed Rows.naturalRingRow.func = some 11 by kernel_rfl).symm.trans hf) |>.symm
      obtain rfl : fn = Tryd.f11 := (Option.some.inj (Tryd.func11.symm.trans hfn)).symm
      exact ⟨by kernel_rfl, fun j t ht => by
        rw [Tryd.params11] at ht
        have hm : t ∈ [40, 40, 40] := by simpa using Array.mem_of_getElem? ht
        have hall : ([40, 40, 40].all fun u => !Tryd.prog.wantsStandIn u) = true := by kernel_rfl
        exact (show Tryd.prog.wantsStandIn t = false by simpa using List.all_eq_true.1 hall t hm)⟩)
    (by kernel_rfl)
end Go.Proofs.YtlogclmmeikbpaaDoor.NaturalRing

