/- Functions that hand back a slice of their own, or nil, which counts as an empty one. No condition. -/
import Derived.Test.YtiaijoomngefnaaGreatDoorZj
namespace Go.VL
open Go.RowKit
set_option linter.unusedVariables false
theorem spec_ofSL {X : Ctx} {f : FuncId} {fn : Func} {c : Code} {xs : List AV} {h0 h1 : Hp} {y : AV} {nx : Nat} (hf : X.P.funcs[f]? = some fn) (hname : (fn.name == "runtime.NumGoroutine") = false) (hb : fn.body = some c) (hok : codeOk fn.ntmps c = true) (hn : xs.length ≤ fn.ntmps) (hrf : (xs.all fun x => refsIn h0 x.refs) = true)
    (h : sanesV xs → (∀ id bx z, look h0 id = some (bx, z) → bx.sane) → ∀ R, (∀ σ τ, σ.Le X fn.ntmps τ → retS X fn.results.toList y h1 τ → R σ) → wpc X fn.ntmps c ⟨entryV 0 xs, h0, nx⟩ (kQ X fn.ntmps R [])) : SpcS X f xs h0 y h1 where
  ent := ent_of hf hname hb
  calls := fun ok w vals β hG hlt d hs hv => by
    have hsane : sanesV xs := sanesV_of fun p hp => by
      obtain ⟨j, hj⟩ := List.getElem?_of_mem hp
      obtain ⟨u, _, hr⟩ := hv j p hj
      exact AV.sane_of hr
    have hsaneH : ∀ id bx z, look h0 id = some (bx, z) → bx.sane := fun id bx z hl => by
      have hb := d.box id bx z hl
      unfold BoxRep at hb
      have key : ∀ c ∈ bx.cells, c.sane := fun c hc => by
        cases hβ : β id with
        | none => rw [hβ] at hb; simp only at hb; rw [hb] at hc; cases hc
        | some g =>
          rw [hβ] at hb
          obtain ⟨_, arr, e, _, _, hcc⟩ := hb
          obtain ⟨j, hj⟩ := List.getElem?_of_mem hc
          obtain ⟨u, _, hr⟩ := hcc j c hj
          exact hr.sane
      cases bx with
      | pu e l => exact fun p hp => key (.pv p) (List.mem_map.2 ⟨p, hp, rfl⟩)
      | mx cs => exact key
    refine calls_of_wp hf hb ?_
    have hrel : RelS X ⟨w, ok, handed h0 β, pinOf β⟩ fn.ntmps ⟨entryV 0 xs, h0, nx⟩ { tmps := vals ++ Array.replicate (fn.ntmps - vals.size) undef, defers := [] } w := by
      refine ⟨β, d.rel hG hlt, rfl, by simp; omega, fun t v hl => ?_⟩
      obtain ⟨_, hp⟩ := look_entryV hl
      rw [Nat.sub_zero] at hp
      obtain ⟨u, hu, hr⟩ := hv t v hp
      refine ⟨⟨u, ?_, ?_⟩, fun id hid => List.all_eq_true.1 (List.all_eq_true.1 hrf v (List.mem_of_getElem? hp)) id hid⟩
      · rw [Array.getElem?_append, if_pos (Array.getElem?_eq_some_iff.1 hu).1]; exact hu
      · have k : Keeps (fun _ => True) w ok β w (Fr.ok ⟨w, ok, handed h0 β, pinOf β⟩ w h0 β) β := ⟨fun b hb => ⟨d.okOf hlt b hb, rfl⟩, fun _ _ => ⟨rfl, fun _ _ => rfl⟩⟩
        exact k.repV (fun _ _ => trivial) hr
    refine wp_mono (wpc_sound hok (h hsane hsaneH (fun σ => ∃ τ, σ.Le X fn.ntmps τ ∧ retS X fn.results.toList y h1 τ) fun σ τ h1 h2 => ⟨τ, h1, h2⟩) _ _ _ hrel) fun e a' w' ⟨σ', hq, hr⟩ => ?_
    have fin : (∃ τ, σ'.Le X fn.ntmps τ ∧ retS X fn.results.toList y h1 τ) → a'.defers = [] ∧ ∃ v, (results fn a'.tmps).run X.P w' = .ok v w' ∧ ∃ u β', Ending.returned v = .returned u ∧ HRel X ⟨w, ok, handed h0 β, pinOf β⟩ h1 β' w' ∧ RepV w' (Fr.ok ⟨w, ok, handed h0 β, pinOf β⟩ w' h1 β') β' y u ∧ ∀ i ∈ y.refs, (look h1 i).isSome = true := fun ⟨τ, hle, hp⟩ => by
      replace hr := hle _ _ _ hr
      obtain ⟨u, β', k1, k2, k3, k4⟩ := retS_sound hr hp
      obtain ⟨_, hr⟩ := hr
      exact ⟨hr.defers, u, k1, u, β', rfl, k2, k3, k4⟩
    cases e with
    | normal => exact fin hq
    | ret => exact fin hq
    | exit id => exact hq.elim
    | goto l => exact hq.elim
    | panic c => exact hq.elim
    | outgrown => exact hq.elim

theorem SpcS.startL {X : Ctx} {f : FuncId} {fn : Func} {c : Code} {xs : List AV} {h0 h1 : Hp} {y : AV} (nx : Nat) (hf : X.P.funcs[f]? = some fn) (hb : fn.body = some c) (hname : (fn.name == "runtime.NumGoroutine") = false := by rfl) (hok : codeOk fn.ntmps c = true := by kernel_rfl) (hn : Nat.ble xs.length fn.ntmps = true := by rfl) (hrf : (xs.all fun x => refsIn h0 x.refs) = true := by rfl)
    (h : sanesV xs → (∀ id bx z, look h0 id = some (bx, z) → bx.sane) → ∀ R, (∀ σ τ, σ.Le X fn.ntmps τ → retS X fn.results.toList y h1 τ → R σ) → Wp X fn.ntmps R [] c ⟨entryV 0 xs, h0, nx⟩) : SpcS X f xs h0 y h1 := spec_ofSL hf hname hb hok (Nat.le_of_ble_eq_true hn) hrf fun hs hs2 R hR => (h hs hs2 R hR).h
theorem AS.Le.rfl' {X : Ctx} {N : Nat} {σ : AS} : σ.Le X N σ := fun F a w r => r
end Go.VL
