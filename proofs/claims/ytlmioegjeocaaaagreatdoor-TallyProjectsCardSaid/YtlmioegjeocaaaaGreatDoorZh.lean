/- Contracts over whole values, and what they lean on: part h. Each holds under the conditions that it states. -/
import Derived.Test.YtlmioegjeocaaaaGreatDoorZg
import Derived.KernelRfl
import Derived.Lib.LaidTab
import Derived.Lib.ItoaNum
import Derived.Test.YtlmioegjeocaaaaGreatDoorChecked
import Derived.Lib.SmallJoins
import Derived.Lib.AppendIntMem
import Derived.Lib.ItoaLen
import Derived.Lib.SlTrimSet
set_option linter.unusedVariables false
set_option linter.unusedSimpArgs false

namespace Go.VL
open Go.RowKit
set_option linter.unusedVariables false

def bdF (id c : Nat) : Nat → Nat := fun i => if i = 1000 then id else c
theorem look_two {i : Nat} {a b : Bx × Bool} : look [(1000, a), (0, b)] i = if i = 1000 then some a else if i = 0 then some b else none := by simp [look]
theorem dom_two {i : Nat} {a b : Bx × Bool} (h : (look [(1000, a), (0, b)] i).isSome = true) : i = 1000 ∨ i = 0 := by
  rw [look_two] at h
  split at h
  · exact .inl ‹_›
  · split at h
    · exact .inr ‹_›
    · cases h
theorem dom_1000 {i : Nat} {a : Bx × Bool} (h : (look [(1000, a)] i).isSome = true) : i = 1000 := dom_one h
section
variable {h : Hp} {id c : Nat} {te : TypeId} {l l' : List PV} {cs cs' : List AC} {zs : List Nat}
theorem bdF_inj (hne : id ≠ c) {i j : Nat} (hi : i = 1000 ∨ i = 0) (hj : j = 1000 ∨ j = 0) (e : bdF id c i = bdF id c j) : i = j := by
  rcases hi with rfl | rfl <;> rcases hj with rfl | rfl <;> simp [bdF] at e ⊢
  · exact hne e
  · exact hne e.symm
theorem fits_two (hli : look h id = some (.mx (cs.map (AC.ren (bdF id c))), false)) (hlc : look h c = some (.pu te l, false)) (hne : id ≠ c) (hc : c < 500) (hi5 : id < 500 ∨ 1000 ≤ id) (hw0 : ∀ i ∈ acRefs cs, i = 1000 ∨ i = 0) (hz : ∀ i ∈ zs, (look h i).isSome = true) (hn1 : id ∉ zs) (hn2 : c ∉ zs) :
    Fits h (bdF id c) [(1000, (.mx cs, false)), (0, (.pu te l, false))] [(1000, (.mx cs', false)), (0, (.pu te l', false))] zs (put (put (scrubH c (frzs h zs)) c (.pu te l', false)) id (.mx (cs'.map (AC.ren (bdF id c))), false)) (some c) where
  inj := fun i j hi hj e => bdF_inj hne (hi.elim dom_two dom_two) (hj.elim dom_two dom_two) e
  wf0 := fun i bx z hl j hj => by
    rw [look_two] at hl
    split at hl
    · simp only [Option.some.injEq, Prod.mk.injEq] at hl
      obtain ⟨rfl, rfl⟩ := hl
      rcases hw0 j hj with rfl | rfl <;> simp [look]
    · split at hl
      · simp only [Option.some.injEq, Prod.mk.injEq] at hl
        obtain ⟨rfl, rfl⟩ := hl
        rw [show (Bx.pu te l).cells = l.map .pv from rfl, acRefs_pv] at hj; cases hj
      · cases hl
  inp := fun i bx z hl => by
    rw [look_two] at hl
    split at hl
    · rename_i hi
      simp only [Option.some.injEq, Prod.mk.injEq] at hl
      obtain ⟨rfl, rfl⟩ := hl
      subst hi
      exact hli
    · split at hl
      · rename_i hi
        simp only [Option.some.injEq, Prod.mk.injEq] at hl
        obtain ⟨rfl, rfl⟩ := hl
        subst hi
        exact hlc
      · cases hl
  frz := fun i hi => ⟨hz i hi, fun j hj e => by
    rcases dom_two hj with rfl | rfl
    · exact hn1 (by rw [← e] at hi; exact hi)
    · exact hn2 (by rw [← e] at hi; exact hi)⟩
  new := fun i hi hn => by rcases dom_two hi with rfl | rfl <;> simp [look] at hn
  mv := fun i hi hlt => by
    rcases dom_two hi with rfl | rfl
    · omega
    · exact ⟨rfl, Nat.lt_trans hc (by decide)⟩
  lo0 := fun i hi => by
    rcases dom_two hi with rfl | rfl
    · exact hi5
    · exact .inl hc
  lo1 := fun i hi => by
    have := dom_two hi
    omega
  pin := fun i hi hge => by
    rcases dom_two hi with rfl | rfl
    · simp [look]
    · omega
  only := fun j hj => ⟨0, by simp [look], by simpa [bdF] using hj⟩
  outA := fun i bx z hl => by
    rw [look_two] at hl
    split at hl
    · rename_i hi
      simp only [Option.some.injEq, Prod.mk.injEq] at hl
      obtain ⟨rfl, rfl⟩ := hl
      subst hi
      rw [show bdF id c 1000 = id from rfl, look_put, if_pos rfl]; rfl
    · split at hl
      · rename_i hi
        simp only [Option.some.injEq, Prod.mk.injEq] at hl
        obtain ⟨rfl, rfl⟩ := hl
        subst hi
        rw [show bdF id c 0 = c from rfl, look_put, if_neg (fun e => hne e.symm), look_put, if_pos rfl]; rfl
      · cases hl
  outB := fun i hi hn => by rcases dom_two hi with rfl | rfl <;> simp [look] at hn
  outC := fun j hj => by
    have h1 : j ≠ id := fun e => hj 1000 (.inr (by simp [look])) e.symm
    have h2 : j ≠ c := fun e => hj 0 (.inr (by simp [look])) e.symm
    rw [look_put, if_neg h1, look_put, if_neg h2, look_scrubH]
    cases look (frzs h zs) j <;> rfl
/-- .. of which the row is used up. -/
theorem fits_twoC (hli : look h id = some (.mx (cs.map (AC.ren (bdF id c))), false)) (hlc : look h c = some (.pu te l, false)) (hne : id ≠ c) (hc : c < 500) (hi5 : id < 500 ∨ 1000 ≤ id) (hw0 : ∀ i ∈ acRefs cs, i = 1000 ∨ i = 0) (hz : ∀ i ∈ zs, (look h i).isSome = true) (hn1 : id ∉ zs) (hn2 : c ∉ zs) :
    Fits h (bdF id c) [(1000, (.mx cs, false)), (0, (.pu te l, false))] [(1000, (.mx cs', false))] zs (put (put (scrubH c (frzs h zs)) c (.mx [], true)) id (.mx (cs'.map (AC.ren (bdF id c))), false)) (some c) where
  inj := fun i j hi hj e => bdF_inj hne (hi.elim dom_two fun h => .inl (dom_1000 h)) (hj.elim dom_two fun h => .inl (dom_1000 h)) e
  wf0 := fun i bx z hl j hj => by
    rw [look_two] at hl
    split at hl
    · simp only [Option.some.injEq, Prod.mk.injEq] at hl
      obtain ⟨rfl, rfl⟩ := hl
      rcases hw0 j hj with rfl | rfl <;> simp [look]
    · split at hl
      · simp only [Option.some.injEq, Prod.mk.injEq] at hl
        obtain ⟨rfl, rfl⟩ := hl
        rw [show (Bx.pu te l).cells = l.map .pv from rfl, acRefs_pv] at hj; cases hj
      · cases hl
  inp := fun i bx z hl => by
    rw [look_two] at hl
    split at hl
    · rename_i hi
      simp only [Option.some.injEq, Prod.mk.injEq] at hl
      obtain ⟨rfl, rfl⟩ := hl
      subst hi
      exact hli
    · split at hl
      · rename_i hi
        simp only [Option.some.injEq, Prod.mk.injEq] at hl
        obtain ⟨rfl, rfl⟩ := hl
        subst hi
        exact hlc
      · cases hl
  frz := fun i hi => ⟨hz i hi, fun j hj e => by
    rcases dom_two hj with rfl | rfl
    · exact hn1 (by rw [← e] at hi; exact hi)
    · exact hn2 (by rw [← e] at hi; exact hi)⟩
  new := fun i hi hn => by
    obtain rfl := dom_1000 hi
    simp [look] at hn
  mv := fun i hi hlt => by
    rcases dom_two hi with rfl | rfl
    · omega
    · exact ⟨rfl, Nat.lt_trans hc (by decide)⟩
  lo0 := fun i hi => by
    rcases dom_two hi with rfl | rfl
    · exact hi5
    · exact .inl hc
  lo1 := fun i hi => by
    have := dom_1000 hi
    omega
  pin := fun i hi hge => by
    rcases dom_two hi with rfl | rfl
    · simp [look]
    · omega
  only := fun j hj => ⟨0, by simp [look], by simpa [bdF] using hj⟩
  outA := fun i bx z hl => by
    rw [look_one] at hl
    split at hl
    · rename_i hi
      simp only [Option.some.injEq, Prod.mk.injEq] at hl
      obtain ⟨rfl, rfl⟩ := hl
      subst hi
      rw [show bdF id c 1000 = id from rfl, look_put, if_pos rfl]; rfl
    · cases hl
  outB := fun i hi hn => by
    rcases dom_two hi with rfl | rfl
    · simp [look] at hn
    · rw [show bdF id c 0 = c from rfl, look_put, if_neg (fun e => hne e.symm), look_put, if_pos rfl]
  outC := fun j hj => by
    have h1 : j ≠ id := fun e => hj 1000 (.inr (by simp [look])) e.symm
    have h2 : j ≠ c := fun e => hj 0 (.inl (by simp [look])) e.symm
    rw [look_put, if_neg h1, look_put, if_neg h2, look_scrubH]
    cases look (frzs h zs) j <;> rfl
end

/-! ### strings.Builder: what is shown over the model -/
def bdH (T te : TypeId) (n : Nat) (l : List UInt8) : Hp := [(1000, (.mx [.adr 1000 T 2, .own 0 1 n], false)), (0, (.pu te (l.flatMap eU), false))]
section
variable {X : Ctx} {ρ : Go.Shelf.Ren}
open Go.Proofs Go.Shelf
theorem bd_cell {ok : Nat → Prop} {w : World} {β : Bt} {T te : TypeId} {n : Nat} {l : List UInt8} (d : Hand X ok w (bdH T te n l) β) {u : Value} (hu : RepV w ok β (.one (.ptr 1000 0)) u) :
    ∃ g p v, β 1000 = some g ∧ u = .pointer (some ⟨g, 0, none⟩) ∧ w.heap[g]? = some (.cells #[p, v] T (0, 0)) ∧ (p = .pointer none ∨ p = .pointer (some ⟨g, 0, none⟩)) ∧ OwnRep w β 0 1 n v := by
  obtain ⟨g, hg, rfl⟩ := hu
  have hb := d.box 1000 _ _ rfl
  unfold BoxRep at hb
  rw [hg] at hb
  obtain ⟨_, arr, e, harr, _, hc⟩ := hb
  obtain ⟨p, hp, g', hg', hpp, hs⟩ := hc 0 _ rfl
  obtain ⟨v, hv, hvv⟩ := hc 1 _ rfl
  rw [hg] at hg'
  simp only [Option.some.injEq] at hg'
  subst hg'
  have hlow := RowAt.low harr (.inr (Nat.le_refl _))
  clear harr
  have harr := hlow
  clear hlow
  have hsz : bsh w g = (e, arr.size) := by unfold bsh; rw [harr]
  rw [hsz] at hs
  simp only [Prod.mk.injEq] at hs
  obtain ⟨rfl, h2⟩ := hs
  refine ⟨g, p, v, hg, rfl, ?_, hpp, hvv⟩
  rw [harr]
  have : arr = #[p, v] := by
    apply Array.ext
    · rw [h2]; rfl
    · intro i h1 h3
      match i with
      | 0 => exact (Array.getElem?_eq_some_iff.1 hp).2
      | 1 => exact (Array.getElem?_eq_some_iff.1 hv).2
      | i + 2 => omega
  rw [this]
theorem ent_of2 {P : Program} {f : FuncId} {fn : Func} (hf : P.funcs[f]? = some fn) (hname : (fn.name == "runtime.NumGoroutine") = false) (hb : fn.body.isSome = true) : Ent P f := by
  obtain ⟨c, hc⟩ := Option.isSome_iff_exists.1 hb
  exact ent_of hf hname hc
/-- copyCheck. -/
theorem copyCheck_spc (L : Lays.n240 X.P ρ) (XX : Builder.X72 X.P ρ) {te : TypeId} {n : Nat} {l : List UInt8} : SpcS X (ρ.f 240) [.one (.ptr 1000 0)] (bdH (ρ.t 72) te n l) (.tup []) (bdH (ρ.t 72) te n l) where
  ent := ent_of2 L.f240 (by kernel_rfl) (by kernel_rfl)
  calls := fun ok w vals β hG hlt d hs hv => by
    obtain ⟨u, hu, hru⟩ := hv 0 _ rfl
    obtain ⟨g, p, v, hg, rfl, hgh, hp, hvv⟩ := bd_cell d hru
    have hvals : vals = #[.pointer (some ⟨g, 0, none⟩)] := by
      apply Array.ext
      · rw [hs]; rfl
      · intro i h1 h3
        simp at h3
        subst h3
        exact (Array.getElem?_eq_some_iff.1 hu).2
    subst hvals
    have hc0 : w.cell? ⟨g, 0, none⟩ = some p := by rw [cell_arr (RowAt.new (id := 0) hgh)]; rfl
    have hr := d.rel hG hlt
    rcases hp with rfl | rfl
    · refine (Any.Builder_copyCheck_fresh L XX g w hc0 (by simp [World.shape?, hgh]) (Lib.frozen_of_heap hgh 0)).mono fun e w' he => ?_
      obtain ⟨rfl, rfl⟩ := he
      have hset := hr.set (id := 1000) (g := g) (bx := .mx [.adr 1000 (ρ.t 72) 2, .own 0 1 n]) (bx' := .mx [.adr 1000 (ρ.t 72) 2, .own 0 1 n]) (arr' := #[.pointer (some ⟨g, 0, none⟩), v]) rfl hg (.new hgh) rfl rfl (fun e' l h => by cases h) (fun j c hj => by
        match j, hj with
        | 0, hj => cases hj; exact ⟨_, rfl, g, hg, .inr rfl, by unfold bsh; rw [hgh]; rfl⟩
        | 1, hj => cases hj; exact ⟨v, rfl, hvv⟩) (fun i hi => by
        simp [acRefs, Bx.cells, AC.refs] at hi
        rcases hi with rfl | rfl <;> simp [bdH, look])
      have e1 : w.setCell ⟨g, 0, none⟩ (.pointer (some ⟨g, 0, none⟩)) = w.setRow g #[.pointer (some ⟨g, 0, none⟩), v] := by
        rw [setCell_eq_setRow w g 0 _ _ _ _ hgh]; rfl
      rw [e1]
      have e2 : ∀ i, look (bdH (ρ.t 72) te n l) i = look (put (bdH (ρ.t 72) te n l) 1000 (.mx [.adr 1000 (ρ.t 72) 2, .own 0 1 n], false)) i := fun i => rfl
      exact ⟨_, β, rfl, hset.congr e2, ⟨#[], rfl, rfl, fun j x hj => by simp at hj⟩, fun i hi => by simp [AV.refs] at hi⟩
    · refine (Any.Builder_copyCheck_used L XX g w hc0).mono fun e w' he => ?_
      obtain ⟨rfl, rfl⟩ := he
      exact ⟨_, β, rfl, hr, ⟨#[], rfl, rfl, fun j x hj => by simp at hj⟩, fun i hi => by simp [AV.refs] at hi⟩
/-- What String comes to, exactly. -/
theorem bd_string (L : Lays.n169 X.P ρ) (XX : Builder.Extra X.P ρ) (b : Nat) (p v : Value) (n : Nat) (l : List UInt8) (w : World) (hl : l.length = n) (hb : w.heap[b]? = some (.cells #[p, v] (ρ.t 72) (0, 0)))
    (hv : (v = .slice none 0 0 ∧ n = 0) ∨ ∃ g cap cur, v = .slice (some ⟨g, 0, none⟩) n cap ∧ w.heap[g]? = some (.cells cur (ρ.t 5) (0, 0)) ∧ n ≤ cap ∧ cap ≤ maxLen ∧ cur.size = cap ∧ ∀ (j : Nat) (x : UInt8), l[j]? = some x → cur[j]? = some (Value.int .u8 x.toNat)) :
    Calls X.P (ρ.f 169) #[.pointer (some ⟨b, 0, none⟩)] w fun e w' => e = .returned (.string ⟨l.toArray⟩) ∧ w.grownBy w' v.ownBlock := by
  have hUS := fun W q => Lib.run_unsafeString_none (P := X.P) W (ρ.t 127) (ρ.t 3) (ρ.t 9) q
  have hb' : w.drew.heap[b]? = some (.cells #[p, v] (ρ.t 72) (0, 0)) := hb
  have c1 : w.drew.cell? ⟨b, 1, none⟩ = some v := by rw [Lib.cell_of_heap hb']; rfl
  have mixed := L.mixed
  have t72 := L.t72; have a72 := L.a72; have z72 := L.z72; have v72 := L.v72; have u72 := run_underlying L.t72
  have t70 := L.t70; have a70 := L.a70; have z70 := L.z70; have v70 := L.v70; have u70 := run_underlying L.t70
  have t37 := L.t37; have a37 := L.a37; have z37 := L.z37; have v37 := L.v37; have u37 := run_underlying L.t37
  have t127 := L.t127; have a127 := L.a127; have z127 := L.z127; have v127 := L.v127; have u127 := run_underlying L.t127
  have t3 := L.t3; have a3 := L.a3; have z3 := L.z3; have v3 := L.v3; have u3 := run_underlying L.t3
  have t9 := L.t9; have a9 := L.a9; have z9 := L.z9; have v9 := L.v9; have u9 := run_underlying L.t9
  have t5 := XX.t5; have a5 := XX.a5; have z5 := XX.z5; have v5 := XX.v5; have u5 := run_underlying XX.t5
  have gd : w.grownBy w.drew v.ownBlock := ⟨rfl, rfl, rfl, Nat.le_refl _, fun _ _ _ => rfl⟩
  rcases hv with ⟨rfl, rfl⟩ | ⟨g, cap, cur, rfl, hg, hnc, hcm, hcs, hcell⟩
  · obtain rfl := List.eq_nil_of_length_eq_zero hl
    have hSD : (Builtin.unsafeSliceData_ #[(ρ.t 37)] (ρ.t 127) #[.slice none 0 0]).run X.P w.drew = .ok (.pointer none) w.drew := rfl
    go_enter L.f169, Body.n169_ntmps ρ
    go_wp2
    go_region_o
    all_goals (go_wp2; go_ret; exact ⟨rfl, gd⟩)
  · by_cases hc0 : cap = 0
    · subst hc0
      obtain rfl : n = 0 := by omega
      obtain rfl := List.eq_nil_of_length_eq_zero hl
      have hgw : w.drew.heap[g]? = some (.cells cur (ρ.t 5) (0, 0)) := hg
      have hSD : (Builtin.unsafeSliceData_ #[(ρ.t 37)] (ρ.t 127) #[.slice (some ⟨g, 0, none⟩) 0 0]).run X.P w.drew = .ok (.pointer (some ⟨w.drew.heap.size, 0, none⟩)) (w.drew.alloc (.view ⟨g, 0, none⟩ (ρ.t 5))) :=
        Lib.run_unsafeSliceData_zero w.drew _ _ (ρ.t 5) L.t127 ⟨g, 0, none⟩ 0 ((ρ.t 5), cur.size) (by simp [World.shape?, hgw])
      have hlt : b < w.drew.heap.size := (Array.getElem?_eq_some_iff.1 hb').1
      have c2 : (w.drew.alloc (.view ⟨g, 0, none⟩ (ρ.t 5))).cell? ⟨b, 1, none⟩ = some (.slice (some ⟨g, 0, none⟩) 0 0) := by
        have h2 : (w.drew.alloc (.view ⟨g, 0, none⟩ (ρ.t 5))).heap[b]? = some (.cells #[p, .slice (some ⟨g, 0, none⟩) 0 0] (ρ.t 72) (0, 0)) := by rw [_root_.Go.heap_alloc_old _ _ hlt]; exact hb'
        rw [Lib.cell_of_heap h2]; rfl
      have gd2 : w.grownBy (w.drew.alloc (.view ⟨g, 0, none⟩ (ρ.t 5))) (Value.ownBlock (.slice (some ⟨g, 0, none⟩) 0 0)) := ⟨rfl, rfl, rfl, by simp, fun k hk _ => _root_.Go.heap_alloc_old _ _ hk⟩
      have c3 : (w.alloc (.view ⟨g, 0, none⟩ (ρ.t 5))).cell? ⟨b, 1, none⟩ = some (.slice (some ⟨g, 0, none⟩) 0 0) := c2
      have hSD2 : (Builtin.unsafeSliceData_ #[(ρ.t 37)] (ρ.t 127) #[.slice (some ⟨g, 0, none⟩) 0 0]).run X.P w.drew = .ok (.pointer (some ⟨w.heap.size, 0, none⟩)) (w.alloc (.view ⟨g, 0, none⟩ (ρ.t 5))).drew := hSD
      go_enter L.f169, Body.n169_ntmps ρ
      go_wp2
      go_region_o
      all_goals (go_wp2; go_ret; exact ⟨rfl, gd2⟩)
    · have hSD : (Builtin.unsafeSliceData_ #[(ρ.t 37)] (ρ.t 127) #[.slice (some ⟨g, 0, none⟩) n cap]).run X.P w.drew = .ok (.pointer (some ⟨g, 0, none⟩)) w.drew :=
        Lib.run_unsafeSliceData_row _ _ _ _ _ _ hc0
      by_cases hn : n = 0
      · subst hn
        obtain rfl := List.eq_nil_of_length_eq_zero hl
        clear hc0
        go_enter L.f169, Body.n169_ntmps ρ
        go_wp2
        go_region_o
        all_goals (go_wp2; go_ret; exact ⟨rfl, gd⟩)
      · have h0 : l ≠ [] := fun e => hn (by rw [← hl, e]; rfl)
        have hUS2 : (Builtin.unsafeString_ #[(ρ.t 127), (ρ.t 3)] (ρ.t 9) #[.pointer (some ⟨g, 0, none⟩), .int .i64 n]).run X.P w.drew = .ok (.string ⟨l.toArray⟩) (w.drew.freeze ⟨g, 0, none⟩ n) := by
          rw [← hl]
          refine Lib.run_unsafeString_row w.drew (ρ.t 127) (ρ.t 3) (ρ.t 9) (ρ.t 5) L.t127 XX.cellsByte g cur.size (by have hg' : w.drew.heap[g]? = some (.cells cur (ρ.t 5) (0, 0)) := hg; simp [World.shape?, hg']) l h0 (by omega) (by unfold maxLen at hcm; omega) ?_
          intro j x hx
          have hg' : w.drew.heap[g]? = some (.cells cur (ρ.t 5) (0, 0)) := hg
          rw [add_none, Nat.zero_add, Lib.cell_of_heap hg']
          exact hcell j x hx
        have gd3 : w.grownBy (w.drew.freeze ⟨g, 0, none⟩ n) (Value.ownBlock (.slice (some ⟨g, 0, none⟩) n cap)) := by
          unfold World.freeze
          rw [if_neg hn]
          refine ⟨rfl, rfl, rfl, by simp, fun k hk hne => ?_⟩
          simp only [Array.getElem?_modify]
          rw [if_neg (fun e => hne (by simp [Value.ownBlock, e]))]
          rfl
        clear hUS hc0 hn
        go_enter L.f169, Body.n169_ntmps ρ
        go_wp2
        go_region_o
        all_goals (go_wp2; go_ret; exact ⟨rfl, gd3⟩)
theorem string_spc (L : Lays.n169 X.P ρ) (XX : Builder.Extra X.P ρ) {l : List UInt8} : SpcS X (ρ.f 169) [.one (.ptr 1000 0)] (bdH (ρ.t 72) (ρ.t 5) l.length l) (.one (.pv (.str l))) [(1000, (.mx [.any, .any], false))] where
  ent := ent_of2 L.f169 (by kernel_rfl) (by kernel_rfl)
  calls := fun ok w vals β hG hlt d hs hv => by
    obtain ⟨u, hu, hru⟩ := hv 0 _ rfl
    obtain ⟨b, p, v, hb, rfl, hbh, hp, hvv⟩ := bd_cell d hru
    have hvals : vals = #[.pointer (some ⟨b, 0, none⟩)] := by
      apply Array.ext
      · rw [hs]; rfl
      · intro i h1 h3
        simp at h3
        subst h3
        exact (Array.getElem?_eq_some_iff.1 hu).2
    subst hvals
    have hr := d.rel hG hlt
    have hrow : ∀ g, β 0 = some g → ∃ arr, w.heap[g]? = some (.cells arr (ρ.t 5) (0, 0)) ∧ ∀ (j : Nat) x, l[j]? = some x → arr[j]? = some (Value.int .u8 (x : UInt8).toNat) := fun g hg => by
      have hb0 := d.box 0 _ _ rfl
      unfold BoxRep at hb0
      rw [hg] at hb0
      obtain ⟨_, arr, e, harr, he, hc⟩ := hb0
      obtain rfl := he _ _ rfl
      refine ⟨arr, RowAt.low harr (.inl (by decide)), fun j x hj => ?_⟩
      have e1 : l.flatMap eU = bytesPV l := (bytesPV_eq l).symm
      obtain ⟨u, hu, hr⟩ := hc j (.pv (.int .u8 (x.toNat : Int))) (by simp only [Bx.cells, e1, bytesPV, List.getElem?_map, hj, Option.map_some])
      obtain ⟨rfl, _⟩ := one_int (ok := ok) (β := β) (w := w) hr
      exact hu
    have hcase : (v = .slice none 0 0 ∧ l.length = 0) ∨ ∃ g cap cur, v = .slice (some ⟨g, 0, none⟩) l.length cap ∧ w.heap[g]? = some (.cells cur (ρ.t 5) (0, 0)) ∧ l.length ≤ cap ∧ cap ≤ maxLen ∧ cur.size = cap ∧ ∀ (j : Nat) (x : UInt8), l[j]? = some x → cur[j]? = some (Value.int .u8 x.toNat) := by
      rcases hvv with h | ⟨g, cap, hg, rfl, h1, h2, h3⟩
      · exact .inl h
      · obtain ⟨arr, harr, hc⟩ := hrow g hg
        refine .inr ⟨g, cap, arr, rfl, harr, h1, by simpa [maxLen] using h2, ?_, hc⟩
        have : bsh w g = (ρ.t 5, arr.size) := by unfold bsh; rw [harr]
        rw [this] at h3
        omega
    have hlen : l.length ≤ topLen := by
      rcases hvv with ⟨_, h⟩ | ⟨g, cap, _, _, h1, h2, _⟩
      · omega
      · omega
    have hblk : ∀ k, v.ownBlock = some k → β 0 = some k := fun k hk => by
      rcases hvv with ⟨rfl, _⟩ | ⟨g, cap, hg, rfl, _⟩
      · simp [Value.ownBlock] at hk
      · simp [Value.ownBlock] at hk; subst hk; exact hg
    refine (bd_string L XX b p v l.length l w rfl hbh hcase).mono fun e w' he => ?_
    obtain ⟨rfl, hgr⟩ := he
    have hbl : b < w.heap.size := (Array.getElem?_eq_some_iff.1 hbh).1
    have hbk : w'.heap[b]? = w.heap[b]? := hgr.block b hbl fun e => d.inj 1000 0 _ _ b (by decide) rfl rfl hb (hblk b e.symm)
    refine ⟨_, β, rfl, ⟨hr.below.grown hgr fun k hk => ?_, hr.g, fun id bx z hl => ?_, fun i j e1 e2 g hne h1 h2 => ?_, fun id bx z hl i hi => ?_, fun id hid => ⟨(hr.pin id hid).1, fun g hg => ?_⟩⟩, .str l hlen, fun i hi => by cases hi⟩
    · exact (hr.lt (h := bdH (ρ.t 72) (ρ.t 5) l.length l) (id := 0) rfl (hblk k hk)).2
    · rw [look_one] at hl
      split at hl
      · rename_i hi
        subst hi
        simp only [Option.some.injEq, Prod.mk.injEq] at hl
        obtain ⟨rfl, rfl⟩ := hl
        unfold BoxRep
        rw [hb]
        refine ⟨(hr.lt (h := bdH (ρ.t 72) (ρ.t 5) l.length l) (id := 1000) rfl hb).2, _, _, .new (hbk.trans hbh), fun e' l h => (by cases h), fun j c hj => ?_⟩
        match j, hj with
        | 0, hj => cases hj; exact ⟨_, rfl, by rcases hp with rfl | rfl <;> rfl⟩
        | 1, hj =>
          cases hj
          refine ⟨_, rfl, ?_⟩
          rcases hvv with ⟨rfl, _⟩ | ⟨g, cap, hg, rfl, _⟩ <;> rfl
      · cases hl
    · have a1 := dom_1000 (isSome_of h1)
      have a2 := dom_1000 (isSome_of h2)
      omega
    · rw [look_one] at hl
      split at hl
      · simp only [Option.some.injEq, Prod.mk.injEq] at hl
        obtain ⟨rfl, rfl⟩ := hl
        simp [acRefs, Bx.cells, AC.refs] at hi
      · cases hl
    · have h2 := (hr.pin id hid).2 g hg
      have hg' : β id = some g := (hr.pin id hid).1.trans hg
      have hid1 : id = 1000 := by
        rcases Nat.decEq id 1000 with hne | he
        · rw [d.out id (by simp only [bdH, look_two]; rw [if_neg hne, if_neg (by omega)])] at hg'; cases hg'
        · exact he
      subst hid1
      refine ⟨h2.1, ?_, fun i e hl hne => absurd (dom_1000 (isSome_of hl)) hne⟩
      unfold bsh
      rw [hb] at hg'
      simp only [Option.some.injEq] at hg'
      subst hg'
      rw [hbk]
end
/-! ### Steps -/
section
variable {X : Ctx} {N : Nat} {R : AS → Prop} {k : List KI} {σ : AS} {ops : Array Oper} {D D' : Option (List Fl)} {rest : List Oper} {env env' : List (Nat × AV)} {h h' : Hp} {n n' : Nat} {dst : Option Tmp} {t d : Tmp} {op : Op} {ty tx t' : TypeId} {ps : String} {af : Array Edge}
/-- A builder is made: its box and its row. -/
theorem R_allocB {T e : TypeId} {fs : Array Field} {F : Field} {s b s2 b2 : Nat} {zz : Option Value} {h1 h2 h3 : Hp} [hT : TInf X T ⟨.struct fs, s, b, some (.agg ⟨[.pointer none, .slice none 0 0]⟩)⟩] (hF : fs.toList[1]? = some F := by rfl) (hE : TInf X F.type ⟨.slice e, s2, b2, zz⟩ := by infer_instance) (hn : look h n = none := by rfl) (hn2 : look h (n + 1) = none := by rfl) (hk1 : Nat.blt (n + 1) 1000 = true := by rfl)
    (hp1 : PutR h (n + 1) (.pu e [], false) h1 := by repeat (first | exact .hit | exact .nil | (apply PutR.miss; rfl))) (hp2 : PutR h1 n (.mx [.any, .any], false) h2 := by repeat (first | exact .hit | exact .nil | (apply PutR.miss; rfl))) (hp3 : PutR h2 n (.mx [.adr n T 2, .own (n + 1) 1 0], false) h3 := by repeat (first | exact .hit | exact .nil | (apply PutR.miss; rfl)))
    (hfl : FlR D env (.alloc T) (.one (.ptr n 0)) (.e h3 none) D' := by first | exact .seq | exact .drawn rfl)
    (hK : Rn X N R k ops D' rest ⟨(d, .one (.ptr n 0)) :: env, h3, n + 2⟩) : Rn X N R k ops D (⟨some d, .alloc T, ty, ps, af, none⟩ :: rest) ⟨env, h, n⟩ :=
  Rn.step (ef := .e h3 none) (n' := n + 2) trivial (fun K hK => by
    simp only [evOp]
    refine .inr ?_
    simp only [evAllocB, hT.h]
    exact ⟨hn, hn2, lt1k hk1, e, by rw [hp1.eq, hp2.eq, hp3.eq]; exact hK⟩) hfl (by simp only [AS.fin, putO, putE]; exact hK)
/-- A call through a pointer to a box of cells, one of which holds a row of the frame's own: both come back. -/
theorem R_callB {fo a0 : Operand} {al : List Operand} {tl : List TypeId} {g : FuncId} {pas : List PA} {ids : List Nat} {te : TypeId} {id : Nat} {l l' : List PV} {cs cs' ds ds' : List AC} {y v : AV} {h1' h2' h3' h4' : Hp} (c : Nat) {xs : List AV}
    (hs : SpcS X g (.one (.ptr 1000 0) :: xs) [(1000, (.mx cs, false)), (0, (.pu te l, false))] y [(1000, (.mx cs', false)), (0, (.pu te l', false))]) (hf : EvR env fo (.one (.pv (.clo g []))) := by first | exact .fn | exact ⟨rfl⟩)
    (h0 : EvR env a0 (.one (.ptr id 0)) := by exact ⟨rfl⟩) (hcs : cs.map (AC.ren (bdF id c)) = ds := by rfl) (hli : look h id = some (.mx ds, false) := by rfl) (hlc : look h c = some (.pu te l, false) := by rfl) (hne : (id == c) = false := by rfl) (hk1 : Nat.blt c 500 = true := by rfl) (hi5 : (Nat.blt id 500 || Nat.ble 1000 id) = true := by rfl) (hw : (acRefs cs).all (fun i => i == 1000 || i == 0) = true := by rfl)
    (hv : VOs h env al pas ids := by repeat (first | exact .nil | (apply VOs.cons; first | exact .tmp rfl | exact .ci rfl | exact .cb | exact .cs rfl | exact .of rfl | exact .fn | (apply EvR.cagg; repeat (first | exact OfL.nil | apply OfL.int | apply OfL.bool | apply OfL.str | apply OfL.nilS | (apply OfL.other; rfl; rfl)))) | exact VA.one (.pv rfl) | exact VA.one .nil | exact VA.one (.own rfl (fun _ => rfl) (by first | rfl | omega | (simp only [List.length_set, List.length_append, List.length_cons, List.length_nil, List.length_take, List.length_drop, List.length_replicate, List.length_map, List.length_reverse] <;> omega) | simp)) | exact VA.one (.ownTake rfl (fun _ => rfl) (by first | omega | simp)) | apply VA.agg | exact VL.nil | exact VL.pvs rfl | apply VL.cons | exact VC.pv rfl | exact VC.nil | exact VC.own rfl (fun _ => rfl) (by first | rfl | omega | (simp only [List.length_set, List.length_append, List.length_cons, List.length_nil, List.length_take, List.length_drop, List.length_replicate, List.length_map, List.length_reverse] <;> omega) | simp))) (hx : pas.map PA.av = xs := by exact rfl) (hz : (ids.all fun i => (look h i).isSome) = true := by rfl) (hn1 : ids.contains id = false := by rfl) (hn2 : ids.contains c = false := by rfl)
    (hh : FrzR h ids h1' := by repeat (first | exact FrzR.nil | (apply FrzR.cons; rfl; (repeat (first | exact .hit | exact .nil | (apply PutR.miss; rfl)))))) (hsc : scrubH c h1' = h2' := by exact rfl) (hp : PutR h2' c (.pu te l', false) h3' := by repeat (first | exact .hit | exact .nil | (apply PutR.miss; rfl))) (hcs' : cs'.map (AC.ren (bdF id c)) = ds' := by exact rfl) (hp2 : PutR h3' id (.mx ds', false) h4' := by repeat (first | exact .hit | exact .nil | (apply PutR.miss; rfl))) (hy : y.ren (bdF id c) = v := by exact rfl) (henv : scrubEnv c env = env' := by exact Eq.refl _)
    (hfl : FlR D env (.call ⟨.value fo, ⟨a0 :: al⟩, ⟨tl⟩⟩) v (.e h4' (some c)) D' := by first | exact .seq | exact .drawn rfl) (hK : Rn X N R k ops D' rest ⟨putO env' dst v, h4', n⟩) : Rn X N R k ops D (⟨dst, .call ⟨.value fo, ⟨a0 :: al⟩, ⟨tl⟩⟩, ty, ps, af, none⟩ :: rest) ⟨env, h, n⟩ :=
  R_callS (f := bdF id c) (n' := n) (zs := ids) (h' := h4') (m := some c) hs hf (by
    rw [← hp2.eq, ← hp.eq, ← hsc, ← hh.eq, ← hcs']
    exact fits_two (by rw [hcs]; exact hli) hlc (by simpa using hne) (lt5h hk1) (lowb hi5) (fun i hi => by have := List.all_eq_true.1 hw i hi; simpa using this) (all_some hz) (not_mem hn1) (not_mem hn2)) (by
    rw [List.map_cons, h0.h, ← hx]
    exact .cons (.own (x := .one (.ptr 1000 0)) (fun e => by cases e) (fun i hi => by simp only [AV.refs, AC.refs, List.mem_singleton] at hi; subst hi; simp [look])) (hv.args fun id hid => hid)) (fun a e i hi hn => by
    cases e
    have hid : i ≠ id := fun q => hn (by rw [q, List.map_cons, h0.h]; simp [AV.refs, AC.refs])
    rw [← hp2.eq, ← hp.eq, ← hsc, ← hh.eq, look_put, if_neg hid]; exact app_sc (h0 := frzs h ids) (fun i _ => look_frzs_fst ids h i) hi) (by rw [hy]; exact hfl) (by rw [hy]; subst henv; cases dst <;> exact hK)
/-- .. the row is used up. -/
theorem R_callBC {fo a0 : Operand} {al : List Operand} {tl : List TypeId} {g : FuncId} {pas : List PA} {ids : List Nat} {te : TypeId} {id : Nat} {l : List PV} {cs cs' ds ds' : List AC} {y v : AV} {h1' h2' h3' h4' : Hp} (c : Nat) {xs : List AV}
    (hs : SpcS X g (.one (.ptr 1000 0) :: xs) [(1000, (.mx cs, false)), (0, (.pu te l, false))] y [(1000, (.mx cs', false))]) (hf : EvR env fo (.one (.pv (.clo g []))) := by first | exact .fn | exact ⟨rfl⟩)
    (h0 : EvR env a0 (.one (.ptr id 0)) := by exact ⟨rfl⟩) (hcs : cs.map (AC.ren (bdF id c)) = ds := by rfl) (hli : look h id = some (.mx ds, false) := by rfl) (hlc : look h c = some (.pu te l, false) := by rfl) (hne : (id == c) = false := by rfl) (hk1 : Nat.blt c 500 = true := by rfl) (hi5 : (Nat.blt id 500 || Nat.ble 1000 id) = true := by rfl) (hw : (acRefs cs).all (fun i => i == 1000 || i == 0) = true := by rfl)
    (hv : VOs h env al pas ids := by repeat (first | exact .nil | (apply VOs.cons; first | exact .tmp rfl | exact .ci rfl | exact .cb | exact .cs rfl | exact .of rfl | exact .fn | (apply EvR.cagg; repeat (first | exact OfL.nil | apply OfL.int | apply OfL.bool | apply OfL.str | apply OfL.nilS | (apply OfL.other; rfl; rfl)))) | exact VA.one (.pv rfl) | exact VA.one .nil | exact VA.one (.own rfl (fun _ => rfl) (by first | rfl | omega | (simp only [List.length_set, List.length_append, List.length_cons, List.length_nil, List.length_take, List.length_drop, List.length_replicate, List.length_map, List.length_reverse] <;> omega) | simp)) | exact VA.one (.ownTake rfl (fun _ => rfl) (by first | omega | simp)) | apply VA.agg | exact VL.nil | exact VL.pvs rfl | apply VL.cons | exact VC.pv rfl | exact VC.nil | exact VC.own rfl (fun _ => rfl) (by first | rfl | omega | (simp only [List.length_set, List.length_append, List.length_cons, List.length_nil, List.length_take, List.length_drop, List.length_replicate, List.length_map, List.length_reverse] <;> omega) | simp))) (hx : pas.map PA.av = xs := by exact rfl) (hz : (ids.all fun i => (look h i).isSome) = true := by rfl) (hn1 : ids.contains id = false := by rfl) (hn2 : ids.contains c = false := by rfl)
    (hh : FrzR h ids h1' := by repeat (first | exact FrzR.nil | (apply FrzR.cons; rfl; (repeat (first | exact .hit | exact .nil | (apply PutR.miss; rfl)))))) (hsc : scrubH c h1' = h2' := by exact rfl) (hp : PutR h2' c (.mx [], true) h3' := by repeat (first | exact .hit | exact .nil | (apply PutR.miss; rfl))) (hcs' : cs'.map (AC.ren (bdF id c)) = ds' := by exact rfl) (hp2 : PutR h3' id (.mx ds', false) h4' := by repeat (first | exact .hit | exact .nil | (apply PutR.miss; rfl))) (hy : y.ren (bdF id c) = v := by exact rfl) (henv : scrubEnv c env = env' := by exact Eq.refl _)
    (hfl : FlR D env (.call ⟨.value fo, ⟨a0 :: al⟩, ⟨tl⟩⟩) v (.e h4' (some c)) D' := by first | exact .seq | exact .drawn rfl) (hK : Rn X N R k ops D' rest ⟨putO env' dst v, h4', n⟩) : Rn X N R k ops D (⟨dst, .call ⟨.value fo, ⟨a0 :: al⟩, ⟨tl⟩⟩, ty, ps, af, none⟩ :: rest) ⟨env, h, n⟩ :=
  R_callS (f := bdF id c) (n' := n) (zs := ids) (h' := h4') (m := some c) hs hf (by
    rw [← hp2.eq, ← hp.eq, ← hsc, ← hh.eq, ← hcs']
    exact fits_twoC (by rw [hcs]; exact hli) hlc (by simpa using hne) (lt5h hk1) (lowb hi5) (fun i hi => by have := List.all_eq_true.1 hw i hi; simpa using this) (all_some hz) (not_mem hn1) (not_mem hn2)) (by
    rw [List.map_cons, h0.h, ← hx]
    exact .cons (.own (x := .one (.ptr 1000 0)) (fun e => by cases e) (fun i hi => by simp only [AV.refs, AC.refs, List.mem_singleton] at hi; subst hi; simp [look])) (hv.args fun id hid => hid)) (fun a e i hi hn => by
    cases e
    have hid : i ≠ id := fun q => hn (by rw [q, List.map_cons, h0.h]; simp [AV.refs, AC.refs])
    rw [← hp2.eq, ← hp.eq, ← hsc, ← hh.eq, look_put, if_neg hid]; exact app_sc (h0 := frzs h ids) (fun i _ => look_frzs_fst ids h i) hi) (by rw [hy]; exact hfl) (by rw [hy]; subst henv; cases dst <;> exact hK)
end
section
variable {X : Ctx} {env : List (Nat × AV)} {h : Hp} {n : Nat}
theorem retS2 {rs : List ResultVar} {r1 r2 : ResultVar} {v1 v2 y : AV} {h1 : Hp} (hrs : rs = [r1, r2] := by exact rfl) (hr1 : RvR X ⟨env, h, n⟩ r1 v1 := by first | exact .tmp (by first | exact .tmp rfl | exact .of rfl) | exact .cell ⟨rfl⟩ rfl inferInstance rfl rfl) (hr2 : RvR X ⟨env, h, n⟩ r2 v2 := by first | exact .tmp (by first | exact .tmp rfl | exact .of rfl) | exact .cell ⟨rfl⟩ rfl inferInstance rfl rfl)
    (hy : tupV [v1, v2] = some y) (hle : leH h h1) (hw : wfH h1 h1 = true := by rfl) (hrf : refsIn h1 y.refs = true := by rfl) : retS X rs y h1 ⟨env, h, n⟩ := by
  subst hrs
  refine ⟨hle, hw, hrf, ?_⟩
  simp only [resAVs]
  exact hr1.res _ (hr2.res _ ⟨[v1, v2], .cons .same (.cons .same .nil), hy⟩)
end
end Go.VL


namespace Go.VL
open Go.RowKit
set_option linter.unusedVariables false
section
variable {X : Ctx} {N : Nat} {R : AS → Prop} {k : List KI} {σ : AS} {ops : Array Oper} {D D' : Option (List Fl)} {rest : List Oper} {env env' : List (Nat × AV)} {h h' : Hp} {n n' : Nat} {dst : Option Tmp} {t d : Tmp} {op : Op} {ty tx t' : TypeId} {ps : String} {af : Array Edge}
/-- A part of an element that is itself made of several cells. -/
theorem R_ldFA {x : Operand} {α : Type} {e : α → List PV} {l : List α} {S m j : Nat} {a : α} {cs : List AC} {T : TI} [hT : TInf X tx T] (hx : EvR env x (vP (.pt (l.flatMap e) (m * S + j))) := by exact ⟨rfl⟩) (hS : ∀ x, (e x).length = S := by exact fun _ => rfl) (hag : isAggU T.u = true := by rfl)
    (hl : l[m]? = some a := by exact gD (by first | omega | (simp only [List.length_set, List.length_append, List.length_cons, List.length_nil, List.length_take, List.length_drop, List.length_replicate, List.length_map, List.length_reverse] at * <;> omega))) (hj : Nat.ble (j + T.size) S = true := by rfl) (hc : (((e a).drop j).take T.size).map AC.pv = cs := by exact Eq.refl _) (hfl : FlR D env (.load tx x) (.agg cs) (.n [] [] none) D' := by first | exact .seq | exact .drawn rfl)
    (hK : Rn X N R k ops D' rest ⟨(d, .agg cs) :: env, h, n⟩) : Rn X N R k ops D (⟨some d, .load tx x, ty, ps, af, none⟩ :: rest) ⟨env, h, n⟩ :=
  Rn.step (ef := .n [] [] none) trivial (fun K hK => by
    obtain ⟨h1, h2⟩ := flat_part hS hl
    have hj' : j + T.size ≤ S := Nat.le_of_ble_eq_true hj
    have e1 : ((l.flatMap e).drop (m * S + j)).take T.size = ((e a).drop j).take T.size := by
      rw [← h1, List.drop_take, List.take_take, Nat.min_eq_left (by omega), List.drop_drop]
    simp only [evOp, hx.h, evLoadPv, hT.h, hag, if_true, e1, hc]
    exact ⟨by omega, hK⟩) hfl hK
theorem R_idxA {x i : Operand} {ta e : TypeId} {s b q m id off off' : Nat} {zz : Option Value} {T : TI} {kz : IntKind} {z : Int} [hT : TInf X ta ⟨.array q e, s, b, zz⟩] [hE : TInf X e T] (hx : EvR env x (.one (.ptr id off)) := by exact ⟨rfl⟩) (hi : EvR env i (.one (.pv (.int kz z))) := by exact ⟨rfl⟩)
    (h0 : 0 ≤ z ∧ z < q := by first | exact ⟨by decide, by decide⟩ | (constructor <;> omega)) (hm : z.toNat = m := by first | (with_reducible exact Int.toNat_natCast _) | exact Eq.refl _) (ho : off + m * T.size = off' := by exact Eq.refl _) (hfl : FlR D env (.indexAddr ta x i) (.one (.ptr id off')) (.n [] [] none) D' := by first | exact .seq | exact .drawn rfl)
    (hK : Rn X N R k ops D' rest ⟨(d, .one (.ptr id off')) :: env, h, n⟩) : Rn X N R k ops D (⟨some d, .indexAddr ta x i, ty, ps, af, none⟩ :: rest) ⟨env, h, n⟩ :=
  Rn.val rfl (fun K hK => by subst hm; subst ho; simp only [evVal, evIndexAddr, hT.h, hE.h, hx.h, hi.h]; exact ⟨h0.1, h0.2, hK⟩) hfl hK
theorem R_idxP {x i : Operand} {ta e : TypeId} {s b q m off off' : Nat} {cells : List PV} {zz : Option Value} {T : TI} {kz : IntKind} {z : Int} [hT : TInf X ta ⟨.array q e, s, b, zz⟩] [hE : TInf X e T] (hx : EvR env x (vP (.pt cells off)) := by exact ⟨rfl⟩) (hi : EvR env i (.one (.pv (.int kz z))) := by exact ⟨rfl⟩)
    (h0 : 0 ≤ z ∧ z < q := by first | exact ⟨by decide, by decide⟩ | (constructor <;> omega)) (hm : z.toNat = m := by first | (with_reducible exact Int.toNat_natCast _) | exact Eq.refl _) (ho : off + m * T.size = off' := by exact Eq.refl _) (hfl : FlR D env (.indexAddr ta x i) (vP (.pt cells off')) (.n [] [] none) D' := by first | exact .seq | exact .drawn rfl)
    (hK : Rn X N R k ops D' rest ⟨(d, vP (.pt cells off')) :: env, h, n⟩) : Rn X N R k ops D (⟨some d, .indexAddr ta x i, ty, ps, af, none⟩ :: rest) ⟨env, h, n⟩ :=
  Rn.val rfl (fun K hK => by subst hm; subst ho; simp only [evVal, evIndexAddr, hT.h, hE.h, hx.h, hi.h]; exact ⟨h0.1, h0.2, hK⟩) hfl hK
/-- Two cells, an array's. -/
theorem R_build2 {x y : Operand} {a b0 z0 z1 : AC} {e : TypeId} {T : TI} {s b : Nat} {zz : Value} [hT : TInf X tx ⟨.array 2 e, s, b, some zz⟩] [hE : TInf X e T] (hz : OfL zz.cells.toList [z0, z1] := by repeat (first | exact OfL.nil | apply OfL.int | apply OfL.bool | apply OfL.str | apply OfL.nilS | (apply OfL.other; rfl; rfl)))
    (h1 : T.size = 1 := by rfl) {va vb : AV} (hx : EvR env x va := by first | exact .tmp rfl | exact .of rfl) (hy : EvR env y vb := by first | exact .tmp rfl | exact .of rfl) (ha : avCells va = some [a] := by exact rfl) (hb : avCells vb = some [b0] := by exact rfl)
    (hfl : FlR D env (.build tx ⟨[(0, x), (1, y)]⟩) (.agg [a, b0]) (.n [] [] none) D' := by first | exact .seq | exact .drawn rfl)
    (hK : Rn X N R k ops D' rest ⟨(d, .agg [a, b0]) :: env, h, n⟩) : Rn X N R k ops D (⟨some d, .build tx ⟨[(0, x), (1, y)]⟩, ty, ps, af, none⟩ :: rest) ⟨env, h, n⟩ :=
  Rn.val rfl (fun K hK => by
    simp only [evVal, evBuild, hT.h, hE.h, zc_eq, zc_of hz, List.map_cons, List.map_nil, hx.h, hy.h, fillA, h1, ha, hb]
    simpa [setMany] using hK) hfl hK
end
end Go.VL


namespace Go.VL
open Go.RowKit
set_option linter.unusedVariables false
theorem Spc.start {X : Ctx} {f : FuncId} {fn : Func} {c : Code} {args : List PA} {res : PA} (hf : X.P.funcs[f]? = some fn) (hb : fn.body = some c) (hname : (fn.name == "runtime.NumGoroutine") = false := by rfl) (hok : codeOk fn.ntmps c = true := by kernel_rfl) (hn : Nat.ble args.length fn.ntmps = true := by rfl)
    (h : sanes args → ∀ R, (∀ σ, retP X fn.results.toList res σ → R σ) → Wp X fn.ntmps R [] c ⟨entryE 0 args, [], 0⟩) : Spc X f args res := spec_of hf hname hb hok (Nat.le_of_ble_eq_true hn) fun hs R hR => (h hs R hR).h
structure Kept (Q : Prop) : Prop where
  un : Q
theorem g_mv {X : Ctx} {N : Nat} {R : AS → Prop} {k : List KI} {σ : AS} {ops : Array Oper} {D : Option (List Fl)} {rest : List Oper} {dst : Option Tmp} {ty : TypeId} {ps : String} {af : Array Edge} {x : Operand} (h : Kept (Rn X N R k ops D (⟨dst, .move x, ty, ps, af, none⟩ :: rest) σ)) : Rn X N R k ops D (⟨dst, .move x, ty, ps, af, none⟩ :: rest) σ := h.un
theorem g_as {X : Ctx} {N : Nat} {R : AS → Prop} {k : List KI} {σ : AS} {ops : Array Oper} {D : Option (List Fl)} {rest : List Oper} {dst : Option Tmp} {ty : TypeId} {ps : String} {af : Array Edge} {x : Operand} (h : Kept (Rn X N R k ops D (⟨dst, .assign x, ty, ps, af, none⟩ :: rest) σ)) : Rn X N R k ops D (⟨dst, .assign x, ty, ps, af, none⟩ :: rest) σ := h.un
theorem g_pk {X : Ctx} {N : Nat} {R : AS → Prop} {k : List KI} {σ : AS} {ops : Array Oper} {D : Option (List Fl)} {rest : List Oper} {dst : Option Tmp} {ty : TypeId} {ps : String} {af : Array Edge} {x y z : Operand} (h : Kept (Rn X N R k ops D (⟨dst, .pick x y z, ty, ps, af, none⟩ :: rest) σ)) : Rn X N R k ops D (⟨dst, .pick x y z, ty, ps, af, none⟩ :: rest) σ := h.un
theorem g_ld {X : Ctx} {N : Nat} {R : AS → Prop} {k : List KI} {σ : AS} {ops : Array Oper} {D : Option (List Fl)} {rest : List Oper} {dst : Option Tmp} {ty : TypeId} {ps : String} {af : Array Edge} {tx : TypeId} {x : Operand} (h : Kept (Rn X N R k ops D (⟨dst, .load tx x, ty, ps, af, none⟩ :: rest) σ)) : Rn X N R k ops D (⟨dst, .load tx x, ty, ps, af, none⟩ :: rest) σ := h.un
theorem g_bi {X : Ctx} {N : Nat} {R : AS → Prop} {k : List KI} {σ : AS} {ops : Array Oper} {D : Option (List Fl)} {rest : List Oper} {dst : Option Tmp} {ty : TypeId} {ps : String} {af : Array Edge} {bo : BinOp} {tx ty' : TypeId} {x y : Operand} (h : Kept (Rn X N R k ops D (⟨dst, .binOp bo tx x y ty', ty, ps, af, none⟩ :: rest) σ)) : Rn X N R k ops D (⟨dst, .binOp bo tx x y ty', ty, ps, af, none⟩ :: rest) σ := h.un
theorem g_ca {X : Ctx} {N : Nat} {R : AS → Prop} {k : List KI} {σ : AS} {ops : Array Oper} {D : Option (List Fl)} {rest : List Oper} {dst : Option Tmp} {ty : TypeId} {ps : String} {af : Array Edge} {c : Call} (h : Kept (Rn X N R k ops D (⟨dst, .call c, ty, ps, af, none⟩ :: rest) σ)) : Rn X N R k ops D (⟨dst, .call c, ty, ps, af, none⟩ :: rest) σ := h.un
theorem g_ix {X : Ctx} {N : Nat} {R : AS → Prop} {k : List KI} {σ : AS} {ops : Array Oper} {D : Option (List Fl)} {rest : List Oper} {dst : Option Tmp} {ty : TypeId} {ps : String} {af : Array Edge} {tx : TypeId} {x y : Operand} (h : Kept (Rn X N R k ops D (⟨dst, .indexAddr tx x y, ty, ps, af, none⟩ :: rest) σ)) : Rn X N R k ops D (⟨dst, .indexAddr tx x y, ty, ps, af, none⟩ :: rest) σ := h.un
theorem g_un {X : Ctx} {N : Nat} {R : AS → Prop} {k : List KI} {σ : AS} {ops : Array Oper} {D : Option (List Fl)} {rest : List Oper} {dst : Option Tmp} {ty : TypeId} {ps : String} {af : Array Edge} {uo : UnOp} {tx : TypeId} {x : Operand} (h : Kept (Rn X N R k ops D (⟨dst, .unOp uo tx x, ty, ps, af, none⟩ :: rest) σ)) : Rn X N R k ops D (⟨dst, .unOp uo tx x, ty, ps, af, none⟩ :: rest) σ := h.un
theorem g_ex {X : Ctx} {N : Nat} {R : AS → Prop} {k : List KI} {σ : AS} {ops : Array Oper} {D : Option (List Fl)} {rest : List Oper} {dst : Option Tmp} {ty : TypeId} {ps : String} {af : Array Edge} {x : Operand} {i : Nat} (h : Kept (Rn X N R k ops D (⟨dst, .extract x i, ty, ps, af, none⟩ :: rest) σ)) : Rn X N R k ops D (⟨dst, .extract x i, ty, ps, af, none⟩ :: rest) σ := h.un
theorem g_fl {X : Ctx} {N : Nat} {R : AS → Prop} {k : List KI} {σ : AS} {ops : Array Oper} {D : Option (List Fl)} {rest : List Oper} {dst : Option Tmp} {ty : TypeId} {ps : String} {af : Array Edge} {tx : TypeId} {x : Operand} {i : Nat} (h : Kept (Rn X N R k ops D (⟨dst, .field tx x i, ty, ps, af, none⟩ :: rest) σ)) : Rn X N R k ops D (⟨dst, .field tx x i, ty, ps, af, none⟩ :: rest) σ := h.un
theorem g_sl {X : Ctx} {N : Nat} {R : AS → Prop} {k : List KI} {σ : AS} {ops : Array Oper} {D : Option (List Fl)} {rest : List Oper} {dst : Option Tmp} {ty : TypeId} {ps : String} {af : Array Edge} {tx : TypeId} {x : Operand} {lo hi mx : Option Operand} (h : Kept (Rn X N R k ops D (⟨dst, .slice tx x lo hi mx, ty, ps, af, none⟩ :: rest) σ)) : Rn X N R k ops D (⟨dst, .slice tx x lo hi mx, ty, ps, af, none⟩ :: rest) σ := h.un
theorem g_st {X : Ctx} {N : Nat} {R : AS → Prop} {k : List KI} {σ : AS} {ops : Array Oper} {D : Option (List Fl)} {rest : List Oper} {dst : Option Tmp} {ty : TypeId} {ps : String} {af : Array Edge} {tx : TypeId} {x y : Operand} (h : Kept (Rn X N R k ops D (⟨dst, .store tx x y, ty, ps, af, none⟩ :: rest) σ)) : Rn X N R k ops D (⟨dst, .store tx x y, ty, ps, af, none⟩ :: rest) σ := h.un
theorem g_bx {X : Ctx} {N : Nat} {R : AS → Prop} {k : List KI} {σ : AS} {ops : Array Oper} {D : Option (List Fl)} {rest : List Oper} {dst : Option Tmp} {ty : TypeId} {ps : String} {af : Array Edge} {te : TypeId} {x : Operand} (h : Kept (Rn X N R k ops D (⟨dst, .box te x, ty, ps, af, none⟩ :: rest) σ)) : Rn X N R k ops D (⟨dst, .box te x, ty, ps, af, none⟩ :: rest) σ := h.un
theorem g_al {X : Ctx} {N : Nat} {R : AS → Prop} {k : List KI} {σ : AS} {ops : Array Oper} {D : Option (List Fl)} {rest : List Oper} {dst : Option Tmp} {ty : TypeId} {ps : String} {af : Array Edge} {te : TypeId} (h : Kept (Rn X N R k ops D (⟨dst, .alloc te, ty, ps, af, none⟩ :: rest) σ)) : Rn X N R k ops D (⟨dst, .alloc te, ty, ps, af, none⟩ :: rest) σ := h.un
theorem g_mk {X : Ctx} {N : Nat} {R : AS → Prop} {k : List KI} {σ : AS} {ops : Array Oper} {D : Option (List Fl)} {rest : List Oper} {dst : Option Tmp} {ty : TypeId} {ps : String} {af : Array Edge} {tx : TypeId} {x y : Operand} (h : Kept (Rn X N R k ops D (⟨dst, .makeSlice tx x y, ty, ps, af, none⟩ :: rest) σ)) : Rn X N R k ops D (⟨dst, .makeSlice tx x y, ty, ps, af, none⟩ :: rest) σ := h.un
theorem g_bs {X : Ctx} {N : Nat} {R : AS → Prop} {k : List KI} {σ : AS} {ops : Array Oper} {D : Option (List Fl)} {rest : List Oper} {dst : Option Tmp} {ty : TypeId} {ps : String} {af : Array Edge} {tx : TypeId} {len : Nat} {pl : Array (Nat × Operand)} (h : Kept (Rn X N R k ops D (⟨dst, .buildSlice tx len pl, ty, ps, af, none⟩ :: rest) σ)) : Rn X N R k ops D (⟨dst, .buildSlice tx len pl, ty, ps, af, none⟩ :: rest) σ := h.un
theorem g_bu {X : Ctx} {N : Nat} {R : AS → Prop} {k : List KI} {σ : AS} {ops : Array Oper} {D : Option (List Fl)} {rest : List Oper} {dst : Option Tmp} {ty : TypeId} {ps : String} {af : Array Edge} {tx : TypeId} {pl : Array (Nat × Operand)} (h : Kept (Rn X N R k ops D (⟨dst, .build tx pl, ty, ps, af, none⟩ :: rest) σ)) : Rn X N R k ops D (⟨dst, .build tx pl, ty, ps, af, none⟩ :: rest) σ := h.un
theorem g_mf {X : Ctx} {N : Nat} {R : AS → Prop} {k : List KI} {σ : AS} {ops : Array Oper} {D : Option (List Fl)} {rest : List Oper} {dst : Option Tmp} {ty : TypeId} {ps : String} {af : Array Edge} {fn : Fn} {fi ca : Array Operand} (h : Kept (Rn X N R k ops D (⟨dst, .makeFunc fn fi ca, ty, ps, af, none⟩ :: rest) σ)) : Rn X N R k ops D (⟨dst, .makeFunc fn fi ca, ty, ps, af, none⟩ :: rest) σ := h.un
theorem g_nc {X : Ctx} {N : Nat} {R : AS → Prop} {k : List KI} {σ : AS} {ops : Array Oper} {D : Option (List Fl)} {rest : List Oper} {dst : Option Tmp} {ty : TypeId} {ps : String} {af : Array Edge} {x : Operand} (h : Kept (Rn X N R k ops D (⟨dst, .nilCheck x, ty, ps, af, none⟩ :: rest) σ)) : Rn X N R k ops D (⟨dst, .nilCheck x, ty, ps, af, none⟩ :: rest) σ := h.un
theorem g_mi {X : Ctx} {N : Nat} {R : AS → Prop} {k : List KI} {σ : AS} {ops : Array Oper} {D : Option (List Fl)} {rest : List Oper} {dst : Option Tmp} {ty : TypeId} {ps : String} {af : Array Edge} {tx : TypeId} {x : Operand} (h : Kept (Rn X N R k ops D (⟨dst, .makeInterface tx x, ty, ps, af, none⟩ :: rest) σ)) : Rn X N R k ops D (⟨dst, .makeInterface tx x, ty, ps, af, none⟩ :: rest) σ := h.un
theorem g_cv {X : Ctx} {N : Nat} {R : AS → Prop} {k : List KI} {σ : AS} {ops : Array Oper} {D : Option (List Fl)} {rest : List Oper} {dst : Option Tmp} {ty : TypeId} {ps : String} {af : Array Edge} {tx td : TypeId} {x : Operand} (h : Kept (Rn X N R k ops D (⟨dst, .convert tx td x, ty, ps, af, none⟩ :: rest) σ)) : Rn X N R k ops D (⟨dst, .convert tx td x, ty, ps, af, none⟩ :: rest) σ := h.un
theorem g_si {X : Ctx} {N : Nat} {R : AS → Prop} {k : List KI} {σ : AS} {ops : Array Oper} {D : Option (List Fl)} {rest : List Oper} {dst : Option Tmp} {ty : TypeId} {ps : String} {af : Array Edge} {tx : TypeId} {x y : Operand} (h : Kept (Rn X N R k ops D (⟨dst, .index tx x y, ty, ps, af, none⟩ :: rest) σ)) : Rn X N R k ops D (⟨dst, .index tx x y, ty, ps, af, none⟩ :: rest) σ := h.un
theorem g_fa {X : Ctx} {N : Nat} {R : AS → Prop} {k : List KI} {σ : AS} {ops : Array Oper} {D : Option (List Fl)} {rest : List Oper} {dst : Option Tmp} {ty : TypeId} {ps : String} {af : Array Edge} {tx : TypeId} {x : Operand} {i : Nat} (h : Kept (Rn X N R k ops D (⟨dst, .fieldAddr tx x i, ty, ps, af, none⟩ :: rest) σ)) : Rn X N R k ops D (⟨dst, .fieldAddr tx x i, ty, ps, af, none⟩ :: rest) σ := h.un
theorem g_rn {X : Ctx} {N : Nat} {R : AS → Prop} {k : List KI} {σ : AS} {ops : Array Oper} {D : Option (List Fl)} {l : List Oper} (h : Rn X N R k ops D l σ) : Rn X N R k ops D l σ := h
theorem walk {P Q : Prop} (h : Kept Q → P := by
  intro hQ
  repeat (first
    | (refine g_rn ?_; first | refine R_g_yes (hK := ?_) | refine R_g_no (hK := ?_) | refine R_g_un (hK := ?_) | (refine g_mv ?_; first | refine ⟨R_move (hK := ?_)⟩) | (refine g_as ?_; first | refine ⟨R_assign (hK := ?_)⟩) | (refine g_pk ?_; first | refine ⟨R_pick_t (hK := ?_)⟩ | refine ⟨R_pick_f (hK := ?_)⟩) | (refine g_ld ?_; first | refine ⟨R_ld (hK := ?_)⟩ | refine ⟨R_ldO (hK := ?_)⟩ | refine ⟨R_ldM (hK := ?_)⟩ | refine ⟨R_ldF (hK := ?_)⟩ | refine ⟨R_ldA (hK := ?_)⟩ | refine ⟨R_ldFA (hK := ?_)⟩ | refine ⟨R_ldMA (hK := ?_)⟩) | (refine g_bi ?_; first | refine ⟨R_lss (hK := ?_)⟩ | refine ⟨R_eql (hK := ?_)⟩ | refine ⟨R_add (hK := ?_)⟩ | refine ⟨R_sub (hK := ?_)⟩ | refine ⟨R_neq (hK := ?_)⟩ | refine ⟨R_gtr (hK := ?_)⟩ | refine ⟨R_leq (hK := ?_)⟩ | refine ⟨R_geq (hK := ?_)⟩ | refine ⟨R_mul (hK := ?_)⟩ | refine ⟨R_quo (hK := ?_)⟩ | refine ⟨R_rem (hK := ?_)⟩ | refine ⟨R_seql (hK := ?_)⟩ | refine ⟨R_sneq (hK := ?_)⟩ | refine ⟨R_sadd (hK := ?_)⟩ | refine ⟨R_beql (hK := ?_)⟩ | refine ⟨R_bneq (hK := ?_)⟩ | refine ⟨R_nil1 (hK := ?_)⟩ | refine ⟨R_nil2 (hK := ?_)⟩ | refine ⟨R_nilN1 (hK := ?_)⟩ | refine ⟨R_nilN2 (hK := ?_)⟩ | refine ⟨R_nilU1 (hK := ?_)⟩ | refine ⟨R_nilU2 (hK := ?_)⟩ | refine ⟨R_ifn1 (hK := ?_)⟩ | refine ⟨R_ifn2 (hK := ?_)⟩ | refine ⟨R_ifz1 (hK := ?_)⟩ | refine ⟨R_ifz2 (hK := ?_)⟩ | refine ⟨R_slt (hK := ?_)⟩ | refine ⟨R_sle (hK := ?_)⟩ | refine ⟨R_sgt (hK := ?_)⟩ | refine ⟨R_sge (hK := ?_)⟩) | (refine g_ca ?_; first | refine ⟨R_len (hK := ?_)⟩ | refine ⟨R_lenO (hK := ?_)⟩ | refine ⟨R_lenS (hK := ?_)⟩ | refine ⟨R_len0 (hK := ?_)⟩ | refine ⟨R_lenU (hK := ?_)⟩ | refine ⟨R_app (hK := ?_)⟩ | refine ⟨R_app0 (hK := ?_)⟩ | refine ⟨R_appS (hK := ?_)⟩ | refine ⟨R_min (hK := ?_)⟩ | refine ⟨R_max (hK := ?_)⟩) | (refine g_ix ?_; first | refine ⟨R_idx (hK := ?_)⟩ | refine ⟨R_idxO (hK := ?_)⟩ | refine ⟨R_idxA (hK := ?_)⟩ | refine ⟨R_idxP (hK := ?_)⟩) | (refine g_un ?_; first | refine ⟨R_not (hK := ?_)⟩ | refine ⟨R_notb (hK := ?_)⟩ | refine ⟨R_neg (hK := ?_)⟩) | (refine g_ex ?_; first | refine ⟨R_ext (hK := ?_)⟩ | refine ⟨R_extA (hK := ?_)⟩) | (refine g_fl ?_; first | refine ⟨R_fld (hK := ?_)⟩ | refine ⟨R_fldA (hK := ?_)⟩) | (refine g_sl ?_; first | refine ⟨R_upto (hK := ?_)⟩ | refine ⟨R_from (hK := ?_)⟩ | refine ⟨R_both (hK := ?_)⟩ | refine ⟨R_sall (hK := ?_)⟩ | refine ⟨R_uptoO (hK := ?_)⟩ | refine ⟨R_sfrom (hK := ?_)⟩ | refine ⟨R_supto (hK := ?_)⟩ | refine ⟨R_sboth (hK := ?_)⟩) | (refine g_st ?_; first | refine ⟨R_stM (hK := ?_)⟩ | refine ⟨R_stO (hK := ?_)⟩) | (refine g_bx ?_; first | refine ⟨R_box (hK := ?_)⟩) | (refine g_al ?_; first | refine ⟨R_allocB (hK := ?_)⟩ | refine ⟨R_alloc (hK := ?_)⟩) | (refine g_mk ?_; first | refine ⟨R_make (e := eI) (a := 0) (hz := by rfl) (hK := ?_)⟩ | refine ⟨R_make (e := eS) (a := []) (hz := by rfl) (hK := ?_)⟩) | (refine g_bs ?_; first | refine ⟨R_bsl eI (hK := ?_)⟩ | refine ⟨R_bsl eS (hK := ?_)⟩) | (refine g_bu ?_; first | refine ⟨R_build (hK := ?_)⟩ | refine ⟨R_build2 (hK := ?_)⟩) | (refine g_mf ?_; first | refine ⟨R_mkfn0 (hK := ?_)⟩ | refine ⟨R_mkfn (hK := ?_)⟩ | refine ⟨R_mkfnC (hK := ?_)⟩) | (refine g_nc ?_; first | refine ⟨R_nck1 (hK := ?_)⟩ | refine ⟨R_nck2 (hK := ?_)⟩ | refine ⟨R_nck3 (hK := ?_)⟩ | refine ⟨R_nck4 (hK := ?_)⟩) | (refine g_mi ?_; first | refine ⟨R_ifc (hK := ?_)⟩) | (refine g_cv ?_; first | refine ⟨R_conv (hK := ?_)⟩ | refine ⟨R_convS (hK := ?_)⟩ | refine ⟨R_cvBS (hK := ?_)⟩ | refine ⟨R_cvSB (hK := ?_)⟩) | (refine g_si ?_; first | refine ⟨R_sidx (hK := ?_)⟩) | (refine g_fa ?_; first | refine ⟨R_faddr (hK := ?_)⟩ | refine ⟨R_faddrM (hK := ?_)⟩) | refine Rn.nil ?_ | refine Rn.nilD (hK := ?_))
    | refine W_seq ?_
    | refine W_reg ?_
    | refine W_draw ?_
    | refine N_code ?_
    | refine W_blk ?_
    | refine W_cond_t (ht := ?_)
    | refine W_cond_f (ht := ?_)
    | refine W_skip ?_
    | refine W_exit ?_
    | refine X_hit ?_
    | refine X_code ?_
    | refine N_blk ?_
    | refine X_stop ?_
    | refine X_miss (h := ?_)
    | refine W_label ?_
    | refine W_loop ?_
    | refine W_ret ?_
    | refine N_nil ?_
    | refine N_stop ?_)
  exact hQ.un) (hQ : Q) : P := h ⟨hQ⟩
end Go.VL


namespace Go.VS.YtlmioegjeocaaaaGreatDoor
open Go Go.VL Go.RowKit Go.Proofs
set_option maxRecDepth 100000
def GL (w : World) : Prop := 4 ≤ w.heap.size ∧ Lib.TabIs Tryz.prog w "internal/strconv.uint64pow10" .u64 Lib.pow10Tab
theorem gPow : Tryz.prog.globalNamed "internal/strconv.uint64pow10" = some 3 := by kernel_rfl
theorem GL.keep {w w' : World} {m : Nat → Prop} (h : GL w) (hm : ∀ b, m b → 4 ≤ b) (hb : BelowM m w w') : GL w' := by
  obtain ⟨h0, h1⟩ := h
  refine ⟨Nat.le_trans h0 hb.size, ?_⟩
  unfold Lib.TabIs World.var? at *
  simp only [gPow, Option.bind_some] at h1 ⊢
  rw [hb.block 3 (by omega) (fun h => by have := hm _ h; omega)]
  exact h1
noncomputable def X : Ctx := ⟨Tryz.prog, GL, 4, fun _ h => h.1, fun _ _ _ h hm hb => h.keep hm hb, Checked.mixed Tryz.checked⟩
instance t0 : TInf X 0 (.mk (.tuple (.mk [])) 1 0 (.some (.tuple (.mk [])))) := ⟨by kernel_rfl⟩
instance t1 : TInf X 1 (.mk (.func (.mk []) (.mk []) false) 1 8 (.some .nilFunc)) := ⟨by kernel_rfl⟩
instance t2 : TInf X 2 (.mk (.int .i64) 1 8 (.some (.int .i64 (0)))) := ⟨by kernel_rfl⟩
instance t3 : TInf X 3 (.mk (.int .i64) 1 8 (.some (.int .i64 (0)))) := ⟨by kernel_rfl⟩
instance t4 : TInf X 4 (.mk .bool 1 1 (.some (.bool false))) := ⟨by kernel_rfl⟩
instance t5 : TInf X 5 (.mk (.int .u8) 1 1 (.some (.int .u8 (0)))) := ⟨by kernel_rfl⟩
instance t6 : TInf X 6 (.mk (.int .u8) 1 1 (.some (.int .u8 (0)))) := ⟨by kernel_rfl⟩
instance t7 : TInf X 7 (.mk (.struct (.mk [.mk "x" 2 0 false "" "runtime" 0, .mk "y" 3 1 false "" "runtime" 8, .mk "signed" 4 2 false "" "runtime" 16, .mk "code" 6 3 false "" "runtime" 17])) 4 24 (.some (.agg (.mk [.int .i64 (0), .int .i64 (0), .bool false, .int .u8 (0)])))) := ⟨by kernel_rfl⟩
instance t8 : TInf X 8 (.mk (.struct (.mk [.mk "x" 2 0 false "" "runtime" 0, .mk "y" 3 1 false "" "runtime" 8, .mk "signed" 4 2 false "" "runtime" 16, .mk "code" 6 3 false "" "runtime" 17])) 4 24 (.some (.agg (.mk [.int .i64 (0), .int .i64 (0), .bool false, .int .u8 (0)])))) := ⟨by kernel_rfl⟩
instance t9 : TInf X 9 (.mk .string 1 16 (.some (.string (.mk (.mk []))))) := ⟨by kernel_rfl⟩
instance t10 : TInf X 10 (.mk .string 1 16 (.some (.string (.mk (.mk []))))) := ⟨by kernel_rfl⟩
instance t11 : TInf X 11 (.mk .string 1 16 (.some (.string (.mk (.mk []))))) := ⟨by kernel_rfl⟩
instance t12 : TInf X 12 (.mk (.int .u64) 1 8 (.some (.int .u64 (0)))) := ⟨by kernel_rfl⟩
instance t13 : TInf X 13 (.mk (.struct (.mk [.mk "msg" 9 0 false "" "runtime" 0, .mk "addr" 12 1 false "" "runtime" 16])) 2 24 (.some (.agg (.mk [.string (.mk (.mk [])), .int .u64 (0)])))) := ⟨by kernel_rfl⟩
instance t14 : TInf X 14 (.mk (.struct (.mk [.mk "msg" 9 0 false "" "runtime" 0, .mk "addr" 12 1 false "" "runtime" 16])) 2 24 (.some (.agg (.mk [.string (.mk (.mk [])), .int .u64 (0)])))) := ⟨by kernel_rfl⟩
instance t15 : TInf X 15 (.mk (.pointer 174) 1 8 (.some (.pointer .none))) := ⟨by kernel_rfl⟩
instance t16 : TInf X 16 (.mk (.pointer 177) 1 8 (.some (.pointer .none))) := ⟨by kernel_rfl⟩
instance t17 : TInf X 17 (.mk (.pointer 185) 1 8 (.some (.pointer .none))) := ⟨by kernel_rfl⟩
instance t18 : TInf X 18 (.mk (.struct (.mk [.mk "typ" 17 0 false "" "internal/runtime/maps" 0])) 1 8 (.some (.agg (.mk [.pointer .none])))) := ⟨by kernel_rfl⟩
instance t19 : TInf X 19 (.mk (.struct (.mk [.mk "typ" 17 0 false "" "internal/runtime/maps" 0])) 1 8 (.some (.agg (.mk [.pointer .none])))) := ⟨by kernel_rfl⟩
instance t20 : TInf X 20 (.mk (.interface (.mk [])) 1 16 (.some .nilIface)) := ⟨by kernel_rfl⟩
instance t21 : TInf X 21 (.mk (.int .i32) 1 4 (.some (.int .i32 (0)))) := ⟨by kernel_rfl⟩
instance t22 : TInf X 22 (.mk (.slice 9) 1 24 (.some (.slice .none 0 0))) := ⟨by kernel_rfl⟩
instance t23 : TInf X 23 (.mk (.slice 3) 1 24 (.some (.slice .none 0 0))) := ⟨by kernel_rfl⟩
instance t24 : TInf X 24 (.mk (.struct (.mk [.mk "Keys" 22 0 false "" "" 0, .mk "Counts" 23 1 false "" "" 24])) 2 48 (.some (.agg (.mk [.slice .none 0 0, .slice .none 0 0])))) := ⟨by kernel_rfl⟩
instance t25 : TInf X 25 (.mk (.struct (.mk [.mk "Keys" 22 0 false "" "" 0, .mk "Counts" 23 1 false "" "" 24])) 2 48 (.some (.agg (.mk [.slice .none 0 0, .slice .none 0 0])))) := ⟨by kernel_rfl⟩
instance t26 : TInf X 26 (.mk (.func (.mk []) (.mk [4]) false) 1 8 (.some .nilFunc)) := ⟨by kernel_rfl⟩
instance t27 : TInf X 27 (.mk (.func (.mk [25]) (.mk [4]) false) 1 8 (.some .nilFunc)) := ⟨by kernel_rfl⟩
instance t28 : TInf X 28 (.mk (.int .i64) 1 8 (.some (.int .i64 (0)))) := ⟨by kernel_rfl⟩
instance t29 : TInf X 29 (.mk (.tuple (.mk [25, 28])) 1 0 (.some (.tuple (.mk [.agg (.mk [.slice .none 0 0, .slice .none 0 0]), .int .i64 (0)])))) := ⟨by kernel_rfl⟩
instance t30 : TInf X 30 (.mk (.func (.mk [25, 3]) (.mk [25, 28]) false) 1 8 (.some .nilFunc)) := ⟨by kernel_rfl⟩
instance t31 : TInf X 31 (.mk (.func (.mk [25]) (.mk [25]) false) 1 8 (.some .nilFunc)) := ⟨by kernel_rfl⟩
instance t32 : TInf X 32 (.mk (.func (.mk [25, 25]) (.mk [4]) false) 1 8 (.some .nilFunc)) := ⟨by kernel_rfl⟩
instance t33 : TInf X 33 (.mk (.func (.mk [25]) (.mk [28]) false) 1 8 (.some .nilFunc)) := ⟨by kernel_rfl⟩
instance t34 : TInf X 34 (.mk (.func (.mk [25, 9]) (.mk [3]) false) 1 8 (.some .nilFunc)) := ⟨by kernel_rfl⟩
instance t35 : TInf X 35 (.mk (.func (.mk [25, 3]) (.mk [4]) false) 1 8 (.some .nilFunc)) := ⟨by kernel_rfl⟩
instance t36 : TInf X 36 (.mk (.func (.mk [22, 22]) (.mk [4]) false) 1 8 (.some .nilFunc)) := ⟨by kernel_rfl⟩
instance t37 : TInf X 37 (.mk (.func (.mk [25, 3]) (.mk [22]) false) 1 8 (.some .nilFunc)) := ⟨by kernel_rfl⟩
instance t38 : TInf X 38 (.mk (.func (.mk [25, 9, 3]) (.mk [4]) false) 1 8 (.some .nilFunc)) := ⟨by kernel_rfl⟩
instance t39 : TInf X 39 (.mk (.func (.mk [25, 9, 3]) (.mk [25, 28]) false) 1 8 (.some .nilFunc)) := ⟨by kernel_rfl⟩
instance t40 : TInf X 40 (.mk (.slice 44) 1 24 (.some (.slice .none 0 0))) := ⟨by kernel_rfl⟩
instance t41 : TInf X 41 (.mk (.slice 5) 1 24 (.some (.slice .none 0 0))) := ⟨by kernel_rfl⟩
instance t42 : TInf X 42 (.mk (.func (.mk [40]) (.mk [25]) false) 1 8 (.some .nilFunc)) := ⟨by kernel_rfl⟩
instance t43 : TInf X 43 (.mk (.func (.mk [40]) (.mk [40]) false) 1 8 (.some .nilFunc)) := ⟨by kernel_rfl⟩
instance t44 : TInf X 44 (.mk (.array 2 5) 2 2 (.some (.agg (.mk [.int .u8 (0), .int .u8 (0)])))) := ⟨by kernel_rfl⟩
instance t45 : TInf X 45 (.mk (.func (.mk [5]) (.mk [9]) false) 1 8 (.some .nilFunc)) := ⟨by kernel_rfl⟩
instance t46 : TInf X 46 (.mk (.func (.mk [40, 3, 3]) (.mk [40]) false) 1 8 (.some .nilFunc)) := ⟨by kernel_rfl⟩
instance t47 : TInf X 47 (.mk (.func (.mk [40, 41]) (.mk [4]) false) 1 8 (.some .nilFunc)) := ⟨by kernel_rfl⟩
instance t48 : TInf X 48 (.mk (.func (.mk [25, 25]) (.mk [25, 28]) false) 1 8 (.some .nilFunc)) := ⟨by kernel_rfl⟩
instance t49 : TInf X 49 (.mk (.func (.mk [40, 40, 40]) (.mk [4]) false) 1 8 (.some .nilFunc)) := ⟨by kernel_rfl⟩
instance t50 : TInf X 50 (.mk (.tuple (.mk [25, 3, 28])) 1 0 (.some (.tuple (.mk [.agg (.mk [.slice .none 0 0, .slice .none 0 0]), .int .i64 (0), .int .i64 (0)])))) := ⟨by kernel_rfl⟩
instance t51 : TInf X 51 (.mk (.func (.mk [9]) (.mk [25, 3, 28]) false) 1 8 (.some .nilFunc)) := ⟨by kernel_rfl⟩
instance t52 : TInf X 52 (.mk (.tuple (.mk [9, 28])) 1 0 (.some (.tuple (.mk [.string (.mk (.mk [])), .int .i64 (0)])))) := ⟨by kernel_rfl⟩
instance t53 : TInf X 53 (.mk (.func (.mk [25]) (.mk [9, 28]) false) 1 8 (.some .nilFunc)) := ⟨by kernel_rfl⟩
instance t54 : TInf X 54 (.mk (.func (.mk [9]) (.mk [4]) false) 1 8 (.some .nilFunc)) := ⟨by kernel_rfl⟩
instance t55 : TInf X 55 (.mk (.map 9 3) 1 8 (.some (.map .none))) := ⟨by kernel_rfl⟩
instance t56 : TInf X 56 (.mk (.func (.mk [9, 9]) (.mk [22]) false) 1 8 (.some .nilFunc)) := ⟨by kernel_rfl⟩
instance t57 : TInf X 57 (.mk (.func (.mk [22, 9]) (.mk [9]) false) 1 8 (.some .nilFunc)) := ⟨by kernel_rfl⟩
instance t58 : TInf X 58 (.mk (.func (.mk [22]) (.mk []) false) 1 8 (.some .nilFunc)) := ⟨by kernel_rfl⟩
instance t59 : TInf X 59 (.mk (.func (.mk [22]) (.mk [22]) false) 1 8 (.some .nilFunc)) := ⟨by kernel_rfl⟩
instance t60 : TInf X 60 (.mk (.func (.mk [23]) (.mk [23]) false) 1 8 (.some .nilFunc)) := ⟨by kernel_rfl⟩
instance t61 : TInf X 61 (.mk (.func (.mk [9, 3]) (.mk [9]) false) 1 8 (.some .nilFunc)) := ⟨by kernel_rfl⟩
instance t62 : TInf X 62 (.mk (.func (.mk [25, 9, 3]) (.mk [25]) false) 1 8 (.some .nilFunc)) := ⟨by kernel_rfl⟩
instance t63 : TInf X 63 (.mk (.func (.mk [25, 3]) (.mk [28]) false) 1 8 (.some .nilFunc)) := ⟨by kernel_rfl⟩
instance t64 : TInf X 64 (.mk (.func (.mk [9, 9]) (.mk [4]) false) 1 8 (.some .nilFunc)) := ⟨by kernel_rfl⟩
instance t65 : TInf X 65 (.mk (.tuple (.mk [3, 28])) 1 0 (.some (.tuple (.mk [.int .i64 (0), .int .i64 (0)])))) := ⟨by kernel_rfl⟩
instance t66 : TInf X 66 (.mk (.func (.mk [25]) (.mk [3, 28]) false) 1 8 (.some .nilFunc)) := ⟨by kernel_rfl⟩
instance t67 : TInf X 67 (.mk (.func (.mk [23, 68]) (.mk []) false) 1 8 (.some .nilFunc)) := ⟨by kernel_rfl⟩
instance t68 : TInf X 68 (.mk (.func (.mk [3, 3]) (.mk [3]) false) 1 8 (.some .nilFunc)) := ⟨by kernel_rfl⟩
instance t69 : TInf X 69 (.mk (.slice 4) 1 24 (.some (.slice .none 0 0))) := ⟨by kernel_rfl⟩
instance t70 : TInf X 70 (.mk (.tuple (.mk [3, 4])) 1 0 (.some (.tuple (.mk [.int .i64 (0), .bool false])))) := ⟨by kernel_rfl⟩
instance t71 : TInf X 71 (.mk (.func (.mk [22, 9]) (.mk [3, 4]) false) 1 8 (.some .nilFunc)) := ⟨by kernel_rfl⟩
instance t72 : TInf X 72 (.mk (.func (.mk [25, 9, 3]) (.mk [28]) false) 1 8 (.some .nilFunc)) := ⟨by kernel_rfl⟩
instance t73 : TInf X 73 (.mk (.func (.mk [25, 25]) (.mk [28]) false) 1 8 (.some .nilFunc)) := ⟨by kernel_rfl⟩
instance t74 : TInf X 74 (.mk (.tuple (.mk [9, 9, 4])) 1 0 (.some (.tuple (.mk [.string (.mk (.mk [])), .string (.mk (.mk [])), .bool false])))) := ⟨by kernel_rfl⟩
instance t75 : TInf X 75 (.mk (.func (.mk [9, 9]) (.mk [9, 9, 4]) false) 1 8 (.some .nilFunc)) := ⟨by kernel_rfl⟩
instance t76 : TInf X 76 (.mk (.interface (.mk [("Error", 86)])) 1 16 (.some .nilIface)) := ⟨by kernel_rfl⟩
instance t77 : TInf X 77 (.mk (.interface (.mk [("Error", 86)])) 1 16 (.some .nilIface)) := ⟨by kernel_rfl⟩
instance t78 : TInf X 78 (.mk (.tuple (.mk [3, 77])) 1 0 (.some (.tuple (.mk [.int .i64 (0), .nilIface])))) := ⟨by kernel_rfl⟩
instance t79 : TInf X 79 (.mk (.func (.mk [9]) (.mk [3, 77]) false) 1 8 (.some .nilFunc)) := ⟨by kernel_rfl⟩
instance t80 : TInf X 80 (.mk (.func (.mk [3]) (.mk [9]) false) 1 8 (.some .nilFunc)) := ⟨by kernel_rfl⟩
instance t81 : TInf X 81 (.mk (.tuple (.mk [9, 3, 4])) 1 0 (.some (.tuple (.mk [.string (.mk (.mk [])), .int .i64 (0), .bool false])))) := ⟨by kernel_rfl⟩
instance t82 : TInf X 82 (.mk (.func (.mk [9]) (.mk [9, 3, 4]) false) 1 8 (.some .nilFunc)) := ⟨by kernel_rfl⟩
instance t83 : TInf X 83 (.mk (.pointer 85) 1 8 (.some (.pointer .none))) := ⟨by kernel_rfl⟩
instance t84 : TInf X 84 (.mk (.struct (.mk [.mk "addr" 83 0 false "" "strings" 0, .mk "buf" 41 1 false "" "strings" 8])) 2 32 (.some (.agg (.mk [.pointer .none, .slice .none 0 0])))) := ⟨by kernel_rfl⟩
instance t85 : TInf X 85 (.mk (.struct (.mk [.mk "addr" 83 0 false "" "strings" 0, .mk "buf" 41 1 false "" "strings" 8])) 2 32 (.some (.agg (.mk [.pointer .none, .slice .none 0 0])))) := ⟨by kernel_rfl⟩
instance t86 : TInf X 86 (.mk (.func (.mk []) (.mk [9]) false) 1 8 (.some .nilFunc)) := ⟨by kernel_rfl⟩
instance t87 : TInf X 87 (.mk (.func (.mk [9, 9, 3, 3]) (.mk [22]) false) 1 8 (.some .nilFunc)) := ⟨by kernel_rfl⟩
instance t88 : TInf X 88 (.mk (.func (.mk [3]) (.mk []) false) 1 8 (.some .nilFunc)) := ⟨by kernel_rfl⟩
instance t89 : TInf X 89 (.mk (.func (.mk [22, 3, 3, 3]) (.mk []) false) 1 8 (.some .nilFunc)) := ⟨by kernel_rfl⟩
instance t90 : TInf X 90 (.mk (.func (.mk [91]) (.mk [3]) false) 1 8 (.some .nilFunc)) := ⟨by kernel_rfl⟩
instance t91 : TInf X 91 (.mk (.int .u64) 1 8 (.some (.int .u64 (0)))) := ⟨by kernel_rfl⟩
instance t92 : TInf X 92 (.mk (.func (.mk [23, 93]) (.mk [4]) false) 1 8 (.some .nilFunc)) := ⟨by kernel_rfl⟩
instance t93 : TInf X 93 (.mk (.func (.mk [3]) (.mk [4]) false) 1 8 (.some .nilFunc)) := ⟨by kernel_rfl⟩
instance t94 : TInf X 94 (.mk (.func (.mk [9]) (.mk [28]) false) 1 8 (.some .nilFunc)) := ⟨by kernel_rfl⟩
instance t95 : TInf X 95 (.mk (.func (.mk [23, 3, 68]) (.mk []) false) 1 8 (.some .nilFunc)) := ⟨by kernel_rfl⟩
instance t96 : TInf X 96 (.mk (.func (.mk [22, 3, 22]) (.mk [22]) true) 1 8 (.some .nilFunc)) := ⟨by kernel_rfl⟩
instance t97 : TInf X 97 (.mk (.func (.mk [23, 3, 23]) (.mk [23]) true) 1 8 (.some .nilFunc)) := ⟨by kernel_rfl⟩
instance t98 : TInf X 98 (.mk (.func (.mk [22, 3, 3]) (.mk [22]) false) 1 8 (.some .nilFunc)) := ⟨by kernel_rfl⟩
instance t99 : TInf X 99 (.mk (.func (.mk [23, 3, 3]) (.mk [23]) false) 1 8 (.some .nilFunc)) := ⟨by kernel_rfl⟩
instance t100 : TInf X 100 (.mk (.func (.mk [9, 9, 3, 3, 77]) (.mk [77]) false) 1 8 (.some .nilFunc)) := ⟨by kernel_rfl⟩
instance t101 : TInf X 101 (.mk (.pointer 5) 1 8 (.some (.pointer .none))) := ⟨by kernel_rfl⟩
instance t102 : TInf X 102 (.mk (.func (.mk [9, 3]) (.mk [22]) false) 1 8 (.some .nilFunc)) := ⟨by kernel_rfl⟩
instance t103 : TInf X 103 (.mk (.func (.mk [9, 9]) (.mk [3]) false) 1 8 (.some .nilFunc)) := ⟨by kernel_rfl⟩
instance t104 : TInf X 104 (.mk (.func (.mk [22, 3, 3]) (.mk []) false) 1 8 (.some .nilFunc)) := ⟨by kernel_rfl⟩
instance t105 : TInf X 105 (.mk (.int .i64) 1 8 (.some (.int .i64 (0)))) := ⟨by kernel_rfl⟩
instance t106 : TInf X 106 (.mk (.tuple (.mk [3, 105])) 1 0 (.some (.tuple (.mk [.int .i64 (0), .int .i64 (0)])))) := ⟨by kernel_rfl⟩
instance t107 : TInf X 107 (.mk (.func (.mk [22, 3, 3]) (.mk [3, 105]) false) 1 8 (.some .nilFunc)) := ⟨by kernel_rfl⟩
instance t108 : TInf X 108 (.mk (.func (.mk [22, 3, 3]) (.mk [4]) false) 1 8 (.some .nilFunc)) := ⟨by kernel_rfl⟩
instance t109 : TInf X 109 (.mk (.func (.mk [22, 3, 3, 3]) (.mk [3]) false) 1 8 (.some .nilFunc)) := ⟨by kernel_rfl⟩
instance t110 : TInf X 110 (.mk (.func (.mk [22, 3, 3, 3]) (.mk [3, 4]) false) 1 8 (.some .nilFunc)) := ⟨by kernel_rfl⟩
instance t111 : TInf X 111 (.mk (.func (.mk [112]) (.mk [3]) false) 1 8 (.some .nilFunc)) := ⟨by kernel_rfl⟩
instance t112 : TInf X 112 (.mk (.int .u32) 1 4 (.some (.int .u32 (0)))) := ⟨by kernel_rfl⟩
instance t113 : TInf X 113 (.mk (.func (.mk [114]) (.mk [3]) false) 1 8 (.some .nilFunc)) := ⟨by kernel_rfl⟩
instance t114 : TInf X 114 (.mk (.int .u64) 1 8 (.some (.int .u64 (0)))) := ⟨by kernel_rfl⟩
instance t115 : TInf X 115 (.mk (.func (.mk [23, 93]) (.mk [3]) false) 1 8 (.some .nilFunc)) := ⟨by kernel_rfl⟩
instance t116 : TInf X 116 (.mk (.func (.mk [22, 9]) (.mk [4]) false) 1 8 (.some .nilFunc)) := ⟨by kernel_rfl⟩
instance t117 : TInf X 117 (.mk (.func (.mk [23, 3, 3, 68]) (.mk []) false) 1 8 (.some .nilFunc)) := ⟨by kernel_rfl⟩
instance t118 : TInf X 118 (.mk (.func (.mk [23, 3, 3, 3, 68]) (.mk []) false) 1 8 (.some .nilFunc)) := ⟨by kernel_rfl⟩
instance t119 : TInf X 119 (.mk (.func (.mk [22, 3]) (.mk []) false) 1 8 (.some .nilFunc)) := ⟨by kernel_rfl⟩
instance t120 : TInf X 120 (.mk (.func (.mk [23, 23]) (.mk [4]) false) 1 8 (.some .nilFunc)) := ⟨by kernel_rfl⟩
instance t121 : TInf X 121 (.mk (.func (.mk [23, 3]) (.mk []) false) 1 8 (.some .nilFunc)) := ⟨by kernel_rfl⟩
instance t122 : TInf X 122 (.mk (.int .i64) 1 8 (.some (.int .i64 (0)))) := ⟨by kernel_rfl⟩
instance t123 : TInf X 123 (.mk (.tuple (.mk [2, 77])) 1 0 (.some (.tuple (.mk [.int .i64 (0), .nilIface])))) := ⟨by kernel_rfl⟩
instance t124 : TInf X 124 (.mk (.func (.mk [9, 3, 3]) (.mk [2, 77]) false) 1 8 (.some .nilFunc)) := ⟨by kernel_rfl⟩
instance t125 : TInf X 125 (.mk (.pointer 148) 1 8 (.some (.pointer .none))) := ⟨by kernel_rfl⟩
instance t126 : TInf X 126 (.mk (.func (.mk [9, 9]) (.mk [125]) false) 1 8 (.some .nilFunc)) := ⟨by kernel_rfl⟩
instance t127 : TInf X 127 (.mk (.func (.mk [9, 9, 3]) (.mk [125]) false) 1 8 (.some .nilFunc)) := ⟨by kernel_rfl⟩
instance t128 : TInf X 128 (.mk (.func (.mk [2, 3]) (.mk [9]) false) 1 8 (.some .nilFunc)) := ⟨by kernel_rfl⟩
instance t129 : TInf X 129 (.mk .unsafePointer 1 8 (.some (.pointer .none))) := ⟨by kernel_rfl⟩
instance t130 : TInf X 130 (.mk (.func (.mk [129]) (.mk [129]) false) 1 8 (.some .nilFunc)) := ⟨by kernel_rfl⟩
instance t131 : TInf X 131 (.mk (.func (.mk [9]) (.mk [3]) false) 1 8 (.some .nilFunc)) := ⟨by kernel_rfl⟩
instance t132 : TInf X 132 (.mk (.tuple (.mk [21, 3])) 1 0 (.some (.tuple (.mk [.int .i32 (0), .int .i64 (0)])))) := ⟨by kernel_rfl⟩
instance t133 : TInf X 133 (.mk (.func (.mk [9]) (.mk [21, 3]) false) 1 8 (.some .nilFunc)) := ⟨by kernel_rfl⟩
instance t134 : TInf X 134 (.mk (.func (.mk [9, 5]) (.mk [3]) false) 1 8 (.some .nilFunc)) := ⟨by kernel_rfl⟩
instance t135 : TInf X 135 (.mk (.func (.mk [3]) (.mk [41]) false) 1 8 (.some .nilFunc)) := ⟨by kernel_rfl⟩
instance t136 : TInf X 136 (.mk (.int .u64) 1 8 (.some (.int .u64 (0)))) := ⟨by kernel_rfl⟩
instance t137 : TInf X 137 (.mk (.func (.mk [3]) (.mk [91]) false) 1 8 (.some .nilFunc)) := ⟨by kernel_rfl⟩
instance t138 : TInf X 138 (.mk (.func (.mk []) (.mk [114]) false) 1 8 (.some .nilFunc)) := ⟨by kernel_rfl⟩
instance t139 : TInf X 139 (.mk (.func (.mk [22, 3, 140]) (.mk [3]) false) 1 8 (.some .nilFunc)) := ⟨by kernel_rfl⟩
instance t140 : TInf X 140 (.mk (.pointer 3) 1 8 (.some (.pointer .none))) := ⟨by kernel_rfl⟩
instance t141 : TInf X 141 (.mk (.func (.mk [22, 3, 3, 3, 140]) (.mk [3]) false) 1 8 (.some .nilFunc)) := ⟨by kernel_rfl⟩
instance t142 : TInf X 142 (.mk (.func (.mk [22, 9]) (.mk [3]) false) 1 8 (.some .nilFunc)) := ⟨by kernel_rfl⟩
instance t143 : TInf X 143 (.mk (.func (.mk [3]) (.mk [3]) false) 1 8 (.some .nilFunc)) := ⟨by kernel_rfl⟩
instance t144 : TInf X 144 (.mk (.tuple (.mk [114, 77])) 1 0 (.some (.tuple (.mk [.int .u64 (0), .nilIface])))) := ⟨by kernel_rfl⟩
instance t145 : TInf X 145 (.mk (.func (.mk [9, 3, 3]) (.mk [114, 77]) false) 1 8 (.some .nilFunc)) := ⟨by kernel_rfl⟩
instance t146 : TInf X 146 (.mk (.func (.mk [9]) (.mk [9]) false) 1 8 (.some .nilFunc)) := ⟨by kernel_rfl⟩
instance t147 : TInf X 147 (.mk (.struct (.mk [.mk "Func" 9 0 false "" "" 0, .mk "Num" 9 1 false "" "" 16, .mk "Err" 77 2 false "" "" 32])) 3 48 (.some (.agg (.mk [.string (.mk (.mk [])), .string (.mk (.mk [])), .nilIface])))) := ⟨by kernel_rfl⟩
instance t148 : TInf X 148 (.mk (.struct (.mk [.mk "Func" 9 0 false "" "" 0, .mk "Num" 9 1 false "" "" 16, .mk "Err" 77 2 false "" "" 32])) 3 48 (.some (.agg (.mk [.string (.mk (.mk [])), .string (.mk (.mk [])), .nilIface])))) := ⟨by kernel_rfl⟩
instance t149 : TInf X 149 (.mk (.func (.mk [9]) (.mk [77]) false) 1 8 (.some .nilFunc)) := ⟨by kernel_rfl⟩
instance t150 : TInf X 150 (.mk (.array 24 5) 24 24 (.some (.agg (.mk [.int .u8 (0), .int .u8 (0), .int .u8 (0), .int .u8 (0), .int .u8 (0), .int .u8 (0), .int .u8 (0), .int .u8 (0), .int .u8 (0), .int .u8 (0), .int .u8 (0), .int .u8 (0), .int .u8 (0), .int .u8 (0), .int .u8 (0), .int .u8 (0), .int .u8 (0), .int .u8 (0), .int .u8 (0), .int .u8 (0), .int .u8 (0), .int .u8 (0), .int .u8 (0), .int .u8 (0)])))) := ⟨by kernel_rfl⟩
instance t151 : TInf X 151 (.mk (.func (.mk [41, 114]) (.mk []) false) 1 8 (.some .nilFunc)) := ⟨by kernel_rfl⟩
instance t152 : TInf X 152 (.mk (.tuple (.mk [41, 9])) 1 0 (.some (.tuple (.mk [.slice .none 0 0, .string (.mk (.mk []))])))) := ⟨by kernel_rfl⟩
instance t153 : TInf X 153 (.mk (.func (.mk [41, 114, 3, 4, 4]) (.mk [41, 9]) false) 1 8 (.some .nilFunc)) := ⟨by kernel_rfl⟩
instance t154 : TInf X 154 (.mk (.pointer 136) 1 8 (.some (.pointer .none))) := ⟨by kernel_rfl⟩
instance t155 : TInf X 155 (.mk (.tuple (.mk [3, 3])) 1 0 (.some (.tuple (.mk [.int .i64 (0), .int .i64 (0)])))) := ⟨by kernel_rfl⟩
instance t156 : TInf X 156 (.mk (.func (.mk [22, 3, 3, 140]) (.mk [3, 3]) false) 1 8 (.some .nilFunc)) := ⟨by kernel_rfl⟩
instance t157 : TInf X 157 (.mk (.func (.mk [23]) (.mk []) false) 1 8 (.some .nilFunc)) := ⟨by kernel_rfl⟩
instance t158 : TInf X 158 (.mk (.tuple (.mk [112, 112])) 1 0 (.some (.tuple (.mk [.int .u32 (0), .int .u32 (0)])))) := ⟨by kernel_rfl⟩
instance t159 : TInf X 159 (.mk (.func (.mk [9]) (.mk [112, 112]) false) 1 8 (.some .nilFunc)) := ⟨by kernel_rfl⟩
instance t160 : TInf X 160 (.mk (.func (.mk [5]) (.mk [5]) false) 1 8 (.some .nilFunc)) := ⟨by kernel_rfl⟩
instance t161 : TInf X 161 (.mk (.pointer 163) 1 8 (.some (.pointer .none))) := ⟨by kernel_rfl⟩
instance t162 : TInf X 162 (.mk (.struct (.mk [.mk "s" 9 0 false "" "errors" 0])) 1 16 (.some (.agg (.mk [.string (.mk (.mk []))])))) := ⟨by kernel_rfl⟩
instance t163 : TInf X 163 (.mk (.struct (.mk [.mk "s" 9 0 false "" "errors" 0])) 1 16 (.some (.agg (.mk [.string (.mk (.mk []))])))) := ⟨by kernel_rfl⟩
instance t164 : TInf X 164 (.mk (.func (.mk [4]) (.mk [3]) false) 1 8 (.some .nilFunc)) := ⟨by kernel_rfl⟩
instance t165 : TInf X 165 (.mk (.array 20 114) 20 160 (.some (.agg (.mk [.int .u64 (0), .int .u64 (0), .int .u64 (0), .int .u64 (0), .int .u64 (0), .int .u64 (0), .int .u64 (0), .int .u64 (0), .int .u64 (0), .int .u64 (0), .int .u64 (0), .int .u64 (0), .int .u64 (0), .int .u64 (0), .int .u64 (0), .int .u64 (0), .int .u64 (0), .int .u64 (0), .int .u64 (0), .int .u64 (0)])))) := ⟨by kernel_rfl⟩
instance t166 : TInf X 166 (.mk (.array 65 5) 65 65 (.some (.agg (.mk [.int .u8 (0), .int .u8 (0), .int .u8 (0), .int .u8 (0), .int .u8 (0), .int .u8 (0), .int .u8 (0), .int .u8 (0), .int .u8 (0), .int .u8 (0), .int .u8 (0), .int .u8 (0), .int .u8 (0), .int .u8 (0), .int .u8 (0), .int .u8 (0), .int .u8 (0), .int .u8 (0), .int .u8 (0), .int .u8 (0), .int .u8 (0), .int .u8 (0), .int .u8 (0), .int .u8 (0), .int .u8 (0), .int .u8 (0), .int .u8 (0), .int .u8 (0), .int .u8 (0), .int .u8 (0), .int .u8 (0), .int .u8 (0), .int .u8 (0), .int .u8 (0), .int .u8 (0), .int .u8 (0), .int .u8 (0), .int .u8 (0), .int .u8 (0), .int .u8 (0), .int .u8 (0), .int .u8 (0), .int .u8 (0), .int .u8 (0), .int .u8 (0), .int .u8 (0), .int .u8 (0), .int .u8 (0), .int .u8 (0), .int .u8 (0), .int .u8 (0), .int .u8 (0), .int .u8 (0), .int .u8 (0), .int .u8 (0), .int .u8 (0), .int .u8 (0), .int .u8 (0), .int .u8 (0), .int .u8 (0), .int .u8 (0), .int .u8 (0), .int .u8 (0), .int .u8 (0), .int .u8 (0)])))) := ⟨by kernel_rfl⟩
instance t167 : TInf X 167 (.mk (.array 256 5) 256 256 (.some (.agg (.mk [.int .u8 (0), .int .u8 (0), .int .u8 (0), .int .u8 (0), .int .u8 (0), .int .u8 (0), .int .u8 (0), .int .u8 (0), .int .u8 (0), .int .u8 (0), .int .u8 (0), .int .u8 (0), .int .u8 (0), .int .u8 (0), .int .u8 (0), .int .u8 (0), .int .u8 (0), .int .u8 (0), .int .u8 (0), .int .u8 (0), .int .u8 (0), .int .u8 (0), .int .u8 (0), .int .u8 (0), .int .u8 (0), .int .u8 (0), .int .u8 (0), .int .u8 (0), .int .u8 (0), .int .u8 (0), .int .u8 (0), .int .u8 (0), .int .u8 (0), .int .u8 (0), .int .u8 (0), .int .u8 (0), .int .u8 (0), .int .u8 (0), .int .u8 (0), .int .u8 (0), .int .u8 (0), .int .u8 (0), .int .u8 (0), .int .u8 (0), .int .u8 (0), .int .u8 (0), .int .u8 (0), .int .u8 (0), .int .u8 (0), .int .u8 (0), .int .u8 (0), .int .u8 (0), .int .u8 (0), .int .u8 (0), .int .u8 (0), .int .u8 (0), .int .u8 (0), .int .u8 (0), .int .u8 (0), .int .u8 (0), .int .u8 (0), .int .u8 (0), .int .u8 (0), .int .u8 (0), .int .u8 (0), .int .u8 (0), .int .u8 (0), .int .u8 (0), .int .u8 (0), .int .u8 (0), .int .u8 (0), .int .u8 (0), .int .u8 (0), .int .u8 (0), .int .u8 (0), .int .u8 (0), .int .u8 (0), .int .u8 (0), .int .u8 (0), .int .u8 (0), .int .u8 (0), .int .u8 (0), .int .u8 (0), .int .u8 (0), .int .u8 (0), .int .u8 (0), .int .u8 (0), .int .u8 (0), .int .u8 (0), .int .u8 (0), .int .u8 (0), .int .u8 (0), .int .u8 (0), .int .u8 (0), .int .u8 (0), .int .u8 (0), .int .u8 (0), .int .u8 (0), .int .u8 (0), .int .u8 (0), .int .u8 (0), .int .u8 (0), .int .u8 (0), .int .u8 (0), .int .u8 (0), .int .u8 (0), .int .u8 (0), .int .u8 (0), .int .u8 (0), .int .u8 (0), .int .u8 (0), .int .u8 (0), .int .u8 (0), .int .u8 (0), .int .u8 (0), .int .u8 (0), .int .u8 (0), .int .u8 (0), .int .u8 (0), .int .u8 (0), .int .u8 (0), .int .u8 (0), .int .u8 (0), .int .u8 (0), .int .u8 (0), .int .u8 (0), .int .u8 (0), .int .u8 (0), .int .u8 (0), .int .u8 (0), .int .u8 (0), .int .u8 (0), .int .u8 (0), .int .u8 (0), .int .u8 (0), .int .u8 (0), .int .u8 (0), .int .u8 (0), .int .u8 (0), .int .u8 (0), .int .u8 (0), .int .u8 (0), .int .u8 (0), .int .u8 (0), .int .u8 (0), .int .u8 (0), .int .u8 (0), .int .u8 (0), .int .u8 (0), .int .u8 (0), .int .u8 (0), .int .u8 (0), .int .u8 (0), .int .u8 (0), .int .u8 (0), .int .u8 (0), .int .u8 (0), .int .u8 (0), .int .u8 (0), .int .u8 (0), .int .u8 (0), .int .u8 (0), .int .u8 (0), .int .u8 (0), .int .u8 (0), .int .u8 (0), .int .u8 (0), .int .u8 (0), .int .u8 (0), .int .u8 (0), .int .u8 (0), .int .u8 (0), .int .u8 (0), .int .u8 (0), .int .u8 (0), .int .u8 (0), .int .u8 (0), .int .u8 (0), .int .u8 (0), .int .u8 (0), .int .u8 (0), .int .u8 (0), .int .u8 (0), .int .u8 (0), .int .u8 (0), .int .u8 (0), .int .u8 (0), .int .u8 (0), .int .u8 (0), .int .u8 (0), .int .u8 (0), .int .u8 (0), .int .u8 (0), .int .u8 (0), .int .u8 (0), .int .u8 (0), .int .u8 (0), .int .u8 (0), .int .u8 (0), .int .u8 (0), .int .u8 (0), .int .u8 (0), .int .u8 (0), .int .u8 (0), .int .u8 (0), .int .u8 (0), .int .u8 (0), .int .u8 (0), .int .u8 (0), .int .u8 (0), .int .u8 (0), .int .u8 (0), .int .u8 (0), .int .u8 (0), .int .u8 (0), .int .u8 (0), .int .u8 (0), .int .u8 (0), .int .u8 (0), .int .u8 (0), .int .u8 (0), .int .u8 (0), .int .u8 (0), .int .u8 (0), .int .u8 (0), .int .u8 (0), .int .u8 (0), .int .u8 (0), .int .u8 (0), .int .u8 (0), .int .u8 (0), .int .u8 (0), .int .u8 (0), .int .u8 (0), .int .u8 (0), .int .u8 (0), .int .u8 (0), .int .u8 (0), .int .u8 (0), .int .u8 (0), .int .u8 (0), .int .u8 (0), .int .u8 (0), .int .u8 (0), .int .u8 (0), .int .u8 (0), .int .u8 (0), .int .u8 (0), .int .u8 (0), .int .u8 (0), .int .u8 (0), .int .u8 (0), .int .u8 (0), .int .u8 (0), .int .u8 (0), .int .u8 (0)])))) := ⟨by kernel_rfl⟩
instance t168 : TInf X 168 (.mk (.struct (.mk [.mk "lo" 5 0 false "" "unicode/utf8" 0, .mk "hi" 5 1 false "" "unicode/utf8" 1])) 2 2 (.some (.agg (.mk [.int .u8 (0), .int .u8 (0)])))) := ⟨by kernel_rfl⟩
instance t169 : TInf X 169 (.mk (.struct (.mk [.mk "lo" 5 0 false "" "unicode/utf8" 0, .mk "hi" 5 1 false "" "unicode/utf8" 1])) 2 2 (.some (.agg (.mk [.int .u8 (0), .int .u8 (0)])))) := ⟨by kernel_rfl⟩
instance t170 : TInf X 170 (.mk (.array 16 169) 32 32 (.some (.agg (.mk [.int .u8 (0), .int .u8 (0), .int .u8 (0), .int .u8 (0), .int .u8 (0), .int .u8 (0), .int .u8 (0), .int .u8 (0), .int .u8 (0), .int .u8 (0), .int .u8 (0), .int .u8 (0), .int .u8 (0), .int .u8 (0), .int .u8 (0), .int .u8 (0), .int .u8 (0), .int .u8 (0), .int .u8 (0), .int .u8 (0), .int .u8 (0), .int .u8 (0), .int .u8 (0), .int .u8 (0), .int .u8 (0), .int .u8 (0), .int .u8 (0), .int .u8 (0), .int .u8 (0), .int .u8 (0), .int .u8 (0), .int .u8 (0)])))) := ⟨by kernel_rfl⟩
instance t171 : TInf X 171 (.mk (.array 32 5) 32 32 (.some (.agg (.mk [.int .u8 (0), .int .u8 (0), .int .u8 (0), .int .u8 (0), .int .u8 (0), .int .u8 (0), .int .u8 (0), .int .u8 (0), .int .u8 (0), .int .u8 (0), .int .u8 (0), .int .u8 (0), .int .u8 (0), .int .u8 (0), .int .u8 (0), .int .u8 (0), .int .u8 (0), .int .u8 (0), .int .u8 (0), .int .u8 (0), .int .u8 (0), .int .u8 (0), .int .u8 (0), .int .u8 (0), .int .u8 (0), .int .u8 (0), .int .u8 (0), .int .u8 (0), .int .u8 (0), .int .u8 (0), .int .u8 (0), .int .u8 (0)])))) := ⟨by kernel_rfl⟩
instance t172 : TInf X 172 (.mk (.array 64 5) 64 64 (.some (.agg (.mk [.int .u8 (0), .int .u8 (0), .int .u8 (0), .int .u8 (0), .int .u8 (0), .int .u8 (0), .int .u8 (0), .int .u8 (0), .int .u8 (0), .int .u8 (0), .int .u8 (0), .int .u8 (0), .int .u8 (0), .int .u8 (0), .int .u8 (0), .int .u8 (0), .int .u8 (0), .int .u8 (0), .int .u8 (0), .int .u8 (0), .int .u8 (0), .int .u8 (0), .int .u8 (0), .int .u8 (0), .int .u8 (0), .int .u8 (0), .int .u8 (0), .int .u8 (0), .int .u8 (0), .int .u8 (0), .int .u8 (0), .int .u8 (0), .int .u8 (0), .int .u8 (0), .int .u8 (0), .int .u8 (0), .int .u8 (0), .int .u8 (0), .int .u8 (0), .int .u8 (0), .int .u8 (0), .int .u8 (0), .int .u8 (0), .int .u8 (0), .int .u8 (0), .int .u8 (0), .int .u8 (0), .int .u8 (0), .int .u8 (0), .int .u8 (0), .int .u8 (0), .int .u8 (0), .int .u8 (0), .int .u8 (0), .int .u8 (0), .int .u8 (0), .int .u8 (0), .int .u8 (0), .int .u8 (0), .int .u8 (0), .int .u8 (0), .int .u8 (0), .int .u8 (0), .int .u8 (0)])))) := ⟨by kernel_rfl⟩
instance t173 : TInf X 173 (.mk (.struct (.mk [.mk "_interface" 17 0 false "" "runtime" 0, .mk "concrete" 17 1 false "" "runtime" 8, .mk "asserted" 17 2 false "" "runtime" 16, .mk "missingMethod" 9 3 false "" "runtime" 24])) 4 40 (.some (.agg (.mk [.pointer .none, .pointer .none, .pointer .none, .string (.mk (.mk []))])))) := ⟨by kernel_rfl⟩
instance t174 : TInf X 174 (.mk (.struct (.mk [.mk "_interface" 17 0 false "" "runtime" 0, .mk "concrete" 17 1 false "" "runtime" 8, .mk "asserted" 17 2 false "" "runtime" 16, .mk "missingMethod" 9 3 false "" "runtime" 24])) 4 40 (.some (.agg (.mk [.pointer .none, .pointer .none, .pointer .none, .string (.mk (.mk []))])))) := ⟨by kernel_rfl⟩
instance t175 : TInf X 175 (.mk (.array 0 16) 0 0 (.some (.agg (.mk [])))) := ⟨by kernel_rfl⟩
instance t176 : TInf X 176 (.mk (.struct (.mk [.mk "_" 175 0 false "" "runtime" 0])) 0 0 (.some (.agg (.mk [])))) := ⟨by kernel_rfl⟩
instance t177 : TInf X 177 (.mk (.struct (.mk [.mk "_" 175 0 false "" "runtime" 0])) 0 0 (.some (.agg (.mk [])))) := ⟨by kernel_rfl⟩
instance t178 : TInf X 178 (.mk (.func (.mk []) (.mk [3]) false) 1 8 (.some .nilFunc)) := ⟨by kernel_rfl⟩
instance t179 : TInf X 179 (.mk (.int .u8) 1 1 (.some (.int .u8 (0)))) := ⟨by kernel_rfl⟩
instance t180 : TInf X 180 (.mk (.int .u8) 1 1 (.some (.int .u8 (0)))) := ⟨by kernel_rfl⟩
instance t181 : TInf X 181 (.mk (.func (.mk [129, 129]) (.mk [4]) false) 1 8 (.some .nilFunc)) := ⟨by kernel_rfl⟩
instance t182 : TInf X 182 (.mk (.int .i32) 1 4 (.some (.int .i32 (0)))) := ⟨by kernel_rfl⟩
instance t183 : TInf X 183 (.mk (.int .i32) 1 4 (.some (.int .i32 (0)))) := ⟨by kernel_rfl⟩
instance t184 : TInf X 184 (.mk (.struct (.mk [.mk "Size_" 12 0 false "" "" 0, .mk "PtrBytes" 12 1 false "" "" 8, .mk "Hash" 112 2 false "" "" 16, .mk "TFlag" 179 3 false "" "" 20, .mk "Align_" 5 4 false "" "" 21, .mk "FieldAlign_" 5 5 false "" "" 22, .mk "Kind_" 180 6 false "" "" 23, .mk "Equal" 181 7 false "" "" 24, .mk "GCData" 101 8 false "" "" 32, .mk "Str" 182 9 false "" "" 40, .mk "PtrToThis" 183 10 false "" "" 44])) 11 48 (.some (.agg (.mk [.int .u64 (0), .int .u64 (0), .int .u32 (0), .int .u8 (0), .int .u8 (0), .int .u8 (0), .int .u8 (0), .nilFunc, .pointer .none, .int .i32 (0), .int .i32 (0)])))) := ⟨by kernel_rfl⟩
instance t185 : TInf X 185 (.mk (.struct (.mk [.mk "Size_" 12 0 false "" "" 0, .mk "PtrBytes" 12 1 false "" "" 8, .mk "Hash" 112 2 false "" "" 16, .mk "TFlag" 179 3 false "" "" 20, .mk "Align_" 5 4 false "" "" 21, .mk "FieldAlign_" 5 5 false "" "" 22, .mk "Kind_" 180 6 false "" "" 23, .mk "Equal" 181 7 false "" "" 24, .mk "GCData" 101 8 false "" "" 32, .mk "Str" 182 9 false "" "" 40, .mk "PtrToThis" 183 10 false "" "" 44])) 11 48 (.some (.agg (.mk [.int .u64 (0), .int .u64 (0), .int .u32 (0), .int .u8 (0), .int .u8 (0), .int .u8 (0), .int .u8 (0), .nilFunc, .pointer .none, .int .i32 (0), .int .i32 (0)])))) := ⟨by kernel_rfl⟩
end Go.VS.YtlmioegjeocaaaaGreatDoor


namespace Go.VL
open Go.RowKit
set_option linter.unusedVariables false
section
variable {X : Ctx} {f : FuncId}
theorem spc_calls {args : List PA} {res : PA} (ent : Ent X.P f) (h : ∀ (ok : Nat → Prop) (w : World) (vals : Array Value), X.G w → (∀ b, ok b → b < w.heap.size) → vals.size = args.length → (∀ (j : Nat) pa, args[j]? = some pa → ∃ u, vals[j]? = some u ∧ RepV w ok β0 pa.av u) → Calls X.P f vals w fun e w' => ∃ u, e = .returned u ∧ RepV w' (fun _ => False) β0 res.av u ∧ Below w.heap.size w w') : Spc X f args res where
  ent := ent
  calls := fun ok w vals hG hlt hs hv => (h ok w vals hG hlt hs hv).mono fun e w' ⟨u, he, hr, hb⟩ => ⟨u, he, by
    have k : Keeps (fun _ => False) w' (fun _ => False) β0 w' (fun b => b < w'.heap.size ∧ (b < w.heap.size → ok b)) β0 := ⟨fun b hb => hb.elim, fun _ h => h.elim⟩
    exact k.repV (fun id hid => by rw [PA.av_refs] at hid; cases hid) hr, hb⟩
theorem vals1 {vals : Array Value} {a : Value} (hs : vals.size = 1) (h0 : vals[0]? = some a) : vals = #[a] := by
  apply Array.ext
  · rw [hs]; rfl
  · intro i h1 h3
    simp at h3
    subst h3
    exact (Array.getElem?_eq_some_iff.1 h0).2
theorem vals2 {vals : Array Value} {a b : Value} (hs : vals.size = 2) (h0 : vals[0]? = some a) (h1 : vals[1]? = some b) : vals = #[a, b] := by
  apply Array.ext
  · rw [hs]; rfl
  · intro i h2 h3
    match i, h3 with
    | 0, _ => exact (Array.getElem?_eq_some_iff.1 h0).2
    | 1, _ => exact (Array.getElem?_eq_some_iff.1 h1).2
/-- Of a whole number. -/
theorem spc_int {z : Int} {res : PA} (ent : Ent X.P f) (h : ∀ w, X.G w → -9223372036854775808 ≤ z → z ≤ 9223372036854775807 → Calls X.P f #[.int .i64 z] w fun e w' => ∃ u, e = .returned u ∧ RepV w' (fun _ => False) β0 res.av u ∧ Below w.heap.size w w') : Spc X f [.one (.int .i64 z)] res :=
  spc_calls ent fun ok w vals hG hlt hs hv => by
    obtain ⟨u, hu, hr⟩ := hv 0 _ rfl
    obtain ⟨rfl, hz⟩ := one_int hr
    rw [range_i64] at hz
    rw [vals1 hs hu]
    exact h w hG hz.1 hz.2
/-- Of a string. -/
theorem spc_str {s : List UInt8} {res : PA} (ent : Ent X.P f) (h : ∀ w, X.G w → s.length ≤ 9223372036854775807 → Calls X.P f #[.string ⟨s.toArray⟩] w fun e w' => ∃ u, e = .returned u ∧ RepV w' (fun _ => False) β0 res.av u ∧ Below w.heap.size w w') : Spc X f [.one (.str s)] res :=
  spc_calls ent fun ok w vals hG hlt hs hv => by
    obtain ⟨u, hu, hr⟩ := hv 0 _ rfl
    obtain ⟨rfl, hz⟩ := one_str hr
    rw [vals1 hs hu]
    exact h w hG hz
/-- Of two strings. -/
theorem spc_str2 {s t : List UInt8} {res : PA} (ent : Ent X.P f) (h : ∀ w, X.G w → s.length ≤ 9223372036854775807 → t.length ≤ 9223372036854775807 → Calls X.P f #[.string ⟨s.toArray⟩, .string ⟨t.toArray⟩] w fun e w' => ∃ u, e = .returned u ∧ RepV w' (fun _ => False) β0 res.av u ∧ Below w.heap.size w w') : Spc X f [.one (.str s), .one (.str t)] res :=
  spc_calls ent fun ok w vals hG hlt hs hv => by
    obtain ⟨u, hu, hr⟩ := hv 0 _ rfl
    obtain ⟨v, hv, hq⟩ := hv 1 _ rfl
    obtain ⟨rfl, hz⟩ := one_str hr
    obtain ⟨rfl, hy⟩ := one_str hq
    rw [vals2 hs hu hv]
    exact h w hG hz hy
theorem trimS_len (s c : List UInt8) : (Lib.trimS s c).length ≤ s.length := by
  have h1 : ∀ (p : UInt8 → Bool) (l : List UInt8), (l.dropWhile p).length ≤ l.length := fun p l => (List.dropWhile_sublist p).length_le
  unfold Lib.trimS Lib.trimLeftS Lib.trimRightS
  refine Nat.le_trans (h1 _ _) ?_
  rw [List.length_reverse]
  exact Nat.le_trans (h1 _ _) (by rw [List.length_reverse]; exact Nat.le_refl _)
end
end Go.VL

