/- Contracts over whole values, and what they lean on: part l. Each holds under the conditions that it states. -/
import Derived.Test.YtlmioegjeocaaaaGreatDoorZk
import Derived.Shelf.Spec.SlicesInsert
import Derived.Shelf.Spec.SlicesInsertGrow
import Derived.Lib.Join
set_option linter.unusedVariables false
set_option linter.unusedSimpArgs false

namespace Go.VL
open Go.RowKit
set_option linter.unusedVariables false
def setL (arr : Array Value) : Nat → List Value → Array Value
  | _, [] => arr
  | o, v :: vs => setL (arr.setIfInBounds o v) (o + 1) vs
theorem setL_size : ∀ (vs : List Value) (arr : Array Value) (o : Nat), (setL arr o vs).size = arr.size
  | [], arr, o => rfl
  | v :: vs, arr, o => by rw [setL, setL_size vs]; simp
theorem setL_get : ∀ (vs : List Value) (arr : Array Value) (o j : Nat), (setL arr o vs)[j]? = if o ≤ j ∧ j < o + vs.length ∧ j < arr.size then vs[j - o]? else arr[j]?
  | [], arr, o, j => by rw [if_neg (by simp; omega)]; rfl
  | v :: vs, arr, o, j => by
    rw [setL, setL_get vs]
    simp only [Array.size_setIfInBounds, List.length_cons]
    by_cases h1 : j = o
    · subst h1
      rw [if_neg (by omega), Array.getElem?_setIfInBounds, if_pos rfl]
      by_cases h2 : j < arr.size
      · rw [if_pos h2, if_pos ⟨by omega, by omega, h2⟩, Nat.sub_self]; rfl
      · rw [if_neg h2, if_neg (by omega), Array.getElem?_eq_none (by omega)]
    · have e0 : (arr.setIfInBounds o v)[j]? = arr[j]? := by rw [Array.getElem?_setIfInBounds, if_neg (fun e => h1 e.symm)]
      rw [e0]
      by_cases h2 : o + 1 ≤ j ∧ j < o + 1 + vs.length ∧ j < arr.size
      · rw [if_pos h2, if_pos (by omega), show j - o = (j - (o + 1)) + 1 by omega, List.getElem?_cons_succ]
      · rw [if_neg h2, if_neg (by omega)]
theorem setCells_row {g : Nat} {te : TypeId} : ∀ (vs : List Value) {w : World} {arr : Array Value} (o : Nat), w.heap[g]? = some (.cells arr te (0, 0)) → (w.setCells g o vs).heap[g]? = some (.cells (setL arr o vs) te (0, 0)) ∧ w.grownBy (w.setCells g o vs) (some g)
  | [], w, arr, o, h => ⟨h, rfl, rfl, rfl, Nat.le_refl _, fun _ _ _ => rfl⟩
  | v :: vs, w, arr, o, h => by
    have h1 : (w.setCell ⟨g, o, none⟩ v).heap[g]? = some (.cells (arr.setIfInBounds o v) te (0, 0)) := by
      rw [Sort.setCell_eq]
      show (w.heap.modify g _)[g]? = _
      rw [Array.getElem?_modify, if_pos rfl, h]; rfl
    obtain ⟨h2, h3⟩ := setCells_row vs (o + 1) h1
    refine ⟨h2, h3.os, h3.tape, h3.output, ?_, fun k hk hn => ?_⟩
    · have : (w.setCell ⟨g, o, none⟩ v).heap.size = w.heap.size := by rw [Sort.setCell_eq]; simp [Sort.mapBlock]
      rw [← this]; exact h3.size
    · have hs : (w.setCell ⟨g, o, none⟩ v).heap.size = w.heap.size := by rw [Sort.setCell_eq]; simp [Sort.mapBlock]
      have := h3.block k (by rw [hs]; exact hk) hn
      show ((w.setCell ⟨g, o, none⟩ v).setCells g (o + 1) vs).heap[k]? = _
      rw [this, Sort.setCell_eq]
      show (w.heap.modify g _)[k]? = _
      rw [Array.getElem?_modify, if_neg (fun e => hn (by rw [e]))]
theorem ins_get {cs : List Value} {y v : Value} {i j : Nat} (hi : i ≤ cs.length) (h : (cs.take i ++ [y] ++ cs.drop i)[j]? = some v) : (j < i ∧ cs[j]? = some v) ∨ (j = i ∧ v = y) ∨ (i < j ∧ j ≤ cs.length ∧ cs[j - 1]? = some v) := by
  rw [List.append_assoc, List.getElem?_append, List.length_take, Nat.min_eq_left hi] at h
  by_cases h1 : j < i
  · rw [if_pos h1, List.getElem?_take, if_pos h1] at h; exact .inl ⟨h1, h⟩
  · rw [if_neg h1] at h
    by_cases h2 : j = i
    · subst h2; rw [Nat.sub_self] at h; exact .inr (.inl ⟨rfl, by simpa using h.symm⟩)
    · rw [show j - i = (j - i - 1) + 1 by omega, List.singleton_append, List.getElem?_cons_succ, List.getElem?_drop] at h
      have h3 : i + (j - i - 1) = j - 1 := by omega
      rw [h3] at h
      have := (List.getElem?_eq_some_iff.1 h).1
      exact .inr (.inr ⟨by omega, by omega, h⟩)
/-- What one call of Insert leaves. -/
def InsPost (w : World) (te : TypeId) (base : Option Nat) (i : Nat) (cs : List Value) (y : Value) (e : Ending) (w' : World) : Prop :=
  ∃ g' cap' arr' row, e = .returned (.slice (some ⟨g', 0, none⟩) (cs.length + 1) cap') ∧ (base = some g' ∨ g' = w.heap.size) ∧ w.grownBy w' row ∧ (∀ k, row = some k → base = some k) ∧ w'.heap[g']? = some (.cells arr' te (0, 0)) ∧ arr'.size = cap' ∧ cs.length + 1 ≤ cap' ∧ cap' ≤ topLen ∧
    ∀ (j : Nat) v, (cs.take i ++ [y] ++ cs.drop i)[j]? = some v → arr'[j]? = some v
theorem ins_room {w : World} {te : TypeId} {g c i : Nat} {cs : List Value} {y : Value} {arr : Array Value} (hi : i ≤ cs.length) (harr : w.heap[g]? = some (.cells arr te (0, 0))) (hc : arr.size = c) (hroom : cs.length + 1 ≤ c) (hm : c ≤ topLen) (hcs : ∀ (j : Nat) v, cs[j]? = some v → arr[j]? = some v) :
    InsPost w te (some g) i cs y (.returned (.slice (some ⟨g, 0, none⟩) (cs.length + 1) c)) ((w.drew.setCells g (i + 1) (cs.drop i)).setCells g i [y]) := by
  obtain ⟨h1, b1⟩ := setCells_row (cs.drop i) (w := w.drew) (i + 1) harr
  obtain ⟨h2, b2⟩ := setCells_row [y] i h1
  refine ⟨g, c, _, some g, rfl, .inl rfl, ⟨b2.os.trans b1.os, b2.tape.trans b1.tape, b2.output.trans b1.output, Nat.le_trans b1.size b2.size, fun k hk hn => (b2.block k (Nat.lt_of_lt_of_le hk b1.size) hn).trans (b1.block k hk hn)⟩, fun k hk => hk, h2, by rw [setL_size, setL_size, hc], hroom, hm, fun j v hj => ?_⟩
  rw [setL_get, setL_get, setL_size, hc]
  simp only [List.length_cons, List.length_nil, List.length_drop]
  rcases ins_get hi hj with ⟨h, hv⟩ | ⟨rfl, rfl⟩ | ⟨h, h', hv⟩
  · rw [if_neg (by omega), if_neg (by omega)]; exact hcs j v hv
  · rw [if_pos (by omega), Nat.sub_self]; rfl
  · rw [if_neg (by omega), if_pos (by omega), List.getElem?_drop, show i + (j - (i + 1)) = j - 1 by omega]; exact hv
theorem ins_room_end {w : World} {te : TypeId} {g c : Nat} {cs : List Value} {y : Value} {arr : Array Value} (harr : w.heap[g]? = some (.cells arr te (0, 0))) (hc : arr.size = c) (hroom : cs.length + 1 ≤ c) (hm : c ≤ topLen) (hcs : ∀ (j : Nat) v, cs[j]? = some v → arr[j]? = some v) :
    InsPost w te (some g) cs.length cs y (.returned (.slice (some ⟨g, 0, none⟩) (cs.length + 1) c)) (w.setCells g cs.length [y]) := by
  obtain ⟨h2, b2⟩ := setCells_row [y] cs.length harr
  refine ⟨g, c, _, some g, rfl, .inl rfl, b2, fun k hk => hk, h2, by rw [setL_size, hc], hroom, hm, fun j v hj => ?_⟩
  rw [setL_get, hc]
  simp only [List.length_cons, List.length_nil]
  rcases ins_get (Nat.le_refl _) hj with ⟨h, hv⟩ | ⟨rfl, rfl⟩ | ⟨h, h', hv⟩
  · rw [if_neg (by omega)]; exact hcs j v hv
  · rw [if_pos (by omega), Nat.sub_self]; rfl
  · omega
theorem ins_grow {w : World} {te : TypeId} {base : Option Nat} {c i : Nat} {cs : List Value} {y : Value} {z1 z2 : Array Value} (hi : i ≤ cs.length) (hz1 : z1.size = cs.length + 1 - i) (hz2 : z2.size = grownCap w (cs.length + 1) c te - (cs.length + 1)) (hlen : cs.length + 1 ≤ maxLen) :
    InsPost w te base i cs y (.returned (.slice (some ⟨w.heap.size, 0, none⟩) (cs.length + 1) (grownCap w (cs.length + 1) c te))) ((((w.alloc (.cells ((cs.take i).toArray ++ z1 ++ z2) te)).drew.setCells w.heap.size i [y]).drew).setCells w.heap.size (i + 1) (cs.drop i)) := by
  have h0 : (w.alloc (.cells ((cs.take i).toArray ++ z1 ++ z2) te)).heap[w.heap.size]? = some (.cells ((cs.take i).toArray ++ z1 ++ z2) te (0, 0)) := heap_alloc_new w _
  obtain ⟨h1, b1⟩ := setCells_row [y] (w := (w.alloc (.cells ((cs.take i).toArray ++ z1 ++ z2) te)).drew) i h0
  obtain ⟨h2, b2⟩ := setCells_row (cs.drop i) (w := ((w.alloc (.cells ((cs.take i).toArray ++ z1 ++ z2) te)).drew.setCells w.heap.size i [y]).drew) (i + 1) h1
  have hge := grownCap_ge w (cs.length + 1) c te
  have hle := grownCap_le_maxLen w (cs.length + 1) c te hlen
  have hsz : ((cs.take i).toArray ++ z1 ++ z2).size = grownCap w (cs.length + 1) c te := by
    simp only [Array.size_append, List.size_toArray, List.length_take, hz1, hz2]; omega
  refine ⟨w.heap.size, _, _, none, rfl, .inr rfl, ⟨b2.os.trans b1.os, b2.tape.trans b1.tape, b2.output.trans b1.output, ?_, fun k hk _ => ?_⟩, (fun k hk => by cases hk), h2, by rw [setL_size, setL_size, hsz], hge, hle, fun j v hj => ?_⟩
  · have s1 := b1.size
    have s2 := b2.size
    have s0 : (w.alloc (.cells ((cs.take i).toArray ++ z1 ++ z2) te)).drew.heap.size = w.heap.size + 1 := by show (w.alloc _).heap.size = _; simp
    have : ((w.alloc (.cells ((cs.take i).toArray ++ z1 ++ z2) te)).drew.setCells w.heap.size i [y]).heap.size ≤ _ := s2
    omega
  · have s0 : (w.alloc (.cells ((cs.take i).toArray ++ z1 ++ z2) te)).drew.heap.size = w.heap.size + 1 := by show (w.alloc _).heap.size = _; simp
    have hne : some k ≠ some w.heap.size := fun e => by simp only [Option.some.injEq] at e; omega
    have e1 := b2.block k (by have := b1.size; show k < ((w.alloc (.cells ((cs.take i).toArray ++ z1 ++ z2) te)).drew.setCells w.heap.size i [y]).heap.size; omega) hne
    have e2 := b1.block k (by omega) hne
    exact e1.trans (e2.trans (heap_alloc_old w _ hk))
  · rw [setL_get, setL_get, setL_size, hsz]
    simp only [List.length_cons, List.length_nil, List.length_drop]
    rcases ins_get hi hj with ⟨h, hv⟩ | ⟨rfl, rfl⟩ | ⟨h, h', hv⟩
    · rw [if_neg (by omega), if_neg (by omega), Array.append_assoc, Array.getElem?_append, if_pos (by simp; omega)]
      rw [List.getElem?_toArray, List.getElem?_take, if_pos h]; exact hv
    · rw [if_neg (by omega), if_pos (by omega), Nat.sub_self]; rfl
    · rw [if_pos (by omega), List.getElem?_drop, show i + (j - (i + 1)) = j - 1 by omega]; exact hv
theorem ins_grow_end {w : World} {te : TypeId} {base : Option Nat} {c : Nat} {cs : List Value} {y : Value} {z2 : Array Value} (hz2 : z2.size = grownCap w (cs.length + 1) c te - (cs.length + 1)) (hlen : cs.length + 1 ≤ maxLen) :
    InsPost w te base cs.length cs y (.returned (.slice (some ⟨w.heap.size, 0, none⟩) (cs.length + 1) (grownCap w (cs.length + 1) c te))) (w.drew.alloc (.cells ((cs ++ [y]).toArray ++ z2) te)) := by
  have h0 : (w.drew.alloc (.cells ((cs ++ [y]).toArray ++ z2) te)).heap[w.heap.size]? = some (.cells ((cs ++ [y]).toArray ++ z2) te (0, 0)) := heap_alloc_new w.drew _
  have hge := grownCap_ge w (cs.length + 1) c te
  have hle := grownCap_le_maxLen w (cs.length + 1) c te hlen
  have hsz : ((cs ++ [y]).toArray ++ z2).size = grownCap w (cs.length + 1) c te := by
    simp only [Array.size_append, List.size_toArray, List.length_append, List.length_cons, List.length_nil, hz2]; omega
  refine ⟨w.heap.size, _, _, none, rfl, .inr rfl, ⟨rfl, rfl, rfl, ?_, fun k hk _ => heap_alloc_old w.drew _ hk⟩, (fun k hk => by cases hk), h0, hsz, hge, hle, fun j v hj => ?_⟩
  · show w.heap.size ≤ (w.drew.alloc _).heap.size
    have : (w.drew.alloc (.cells ((cs ++ [y]).toArray ++ z2) te)).heap.size = w.heap.size + 1 := by show (w.alloc _).heap.size = _; simp
    omega
  · rw [List.take_length, List.drop_length, List.append_nil] at hj
    rw [Array.getElem?_append, if_pos (by have := (List.getElem?_eq_some_iff.1 hj).1; simpa using this), List.getElem?_toArray]; exact hj

open Go.Shelf Go.Proofs in
/-- One call of slices.Insert with one element: whichever road. -/
structure InsKit (P : Program) (f : FuncId) (te : TypeId) (B : Nat) : Prop where
  nil : ∀ (vb vc : Nat) (y : Value) (w : World), w.cell? ⟨vb, 0, none⟩ = some y → y.oneCell' = true → Calls P f #[.slice none 0 0, .int .i64 (0 : Nat), .slice (some ⟨vb, 0, none⟩) 1 vc] w fun e w' => InsPost w te none 0 [] y e w'
  row : ∀ (b c i vb vc : Nat) (cs : List Value) (y : Value) (w : World) (arr av : Array Value) (tv : TypeId), i ≤ cs.length → (cs.length + 1) * B ≤ 140737488355328 → cs.length ≤ c → c ≤ 9223372036854775807 → vb ≠ b → w.heap[b]? = some (.cells arr te (0, 0)) → arr.size = c → w.heap[vb]? = some (.cells av tv (0, 0)) →
    (∀ (j : Nat) v, cs[j]? = some v → arr[j]? = some v) → av[0]? = some y → (∀ v ∈ cs, v.oneCell' = true) → y.oneCell' = true → Calls P f #[.slice (some ⟨b, 0, none⟩) cs.length c, .int .i64 i, .slice (some ⟨vb, 0, none⟩) 1 vc] w fun e w' => InsPost w te (some b) i cs y e w'
theorem shape_of {w : World} {b : Nat} {arr : Array Value} {te : TypeId} (h : w.heap[b]? = some (.cells arr te (0, 0))) : w.shape? b = some (te, arr.size) := by simp [World.shape?, h]
theorem one_get {y v : Value} {j : Nat} (h : [y][j]? = some v) : j = 0 ∧ v = y := by
  cases j with
  | zero => simp at h; exact ⟨rfl, h.symm⟩
  | succ j => simp at h
open Go.Shelf Go.Proofs in
theorem insKitS {P : Program} {ρ : Ren} (L : Lays2.n22 P ρ) : InsKit P (ρ.f 22) (ρ.t 9) 16 where
  nil := fun vb vc y w hy h1 => (Any2.slices_Insert_string_end_grow L none 0 0 vb 0 1 vc [] [y] w (by decide) (by decide) (by decide) (by decide) rfl rfl (fun _ => rfl) (fun a h => by cases h) (fun j v hj => by
      obtain ⟨rfl, rfl⟩ := one_get hj; exact hy) (fun v hv => by simp only [List.mem_singleton] at hv; subst hv; exact h1)).mono fun e w' he => by
    obtain ⟨rfl, rfl⟩ := he
    exact ins_grow_end (cs := []) (c := 0) (by simp [Builtin.zeroCells, Value.cells]) (by decide)
  row := fun b c i vb vc cs y w arr av tv hi hbig hnc hc63 hvb harr hsz hav hcs hy h1c h1y => by
    have hcell : ∀ (j : Nat) v, cs[j]? = some v → w.cell? ⟨b, 0 + j, none⟩ = some v := fun j v hj => by rw [cell_of_row w b _ arr _ (0, 0) harr, Nat.zero_add]; exact hcs j v hj
    have hvs : ∀ (j : Nat) v, [y][j]? = some v → w.cell? ⟨vb, 0 + j, none⟩ = some v := fun j v hj => by
      obtain ⟨rfl, rfl⟩ := one_get hj
      rw [cell_of_row w vb _ av _ (0, 0) hav]; exact hy
    have h1v : ∀ v ∈ [y], v.oneCell' = true := fun v hv => by simp only [List.mem_singleton] at hv; subst hv; exact h1y
    have hlen : cs.length + 1 ≤ maxLen := by show _ ≤ 9223372036854775807; omega
    have hex : ∀ j, j < c → (w.cell? ⟨b, 0 + j, none⟩).isSome = true := fun j hj => by rw [cell_of_row w b _ arr _ (0, 0) harr, Nat.zero_add, Array.getElem?_eq_getElem (by omega)]; rfl
    rcases Nat.lt_or_ge c (cs.length + 1) with hr | hr
    · rcases Nat.lt_or_ge i cs.length with hlt | hge
      · refine (Any2.slices_Insert_string_grow L b 0 cs.length c i vb 0 1 vc cs [y] w hlt (by decide) hnc hr hbig rfl rfl hcell hvs h1c h1v).mono fun e w' he => ?_
        obtain ⟨rfl, rfl⟩ := he
        exact ins_grow hi (by simp [Builtin.zeroCells, Value.cells]) (by simp [Builtin.zeroCells, Value.cells]) hlen
      · obtain rfl : i = cs.length := by omega
        refine (Any2.slices_Insert_string_end_grow L (some ⟨b, 0, none⟩) cs.length c vb 0 1 vc cs [y] w (by decide) hnc hr hbig rfl rfl (fun h => by cases h) (fun a ha j v hj => by
          cases ha
          have := hcell j v hj
          rwa [show (⟨b, 0, none⟩ : Addr).add j = ⟨b, 0 + j, none⟩ by unfold Addr.add; split <;> simp_all]) hvs h1v).mono fun e w' he => ?_
        obtain ⟨rfl, rfl⟩ := he
        exact ins_grow_end (by simp [Builtin.zeroCells, Value.cells]) hlen
    · rcases Nat.lt_or_ge i cs.length with hlt | hge
      · refine (Any2.slices_Insert_string_shift L b 0 cs.length c i vb 0 1 vc cs [y] w hlt (by decide) hr hc63 hvb rfl rfl hcell (fun j hj => hex j (by omega)) (fun j _ => Lib.frozen_of_heap harr _) hvs h1c h1v _ _ _ _ (shape_of hav) (shape_of harr) (by omega) (Lib.frozen_of_heap hav _) (Lib.frozen_of_heap hav _)).mono fun e w' he => ?_
        obtain ⟨rfl, rfl⟩ := he
        simp only [Nat.zero_add]
        exact ins_room hi harr hsz hr hc63 hcs
      · obtain rfl : i = cs.length := by omega
        refine (Any2.slices_Insert_string_end_room L b 0 cs.length c vb 0 1 vc [y] w (by decide) hr hc63 rfl (fun j hj => by rw [show 0 + cs.length + j = 0 + (cs.length + j) by omega]; exact hex _ (by omega)) (fun j _ => Lib.frozen_of_heap harr _) hvs h1v).mono fun e w' he => ?_
        obtain ⟨rfl, rfl⟩ := he
        simp only [Nat.zero_add]
        exact ins_room_end harr hsz hr hc63 hcs
open Go.Shelf Go.Proofs in
theorem insKitI {P : Program} {ρ : Ren} (L : Lays2.n21 P ρ) : InsKit P (ρ.f 21) (ρ.t 3) 8 where
  nil := fun vb vc y w hy h1 => (Any2.slices_Insert_int_end_grow L none 0 0 vb 0 1 vc [] [y] w (by decide) (by decide) (by decide) (by decide) rfl rfl (fun _ => rfl) (fun a h => by cases h) (fun j v hj => by
      obtain ⟨rfl, rfl⟩ := one_get hj; exact hy) (fun v hv => by simp only [List.mem_singleton] at hv; subst hv; exact h1)).mono fun e w' he => by
    obtain ⟨rfl, rfl⟩ := he
    exact ins_grow_end (cs := []) (c := 0) (by simp [Builtin.zeroCells, Value.cells]) (by decide)
  row := fun b c i vb vc cs y w arr av tv hi hbig hnc hc63 hvb harr hsz hav hcs hy h1c h1y => by
    have hcell : ∀ (j : Nat) v, cs[j]? = some v → w.cell? ⟨b, 0 + j, none⟩ = some v := fun j v hj => by rw [cell_of_row w b _ arr _ (0, 0) harr, Nat.zero_add]; exact hcs j v hj
    have hvs : ∀ (j : Nat) v, [y][j]? = some v → w.cell? ⟨vb, 0 + j, none⟩ = some v := fun j v hj => by
      obtain ⟨rfl, rfl⟩ := one_get hj
      rw [cell_of_row w vb _ av _ (0, 0) hav]; exact hy
    have h1v : ∀ v ∈ [y], v.oneCell' = true := fun v hv => by simp only [List.mem_singleton] at hv; subst hv; exact h1y
    have hlen : cs.length + 1 ≤ maxLen := by show _ ≤ 9223372036854775807; omega
    have hex : ∀ j, j < c → (w.cell? ⟨b, 0 + j, none⟩).isSome = true := fun j hj => by rw [cell_of_row w b _ arr _ (0, 0) harr, Nat.zero_add, Array.getElem?_eq_getElem (by omega)]; rfl
    rcases Nat.lt_or_ge c (cs.length + 1) with hr | hr
    · rcases Nat.lt_or_ge i cs.length with hlt | hge
      · refine (Any2.slices_Insert_int_grow L b 0 cs.length c i vb 0 1 vc cs [y] w hlt (by decide) hnc hr hbig rfl rfl hcell hvs h1c h1v).mono fun e w' he => ?_
        obtain ⟨rfl, rfl⟩ := he
        exact ins_grow hi (by simp [Builtin.zeroCells, Value.cells]) (by simp [Builtin.zeroCells, Value.cells]) hlen
      · obtain rfl : i = cs.length := by omega
        refine (Any2.slices_Insert_int_end_grow L (some ⟨b, 0, none⟩) cs.length c vb 0 1 vc cs [y] w (by decide) hnc hr hbig rfl rfl (fun h => by cases h) (fun a ha j v hj => by
          cases ha
          have := hcell j v hj
          rwa [show (⟨b, 0, none⟩ : Addr).add j = ⟨b, 0 + j, none⟩ by unfold Addr.add; split <;> simp_all]) hvs h1v).mono fun e w' he => ?_
        obtain ⟨rfl, rfl⟩ := he
        exact ins_grow_end (by simp [Builtin.zeroCells, Value.cells]) hlen
    · rcases Nat.lt_or_ge i cs.length with hlt | hge
      · refine (Any2.slices_Insert_int_shift L b 0 cs.length c i vb 0 1 vc cs [y] w hlt (by decide) hr hc63 hvb rfl rfl hcell (fun j hj => hex j (by omega)) (fun j _ => Lib.frozen_of_heap harr _) hvs h1c h1v _ _ _ _ (shape_of hav) (shape_of harr) (by omega) (Lib.frozen_of_heap hav _) (Lib.frozen_of_heap hav _)).mono fun e w' he => ?_
        obtain ⟨rfl, rfl⟩ := he
        simp only [Nat.zero_add]
        exact ins_room hi harr hsz hr hc63 hcs
      · obtain rfl : i = cs.length := by omega
        refine (Any2.slices_Insert_int_end_room L b 0 cs.length c vb 0 1 vc [y] w (by decide) hr hc63 rfl (fun j hj => by rw [show 0 + cs.length + j = 0 + (cs.length + j) by omega]; exact hex _ (by omega)) (fun j _ => Lib.frozen_of_heap harr _) hvs h1v).mono fun e w' he => ?_
        obtain ⟨rfl, rfl⟩ := he
        simp only [Nat.zero_add]
        exact ins_room_end harr hsz hr hc63 hcs
/-- slices.Insert of one element of one cell. -/
theorem ins_spec {X : Ctx} {f : FuncId} {te te2 : TypeId} {B : Nat} {α : Type} {p : α → PV} {enc : α → Value} {l : List α} {i : Nat} {y : α} (K : InsKit X.P f te B) (hent : Ent X.P f) (hp : ∀ (w : World) (ok : Nat → Prop) x u, RepP w ok (p x) u → u = enc x) (h1 : ∀ x, (enc x).oneCell' = true) (hi : i ≤ l.length) (hbig : (l.length + 1) * B ≤ 140737488355328) :
    SpcS X f [.one (.own 0 1 l.length), .one (.pv (.int .i64 (i : Int))), .one (.own 1000 1 1)] [(0, (.pu te (l.flatMap fun x => [p x]), false)), (1000, (.pu te2 [p y], false))] (.one (.own 0 1 (l.length + 1))) [(0, (.pu te ((l.take i ++ [y] ++ l.drop i).flatMap fun x => [p x]), false)), (1000, (.pu te2 [p y], false))] where
  ent := hent
  calls := fun ok w vals β hG hlt d hs hv => by
    obtain ⟨u, hu, hr⟩ := hv 0 _ rfl
    obtain ⟨u1, hu1, hr1⟩ := hv 1 _ rfl
    obtain ⟨u2, hu2, hr2⟩ := hv 2 _ rfl
    obtain ⟨rfl, _⟩ := one_int hr1
    have hr : OwnRep w β 0 1 l.length u := hr
    have hr2 : OwnRep w β 1000 1 1 u2 := hr2
    obtain rfl := vals3 (by simpa using hs) hu hu1 hu2
    rcases hr2 with ⟨_, h0⟩ | ⟨vb, vc, hvb, rfl, _, _, _⟩
    · cases h0
    obtain ⟨av, hav, hcv⟩ := d.row (i0 := 1000) (te := te2) (c := [p y]) (z := false) rfl hvb (.inr (Nat.le_refl _))
    obtain ⟨uy, huy, hry⟩ := hcv 0 (p y) rfl
    have huy' : av[0]? = some (enc y) := by rw [huy, hp _ _ _ _ hry]
    have r := d.rel hG hlt
    have fin : ∀ (base : Option Nat) e w', (∀ g, base = some g → β 0 = some g) → (∀ (j : Nat) x, l[j]? = some x → RepP w ok (p x) (enc x)) → InsPost w te base i (l.map enc) (enc y) e w' → ∃ u β', e = .returned u ∧ HRel X ⟨w, ok, handed [(0, (.pu te (l.flatMap fun x => [p x]), false)), (1000, (.pu te2 [p y], false))] β, pinOf β⟩ [(0, (.pu te ((l.take i ++ [y] ++ l.drop i).flatMap fun x => [p x]), false)), (1000, (.pu te2 [p y], false))] β' w' ∧
        RepV w' (Fr.ok ⟨w, ok, handed [(0, (.pu te (l.flatMap fun x => [p x]), false)), (1000, (.pu te2 [p y], false))] β, pinOf β⟩ w' [(0, (.pu te ((l.take i ++ [y] ++ l.drop i).flatMap fun x => [p x]), false)), (1000, (.pu te2 [p y], false))] β') β' (.one (.own 0 1 (l.length + 1))) u ∧ ∀ k ∈ (AV.one (.own 0 1 (l.length + 1))).refs, (look [(0, ((Bx.pu te ((l.take i ++ [y] ++ l.drop i).flatMap fun x => [p x])), false)), (1000, (.pu te2 [p y], false))] k).isSome = true := fun base e w' hbase hl ⟨g', cap', arr', row, he, hg', hgr, hrow, ha', hsz, hge, hle, hc⟩ => by
      have hmove := r.move (id := 0) (bx' := .pu te ((l.take i ++ [y] ++ l.drop i).flatMap fun x => [p x])) (by decide) rfl hgr (fun k hk => hbase k (hrow k hk)) (hg'.imp (hbase g') id) rfl ha' (fun e' l' he => by cases he; rfl) (fun j c hj => by
        simp only [Bx.cells, List.getElem?_map] at hj
        rw [flat1_get] at hj
        cases hq : (l.take i ++ [y] ++ l.drop i)[j]? with
        | none => rw [hq] at hj; cases hj
        | some x =>
          rw [hq] at hj
          simp only [Option.map_some, Option.some.injEq] at hj
          subst hj
          refine ⟨enc x, hc j _ ?_, RepP.mono (fun b hb => ⟨d.okOf hlt b hb, rfl⟩) ?_⟩
          · have : (l.map enc).take i ++ [enc y] ++ (l.map enc).drop i = (l.take i ++ [y] ++ l.drop i).map enc := by simp [List.map_take, List.map_drop]
            rw [this, List.getElem?_map, hq]; rfl
          · have hm := List.mem_of_getElem? hq
            simp only [List.mem_append, List.mem_singleton] at hm
            rcases hm with (hm | rfl) | hm
            · obtain ⟨k, hk⟩ := List.getElem?_of_mem (List.mem_of_mem_take hm); exact hl k x hk
            · have := hp _ _ _ _ hry; subst this; exact hry
            · obtain ⟨k, hk⟩ := List.getElem?_of_mem (List.mem_of_mem_drop hm); exact hl k x hk) (fun k hk => by simp only [Bx.cells] at hk; rw [acRefs_pv] at hk; cases hk)
      rw [List.length_map] at he hge
      refine ⟨_, _, he, hmove, .inr ⟨g', cap', by simp [upd1], rfl, hge, hle, by rw [bsh_row ha', hsz, Nat.mul_one]⟩, fun k hk => ?_⟩
      simp only [AV.refs, AC.refs, List.mem_singleton] at hk
      subst hk; rfl
    rcases hr with ⟨rfl, h0⟩ | ⟨g, cap, hg, rfl, hcap, hmx, hbs⟩
    · have hl : l = [] := List.length_eq_zero_iff.1 h0
      subst hl
      obtain rfl : i = 0 := by simpa using hi
      refine (K.nil vb vc (enc y) w (by rw [cell_of_row w vb _ av _ (0, 0) hav]; exact huy') (h1 y)).mono fun e w' he => ?_
      exact fin none e w' (fun g h => by cases h) (fun j x hj => by simp at hj) he
    · obtain ⟨arr, harr, hc⟩ := d.row (i0 := 0) (te := te) (z := false) rfl hg (.inl (by decide))
      have hc' : ∀ (k : Nat) x, l[k]? = some x → ∃ u : Value, arr[k]? = some u ∧ RepP w ok (p x) u := fun k x hk => hc k _ (by rw [flat1_get, hk]; rfl)
      have hsz : arr.size = cap := by rw [bsh_row harr] at hbs; simp only [Nat.mul_one] at hbs; exact hbs.symm
      have hne : vb ≠ g := fun e => by subst e; exact d.inj 0 1000 _ _ vb (by decide) rfl rfl hg hvb
      have hk := K.row g cap i vb vc (l.map enc) (enc y) w arr av te2 (by simpa using hi) (by simpa using hbig) (by simpa using hcap) hmx hne harr hsz hav (fun j v hj => by
        rw [List.getElem?_map] at hj
        cases hq : l[j]? with
        | none => rw [hq] at hj; cases hj
        | some x =>
          rw [hq] at hj
          simp only [Option.map_some, Option.some.injEq] at hj
          subst hj
          obtain ⟨u, hu, hr⟩ := hc' j x hq
          rw [hu, hp _ _ _ _ hr]) huy' (fun v hv => by obtain ⟨x, _, rfl⟩ := List.mem_map.1 hv; exact h1 x) (h1 y)
      rw [List.length_map] at hk
      refine hk.mono fun e w' he => fin (some g) e w' (fun g' h => by cases h; exact hg) (fun j x hj => ?_) he
      obtain ⟨u, hu, hr⟩ := hc' j x hj
      have := hp _ _ _ _ hr
      subst this; exact hr
end Go.VL


namespace Go.VS.YtlmioegjeocaaaaGreatDoor
open Go Go.VL Go.VN Go.RowKit Go.Proofs
set_option maxRecDepth 100000
set_option linter.unusedVariables false

def layInsS_ren : Go.Shelf.Ren := ⟨fun | 17 => 151 | 22 => 84 | 29 => 112 | 30 => 113 | 36 => 135 | n => n, fun | 0 => 0 | 3 => 3 | 4 => 4 | 9 => 9 | 24 => 22 | n => n, fun | n => n⟩
theorem layInsS : Go.Proofs.Lays2.n22 Tryz.prog layInsS_ren := {
  mixed := by kernel_rfl
  f17 := Tryz.func151.trans (congrArg some (by kernel_rfl))
  f22 := Tryz.func84.trans (congrArg some (by kernel_rfl))
  f29 := Tryz.func112.trans (congrArg some (by kernel_rfl))
  f30 := Tryz.func113.trans (congrArg some (by kernel_rfl))
  f36 := Tryz.func135.trans (congrArg some (by kernel_rfl))
  t0 := Tryz.underlying0
  a0 := Tryz.isAgg0
  z0 := Tryz.sizeOf0
  v0 := Tryz.zeroValue0
  t3 := Tryz.underlying3
  a3 := Tryz.isAgg3
  z3 := Tryz.sizeOf3
  v3 := Tryz.zeroValue3
  t4 := Tryz.underlying4
  a4 := Tryz.isAgg4
  z4 := Tryz.sizeOf4
  v4 := Tryz.zeroValue4
  t9 := Tryz.underlying9
  a9 := Tryz.isAgg9
  z9 := Tryz.sizeOf9
  v9 := Tryz.zeroValue9
  t24 := Tryz.underlying22
  a24 := Tryz.isAgg22
  z24 := Tryz.sizeOf22
  v24 := Tryz.zeroValue22
  i9 := by kernel_rfl }
def layInsI_ren : Go.Shelf.Ren := ⟨fun | 39 => 152 | 21 => 85 | 27 => 114 | 28 => 115 | 35 => 136 | n => n, fun | 0 => 0 | 3 => 3 | 4 => 4 | 22 => 23 | n => n, fun | n => n⟩
theorem layInsI : Go.Proofs.Lays2.n21 Tryz.prog layInsI_ren := {
  mixed := by kernel_rfl
  f39 := Tryz.func152.trans (congrArg some (by kernel_rfl))
  f21 := Tryz.func85.trans (congrArg some (by kernel_rfl))
  f27 := Tryz.func114.trans (congrArg some (by kernel_rfl))
  f28 := Tryz.func115.trans (congrArg some (by kernel_rfl))
  f35 := Tryz.func136.trans (congrArg some (by kernel_rfl))
  t0 := Tryz.underlying0
  a0 := Tryz.isAgg0
  z0 := Tryz.sizeOf0
  v0 := Tryz.zeroValue0
  t3 := Tryz.underlying3
  a3 := Tryz.isAgg3
  z3 := Tryz.sizeOf3
  v3 := Tryz.zeroValue3
  t4 := Tryz.underlying4
  a4 := Tryz.isAgg4
  z4 := Tryz.sizeOf4
  v4 := Tryz.zeroValue4
  t22 := Tryz.underlying23
  a22 := Tryz.isAgg23
  z22 := Tryz.sizeOf23
  v22 := Tryz.zeroValue23
  i3 := by kernel_rfl }
theorem s_InsS (l : List (List UInt8)) (i : Nat) (y : List UInt8) (hi : i ≤ l.length) (hl : l.length ≤ 100000) : SpcS X 84 [.one (.own 0 1 l.length), .one (.pv (.int .i64 (i : Int))), .one (.own 1000 1 1)] [(0, (.pu 9 (l.flatMap eS), false)), (1000, (.pu 9 [.str y], false))] (.one (.own 0 1 (l.length + 1))) [(0, (.pu 9 ((l.take i ++ [y] ++ l.drop i).flatMap eS), false)), (1000, (.pu 9 [.str y], false))] :=
  ins_spec (X := X) (p := PV.str) (enc := encStr) (insKitS layInsS) (ent_of2 (P := X.P) Tryz.func84 (by kernel_rfl) (by kernel_rfl)) (fun w ok x u h => rep_str h) (fun x => rfl) hi (by omega)
theorem s_InsI (l : List Int) (i : Nat) (y : Int) (hi : i ≤ l.length) (hl : l.length ≤ 100000) : SpcS X 85 [.one (.own 0 1 l.length), .one (.pv (.int .i64 (i : Int))), .one (.own 1000 1 1)] [(0, (.pu 3 (l.flatMap eI), false)), (1000, (.pu 3 [.int .i64 y], false))] (.one (.own 0 1 (l.length + 1))) [(0, (.pu 3 ((l.take i ++ [y] ++ l.drop i).flatMap eI), false)), (1000, (.pu 3 [.int .i64 y], false))] :=
  ins_spec (X := X) (p := fun z => PV.int .i64 z) (enc := fun z => Value.int .i64 z) (insKitI layInsI) (ent_of2 (P := X.P) Tryz.func85 (by kernel_rfl) (by kernel_rfl)) (fun w ok x u h => by cases h; rfl) (fun x => rfl) hi (by omega)
theorem s_DelS (l : List (List UInt8)) (i j : Nat) (hij : i < j) (hj : j ≤ l.length) : SpcS X 86 [.one (.own 0 1 l.length), .one (.pv (.int .i64 (i : Int))), .one (.pv (.int .i64 (j : Int)))] [(0, (.pu 9 (l.flatMap eS), false))] (.one (.own 0 1 (l.length - (j - i)))) [(0, (.pu 9 ((l.take i ++ l.drop j).flatMap eS), false))] :=
  del_spec (X := X) (p := PV.str) (enc := encStr) (z := []) (ent_of2 (P := X.P) Tryz.func86 (by kernel_rfl) (by kernel_rfl)) (fun w ok x u h => rep_str h) hij hj fun blk cap w hH hc hm => Tryz.slices_Delete_string blk 0 cap i j l w hH hc hm (Nat.le_of_lt hij) hj
theorem s_DelI (l : List Int) (i j : Nat) (hij : i < j) (hj : j ≤ l.length) : SpcS X 87 [.one (.own 0 1 l.length), .one (.pv (.int .i64 (i : Int))), .one (.pv (.int .i64 (j : Int)))] [(0, (.pu 3 (l.flatMap eI), false))] (.one (.own 0 1 (l.length - (j - i)))) [(0, (.pu 3 ((l.take i ++ l.drop j).flatMap eI), false))] :=
  del_spec (X := X) (p := fun z => PV.int .i64 z) (enc := fun z => Value.int .i64 z) (z := 0) (ent_of2 (P := X.P) Tryz.func87 (by kernel_rfl) (by kernel_rfl)) (fun w ok x u h => by cases h; rfl) hij hj fun blk cap w hH hc hm => Tryz.slices_Delete_int blk 0 cap i j l w hH hc hm (Nat.le_of_lt hij) hj
def sortS (l : List (List UInt8)) : List (List UInt8) := l.mergeSort fun x y => decide (x ≤ y)
theorem s_SortS (l : List (List UInt8)) (hl : l.length ≤ 100000) : SpcS X 44 [.one (.own 1000 1 l.length)] [(1000, (.pu 9 (l.flatMap eS), false))] (.tup []) [(1000, (.pu 9 ((sortS l).flatMap eS), false))] :=
  sortS_spec (X := X) (ent_of2 (P := X.P) Tryz.func44 (by kernel_rfl) (by kernel_rfl)) (by omega) (fun x hx => List.mem_mergeSort.1 hx) (List.length_mergeSort l) (fun blk cap w hH hb => Tryz.slices_Sort_string blk 0 cap l w hH hb (by omega)) fun w => Tryz.slices_Sort_string_none none 0 w
end Go.VS.YtlmioegjeocaaaaGreatDoor


namespace Go.VL
open Go.VN
set_option linter.unusedVariables false
set_option linter.unusedSimpArgs false
theorem lexLt_trans : ∀ {a b c : List UInt8}, lexLt a b = true → lexLt b c = true → lexLt a c = true
  | [], [], _, h, _ => by simp [lexLt] at h
  | [], _ :: _, [], _, h => by simp [lexLt] at h
  | [], _ :: _, _ :: _, _, _ => rfl
  | _ :: _, [], _, h, _ => by simp [lexLt] at h
  | _ :: _, _ :: _, [], _, h => by simp [lexLt] at h
  | a :: x, b :: y, c :: z, h1, h2 => by
    have ih := @lexLt_trans x y z
    simp only [lexLt, Bool.or_eq_true, Bool.and_eq_true, decide_eq_true_eq] at *
    rcases h1 with h1 | ⟨rfl, h1⟩
    · rcases h2 with h2 | ⟨rfl, h2⟩
      · left; rw [UInt8.lt_iff_toNat_lt] at *; omega
      · left; exact h1
    · rcases h2 with h2 | ⟨rfl, h2⟩
      · left; exact h2
      · right; exact ⟨rfl, ih h1 h2⟩
theorem lexLt_asym {a b : List UInt8} (h : lexLt a b = true) : lexLt b a = false := by
  cases hb : lexLt b a with
  | false => rfl
  | true => have := lexLt_trans h hb; rw [lexLt_irr] at this; cases this
theorem lexLt_tri {a b : List UInt8} (h : lexLt a b = false) (hne : a ≠ b) : lexLt b a = true := by
  have := lex_le a b
  rw [h, decide_eq_false hne] at this
  simpa using this.symm
theorem lexLt_ne {a b : List UInt8} (h : lexLt a b = true) : a ≠ b := fun e => by rw [e, lexLt_irr] at h; cases h
/-- Not greater, and less: less. -/
theorem lexLt_le {a b c : List UInt8} (h : lexLt b a = false) (h2 : lexLt b c = true) : lexLt a c = true := by
  by_cases e : a = b
  · rw [e]; exact h2
  · exact lexLt_trans (lexLt_tri h (fun q => e q.symm)) h2

abbrev TL := List (List UInt8 × Int)
def tlT (l : TL) : Tal := ⟨l.map Prod.fst, l.map Prod.snd⟩
def toL (t : Tal) : TL := t.ks.zip t.cs
theorem tlT_toL {t : Tal} (h : t.ks.length = t.cs.length) : tlT (toL t) = t := by
  obtain ⟨ks, cs⟩ := t
  simp only [tlT, toL] at *
  rw [List.map_fst_zip (by omega), List.map_snd_zip (by omega)]
theorem toL_tlT (l : TL) : toL (tlT l) = l := by
  simp only [tlT, toL]
  induction l with
  | nil => rfl
  | cons x l ih => simp [ih]
def SK (l : TL) : Prop := l.Pairwise fun x y => lexLt x.1 y.1 = true
def gt : TL → List UInt8 → Int
  | [], _ => 0
  | (a, n) :: l, k => if a = k then n else gt l k
theorem gt_out : ∀ {l : TL} {k : List UInt8}, (∀ x ∈ l, x.1 ≠ k) → gt l k = 0
  | [], k, _ => rfl
  | (a, n) :: l, k, h => by rw [gt, if_neg (h (a, n) (by simp)), gt_out fun x hx => h x (by simp [hx])]
theorem gt_app : ∀ (l m : TL) (k : List UInt8), gt (l ++ m) k = if k ∈ l.map Prod.fst then gt l k else gt m k
  | [], m, k => by simp
  | (a, n) :: l, m, k => by
    rw [List.cons_append, gt, gt, gt_app l m k]
    by_cases h : a = k
    · simp [h]
    · have : ¬ k = a := fun e => h e.symm
      rw [if_neg h, if_neg h]
      simp only [List.map_cons, List.mem_cons, this, false_or]
theorem gt_mem : ∀ {l : TL} {x : List UInt8 × Int}, SK l → x ∈ l → gt l x.1 = x.2
  | (a, n) :: l, x, hs, hx => by
    unfold SK at hs
    rw [List.pairwise_cons] at hs
    rcases List.mem_cons.1 hx with rfl | hx
    · simp [gt]
    · rw [gt, if_neg (lexLt_ne (hs.1 x hx)), gt_mem hs.2 hx]
theorem gt_nz : ∀ {l : TL} {k : List UInt8}, gt l k ≠ 0 → ∃ x ∈ l, x.1 = k ∧ x.2 = gt l k
  | [], k, h => absurd rfl h
  | (a, n) :: l, k, h => by
    rw [gt] at *
    by_cases e : a = k
    · rw [if_pos e]; exact ⟨(a, n), by simp, e, rfl⟩
    · rw [if_neg e] at *
      obtain ⟨x, hx, h1, h2⟩ := gt_nz h
      exact ⟨x, by simp [hx], h1, h2⟩
def Pos (l : TL) : Prop := ∀ x ∈ l, 1 ≤ x.2
theorem gt_nn {l : TL} (h : Pos l) (k : List UInt8) : 0 ≤ gt l k := by
  by_cases e : gt l k = 0
  · omega
  · obtain ⟨x, hx, _, h2⟩ := gt_nz e
    have := h x hx
    omega
theorem gt_le {l : TL} {b : Int} (hb : 0 ≤ b) (h : ∀ x ∈ l, x.2 ≤ b) (k : List UInt8) : gt l k ≤ b := by
  by_cases e : gt l k = 0
  · omega
  · obtain ⟨x, hx, _, h2⟩ := gt_nz e
    have := h x hx
    omega
/-- Sorted tallies without a count of 0 that count alike are the same. -/
theorem tl_ext : ∀ {l m : TL}, SK l → SK m → Pos l → Pos m → (∀ k, gt l k = gt m k) → l = m
  | [], [], _, _, _, _, _ => rfl
  | [], (b, y) :: m, _, _, _, hp, h => by
    have h1 := h b
    have h2 := hp (b, y) (by simp)
    simp only [gt, if_true] at h1 h2; omega
  | (a, x) :: l, [], _, _, hp, _, h => by
    have h1 := h a
    have h2 := hp (a, x) (by simp)
    simp only [gt, if_true] at h1 h2; omega
  | (a, x) :: l, (b, y) :: m, hl, hm, pl, pm, h => by
    unfold SK at hl hm
    rw [List.pairwise_cons] at hl hm
    have p1 := pl (a, x) (by simp)
    have p2 := pm (b, y) (by simp)
    simp only at p1 p2
    have hab : a = b := by
      by_cases e : a = b
      · exact e
      · cases hlt : lexLt a b with
        | true =>
          have h1 := h a
          rw [gt, if_pos rfl, gt_out (l := (b, y) :: m) (k := a)] at h1
          · omega
          · intro z hz
            rcases List.mem_cons.1 hz with rfl | hz
            · exact fun q => e q.symm
            · exact fun q => lexLt_ne (lexLt_trans hlt (hm.1 z hz)) q.symm
        | false =>
          have hgt := lexLt_tri hlt e
          have h1 := h b
          rw [gt_out (l := (a, x) :: l) (k := b), gt, if_pos rfl] at h1
          · omega
          · intro z hz
            rcases List.mem_cons.1 hz with rfl | hz
            · exact e
            · exact fun q => lexLt_ne (lexLt_trans hgt (hl.1 z hz)) q.symm
    subst hab
    have hxy : x = y := by have h1 := h a; simpa [gt] using h1
    subst hxy
    rw [tl_ext hl.2 hm.2 (fun z hz => pl z (by simp [hz])) (fun z hz => pm z (by simp [hz])) fun k => ?_]
    have h1 := h k
    rw [gt, gt] at h1
    by_cases e : a = k
    · subst e
      rw [gt_out fun z hz => (lexLt_ne (hl.1 z hz)).symm, gt_out fun z hz => (lexLt_ne (hm.1 z hz)).symm]
    · rwa [if_neg e, if_neg e] at h1
/-- The tally with a count for a key. -/
def stL (k : List UInt8) (n : Int) : Bool → TL → TL
  | d, [] => if d then [] else [(k, n)]
  | d, (a, m) :: l => if d = false ∧ lexLt a k = false then (k, n) :: (if a = k then stL k n true l else (a, m) :: stL k n true l) else if a = k then stL k n d l else (a, m) :: stL k n d l
def setT (l : TL) (k : List UInt8) (n : Int) : TL := stL k n (decide (n = 0)) l
theorem stL_true : ∀ (k : List UInt8) (n : Int) (l : TL), stL k n true l = l.filter fun x => decide (x.1 ≠ k)
  | k, n, [] => rfl
  | k, n, (a, m) :: l => by
    rw [stL, if_neg (by simp), stL_true k n l, List.filter_cons]
    by_cases e : a = k <;> simp [e]
theorem stL_false : ∀ {k : List UInt8} {n : Int} {A B : TL}, (∀ x ∈ A, lexLt x.1 k = true) → (∀ x ∈ B, lexLt x.1 k = false) → stL k n false (A ++ B) = A ++ (k, n) :: B.filter fun x => decide (x.1 ≠ k)
  | k, n, [], [], _, _ => rfl
  | k, n, [], (b, m) :: B, _, hB => by
    rw [List.nil_append, stL, if_pos ⟨rfl, hB (b, m) (by simp)⟩, stL_true, List.filter_cons]
    by_cases e : b = k <;> simp [e]
  | k, n, (a, m) :: A, B, hA, hB => by
    have h := hA (a, m) (by simp)
    simp only at h
    rw [List.cons_append, stL, if_neg (by rw [h]; simp), if_neg (lexLt_ne h), stL_false (fun x hx => hA x (by simp [hx])) hB]
    rfl
theorem tl_split {l : TL} (hs : SK l) (k : List UInt8) : ∃ A B, l = A ++ B ∧ (∀ x ∈ A, lexLt x.1 k = true) ∧ ∀ x ∈ B, lexLt x.1 k = false := by
  induction l with
  | nil => exact ⟨[], [], rfl, by simp, by simp⟩
  | cons x l ih =>
    unfold SK at hs
    rw [List.pairwise_cons] at hs
    cases hx : lexLt x.1 k with
    | true =>
      obtain ⟨A, B, h1, h2, h3⟩ := ih hs.2
      exact ⟨x :: A, B, by rw [h1]; rfl, fun y hy => by
        rcases List.mem_cons.1 hy with rfl | hy
        · exact hx
        · exact h2 y hy, h3⟩
    | false =>
      refine ⟨[], x :: l, rfl, by simp, fun y hy => ?_⟩
      rcases List.mem_cons.1 hy with rfl | hy
      · exact hx
      · cases hq : lexLt y.1 k with
        | false => rfl
        | true => have := lexLt_trans (hs.1 y hy) hq; rw [this] at hx; cases hx
theorem SK_filter {l : TL} (p : List UInt8 × Int → Bool) (h : SK l) : SK (l.filter p) := List.Pairwise.filter p h
theorem gt_filter : ∀ (l : TL) (k k' : List UInt8), gt (l.filter fun x => decide (x.1 ≠ k)) k' = if k' = k then 0 else gt l k'
  | [], k, k' => by simp [gt]
  | (a, n) :: l, k, k' => by
    rw [List.filter_cons]
    by_cases e : a = k
    · rw [if_neg (by simp [e]), gt_filter l k k', gt]
      by_cases e2 : k' = k
      · rw [if_pos e2, if_pos e2]
      · rw [if_neg e2, if_neg e2, if_neg (by rw [e]; exact fun q => e2 q.symm)]
    · rw [if_pos (by simp [e]), gt, gt_filter l k k', gt]
      by_cases e2 : a = k'
      · rw [if_pos e2, if_neg (by rw [← e2]; exact e), if_pos e2]
      · rw [if_neg e2, if_neg e2]
theorem set_gt {l : TL} (hs : SK l) (k : List UInt8) (n : Int) (k' : List UInt8) : gt (setT l k n) k' = if k' = k then n else gt l k' := by
  unfold setT
  by_cases hn : n = 0
  · rw [decide_eq_true hn, stL_true, gt_filter, hn]
  · rw [decide_eq_false hn]
    obtain ⟨A, B, rfl, hA, hB⟩ := tl_split hs k
    rw [stL_false hA hB, gt_app, gt_app, gt, gt_filter]
    by_cases e : k' = k
    · subst e
      rw [if_neg, if_pos rfl, if_pos rfl]
      rw [List.mem_map]
      rintro ⟨x, hx, hk⟩
      exact lexLt_ne (hA x hx) hk
    · rw [if_neg (fun q : k = k' => e q.symm), if_neg e, if_neg e]
theorem set_SK {l : TL} (hs : SK l) (k : List UInt8) (n : Int) : SK (setT l k n) := by
  unfold setT
  by_cases hn : n = 0
  · rw [decide_eq_true hn, stL_true]; exact SK_filter _ hs
  · rw [decide_eq_false hn]
    obtain ⟨A, B, rfl, hA, hB⟩ := tl_split hs k
    rw [stL_false hA hB]
    unfold SK at *
    rw [List.pairwise_append] at *
    refine ⟨hs.1, List.pairwise_cons.2 ⟨fun x hx => ?_, List.Pairwise.filter _ hs.2.1⟩, fun x hx y hy => ?_⟩
    · rw [List.mem_filter] at hx
      exact lexLt_tri (hB x hx.1) (by simpa using hx.2)
    · rcases List.mem_cons.1 hy with rfl | hy
      · exact hA x hx
      · exact hs.2.2 x hx y (List.mem_filter.1 hy).1
theorem set_mem {l : TL} (hs : SK l) {k : List UInt8} {n : Int} {x : List UInt8 × Int} (hx : x ∈ setT l k n) : (x = (k, n) ∧ n ≠ 0) ∨ x ∈ l := by
  unfold setT at hx
  by_cases hn : n = 0
  · rw [decide_eq_true hn, stL_true] at hx; exact .inr (List.mem_filter.1 hx).1
  · rw [decide_eq_false hn] at hx
    obtain ⟨A, B, rfl, hA, hB⟩ := tl_split hs k
    rw [stL_false hA hB] at hx
    rcases List.mem_append.1 hx with h | h
    · exact .inr (List.mem_append.2 (.inl h))
    · rcases List.mem_cons.1 h with rfl | h
      · exact .inl ⟨rfl, hn⟩
      · exact .inr (List.mem_append.2 (.inr (List.mem_filter.1 h).1))
theorem set_Pos {l : TL} (hs : SK l) (hp : Pos l) {k : List UInt8} {n : Int} (hn : 0 ≤ n) : Pos (setT l k n) := fun x hx => by
  rcases set_mem hs hx with ⟨rfl, h⟩ | h
  · show 1 ≤ n; omega
  · exact hp x h
theorem set_len {l : TL} (hs : SK l) (k : List UInt8) (n : Int) : (setT l k n).length ≤ l.length + 1 := by
  unfold setT
  by_cases hn : n = 0
  · rw [decide_eq_true hn, stL_true]; have := List.length_filter_le (fun x : List UInt8 × Int => decide (x.1 ≠ k)) l; omega
  · rw [decide_eq_false hn]
    obtain ⟨A, B, rfl, hA, hB⟩ := tl_split hs k
    rw [stL_false hA hB]
    have := List.length_filter_le (fun x : List UInt8 × Int => decide (x.1 ≠ k)) B
    simp only [List.length_append, List.length_cons]; omega
/-- The tally with the sums. -/
def mrg : TL → TL → TL
  | [], m => m
  | l, [] => l
  | (a, x) :: l, (b, y) :: m => if lexLt a b then (a, x) :: mrg l ((b, y) :: m) else if lexLt b a then (b, y) :: mrg ((a, x) :: l) m else (a, x + y) :: mrg l m
termination_by l m => l.length + m.length
theorem mrg_nil (l : TL) : mrg l [] = l := by cases l <;> simp [mrg]
theorem mrg_cons (a b : List UInt8) (x y : Int) (l m : TL) : mrg ((a, x) :: l) ((b, y) :: m) = if lexLt a b then (a, x) :: mrg l ((b, y) :: m) else if lexLt b a then (b, y) :: mrg ((a, x) :: l) m else (a, x + y) :: mrg l m := by rw [mrg]
theorem mrg_ind {P : TL → TL → Prop} (h1 : ∀ m, P [] m) (h2 : ∀ x l, P (x :: l) []) (h3 : ∀ a x l b y m, lexLt a b = true → P l ((b, y) :: m) → P ((a, x) :: l) ((b, y) :: m)) (h4 : ∀ a x l b y m, lexLt a b = false → lexLt b a = true → P ((a, x) :: l) m → P ((a, x) :: l) ((b, y) :: m)) (h5 : ∀ a x l y m, P l m → P ((a, x) :: l) ((a, y) :: m)) : ∀ l m, P l m
  | [], m => h1 m
  | x :: l, [] => h2 x l
  | (a, x) :: l, (b, y) :: m => by
    cases hab : lexLt a b with
    | true => exact h3 a x l b y m hab (mrg_ind h1 h2 h3 h4 h5 l ((b, y) :: m))
    | false =>
      cases hba : lexLt b a with
      | true => exact h4 a x l b y m hab hba (mrg_ind h1 h2 h3 h4 h5 ((a, x) :: l) m)
      | false =>
        obtain rfl : a = b := by
          by_cases e : a = b
          · exact e
          · rw [lexLt_tri hab e] at hba; cases hba
        exact h5 a x l y m (mrg_ind h1 h2 h3 h4 h5 l m)
termination_by l m => l.length + m.length
theorem mrg_mem : ∀ (l m : TL) (z : List UInt8 × Int), z ∈ mrg l m → z.1 ∈ l.map Prod.fst ∨ z.1 ∈ m.map Prod.fst := by
  refine mrg_ind ?_ ?_ ?_ ?_ ?_
  · intro m z hz; rw [mrg] at hz; exact .inr (List.mem_map.2 ⟨z, hz, rfl⟩)
  · intro x l z hz; rw [mrg_nil] at hz; exact .inl (List.mem_map.2 ⟨z, hz, rfl⟩)
  · intro a x l b y m h ih z hz
    rw [mrg_cons, if_pos h] at hz
    rcases List.mem_cons.1 hz with rfl | hz
    · exact .inl (by simp)
    · rcases ih z hz with h | h
      · exact .inl (by simp only [List.map_cons, List.mem_cons]; exact .inr h)
      · exact .inr h
  · intro a x l b y m h h2 ih z hz
    rw [mrg_cons, if_neg (by rw [h]; simp), if_pos h2] at hz
    rcases List.mem_cons.1 hz with rfl | hz
    · exact .inr (by simp)
    · rcases ih z hz with h | h
      · exact .inl h
      · exact .inr (by simp only [List.map_cons, List.mem_cons]; exact .inr h)
  · intro a x l y m ih z hz
    rw [mrg_cons, if_neg (by rw [lexLt_irr]; simp), if_neg (by rw [lexLt_irr]; simp)] at hz
    rcases List.mem_cons.1 hz with rfl | hz
    · exact .inl (by simp)
    · rcases ih z hz with h | h
      · exact .inl (by simp only [List.map_cons, List.mem_cons]; exact .inr h)
      · exact .inr (by simp only [List.map_cons, List.mem_cons]; exact .inr h)
theorem SK_lt {a : List UInt8} {x : Int} {l : TL} (h : SK ((a, x) :: l)) {k : List UInt8} (hk : k ∈ l.map Prod.fst) : lexLt a k = true := by
  obtain ⟨z, hz, rfl⟩ := List.mem_map.1 hk
  exact (List.pairwise_cons.1 h).1 z hz
theorem mrg_SK : ∀ (l m : TL), SK l → SK m → SK (mrg l m) := by
  refine mrg_ind ?_ ?_ ?_ ?_ ?_
  · intro m _ h; rw [mrg]; exact h
  · intro x l h _; rw [mrg_nil]; exact h
  · intro a x l b y m h ih hl hm
    rw [mrg_cons, if_pos h]
    refine List.pairwise_cons.2 ⟨fun z hz => ?_, ih (List.pairwise_cons.1 hl).2 hm⟩
    rcases mrg_mem _ _ _ hz with h1 | h1
    · exact SK_lt hl h1
    · rcases List.mem_cons.1 h1 with h1 | h1
      · rw [h1]; exact h
      · exact lexLt_trans h (SK_lt hm h1)
  · intro a x l b y m h h2 ih hl hm
    rw [mrg_cons, if_neg (by rw [h]; simp), if_pos h2]
    refine List.pairwise_cons.2 ⟨fun z hz => ?_, ih hl (List.pairwise_cons.1 hm).2⟩
    rcases mrg_mem _ _ _ hz with h1 | h1
    · rcases List.mem_cons.1 h1 with h1 | h1
      · rw [h1]; exact h2
      · exact lexLt_trans h2 (SK_lt hl h1)
    · exact SK_lt hm h1
  · intro a x l y m ih hl hm
    rw [mrg_cons, if_neg (by rw [lexLt_irr]; simp), if_neg (by rw [lexLt_irr]; simp)]
    refine List.pairwise_cons.2 ⟨fun z hz => ?_, ih (List.pairwise_cons.1 hl).2 (List.pairwise_cons.1 hm).2⟩
    rcases mrg_mem _ _ _ hz with h1 | h1
    · exact SK_lt hl h1
    · exact SK_lt hm h1
theorem mrg_gt : ∀ (l m : TL), SK l → SK m → ∀ k, gt (mrg l m) k = gt l k + gt m k := by
  refine mrg_ind ?_ ?_ ?_ ?_ ?_
  · intro m _ _ k; rw [mrg, gt]; omega
  · intro x l _ _ k; rw [mrg_nil, show gt [] k = 0 from rfl]; omega
  · intro a x l b y m h ih hl hm k
    rw [mrg_cons, if_pos h]
    simp only [gt]
    rw [ih (List.pairwise_cons.1 hl).2 hm k]
    by_cases e : a = k
    · subst e
      rw [if_pos rfl, if_pos rfl, if_neg (fun q => lexLt_ne h q.symm), gt_out fun z hz q => lexLt_ne (lexLt_trans h (SK_lt hm (List.mem_map.2 ⟨z, hz, rfl⟩))) q.symm]; omega
    · rw [if_neg e, if_neg e]; simp only [gt]
  · intro a x l b y m h h2 ih hl hm k
    rw [mrg_cons, if_neg (by rw [h]; simp), if_pos h2]
    simp only [gt]
    rw [ih hl (List.pairwise_cons.1 hm).2 k]
    by_cases e : b = k
    · subst e
      rw [if_pos rfl, if_pos rfl, if_neg (fun q => lexLt_ne h2 q.symm), gt_out fun z hz q => lexLt_ne (lexLt_trans h2 (SK_lt hl (List.mem_map.2 ⟨z, hz, rfl⟩))) q.symm]; omega
    · rw [if_neg e, if_neg e]; simp only [gt]
  · intro a x l y m ih hl hm k
    rw [mrg_cons, if_neg (by rw [lexLt_irr]; simp), if_neg (by rw [lexLt_irr]; simp)]
    simp only [gt]
    rw [ih (List.pairwise_cons.1 hl).2 (List.pairwise_cons.1 hm).2 k]
    by_cases e : a = k
    · rw [if_pos e, if_pos e, if_pos e]
    · rw [if_neg e, if_neg e, if_neg e]
theorem mrg_Pos : ∀ (l m : TL), Pos l → Pos m → Pos (mrg l m) := by
  refine mrg_ind ?_ ?_ ?_ ?_ ?_
  · intro m _ h; rw [mrg]; exact h
  · intro x l h _; rw [mrg_nil]; exact h
  · intro a x l b y m h ih hl hm
    rw [mrg_cons, if_pos h]
    intro z hz
    rcases List.mem_cons.1 hz with rfl | hz
    · exact hl _ (by simp)
    · exact ih (fun w hw => hl w (by simp [hw])) hm z hz
  · intro a x l b y m h h2 ih hl hm
    rw [mrg_cons, if_neg (by rw [h]; simp), if_pos h2]
    intro z hz
    rcases List.mem_cons.1 hz with rfl | hz
    · exact hm _ (by simp)
    · exact ih hl (fun w hw => hm w (by simp [hw])) z hz
  · intro a x l y m ih hl hm
    rw [mrg_cons, if_neg (by rw [lexLt_irr]; simp), if_neg (by rw [lexLt_irr]; simp)]
    intro z hz
    rcases List.mem_cons.1 hz with rfl | hz
    · have h1 := hl (a, x) (by simp)
      have h2 := hm (a, y) (by simp)
      simp only at *; omega
    · exact ih (fun w hw => hl w (by simp [hw])) (fun w hw => hm w (by simp [hw])) z hz
theorem mrg_len : ∀ (l m : TL), (mrg l m).length ≤ l.length + m.length := by
  refine mrg_ind ?_ ?_ ?_ ?_ ?_
  · intro m; rw [mrg]; simp
  · intro x l; rw [mrg_nil]; simp
  · intro a x l b y m h ih
    rw [mrg_cons, if_pos h]; simp only [List.length_cons] at *; omega
  · intro a x l b y m h h2 ih
    rw [mrg_cons, if_neg (by rw [h]; simp), if_pos h2]; simp only [List.length_cons] at *; omega
  · intro a x l y m ih
    rw [mrg_cons, if_neg (by rw [lexLt_irr]; simp), if_neg (by rw [lexLt_irr]; simp)]; simp only [List.length_cons] at *; omega
end Go.VL


namespace Go.VL
open Go.VN
set_option linter.unusedVariables false
set_option linter.unusedSimpArgs false
/-! ### Keys cut -/
def cutP : Nat → List UInt8 → List UInt8
  | _, [] => []
  | p, x :: s => if x = 47 then (if p ≤ 1 then [] else x :: cutP (p - 1) s) else x :: cutP p s
theorem join_cons2 (x : List UInt8) (y : List UInt8) (r : List (List UInt8)) (sep : List UInt8) : Lib.join (x :: y :: r) sep = x ++ (sep ++ Lib.join (y :: r) sep) := by
  rw [Lib.join_cons, Lib.join_cons, Lib.joinTail, Lib.joinTail, List.map_cons, List.flatten_cons, List.append_assoc]
theorem join_ext (a : UInt8) (h : List UInt8) (r : List (List UInt8)) (sep : List UInt8) : Lib.join ((a :: h) :: r) sep = a :: Lib.join (h :: r) sep := by
  rw [Lib.join_cons, Lib.join_cons]; rfl
theorem join_cut : ∀ (s : List UInt8) (p : Nat), 1 ≤ p → Lib.join ((splitL 47 s).take p) [47] = cutP p s
  | [], p, hp => by
    obtain ⟨q, rfl⟩ : ∃ q, p = q + 1 := ⟨p - 1, by omega⟩
    show Lib.join (([] : List UInt8) :: (([] : List (List UInt8)).take q)) [47] = []
    rw [List.take_nil, Lib.join_one]
  | x :: s, p, hp => by
    obtain ⟨h, t, e⟩ : ∃ h t, splitL 47 s = h :: t := by
      obtain ⟨h, t, e, _⟩ := hasE_split s
      exact ⟨h, t, e⟩
    obtain ⟨q, rfl⟩ : ∃ q, p = q + 1 := ⟨p - 1, by omega⟩
    have ih := join_cut s
    unfold splitL at *
    rw [spK, cutP]
    by_cases hx : x = 47
    · rw [if_pos hx, if_pos hx, if_neg (by simp), List.take_succ_cons]
      by_cases hq : q + 1 ≤ 1
      · obtain rfl : q = 0 := by omega
        rw [if_pos (by omega), List.take_zero, Lib.join_one]
      · rw [if_neg hq, Nat.add_sub_cancel, ← ih q (by omega), e]
        obtain ⟨r, rfl⟩ : ∃ r, q = r + 1 := ⟨q - 1, by omega⟩
        rw [List.take_succ_cons, join_cons2, hx]; rfl
    · rw [if_neg hx, if_neg hx, ← ih (q + 1) (by omega), e, consH, List.take_succ_cons, List.take_succ_cons, join_ext]
theorem cutP_len : ∀ (s : List UInt8) (p : Nat), (cutP p s).length ≤ s.length
  | [], p => by simp [cutP]
  | x :: s, p => by
    have h1 := cutP_len s p
    have h2 := cutP_len s (p - 1)
    rw [cutP]
    split
    · split <;> simp only [List.length_cons, List.length_nil] <;> omega
    · simp only [List.length_cons]; omega
/-! ### Sums of counts -/
def totL (f : List UInt8 → Bool) : TL → Int
  | [] => 0
  | (a, n) :: l => (if f a = true then n else 0) + totL f l
theorem totL_app (f : List UInt8 → Bool) : ∀ (l m : TL), totL f (l ++ m) = totL f l + totL f m
  | [], m => by simp [totL]
  | (a, n) :: l, m => by rw [List.cons_append, totL, totL, totL_app f l m]; omega
theorem totL_mrg (f : List UInt8 → Bool) : ∀ (l m : TL), totL f (mrg l m) = totL f l + totL f m := by
  refine mrg_ind ?_ ?_ ?_ ?_ ?_
  · intro m; rw [mrg, totL]; omega
  · intro x l; rw [mrg_nil, show totL f [] = 0 from rfl]; omega
  · intro a x l b y m h ih
    rw [mrg_cons, if_pos h]; simp only [totL] at *; omega
  · intro a x l b y m h h2 ih
    rw [mrg_cons, if_neg (by rw [h]; simp), if_pos h2]; simp only [totL] at *; omega
  · intro a x l y m ih
    rw [mrg_cons, if_neg (by rw [lexLt_irr]; simp), if_neg (by rw [lexLt_irr]; simp)]; simp only [totL] at *
    split <;> omega
theorem totL_filter (f : List UInt8 → Bool) (k : List UInt8) : ∀ {l : TL}, SK l → totL f (l.filter fun x => decide (x.1 ≠ k)) = totL f l - if f k = true then gt l k else 0
  | [], _ => by simp [totL, gt]
  | (a, n) :: l, hs => by
    have ih := totL_filter f k (List.pairwise_cons.1 hs).2
    rw [List.filter_cons]
    by_cases e : a = k
    · subst e
      rw [if_neg (by simp), ih, totL, gt, if_pos rfl, gt_out fun z hz q => lexLt_ne (SK_lt hs (List.mem_map.2 ⟨z, hz, rfl⟩)) q.symm]
      split <;> omega
    · rw [if_pos (by simp [e]), totL, totL, gt, if_neg e, ih]; omega
theorem totL_set (f : List UInt8 → Bool) {l : TL} (hs : SK l) (k : List UInt8) (n : Int) : totL f (setT l k n) = totL f l + if f k = true then n - gt l k else 0 := by
  unfold setT
  by_cases hn : n = 0
  · rw [decide_eq_true hn, stL_true, totL_filter f k hs, hn]; split <;> omega
  · rw [decide_eq_false hn]
    obtain ⟨A, B, rfl, hA, hB⟩ := tl_split hs k
    have hB' : SK B := (List.pairwise_append.1 hs).2.1
    have hk : gt (A ++ B) k = gt B k := by
      rw [gt_app, if_neg]
      rw [List.mem_map]
      rintro ⟨x, hx, hk⟩
      exact lexLt_ne (hA x hx) hk
    rw [stL_false hA hB, totL_app, totL_app, totL, totL_filter f k hB', hk]
    split <;> omega
theorem totL_nn {f : List UInt8 → Bool} : ∀ {l : TL}, Pos l → 0 ≤ totL f l
  | [], _ => Int.le_refl _
  | (a, n) :: l, h => by
    have h1 := h (a, n) (by simp)
    have h2 := totL_nn (f := f) (l := l) fun x hx => h x (by simp [hx])
    rw [totL]; split <;> simp only at h1 <;> omega
/-! ### Differences -/
def minL (l m : TL) : TL := l.filterMap fun x => if 0 < x.2 - gt m x.1 then some (x.1, x.2 - gt m x.1) else none
theorem minL_mem {l m : TL} {z : List UInt8 × Int} (h : z ∈ minL l m) : 0 < z.2 ∧ ∃ x ∈ l, x.1 = z.1 ∧ z.2 = x.2 - gt m x.1 := by
  obtain ⟨x, hx, h2⟩ := List.mem_filterMap.1 h
  split at h2
  · rename_i hp
    simp only [Option.some.injEq] at h2
    subst h2
    exact ⟨hp, x, hx, rfl, rfl⟩
  · cases h2
theorem minL_SK {l m : TL} (h : SK l) : SK (minL l m) := by
  unfold minL SK
  refine List.Pairwise.filterMap _ (fun a b hab c hc d hd => ?_) h
  split at hc
  · split at hd
    · simp only [Option.some.injEq] at hc hd
      subst hc; subst hd; exact hab
    · cases hd
  · cases hc
theorem minL_in (m : TL) : ∀ {l : TL}, SK l → (∀ x ∈ l, gt m x.1 ≤ x.2) → ∀ k, k ∈ l.map Prod.fst → gt (minL l m) k = gt l k - gt m k
  | [], _, _, k, h => by cases h
  | (a, n) :: l, hs, hm, k, hk => by
    have ih := minL_in m (List.pairwise_cons.1 hs).2 fun x hx => hm x (by simp [hx])
    have h0 := hm (a, n) (by simp)
    have ho : ∀ z ∈ minL l m, z.1 ≠ a := fun z hz q => by
      obtain ⟨_, x, hx, h1, _⟩ := minL_mem hz
      exact lexLt_ne (SK_lt hs (List.mem_map.2 ⟨x, hx, rfl⟩)) (by rw [h1, q])
    unfold minL at *
    rw [List.filterMap_cons]
    simp only at *
    by_cases hp : 0 < n - gt m a
    · rw [if_pos hp]
      simp only [gt]
      by_cases e : a = k
      · rw [if_pos e, if_pos e, e]
      · rw [if_neg e, if_neg e]
        exact ih k ((List.mem_cons.1 hk).resolve_left fun q => e q.symm)
    · rw [if_neg hp]
      simp only [gt]
      by_cases e : a = k
      · subst e
        rw [if_pos rfl, gt_out ho]; omega
      · rw [if_neg e]
        exact ih k ((List.mem_cons.1 hk).resolve_left fun q => e q.symm)
theorem minL_gt {l m : TL} (hs : SK l) (hp : Pos l) (hpm : Pos m) (h : ∀ k, gt m k ≤ gt l k) (k : List UInt8) : gt (minL l m) k = gt l k - gt m k := by
  by_cases hk : k ∈ l.map Prod.fst
  · exact minL_in m hs (fun x hx => by rw [← gt_mem hs hx]; exact h x.1) k hk
  · have h1 : gt l k = 0 := gt_out fun x hx q => hk (List.mem_map.2 ⟨x, hx, q⟩)
    have h2 := h k
    have h3 := gt_nn hpm k
    rw [gt_out fun z hz q => by
      obtain ⟨_, x, hx, e1, _⟩ := minL_mem hz
      exact hk (List.mem_map.2 ⟨x, hx, by rw [e1, q]⟩)]
    omega
theorem minL_Pos (l m : TL) : Pos (minL l m) := fun z hz => by
  have := (minL_mem hz).1; omega
/-! ### Counts set one by one -/
/-- What folds of settings come to. -/
theorem fold_set {α : Type} (key : α → List UInt8) (val : TL → α → Int) (hv : ∀ (T : TL) x, SK T → Pos T → 0 ≤ val T x) : ∀ (l : List α) (T : TL), SK T → Pos T → SK (l.foldl (fun T x => setT T (key x) (val T x)) T) ∧ Pos (l.foldl (fun T x => setT T (key x) (val T x)) T)
  | [], T, h1, h2 => ⟨h1, h2⟩
  | x :: l, T, h1, h2 => fold_set key val hv l _ (set_SK h1 _ _) (set_Pos h1 h2 (hv T x h1 h2))
/-- The sum of the counts whose keys are cut to a key. -/
def sumC (c : List UInt8 → List UInt8) (k : List UInt8) (l : TL) : Int := totL (fun a => decide (c a = k)) l
def accR (c : List UInt8 → List UInt8) (T : TL) (x : List UInt8 × Int) : TL := setT T (c x.1) (gt T (c x.1) + x.2)
theorem accR_gt (c : List UInt8 → List UInt8) (k : List UInt8) : ∀ (l : TL) (T : TL), SK T → gt (l.foldl (accR c) T) k = gt T k + sumC c k l
  | [], T, h => by simp [sumC, totL]
  | (a, n) :: l, T, h => by
    rw [List.foldl_cons, accR_gt c k l (accR c T (a, n)) (set_SK h _ _), accR, set_gt h]
    unfold sumC
    rw [totL]
    simp only [decide_eq_true_eq]
    by_cases e : k = c a
    · subst e; simp only [if_true]; omega
    · rw [if_neg e, if_neg (fun q => e q.symm)]; omega
theorem accR_SK (c : List UInt8 → List UInt8) : ∀ (l : TL) (T : TL), SK T → SK (l.foldl (accR c) T)
  | [], T, h => h
  | x :: l, T, h => accR_SK c l _ (set_SK h _ _)
theorem accR_Pos (c : List UInt8 → List UInt8) : ∀ (l : TL) (T : TL), SK T → Pos T → Pos l → Pos (l.foldl (accR c) T)
  | [], T, h, hp, _ => hp
  | x :: l, T, h, hp, hl => accR_Pos c l _ (set_SK h _ _) (set_Pos h hp (by have := gt_nn hp (c x.1); have := hl x (by simp); omega)) fun y hy => hl y (by simp [hy])
/-- The reference's way: an end as soon as a count is too great. -/
def prR (c : List UInt8 → List UInt8) : TL → TL → Option TL
  | T, [] => some T
  | T, x :: l => if 1000000 < gt T (c x.1) + x.2 then none else prR c (accR c T x) l
theorem prR_eq (c : List UInt8 → List UInt8) : ∀ (l T : TL), SK T → Pos T → Pos l → (∀ x ∈ T, x.2 ≤ 1000000) → prR c T l = if (l.foldl (accR c) T).any (fun x => decide (1000000 < x.2)) = true then none else some (l.foldl (accR c) T)
  | [], T, h, hp, _, hb => by
    rw [prR, List.foldl_nil, if_neg]
    rw [List.any_eq_true]
    rintro ⟨x, hx, h2⟩
    have := hb x hx
    simp only [decide_eq_true_eq] at h2; omega
  | x :: l, T, h, hp, hl, hb => by
    have hx := hl x (by simp)
    have hn := gt_nn hp (c x.1)
    have hl2 : Pos l := fun y hy => hl y (by simp [hy])
    have hS := set_SK h (c x.1) (gt T (c x.1) + x.2)
    have hP := set_Pos h hp (k := c x.1) (n := gt T (c x.1) + x.2) (by omega)
    rw [prR, List.foldl_cons]
    by_cases hc : 1000000 < gt T (c x.1) + x.2
    · rw [if_pos hc, if_pos]
      have h1 := accR_gt c (c x.1) l (accR c T x) hS
      rw [accR, set_gt h, if_pos rfl] at h1
      have h2 := totL_nn (f := fun a => decide (c a = c x.1)) hl2
      have h3 : gt (l.foldl (accR c) (setT T (c x.1) (gt T (c x.1) + x.2))) (c x.1) ≠ 0 := by
        rw [h1]; unfold sumC; omega
      obtain ⟨z, hz, h4, h5⟩ := gt_nz h3
      rw [List.any_eq_true]
      refine ⟨z, hz, decide_eq_true ?_⟩
      rw [h5, h1]; unfold sumC; omega
    · rw [if_neg hc]
      exact prR_eq c l (accR c T x) hS hP hl2 fun y hy => by
        rcases set_mem h hy with ⟨rfl, _⟩ | hy
        · show gt T (c x.1) + x.2 ≤ 1000000; omega
        · exact hb y hy
/-- Entries of a map: keys that differ. -/
theorem mPut_gt (k : List UInt8) (n : Int) (k' : List UInt8) : ∀ l : TL, gt (mPut Prod.fst (k, n) l) k' = if k' = k then n else gt l k'
  | [] => by
    rw [mPut]
    by_cases e : k' = k
    · rw [if_pos e, gt, if_pos e.symm]
    · rw [if_neg e]
      show (if k = k' then n else (0 : Int)) = 0
      rw [if_neg fun q => e q.symm]
  | (a, m) :: l => by
    rw [mPut]
    simp only
    by_cases h : a = k
    · subst h
      rw [if_pos rfl, gt, gt]
      by_cases e : k' = a
      · rw [if_pos e, if_pos e.symm]
      · rw [if_neg e, if_neg fun q => e q.symm, if_neg fun q => e q.symm]
    · rw [if_neg h, gt, gt, mPut_gt k n k' l]
      by_cases e : a = k'
      · rw [if_pos e, if_neg (by rw [← e]; exact h), if_pos e]
      · rw [if_neg e, if_neg e]
theorem mPut_keys {α : Type} {key : α → List UInt8} (y : α) : ∀ l : List α, (mPut key y l).map key = if key y ∈ l.map key then l.map key else l.map key ++ [key y]
  | [] => by simp [mPut]
  | x :: l => by
    rw [mPut]
    by_cases h : key x = key y
    · rw [if_pos h, List.map_cons, List.map_cons, if_pos (by rw [h]; simp), h]
    · rw [if_neg h, List.map_cons, mPut_keys y l, List.map_cons]
      by_cases e : key y ∈ l.map key
      · rw [if_pos e, if_pos (by simp only [List.mem_cons]; exact .inr e)]
      · rw [if_neg e, if_neg (by simp only [List.mem_cons, not_or]; exact ⟨fun q => h q.symm, e⟩)]; rfl
theorem mPut_nodup {α : Type} {key : α → List UInt8} (y : α) {l : List α} (h : (l.map key).Nodup) : ((mPut key y l).map key).Nodup := by
  rw [mPut_keys]
  split
  · exact h
  · rename_i hk
    rw [List.nodup_append]
    refine ⟨h, by simp, fun a ha b hb => ?_⟩
    rw [List.mem_singleton] at hb
    subst hb
    intro e
    exact hk (e ▸ ha)
theorem mGet_gt (k : List UInt8) : ∀ l : TL, (match mGet Prod.fst k l with | some x => x.2 | none => 0) = gt l k
  | [] => rfl
  | (a, n) :: l => by
    rw [mGet, gt]
    simp only
    by_cases h : a = k
    · rw [if_pos h, if_pos h]
    · rw [if_neg h, if_neg h]; exact mGet_gt k l
def accM (c : List UInt8 → List UInt8) (M : TL) (x : List UInt8 × Int) : TL := mPut Prod.fst (c x.1, gt M (c x.1) + x.2) M
theorem accM_gt (c : List UInt8 → List UInt8) (k : List UInt8) : ∀ (l M : TL), gt (l.foldl (accM c) M) k = gt M k + sumC c k l
  | [], M => by simp [sumC, totL]
  | (a, n) :: l, M => by
    rw [List.foldl_cons, accM_gt c k l, accM, mPut_gt]
    unfold sumC
    rw [totL]
    simp only [decide_eq_true_eq]
    by_cases e : k = c a
    · subst e; simp only [if_true]; omega
    · rw [if_neg e, if_neg (fun q => e q.symm)]; omega
theorem accM_nodup (c : List UInt8 → List UInt8) : ∀ (l M : TL), (M.map Prod.fst).Nodup → ((l.foldl (accM c) M).map Prod.fst).Nodup
  | [], M, h => h
  | x :: l, M, h => accM_nodup c l _ (mPut_nodup _ h)
theorem accM_Pos (c : List UInt8 → List UInt8) {l : TL} (hl : Pos l) {k : List UInt8} (hk : k ∈ (l.foldl (accM c) []).map Prod.fst) : 1 ≤ gt (l.foldl (accM c) []) k := by
  have key : ∀ (l M : TL), Pos l → (∀ k, k ∈ M.map Prod.fst → 1 ≤ gt M k) → ∀ k, k ∈ (l.foldl (accM c) M).map Prod.fst → 1 ≤ gt (l.foldl (accM c) M) k := fun l => by
    induction l with
    | nil => intro M _ h; exact h
    | cons x l ih =>
      intro M hl h
      have h0 : 0 ≤ gt M (c x.1) := by
        by_cases e : c x.1 ∈ M.map Prod.fst
        · have := h _ e; omega
        · rw [gt_out fun z hz q => e (List.mem_map.2 ⟨z, hz, q⟩)]; omega
      refine ih _ (fun y hy => hl y (by simp [hy])) fun k hk => ?_
      have hx := hl x (by simp)
      rw [accM] at hk ⊢
      rw [mPut_gt]
      by_cases e : k = c x.1
      · rw [if_pos e]; omega
      · rw [if_neg e]
        refine h k ?_
        rw [mPut_keys] at hk
        split at hk
        · exact hk
        · rcases List.mem_append.1 hk with h | h
          · exact h
          · simp at h; exact absurd h e
  exact key l [] hl (by simp) k hk
/-- Keys that are sorted, each with its count. -/
theorem withC_gt (M : TL) (k : List UInt8) : ∀ ks : List (List UInt8), gt (ks.map fun k => (k, gt M k)) k = if k ∈ ks then gt M k else 0
  | [] => rfl
  | a :: ks => by
    rw [List.map_cons, gt, withC_gt M k ks]
    by_cases e : a = k
    · rw [if_pos e, if_pos (by simp [e]), e]
    · rw [if_neg e]
      by_cases h : k ∈ ks
      · rw [if_pos h, if_pos (by simp [h])]
      · rw [if_neg h, if_neg (by simp [h]; exact fun q => e q.symm)]
end Go.VL


namespace Go.VL
open Go.RowKit
set_option linter.unusedVariables false
def f2g (i0 a b i : Nat) : Nat := if i = i0 then a else b
theorem fits_new2g {h : Hp} {a b i0 i1 : Nat} {te te2 : TypeId} {l l2 : List PV} {zs : List Nat} (hi : i0 ≠ i1) (hl0 : i0 < 500) (hl1 : i1 < 500) (ha : look h a = none) (hb : look h b = none) (hab : a ≠ b) (hka : a < 1000) (hkb : b < 1000) (hz : ∀ id ∈ zs, (look h id).isSome = true) :
    Fits h (f2g i0 a b) [] [(i0, (.pu te l, false)), (i1, (.pu te2 l2, false))] zs (put (put (frzs h zs) a (.pu te l, false)) b (.pu te2 l2, false)) none where
  inj := fun i j hi hj hf => by
    have hi := hi.elim (fun h => absurd h dom_nil) domB2
    have hj := hj.elim (fun h => absurd h dom_nil) domB2
    have e1 : f2g i0 a b i0 = a := if_pos rfl
    have e2 : f2g i0 a b i1 = b := if_neg (by omega)
    rcases hi with rfl | rfl <;> rcases hj with rfl | rfl
    · rfl
    · rw [e1, e2] at hf; exact absurd hf hab
    · rw [e1, e2] at hf; exact absurd hf.symm hab
    · rfl
  wf0 := fun id bx z hl => by cases hl
  inp := fun i bx z hl => by cases hl
  frz := fun id hid => ⟨hz id hid, fun i hi => absurd hi dom_nil⟩
  new := fun i hi2 _ => by
    have e1 : f2g i0 a b i0 = a := if_pos rfl
    have e2 : f2g i0 a b i1 = b := if_neg (by omega)
    rcases domB2 hi2 with rfl | rfl
    · rw [e1]; exact ⟨ha, hka⟩
    · rw [e2]; exact ⟨hb, hkb⟩
  mv := fun i hi => absurd hi dom_nil
  lo0 := fun i hi => absurd hi dom_nil
  lo1 := fun i hi2 => by rcases domB2 hi2 with rfl | rfl <;> left <;> assumption
  pin := fun i hi => absurd hi dom_nil
  only := fun j hj => by cases hj
  outA := fun i bx z hl => by
    rcases lookB2 hi hl with ⟨rfl, he⟩ | ⟨rfl, he⟩
    · cases he
      rw [show f2g i a b i = a from if_pos rfl, look_put, if_neg hab, look_put, if_pos rfl]; rfl
    · cases he
      rw [show f2g i0 a b i = b from if_neg (by omega), look_put, if_pos rfl]; rfl
  outB := fun i hi => absurd hi dom_nil
  outC := fun j hj => by
    have h1 : j ≠ a := fun e => hj i0 (.inr (by simp [look])) (by rw [e]; exact if_pos rfl)
    have h2 : j ≠ b := fun e => hj i1 (.inr (by simp only [look]; split <;> simp)) (by rw [e]; exact if_neg (by omega))
    rw [look_put, if_neg h2, look_put, if_neg h1, look_scrub0]
section
variable {X : Ctx} {N : Nat} {R : AS → Prop} {k : List KI} {σ : AS} {ops : Array Oper} {D D' : Option (List Fl)} {rest : List Oper} {env env' : List (Nat × AV)} {h h' : Hp} {n n' : Nat} {dst : Option Tmp} {t d : Tmp} {op : Op} {ty tx t' : TypeId} {ps : String} {af : Array Edge}
/-- A call that hands back a value with two own slices. -/
theorem R_callN2 {fo : Operand} {al : List Operand} {tl : List TypeId} {g : FuncId} {xs : List AV} {pas : List PA} {ids : List Nat} {te te2 : TypeId} {l l2 : List PV} {i0 i1 : Nat} {h1' h2' : Hp} {y v : AV} (hs : SpcS X g xs [] y [(i0, (.pu te l, false)), (i1, (.pu te2 l2, false))]) (hf : EvR env fo (.one (.pv (.clo g []))) := by first | exact .fn | exact ⟨rfl⟩)
    (hv : VOs h env al pas ids := by repeat (first | exact .nil | (apply VOs.cons; first | exact .tmp rfl | exact .ci rfl | exact .cb | exact .cs rfl | exact .of rfl | exact .fn | (apply EvR.cagg; repeat (first | exact OfL.nil | apply OfL.int | apply OfL.bool | apply OfL.str | apply OfL.nilS | (apply OfL.other; rfl; rfl)))) | exact VA.one (.pv rfl) | exact VA.one .nil | exact VA.one (.own rfl (fun _ => rfl) (by first | rfl | omega | (simp only [List.length_set, List.length_append, List.length_cons, List.length_nil, List.length_take, List.length_drop, List.length_replicate, List.length_map, List.length_reverse] <;> omega) | simp)) | exact VA.one (.ownTake rfl (fun _ => rfl) (by first | omega | simp)) | apply VA.agg | exact VL.nil | exact VL.pvs rfl | apply VL.cons | exact VC.pv rfl | exact VC.nil | exact VC.own rfl (fun _ => rfl) (by first | rfl | omega | (simp only [List.length_set, List.length_append, List.length_cons, List.length_nil, List.length_take, List.length_drop, List.length_replicate, List.length_map, List.length_reverse] <;> omega) | simp))) (hx : pas.map PA.av = xs := by exact rfl)
    (hne : Nat.beq i0 i1 = false := by rfl) (hl0 : Nat.blt i0 500 = true := by rfl) (hl1 : Nat.blt i1 500 = true := by rfl)
    (hn : look h n = none := by rfl) (hn2 : look h (n + 1) = none := by rfl) (hk1 : Nat.blt (n + 1) 1000 = true := by rfl) (hz : (ids.all fun i => (look h i).isSome) = true := by rfl) (hh : FrzR h ids h1' := by repeat (first | exact FrzR.nil | (apply FrzR.cons; rfl; (repeat (first | exact .hit | exact .nil | (apply PutR.miss; rfl))))))
    (hp : PutR h1' n (.pu te l, false) h2' := by repeat (first | exact .hit | exact .nil | (apply PutR.miss; rfl))) (hp2 : PutR h2' (n + 1) (.pu te2 l2, false) h' := by repeat (first | exact .hit | exact .nil | (apply PutR.miss; rfl)))
    (hy : y.ren (f2g i0 n (n + 1)) = v := by exact rfl) (hfl : FlR D env (.call ⟨.value fo, ⟨al⟩, ⟨tl⟩⟩) v (.e h' none) D' := by first | exact .seq | exact .drawn rfl) (hK : Rn X N R k ops D' rest ⟨(d, v) :: env, h', n + 2⟩) : Rn X N R k ops D (⟨some d, .call ⟨.value fo, ⟨al⟩, ⟨tl⟩⟩, ty, ps, af, none⟩ :: rest) ⟨env, h, n⟩ :=
  have hlt : n + 1 < 1000 := lt1k hk1
  have hne2 : i0 ≠ i1 := by intro e; subst e; simp at hne
  R_callS (f := f2g i0 n (n + 1)) (n' := n + 2) (zs := ids) (h' := h') (m := none) hs hf (by rw [← hp2.eq, ← hp.eq, ← hh.eq]; exact fits_new2g hne2 (lt5h hl0) (lt5h hl1) hn hn2 (by omega) (by omega) (by omega) (all_some hz)) (by
    rw [← hx]; exact hv.args fun id hid => hid) (fun a e => by cases e) (by rw [hy]; exact hfl) (by rw [hy]; exact hK)
end
end Go.VL


namespace Go.VL
open Go.RowKit
set_option linter.unusedVariables false
theorem walkP {P Q : Prop} (h : Kept Q → P := by
  intro hQ
  first
    | (refine g_rn ?_; first | refine R_g_yes (hK := ?_) | refine R_g_no (hK := ?_) | refine R_g_un (hK := ?_) | (refine g_mv ?_; first | refine ⟨R_move (hK := ?_)⟩) | (refine g_as ?_; first | refine ⟨R_assign (hK := ?_)⟩) | (refine g_pk ?_; first | refine ⟨R_pick_t (hK := ?_)⟩ | refine ⟨R_pick_f (hK := ?_)⟩) | (refine g_ld ?_; first | refine ⟨R_ld (hK := ?_)⟩ | refine ⟨R_ldO (hK := ?_)⟩ | refine ⟨R_ldM (hK := ?_)⟩ | refine ⟨R_ldF (hK := ?_)⟩ | refine ⟨R_ldA (hK := ?_)⟩ | refine ⟨R_ldFA (hK := ?_)⟩ | refine ⟨R_ldMA (hK := ?_)⟩) | (refine g_bi ?_; first | refine ⟨R_lss (hK := ?_)⟩ | refine ⟨R_eql (hK := ?_)⟩ | refine ⟨R_add (hK := ?_)⟩ | refine ⟨R_sub (hK := ?_)⟩ | refine ⟨R_neq (hK := ?_)⟩ | refine ⟨R_gtr (hK := ?_)⟩ | refine ⟨R_leq (hK := ?_)⟩ | refine ⟨R_geq (hK := ?_)⟩ | refine ⟨R_mul (hK := ?_)⟩ | refine ⟨R_quo (hK := ?_)⟩ | refine ⟨R_rem (hK := ?_)⟩ | refine ⟨R_seql (hK := ?_)⟩ | refine ⟨R_sneq (hK := ?_)⟩ | refine ⟨R_sadd (hK := ?_)⟩ | refine ⟨R_beql (hK := ?_)⟩ | refine ⟨R_bneq (hK := ?_)⟩ | refine ⟨R_nil1 (hK := ?_)⟩ | refine ⟨R_nil2 (hK := ?_)⟩ | refine ⟨R_nilN1 (hK := ?_)⟩ | refine ⟨R_nilN2 (hK := ?_)⟩ | refine ⟨R_nilU1 (hK := ?_)⟩ | refine ⟨R_nilU2 (hK := ?_)⟩ | refine ⟨R_ifn1 (hK := ?_)⟩ | refine ⟨R_ifn2 (hK := ?_)⟩ | refine ⟨R_ifz1 (hK := ?_)⟩ | refine ⟨R_ifz2 (hK := ?_)⟩ | refine ⟨R_slt (hK := ?_)⟩ | refine ⟨R_sle (hK := ?_)⟩ | refine ⟨R_sgt (hK := ?_)⟩ | refine ⟨R_sge (hK := ?_)⟩) | (refine g_ca ?_; first | refine ⟨R_len (hK := ?_)⟩ | refine ⟨R_lenO (hK := ?_)⟩ | refine ⟨R_lenS (hK := ?_)⟩ | refine ⟨R_len0 (hK := ?_)⟩ | refine ⟨R_lenU (hK := ?_)⟩ | refine ⟨R_app (hK := ?_)⟩ | refine ⟨R_app0 (hK := ?_)⟩ | refine ⟨R_appS (hK := ?_)⟩ | refine ⟨R_min (hK := ?_)⟩ | refine ⟨R_max (hK := ?_)⟩) | (refine g_ix ?_; first | refine ⟨R_idx (hK := ?_)⟩ | refine ⟨R_idxO (hK := ?_)⟩ | refine ⟨R_idxA (hK := ?_)⟩ | refine ⟨R_idxP (hK := ?_)⟩) | (refine g_un ?_; first | refine ⟨R_not (hK := ?_)⟩ | refine ⟨R_notb (hK := ?_)⟩ | refine ⟨R_neg (hK := ?_)⟩) | (refine g_ex ?_; first | refine ⟨R_ext (hK := ?_)⟩ | refine ⟨R_extA (hK := ?_)⟩) | (refine g_fl ?_; first | refine ⟨R_fld (hK := ?_)⟩ | refine ⟨R_fldA (hK := ?_)⟩) | (refine g_sl ?_; first | refine ⟨R_upto (hK := ?_)⟩ | refine ⟨R_from (hK := ?_)⟩ | refine ⟨R_both (hK := ?_)⟩ | refine ⟨R_sall (hK := ?_)⟩ | refine ⟨R_uptoO (hK := ?_)⟩ | refine ⟨R_sfrom (hK := ?_)⟩ | refine ⟨R_supto (hK := ?_)⟩ | refine ⟨R_sboth (hK := ?_)⟩) | (refine g_st ?_; first | refine ⟨R_stM (hK := ?_)⟩ | refine ⟨R_stO (hK := ?_)⟩) | (refine g_bx ?_; first | refine ⟨R_box (hK := ?_)⟩) | (refine g_al ?_; first | refine ⟨R_allocB (hK := ?_)⟩ | refine ⟨R_alloc (hK := ?_)⟩) | (refine g_mk ?_; first | refine ⟨R_make (e := eI) (a := 0) (hz := by rfl) (hK := ?_)⟩ | refine ⟨R_make (e := eS) (a := []) (hz := by rfl) (hK := ?_)⟩) | (refine g_bs ?_; first | refine ⟨R_bsl eI (hK := ?_)⟩ | refine ⟨R_bsl eS (hK := ?_)⟩) | (refine g_bu ?_; first | refine ⟨R_build (hK := ?_)⟩ | refine ⟨R_build2 (hK := ?_)⟩) | (refine g_mf ?_; first | refine ⟨R_mkfn0 (hK := ?_)⟩ | refine ⟨R_mkfn (hK := ?_)⟩ | refine ⟨R_mkfnC (hK := ?_)⟩) | (refine g_nc ?_; first | refine ⟨R_nck1 (hK := ?_)⟩ | refine ⟨R_nck2 (hK := ?_)⟩ | refine ⟨R_nck3 (hK := ?_)⟩ | refine ⟨R_nck4 (hK := ?_)⟩) | (refine g_mi ?_; first | refine ⟨R_ifc (hK := ?_)⟩) | (refine g_cv ?_; first | refine ⟨R_conv (hK := ?_)⟩ | refine ⟨R_convS (hK := ?_)⟩ | refine ⟨R_cvBS (hK := ?_)⟩ | refine ⟨R_cvSB (hK := ?_)⟩) | (refine g_si ?_; first | refine ⟨R_sidx (hK := ?_)⟩) | (refine g_fa ?_; first | refine ⟨R_faddr (hK := ?_)⟩ | refine ⟨R_faddrM (hK := ?_)⟩) | refine Rn.nil ?_ | refine Rn.nilD (hK := ?_))
    | refine W_seq ?_
    | refine W_reg ?_
    | refine W_draw ?_
    | refine N_code ?_
    | refine W_blk ?_
    | refine W_cond_t (ht := ?_)
    | refine W_cond_f (ht := ?_)
    | refine W_skip ?_
    | refine W_exit ?_
    | refine X_hit ?_
    | refine X_code ?_
    | refine N_blk ?_
    | refine X_stop ?_
    | refine X_miss (h := ?_)
    | refine W_label ?_
    | refine W_loop ?_
    | refine W_ret ?_
    | refine N_nil ?_
    | refine N_stop ?_
  repeat (first
    | (refine g_rn ?_; first | refine R_g_yes (hK := ?_) | refine R_g_no (hK := ?_) | refine R_g_un (hK := ?_) | (refine g_mv ?_; first | refine ⟨R_move (hK := ?_)⟩) | (refine g_as ?_; first | refine ⟨R_assign (hK := ?_)⟩) | (refine g_pk ?_; first | refine ⟨R_pick_t (hK := ?_)⟩ | refine ⟨R_pick_f (hK := ?_)⟩) | (refine g_ld ?_; first | refine ⟨R_ld (hK := ?_)⟩ | refine ⟨R_ldO (hK := ?_)⟩ | refine ⟨R_ldM (hK := ?_)⟩ | refine ⟨R_ldF (hK := ?_)⟩ | refine ⟨R_ldA (hK := ?_)⟩ | refine ⟨R_ldFA (hK := ?_)⟩ | refine ⟨R_ldMA (hK := ?_)⟩) | (refine g_bi ?_; first | refine ⟨R_lss (hK := ?_)⟩ | refine ⟨R_eql (hK := ?_)⟩ | refine ⟨R_add (hK := ?_)⟩ | refine ⟨R_sub (hK := ?_)⟩ | refine ⟨R_neq (hK := ?_)⟩ | refine ⟨R_gtr (hK := ?_)⟩ | refine ⟨R_leq (hK := ?_)⟩ | refine ⟨R_geq (hK := ?_)⟩ | refine ⟨R_mul (hK := ?_)⟩ | refine ⟨R_quo (hK := ?_)⟩ | refine ⟨R_rem (hK := ?_)⟩ | refine ⟨R_seql (hK := ?_)⟩ | refine ⟨R_sneq (hK := ?_)⟩ | refine ⟨R_sadd (hK := ?_)⟩ | refine ⟨R_beql (hK := ?_)⟩ | refine ⟨R_bneq (hK := ?_)⟩ | refine ⟨R_nil1 (hK := ?_)⟩ | refine ⟨R_nil2 (hK := ?_)⟩ | refine ⟨R_nilN1 (hK := ?_)⟩ | refine ⟨R_nilN2 (hK := ?_)⟩ | refine ⟨R_nilU1 (hK := ?_)⟩ | refine ⟨R_nilU2 (hK := ?_)⟩ | refine ⟨R_ifn1 (hK := ?_)⟩ | refine ⟨R_ifn2 (hK := ?_)⟩ | refine ⟨R_ifz1 (hK := ?_)⟩ | refine ⟨R_ifz2 (hK := ?_)⟩ | refine ⟨R_slt (hK := ?_)⟩ | refine ⟨R_sle (hK := ?_)⟩ | refine ⟨R_sgt (hK := ?_)⟩ | refine ⟨R_sge (hK := ?_)⟩) | (refine g_ca ?_; first | refine ⟨R_len (hK := ?_)⟩ | refine ⟨R_lenO (hK := ?_)⟩ | refine ⟨R_lenS (hK := ?_)⟩ | refine ⟨R_len0 (hK := ?_)⟩ | refine ⟨R_lenU (hK := ?_)⟩ | refine ⟨R_app (hK := ?_)⟩ | refine ⟨R_app0 (hK := ?_)⟩ | refine ⟨R_appS (hK := ?_)⟩ | refine ⟨R_min (hK := ?_)⟩ | refine ⟨R_max (hK := ?_)⟩) | (refine g_ix ?_; first | refine ⟨R_idx (hK := ?_)⟩ | refine ⟨R_idxO (hK := ?_)⟩ | refine ⟨R_idxA (hK := ?_)⟩ | refine ⟨R_idxP (hK := ?_)⟩) | (refine g_un ?_; first | refine ⟨R_not (hK := ?_)⟩ | refine ⟨R_notb (hK := ?_)⟩ | refine ⟨R_neg (hK := ?_)⟩) | (refine g_ex ?_; first | refine ⟨R_ext (hK := ?_)⟩ | refine ⟨R_extA (hK := ?_)⟩) | (refine g_fl ?_; first | refine ⟨R_fld (hK := ?_)⟩ | refine ⟨R_fldA (hK := ?_)⟩) | (refine g_sl ?_; first | refine ⟨R_upto (hK := ?_)⟩ | refine ⟨R_from (hK := ?_)⟩ | refine ⟨R_both (hK := ?_)⟩ | refine ⟨R_sall (hK := ?_)⟩ | refine ⟨R_uptoO (hK := ?_)⟩ | refine ⟨R_sfrom (hK := ?_)⟩ | refine ⟨R_supto (hK := ?_)⟩ | refine ⟨R_sboth (hK := ?_)⟩) | (refine g_st ?_; first | refine ⟨R_stM (hK := ?_)⟩ | refine ⟨R_stO (hK := ?_)⟩) | (refine g_bx ?_; first | refine ⟨R_box (hK := ?_)⟩) | (refine g_al ?_; first | refine ⟨R_allocB (hK := ?_)⟩ | refine ⟨R_alloc (hK := ?_)⟩) | (refine g_mk ?_; first | refine ⟨R_make (e := eI) (a := 0) (hz := by rfl) (hK := ?_)⟩ | refine ⟨R_make (e := eS) (a := []) (hz := by rfl) (hK := ?_)⟩) | (refine g_bs ?_; first | refine ⟨R_bsl eI (hK := ?_)⟩ | refine ⟨R_bsl eS (hK := ?_)⟩) | (refine g_bu ?_; first | refine ⟨R_build (hK := ?_)⟩ | refine ⟨R_build2 (hK := ?_)⟩) | (refine g_mf ?_; first | refine ⟨R_mkfn0 (hK := ?_)⟩ | refine ⟨R_mkfn (hK := ?_)⟩ | refine ⟨R_mkfnC (hK := ?_)⟩) | (refine g_nc ?_; first | refine ⟨R_nck1 (hK := ?_)⟩ | refine ⟨R_nck2 (hK := ?_)⟩ | refine ⟨R_nck3 (hK := ?_)⟩ | refine ⟨R_nck4 (hK := ?_)⟩) | (refine g_mi ?_; first | refine ⟨R_ifc (hK := ?_)⟩) | (refine g_cv ?_; first | refine ⟨R_conv (hK := ?_)⟩ | refine ⟨R_convS (hK := ?_)⟩ | refine ⟨R_cvBS (hK := ?_)⟩ | refine ⟨R_cvSB (hK := ?_)⟩) | (refine g_si ?_; first | refine ⟨R_sidx (hK := ?_)⟩) | (refine g_fa ?_; first | refine ⟨R_faddr (hK := ?_)⟩ | refine ⟨R_faddrM (hK := ?_)⟩) | refine Rn.nil ?_ | refine Rn.nilD (hK := ?_))
    | refine W_seq ?_
    | refine W_reg ?_
    | refine W_draw ?_
    | refine N_code ?_
    | refine W_blk ?_
    | refine W_cond_t (ht := ?_)
    | refine W_cond_f (ht := ?_)
    | refine W_skip ?_
    | refine W_exit ?_
    | refine X_hit ?_
    | refine X_code ?_
    | refine N_blk ?_
    | refine X_stop ?_
    | refine X_miss (h := ?_)
    | refine W_label ?_
    | refine W_loop ?_
    | refine W_ret ?_
    | refine N_nil ?_
    | refine N_stop ?_)
  exact hQ.un) (hQ : Q) : P := h ⟨hQ⟩
/-- .. appends told. -/
theorem le_autoL {X : Ctx} {N : Nat} {env env' : List (Nat × AV)} {h h' : Hp} {n n' : Nat}
    (he : leE env env' := by repeat' (first | exact trivial | refine And.intro ⟨_, rfl, ?_⟩ ?_ | exact avLe_refl _ | exact avLe_i (by first | omega | (simp only [List.length_set, List.length_append, List.length_cons, List.length_nil, List.length_take, List.length_drop, List.length_replicate, List.length_map, List.length_reverse] <;> omega)) | exact avLe_nil | exact avLe_nilO | exact avLe_own (by first | omega | (simp only [List.length_set, List.length_append, List.length_cons, List.length_nil, List.length_take, List.length_drop, List.length_replicate, List.length_map, List.length_reverse] <;> omega))))
    (hh : leH h h' := by first | ((repeat (first | exact trivial | refine And.intro rfl ?_)); done) | ((try simp only [List.length_append, List.length_set]); (repeat (first | exact trivial | refine And.intro rfl ?_)))) (hw : wfE h' env' = true := by rfl) (hw2 : wfH h' h' = true := by rfl) : (AS.mk env h n).Le X N (AS.mk env' h' n') := le_of he hh hw hw2
end Go.VL


namespace Go.VL
open Go.RowKit
set_option linter.unusedVariables false
def csLe : List AC → List AC → Prop
  | [], [] => True
  | c :: l, d :: k => avLe (.one c) (.one d) ∧ csLe l k
  | _, _ => False
theorem csLe_get : ∀ {l k : List AC}, csLe l k → ∀ (j : Nat) d, k[j]? = some d → ∃ c, l[j]? = some c ∧ avLe (.one c) (.one d)
  | c :: l, e :: k, h, 0, d, hj => by
    simp only [List.getElem?_cons_zero, Option.some.injEq] at hj
    subst hj
    exact ⟨c, rfl, h.1⟩
  | c :: l, e :: k, h, j + 1, d, hj => csLe_get h.2 j d (by simpa using hj)
  | [], [], h, j, d, hj => by simp at hj
  | _ :: _, [], h, _, _, _ => h.elim
  | [], _ :: _, h, _, _, _ => h.elim
theorem csLe_nil {k : List AC} (h : csLe [] k) : k = [] := by
  cases k with
  | nil => rfl
  | cons d k => exact h.elim
theorem le_retell {X : Ctx} {N : Nat} {env : List (Nat × AV)} {h h' : Hp} {n : Nat} {υ : AS} (id : Nat) {cs cs' : List AC} {z : Bool} (hl : look h id = some (.mx cs, z)) (hc : csLe cs cs') (hw : (acRefs cs').all (fun i => (look h i).isSome) = true) (hp : PutR h id (.mx cs', z) h') (hle : (AS.mk env h' n).Le X N υ) : (AS.mk env h n).Le X N υ := by
  refine AS.Le.trans ?_ hle
  rw [← hp.eq]
  intro F a w ⟨β, r⟩
  obtain ⟨hr, hok⟩ := r.h.retell (bx' := .mx cs') hl (fun hb => by
    have h2 := r.h.box id _ _ hl
    unfold BoxRep at h2
    rw [hb] at h2
    have h3 : cs = [] := h2
    subst h3
    exact csLe_nil hc) (fun g arr e hg harr => ⟨fun e' l he => (by cases he), fun j d hj => by
      obtain ⟨c, hc1, hc2⟩ := csLe_get hc j d hj
      have h2 := r.h.box id _ _ hl
      unfold BoxRep at h2
      rw [hg] at h2
      obtain ⟨_, arr', e', harr', _, hcells⟩ := h2
      obtain ⟨u, hu, hru⟩ := hcells j c hc1
      obtain ⟨fz, h4, _⟩ := harr
      obtain ⟨fz', h5, _⟩ := harr'
      rw [h4] at h5
      simp only [Option.some.injEq, Obj.cells.injEq] at h5
      obtain ⟨rfl, _, _⟩ := h5
      exact ⟨u, hu, avLe_rep (x := .one c) (y := .one d) hc2 hru⟩⟩) (fun i hi => List.all_eq_true.1 hw i hi)
  have k : Keeps (fun _ => True) w (F.ok w h β) β w (F.ok w (put h id (.mx cs', z)) β) β := ⟨fun b hb => ⟨(hok b).1 hb, rfl⟩, fun _ _ => ⟨rfl, fun _ _ => rfl⟩⟩
  refine ⟨β, hr, r.defers, r.size, fun t v hl2 => ?_⟩
  obtain ⟨⟨u, hu, hru⟩, hw2⟩ := r.env t v hl2
  exact ⟨⟨u, hu, k.repV (fun _ _ => trivial) hru⟩, fun i hi => by
    have := hw2 i hi
    show (look (put h id (.mx cs', z)) i).isSome = true
    rw [look_put]; split <;> simp_all⟩
end Go.VL


namespace Go.VS.YtlmioegjeocaaaaGreatDoor
open Go Go.VL Go.VN Go.RowKit Go.Proofs
set_option maxRecDepth 100000
set_option linter.unusedVariables false
set_option linter.unusedSimpArgs false
theorem t_own (t : Tal) (hk : t.ks.length ≤ 100000) (hc : t.cs.length ≤ 100000) : SpcS X 83 [.agg [.pv (slc eS t.ks), .pv (slc eI t.cs)]] [] (.agg [.own 2 1 t.ks.length, .own 3 1 t.cs.length]) [(2, (.pu 9 (t.ks.flatMap eS), false)), (3, (.pu 3 (t.cs.flatMap eI), false))] := by
  refine SpcS.start 0 Tryz.func83 rfl (h := fun hs hs2 R hR => ?_)
  unfold Tryz.f83
  simp only [entryV]
  obtain ⟨ks, cs⟩ := t
  simp only at *
  refine walk (hQ := ?_)
  refine R_copy (l := List.replicate ks.length []) (e := eS) ks (h3 := by simp) (hK := ?_)
  refine walk (hQ := ?_)
  refine R_copy (l := List.replicate cs.length 0) (e := eI) cs (h3 := by simp) (hK := ?_)
  refine walk (hQ := ?_)
  exact hR _ (retS1A (hy := rfl) (hle := ⟨rfl, rfl, trivial⟩))
end Go.VS.YtlmioegjeocaaaaGreatDoor


namespace Go.VS.YtlmioegjeocaaaaGreatDoor
open Go Go.VL Go.VN Go.RowKit Go.Proofs
set_option maxRecDepth 100000
set_option linter.unusedVariables false
set_option linter.unusedSimpArgs false
theorem kA {A B : TL} : (A ++ B).map Prod.fst = A.map Prod.fst ++ B.map Prod.fst := List.map_append
theorem t_bs {A B : TL} {key : List UInt8} (hA : ∀ x ∈ A, lexLt x.1 key = true) (hB : ∀ x ∈ B, lexLt x.1 key = false) (hl : (A ++ B).length ≤ 100000) :
    Spc X 57 [.one (slc eS ((A ++ B).map Prod.fst)), .one (.str key)] (.tup [(false, [.int .i64 A.length]), (false, [.bool (decide (B.head?.map Prod.fst = some key))])]) := by
  have h := s_Bs ((A ++ B).map Prod.fst) key A.length (by simp) (fun i hi => by
    rw [List.getD_eq_getElem?_getD, List.getElem?_map, List.getElem?_append_left hi, List.getElem?_eq_getElem hi]
    exact hA _ (List.getElem_mem hi)) (fun i hi h2 => by
    have h3 : i - A.length < B.length := by simp at h2; omega
    rw [List.getD_eq_getElem?_getD, List.getElem?_map, List.getElem?_append_right hi, List.getElem?_eq_getElem h3]
    exact hB _ (List.getElem_mem h3)) (by simp only [List.length_map]; omega)
  have e : (A.length < ((A ++ B).map Prod.fst).length ∧ ((A ++ B).map Prod.fst).getD A.length [] = key) ↔ B.head?.map Prod.fst = some key := by
    cases B with
    | nil => simp
    | cons b B => simp [List.getElem?_append_right]
  rw [show decide (A.length < ((A ++ B).map Prod.fst).length ∧ ((A ++ B).map Prod.fst).getD A.length [] = key) = decide (B.head?.map Prod.fst = some key) from by simp only [e]] at h
  exact h
theorem t_change (l : TL) (key : List UInt8) (by' : Int) (hS : SK l) (hl : l.length ≤ 90000) (hb : ∀ x ∈ l, 1 ≤ x.2 ∧ x.2 ≤ 10000000) (hb2 : -10000000 ≤ by' ∧ by' ≤ 10000000) :
    Spc X 59 [.agg (eTl (tlT l)), .one (.str key), .one (.int .i64 by')] (.agg (eTl (tlT (setT l key (gt l key + by'))))) := by
  refine Spc.start Tryz.func59 rfl (h := fun hs R hR => ?_)
  unfold Tryz.f59
  simp only [entryE, PA.av]
  obtain ⟨A, B, rfl, hA, hB⟩ := tl_split hS key
  have k1 := t_own (tlT (A ++ B)) (by simp only [tlT, List.length_map]; omega) (by simp only [tlT, List.length_map]; omega)
  have k2 := t_bs hA hB (by omega)
  simp only [List.length_append] at hl
  by_cases hf : B.head?.map Prod.fst = some key
  · obtain ⟨m, B', rfl⟩ : ∃ m B', B = (key, m) :: B' := by
      cases B with
      | nil => cases hf
      | cons b B => obtain ⟨a, m⟩ := b; simp at hf; subst hf; exact ⟨m, B, rfl⟩
    have hm := hb (key, m) (by simp)
    simp only at hm
    have hg : gt (A ++ (key, m) :: B') key = m := gt_mem hS (x := (key, m)) (by simp)
    have hset : setT (A ++ (key, m) :: B') key (m + by') = if m + by' = 0 then A ++ B' else A ++ (key, m + by') :: B' := by
      have hA' : A.filter (fun x => decide (x.1 ≠ key)) = A := List.filter_eq_self.2 fun x hx => decide_eq_true (lexLt_ne (hA x hx))
      have hB' : B'.filter (fun x => decide (x.1 ≠ key)) = B' := List.filter_eq_self.2 fun x hx => decide_eq_true fun q => by
        have := SK_lt ((List.pairwise_append.1 hS).2.1 : SK ((key, m) :: B')) (List.mem_map.2 ⟨x, hx, rfl⟩)
        rw [q, lexLt_irr] at this; cases this
      unfold setT
      split
      · rename_i h0
        rw [decide_eq_true h0, stL_true, List.filter_append, hA', List.filter_cons_of_neg (by simp), hB']
      · rename_i h0
        rw [decide_eq_false h0, stL_false hA hB, List.filter_cons_of_neg (by simp), hB']
    rw [hg, hset] at hR
    rw [decide_eq_true hf] at k2
    simp only [tlT, eTl] at *
    have hla : ((A ++ (key, m) :: B').map Prod.fst).length = A.length + (B'.length + 1) := by simp
    have hlb : ((A ++ (key, m) :: B').map Prod.snd).length = A.length + (B'.length + 1) := by simp
    have hgd : ((A ++ (key, m) :: B').map Prod.snd).getD A.length 0 = m := by
      rw [List.getD_eq_getElem?_getD, List.getElem?_map, List.getElem?_append_right (Nat.le_refl _), Nat.sub_self]; rfl
    have hst : ((A ++ (key, m) :: B').map Prod.snd).set A.length (m + by') = (A ++ (key, m + by') :: B').map Prod.snd := by simp
    generalize hKs : (A ++ (key, m) :: B').map Prod.fst = KS at *
    generalize hCs : (A ++ (key, m) :: B').map Prod.snd = CS at *
    rw [hla, hlb] at k1
    simp only [List.length_cons] at hl
    refine walk (hQ := ?_)
    refine R_callN2 (v := .agg [.own 2 1 (A.length + (B'.length + 1)), .own 3 1 (A.length + (B'.length + 1))]) k1 (hK := ?_)
    refine walk (hQ := ?_)
    refine R_callP (ids' := [2]) k2 (hK := ?_)
    refine walk (hQ := ?_)
    rw [hgd]
    have hg2 : (CS.set A.length (m + by')).getD A.length 0 = m + by' := by
      rw [List.getD_eq_getElem?_getD, List.getElem?_set_self (by omega)]; rfl
    rw [hg2]
    have hl2 : (CS.set A.length (m + by')).length = A.length + (B'.length + 1) := by rw [List.length_set]; exact hlb
    refine W_if (ht := fun h1 => ?_) (hf := fun h1 => ?_)
    · rw [if_pos h1] at hR
      have k3 := s_DelS KS A.length (A.length + 1) (by omega) (by omega)
      have k4 := s_DelI (CS.set A.length (m + by')) A.length (A.length + 1) (by omega) (by omega)
      rw [hla] at k3
      rw [hl2] at k4
      refine walk (hQ := ?_)
      refine R_callC k3 (hK := ?_)
      refine walk (hQ := ?_)
      refine R_callC k4 (hK := ?_)
      refine walk (hQ := ?_)
      refine hR _ (ret1 (hp := ?_))
      rw [hst, ← hKs]
      have d1 : (A.map Prod.fst).drop (A.length + 1) = [] := List.drop_eq_nil_of_le (by simp)
      have d2 : (A.map Prod.snd).drop (A.length + 1) = [] := List.drop_eq_nil_of_le (by simp)
      simp [List.take_append, List.drop_append, d1, d2]
    · rw [if_neg h1] at hR
      refine walk (hQ := ?_)
      refine hR _ (ret1 (hp := ?_))
      rw [hst, ← hKs]
      simp
  · have hBk : ∀ x ∈ B, x.1 ≠ key := fun x hx q => by
      cases B with
      | nil => cases hx
      | cons b B =>
        rcases List.mem_cons.1 hx with rfl | hx
        · exact hf (by simp [q])
        · have h1 := (List.pairwise_cons.1 (List.pairwise_append.1 hS).2.1).1 x hx
          have h2 := hB b (by simp)
          rw [q] at h1
          rw [h1] at h2; cases h2
    have hk0 : ∀ x ∈ A ++ B, x.1 ≠ key := fun x hx => by
      rcases List.mem_append.1 hx with h | h
      · exact lexLt_ne (hA x h)
      · exact hBk x h
    have hg : gt (A ++ B) key = 0 := gt_out hk0
    rw [hg, Int.zero_add] at hR
    rw [decide_eq_false hf] at k2
    have hflt : ∀ l : TL, (∀ x ∈ l, x.1 ≠ key) → l.filter (fun x => decide (x.1 ≠ key)) = l := fun l h => List.filter_eq_self.2 fun x hx => decide_eq_true (h x hx)
    have hset : setT (A ++ B) key by' = if by' = 0 then A ++ B else A ++ (key, by') :: B := by
      unfold setT
      split
      · rename_i h0
        rw [decide_eq_true h0, stL_true, hflt _ hk0]
      · rename_i h0
        rw [decide_eq_false h0, stL_false hA hB, hflt _ hBk]
    rw [hset] at hR
    clear hset hflt
    simp only [tlT, eTl] at *
    have hla : ((A ++ B).map Prod.fst).length = A.length + B.length := by simp
    have hlb : ((A ++ B).map Prod.snd).length = A.length + B.length := by simp
    generalize hKs : (A ++ B).map Prod.fst = KS at *
    generalize hCs : (A ++ B).map Prod.snd = CS at *
    rw [hla, hlb] at k1
    refine walk (hQ := ?_)
    refine R_callN2 (v := .agg [.own 2 1 (A.length + B.length), .own 3 1 (A.length + B.length)]) k1 (hK := ?_)
    refine walk (hQ := ?_)
    refine R_callP (ids' := [2]) k2 (hK := ?_)
    refine walk (hQ := ?_)
    refine W_if (ht := fun h1 => ?_) (hf := fun h1 => ?_)
    · rw [if_pos h1] at hR
      refine walk (hQ := ?_)
      refine hR _ (ret1 (hp := ?_))
      rw [hKs, hCs]
    · rw [if_neg h1] at hR
      have k3 := s_InsS KS A.length key (by omega) (by omega)
      have k4 := s_InsI CS A.length 0 (by omega) (by omega)
      rw [hla] at k3
      rw [hlb] at k4
      have hb3 : ∀ n, n = A.length → (CS.take n ++ [0] ++ CS.drop n).getD n 0 = 0 := fun n hn => by
        rw [hn, List.append_assoc, List.getD_eq_getElem?_getD, List.getElem?_append_right (by rw [List.length_take]; omega), List.length_take, Nat.min_eq_left (by omega), Nat.sub_self]; rfl
      have hlc : (CS.take A.length ++ [0] ++ CS.drop A.length).length = A.length + B.length + 1 := by simp; omega
      have hld : (KS.take A.length ++ [key] ++ KS.drop A.length).length = A.length + B.length + 1 := by simp; omega
      have hst : (CS.take A.length ++ [0] ++ CS.drop A.length).set A.length (0 + by') = (A ++ (key, by') :: B).map Prod.snd := by
        rw [← hCs]; simp [List.take_append, List.drop_append]
      have hkt : KS.take A.length ++ [key] ++ KS.drop A.length = (A ++ (key, by') :: B).map Prod.fst := by
        rw [← hKs]; simp [List.take_append, List.drop_append]
      rw [hkt] at k3 hld
      have hb4 := hb3 A.length rfl
      generalize (CS.take A.length ++ [0] ++ CS.drop A.length) = C2 at *
      generalize hK2 : (A ++ (key, by') :: B).map Prod.fst = K2 at *
      refine walk (hQ := ?_)
      refine R_callCM (c' := K2.flatMap eS) k3 (hK := ?_)
      refine walk (hQ := ?_)
      refine R_callCM (c' := C2.flatMap eI) k4 (hK := ?_)
      refine walk (hQ := ?_)
      rw [hb4]
      have hg2 : (C2.set A.length (0 + by')).getD A.length 0 = 0 + by' := by
        rw [List.getD_eq_getElem?_getD, List.getElem?_set_self (by omega)]; rfl
      rw [hg2]
      refine W_if (ht := fun h2 => ?_) (hf := fun h2 => ?_)
      · exact absurd h2 (by omega)
      refine walk (hQ := ?_)
      refine hR _ (ret1 (hp := ?_))
      rw [hst, ← hK2]
end Go.VS.YtlmioegjeocaaaaGreatDoor


namespace Go.VL
open Go.VN
set_option linter.unusedVariables false
set_option linter.unusedSimpArgs false
def VT (l : TL) : Prop := l.length ≤ 2000 ∧ SK l ∧ ∀ x ∈ l, keyE x.1 = 0 ∧ 1 ≤ x.2 ∧ x.2 ≤ 1000000
theorem VT.pos {l : TL} (h : VT l) : Pos l := fun x hx => (h.2.2 x hx).2.1
theorem VT.le {l : TL} (h : VT l) : ∀ x ∈ l, x.2 ≤ 1000000 := fun x hx => (h.2.2 x hx).2.2
theorem VT.nil : VT [] := ⟨by simp, List.Pairwise.nil, by simp⟩
theorem getD_map1 (l : TL) (i : Nat) : (l.map Prod.fst).getD i [] = (l.getD i ([], 0)).1 := by
  rw [List.getD_eq_getElem?_getD, List.getElem?_map, List.getD_eq_getElem?_getD]
  cases l[i]? <;> rfl
theorem getD_map2 (l : TL) (i : Nat) : (l.map Prod.snd).getD i 0 = (l.getD i ([], 0)).2 := by
  rw [List.getD_eq_getElem?_getD, List.getElem?_map, List.getD_eq_getElem?_getD]
  cases l[i]? <;> rfl
theorem SK_adj : ∀ {l : TL}, (∀ i, i + 1 < l.length → lexLt (l.getD i ([], 0)).1 (l.getD (i + 1) ([], 0)).1 = true) → SK l
  | [], _ => List.Pairwise.nil
  | [x], _ => by simp [SK]
  | x :: y :: l, h => by
    have ih := SK_adj (l := y :: l) fun i hi => h (i + 1) (by simp only [List.length_cons] at *; omega)
    have h0 := h 0 (by simp)
    refine List.pairwise_cons.2 ⟨fun z hz => ?_, ih⟩
    rcases List.mem_cons.1 hz with rfl | hz
    · exact h0
    · exact lexLt_trans h0 ((List.pairwise_cons.1 ih).1 z hz)
theorem SK_at {l : TL} (h : SK l) {i : Nat} (hi : i + 1 < l.length) : lexLt (l.getD i ([], 0)).1 (l.getD (i + 1) ([], 0)).1 = true := by
  have := List.pairwise_iff_getElem.1 h i (i + 1) (by omega) hi (by omega)
  rw [List.getD_eq_getElem?_getD, List.getD_eq_getElem?_getD, List.getElem?_eq_getElem hi, List.getElem?_eq_getElem (by omega : i < l.length)]
  exact this
theorem validE_VT {l : TL} : validE (tlT l) = 0 ↔ VT l := by
  have hlen : (tlT l).ks.length = l.length := by simp [tlT]
  have hlen2 : (tlT l).cs.length = l.length := by simp [tlT]
  have hent : ∀ i, entE (tlT l) i = if keyE (l.getD i ([], 0)).1 ≠ 0 then keyE (l.getD i ([], 0)).1 else if 0 < i ∧ lexLt (l.getD (i - 1) ([], 0)).1 (l.getD i ([], 0)).1 = false then 18 else if (l.getD i ([], 0)).2 < 1 ∨ 1000000 < (l.getD i ([], 0)).2 then 6 else 0 := fun i => by
    rw [entE_eq]; simp only [tlT, getD_map1, getD_map2]
  have hmem : ∀ i, i < l.length → l.getD i ([], 0) ∈ l := fun i hi => by
    rw [List.getD_eq_getElem?_getD, List.getElem?_eq_getElem hi]; exact List.getElem_mem hi
  unfold validE
  rw [hlen, hlen2, if_neg (by simp)]
  constructor
  · intro h
    split at h
    · cases h
    · rename_i h1
      rcases scanE_cases (entE (tlT l)) l.length with ⟨_, hz⟩ | ⟨i, hi, hne, _, hs⟩
      · have key : ∀ i, i < l.length → keyE (l.getD i ([], 0)).1 = 0 ∧ (0 < i → lexLt (l.getD (i - 1) ([], 0)).1 (l.getD i ([], 0)).1 = true) ∧ 1 ≤ (l.getD i ([], 0)).2 ∧ (l.getD i ([], 0)).2 ≤ 1000000 := fun i hi => by
          have := hz i hi
          rw [hent] at this
          split at this
          · contradiction
          · split at this
            · cases this
            · split at this
              · cases this
              · rename_i a b c
                refine ⟨by simpa using a, fun h0 => ?_, by omega, by omega⟩
                cases hq : lexLt (l.getD (i - 1) ([], 0)).1 (l.getD i ([], 0)).1 with
                | true => rfl
                | false => exact absurd ⟨h0, hq⟩ b
        refine ⟨by omega, SK_adj fun i hi => ?_, fun x hx => ?_⟩
        · have := (key (i + 1) hi).2.1 (by omega)
          rwa [Nat.add_sub_cancel] at this
        · obtain ⟨i, hi, rfl⟩ := List.getElem_of_mem hx
          have := key i hi
          rw [List.getD_eq_getElem?_getD, List.getElem?_eq_getElem hi] at this
          exact ⟨this.1, this.2.2⟩
      · rw [hs] at h; exact absurd h hne
  · intro ⟨h1, h2, h3⟩
    rw [if_neg (by omega), scanE_end]
    intro i hi
    have hx := h3 _ (hmem i hi)
    rw [hent, if_neg (by rw [hx.1]; simp), if_neg, if_neg (by omega)]
    rintro ⟨h0, hl⟩
    have := SK_at h2 (i := i - 1) (by omega)
    rw [show i - 1 + 1 = i by omega] at this
    rw [this] at hl; cases hl
theorem valid_of {t : Tal} (h : validE t = 0) : ∃ l, t = tlT l ∧ VT l := by
  have hl : t.ks.length = t.cs.length := by
    unfold validE at h
    split at h
    · cases h
    · rename_i h1; exact Classical.byContradiction fun e => h1 e
  exact ⟨toL t, (tlT_toL hl).symm, validE_VT.1 (by rw [tlT_toL hl]; exact h)⟩
def givE (t : Tal) (k : List UInt8) (n : Int) : Int := if validE t ≠ 0 then validE t else if keyE k ≠ 0 then keyE k else if n < 0 ∨ 1000000 < n then 6 else 0
def zT : Tal := ⟨[], []⟩
def addR (t : Tal) (k : List UInt8) (n : Int) : Tal × Int :=
  if givE t k n ≠ 0 then (zT, givE t k n) else if 1000000 < gt (toL t) k + n ∨ 2000 < (setT (toL t) k (gt (toL t) k + n)).length then (zT, 3) else (tlT (setT (toL t) k (gt (toL t) k + n)), 0)
def remR (t : Tal) (k : List UInt8) (n : Int) : Tal × Int :=
  if givE t k n ≠ 0 then (zT, givE t k n) else if gt (toL t) k < n then (zT, 6) else (tlT (setT (toL t) k (gt (toL t) k - n)), 0)
theorem givE_0 {t : Tal} {k : List UInt8} {n : Int} (h : givE t k n = 0) : (∃ l, t = tlT l ∧ VT l) ∧ keyE k = 0 ∧ 0 ≤ n ∧ n ≤ 1000000 := by
  unfold givE at h
  split at h
  · contradiction
  · split at h
    · contradiction
    · split at h
      · cases h
      · rename_i a b c
        exact ⟨valid_of (by simpa using a), by simpa using b, by omega, by omega⟩
def largeL (l : TL) : Bool := decide (2000 < l.length) || l.any fun x => decide (1000000 < x.2)
theorem large_set {l : TL} (h : VT l) {k : List UInt8} {s : Int} (hs : 0 ≤ s) : largeL (setT l k s) = decide (1000000 < s ∨ 2000 < (setT l k s).length) := by
  unfold largeL
  by_cases hl : 2000 < (setT l k s).length
  · rw [decide_eq_true hl, decide_eq_true (.inr hl)]; rfl
  · rw [decide_eq_false hl, Bool.false_or]
    by_cases hb : 1000000 < s
    · rw [decide_eq_true (.inl hb), List.any_eq_true]
      have h1 := set_gt h.2.1 k s k
      rw [if_pos rfl] at h1
      obtain ⟨x, hx, _, h2⟩ := gt_nz (l := setT l k s) (k := k) (by omega)
      exact ⟨x, hx, decide_eq_true (by omega)⟩
    · rw [decide_eq_false (by rintro (h | h) <;> omega), Bool.eq_false_iff]
      intro hc
      obtain ⟨x, hx, hd⟩ := List.any_eq_true.1 hc
      simp only [decide_eq_true_eq] at hd
      rcases set_mem h.2.1 hx with ⟨rfl, _⟩ | hx
      · simp only at hd; omega
      · have := h.le x hx; omega
theorem set_VT {l : TL} (h : VT l) {k : List UInt8} {s : Int} (hk : keyE k = 0) (hs : 0 ≤ s) (hb : s ≤ 1000000) (hl : (setT l k s).length ≤ 2000) : VT (setT l k s) :=
  ⟨hl, set_SK h.2.1 k s, fun x hx => by
    rcases set_mem h.2.1 hx with ⟨rfl, h0⟩ | hx
    · exact ⟨hk, by show 1 ≤ s; omega, hb⟩
    · exact h.2.2 x hx⟩
def mrgR (a b : Tal) : Tal × Int :=
  if validE a ≠ 0 then (zT, validE a) else if validE b ≠ 0 then (zT, validE b) else if largeL (mrg (toL a) (toL b)) = true then (zT, 3) else (tlT (mrg (toL a) (toL b)), 0)
def minR (a b : Tal) : Tal × Int :=
  if validE a ≠ 0 then (zT, validE a) else if validE b ≠ 0 then (zT, validE b) else if (toL b).any (fun x => decide (gt (toL a) x.1 < x.2)) = true then (zT, 6) else (tlT (minL (toL a) (toL b)), 0)
/-- .. as the reference sums them up. -/
def mgF (A : TL) (T : TL) (x : List UInt8 × Int) : TL := setT T x.1 (gt A x.1 + x.2)
def mgL (A : TL) : TL → TL → Option TL
  | T, [] => some T
  | T, x :: l => if 1000000 < gt A x.1 + x.2 then none else mgL A (mgF A T x) l
theorem mgF_gt (A : TL) (k : List UInt8) : ∀ (l T : TL), SK T → SK l → gt (l.foldl (mgF A) T) k = if k ∈ l.map Prod.fst then gt A k + gt l k else gt T k
  | [], T, h, _ => by simp
  | (a, n) :: l, T, h, hl => by
    rw [List.foldl_cons, mgF_gt A k l (mgF A T (a, n)) (set_SK h _ _) (List.pairwise_cons.1 hl).2, mgF, set_gt h, gt]
    simp only [List.map_cons, List.mem_cons]
    by_cases e : k = a
    · subst e
      have hk : k ∉ l.map Prod.fst := fun hm => by have := SK_lt hl hm; rw [lexLt_irr] at this; cases this
      rw [if_neg hk, if_pos rfl, if_pos (.inl rfl), if_pos rfl]
    · by_cases hm : k ∈ l.map Prod.fst
      · rw [if_pos hm, if_pos (.inr hm), if_neg (fun q => e q.symm)]
      · rw [if_neg hm, if_neg e, if_neg (by rintro (q | q); exact e q; exact hm q)]
theorem mgF_SK (A : TL) : ∀ (l T : TL), SK T → SK (l.foldl (mgF A) T)
  | [], T, h => h
  | x :: l, T, h => mgF_SK A l _ (set_SK h _ _)
theorem mgF_Pos (A : TL) (hA : Pos A) : ∀ (l T : TL), SK T → Pos T → Pos l → Pos (l.foldl (mgF A) T)
  | [], T, _, h, _ => h
  | x :: l, T, h, hp, hl => mgF_Pos A hA l _ (set_SK h _ _) (set_Pos h hp (by have := gt_nn hA x.1; have := hl x (by simp); omega)) fun y hy => hl y (by simp [hy])
theorem mgF_eq {A B : TL} (hA : SK A) (hB : SK B) (pA : Pos A) (pB : Pos B) : B.foldl (mgF A) A = mrg A B :=
  tl_ext (mgF_SK A B A hA) (mrg_SK A B hA hB) (mgF_Pos A pA B A hA pA pB) (mrg_Pos A B pA pB) fun k => by
    rw [mgF_gt A k B A hA hB, mrg_gt A B hA hB]
    split
    · rfl
    · rename_i h
      rw [gt_out (l := B) (k := k) fun x hx q => h (List.mem_map.2 ⟨x, hx, q⟩)]; omega
theorem mgL_none (A : TL) : ∀ (l T : TL), l.any (fun x => decide (1000000 < gt A x.1 + x.2)) = true → mgL A T l = none
  | [], T, h => by cases h
  | x :: l, T, h => by
    rw [mgL]
    split
    · rfl
    · rename_i hx
      rw [List.any_cons, decide_eq_false hx, Bool.false_or] at h
      exact mgL_none A l _ h
theorem mgL_some (A : TL) : ∀ (l T : TL), l.any (fun x => decide (1000000 < gt A x.1 + x.2)) = false → mgL A T l = some (l.foldl (mgF A) T)
  | [], T, h => rfl
  | x :: l, T, h => by
    rw [List.any_cons, Bool.or_eq_false_iff] at h
    rw [mgL, if_neg (of_decide_eq_false h.1), List.foldl_cons, mgL_some A l _ h.2]
theorem mrg_any {A B : TL} (hA : VT A) (hB : VT B) : (mrg A B).any (fun x => decide (1000000 < x.2)) = B.any (fun x => decide (1000000 < gt A x.1 + x.2)) := by
  have hM := mrg_SK A B hA.2.1 hB.2.1
  rw [Bool.eq_iff_iff, List.any_eq_true, List.any_eq_true]
  constructor
  · rintro ⟨x, hx, h⟩
    simp only [decide_eq_true_eq] at h
    have h1 := gt_mem hM hx
    rw [mrg_gt A B hA.2.1 hB.2.1] at h1
    have h2 := gt_le (l := A) (b := 1000000) (by omega) hA.le x.1
    obtain ⟨y, hy, h3, h4⟩ := gt_nz (l := B) (k := x.1) (by omega)
    exact ⟨y, hy, decide_eq_true (by rw [h3, h4]; omega)⟩
  · rintro ⟨y, hy, h⟩
    simp only [decide_eq_true_eq] at h
    have h1 := gt_mem hB.2.1 hy
    have h2 := mrg_gt A B hA.2.1 hB.2.1 y.1
    obtain ⟨x, hx, h3, h4⟩ := gt_nz (l := mrg A B) (k := y.1) (by rw [h2]; omega)
    exact ⟨x, hx, decide_eq_true (by rw [h4, h2]; omega)⟩
/-- Differences set one by one. -/
def mnF (A : TL) (T : TL) (x : List UInt8 × Int) : TL := setT T x.1 (gt A x.1 - x.2)
def mnL (A : TL) : TL → TL → Option TL
  | T, [] => some T
  | T, x :: l => if gt A x.1 < x.2 then none else mnL A (mnF A T x) l
theorem mnF_gt (A : TL) (k : List UInt8) : ∀ (l T : TL), SK T → SK l → gt (l.foldl (mnF A) T) k = if k ∈ l.map Prod.fst then gt A k - gt l k else gt T k
  | [], T, h, _ => by simp
  | (a, n) :: l, T, h, hl => by
    rw [List.foldl_cons, mnF_gt A k l (mnF A T (a, n)) (set_SK h _ _) (List.pairwise_cons.1 hl).2, mnF, set_gt h, gt]
    simp only [List.map_cons, List.mem_cons]
    by_cases e : k = a
    · subst e
      have hk : k ∉ l.map Prod.fst := fun hm => by have := SK_lt hl hm; rw [lexLt_irr] at this; cases this
      rw [if_neg hk, if_pos rfl, if_pos (.inl rfl), if_pos rfl]
    · by_cases hm : k ∈ l.map Prod.fst
      · rw [if_pos hm, if_pos (.inr hm), if_neg (fun q => e q.symm)]
      · rw [if_neg hm, if_neg e, if_neg (by rintro (q | q); exact e q; exact hm q)]
theorem mnF_SK (A : TL) : ∀ (l T : TL), SK T → SK (l.foldl (mnF A) T)
  | [], T, h => h
  | x :: l, T, h => mnF_SK A l _ (set_SK h _ _)
theorem mnF_Pos (A : TL) : ∀ (l T : TL), SK T → Pos T → (∀ x ∈ l, x.2 ≤ gt A x.1) → Pos (l.foldl (mnF A) T)
  | [], T, _, h, _ => h
  | x :: l, T, h, hp, hl => mnF_Pos A l _ (set_SK h _ _) (set_Pos h hp (by have := hl x (by simp); omega)) fun y hy => hl y (by simp [hy])
theorem mnF_eq {A B : TL} (hA : SK A) (hB : SK B) (pA : Pos A) (pB : Pos B) (h : ∀ x ∈ B, x.2 ≤ gt A x.1) : B.foldl (mnF A) A = minL A B := by
  have hle : ∀ k, gt B k ≤ gt A k := fun k => by
    by_cases e : gt B k = 0
    · rw [e]; exact gt_nn pA k
    · obtain ⟨x, hx, h1, h2⟩ := gt_nz e
      have := h x hx
      rw [h1, h2] at this; exact this
  exact tl_ext (mnF_SK A B A hA) (minL_SK hA) (mnF_Pos A B A hA pA h) (minL_Pos A B) fun k => by
    rw [mnF_gt A k B A hA hB, minL_gt hA pA pB hle]
    split
    · rfl
    · rename_i h
      rw [gt_out (l := B) (k := k) fun x hx q => h (List.mem_map.2 ⟨x, hx, q⟩)]; omega
theorem mnL_none (A : TL) : ∀ (l T : TL), l.any (fun x => decide (gt A x.1 < x.2)) = true → mnL A T l = none
  | [], T, h => by cases h
  | x :: l, T, h => by
    rw [mnL]
    split
    · rfl
    · rename_i hx
      rw [List.any_cons, decide_eq_false hx, Bool.false_or] at h
      exact mnL_none A l _ h
theorem mnL_some (A : TL) : ∀ (l T : TL), l.any (fun x => decide (gt A x.1 < x.2)) = false → mnL A T l = some (l.foldl (mnF A) T)
  | [], T, h => rfl
  | x :: l, T, h => by
    rw [List.any_cons, Bool.or_eq_false_iff] at h
    rw [mnL, if_neg (of_decide_eq_false h.1), List.foldl_cons, mnL_some A l _ h.2]
end Go.VL


namespace Go.VS.YtlmioegjeocaaaaGreatDoor
open Go Go.VL Go.VN Go.RowKit Go.Proofs
set_option maxRecDepth 100000
set_option linter.unusedVariables false
set_option linter.unusedSimpArgs false
def idxOf (p : Int → Bool) (l : List Int) : Int := if l.any p = true then (l.findIdx p : Int) else -1
theorem idx_hit {p : Int → Bool} {l : List Int} {i : Nat} (hi : i < l.length) (h0 : ∀ j, j < i → p (l.getD j 0) = false) (h1 : p (l.getD i 0) = true) : idxOf p l = i := by
  have e : ∀ j (hj : j < l.length), l.getD j 0 = l[j] := fun j hj => by rw [List.getD_eq_getElem?_getD, List.getElem?_eq_getElem hj]; rfl
  have ha : l.any p = true := List.any_eq_true.2 ⟨l[i], List.getElem_mem hi, by rw [← e i hi]; exact h1⟩
  unfold idxOf
  rw [if_pos ha]
  have := (List.findIdx_eq (p := p) hi).2 ⟨by rw [← e i hi]; exact h1, fun j hj => by rw [← e j (by omega)]; exact h0 j hj⟩
  rw [this]
theorem idx_miss {p : Int → Bool} {l : List Int} (h0 : ∀ j, j < l.length → p (l.getD j 0) = false) : idxOf p l = -1 ∧ l.any p = false := by
  have ha : l.any p = false := by
    rw [List.any_eq_false]
    intro x hx
    obtain ⟨j, hj, rfl⟩ := List.getElem_of_mem hx
    have := h0 j hj
    rw [List.getD_eq_getElem?_getD, List.getElem?_eq_getElem hj] at this
    simpa using this
  unfold idxOf
  rw [ha]
  exact ⟨rfl, rfl⟩
theorem idx_nonneg (p : Int → Bool) (l : List Int) : decide (0 ≤ idxOf p l) = l.any p := by
  unfold idxOf
  by_cases h : l.any p = true
  · rw [if_pos h, h, decide_eq_true_eq]; omega
  · have h' : l.any p = false := by simpa using h
    rw [if_neg h, h']; rfl
theorem s_indexI (f : FuncId) (p : Int → Bool) (hp : ∀ d, Spc X f [.one (.int .i64 d)] (.one (.bool (p d)))) (l : List Int) : Spc X 107 [.one (slc eI l), .one (.clo f [])] (.one (.int .i64 (idxOf p l))) := by
  refine Spc.start Tryz.func107 rfl (h := fun hs R hR => ?_)
  have hlen := (sane_I hs.1).1
  unfold Tryz.f107
  simp only [entryE, PA.av]
  refine walk (hQ := ?_)
  refine Lp.intro (fun (i : Nat) => ⟨[(0, vP (slc eI l)), (1, vP (.clo f [])), (7, vI l.length), (8, vI i)], [], 0⟩) (fun i => i ≤ l.length ∧ ∀ j, j < i → p (l.getD j 0) = false) (fun i => l.length - i) 0 ⟨Nat.zero_le _, fun j hj => by omega⟩ (h0 := le_auto) (hr := fun i K ⟨hi, hb⟩ hK => ?_)
  refine walk (hQ := ?_)
  refine W_if (ht := fun h1 => ?_) (hf := fun h1 => ?_)
  · refine walk (hQ := ?_)
    refine R_call (hp _) (hK := ?_)
    refine walk (hQ := ?_)
    refine W_ifb (ht := fun h2 => ?_) (hf := fun h2 => ?_)
    · refine walk (hQ := ?_)
      exact hR _ (ret1 (hp := by rw [idx_hit (by omega) hb h2]))
    · refine walk (hQ := ?_)
      refine hK _ (i + 1) ⟨by omega, fun j hj => ?_⟩ (by omega) le_auto
      rcases Nat.lt_or_ge j i with h | h
      · exact hb j h
      · obtain rfl : j = i := by omega
        exact h2
  · refine walk (hQ := ?_)
    exact hR _ (ret1 (hp := by rw [(idx_miss fun j hj => hb j (by omega)).1]))
theorem s_containsI (f : FuncId) (p : Int → Bool) (hp : ∀ d, Spc X f [.one (.int .i64 d)] (.one (.bool (p d)))) (l : List Int) : Spc X 74 [.one (slc eI l), .one (.clo f [])] (.one (.bool (l.any p))) := by
  refine Spc.start Tryz.func74 rfl (h := fun hs R hR => ?_)
  unfold Tryz.f74
  simp only [entryE, PA.av]
  refine walk (hQ := ?_)
  refine R_call (s_indexI f p hp l) (hK := ?_)
  refine walk (hQ := ?_)
  refine hR _ (ret1 (hp := ?_))
  rw [idx_nonneg]
theorem t_given (t : Tal) (k : List UInt8) (n : Int) : Spc X 58 [.agg (eTl t), .one (.str k), .one (.int .i64 n)] (.one (.int .i64 (givE t k n))) := by
  refine Spc.start Tryz.func58 rfl (h := fun hs R hR => ?_)
  unfold Tryz.f58
  simp only [entryE, PA.av]
  have k1 := t_Valid t
  have k2 := t_wrong k
  unfold givE at hR
  generalize validE t = V at *
  generalize keyE k = E at *
  obtain ⟨ks, cs⟩ := t
  simp only [eTl] at *
  repeat' (first | refine R_call k1 (hK := ?_) | refine R_call k2 (hK := ?_) | refine walkP (hQ := ?_) | refine W_if (ht := fun h => ?_) (hf := fun h => ?_) | refine W_ifb (ht := fun h => ?_) (hf := fun h => ?_) | (refine R_g_if (h1 := fun h => ?_) (h2 := fun h => ?_) <;> simp only [Bool.false_eq_true, if_false, if_true, Decidable.not_not] at h))
  all_goals refine hR _ (ret1 (hp := ?_))
  all_goals (congr 2; grind)
theorem t_both (a b : Tal) : Spc X 61 [.agg (eTl a), .agg (eTl b)] (.one (.int .i64 (if validE a ≠ 0 then validE a else validE b))) := by
  refine Spc.start Tryz.func61 rfl (h := fun hs R hR => ?_)
  unfold Tryz.f61
  simp only [entryE, PA.av]
  have k1 := t_Valid a
  have k2 := t_Valid b
  generalize validE a = V at *
  generalize validE b = E at *
  obtain ⟨ks, cs⟩ := a
  obtain ⟨ks2, cs2⟩ := b
  simp only [eTl] at *
  repeat' (first | refine R_call k1 (hK := ?_) | refine R_call k2 (hK := ?_) | refine walkP (hQ := ?_) | refine W_if (ht := fun h => ?_) (hf := fun h => ?_) | refine W_ifb (ht := fun h => ?_) (hf := fun h => ?_) | (refine R_g_if (h1 := fun h => ?_) (h2 := fun h => ?_) <;> simp only [Bool.false_eq_true, if_false, if_true, Decidable.not_not] at h))
  all_goals refine hR _ (ret1 (hp := ?_))
  all_goals (congr 2; grind)
theorem t_large1 (d : Int) : Spc X 75 [.one (.int .i64 d)] (.one (.bool (decide (1000000 < d)))) := by
  refine Spc.start Tryz.func75 rfl (h := fun hs R hR => ?_)
  unfold Tryz.f75
  simp only [entryE, PA.av]
  refine walk (hQ := ?_)
  exact hR _ (ret1 (hp := rfl))
theorem t_large (l : TL) : Spc X 45 [.agg (eTl (tlT l))] (.one (.bool (largeL l))) := by
  refine Spc.start Tryz.func45 rfl (h := fun hs R hR => ?_)
  unfold Tryz.f45
  simp only [entryE, PA.av]
  have k1 := s_containsI 75 _ t_large1 (l.map Prod.snd)
  rw [List.any_map] at k1
  unfold largeL at hR
  have hl : ((tlT l).ks).length = l.length := by simp [tlT]
  simp only [tlT, eTl] at *
  generalize l.map Prod.fst = ks at *
  generalize l.map Prod.snd = cs at *
  change Spc X _ _ (.one (.bool (l.any fun x => decide (1000000 < x.2)))) at k1
  generalize l.any _ = B at *
  repeat' (first | refine R_call k1 (hK := ?_) | refine walkP (hQ := ?_) | refine W_if (ht := fun h => ?_) (hf := fun h => ?_) | refine W_ifb (ht := fun h => ?_) (hf := fun h => ?_) | (refine R_g_if (h1 := fun h => ?_) (h2 := fun h => ?_) <;> simp only [Bool.false_eq_true, if_false, if_true, Decidable.not_not] at h))
  all_goals refine hR _ (ret1 (hp := ?_))
  all_goals (congr 2; grind)
theorem t_Get (l : TL) (key : List UInt8) (hS : SK l) (hl : l.length ≤ 90000) : Spc X 24 [.agg (eTl (tlT l)), .one (.str key)] (.one (.int .i64 (gt l key))) := by
  refine Spc.start Tryz.func24 rfl (h := fun hs R hR => ?_)
  unfold Tryz.f24
  simp only [entryE, PA.av]
  obtain ⟨A, B, rfl, hA, hB⟩ := tl_split hS key
  have k2 := t_bs hA hB (by omega)
  simp only [List.length_append] at hl
  have hlb : ((A ++ B).map Prod.snd).length = A.length + B.length := by simp
  by_cases hf : B.head?.map Prod.fst = some key
  · obtain ⟨m, B', rfl⟩ : ∃ m B', B = (key, m) :: B' := by
      cases B with
      | nil => cases hf
      | cons b B => obtain ⟨a, m⟩ := b; simp at hf; subst hf; exact ⟨m, B, rfl⟩
    have hg : gt (A ++ (key, m) :: B') key = m := gt_mem hS (x := (key, m)) (by simp)
    rw [hg] at hR
    rw [decide_eq_true hf] at k2
    have hgd : ((A ++ (key, m) :: B').map Prod.snd).getD A.length 0 = m := by
      rw [List.getD_eq_getElem?_getD, List.getElem?_map, List.getElem?_append_right (Nat.le_refl _), Nat.sub_self]; rfl
    simp only [tlT, eTl, List.length_cons] at *
    generalize (A ++ (key, m) :: B').map Prod.fst = KS at *
    generalize (A ++ (key, m) :: B').map Prod.snd = CS at *
    refine walk (hQ := ?_)
    refine R_call k2 (hK := ?_)
    refine walk (hQ := ?_)
    refine W_if (ht := fun h1 => ?_) (hf := fun h1 => ?_)
    · exact absurd h1 (by omega)
    refine walk (hQ := ?_)
    exact hR _ (ret1 (hp := by rw [hgd]))
  · have hBk : ∀ x ∈ B, x.1 ≠ key := fun x hx q => by
      cases B with
      | nil => cases hx
      | cons b B =>
        rcases List.mem_cons.1 hx with rfl | hx
        · exact hf (by simp [q])
        · have h1 := (List.pairwise_cons.1 (List.pairwise_append.1 hS).2.1).1 x hx
          have h2 := hB b (by simp)
          rw [q] at h1
          rw [h1] at h2; cases h2
    have hg : gt (A ++ B) key = 0 := gt_out fun x hx => by
      rcases List.mem_append.1 hx with h | h
      · exact lexLt_ne (hA x h)
      · exact hBk x h
    rw [hg] at hR
    rw [decide_eq_false hf] at k2
    simp only [tlT, eTl] at *
    generalize (A ++ B).map Prod.fst = KS at *
    generalize (A ++ B).map Prod.snd = CS at *
    refine walk (hQ := ?_)
    refine R_call k2 (hK := ?_)
    refine walk (hQ := ?_)
    exact hR _ (ret1 (hp := rfl))
abbrev taR (p : Tal × Int) : PA := .tup [(true, eTl p.1), (false, [.int .i64 p.2])]
theorem t_Add (t : Tal) (key : List UInt8) (n : Int) : Spc X 26 [.agg (eTl t), .one (.str key), .one (.int .i64 n)] (taR (addR t key n)) := by
  refine Spc.start Tryz.func26 rfl (h := fun hs R hR => ?_)
  unfold Tryz.f26
  simp only [entryE, PA.av]
  have k1 := t_given t key n
  unfold addR at hR
  by_cases hg : givE t key n = 0
  · obtain ⟨⟨l, rfl, hv⟩, hk, h0, h1⟩ := givE_0 hg
    rw [hg] at k1
    rw [if_neg (by rw [hg]; simp), toL_tlT] at hR
    have hgn := gt_nn hv.pos key
    have k2 := t_change l key n hv.2.1 (by have := hv.1; omega) (fun x hx => ⟨(hv.2.2 x hx).2.1, by have := (hv.2.2 x hx).2.2; omega⟩) (by omega)
    have k3 := t_large (setT l key (gt l key + n))
    rw [large_set hv (by omega)] at k3
    generalize setT l key (gt l key + n) = M at *
    simp only [tlT, eTl] at *
    generalize (gt l key + n > 1000000 : Prop) = Q at *
    repeat' (first | refine R_call k1 (hK := ?_) | refine R_call k2 (hK := ?_) | refine R_call k3 (hK := ?_) | refine walkP (hQ := ?_) | refine W_if (ht := fun h => ?_) (hf := fun h => ?_) | refine W_ifb (ht := fun h => ?_) (hf := fun h => ?_) | (refine R_g_if (h1 := fun h => ?_) (h2 := fun h => ?_) <;> simp only [Bool.false_eq_true, if_false, if_true, Decidable.not_not] at h))
    all_goals refine hR _ (ret2 (hp := ?_))
    · rw [if_pos h]; rfl
    · rw [if_neg h]; rfl
  · rw [if_pos hg] at hR
    generalize givE t key n = E at *
    obtain ⟨ks, cs⟩ := t
    simp only [eTl] at *
    refine walk (hQ := ?_)
    refine R_call k1 (hK := ?_)
    refine walk (hQ := ?_)
    refine W_if (ht := fun h1 => ?_) (hf := fun h1 => ?_)
    · refine walk (hQ := ?_)
      exact hR _ (ret2 (hp := rfl))
    · exact absurd h1 (by omega)
theorem t_Remove (t : Tal) (key : List UInt8) (n : Int) : Spc X 28 [.agg (eTl t), .one (.str key), .one (.int .i64 n)] (taR (remR t key n)) := by
  refine Spc.start Tryz.func28 rfl (h := fun hs R hR => ?_)
  unfold Tryz.f28
  simp only [entryE, PA.av]
  have k1 := t_given t key n
  unfold remR at hR
  by_cases hg : givE t key n = 0
  · obtain ⟨⟨l, rfl, hv⟩, hk, h0, h1⟩ := givE_0 hg
    rw [hg] at k1
    rw [if_neg (by rw [hg]; simp), toL_tlT] at hR
    have k2 := t_change l key (-n) hv.2.1 (by have := hv.1; omega) (fun x hx => ⟨(hv.2.2 x hx).2.1, by have := (hv.2.2 x hx).2.2; omega⟩) (by omega)
    have k3 := t_Get l key hv.2.1 (by have := hv.1; omega)
    rw [← Int.sub_eq_add_neg] at k2
    generalize setT l key (gt l key - n) = M at *
    simp only [tlT, eTl] at *
    generalize gt l key = G at *
    repeat' (first | refine R_call k1 (hK := ?_) | refine R_call k2 (hK := ?_) | refine R_call k3 (hK := ?_) | refine walkP (hQ := ?_) | refine W_if (ht := fun h => ?_) (hf := fun h => ?_) | refine W_ifb (ht := fun h => ?_) (hf := fun h => ?_) | (refine R_g_if (h1 := fun h => ?_) (h2 := fun h => ?_) <;> simp only [Bool.false_eq_true, if_false, if_true, Decidable.not_not] at h))
    all_goals refine hR _ (ret2 (hp := ?_))
    · rw [if_pos h]; rfl
    · rw [if_neg h]; rfl
  · rw [if_pos hg] at hR
    generalize givE t key n = E at *
    obtain ⟨ks, cs⟩ := t
    simp only [eTl] at *
    refine walk (hQ := ?_)
    refine R_call k1 (hK := ?_)
    refine walk (hQ := ?_)
    refine W_if (ht := fun h1 => ?_) (hf := fun h1 => ?_)
    · refine walk (hQ := ?_)
      exact hR _ (ret2 (hp := rfl))
    · exact absurd h1 (by omega)
end Go.VS.YtlmioegjeocaaaaGreatDoor

