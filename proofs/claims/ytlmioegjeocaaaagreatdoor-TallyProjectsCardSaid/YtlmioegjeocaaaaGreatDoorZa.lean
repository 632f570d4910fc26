/- Contracts over whole values, and what they lean on: part a. Each holds under the conditions that it states. -/
import Derived.Below
import Derived.Deep.Draws
import Derived.Orders
import Derived.Still
import Derived.Laws.Sem
import Derived.Laws.CopyRow
import Derived.Maps.AppendAt
import Derived.Laws.Slices
import Derived.Laws.Strings
import Derived.Laws.Strings2
import Derived.Laws.Strings3
import Derived.Laws.Concat
import Derived.Laws.Entries
set_option linter.unusedVariables false
set_option linter.unusedSimpArgs false

namespace Go.VL
open Go.RowKit
set_option linter.unusedVariables false

/-- A value read whole: no address in it. -/
inductive PV where
  | int (k : IntKind) (z : Int)
  | bool (b : Bool)
  | str (s : List UInt8)
  | lit (v : Value)
  | nil
  | sl (n : Nat) (cells : List PV)
  | pt (cells : List PV) (off : Nat)
  | clo (f : FuncId) (caps : List PV)
  | ifc
instance : Inhabited PV := ⟨.nil⟩

abbrev topLen : Nat := 9223372036854775807

inductive RepP (w : World) (ok : Nat → Prop) : PV → Value → Prop
  | int (k : IntKind) (z : Int) (h : k.min ≤ z ∧ z ≤ k.max) : RepP w ok (.int k z) (.int k z)
  | bool (b : Bool) : RepP w ok (.bool b) (.bool b)
  | str (s : List UInt8) (h : s.length ≤ topLen) : RepP w ok (.str s) (.string ⟨s.toArray⟩)
  | lit (v : Value) (h : v.oneCell' = true) : RepP w ok (.lit v) v
  | nil : RepP w ok .nil (.slice none 0 0)
  | sl0 (A : Option Addr) (cap : Nat) : RepP w ok (.sl 0 []) (.slice A 0 cap)
  | sl (n sz cap b o : Nat) (cells : List PV) (vals : Nat → Value) (hn : 0 < n) (hc : n ≤ cap) (hm : cap ≤ topLen) (hl : cells.length = n * sz) (hok : ok b)
      (hcell : ∀ (j : Nat) p, cells[j]? = some p → w.cell? ⟨b, o + j, none⟩ = some (vals j)) (hrep : ∀ (j : Nat) p, cells[j]? = some p → RepP w ok p (vals j)) :
      RepP w ok (.sl n cells) (.slice (some ⟨b, o, none⟩) n cap)
  | pt (b o off : Nat) (cells : List PV) (vals : Nat → Value) (hok : ok b)
      (hcell : ∀ (j : Nat) p, cells[j]? = some p → w.cell? ⟨b, o + j, none⟩ = some (vals j)) (hrep : ∀ (j : Nat) p, cells[j]? = some p → RepP w ok p (vals j)) :
      RepP w ok (.pt cells off) (.pointer (some ⟨b, o + off, none⟩))
  | clo (f : FuncId) (caps : List PV) (vs : Array Value) (vals : Nat → Value) (hs : vs.size = caps.length)
      (hv : ∀ (j : Nat) p, caps[j]? = some p → vs[j]? = some (vals j)) (hrep : ∀ (j : Nat) p, caps[j]? = some p → RepP w ok p (vals j)) :
      RepP w ok (.clo f caps) (.func (.func f) #[] vs)
  | ifc (t : TypeId) (v : Value) : RepP w ok .ifc (.iface t v)

theorem cell?_block {w w' : World} {b : Nat} (h : w'.heap[b]? = w.heap[b]?) (o : Nat) : w'.cell? ⟨b, o, none⟩ = w.cell? ⟨b, o, none⟩ := by
  unfold World.cell?; simp only [h]
theorem RepP.mono {w w' : World} {ok ok' : Nat → Prop} (h : ∀ b, ok b → ok' b ∧ w'.heap[b]? = w.heap[b]?) {p : PV} {v : Value} (hr : RepP w ok p v) : RepP w' ok' p v := by
  induction hr with
  | int k z hz => exact .int k z hz
  | bool b => exact .bool b
  | str s hs => exact .str s hs
  | lit v hv => exact .lit v hv
  | nil => exact .nil
  | sl0 A cap => exact .sl0 A cap
  | sl n sz cap b o cells vals hn hc hm hl hok hcell _ ih =>
    exact .sl n sz cap b o cells vals hn hc hm hl (h b hok).1 (fun j p hj => by rw [cell?_block (h b hok).2]; exact hcell j p hj) ih
  | pt b o off cells vals hok hcell _ ih =>
    exact .pt b o off cells vals (h b hok).1 (fun j p hj => by rw [cell?_block (h b hok).2]; exact hcell j p hj) ih
  | clo f caps vs vals hs hv _ ih => exact .clo f caps vs vals hs hv ih
  | ifc t v => exact .ifc t v
theorem RepP.oneCell {w : World} {ok : Nat → Prop} {p : PV} {v : Value} (hr : RepP w ok p v) : v.oneCell' = true := by
  cases hr <;> first | rfl | assumption

/-- What a frame's slots and own blocks hold. -/
inductive Cap where
  | pv (p : PV)
  | ptr (id off : Nat)
inductive AC where
  | any
  | ub
  | pv (p : PV)
  | own (id sz n : Nat)
  | sub (id sz off n : Nat)
  | ptr (id off : Nat)
  | adr (id : Nat) (T : TypeId) (sz : Nat)
  | clo (f : FuncId) (caps : List Cap)
  | mp (id : Nat)
inductive Bx where
  | pu (e : TypeId) (cells : List PV)
  | mx (cells : List AC)
  | ob (cells : List AC)
inductive AV where
  | one (c : AC)
  | agg (cs : List AC)
  | tup (xs : List (Bool × List AC))
  | bot
def Bx.cells : Bx → List AC
  | .pu _ l => l.map .pv
  | .mx l => l
  | .ob l => l
abbrev Hp := List (Nat × (Bx × Bool))
abbrev Bt := Nat → Option Nat
def look {α : Type} : List (Nat × α) → Nat → Option α
  | [], _ => none
  | (k, x) :: l, i => if i = k then some x else look l i
def put {α : Type} : List (Nat × α) → Nat → α → List (Nat × α)
  | [], i, y => [(i, y)]
  | (k, x) :: l, i, y => if i = k then (k, y) :: l else (k, x) :: put l i y
def del {α : Type} : List (Nat × α) → Nat → List (Nat × α)
  | [], _ => []
  | (k, x) :: l, i => if i = k then del l i else (k, x) :: del l i
theorem look_put {α : Type} (l : List (Nat × α)) (i j : Nat) (y : α) : look (put l i y) j = if j = i then some y else look l j := by
  induction l with
  | nil => simp [put, look]
  | cons a l ih =>
    obtain ⟨k, x⟩ := a
    simp only [put]
    by_cases h : i = k
    · subst h
      simp only [if_true, look]
      by_cases hj : j = i <;> simp [hj]
    · simp only [h, if_false, look, ih]
      by_cases hj : j = k
      · subst hj
        rw [if_pos rfl, if_neg (fun e => h e.symm), if_pos rfl]
      · simp [hj]
theorem look_del {α : Type} (l : List (Nat × α)) (i j : Nat) : look (del l i) j = if j = i then none else look l j := by
  induction l with
  | nil => simp [del, look]
  | cons a l ih =>
    obtain ⟨k, x⟩ := a
    simp only [del]
    by_cases h : i = k
    · subst h
      simp only [if_true, look, ih]
      by_cases hj : j = i <;> simp [hj]
    · simp only [h, if_false, look, ih]
      by_cases hj : j = k
      · subst hj
        rw [if_pos rfl, if_neg (fun e => h e.symm), if_pos rfl]
      · simp [hj]

def bsh (w : World) (b : Nat) : TypeId × Nat := match w.heap[b]? with | some (.cells c e _) => (e, c.size) | _ => (0, 0)
def OwnRep (w : World) (β : Bt) (id sz n : Nat) (v : Value) : Prop :=
  (v = .slice none 0 0 ∧ n = 0) ∨ ∃ g cap, β id = some g ∧ v = .slice (some ⟨g, 0, none⟩) n cap ∧ n ≤ cap ∧ cap ≤ topLen ∧ cap * sz = (bsh w g).2
def SubRep (β : Bt) (id off n : Nat) (v : Value) : Prop :=
  ∃ A cap, v = .slice A n cap ∧ n ≤ cap ∧ cap ≤ topLen ∧ (n = 0 ∨ ∃ g, β id = some g ∧ A = some ⟨g, off, none⟩)
def PtrRep (β : Bt) (id off : Nat) (v : Value) : Prop := ∃ g, β id = some g ∧ v = .pointer (some ⟨g, off, none⟩)
def RepCap (w : World) (ok : Nat → Prop) (β : Bt) : Cap → Value → Prop
  | .pv p, v => RepP w ok p v
  | .ptr id off, v => PtrRep β id off v
def RepC (w : World) (ok : Nat → Prop) (β : Bt) : AC → Value → Prop
  | .any, v => v.oneCell' = true
  | .ub, v => ∃ b, v = .bool b
  | .pv p, v => RepP w ok p v
  | .own id sz n, v => OwnRep w β id sz n v
  | .sub id _ off n, v => SubRep β id off n v
  | .ptr id off, v => PtrRep β id off v
  | .adr id T sz, v => ∃ g, β id = some g ∧ (v = .pointer none ∨ v = .pointer (some ⟨g, 0, none⟩)) ∧ bsh w g = (T, sz)
  | .clo f caps, v => ∃ vs, v = .func (.func f) #[] vs ∧ vs.size = caps.length ∧ ∀ (j : Nat) c, caps[j]? = some c → ∃ u : Value, vs[j]? = some u ∧ RepCap w ok β c u
  | .mp id, v => ∃ g, β id = some g ∧ v = .map (some g)
def RepL (w : World) (ok : Nat → Prop) (β : Bt) (cs : List AC) (vs : Array Value) : Prop :=
  vs.size = cs.length ∧ ∀ (j : Nat) c, cs[j]? = some c → ∃ u : Value, vs[j]? = some u ∧ RepC w ok β c u
def RepE (w : World) (ok : Nat → Prop) (β : Bt) : Bool × List AC → Value → Prop
  | (true, cs), v => ∃ vs, v = .agg vs ∧ RepL w ok β cs vs
  | (false, cs), v => ∃ c, cs = [c] ∧ RepC w ok β c v
def RepV (w : World) (ok : Nat → Prop) (β : Bt) : AV → Value → Prop
  | .one c, v => RepC w ok β c v
  | .agg cs, v => ∃ vs, v = .agg vs ∧ RepL w ok β cs vs
  | .tup xs, v => ∃ vs, v = .tuple vs ∧ vs.size = xs.length ∧ ∀ (j : Nat) x, xs[j]? = some x → ∃ u : Value, vs[j]? = some u ∧ RepE w ok β x u
  | .bot, _ => True

def Cap.refs : Cap → List Nat
  | .pv _ => []
  | .ptr id _ => [id]
def AC.refs : AC → List Nat
  | .any | .ub | .pv _ => []
  | .own id _ _ | .sub id _ _ _ | .ptr id _ | .adr id _ _ => [id]
  | .clo _ caps => caps.flatMap Cap.refs
  | .mp id => [id]
def acRefs (cs : List AC) : List Nat := cs.flatMap AC.refs
def AV.refs : AV → List Nat
  | .one c => c.refs
  | .agg cs => acRefs cs
  | .tup xs => xs.flatMap fun x => acRefs x.2
  | .bot => []

/-- Two worlds, the second of which reads as the first at all that the ids of a set stand for. -/
structure Keeps (S : Nat → Prop) (w : World) (ok : Nat → Prop) (β : Bt) (w' : World) (ok' : Nat → Prop) (β' : Bt) : Prop where
  blk : ∀ b, ok b → ok' b ∧ w'.heap[b]? = w.heap[b]?
  ids : ∀ id, S id → β' id = β id ∧ ∀ g, β id = some g → bsh w' g = bsh w g
section
variable {S : Nat → Prop} {w w' : World} {ok ok' : Nat → Prop} {β β' : Bt}
theorem Keeps.refl (w : World) (ok : Nat → Prop) (β : Bt) : Keeps S w ok β w ok β := ⟨fun _ h => ⟨h, rfl⟩, fun _ _ => ⟨rfl, fun _ _ => rfl⟩⟩
theorem Keeps.capRep (k : Keeps S w ok β w' ok' β') {c : Cap} {v : Value} (hc : ∀ id ∈ c.refs, S id) (h : RepCap w ok β c v) : RepCap w' ok' β' c v := by
  cases c with
  | pv p => exact RepP.mono k.blk h
  | ptr id off =>
    obtain ⟨g, hg, hv⟩ := h
    exact ⟨g, by rw [(k.ids id (hc id (by simp [Cap.refs]))).1]; exact hg, hv⟩
theorem Keeps.repC (k : Keeps S w ok β w' ok' β') {c : AC} {v : Value} (hc : ∀ id ∈ c.refs, S id) (h : RepC w ok β c v) : RepC w' ok' β' c v := by
  cases c with
  | any => exact h
  | ub => exact h
  | pv p => exact RepP.mono k.blk h
  | own id sz n =>
    have hk := k.ids id (hc id (by simp [AC.refs]))
    rcases h with h | ⟨g, cap, hg, hv, h1, h2, h3⟩
    · exact .inl h
    · exact .inr ⟨g, cap, by rw [hk.1]; exact hg, hv, h1, h2, by rw [hk.2 g hg]; exact h3⟩
  | sub id sz off n =>
    have hk := k.ids id (hc id (by simp [AC.refs]))
    obtain ⟨A, cap, hv, h1, h2, h3⟩ := h
    refine ⟨A, cap, hv, h1, h2, h3.imp (fun h => h) fun ⟨g, hg, e⟩ => ⟨g, by rw [hk.1]; exact hg, e⟩⟩
  | ptr id off =>
    obtain ⟨g, hg, hv⟩ := h
    exact ⟨g, by rw [(k.ids id (hc id (by simp [AC.refs]))).1]; exact hg, hv⟩
  | adr id T sz =>
    obtain ⟨g, hg, hv, hs⟩ := h
    have hk := k.ids id (hc id (by simp [AC.refs]))
    exact ⟨g, by rw [hk.1]; exact hg, hv, by rw [hk.2 g hg]; exact hs⟩
  | clo f caps =>
    obtain ⟨vs, hv, hs, h⟩ := h
    refine ⟨vs, hv, hs, fun j c hj => ?_⟩
    obtain ⟨u, hu, hr⟩ := h j c hj
    exact ⟨u, hu, k.capRep (fun id hid => hc id (List.mem_flatMap.2 ⟨c, List.mem_of_getElem? hj, hid⟩)) hr⟩
  | mp id =>
    obtain ⟨g, hg, hv⟩ := h
    exact ⟨g, by rw [(k.ids id (hc id (by simp [AC.refs]))).1]; exact hg, hv⟩
theorem Keeps.repL (k : Keeps S w ok β w' ok' β') {cs : List AC} {vs : Array Value} (hc : ∀ id ∈ acRefs cs, S id) (h : RepL w ok β cs vs) : RepL w' ok' β' cs vs :=
  ⟨h.1, fun j c hj => by
    obtain ⟨u, hu, hr⟩ := h.2 j c hj
    exact ⟨u, hu, k.repC (fun id hid => hc id (List.mem_flatMap.2 ⟨c, List.mem_of_getElem? hj, hid⟩)) hr⟩⟩
theorem Keeps.repE (k : Keeps S w ok β w' ok' β') {x : Bool × List AC} {v : Value} (hc : ∀ id ∈ acRefs x.2, S id) (h : RepE w ok β x v) : RepE w' ok' β' x v := by
  obtain ⟨b, cs⟩ := x
  cases b with
  | true =>
    obtain ⟨vs, hv, hl⟩ := h
    exact ⟨vs, hv, k.repL hc hl⟩
  | false =>
    obtain ⟨c, rfl, hr⟩ := h
    exact ⟨c, rfl, k.repC (fun id hid => hc id (by simpa [acRefs] using hid)) hr⟩
theorem Keeps.repV (k : Keeps S w ok β w' ok' β') {y : AV} {v : Value} (hc : ∀ id ∈ y.refs, S id) (h : RepV w ok β y v) : RepV w' ok' β' y v := by
  cases y with
  | one c => exact k.repC hc h
  | agg cs =>
    obtain ⟨vs, hv, hl⟩ := h
    exact ⟨vs, hv, k.repL hc hl⟩
  | tup xs =>
    obtain ⟨vs, hv, hs, h⟩ := h
    refine ⟨vs, hv, hs, fun j x hj => ?_⟩
    obtain ⟨u, hu, hr⟩ := h j x hj
    exact ⟨u, hu, k.repE (fun id hid => hc id (List.mem_flatMap.2 ⟨x, List.mem_of_getElem? hj, hid⟩)) hr⟩
  | bot => trivial
theorem RepC.oneCell {c : AC} {v : Value} (h : RepC w ok β c v) : v.oneCell' = true := by
  cases c with
  | any => exact h
  | ub => obtain ⟨b, rfl⟩ := h; rfl
  | pv p => exact RepP.oneCell h
  | own id sz n => rcases h with ⟨rfl, _⟩ | ⟨g, cap, _, rfl, _⟩ <;> rfl
  | sub id sz off n => obtain ⟨A, cap, rfl, _⟩ := h; rfl
  | ptr id off => obtain ⟨g, _, rfl⟩ := h; rfl
  | adr id T sz => obtain ⟨g, _, rfl | rfl, _⟩ := h <;> rfl
  | clo f caps => obtain ⟨vs, rfl, _⟩ := h; rfl
  | mp id => obtain ⟨g, _, rfl⟩ := h; rfl
end

/-- What was there is as it was, but for some blocks; the streams are as they were; no block has gone. -/
structure BelowM (m : Nat → Prop) (w w' : World) : Prop where
  os : w'.os = w.os
  tape : w'.tape = w.tape
  output : w'.output = w.output
  size : w.heap.size ≤ w'.heap.size
  block : ∀ k, k < w.heap.size → ¬ m k → w'.heap[k]? = w.heap[k]?
theorem BelowM.refl (m : Nat → Prop) (w : World) : BelowM m w w := ⟨rfl, rfl, rfl, Nat.le_refl _, fun _ _ _ => rfl⟩
theorem BelowM.comp {m m2 : Nat → Prop} {a b c : World} (h : BelowM m a b) (k : BelowM m2 b c) (hm : ∀ k, m2 k → a.heap.size ≤ k ∨ m k) : BelowM m a c :=
  ⟨k.os.trans h.os, k.tape.trans h.tape, k.output.trans h.output, Nat.le_trans h.size k.size, fun i hi hn => (k.block i (Nat.lt_of_lt_of_le hi h.size) fun h2 => by
    rcases hm i h2 with h3 | h3
    · omega
    · exact hn h3).trans (h.block i hi hn)⟩
theorem BelowM.of {w w' : World} (b : Below w.heap.size w w') : BelowM (fun _ => False) w w' := ⟨b.os, b.tape, b.output, b.size, fun k hk _ => b.block k hk⟩
theorem BelowM.then {m : Nat → Prop} {a b c : World} (h : BelowM m a b) (k : Below b.heap.size b c) : BelowM m a c := h.comp (.of k) fun _ h => h.elim
theorem BelowM.row {m : Nat → Prop} {a w : World} (h : BelowM m a w) {g : Nat} (hg : a.heap.size ≤ g ∨ m g) (cs : Array Value) : BelowM m a (w.setRow g cs) :=
  h.comp (m2 := fun k => k = g) ⟨rfl, rfl, rfl, by simp, fun k hk hn => setRow_other w g k cs hn⟩ fun k hk => by rw [hk]; exact hg
theorem BelowM.grown {m : Nat → Prop} {a w w' : World} {row : Option Nat} (h : BelowM m a w) (hg : w.grownBy w' row) (hr : ∀ k, row = some k → a.heap.size ≤ k ∨ m k) : BelowM m a w' :=
  h.comp (m2 := fun k => row = some k) ⟨hg.os, hg.tape, hg.output, hg.size, fun k hk hn => hg.block k hk (fun e => hn e.symm)⟩ fun k hk => hr k hk

/-- What a program's texts need beside its code: a fact on the world that all keeps that leaves the blocks below nb as they were. -/
structure Ctx where
  P : Program
  G : World → Prop
  nb : Nat
  hN : ∀ w : World, G w → nb ≤ w.heap.size
  hG : ∀ (w w' : World) (m : Nat → Prop), G w → (∀ b, m b → nb ≤ b) → BelowM m w w' → G w'
  mixed : P.follows .mixedOrders = true
/-- A frame: the world when it began, which of the old blocks its arguments lie in, which were handed over to it, and where the ids from 1000 on stand. -/
structure Fr where
  w0 : World
  ok0 : Nat → Prop
  mine : Nat → Prop
  pin : Bt
def Fr.own (F : Fr) (g : Nat) : Prop := F.w0.heap.size ≤ g ∨ F.mine g
def Fr.ok (F : Fr) (w : World) (h : Hp) (β : Bt) : Nat → Prop := fun b =>
  b < w.heap.size ∧ (b < F.w0.heap.size → F.ok0 b ∨ F.mine b) ∧ ∀ id bx, look h id = some (bx, false) → β id ≠ some b
/-- Where a box's cells lie: a row that is not marked; or, for the ids from 500 to 999, one whose mark lies behind its cells (bytes made of a string). -/
def RowAt (w : World) (id g : Nat) (arr : Array Value) (e : TypeId) : Prop := ∃ fz : Nat × Nat, w.heap[g]? = some (.cells arr e fz) ∧ (fz = (0, 0) ∨ (500 ≤ id ∧ id < 1000 ∧ fz.1 = arr.size))
section
variable {w w' : World} {id g : Nat} {arr : Array Value} {e : TypeId}
theorem RowAt.new (h : w.heap[g]? = some (.cells arr e (0, 0))) : RowAt w id g arr e := ⟨_, h, .inl rfl⟩
theorem RowAt.lt (h : RowAt w id g arr e) : g < w.heap.size := by
  obtain ⟨fz, h, _⟩ := h
  exact (Array.getElem?_eq_some_iff.1 h).1
theorem RowAt.low (h : RowAt w id g arr e) (hid : id < 500 ∨ 1000 ≤ id) : w.heap[g]? = some (.cells arr e (0, 0)) := by
  obtain ⟨fz, h, hf⟩ := h
  rcases hf with rfl | hf
  · exact h
  · omega
theorem RowAt.keep (h : RowAt w id g arr e) (hw : w'.heap[g]? = w.heap[g]?) : RowAt w' id g arr e := by
  obtain ⟨fz, h, hf⟩ := h
  exact ⟨fz, hw.trans h, hf⟩
theorem RowAt.ren (h : RowAt w id g arr e) (hid : id < 500 ∨ 1000 ≤ id) {j : Nat} : RowAt w j g arr e := .new (h.low hid)
theorem RowAt.bsh (h : RowAt w id g arr e) : bsh w g = (e, arr.size) := by
  obtain ⟨fz, h, _⟩ := h
  unfold Go.VL.bsh; rw [h]
theorem RowAt.cell (h : RowAt w id g arr e) (j : Nat) : w.cell? ⟨g, j, none⟩ = arr[j]? := by
  obtain ⟨fz, h, _⟩ := h
  exact cell_of_row w g j arr e fz h
end
/-- What a map holds, entry by entry, in the order in which they came; nothing has been taken out. -/
def mapEs : Nat → List (Value × Value) → List MapEntry
  | _, [] => []
  | k, (a, b) :: l => ⟨a, b, k⟩ :: mapEs (k + 1) l
def flatKV (l : List (Value × Value)) : List Value := l.flatMap fun x => [x.1, x.2]
/-- What is told of an object that is no row: a map, or one that walks over a map. -/
inductive ObjAt (w : World) (g : Nat) : Array Value → Prop
  | map (l : List (Value × Value)) (h : w.heap[g]? = some (.map (mapEs 0 l).toArray l.length)) : ObjAt w g (Value.bool true :: Value.int .i64 l.length :: flatKV l).toArray
  | iter (m n : Nat) (seen : List Nat) (h : w.heap[g]? = some (.mapIter (some m) n seen.toArray n)) : ObjAt w g (Value.bool false :: Value.map (some m) :: Value.int .i64 n :: Value.int .i64 seen.length :: seen.map fun i : Nat => Value.int .i64 (i : Int)).toArray
theorem ObjAt.look {w : World} {g : Nat} {arr : Array Value} (h : ObjAt w g arr) : ∃ o, w.heap[g]? = some o ∧ (∀ c e f, o ≠ .cells c e f) := by
  cases h with
  | map l h => exact ⟨_, h, fun c e f => by simp⟩
  | iter m n seen h => exact ⟨_, h, fun c e f => by simp⟩
theorem ObjAt.keep {w w' : World} {g : Nat} {arr : Array Value} (h : ObjAt w g arr) (hw : w'.heap[g]? = w.heap[g]?) : ObjAt w' g arr := by
  cases h with
  | map l h => exact .map l (hw.trans h)
  | iter m n seen h => exact .iter m n seen (hw.trans h)
/-- Where a box's cells lie, by its kind. -/
def RowAtB : Bx → World → Nat → Nat → Array Value → TypeId → Prop
  | .ob _, w, _, g, arr, _ => ObjAt w g arr
  | .pu _ _, w, id, g, arr, e => RowAt w id g arr e
  | .mx _, w, id, g, arr, e => RowAt w id g arr e
def Bx.row : Bx → Bool
  | .ob _ => false
  | _ => true
section
variable {bx : Bx} {w w' : World} {id g : Nat} {arr : Array Value} {e : TypeId}
theorem RowAtB.of (hb : bx.row = true) (h : RowAt w id g arr e) : RowAtB bx w id g arr e := by
  cases bx with
  | pu e l => exact h
  | mx l => exact h
  | ob l => cases hb
theorem RowAtB.is (hb : bx.row = true) (h : RowAtB bx w id g arr e) : RowAt w id g arr e := by
  cases bx with
  | pu e l => exact h
  | mx l => exact h
  | ob l => cases hb
theorem RowAtB.lt (h : RowAtB bx w id g arr e) : g < w.heap.size := by
  cases bx with
  | pu e l => exact RowAt.lt h
  | mx l => exact RowAt.lt h
  | ob l =>
    obtain ⟨o, h, _⟩ := ObjAt.look h
    exact (Array.getElem?_eq_some_iff.1 h).1
theorem RowAtB.keep (h : RowAtB bx w id g arr e) (hw : w'.heap[g]? = w.heap[g]?) : RowAtB bx w' id g arr e := by
  cases bx with
  | pu e l => exact RowAt.keep h hw
  | mx l => exact RowAt.keep h hw
  | ob l => exact ObjAt.keep h hw
theorem RowAtB.ren (h : RowAtB bx w id g arr e) (hid : id < 500 ∨ 1000 ≤ id) {j : Nat} : RowAtB bx w j g arr e := by
  cases bx with
  | pu e l => exact RowAt.ren h hid
  | mx l => exact RowAt.ren h hid
  | ob l => exact h
end
def BoxRep (B : Nat → Prop) (w : World) (ok : Nat → Prop) (β : Bt) (id : Nat) (bx : Bx) : Prop :=
  match β id with
  | none => bx.cells = []
  | some g => B g ∧ ∃ arr e, RowAtB bx w id g arr e ∧ (∀ e' l, bx = .pu e' l → e' = e) ∧ ∀ (j : Nat) c, bx.cells[j]? = some c → ∃ u : Value, arr[j]? = some u ∧ RepC w ok β c u
/-- The ids from 1000 on stay where they stood. -/
def PinOk (F : Fr) (h : Hp) (β : Bt) (w : World) : Prop :=
  ∀ id, 1000 ≤ id → β id = F.pin id ∧ ∀ g, F.pin id = some g → g < F.w0.heap.size ∧ bsh w g = bsh F.w0 g ∧ ∀ i e, look h i = some e → i ≠ id → β i ≠ some g
structure HRel (X : Ctx) (F : Fr) (h : Hp) (β : Bt) (w : World) : Prop where
  below : BelowM F.mine F.w0 w
  g : X.G F.w0 ∧ ∀ b, F.mine b → X.nb ≤ b
  box : ∀ id bx z, look h id = some (bx, z) → BoxRep F.own w (F.ok w h β) β id bx
  inj : ∀ id id' e e' g, id ≠ id' → look h id = some e → look h id' = some e' → β id = some g → β id' ≠ some g
  wf : ∀ id bx z, look h id = some (bx, z) → ∀ i ∈ acRefs bx.cells, (look h i).isSome = true
  pin : PinOk F h β w
theorem HRel.gw {X : Ctx} {F : Fr} {h : Hp} {β : Bt} {w : World} (r : HRel X F h β w) : X.G w := X.hG _ _ _ r.g.1 r.g.2 r.below
theorem HRel.size {X : Ctx} {F : Fr} {h : Hp} {β : Bt} {w : World} (r : HRel X F h β w) : F.w0.heap.size ≤ w.heap.size := r.below.size
theorem PinOk.sub {F : Fr} {h h' : Hp} {β : Bt} {w : World} (p : PinOk F h β w) (hs : ∀ i e, look h' i = some e → ∃ e', look h i = some e') : PinOk F h' β w := fun id hid =>
  ⟨(p id hid).1, fun g hg => ⟨((p id hid).2 g hg).1, ((p id hid).2 g hg).2.1, fun i e hl => by
    obtain ⟨e', he⟩ := hs i e hl
    exact ((p id hid).2 g hg).2.2 i e' he⟩⟩
theorem PinOk.world {F : Fr} {h : Hp} {β : Bt} {w w' : World} (p : PinOk F h β w) (hs : ∀ id g, 1000 ≤ id → F.pin id = some g → bsh w' g = bsh w g) : PinOk F h β w' := fun id hid =>
  ⟨(p id hid).1, fun g hg => ⟨((p id hid).2 g hg).1, (hs id g hid hg).trans ((p id hid).2 g hg).2.1, ((p id hid).2 g hg).2.2⟩⟩
end Go.VL


namespace Go.VL
open Go.RowKit
set_option linter.unusedVariables false
section
variable {X : Ctx} {F : Fr} {h : Hp} {β : Bt} {w w' : World}

theorem BoxRep.keeps {B : Nat → Prop} {S : Nat → Prop} {w w' : World} {ok ok' : Nat → Prop} {β β' : Bt} {id : Nat} {bx : Bx} (k : Keeps S w ok β w' ok' β') (hb : β' id = β id) (hg : ∀ g, β id = some g → w'.heap[g]? = w.heap[g]?)
    (hc : ∀ i ∈ acRefs bx.cells, S i) (r : BoxRep B w ok β id bx) : BoxRep B w' ok' β' id bx := by
  unfold BoxRep at *
  rw [hb]
  cases hβ : β id with
  | none => rw [hβ] at r; exact r
  | some g =>
    rw [hβ] at r
    obtain ⟨h1, arr, e, h2, h3, h4⟩ := r
    refine ⟨h1, arr, e, h2.keep (hg g hβ), h3, fun j c hj => ?_⟩
    obtain ⟨u, hu, hr⟩ := h4 j c hj
    exact ⟨u, hu, k.repC (fun i hi => hc i (List.mem_flatMap.2 ⟨c, List.mem_of_getElem? hj, hi⟩)) hr⟩
theorem HRel.lt (r : HRel X F h β w) {id g : Nat} {e : Bx × Bool} (hl : look h id = some e) (hb : β id = some g) : g < w.heap.size ∧ F.own g := by
  obtain ⟨bx, z⟩ := e
  have := r.box id bx z hl
  unfold BoxRep at this
  rw [hb] at this
  obtain ⟨h1, arr, e, h2, _⟩ := this
  exact ⟨h2.lt, h1⟩
theorem isSome_of {α : Type} {o : Option α} {x : α} (h : o = some x) : o.isSome = true := by rw [h]; rfl
/-- A world that holds all that was there, and more. -/
theorem HRel.keeps_ext (r : HRel X F h β w) (b : Below w.heap.size w w') : Keeps (fun id => (look h id).isSome = true) w (F.ok w h β) β w' (F.ok w' h β) β :=
  ⟨fun k hk => ⟨⟨Nat.lt_of_lt_of_le hk.1 b.size, hk.2⟩, b.block k hk.1⟩, fun id hid => ⟨rfl, fun g hg => by
    obtain ⟨e, he⟩ := Option.isSome_iff_exists.1 hid
    unfold bsh
    rw [b.block g (r.lt he hg).1]⟩⟩
theorem HRel.ext (r : HRel X F h β w) (b : Below w.heap.size w w') : HRel X F h β w' where
  below := r.below.then b
  g := r.g
  box := fun id bx z hl => (r.box id bx z hl).keeps (r.keeps_ext b) rfl (fun g hg => b.block g (r.lt hl hg).1) (fun i hi => r.wf id bx z hl i hi)
  inj := r.inj
  wf := r.wf
  pin := r.pin.world fun id g hid hg => by
    have := ((r.pin id hid).2 g hg).1
    have := r.size
    unfold bsh
    rw [b.block g (by omega)]
/-- A draw. -/
theorem HRel.drew (r : HRel X F h β w) (n : Nat) : HRel X F h β (w.drewN n) := r.ext ⟨rfl, rfl, rfl, Nat.le_refl _, fun _ _ => rfl⟩

def upd1 (β : Bt) (id : Nat) (g : Option Nat) : Bt := fun i => if i = id then g else β i
/-- A new box: a new block. -/
theorem HRel.ok_add (r : HRel X F h β w) {id : Nat} {bx : Bx} {o : Obj} (hn : look h id = none) {b : Nat} (hb : F.ok w h β b) : F.ok (w.alloc o) (put h id (bx, false)) (upd1 β id (some w.heap.size)) b := by
  refine ⟨by have := hb.1; simp; omega, hb.2.1, fun i bx' hl e => ?_⟩
  rw [look_put] at hl
  unfold upd1 at e
  by_cases hi : i = id
  · subst hi
    simp at e
    have := hb.1
    omega
  · rw [if_neg hi] at hl e
    exact hb.2.2 i bx' hl e
theorem HRel.keeps_add (r : HRel X F h β w) {id : Nat} {bx : Bx} {o : Obj} (hn : look h id = none) :
    Keeps (fun id => (look h id).isSome = true) w (F.ok w h β) β (w.alloc o) (F.ok (w.alloc o) (put h id (bx, false)) (upd1 β id (some w.heap.size))) (upd1 β id (some w.heap.size)) :=
  ⟨fun k hk => ⟨r.ok_add hn hk, heap_alloc_old w o k hk.1⟩, fun i hi => by
    have hne : i ≠ id := fun e => by subst e; rw [hn] at hi; cases hi
    refine ⟨by simp [upd1, hne], fun g hg => ?_⟩
    obtain ⟨e, he⟩ := Option.isSome_iff_exists.1 hi
    unfold bsh
    rw [heap_alloc_old w o g (r.lt he hg).1]⟩
theorem PinOk.upd {id : Nat} {b : Bx × Bool} {o : Option Nat} (p : PinOk F h β w) (hid : id < 1000) (ho : ∀ i g, 1000 ≤ i → F.pin i = some g → o ≠ some g) : PinOk F (put h id b) (upd1 β id o) w := fun i hi =>
  ⟨by unfold upd1; rw [if_neg (by omega)]; exact (p i hi).1, fun g hg => ⟨((p i hi).2 g hg).1, ((p i hi).2 g hg).2.1, fun j e hl hne => by
    unfold upd1
    rw [look_put] at hl
    by_cases hj : j = id
    · rw [if_pos hj]; exact ho i g hi hg
    · rw [if_neg hj] at hl ⊢; exact ((p i hi).2 g hg).2.2 j e hl hne⟩⟩
theorem HRel.addB (r : HRel X F h β w) {id : Nat} {bx : Bx} {o : Obj} {arr : Array Value} {e : TypeId} (hn : look h id = none) (hid : id < 1000) (hrow : RowAtB bx (w.alloc o) id w.heap.size arr e) (he : ∀ e' l, bx = .pu e' l → e' = e)
    (hc : ∀ (j : Nat) c, bx.cells[j]? = some c → ∃ u : Value, arr[j]? = some u ∧ RepC w (F.ok w h β) β c u) (hw : ∀ i ∈ acRefs bx.cells, (look h i).isSome = true) :
    HRel X F (put h id (bx, false)) (upd1 β id (some w.heap.size)) (w.alloc o) := by
  have hb : Below w.heap.size w (w.alloc o) := (Below.refl _ _).alloc (Nat.le_refl _) _
  have k := r.keeps_add (bx := bx) (o := o) hn
  refine ⟨r.below.then hb, r.g, fun i bx' z hl => ?_, fun i i' e1 e2 g hne h1 h2 b1 b2 => ?_, fun i bx' z hl j hj => ?_, (r.ext hb).pin.upd hid fun i g hi hg e => by
    have := ((r.pin i hi).2 g hg).1
    have := r.size
    simp at e; omega⟩
  · rw [look_put] at hl
    by_cases hi : i = id
    · subst hi
      rw [if_pos rfl] at hl
      simp only [Option.some.injEq, Prod.mk.injEq] at hl
      obtain ⟨rfl, rfl⟩ := hl
      unfold BoxRep
      rw [show upd1 β i (some w.heap.size) i = some w.heap.size by simp [upd1]]
      refine ⟨.inl r.size, arr, e, hrow, he, fun j c hj => ?_⟩
      obtain ⟨u, hu, hr⟩ := hc j c hj
      exact ⟨u, hu, k.repC (fun i hi => hw i (List.mem_flatMap.2 ⟨c, List.mem_of_getElem? hj, hi⟩)) hr⟩
    · rw [if_neg hi] at hl
      exact (r.box i bx' z hl).keeps k (by simp [upd1, hi]) (fun g hg => heap_alloc_old w _ g (r.lt hl hg).1) (fun j hj => r.wf i bx' z hl j hj)
  · rw [look_put] at h1 h2
    unfold upd1 at b1 b2
    by_cases hi : i = id
    · have hi' : i' ≠ id := fun e => hne (hi.trans e.symm)
      rw [if_pos hi] at b1
      rw [if_neg hi'] at h2 b2
      have := (r.lt h2 b2).1
      simp at b1
      omega
    · rw [if_neg hi] at h1 b1
      by_cases hi' : i' = id
      · rw [if_pos hi'] at b2
        have := (r.lt h1 b1).1
        simp at b2
        omega
      · rw [if_neg hi'] at h2 b2
        exact r.inj i i' e1 e2 g hne h1 h2 b1 b2
  · rw [look_put] at hl ⊢
    by_cases hj2 : j = id
    · simp [hj2]
    · rw [if_neg hj2]
      by_cases hi : i = id
      · rw [if_pos hi] at hl
        simp only [Option.some.injEq, Prod.mk.injEq] at hl
        obtain ⟨rfl, rfl⟩ := hl
        exact hw j hj
      · rw [if_neg hi] at hl
        exact r.wf i bx' z hl j hj

theorem HRel.add (r : HRel X F h β w) {id : Nat} {bx : Bx} {arr : Array Value} {e : TypeId} (hn : look h id = none) (hid : id < 1000) (hbr : bx.row = true) (he : ∀ e' l, bx = .pu e' l → e' = e)
    (hc : ∀ (j : Nat) c, bx.cells[j]? = some c → ∃ u : Value, arr[j]? = some u ∧ RepC w (F.ok w h β) β c u) (hw : ∀ i ∈ acRefs bx.cells, (look h i).isSome = true) :
    HRel X F (put h id (bx, false)) (upd1 β id (some w.heap.size)) (w.alloc (.cells arr e)) := r.addB hn hid (.of hbr (.new (heap_alloc_new w _))) he hc hw
/-- A box that is written no more. -/
def frz (h : Hp) (id : Nat) : Hp := match look h id with | some (bx, _) => put h id (bx, true) | none => h
theorem look_frz (h : Hp) (id i : Nat) : look (frz h id) i = if i = id then (look h i).map (fun e => (e.1, true)) else look h i := by
  unfold frz
  cases hl : look h id with
  | none =>
    by_cases hi : i = id
    · subst hi; simp [hl]
    · simp [hi]
  | some e =>
    obtain ⟨bx, z⟩ := e
    simp only [look_put]
    by_cases hi : i = id
    · subst hi; simp [hl]
    · simp [hi]
theorem look_frz_some {h : Hp} {id i : Nat} {bx : Bx} {z : Bool} (hl : look (frz h id) i = some (bx, z)) : ∃ z', look h i = some (bx, z') ∧ (z = false → z' = false ∧ i ≠ id) := by
  rw [look_frz] at hl
  by_cases hi : i = id
  · rw [if_pos hi] at hl
    cases hh : look h i with
    | none => rw [hh] at hl; cases hl
    | some e =>
      rw [hh] at hl
      simp only [Option.map_some, Option.some.injEq, Prod.mk.injEq] at hl
      obtain ⟨rfl, rfl⟩ := hl
      exact ⟨e.2, rfl, fun h => by cases h⟩
  · rw [if_neg hi] at hl
    exact ⟨z, hl, fun hz => ⟨hz, hi⟩⟩
theorem isSome_frz (h : Hp) (id i : Nat) : (look (frz h id) i).isSome = (look h i).isSome := by
  rw [look_frz]
  split <;> simp
theorem ok_frz {id b : Nat} (hb : F.ok w h β b) : F.ok w (frz h id) β b := ⟨hb.1, hb.2.1, fun i bx hl => by
  obtain ⟨z', h1, h2⟩ := look_frz_some hl
  rw [(h2 rfl).1] at h1
  exact hb.2.2 i bx h1⟩
theorem keeps_frz (id : Nat) (S : Nat → Prop) : Keeps S w (F.ok w h β) β w (F.ok w (frz h id) β) β := ⟨fun b hb => ⟨ok_frz hb, rfl⟩, fun _ _ => ⟨rfl, fun _ _ => rfl⟩⟩
theorem HRel.frz (r : HRel X F h β w) (id : Nat) : HRel X F (frz h id) β w where
  below := r.below
  g := r.g
  box := fun i bx z hl => by
    obtain ⟨z', h1, _⟩ := look_frz_some hl
    exact (r.box i bx z' h1).keeps (keeps_frz id (fun _ => True)) rfl (fun _ _ => rfl) (fun _ _ => trivial)
  inj := fun i i' e1 e2 g hne h1 h2 => by
    obtain ⟨b1, z1⟩ := e1; obtain ⟨b2, z2⟩ := e2
    obtain ⟨_, h1', _⟩ := look_frz_some h1
    obtain ⟨_, h2', _⟩ := look_frz_some h2
    exact r.inj i i' _ _ g hne h1' h2'
  wf := fun i bx z hl j hj => by
    obtain ⟨z', h1, _⟩ := look_frz_some hl
    rw [isSome_frz]
    exact r.wf i bx z' h1 j hj
  pin := r.pin.sub fun i e hl => by
    obtain ⟨bx, z⟩ := e
    obtain ⟨z', h1, _⟩ := look_frz_some hl
    exact ⟨_, h1⟩
end
end Go.VL


namespace Go.VL
open Go.RowKit
set_option linter.unusedVariables false
section
variable {X : Ctx} {F : Fr} {h : Hp} {β : Bt} {w w' : World}

theorem ok_put {id b : Nat} {bx bx' : Bx} {cs : Array Value} {g : Nat} (hl : look h id = some (bx, false)) (hb : F.ok w h β b) : F.ok (w.setRow g cs) (put h id (bx', false)) β b :=
  ⟨by rw [size_setRow]; exact hb.1, hb.2.1, fun i bx2 h2 => by
    rw [look_put] at h2
    by_cases hi : i = id
    · subst hi; exact hb.2.2 i bx hl
    · rw [if_neg hi] at h2; exact hb.2.2 i bx2 h2⟩
/-- An own box's block changed, its shape as it was. -/
theorem HRel.set_keepsB (r : HRel X F h β w) {id g : Nat} {bx bx' : Bx} (hl : look h id = some (bx, false)) (hg : β id = some g) (hw : ∀ b, b ≠ g → w'.heap[b]? = w.heap[b]?) (hz : w'.heap.size = w.heap.size) (hs : bsh w' g = bsh w g) :
    Keeps (fun id => (look h id).isSome = true) w (F.ok w h β) β w' (F.ok w' (put h id (bx', false)) β) β :=
  ⟨fun b hb => ⟨by have h1 := ok_put (bx' := bx') (cs := #[]) (g := g) hl hb; exact ⟨by rw [hz]; exact hb.1, h1.2⟩, hw b (fun e => by subst e; exact hb.2.2 id bx hl hg)⟩, fun i hi => ⟨rfl, fun g' hg' => by
    by_cases he : g' = g
    · subst he; exact hs
    · unfold bsh; rw [hw g' he]⟩⟩
/-- A store into an own box that is not frozen. -/
theorem HRel.set_keeps (r : HRel X F h β w) {id g : Nat} {bx bx' : Bx} {arr arr' : Array Value} {e : TypeId} (hl : look h id = some (bx, false)) (hg : β id = some g) (ha : RowAt w id g arr e) (hs : arr'.size = arr.size) :
    Keeps (fun id => (look h id).isSome = true) w (F.ok w h β) β (w.setRow g arr') (F.ok (w.setRow g arr') (put h id (bx', false)) β) β :=
  ⟨fun b hb => ⟨ok_put hl hb, setRow_other w g b arr' (fun e => by subst e; exact hb.2.2 id bx hl hg)⟩, fun i hi => ⟨rfl, fun g' hg' => by
    unfold bsh
    by_cases he : g' = g
    · subst he
      obtain ⟨fz, ha, _⟩ := ha
      rw [setRow_heap w g' arr arr' e fz ha, ha]
      exact congrArg (Prod.mk e) hs
    · rw [setRow_other w g g' arr' he]⟩⟩
theorem HRel.setB (r : HRel X F h β w) {id g : Nat} {bx bx' : Bx} {arr' : Array Value} {e : TypeId} (hl : look h id = some (bx, false)) (hg : β id = some g) (hb : BelowM (fun k => k = g) w w') (hz : w'.heap.size = w.heap.size) (hs : bsh w' g = bsh w g) (ha : RowAtB bx' w' id g arr' e)
    (he : ∀ e' l, bx' = .pu e' l → e' = e) (hc : ∀ (j : Nat) c, bx'.cells[j]? = some c → ∃ u : Value, arr'[j]? = some u ∧ RepC w (F.ok w h β) β c u) (hw : ∀ i ∈ acRefs bx'.cells, (look h i).isSome = true) :
    HRel X F (put h id (bx', false)) β w' := by
  have hw' : ∀ b, b ≠ g → w'.heap[b]? = w.heap[b]? := fun b hn => by
    rcases Nat.lt_or_ge b w.heap.size with hlt | hge
    · exact hb.block b hlt hn
    · rw [Array.getElem?_eq_none hge, Array.getElem?_eq_none (by omega)]
  have k := r.set_keepsB (bx' := bx') hl hg hw' hz hs
  have hB := (r.lt hl hg).2
  refine ⟨r.below.comp hb fun k hk => by rw [hk]; exact hB, r.g, fun i bx2 z h2 => ?_, fun i i' e1 e2 g1 hne h1 h2 b1 b2 => ?_, fun i bx2 z h2 j hj => ?_, (r.pin.world fun i g' hi hg' => ?_).sub fun i e hl' => ?_⟩
  · rw [look_put] at h2
    by_cases hi : i = id
    · subst hi
      rw [if_pos rfl] at h2
      simp only [Option.some.injEq, Prod.mk.injEq] at h2
      obtain ⟨rfl, rfl⟩ := h2
      unfold BoxRep
      rw [hg]
      refine ⟨hB, arr', e, ha, he, fun j c hj => ?_⟩
      obtain ⟨u, hu, hr⟩ := hc j c hj
      exact ⟨u, hu, k.repC (fun i hi => hw i (List.mem_flatMap.2 ⟨c, List.mem_of_getElem? hj, hi⟩)) hr⟩
    · rw [if_neg hi] at h2
      exact (r.box i bx2 z h2).keeps k rfl (fun g' hg' => hw' g' (fun e => by subst e; exact r.inj i id _ _ g' hi h2 hl hg' hg)) (fun j hj => r.wf i bx2 z h2 j hj)
  · rw [look_put] at h1 h2
    have f1 : ∃ e, look h i = some e := by
      by_cases hi : i = id
      · exact ⟨_, hi ▸ hl⟩
      · rw [if_neg hi] at h1; exact ⟨_, h1⟩
    have f2 : ∃ e, look h i' = some e := by
      by_cases hi : i' = id
      · exact ⟨_, hi ▸ hl⟩
      · rw [if_neg hi] at h2; exact ⟨_, h2⟩
    obtain ⟨_, f1⟩ := f1; obtain ⟨_, f2⟩ := f2
    exact r.inj i i' _ _ g1 hne f1 f2 b1 b2
  · rw [look_put] at h2 ⊢
    by_cases hj2 : j = id
    · simp [hj2]
    · rw [if_neg hj2]
      by_cases hi : i = id
      · rw [if_pos hi] at h2
        simp only [Option.some.injEq, Prod.mk.injEq] at h2
        obtain ⟨rfl, rfl⟩ := h2
        exact hw j hj
      · rw [if_neg hi] at h2
        exact r.wf i bx2 z h2 j hj
  · by_cases he' : g' = g
    · subst he'; exact hs
    · unfold bsh; rw [hw' g' he']
  · rw [look_put] at hl'
    by_cases hi : i = id
    · exact ⟨_, hi ▸ hl⟩
    · rw [if_neg hi] at hl'; exact ⟨_, hl'⟩
theorem HRel.set (r : HRel X F h β w) {id g : Nat} {bx bx' : Bx} {arr arr' : Array Value} {e : TypeId} (hl : look h id = some (bx, false)) (hg : β id = some g) (ha : RowAt w id g arr e) (hs : arr'.size = arr.size)
    (hbr : bx'.row = true)
    (he : ∀ e' l, bx' = .pu e' l → e' = e) (hc : ∀ (j : Nat) c, bx'.cells[j]? = some c → ∃ u : Value, arr'[j]? = some u ∧ RepC w (F.ok w h β) β c u) (hw : ∀ i ∈ acRefs bx'.cells, (look h i).isSome = true) :
    HRel X F (put h id (bx', false)) β (w.setRow g arr') := by
  obtain ⟨fz, ha, hfz⟩ := ha
  have e2 := setRow_heap w g arr arr' e fz ha
  exact r.setB hl hg ⟨rfl, rfl, rfl, by simp, fun k hk hn => setRow_other w g k arr' hn⟩ (by simp) (by unfold bsh; rw [e2, ha]; exact congrArg (Prod.mk e) hs) (.of hbr ⟨fz, e2, by rw [hs]; exact hfz⟩) he hc hw
/-- What stands for an id that has moved is told no more. -/
def AC.scrub (m : Nat) (c : AC) : AC := if c.refs.contains m then .any else c
def Bx.scrub (m : Nat) : Bx → Bx
  | .pu e l => .pu e l
  | .mx l => .mx (l.map (AC.scrub m))
  | .ob l => .ob (l.map (AC.scrub m))
theorem RowAtB.scrub {bx : Bx} {w : World} {id g : Nat} {arr : Array Value} {e : TypeId} (m : Nat) (h : RowAtB bx w id g arr e) : RowAtB (bx.scrub m) w id g arr e := by cases bx <;> exact h
def scrubH (m : Nat) : Hp → Hp
  | [] => []
  | (k, (bx, z)) :: h => (k, (bx.scrub m, z)) :: scrubH m h
theorem look_scrubH (m i : Nat) : ∀ h : Hp, look (scrubH m h) i = (look h i).map fun e => (e.1.scrub m, e.2)
  | [] => rfl
  | (k, (bx, z)) :: h => by
    simp only [scrubH, look]
    split
    · rfl
    · exact look_scrubH m i h
theorem AC.scrub_refs {m : Nat} {c : AC} {i : Nat} (hi : i ∈ (c.scrub m).refs) : i ∈ c.refs ∧ i ≠ m := by
  unfold AC.scrub at hi
  split at hi
  · cases hi
  · rename_i hc
    exact ⟨hi, fun e => by subst e; exact hc (by simpa using hi)⟩
theorem RepC.scrub {w : World} {ok : Nat → Prop} {β : Bt} {c : AC} {v : Value} (m : Nat) (h : RepC w ok β c v) : RepC w ok β (c.scrub m) v := by
  unfold AC.scrub
  split
  · exact h.oneCell
  · exact h
theorem Bx.scrub_cells (m : Nat) (bx : Bx) : (bx.scrub m).cells = bx.cells.map (AC.scrub m) := by
  cases bx with
  | mx l => rfl
  | ob l => rfl
  | pu e l =>
    simp only [Bx.scrub, Bx.cells, List.map_map]
    exact List.map_congr_left fun p _ => by simp [AC.scrub, AC.refs]
theorem acRefs_scrub {m i : Nat} {cs : List AC} (hi : i ∈ acRefs (cs.map (AC.scrub m))) : i ∈ acRefs cs ∧ i ≠ m := by
  unfold acRefs at hi
  rw [List.mem_flatMap] at hi
  obtain ⟨c, hc, hi⟩ := hi
  obtain ⟨c0, h0, rfl⟩ := List.mem_map.1 hc
  have := AC.scrub_refs hi
  exact ⟨List.mem_flatMap.2 ⟨c0, h0, this.1⟩, this.2⟩
theorem BoxRep.scrub {B : Nat → Prop} {w : World} {ok : Nat → Prop} {β : Bt} {id : Nat} {bx : Bx} (m : Nat) (r : BoxRep B w ok β id bx) : BoxRep B w ok β id (bx.scrub m) := by
  unfold BoxRep at *
  split
  · rename_i hn
    rw [hn] at r
    simp only at r
    rw [Bx.scrub_cells, r]; rfl
  · rename_i g hg
    rw [hg] at r
    obtain ⟨h1, arr, e, h2, h3, h4⟩ := r
    refine ⟨h1, arr, e, h2.scrub m, fun e' l he => ?_, fun j c hj => ?_⟩
    · cases bx with
      | pu e0 l0 => simp only [Bx.scrub, Bx.pu.injEq] at he; obtain ⟨rfl, rfl⟩ := he; exact h3 _ _ rfl
      | mx l0 => simp [Bx.scrub] at he
      | ob l0 => simp [Bx.scrub] at he
    · rw [Bx.scrub_cells, List.getElem?_map] at hj
      cases hc : bx.cells[j]? with
      | none => rw [hc] at hj; cases hj
      | some c0 =>
        rw [hc] at hj
        simp only [Option.map_some, Option.some.injEq] at hj
        subst hj
        obtain ⟨u, hu, hr⟩ := h4 j c0 hc
        exact ⟨u, hu, hr.scrub m⟩

theorem ok_move (r : HRel X F h β w) {id g' b : Nat} {bx bx' : Bx} {row : Option Nat} (hl : look h id = some (bx, false)) (hgr : w.grownBy w' row) (hrow : ∀ k, row = some k → β id = some k) (hg' : β id = some g' ∨ g' = w.heap.size)
    (hb : F.ok w h β b) : F.ok w' (put (scrubH id h) id (bx', false)) (upd1 β id (some g')) b ∧ w'.heap[b]? = w.heap[b]? := by
  have hne : β id ≠ some b := hb.2.2 id bx hl
  refine ⟨⟨Nat.lt_of_lt_of_le hb.1 hgr.size, hb.2.1, fun i bx2 h2 e => ?_⟩, hgr.block b hb.1 fun e => hne (hrow b e.symm)⟩
  rw [look_put, look_scrubH] at h2
  unfold upd1 at e
  by_cases hi : i = id
  · rw [if_pos hi] at e
    simp only [Option.some.injEq] at e
    subst e
    rcases hg' with hg' | hg'
    · exact hne hg'
    · have := hb.1; omega
  · rw [if_neg hi] at h2 e
    cases hh : look h i with
    | none => rw [hh] at h2; cases h2
    | some x =>
      rw [hh] at h2
      simp only [Option.map_some, Option.some.injEq, Prod.mk.injEq] at h2
      obtain ⟨bx0, z0⟩ := x
      simp only at h2
      obtain ⟨_, rfl⟩ := h2
      exact hb.2.2 i bx0 hh e
theorem HRel.move_keeps (r : HRel X F h β w) {id g' : Nat} {bx bx' : Bx} {row : Option Nat} (hl : look h id = some (bx, false)) (hgr : w.grownBy w' row) (hrow : ∀ k, row = some k → β id = some k) (hg' : β id = some g' ∨ g' = w.heap.size) :
    Keeps (fun i => (look h i).isSome = true ∧ some id ≠ some i) w (F.ok w h β) β w' (F.ok w' (put (scrubH id h) id (bx', false)) (upd1 β id (some g'))) (upd1 β id (some g')) :=
  ⟨fun b hb => ok_move r hl hgr hrow hg' hb, fun i hi => by
    have hne : i ≠ id := fun e => hi.2 (by rw [e])
    refine ⟨by simp [upd1, hne], fun g hg => ?_⟩
    obtain ⟨e, he⟩ := Option.isSome_iff_exists.1 hi.1
    unfold bsh
    rw [hgr.block g (r.lt he hg).1 fun e' => r.inj i id _ _ g hne he hl hg (hrow g e'.symm)]⟩
theorem HRel.move (r : HRel X F h β w) {id g' : Nat} {bx bx' : Bx} {row : Option Nat} {arr' : Array Value} {e : TypeId} (hid : id < 1000) (hl : look h id = some (bx, false)) (hgr : w.grownBy w' row) (hrow : ∀ k, row = some k → β id = some k) (hg' : β id = some g' ∨ g' = w.heap.size)
    (hbr : bx'.row = true) (ha : w'.heap[g']? = some (.cells arr' e (0, 0))) (he : ∀ e' l, bx' = .pu e' l → e' = e) (hc : ∀ (j : Nat) c, bx'.cells[j]? = some c → ∃ u : Value, arr'[j]? = some u ∧ RepC w (F.ok w h β) β c u)
    (hw : ∀ i ∈ acRefs bx'.cells, (look h i).isSome = true ∧ i ≠ id) : HRel X F (put (scrubH id h) id (bx', false)) (upd1 β id (some g')) w' := by
  have k := r.move_keeps (bx' := bx') hl hgr hrow hg'
  have ls : ∀ {i e2}, look (put (scrubH id h) id (bx', false)) i = some e2 → ∃ e3, look h i = some e3 := fun {i e2} h2 => by
    rw [look_put, look_scrubH] at h2
    by_cases hi : i = id
    · exact ⟨_, hi ▸ hl⟩
    · rw [if_neg hi] at h2
      cases hh : look h i with
      | none => rw [hh] at h2; cases h2
      | some x => exact ⟨_, rfl⟩
  refine ⟨r.below.grown hgr fun k hk => (r.lt hl (hrow k hk)).2, r.g, fun i bx2 z h2 => ?_, fun i i' e1 e2 g1 hne h1 h2 b1 b2 => ?_, fun i bx2 z h2 j hj => ?_, ?_⟩
  · rw [look_put, look_scrubH] at h2
    by_cases hi : i = id
    · subst hi
      rw [if_pos rfl] at h2
      simp only [Option.some.injEq, Prod.mk.injEq] at h2
      obtain ⟨rfl, rfl⟩ := h2
      unfold BoxRep
      rw [show upd1 β i (some g') i = some g' by simp [upd1]]
      refine ⟨?_, arr', e, .of hbr (.new ha), he, fun j c hj => ?_⟩
      · rcases hg' with hg' | hg'
        · exact (r.lt hl hg').2
        · exact .inl (by have := r.size; omega)
      · obtain ⟨u, hu, hr⟩ := hc j c hj
        exact ⟨u, hu, k.repC (fun i hi => by
          have := hw i (List.mem_flatMap.2 ⟨c, List.mem_of_getElem? hj, hi⟩)
          exact ⟨this.1, fun e => this.2 (by simpa using e.symm)⟩) hr⟩
    · rw [if_neg hi] at h2
      cases hh : look h i with
      | none => rw [hh] at h2; cases h2
      | some x =>
        obtain ⟨bx0, z0⟩ := x
        rw [hh] at h2
        simp only [Option.map_some, Option.some.injEq, Prod.mk.injEq] at h2
        obtain ⟨rfl, rfl⟩ := h2
        refine ((r.box i bx0 z0 hh).scrub id).keeps k (by simp [upd1, hi]) (fun g' hg => hgr.block g' (r.lt hh hg).1 fun e' => r.inj i id _ _ g' hi hh hl hg (hrow g' e'.symm)) fun j hj => ?_
        rw [Bx.scrub_cells] at hj
        have := acRefs_scrub hj
        exact ⟨r.wf i bx0 z0 hh j this.1, fun e => this.2 (by simpa using e.symm)⟩
  · obtain ⟨_, f1⟩ := ls h1
    obtain ⟨_, f2⟩ := ls h2
    unfold upd1 at b1 b2
    by_cases hi : i = id
    · have hi' : i' ≠ id := fun e => hne (hi.trans e.symm)
      rw [if_pos hi] at b1
      rw [if_neg hi'] at b2
      simp only [Option.some.injEq] at b1
      subst b1
      rcases hg' with hg' | hg'
      · exact r.inj i' id _ _ _ hi' f2 hl b2 hg'
      · have := (r.lt f2 b2).1; omega
    · rw [if_neg hi] at b1
      by_cases hi' : i' = id
      · rw [if_pos hi'] at b2
        simp only [Option.some.injEq] at b2
        subst b2
        rcases hg' with hg' | hg'
        · exact r.inj i id _ _ _ hi f1 hl b1 hg'
        · have := (r.lt f1 b1).1; omega
      · rw [if_neg hi'] at b2
        exact r.inj i i' _ _ g1 hne f1 f2 b1 b2
  · rw [look_put]
    by_cases hj2 : j = id
    · simp [hj2]
    · rw [if_neg hj2, look_scrubH]
      rw [look_put, look_scrubH] at h2
      by_cases hi : i = id
      · rw [if_pos hi] at h2
        simp only [Option.some.injEq, Prod.mk.injEq] at h2
        obtain ⟨rfl, rfl⟩ := h2
        simpa using (hw j hj).1
      · rw [if_neg hi] at h2
        cases hh : look h i with
        | none => rw [hh] at h2; cases h2
        | some x =>
          obtain ⟨bx0, z0⟩ := x
          rw [hh] at h2
          simp only [Option.map_some, Option.some.injEq, Prod.mk.injEq] at h2
          obtain ⟨rfl, rfl⟩ := h2
          rw [Bx.scrub_cells] at hj
          simpa using r.wf i bx0 z0 hh j (acRefs_scrub hj).1
  · have p1 : PinOk F h β w' := r.pin.world fun i g hi hg => by
      have h3 := (r.pin i hi).2 g hg
      have := r.size
      unfold bsh
      rw [hgr.block g (by omega) fun e' => h3.2.2 id _ hl (by omega) (hrow g e'.symm)]
    refine (p1.sub (h' := scrubH id h) fun i e2 hl2 => ?_).upd hid fun i g hi hg e' => ?_
    · rw [look_scrubH] at hl2
      cases hh : look h i with
      | none => rw [hh] at hl2; cases hl2
      | some x => exact ⟨_, rfl⟩
    · have h3 := (r.pin i hi).2 g hg
      have hs := r.size
      simp only [Option.some.injEq] at e'
      subst e'
      rcases hg' with hg' | hg'
      · exact h3.2.2 id _ hl (by omega) hg'
      · omega
end
end Go.VL


namespace Go.VL
open Go.RowKit
set_option linter.unusedVariables false

theorem wrap_range (k : IntKind) (z : Int) : k.min ≤ k.wrap z ∧ k.wrap z ≤ k.max := by
  cases k <;> simp only [IntKind.min, IntKind.max, IntKind.wrap, IntKind.signed, IntKind.bits] <;> simp <;> (try split) <;> omega
theorem wrap_i64 {z : Int} (h0 : -9223372036854775808 ≤ z) (h1 : z ≤ 9223372036854775807) : IntKind.wrap .i64 z = z := by
  simp only [IntKind.wrap, IntKind.signed, IntKind.bits]; simp; split <;> omega
theorem wrap_u8 {z : Int} (h0 : 0 ≤ z) (h1 : z ≤ 255) : IntKind.wrap .u8 z = z := by
  simp only [IntKind.wrap, IntKind.signed, IntKind.bits]; simp; omega
theorem wrap_u16 {z : Int} (h0 : 0 ≤ z) (h1 : z ≤ 65535) : IntKind.wrap .u16 z = z := by
  simp only [IntKind.wrap, IntKind.signed, IntKind.bits]; simp; omega
theorem wrap_u64 {z : Int} (h0 : 0 ≤ z) (h1 : z ≤ 18446744073709551615) : IntKind.wrap .u64 z = z := by
  simp only [IntKind.wrap, IntKind.signed, IntKind.bits]; simp; omega
theorem range_i64 (z : Int) : (IntKind.i64.min ≤ z ∧ z ≤ IntKind.i64.max) ↔ (-9223372036854775808 ≤ z ∧ z ≤ 9223372036854775807) := by simp [IntKind.min, IntKind.max, IntKind.signed, IntKind.bits]
theorem range_u8 (z : Int) : (IntKind.u8.min ≤ z ∧ z ≤ IntKind.u8.max) ↔ (0 ≤ z ∧ z ≤ 255) := by simp [IntKind.min, IntKind.max, IntKind.signed, IntKind.bits]

abbrev vI (z : Int) : AV := .one (.pv (.int .i64 z))
abbrev vB (b : Bool) : AV := .one (.pv (.bool b))
abbrev vS (s : List UInt8) : AV := .one (.pv (.str s))
abbrev vP (p : PV) : AV := .one (.pv p)

def ofCell : Value → AC
  | .int k z => if k.min ≤ z ∧ z ≤ k.max then .pv (.int k z) else .any
  | .bool b => .pv (.bool b)
  | .string s => if s.data.toList.length ≤ topLen then .pv (.str s.data.toList) else .any
  | .slice none 0 0 => .pv .nil
  | .agg _ | .tuple _ => .any
  | v => .pv (.lit v)
def ofVal : Value → AV
  | .agg cs => if cs.all Value.oneCell' = true then .agg (cs.toList.map ofCell) else .bot
  | .tuple _ => .bot
  | v => .one (ofCell v)
theorem ofCell_rep (w : World) (ok : Nat → Prop) (β : Bt) (v : Value) (h : v.oneCell' = true) : RepC w ok β (ofCell v) v := by
  unfold ofCell
  split
  · split
    · rename_i k z hz; exact .int k z hz
    · exact h
  · exact .bool _
  · split
    · rename_i s hs
      have e : (.string s : Value) = .string ⟨s.data.toList.toArray⟩ := by simp
      rw [e]; exact .str _ hs
    · exact h
  · exact .nil
  · simp [Value.oneCell'] at h
  · simp [Value.oneCell'] at h
  · exact .lit _ h
theorem ofVal_rep (w : World) (ok : Nat → Prop) (β : Bt) (v : Value) : RepV w ok β (ofVal v) v := by
  unfold ofVal
  split
  · rename_i cs
    split
    · rename_i hc
      refine ⟨cs, rfl, by simp, fun j c hj => ?_⟩
      rw [List.getElem?_map] at hj
      cases hu : cs.toList[j]? with
      | none => rw [hu] at hj; cases hj
      | some u =>
        rw [hu] at hj
        simp only [Option.map_some, Option.some.injEq] at hj
        subst hj
        refine ⟨u, by simpa using hu, ofCell_rep w ok β u ?_⟩
        rw [Array.all_eq_true_iff_forall_mem] at hc
        exact hc u (by simpa using List.mem_of_getElem? hu)
    · trivial
  · trivial
  · rename_i h1 h2
    refine ofCell_rep w ok β v ?_
    cases v <;> first | rfl | exact absurd rfl (h1 _) | exact absurd rfl (h2 _)

structure AS where
  env : List (Nat × AV)
  heap : Hp
  nx : Nat
def evE (env : List (Nat × AV)) : Operand → AV
  | .tmp t => (look env t).getD .bot
  | .const v => ofVal v
  | .global g => .one (.pv (.lit (.pointer (some ⟨g, 0, none⟩))))
  | .func f => .one (.pv (.clo f []))

structure TI where
  u : TypeDesc
  size : Nat
  bytes : Nat
  zero : Option Value
def tinf (P : Program) (t : TypeId) : Option TI :=
  match P.underlying t, P.info? t with
  | some u, some i => some ⟨u, i.size, i.bytes, i.zero⟩
  | _, _ => none
theorem tinf_spec {P : Program} {t : TypeId} {T : TI} (h : tinf P t = some T) : P.underlying t = some T.u ∧ ∃ i, P.info? t = some i ∧ i.size = T.size ∧ i.bytes = T.bytes ∧ i.zero = T.zero := by
  unfold tinf at h
  split at h
  · rename_i u i hu hi
    simp only [Option.some.injEq] at h
    subst h
    exact ⟨hu, i, hi, rfl, rfl, rfl⟩
  · cases h

/-- What a value operation gives: the value, in the world that it got. -/
def Gives (X : Ctx) (w : World) (ok : Nat → Prop) (β : Bt) (s : Sem Value) (v : AV) : Prop := ∃ u, s.run X.P w = .ok u w ∧ RepV w ok β v u

def evInt (op : BinOp) (k : IntKind) (a : Int) (k' : IntKind) (b : Int) (K : AV → Prop) : Prop :=
  match op with
  | .add => k = k' ∧ K (vP (.int k (k.wrap (a + b))))
  | .sub => k = k' ∧ K (vP (.int k (k.wrap (a - b))))
  | .mul => k = k' ∧ K (vP (.int k (k.wrap (a * b))))
  | .quo => k = k' ∧ b ≠ 0 ∧ K (vP (.int k (k.wrap (a.tdiv b))))
  | .rem => k = k' ∧ b ≠ 0 ∧ K (vP (.int k (a.tmod b)))
  | .and => k = k' ∧ K (vP (.int k (k.wrap ((BitVec.ofInt k.bits a &&& BitVec.ofInt k.bits b).toNat : Int))))
  | .or => k = k' ∧ K (vP (.int k (k.wrap ((BitVec.ofInt k.bits a ||| BitVec.ofInt k.bits b).toNat : Int))))
  | .xor => k = k' ∧ K (vP (.int k (k.wrap ((BitVec.ofInt k.bits a ^^^ BitVec.ofInt k.bits b).toNat : Int))))
  | .andNot => k = k' ∧ K (vP (.int k (k.wrap ((BitVec.ofInt k.bits a &&& ~~~BitVec.ofInt k.bits b).toNat : Int))))
  | .shl => 0 ≤ b ∧ K (vP (.int k (k.wrap (a * 2 ^ (min b.toNat k.bits)))))
  | .shr => 0 ≤ b ∧ K (vP (.int k (a.fdiv (2 ^ (min b.toNat k.bits)))))
  | .eql => k = k' ∧ K (vB (decide (a = b)))
  | .neq => k = k' ∧ K (vB (!decide (a = b)))
  | .lss => k = k' ∧ K (vB (decide (a < b)))
  | .leq => k = k' ∧ K (vB (decide (a ≤ b)))
  | .gtr => k = k' ∧ K (vB (decide (b < a)))
  | .geq => k = k' ∧ K (vB (decide (b ≤ a)))
theorem tmod_range {k : IntKind} {a b : Int} (ha : k.min ≤ a ∧ a ≤ k.max) : k.min ≤ a.tmod b ∧ a.tmod b ≤ k.max := by
  have h0 : k.min ≤ 0 ∧ 0 ≤ k.max := by cases k <;> simp [IntKind.min, IntKind.max, IntKind.signed, IntKind.bits]
  have hn : (a.tmod b).natAbs ≤ a.natAbs := by rw [Int.natAbs_tmod]; exact Nat.mod_le _ _
  rcases Int.le_total 0 a with h | h
  · have h1 := Int.tmod_nonneg b h
    omega
  · have e : a.tmod b = -((-a).tmod b) := by rw [Int.neg_tmod]; omega
    have h1 := Int.tmod_nonneg b (show 0 ≤ -a by omega)
    omega
theorem fdiv_range {k : IntKind} {a : Int} {n : Nat} (ha : k.min ≤ a ∧ a ≤ k.max) : k.min ≤ a.fdiv (2 ^ n) ∧ a.fdiv (2 ^ n) ≤ k.max := by
  have h0 : k.min ≤ 0 ∧ 0 ≤ k.max := by cases k <;> simp [IntKind.min, IntKind.max, IntKind.signed, IntKind.bits]
  have hp : (0 : Int) < 2 ^ n := Int.pow_pos (by omega)
  have hp1 : (1 : Int) ≤ 2 ^ n := by omega
  rw [Int.fdiv_eq_ediv_of_nonneg _ (by omega)]
  rcases Int.le_total 0 a with h | h
  · have h1 := Int.ediv_nonneg h (show (0 : Int) ≤ 2 ^ n by omega)
    have h2 := Int.ediv_le_self (2 ^ n) h
    omega
  · have h1 : a / 2 ^ n ≤ 0 := by
      have := Int.ediv_le_ediv hp h
      simpa using this
    have h2 : a ≤ a / 2 ^ n := by
      refine Int.le_ediv_of_mul_le hp ?_
      have := Int.mul_le_mul_of_nonpos_left h hp1
      simpa using this
    omega
theorem evInt_sound (X : Ctx) {op : BinOp} {k k' : IntKind} {a b : Int} {t : TypeId} {K : AV → Prop} (h : evInt op k a k' b K) :
    ∃ v, K v ∧ v.refs = [] ∧ ∀ w ok β, k.min ≤ a ∧ a ≤ k.max → Gives X w ok β (binOp op t (.int k a) (.int k' b)) v := by
  have W : ∀ z, k.min ≤ k.wrap z ∧ k.wrap z ≤ k.max := wrap_range k
  cases op <;> simp only [evInt] at h
  case shl | shr =>
    obtain ⟨h1, h2⟩ := h
    refine ⟨_, h2, rfl, fun w ok β hr => ?_⟩
    exact ⟨_, by simp [binOp, Op.shift, show ¬ b < 0 by omega]; rfl, by first | exact .int _ _ (W _) | exact .int _ _ (fdiv_range hr)⟩
  case quo | rem =>
    obtain ⟨rfl, h1, h2⟩ := h
    refine ⟨_, h2, rfl, fun w ok β hr => ?_⟩
    exact ⟨_, by simp [binOp, Op.intDiv, h1]; rfl, by first | exact .int _ _ (W _) | exact .int _ _ (tmod_range hr)⟩
  case add | sub | mul =>
    obtain ⟨rfl, h2⟩ := h
    exact ⟨_, h2, rfl, fun w ok β hr => ⟨_, by simp only [binOp, Op.intArith]; simp, .int _ _ (W _)⟩⟩
  case and | or | xor | andNot =>
    obtain ⟨rfl, h2⟩ := h
    exact ⟨_, h2, rfl, fun w ok β hr => ⟨_, by simp only [binOp, Op.intBits]; simp, .int _ _ (W _)⟩⟩
  all_goals
    obtain ⟨rfl, h2⟩ := h
    exact ⟨_, h2, rfl, fun w ok β hr => ⟨_, by rw [show ∀ op, binOp op t (.int k a) (.int k b) = binOp op t (.int k a) (.int k b) from fun _ => rfl]; simp only [binOp, ne_eq, not_true_eq_false, if_false]; rfl, .bool _⟩⟩

/-- What follows from one operand's representation alone. -/
def Acts1 (X : Ctx) (x : AV) (sem : Value → Sem Value) (v : AV) : Prop := (∀ id ∈ v.refs, id ∈ x.refs) ∧ ∀ w ok β u, RepV w ok β x u → Gives X w ok β (sem u) v
theorem one_int {w : World} {ok : Nat → Prop} {β : Bt} {k : IntKind} {z : Int} {u : Value} (h : RepV w ok β (.one (.pv (.int k z))) u) : u = .int k z ∧ k.min ≤ z ∧ z ≤ k.max := by
  have h' : RepP w ok (.int k z) u := h
  cases h' with | int _ _ hz => exact ⟨rfl, hz⟩
theorem one_bool {w : World} {ok : Nat → Prop} {β : Bt} {b : Bool} {u : Value} (h : RepV w ok β (.one (.pv (.bool b))) u) : u = .bool b := by
  have h' : RepP w ok (.bool b) u := h
  cases h'; rfl
theorem one_str {w : World} {ok : Nat → Prop} {β : Bt} {s : List UInt8} {u : Value} (h : RepV w ok β (.one (.pv (.str s))) u) : u = .string ⟨s.toArray⟩ ∧ s.length ≤ topLen := by
  have h' : RepP w ok (.str s) u := h
  cases h' with | str _ hz => exact ⟨rfl, hz⟩
theorem one_nil {w : World} {ok : Nat → Prop} {β : Bt} {u : Value} (h : RepV w ok β (.one (.pv .nil)) u) : u = .slice none 0 0 := by
  have h' : RepP w ok .nil u := h
  cases h'; rfl

def lexLt : List UInt8 → List UInt8 → Bool
  | _, [] => false
  | [], _ :: _ => true
  | a :: x, b :: y => decide (a < b) || (decide (a = b) && lexLt x y)
theorem lexLt_eq : ∀ a b, Op.bytesLess a b = lexLt a b
  | _, [] => by simp [Op.bytesLess, lexLt]
  | [], _ :: _ => rfl
  | a :: x, b :: y => by simp only [Op.bytesLess, lexLt, lexLt_eq x y]; rfl
def evStr (op : BinOp) (a b : List UInt8) (K : AV → Prop) : Prop :=
  match op with
  | .add => a.length + b.length ≤ topLen ∧ K (vS (a ++ b))
  | .eql => K (vB (decide (a = b)))
  | .neq => K (vB (!decide (a = b)))
  | .lss => K (vB (lexLt a b))
  | .leq => K (vB (lexLt a b || decide (a = b)))
  | .gtr => K (vB (!(lexLt a b || decide (a = b))))
  | .geq => K (vB (!lexLt a b))
  | _ => False
theorem beq_dec (a b : List UInt8) : (a == b) = decide (a = b) := by
  by_cases h : a = b <;> simp [h]
theorem evStr_sound (X : Ctx) {op : BinOp} {a b : List UInt8} {t : TypeId} {K : AV → Prop} (h : evStr op a b K) :
    ∃ v, K v ∧ v.refs = [] ∧ ∀ w ok β, Gives X w ok β (binOp op t (.string ⟨a.toArray⟩) (.string ⟨b.toArray⟩)) v := by
  cases op <;> simp only [evStr] at h
  case add =>
    refine ⟨_, h.2, rfl, fun w ok β => ⟨.string ⟨(a ++ b).toArray⟩, ?_, .str _ (by rw [List.length_append]; exact h.1)⟩⟩
    rw [binOp_string_add, run_string_add_sum _ _ _ (by simpa [ByteArray.size] using h.1), ByteArray.mk_append_mk]
  all_goals
    refine ⟨_, h, rfl, fun w ok β => ⟨_, by simp only [binOp, Op.stringOp, ByteArray.toList_mk, beq_dec, lexLt_eq]; rfl, .bool _⟩⟩

theorem eqGuard_int (op : BinOp) (t : TypeId) (ox oy : Operand) (k k' : IntKind) (a b : Int) (P : Program) (w : World) : (eqGuard op t ox oy (.int k a) (.int k' b)).run P w = .ok () w := by
  unfold eqGuard; cases op <;> rfl
theorem eqGuard_str (op : BinOp) (t : TypeId) (ox oy : Operand) (a b : ByteArray) (P : Program) (w : World) : (eqGuard op t ox oy (.string a) (.string b)).run P w = .ok () w := by
  unfold eqGuard; cases op <;> rfl
def evBin (op : BinOp) (x y : AV) (K : AV → Prop) : Prop :=
  match x, y with
  | .one (.pv (.int k a)), .one (.pv (.int k' b)) => evInt op k a k' b K
  | .one (.pv (.str a)), .one (.pv (.str b)) => evStr op a b K
  | _, _ => False
theorem evBin_sound (X : Ctx) {op : BinOp} {x y : AV} {t : TypeId} {ox oy : Operand} {K : AV → Prop} (h : evBin op x y K) :
    ∃ v, K v ∧ v.refs = [] ∧ ∀ w ok β u u', RepV w ok β x u → RepV w ok β y u' → Gives X w ok β (do eqGuard op t ox oy u u'; binOp op t u u') v := by
  unfold evBin at h
  split at h
  · obtain ⟨v, hK, hr, hg⟩ := evInt_sound X (t := t) h
    refine ⟨v, hK, hr, fun w ok β u u' hu hu' => ?_⟩
    obtain ⟨rfl, hz⟩ := one_int hu
    obtain ⟨rfl, _⟩ := one_int hu'
    obtain ⟨r, hr, hv⟩ := hg w ok β hz
    refine ⟨r, ?_, hv⟩
    rw [Sem.run_bind, eqGuard_int]; exact hr
  · obtain ⟨v, hK, hr, hg⟩ := evStr_sound X (t := t) h
    refine ⟨v, hK, hr, fun w ok β u u' hu hu' => ?_⟩
    obtain ⟨rfl, _⟩ := one_str hu
    obtain ⟨rfl, _⟩ := one_str hu'
    obtain ⟨r, hr, hv⟩ := hg w ok β
    refine ⟨r, ?_, hv⟩
    rw [Sem.run_bind, eqGuard_str]; exact hr
  · exact h.elim

def evUn (op : UnOp) (x : AV) (K : AV → Prop) : Prop :=
  match op, x with
  | .neg, .one (.pv (.int k a)) => K (vP (.int k (k.wrap (0 - a))))
  | .not, .one (.pv (.bool b)) => K (vB (!b))
  | _, _ => False
theorem evUn_sound (X : Ctx) {op : UnOp} {x : AV} {K : AV → Prop} (h : evUn op x K) : ∃ v, K v ∧ Acts1 X x (Op.unary op) v := by
  unfold evUn at h
  split at h
  · refine ⟨_, h, fun id hid => by simp [AV.refs, AC.refs] at hid, fun w ok β u hu => ?_⟩
    obtain ⟨rfl, hz⟩ := one_int hu
    exact ⟨_, by simp only [Op.unary, Op.intArith]; rfl, .int _ _ (wrap_range _ _)⟩
  · refine ⟨_, h, fun id hid => by simp [AV.refs, AC.refs] at hid, fun w ok β u hu => ?_⟩
    obtain rfl := one_bool hu
    exact ⟨_, by simp only [Op.unary]; rfl, .bool _⟩
  · exact h.elim

def isAggU : TypeDesc → Bool
  | .struct _ | .array _ _ => true
  | _ => false
theorem run_isAgg {P : Program} {t : TypeId} {d : TypeDesc} (h : P.underlying t = some d) (w : World) : (isAgg t).run P w = .ok (isAggU d) w := by
  unfold isAgg
  rw [Sem.run_bind, run_underlying h]
  cases d <;> rfl
theorem run_sizeOf {P : Program} {t : TypeId} {i : TypeInfo} (h : P.info? t = some i) (w : World) : (sizeOf t).run P w = .ok i.size w := by
  simp [sizeOf, typeInfo, h]
/-- A part of an aggregate's cells. -/
def evPart (X : Ctx) (t : TypeId) (cs : List AC) (off : Nat) (K : AV → Prop) : Prop :=
  match tinf X.P t with
  | some T => if isAggU T.u = true then off + T.size ≤ cs.length ∧ K (.agg ((cs.drop off).take T.size)) else (match cs[off]? with | some c => K (.one c) | none => False)
  | none => False
theorem RepL.get {w : World} {ok : Nat → Prop} {β : Bt} {cs : List AC} {vs : Array Value} (h : RepL w ok β cs vs) {j : Nat} {c : AC} (hj : cs[j]? = some c) : ∃ u, vs[j]? = some u ∧ RepC w ok β c u := h.2 j c hj
theorem RepL.extract {w : World} {ok : Nat → Prop} {β : Bt} {cs : List AC} {vs : Array Value} (h : RepL w ok β cs vs) {off n : Nat} (hl : off + n ≤ cs.length) : RepL w ok β ((cs.drop off).take n) (vs.extract off (off + n)) := by
  refine ⟨by rw [Array.size_extract, h.1, List.length_take, List.length_drop]; omega, fun j c hj => ?_⟩
  rw [List.getElem?_take] at hj
  split at hj
  · rename_i hjn
    rw [List.getElem?_drop] at hj
    obtain ⟨u, hu, hr⟩ := h.2 _ c hj
    refine ⟨u, ?_, hr⟩
    rw [Array.getElem?_extract, if_pos (by have := h.1; omega)]
    exact hu
  · cases hj
theorem acRefs_sub {cs cs' : List AC} (h : ∀ c ∈ cs', c ∈ cs) : ∀ id ∈ acRefs cs', id ∈ acRefs cs := fun id hid => by
  obtain ⟨c, hc, hi⟩ := List.mem_flatMap.1 hid
  exact List.mem_flatMap.2 ⟨c, h c hc, hi⟩
theorem evPart_sound (X : Ctx) {t : TypeId} {cs : List AC} {off : Nat} {K : AV → Prop} (h : evPart X t cs off K) :
    ∃ v, K v ∧ (∀ id ∈ v.refs, id ∈ acRefs cs) ∧ ∀ w ok β vs, RepL w ok β cs vs → Gives X w ok β (part t vs off) v := by
  unfold evPart at h
  split at h
  · rename_i T hT
    obtain ⟨hu, i, hi, hs, _⟩ := tinf_spec hT
    split at h
    · rename_i ha
      refine ⟨_, h.2, acRefs_sub fun c hc => List.mem_of_mem_drop (List.mem_of_mem_take hc), fun w ok β vs hv => ⟨.agg (vs.extract off (off + T.size)), ?_, _, rfl, hv.extract h.1⟩⟩
      simp [part, run_isAgg hu, ha, run_sizeOf hi, hs]
    · rename_i ha
      split at h
      · rename_i c hc
        refine ⟨_, h, fun id hid => List.mem_flatMap.2 ⟨c, List.mem_of_getElem? hc, hid⟩, fun w ok β vs hv => ?_⟩
        obtain ⟨u, hu', hr⟩ := hv.2 off c hc
        exact ⟨u, by simp [part, run_isAgg hu, ha, hu'], hr⟩
      · exact h.elim
  · exact h.elim
def evField (X : Ctx) (t : TypeId) (x : AV) (f : Nat) (K : AV → Prop) : Prop :=
  match tinf X.P t, x with
  | some ⟨.struct fs, _, _, _⟩, .agg cs => (match fs[f]? with | some F => evPart X F.type cs F.offset K | none => False)
  | _, _ => False
theorem evField_sound (X : Ctx) {t : TypeId} {x : AV} {f : Nat} {K : AV → Prop} (h : evField X t x f K) : ∃ v, K v ∧ Acts1 X x (fun u => Instr.field t u f) v := by
  unfold evField at h
  split at h
  · rename_i fs _ _ _ cs hT
    obtain ⟨hu, _⟩ := tinf_spec hT
    split at h
    · rename_i F hF
      obtain ⟨v, hK, hr, hg⟩ := evPart_sound X h
      refine ⟨v, hK, hr, fun w ok β u hu' => ?_⟩
      obtain ⟨vs, rfl, hl⟩ := hu'
      obtain ⟨r, h1, h2⟩ := hg w ok β vs hl
      exact ⟨r, by simp [Instr.field, run_underlying hu, hF, asAgg, h1], h2⟩
    · exact h.elim
  · exact h.elim
def evExtract (x : AV) (i : Nat) (K : AV → Prop) : Prop :=
  match x with
  | .tup xs => (match xs[i]? with | some (true, cs) => K (.agg cs) | some (false, [c]) => K (.one c) | _ => False)
  | _ => False
theorem evExtract_sound (X : Ctx) {x : AV} {i : Nat} {K : AV → Prop} (h : evExtract x i K) : ∃ v, K v ∧ Acts1 X x (fun u => Instr.extract u i) v := by
  unfold evExtract at h
  split at h
  · rename_i xs
    split at h
    · rename_i cs hx
      refine ⟨_, h, fun id hid => List.mem_flatMap.2 ⟨_, List.mem_of_getElem? hx, hid⟩, fun w ok β u hu => ?_⟩
      obtain ⟨vs, rfl, hs, hv⟩ := hu
      obtain ⟨u, hu, hr⟩ := hv i _ hx
      exact ⟨u, by simp [Instr.extract, hu], hr⟩
    · rename_i c hx
      refine ⟨_, h, fun id hid => List.mem_flatMap.2 ⟨_, List.mem_of_getElem? hx, by simpa [acRefs, AV.refs] using hid⟩, fun w ok β u hu => ?_⟩
      obtain ⟨vs, rfl, hs, hv⟩ := hu
      obtain ⟨u, hu, c', e, hr⟩ := hv i _ hx
      simp only [List.cons.injEq, and_true] at e
      subst e
      exact ⟨u, by simp [Instr.extract, hu], hr⟩
    · exact h.elim
  · exact h.elim
end Go.VL


namespace Go.VL
open Go.RowKit
set_option linter.unusedVariables false

theorem add_none (b o j : Nat) : (⟨b, o, none⟩ : Addr).add j = ⟨b, o + j, none⟩ := by unfold Addr.add; split <;> simp_all
theorem one_sl {w : World} {ok : Nat → Prop} {β : Bt} {n : Nat} {cells : List PV} {u : Value} (h : RepV w ok β (.one (.pv (.sl n cells))) u) :
    ∃ A cap, u = .slice A n cap ∧ n ≤ cap ∧ (n = 0 → cells = []) ∧ n ≤ topLen ∧ (0 < n → cap ≤ topLen ∧ ∃ sz b o, A = some ⟨b, o, none⟩ ∧ cells.length = n * sz ∧ ok b ∧ ∀ (j : Nat) p, cells[j]? = some p → ∃ v, w.cell? ⟨b, o + j, none⟩ = some v ∧ RepP w ok p v) := by
  have h' : RepP w ok (.sl n cells) u := h
  cases h' with
  | sl0 A cap => exact ⟨A, cap, rfl, Nat.zero_le _, fun _ => rfl, Nat.zero_le _, fun h => by omega⟩
  | sl _ sz cap b o _ vals hn hc hm hl hok hcell hrep => exact ⟨_, cap, rfl, hc, fun h => by omega, Nat.le_trans hc hm, fun _ => ⟨hm, sz, b, o, rfl, hl, hok, fun j p hj => ⟨_, hcell j p hj, hrep j p hj⟩⟩⟩
theorem vals_of {w : World} {ok : Nat → Prop} {cells : List PV} {b o : Nat} (h : ∀ (j : Nat) p, cells[j]? = some p → ∃ v, w.cell? ⟨b, o + j, none⟩ = some v ∧ RepP w ok p v) :
    (∀ (j : Nat) p, cells[j]? = some p → w.cell? ⟨b, o + j, none⟩ = some ((w.cell? ⟨b, o + j, none⟩).getD undef)) ∧ ∀ (j : Nat) p, cells[j]? = some p → RepP w ok p ((w.cell? ⟨b, o + j, none⟩).getD undef) := by
  constructor <;> intro j p hj <;> obtain ⟨v, hv, hr⟩ := h j p hj <;> rw [hv]
  · rfl
  · exact hr
theorem RepP.mk_sl {w : World} {ok : Nat → Prop} {n sz cap b o : Nat} {cells : List PV} (hn : n ≤ cap) (hm : cap ≤ topLen) (hl : cells.length = n * sz) (h : 0 < n → ok b ∧ ∀ (j : Nat) p, cells[j]? = some p → ∃ v, w.cell? ⟨b, o + j, none⟩ = some v ∧ RepP w ok p v) :
    RepP w ok (.sl n cells) (.slice (some ⟨b, o, none⟩) n cap) := by
  rcases Nat.eq_zero_or_pos n with h0 | h0
  · subst h0
    obtain rfl : cells = [] := List.eq_nil_of_length_eq_zero (by simpa using hl)
    exact .sl0 _ _
  · obtain ⟨hok, hc⟩ := h h0
    exact .sl n sz cap b o cells _ h0 hn hm hl hok (vals_of hc).1 (vals_of hc).2

def evFieldAddr (X : Ctx) (t : TypeId) (x : AV) (f : Nat) (K : AV → Prop) : Prop :=
  match tinf X.P t with
  | some ⟨.struct fs, _, _, _⟩ =>
    (match fs[f]? with
     | some F => (match tinf X.P F.type with
       | some T => T.size ≠ 0 ∧ (match x with
         | .one (.ptr id off) => K (.one (.ptr id (off + F.offset)))
         | .one (.pv (.pt cells off)) => K (.one (.pv (.pt cells (off + F.offset))))
         | _ => False)
       | none => False)
     | none => False)
  | _ => False
theorem evFieldAddr_sound (X : Ctx) {t : TypeId} {x : AV} {f : Nat} {K : AV → Prop} (h : evFieldAddr X t x f K) : ∃ v, K v ∧ Acts1 X x (fun u => Instr.fieldAt t u f) v := by
  unfold evFieldAddr at h
  split at h
  · rename_i fs _ _ _ hT
    obtain ⟨hu, _⟩ := tinf_spec hT
    split at h
    · rename_i F hF
      split at h
      · rename_i T hT2
        obtain ⟨_, i, hi, hs, _⟩ := tinf_spec hT2
        obtain ⟨h0, h⟩ := h
        split at h
        · rename_i id off
          refine ⟨_, h, fun id hid => hid, fun w ok β u hu' => ?_⟩
          obtain ⟨g, hg, rfl⟩ := hu'
          refine ⟨.pointer (some ⟨g, off + F.offset, none⟩), ?_, g, hg, rfl⟩
          simp [Instr.fieldAt, run_underlying hu, hF, Instr.sureAddr, fieldPlace, run_sizeOf hi, hs, h0, add_none]
        · rename_i cells off
          refine ⟨_, h, fun id hid => hid, fun w ok β u hu' => ?_⟩
          have hu2 : RepP w ok (.pt cells off) u := hu'
          cases hu2 with
          | pt b o _ _ vals hok hcell hrep =>
          refine ⟨.pointer (some ⟨b, o + (off + F.offset), none⟩), ?_, .pt b o _ cells vals hok hcell hrep⟩
          simp [Instr.fieldAt, run_underlying hu, hF, Instr.sureAddr, fieldPlace, run_sizeOf hi, hs, h0, add_none, Nat.add_assoc]
        · exact h.elim
      · exact h.elim
    · exact h.elim
  · exact h.elim

def evIndexAddr (X : Ctx) (t : TypeId) (x i : AV) (K : AV → Prop) : Prop :=
  match tinf X.P t, i with
  | some ⟨.slice e, _, _, _⟩, .one (.pv (.int _ z)) =>
    (match tinf X.P e with
     | some T => 0 ≤ z ∧ (match x with
       | .one (.own id sz n) => z < n ∧ T.size = sz ∧ K (.one (.ptr id (z.toNat * sz)))
       | .one (.sub id sz off n) => z < n ∧ T.size = sz ∧ K (.one (.ptr id (off + z.toNat * sz)))
       | .one (.pv (.sl n cells)) => z < n ∧ K (.one (.pv (.pt cells (z.toNat * T.size))))
       | _ => False)
     | none => False)
  | some ⟨.array len e, _, _, _⟩, .one (.pv (.int _ z)) =>
    (match tinf X.P e with
     | some T => 0 ≤ z ∧ z < len ∧ (match x with
       | .one (.ptr id off) => K (.one (.ptr id (off + z.toNat * T.size)))
       | .one (.pv (.pt cells off)) => K (.one (.pv (.pt cells (off + z.toNat * T.size))))
       | _ => False)
     | none => False)
  | _, _ => False
theorem run_indexAt_slice {P : Program} {t e : TypeId} {i : TypeInfo} (ht : P.underlying t = some (.slice e)) (hi : P.info? e = some i) (w : World) (b o n cap : Nat) (k : IntKind) (z : Int) (h0 : 0 ≤ z) (h1 : z < n) :
    (Instr.indexAt t (.slice (some ⟨b, o, none⟩) n cap) (.int k z)).run P w = .ok (.pointer (some ⟨b, o + z.toNat * i.size, none⟩)) w := by
  simp [Instr.indexAt, asIntOf, run_underlying ht, h0, h1, run_sizeOf hi, add_none]
theorem run_indexAt_array {P : Program} {t e : TypeId} {len : Nat} {i : TypeInfo} (ht : P.underlying t = some (.array len e)) (hi : P.info? e = some i) (w : World) (b o : Nat) (k : IntKind) (z : Int) (h0 : 0 ≤ z) (h1 : z < len) :
    (Instr.indexAt t (.pointer (some ⟨b, o, none⟩)) (.int k z)).run P w = .ok (.pointer (some ⟨b, o + z.toNat * i.size, none⟩)) w := by
  simp [Instr.indexAt, asIntOf, run_underlying ht, h0, h1, run_sizeOf hi, add_none, Instr.sureAddr]
theorem evIndexAddr_sound (X : Ctx) {t : TypeId} {x i : AV} {K : AV → Prop} (h : evIndexAddr X t x i K) :
    ∃ v, K v ∧ (∀ id ∈ v.refs, id ∈ x.refs) ∧ ∀ w ok β u u', RepV w ok β x u → RepV w ok β i u' → Gives X w ok β (Instr.indexAt t u u') v := by
  unfold evIndexAddr at h
  split at h
  · rename_i e _ _ _ k z hT
    obtain ⟨ht, _⟩ := tinf_spec hT
    split at h
    · rename_i T hT2
      obtain ⟨_, I, hi, hs, _⟩ := tinf_spec hT2
      obtain ⟨h0, h⟩ := h
      split at h
      · rename_i id sz n
        obtain ⟨h1, rfl, h⟩ := h
        refine ⟨_, h, fun id hid => hid, fun w ok β u u' hu hu' => ?_⟩
        obtain ⟨rfl, _⟩ := one_int hu'
        rcases hu with ⟨_, hn⟩ | ⟨g, cap, hg, rfl, _⟩
        · omega
        · exact ⟨_, run_indexAt_slice ht hi w g 0 n cap k z h0 h1, g, hg, by rw [hs]; simp⟩
      · rename_i id sz off n
        obtain ⟨h1, rfl, h⟩ := h
        refine ⟨_, h, fun id hid => hid, fun w ok β u u' hu hu' => ?_⟩
        obtain ⟨rfl, _⟩ := one_int hu'
        obtain ⟨A, cap, rfl, _, _, hn | ⟨g, hg, rfl⟩⟩ := hu
        · omega
        · exact ⟨_, run_indexAt_slice ht hi w g off n cap k z h0 h1, g, hg, by rw [hs]⟩
      · rename_i n cells
        obtain ⟨h1, h⟩ := h
        refine ⟨_, h, fun id hid => by simp [AV.refs, AC.refs] at hid, fun w ok β u u' hu hu' => ?_⟩
        obtain ⟨rfl, _⟩ := one_int hu'
        obtain ⟨A, cap, rfl, _, _, _, h2⟩ := one_sl hu
        obtain ⟨_, sz, b, o, rfl, hl, hok, hc⟩ := h2 (by omega)
        exact ⟨_, run_indexAt_slice ht hi w b o n cap k z h0 h1, by rw [hs]; exact RepP.pt b o _ cells _ hok (vals_of hc).1 (vals_of hc).2⟩
      · exact h.elim
    · exact h.elim
  · rename_i len e _ _ _ k z hT
    obtain ⟨ht, _⟩ := tinf_spec hT
    split at h
    · rename_i T hT2
      obtain ⟨_, I, hi, hs, _⟩ := tinf_spec hT2
      obtain ⟨h0, h1, h⟩ := h
      split at h
      · rename_i id off
        refine ⟨_, h, fun id hid => hid, fun w ok β u u' hu hu' => ?_⟩
        obtain ⟨rfl, _⟩ := one_int hu'
        obtain ⟨g, hg, rfl⟩ := hu
        exact ⟨_, run_indexAt_array ht hi w g off k z h0 h1, g, hg, by rw [hs]⟩
      · rename_i cells off
        refine ⟨_, h, fun id hid => by simp [AV.refs, AC.refs] at hid, fun w ok β u u' hu hu' => ?_⟩
        obtain ⟨rfl, _⟩ := one_int hu'
        have hu2 : RepP w ok (.pt cells off) u := hu
        cases hu2 with
        | pt b o _ _ vals hok hcell hrep =>
        exact ⟨_, run_indexAt_array ht hi w b (o + off) k z h0 h1, by rw [hs, Nat.add_assoc]; exact RepP.pt b o _ cells vals hok hcell hrep⟩
      · exact h.elim
    · exact h.elim
  · exact h.elim

def evIndex (X : Ctx) (t : TypeId) (x i : AV) (K : AV → Prop) : Prop :=
  match tinf X.P t, x, i with
  | some ⟨.string, _, _, _⟩, .one (.pv (.str s)), .one (.pv (.int _ z)) => 0 ≤ z ∧ z < s.length ∧ K (vP (.int .u8 ((s.getD z.toNat 0).toNat : Int)))
  | some ⟨.array len e, _, _, _⟩, .agg cs, .one (.pv (.int _ z)) => (match tinf X.P e with | some T => 0 ≤ z ∧ z < len ∧ evPart X e cs (z.toNat * T.size) K | none => False)
  | _, _, _ => False
theorem evIndex_sound (X : Ctx) {t : TypeId} {x i : AV} {K : AV → Prop} (h : evIndex X t x i K) :
    ∃ v, K v ∧ (∀ id ∈ v.refs, id ∈ x.refs) ∧ ∀ w ok β u u', RepV w ok β x u → RepV w ok β i u' → Gives X w ok β (Instr.index t u u') v := by
  unfold evIndex at h
  split at h
  · rename_i s k z hT
    obtain ⟨ht, _⟩ := tinf_spec hT
    obtain ⟨h0, h1, h⟩ := h
    refine ⟨_, h, fun id hid => by simp [AV.refs, AC.refs] at hid, fun w ok β u u' hu hu' => ?_⟩
    obtain ⟨rfl, _⟩ := one_int hu'
    obtain ⟨rfl, _⟩ := one_str hu
    refine ⟨.int .u8 ((s.getD z.toNat 0).toNat : Int), ?_, .int _ _ ?_⟩
    · have h2 : z.toNat < s.length := by omega
      have h3 : (ByteArray.mk s.toArray)[z.toNat]? = some (s.getD z.toNat 0) := by
        rw [ByteArray.getElem?_lt' _ _ (by simpa [ByteArray.size] using h2)]
        simp only [ByteArray.getElem_eq_getElem_data]
        simp [List.getD_eq_getElem?_getD, h2]
      simp [Instr.index, asIntOf, run_underlying ht, h0, h3]
    · have := (s.getD z.toNat 0).toNat_lt
      rw [range_u8]
      omega
  · rename_i len e _ _ _ cs k z hT
    obtain ⟨ht, _⟩ := tinf_spec hT
    split at h
    · rename_i T hT2
      obtain ⟨_, I, hi, hs, _⟩ := tinf_spec hT2
      obtain ⟨h0, h1, h⟩ := h
      obtain ⟨v, hK, hr, hg⟩ := evPart_sound X h
      refine ⟨v, hK, hr, fun w ok β u u' hu hu' => ?_⟩
      obtain ⟨rfl, _⟩ := one_int hu'
      obtain ⟨vs, rfl, hl⟩ := hu
      obtain ⟨r, h2, h3⟩ := hg w ok β vs hl
      refine ⟨r, ?_, h3⟩
      simp [Instr.index, asIntOf, run_underlying ht, h0, h1, run_sizeOf hi, hs, h2]
    · exact h.elim
  · exact h.elim

def evLen (X : Ctx) (t : TypeId) (x : AV) (K : AV → Prop) : Prop :=
  match tinf X.P t with
  | some ⟨.string, _, _, _⟩ => (match x with | .one (.pv (.str s)) => K (vI s.length) | _ => False)
  | some ⟨.slice _, _, _, _⟩ => (match x with
    | .one (.pv (.sl n _)) | .one (.own _ _ n) | .one (.sub _ _ _ n) => K (vI n)
    | .one (.pv .nil) => K (vI 0)
    | _ => False)
  | some ⟨.array n _, _, _, _⟩ => n ≤ topLen ∧ K (vI n)
  | _ => False
theorem int_i64 {w : World} {ok : Nat → Prop} {n : Nat} (h : n ≤ topLen) : RepP w ok (.int .i64 n) (.int .i64 n) := .int _ _ (by rw [range_i64]; simp only [topLen] at h; omega)
theorem evLen_sound (X : Ctx) {t ty : TypeId} {x : AV} {K : AV → Prop} (h : evLen X t x K) : ∃ v, K v ∧ Acts1 X x (fun u => Builtin.len_ #[t] ty #[u]) v := by
  unfold evLen at h
  split at h
  · rename_i _ _ _ hT
    obtain ⟨ht, _⟩ := tinf_spec hT
    split at h
    · rename_i s
      refine ⟨_, h, fun id hid => by simp [AV.refs, AC.refs] at hid, fun w ok β u hu => ?_⟩
      obtain ⟨rfl, hl⟩ := one_str hu
      refine ⟨.int .i64 s.length, ?_, int_i64 hl⟩
      have e : (ByteArray.mk s.toArray).size = s.length := by simp [ByteArray.size]
      simp [Builtin.len_, run_underlying ht, goInt, e]
    · exact h.elim
  · rename_i _ _ _ _ hT
    obtain ⟨ht, _⟩ := tinf_spec hT
    split at h
    · rename_i n cells
      refine ⟨_, h, fun id hid => by simp [AV.refs, AC.refs] at hid, fun w ok β u hu => ?_⟩
      obtain ⟨A, cap, rfl, _, _, hn, _⟩ := one_sl hu
      exact ⟨.int .i64 n, by simp [Builtin.len_, run_underlying ht, goInt], int_i64 hn⟩
    · rename_i id sz n
      refine ⟨_, h, fun id hid => by simp [AV.refs, AC.refs] at hid, fun w ok β u hu => ?_⟩
      rcases hu with ⟨rfl, rfl⟩ | ⟨g, cap, hg, rfl, h1, h2, _⟩
      · exact ⟨.int .i64 0, by simp [Builtin.len_, run_underlying ht, goInt], int_i64 (Nat.zero_le _)⟩
      · exact ⟨.int .i64 n, by simp [Builtin.len_, run_underlying ht, goInt], int_i64 (by omega)⟩
    · rename_i id sz off n
      refine ⟨_, h, fun id hid => by simp [AV.refs, AC.refs] at hid, fun w ok β u hu => ?_⟩
      obtain ⟨A, cap, rfl, h1, h2, _⟩ := hu
      exact ⟨.int .i64 n, by simp [Builtin.len_, run_underlying ht, goInt], int_i64 (by omega)⟩
    · refine ⟨_, h, fun id hid => by simp [AV.refs, AC.refs] at hid, fun w ok β u hu => ?_⟩
      obtain rfl := one_nil hu
      exact ⟨.int .i64 0, by simp [Builtin.len_, run_underlying ht, goInt], int_i64 (Nat.zero_le _)⟩
    · exact h.elim
  · rename_i n e _ _ _ hT
    obtain ⟨ht, _⟩ := tinf_spec hT
    refine ⟨_, h.2, fun id hid => by simp [AV.refs, AC.refs] at hid, fun w ok β u hu => ?_⟩
    exact ⟨.int .i64 n, by simp [Builtin.len_, run_underlying ht, goInt], int_i64 h.1⟩
  · exact h.elim
end Go.VL


namespace Go.VL
open Go.RowKit
set_option linter.unusedVariables false

/-- The bounds of a slice expression: what stands for a missing one. -/
def loOf : Option AV → Option Int
  | none => some 0
  | some (.one (.pv (.int _ z))) => some z
  | _ => none
inductive Bnd where
  | all
  | from (l : Int)
  | upto (h : Int)
  | both (l h : Int)
def bnds : Option AV → Option AV → Option Bnd
  | none, none => some .all
  | some (.one (.pv (.int _ l))), none => some (.from l)
  | none, some (.one (.pv (.int _ h))) => some (.upto h)
  | some (.one (.pv (.int _ l))), some (.one (.pv (.int _ h))) => some (.both l h)
  | _, _ => none
def evSlStr (s : List UInt8) : Bnd → (AV → Prop) → Prop
  | .all, K => K (vS s)
  | .from l, K => 0 ≤ l ∧ l ≤ s.length ∧ K (vS (s.drop l.toNat))
  | .upto h, K => 0 ≤ h ∧ h ≤ s.length ∧ K (vS (s.take h.toNat))
  | .both l h, K => 0 ≤ l ∧ l ≤ h ∧ h ≤ s.length ∧ K (vS ((s.drop l.toNat).take (h.toNat - l.toNat)))
def evSlPv (S n : Nat) (cells : List PV) : Bnd → (AV → Prop) → Prop
  | .all, K => K (vP (.sl n cells))
  | .from l, K => 0 ≤ l ∧ l ≤ n ∧ cells.length = n * S ∧ K (vP (.sl (n - l.toNat) (cells.drop (l.toNat * S))))
  | .upto h, K => 0 ≤ h ∧ h ≤ n ∧ cells.length = n * S ∧ K (vP (.sl h.toNat (cells.take (h.toNat * S))))
  | .both l h, K => 0 ≤ l ∧ l ≤ h ∧ h ≤ n ∧ cells.length = n * S ∧ K (vP (.sl (h.toNat - l.toNat) ((cells.drop (l.toNat * S)).take ((h.toNat - l.toNat) * S))))
def evSlOwn (id sz n : Nat) : Bnd → (AV → Prop) → Prop
  | .all, K => K (.one (.own id sz n))
  | .from l, K => 0 ≤ l ∧ l ≤ n ∧ K (.one (.sub id sz (l.toNat * sz) (n - l.toNat)))
  | .upto h, K => 0 ≤ h ∧ h ≤ n ∧ K (.one (.own id sz h.toNat))
  | .both l h, K => 0 ≤ l ∧ l ≤ h ∧ h ≤ n ∧ K (.one (.sub id sz (l.toNat * sz) (h.toNat - l.toNat)))
def evSlSub (id sz off n : Nat) : Bnd → (AV → Prop) → Prop
  | .all, K => K (.one (.sub id sz off n))
  | .from l, K => 0 ≤ l ∧ l ≤ n ∧ K (.one (.sub id sz (off + l.toNat * sz) (n - l.toNat)))
  | .upto h, K => 0 ≤ h ∧ h ≤ n ∧ K (.one (.sub id sz off h.toNat))
  | .both l h, K => 0 ≤ l ∧ l ≤ h ∧ h ≤ n ∧ K (.one (.sub id sz (off + l.toNat * sz) (h.toNat - l.toNat)))
def evSlNil : Bnd → (AV → Prop) → Prop
  | .all, K => K (vP .nil)
  | .from l, K => l = 0 ∧ K (vP .nil)
  | .upto h, K => h = 0 ∧ K (vP .nil)
  | .both l h, K => l = 0 ∧ h = 0 ∧ K (vP .nil)
def evSlice (X : Ctx) (t : TypeId) (x : AV) (lo hi mx : Option AV) (K : AV → Prop) : Prop :=
  match mx, bnds lo hi, tinf X.P t with
  | none, some b, some ⟨.string, _, _, _⟩ => (match x with | .one (.pv (.str s)) => evSlStr s b K | _ => False)
  | none, some b, some ⟨.slice e, _, _, _⟩ =>
    (match tinf X.P e with
     | some T => (match x with
       | .one (.pv (.sl n cells)) => evSlPv T.size n cells b K
       | .one (.own id sz n) => T.size = sz ∧ evSlOwn id sz n b K
       | .one (.sub id sz off n) => T.size = sz ∧ evSlSub id sz off n b K
       | .one (.pv .nil) => evSlNil b K
       | _ => False)
     | none => False)
  | none, some .all, some ⟨.array q e, _, _, _⟩ => (match tinf X.P e, x with | some T, .one (.ptr id off) => q ≤ topLen ∧ K (.one (.sub id T.size off q)) | _, _ => False)
  | _, _, _ => False

/-- A bound pair, as numbers: of what has n parts. -/
def Bnd.lo : Bnd → Nat
  | .all | .upto _ => 0
  | .from l | .both l _ => l.toNat
def Bnd.hi (n : Nat) : Bnd → Nat
  | .all | .from _ => n
  | .upto h | .both _ h => h.toNat
def Bnd.ok (n : Nat) : Bnd → Prop
  | .all => True
  | .from l => 0 ≤ l ∧ l ≤ n
  | .upto h => 0 ≤ h ∧ h ≤ n
  | .both l h => 0 ≤ l ∧ l ≤ h ∧ h ≤ n
theorem Bnd.ok_spec {n : Nat} {b : Bnd} (h : b.ok n) : b.lo ≤ b.hi n ∧ b.hi n ≤ n := by
  cases b <;> simp only [Bnd.ok, Bnd.lo, Bnd.hi] at * <;> omega
/-- Values that the bounds stand for. -/
def BndRep (lo hi : Option AV) (vl vh : Option Value) : Prop :=
  (lo = none ∧ vl = none ∨ ∃ k z, lo = some (.one (.pv (.int k z))) ∧ vl = some (.int k z)) ∧ (hi = none ∧ vh = none ∨ ∃ k z, hi = some (.one (.pv (.int k z))) ∧ vh = some (.int k z))
theorem run_slice_bnds {P : Program} {w : World} {lo hi : Option AV} {vl vh : Option Value} {b : Bnd} (hr : BndRep lo hi vl vh) (hb : bnds lo hi = some b) {n cap : Nat} (hn : n ≤ cap) (h : b.ok n) (isS : Bool) :
    (Instr.sliceBounds isS n cap vl vh none).run P w = .ok (b.lo, b.hi n, cap) w := by
  obtain ⟨hl, hh⟩ := hr
  rcases hl with ⟨rfl, rfl⟩ | ⟨k, z, rfl, rfl⟩ <;> rcases hh with ⟨rfl, rfl⟩ | ⟨k', z', rfl, rfl⟩ <;>
    simp only [bnds, Option.some.injEq] at hb <;> subst hb <;> simp only [Bnd.ok] at h <;> simp only [Bnd.lo, Bnd.hi]
  · simp [Instr.sliceBounds]
  · have h1 : z' ≤ (cap : Int) := by omega
    simp [Instr.sliceBounds, Instr.sliceBound, asIntOf, h.1, h1]
  · simp [Instr.sliceBounds, Instr.sliceBound, asIntOf, h.1, h.2]
  · have h1 : z' ≤ (cap : Int) := by omega
    have h0 : 0 ≤ z' := by omega
    have h2 : z ≤ ((z'.toNat : Nat) : Int) := by omega
    have h3 : z ≤ max z' 0 := by omega
    simp [Instr.sliceBounds, Instr.sliceBound, asIntOf, h.1, h0, h1, h3]
theorem run_slice_slice {P : Program} {w : World} {t e : TypeId} {i : TypeInfo} (ht : P.underlying t = some (.slice e)) (hi' : P.info? e = some i) {lo hi : Option AV} {vl vh : Option Value} {b : Bnd} (hr : BndRep lo hi vl vh) (hb : bnds lo hi = some b)
    {A : Option Addr} {n cap : Nat} (hn : n ≤ cap) (h : b.ok n) :
    (Instr.sliceAt t (.slice A n cap) vl vh none).run P w = .ok (.slice (if cap = b.lo then A else A.map (·.add (b.lo * i.size))) (b.hi n - b.lo) (cap - b.lo)) w := by
  have h1 := run_slice_bnds (P := P) (w := w) hr hb hn h true
  simp [Instr.sliceAt, Instr.slice, run_underlying ht, h1, run_sizeOf hi']
theorem run_slice_str {P : Program} {w : World} {t : TypeId} (ht : P.underlying t = some .string) {lo hi : Option AV} {vl vh : Option Value} {b : Bnd} (hr : BndRep lo hi vl vh) (hb : bnds lo hi = some b)
    {s : List UInt8} (h : b.ok s.length) : (Instr.sliceAt t (.string ⟨s.toArray⟩) vl vh none).run P w = .ok (.string ⟨((s.drop b.lo).take (b.hi s.length - b.lo)).toArray⟩) w := by
  have e : (ByteArray.mk s.toArray).size = s.length := by simp [ByteArray.size]
  have h1 := run_slice_bnds (P := P) (w := w) hr hb (Nat.le_refl s.length) h false
  simp [Instr.sliceAt, Instr.slice, run_underlying ht, e, h1, ByteArray.extract_mk]
def ORep (w : World) (ok : Nat → Prop) (β : Bt) (x : Option AV) (u : Option Value) : Prop := match x, u with | none, none => True | some x, some u => RepV w ok β x u | _, _ => False
theorem BndRep.of {w : World} {ok : Nat → Prop} {β : Bt} {lo hi : Option AV} {vl vh : Option Value} {b : Bnd} (hb : bnds lo hi = some b) (hl : ORep w ok β lo vl) (hh : ORep w ok β hi vh) : BndRep lo hi vl vh := by
  unfold bnds at hb
  split at hb
  · exact ⟨.inl ⟨rfl, by cases vl <;> simp_all [ORep]⟩, .inl ⟨rfl, by cases vh <;> simp_all [ORep]⟩⟩
  · refine ⟨.inr ?_, .inl ⟨rfl, by cases vh <;> simp_all [ORep]⟩⟩
    cases vl with
    | none => exact hl.elim
    | some u => exact ⟨_, _, rfl, congrArg some (one_int (w := w) (ok := ok) (β := β) hl).1⟩
  · refine ⟨.inl ⟨rfl, by cases vl <;> simp_all [ORep]⟩, .inr ?_⟩
    cases vh with
    | none => exact hh.elim
    | some u => exact ⟨_, _, rfl, congrArg some (one_int (w := w) (ok := ok) (β := β) hh).1⟩
  · refine ⟨.inr ?_, .inr ?_⟩
    · cases vl with
      | none => exact hl.elim
      | some u => exact ⟨_, _, rfl, congrArg some (one_int (w := w) (ok := ok) (β := β) hl).1⟩
    · cases vh with
      | none => exact hh.elim
      | some u => exact ⟨_, _, rfl, congrArg some (one_int (w := w) (ok := ok) (β := β) hh).1⟩
  · cases hb
theorem add_if {A : Option Addr} {cap l S b o : Nat} (h : A = some ⟨b, o, none⟩) (hc : cap ≠ l) : (if cap = l then A else A.map (·.add (l * S))) = some ⟨b, o + l * S, none⟩ := by
  rw [if_neg hc, h]; simp [add_none]
theorem if_lo0 {A : Option Addr} {l S : Nat} {p : Prop} [Decidable p] (h : l = 0) : (if p then A else A.map (·.add (l * S))) = A := by
  subst h
  by_cases hp : p
  · rw [if_pos hp]
  · rw [if_neg hp]; cases A <;> simp [Addr.add]
theorem evSlice_sound (X : Ctx) {t : TypeId} {x : AV} {lo hi mx : Option AV} {K : AV → Prop} (h : evSlice X t x lo hi mx K) :
    ∃ v, K v ∧ (∀ id ∈ v.refs, id ∈ x.refs) ∧ ∀ w ok β u vl vh, RepV w ok β x u → ORep w ok β lo vl → ORep w ok β hi vh → Gives X w ok β (Instr.sliceAt t u vl vh (mx.map fun _ => undef)) v := by
  unfold evSlice at h
  split at h
  · rename_i b _ _ _ hb hT
    obtain ⟨ht, _⟩ := tinf_spec hT
    split at h
    · rename_i s
      have key : b.ok s.length ∧ K (vS ((s.drop b.lo).take (b.hi s.length - b.lo))) := by
        cases b <;> simp only [evSlStr] at h <;> simp only [Bnd.ok, Bnd.lo, Bnd.hi]
        · simpa using h
        · refine ⟨⟨h.1, h.2.1⟩, ?_⟩
          rw [List.take_of_length_le (by rw [List.length_drop]; omega)]
          exact h.2.2
        · refine ⟨⟨h.1, h.2.1⟩, ?_⟩
          simpa using h.2.2
        · exact ⟨⟨h.1, h.2.1, h.2.2.1⟩, h.2.2.2⟩
      refine ⟨_, key.2, fun id hid => by simp [AV.refs, AC.refs] at hid, fun w ok β u vl vh hu hl hh => ?_⟩
      obtain ⟨rfl, hlen⟩ := one_str hu
      exact ⟨_, run_slice_str ht (BndRep.of hb hl hh) hb key.1, .str _ (by rw [List.length_take, List.length_drop]; omega)⟩
    · exact h.elim
  · rename_i b e _ _ _ hb hT
    obtain ⟨ht, _⟩ := tinf_spec hT
    split at h
    · rename_i T hT2
      obtain ⟨_, I, hi', hs, _⟩ := tinf_spec hT2
      split at h
      · rename_i n cells
        by_cases hall : b = .all
        · subst hall
          refine ⟨_, h, fun id hid => hid, fun w ok β u vl vh hu hl hh => ?_⟩
          obtain ⟨A, cap, rfl, hn, _⟩ := one_sl hu
          refine ⟨_, run_slice_slice ht hi' (BndRep.of hb hl hh) hb hn trivial, ?_⟩
          have e : ∀ A', A' = A → RepV w ok β (vP (.sl n cells)) (.slice A' n cap) := by rintro _ rfl; exact hu
          simp only [Bnd.lo, Bnd.hi, Nat.sub_zero]
          exact e _ (if_lo0 (l := 0) rfl)
        · have key : b.ok n ∧ cells.length = n * T.size ∧ K (vP (.sl (b.hi n - b.lo) ((cells.drop (b.lo * T.size)).take ((b.hi n - b.lo) * T.size)))) := by
            cases b <;> simp only [evSlPv] at h <;> simp only [Bnd.ok, Bnd.lo, Bnd.hi]
            · exact absurd rfl hall
            · refine ⟨⟨h.1, h.2.1⟩, h.2.2.1, ?_⟩
              rw [List.take_of_length_le (by rw [List.length_drop, h.2.2.1, Nat.sub_mul]; omega)]
              exact h.2.2.2
            · refine ⟨⟨h.1, h.2.1⟩, h.2.2.1, ?_⟩
              simpa using h.2.2.2
            · exact ⟨⟨h.1, h.2.1, h.2.2.1⟩, h.2.2.2.1, h.2.2.2.2⟩
          obtain ⟨hok, hlen, hK⟩ := key
          have hsp := Bnd.ok_spec hok
          refine ⟨_, hK, fun id hid => by simp [AV.refs, AC.refs] at hid, fun w ok β u vl vh hu hl hh => ?_⟩
          obtain ⟨A, cap, rfl, hn, hz, _, h2⟩ := one_sl hu
          refine ⟨_, run_slice_slice ht hi' (BndRep.of hb hl hh) hb hn hok, ?_⟩
          rw [hs]
          show RepP w ok _ _
          by_cases h0 : b.hi n - b.lo = 0
          · rw [h0]; simp only [Nat.zero_mul, List.take_zero]; exact .sl0 _ _
          · have hn0 : 0 < n := by omega
            obtain ⟨hcm, sz, b', o, rfl, hl', hok', hc⟩ := h2 hn0
            obtain rfl : sz = T.size := Nat.eq_of_mul_eq_mul_left hn0 (hl'.symm.trans hlen)
            rw [add_if rfl (by omega)]
            refine RepP.mk_sl (sz := T.size) (by omega) (by omega) ?_ fun _ => ⟨hok', fun j p hj => ?_⟩
            · rw [List.length_take, List.length_drop, hlen, ← Nat.sub_mul]
              exact Nat.min_eq_left (Nat.mul_le_mul_right _ (by omega))
            · rw [List.getElem?_take] at hj
              split at hj
              · rw [List.getElem?_drop] at hj
                obtain ⟨v, hv, hr⟩ := hc _ p hj
                exact ⟨v, by rw [Nat.add_assoc]; exact hv, hr⟩
              · cases hj
      · rename_i id sz n
        obtain ⟨rfl, h⟩ := h
        have key : b.ok n ∧ ((b.lo = 0 ∧ (∀ l, b ≠ .from l) ∧ (∀ l h, b ≠ .both l h) ∧ K (.one (.own id T.size (b.hi n)))) ∨ K (.one (.sub id T.size (b.lo * T.size) (b.hi n - b.lo)))) := by
          cases b <;> simp only [evSlOwn] at h <;> simp only [Bnd.ok, Bnd.lo, Bnd.hi]
          · exact ⟨trivial, .inl ⟨by first | rfl | trivial, by simp, by simp, h⟩⟩
          · exact ⟨⟨h.1, h.2.1⟩, .inr h.2.2⟩
          · exact ⟨⟨h.1, h.2.1⟩, .inl ⟨by first | rfl | trivial, by simp, by simp, h.2.2⟩⟩
          · exact ⟨⟨h.1, h.2.1, h.2.2.1⟩, .inr h.2.2.2⟩
        obtain ⟨hok, key⟩ := key
        have hsp := Bnd.ok_spec hok
        rcases key with ⟨h0, _, _, hK⟩ | hK
        · refine ⟨_, hK, fun id hid => hid, fun w ok β u vl vh hu hl hh => ?_⟩
          rcases hu with ⟨rfl, rfl⟩ | ⟨g, cap, hg, rfl, h1, h2, h3⟩
          · refine ⟨_, run_slice_slice ht hi' (BndRep.of hb hl hh) hb (Nat.le_refl 0) hok, .inl ⟨?_, by omega⟩⟩
            rw [h0, show b.hi 0 = 0 by omega]; simp
          · refine ⟨_, run_slice_slice ht hi' (BndRep.of hb hl hh) hb h1 hok, .inr ⟨g, cap, hg, ?_, by omega, h2, h3⟩⟩
            rw [h0]
            split <;> simp [Addr.add]
        · refine ⟨_, hK, fun id hid => hid, fun w ok β u vl vh hu hl hh => ?_⟩
          rcases hu with ⟨rfl, rfl⟩ | ⟨g, cap, hg, rfl, h1, h2, h3⟩
          · exact ⟨_, run_slice_slice ht hi' (BndRep.of hb hl hh) hb (Nat.le_refl 0) hok, _, _, rfl, by omega, by omega, .inl (by omega)⟩
          · refine ⟨_, run_slice_slice ht hi' (BndRep.of hb hl hh) hb h1 hok, _, _, rfl, by omega, by omega, ?_⟩
            by_cases h0 : b.hi n - b.lo = 0
            · exact .inl h0
            · exact .inr ⟨g, hg, by rw [hs, add_if rfl (by omega), Nat.zero_add]⟩
      · rename_i id sz off n
        obtain ⟨rfl, h⟩ := h
        have key : b.ok n ∧ K (.one (.sub id T.size (off + b.lo * T.size) (b.hi n - b.lo))) := by
          cases b <;> simp only [evSlSub] at h <;> simp only [Bnd.ok, Bnd.lo, Bnd.hi]
          · exact ⟨trivial, by simpa using h⟩
          · exact ⟨⟨h.1, h.2.1⟩, h.2.2⟩
          · exact ⟨⟨h.1, h.2.1⟩, by simpa using h.2.2⟩
          · exact ⟨⟨h.1, h.2.1, h.2.2.1⟩, h.2.2.2⟩
        obtain ⟨hok, hK⟩ := key
        have hsp := Bnd.ok_spec hok
        refine ⟨_, hK, fun id hid => hid, fun w ok β u vl vh hu hl hh => ?_⟩
        obtain ⟨A, cap, rfl, h1, h2, h3⟩ := hu
        refine ⟨_, run_slice_slice ht hi' (BndRep.of hb hl hh) hb h1 hok, _, _, rfl, by omega, by omega, ?_⟩
        by_cases h0 : b.hi n - b.lo = 0
        · exact .inl h0
        · rcases h3 with h3 | ⟨g, hg, rfl⟩
          · omega
          · exact .inr ⟨g, hg, by rw [hs, add_if rfl (by omega)]⟩
      · have key : b.ok 0 ∧ b.lo = 0 ∧ b.hi 0 = 0 ∧ K (vP .nil) := by
          cases b <;> simp only [evSlNil] at h <;> simp only [Bnd.ok, Bnd.lo, Bnd.hi]
          · exact ⟨trivial, by first | rfl | trivial, by first | rfl | trivial, h⟩
          · obtain ⟨rfl, h⟩ := h; exact ⟨⟨by omega, by omega⟩, by first | rfl | trivial | simp, by first | rfl | trivial | simp, h⟩
          · obtain ⟨rfl, h⟩ := h; exact ⟨⟨by omega, by omega⟩, by first | rfl | trivial | simp, by first | rfl | trivial | simp, h⟩
          · obtain ⟨rfl, rfl, h⟩ := h; exact ⟨⟨by omega, by omega, by omega⟩, by first | rfl | trivial | simp, by first | rfl | trivial | simp, h⟩
        obtain ⟨hok, hl0, hh0, hK⟩ := key
        refine ⟨_, hK, fun id hid => hid, fun w ok β u vl vh hu hl hh => ?_⟩
        obtain rfl := one_nil hu
        refine ⟨_, run_slice_slice ht hi' (BndRep.of hb hl hh) hb (Nat.le_refl 0) hok, ?_⟩
        rw [hl0, hh0]
        exact RepP.nil
      · exact h.elim
    · exact h.elim
  · rename_i q e _ _ _ hb hT
    obtain ⟨ht, _⟩ := tinf_spec hT
    split at h
    · rename_i T id off hT2
      obtain ⟨_, I, hi', hs, _⟩ := tinf_spec hT2
      refine ⟨_, h.2, fun id hid => hid, fun w ok β u vl vh hu hl hh => ?_⟩
      obtain ⟨g, hg, rfl⟩ := hu
      have hbr := BndRep.of hb hl hh
      have h1 := run_slice_bnds (P := X.P) (w := w) hbr hb (Nat.le_refl q) trivial false
      refine ⟨.slice (some ⟨g, off, none⟩) q q, ?_, _, _, rfl, Nat.le_refl _, h.1, .inr ⟨g, hg, rfl⟩⟩
      simp only [Bnd.lo, Bnd.hi] at h1
      simp [Instr.sliceAt, run_underlying ht, h1, run_sizeOf hi', Instr.sureAddr, asAddr, Addr.add]
    · exact h.elim
  · exact h.elim
end Go.VL


namespace Go.VL
open Go.RowKit
set_option linter.unusedVariables false

def avCells : AV → Option (List AC)
  | .one c => some [c]
  | .agg cs => some cs
  | _ => none
theorem avCells_refs {x : AV} {cs : List AC} (h : avCells x = some cs) : x.refs = acRefs cs := by
  cases x <;> simp only [avCells, Option.some.injEq, reduceCtorEq] at h <;> subst h <;> simp [AV.refs, acRefs]
theorem cells_one {v : Value} (h : v.oneCell' = true) : v.cells = #[v] := by cases v <;> simp_all [Value.cells, Value.oneCell']
theorem avCells_rep {w : World} {ok : Nat → Prop} {β : Bt} {x : AV} {cs : List AC} {v : Value} (h : avCells x = some cs) (r : RepV w ok β x v) : RepL w ok β cs v.cells := by
  cases x <;> simp only [avCells, Option.some.injEq, reduceCtorEq] at h
  · subst h
    have r' : RepC w ok β _ v := r
    rw [cells_one r'.oneCell]
    refine ⟨rfl, fun j c hj => ?_⟩
    match j, hj with
    | 0, hj => simp at hj; subst hj; exact ⟨v, rfl, r'⟩
  · subst h
    obtain ⟨vs, rfl, hl⟩ := r
    exact hl
def setMany {α : Type} (l : List α) (off : Nat) (cs : List α) : List α := l.take off ++ cs ++ l.drop (off + cs.length)
theorem getElem?_setMany {α : Type} (l : List α) (off : Nat) (cs : List α) (h : off + cs.length ≤ l.length) (j : Nat) : (setMany l off cs)[j]? = if off ≤ j ∧ j < off + cs.length then cs[j - off]? else l[j]? := by
  unfold setMany
  rw [List.append_assoc, List.getElem?_append]
  have hl : (l.take off).length = off := by rw [List.length_take]; omega
  rw [hl]
  by_cases h1 : j < off
  · rw [if_pos h1, if_neg (by omega), List.getElem?_take, if_pos h1]
  · rw [if_neg h1, List.getElem?_append]
    by_cases h2 : j - off < cs.length
    · rw [if_pos h2, if_pos (by omega)]
    · rw [if_neg h2, if_neg (by omega), List.getElem?_drop]
      congr 1; omega
theorem length_setMany {α : Type} (l : List α) (off : Nat) (cs : List α) (h : off + cs.length ≤ l.length) : (setMany l off cs).length = l.length := by
  unfold setMany; simp; omega
theorem foldl_set (off : Nat) : ∀ (vs : List Value) (k : Nat) (arr : Array Value), off + k + vs.length ≤ arr.size →
    ((vs.zipIdx k).foldl (fun cs (c, j) => cs.setIfInBounds (off + j) c) arr).size = arr.size ∧
    ∀ i : Nat, ((vs.zipIdx k).foldl (fun cs (c, j) => cs.setIfInBounds (off + j) c) arr)[i]? = if off + k ≤ i ∧ i < off + k + vs.length then vs[i - (off + k)]? else arr[i]?
  | [], k, arr, _ => ⟨rfl, fun i => by rw [if_neg (by simp only [List.length_nil]; omega)]; rfl⟩
  | v :: vs, k, arr, h => by
    have ih := foldl_set off vs (k + 1) (arr.setIfInBounds (off + k) v) (by simp at h ⊢; omega)
    simp only [List.zipIdx_cons, List.foldl_cons]
    refine ⟨by rw [ih.1]; simp, fun i => ?_⟩
    rw [ih.2 i]
    simp only [List.length_cons] at h ⊢
    by_cases h1 : off + (k + 1) ≤ i ∧ i < off + (k + 1) + vs.length
    · rw [if_pos h1, if_pos (by omega)]
      rw [show i - (off + k) = (i - (off + (k + 1))) + 1 by omega, List.getElem?_cons_succ]
    · rw [if_neg h1]
      by_cases h2 : i = off + k
      · subst h2
        rw [if_pos (by omega), Nat.sub_self, List.getElem?_cons_zero, Array.getElem?_setIfInBounds_self_of_lt (by omega)]
      · rw [if_neg (by omega), Array.getElem?_setIfInBounds_ne (by omega)]
theorem RepL.setMany {w : World} {ok : Nat → Prop} {β : Bt} {cs ds : List AC} {arr vs : Array Value} {off : Nat} (h : RepL w ok β cs arr) (h2 : RepL w ok β ds vs) (hl : off + ds.length ≤ cs.length) :
    RepL w ok β (setMany cs off ds) (vs.zipIdx.foldl (fun cs (c, j) => cs.setIfInBounds (off + j) c) arr) := by
  have hv : vs.toList.length = ds.length := by rw [Array.length_toList]; exact h2.1
  have e : vs.zipIdx.foldl (fun cs (c, j) => cs.setIfInBounds (off + j) c) arr = (vs.toList.zipIdx 0).foldl (fun cs (c, j) => cs.setIfInBounds (off + j) c) arr := by
    rw [← Array.foldl_toList, Array.toList_zipIdx]
  obtain ⟨f1, f2⟩ := foldl_set off vs.toList 0 arr (by rw [hv, h.1]; omega)
  rw [e]
  refine ⟨by rw [f1, h.1, length_setMany _ _ _ hl], fun j c hj => ?_⟩
  rw [getElem?_setMany _ _ _ hl] at hj
  rw [f2 j]
  simp only [Nat.add_zero, hv]
  by_cases hc : off ≤ j ∧ j < off + ds.length
  · rw [if_pos hc] at hj ⊢
    obtain ⟨u, hu, hr⟩ := h2.2 _ c hj
    exact ⟨u, by simpa using hu, hr⟩
  · rw [if_neg hc] at hj ⊢
    exact h.2 j c hj
def fillA (place : Nat → Option (Nat × Nat)) : List AC → List (Nat × AV) → Option (List AC)
  | cells, [] => some cells
  | cells, (i, v) :: rest =>
    match place i, avCells v with
    | some (off, size), some cs => if cs.length = size ∧ off + cs.length ≤ cells.length then fillA place (setMany cells off cs) rest else none
    | _, _ => none
theorem fillA_refs {place : Nat → Option (Nat × Nat)} : ∀ {parts : List (Nat × AV)} {cells out : List AC}, fillA place cells parts = some out → ∀ id ∈ acRefs out, id ∈ acRefs cells ∨ ∃ p ∈ parts, id ∈ p.2.refs
  | [], cells, out, h, id, hid => by simp only [fillA, Option.some.injEq] at h; subst h; exact .inl hid
  | (i, v) :: rest, cells, out, h, id, hid => by
    simp only [fillA] at h
    split at h
    · rename_i off size cs hp hc
      split at h
      · rcases fillA_refs h id hid with h1 | ⟨p, hp', h1⟩
        · obtain ⟨c, hc', hi⟩ := List.mem_flatMap.1 h1
          unfold setMany at hc'
          rw [List.mem_append, List.mem_append] at hc'
          rcases hc' with (hc' | hc') | hc'
          · exact .inl (List.mem_flatMap.2 ⟨c, List.mem_of_mem_take hc', hi⟩)
          · exact .inr ⟨(i, v), by simp, by rw [avCells_refs hc]; exact List.mem_flatMap.2 ⟨c, hc', hi⟩⟩
          · exact .inl (List.mem_flatMap.2 ⟨c, List.mem_of_mem_drop hc', hi⟩)
        · exact .inr ⟨p, by simp [hp'], h1⟩
      · cases h
    · cases h
theorem fill_rep {w : World} {ok : Nat → Prop} {β : Bt} {place : Nat → Option (Nat × Nat)} : ∀ {parts : List (Nat × AV)} {vals : List (Nat × Value)} {cells out : List AC} {arr : Array Value}, fillA place cells parts = some out → RepL w ok β cells arr →
    parts.length = vals.length → (∀ (j : Nat) i x, parts[j]? = some (i, x) → ∃ v, vals[j]? = some (i, v) ∧ RepV w ok β x v) → ∃ arr', Instr.fill place arr vals = some arr' ∧ RepL w ok β out arr'
  | [], [], cells, out, arr, h, hr, _, _ => by simp only [fillA, Option.some.injEq] at h; subst h; exact ⟨arr, rfl, hr⟩
  | [], _ :: _, _, _, _, _, _, hl, _ => by simp at hl
  | _ :: _, [], _, _, _, _, _, hl, _ => by simp at hl
  | (i, x) :: parts, (i', v) :: vals, cells, out, arr, h, hr, hl, hp => by
    obtain ⟨v', hv', hrv⟩ := hp 0 i x rfl
    simp only [List.getElem?_cons_zero, Option.some.injEq, Prod.mk.injEq] at hv'
    obtain ⟨rfl, rfl⟩ := hv'
    simp only [fillA] at h
    split at h
    · rename_i off size cs hpl hc
      split at h
      · rename_i hcond
        have hcr := avCells_rep hc hrv
        have h1 := RepL.setMany hr hcr hcond.2
        obtain ⟨arr', h2, h3⟩ := fill_rep h h1 (by simpa using hl) (fun j i x hj => hp (j + 1) i x (by simpa using hj))
        refine ⟨arr', ?_, h3⟩
        simp only [Instr.fill, hpl]
        rw [if_neg (by have := hcr.1; have := hr.1; simp; omega)]
        exact h2
      · cases h
    · cases h
/-- The cells of a type's zero value. -/
def zeroCs (z : Value) : Option (List AC) := if z.cells.all Value.oneCell' = true then some (z.cells.toList.map ofCell) else none
theorem zeroCs_rep {w : World} {ok : Nat → Prop} {β : Bt} {z : Value} {cs : List AC} (h : zeroCs z = some cs) : RepL w ok β cs z.cells := by
  unfold zeroCs at h
  split at h
  · rename_i hc
    simp only [Option.some.injEq] at h
    subst h
    refine ⟨by simp, fun j c hj => ?_⟩
    rw [List.getElem?_map] at hj
    cases hu : z.cells.toList[j]? with
    | none => rw [hu] at hj; cases hj
    | some u =>
      rw [hu] at hj
      simp only [Option.map_some, Option.some.injEq] at hj
      subst hj
      refine ⟨u, by simpa using hu, ofCell_rep w ok β u ?_⟩
      rw [Array.all_eq_true_iff_forall_mem] at hc
      exact hc u (by simpa using List.mem_of_getElem? hu)
  · cases h
theorem ofCell_refs (v : Value) : (ofCell v).refs = [] := by
  unfold ofCell
  split <;> (try split) <;> rfl
theorem zeroCs_refs {z : Value} {cs : List AC} (h : zeroCs z = some cs) : acRefs cs = [] := by
  unfold zeroCs at h
  split at h
  · simp only [Option.some.injEq] at h
    subst h
    unfold acRefs
    rw [List.flatMap_eq_nil_iff]
    intro c hc
    obtain ⟨v, _, rfl⟩ := List.mem_map.1 hc
    exact ofCell_refs v
  · cases h
theorem ofVal_refs (v : Value) : (ofVal v).refs = [] := by
  unfold ofVal
  split
  · split
    · unfold AV.refs acRefs
      rw [List.flatMap_eq_nil_iff]
      intro c hc
      obtain ⟨v, _, rfl⟩ := List.mem_map.1 hc
      exact ofCell_refs v
    · rfl
  · rfl
  · exact ofCell_refs v
/-- Where a struct's fields lie. -/
def placesOf (P : Program) (fs : Array Field) (i : Nat) : Option (Nat × Nat) := match fs[i]? with
  | some F => (match tinf P F.type with | some T => some (F.offset, T.size) | none => none)
  | none => none
def allSized (P : Program) (fs : Array Field) : Bool := fs.all fun F => (tinf P F.type).isSome
def evBuild (X : Ctx) (t : TypeId) (parts : List (Nat × AV)) (K : AV → Prop) : Prop :=
  match tinf X.P t with
  | some ⟨.struct fs, _, _, some z⟩ =>
    allSized X.P fs = true ∧ (match zeroCs z with
     | some cs => (match fillA (placesOf X.P fs) cs parts with | some out => K (.agg out) | none => False)
     | none => False)
  | some ⟨.array _ e, _, _, some z⟩ =>
    (match tinf X.P e, zeroCs z with
     | some T, some cs => (match fillA (fun i => some (i * T.size, T.size)) cs parts with | some out => K (.agg out) | none => False)
     | _, _ => False)
  | _ => False
theorem mapM_places {P : Program} {w : World} : ∀ (fs : List Field), (fs.all fun F => (tinf P F.type).isSome) = true →
    ∃ ps : List (Nat × Nat), (fs.mapM fun f => (do pure (f.offset, ← sizeOf f.type) : Sem (Nat × Nat))).run P w = .ok ps w ∧ ∀ i : Nat, ps[i]? = match fs[i]? with | some F => (match tinf P F.type with | some T => some (F.offset, T.size) | none => none) | none => none
  | [], _ => ⟨[], by simp, fun i => by simp⟩
  | F :: fs, h => by
    simp only [List.all_cons, Bool.and_eq_true] at h
    obtain ⟨T, hT⟩ := Option.isSome_iff_exists.1 h.1
    obtain ⟨_, I, hi, hs, _⟩ := tinf_spec hT
    obtain ⟨ps, h1, h2⟩ := mapM_places (P := P) (w := w) fs h.2
    refine ⟨(F.offset, T.size) :: ps, ?_, fun i => ?_⟩
    · simp only [List.mapM_cons, Sem.run_bind, run_sizeOf hi, Result.andThen_ok, Sem.run_pure, h1, hs]
    · cases i with
      | zero => simp [hT]
      | succ i => simpa using h2 i
theorem evBuild_sound (X : Ctx) {t : TypeId} {parts : List (Nat × AV)} {K : AV → Prop} (h : evBuild X t parts K) :
    ∃ v, K v ∧ (∀ id ∈ v.refs, ∃ p ∈ parts, id ∈ p.2.refs) ∧ ∀ w ok β (vals : Array (Nat × Value)), parts.length = vals.size → (∀ (j : Nat) i x, parts[j]? = some (i, x) → ∃ v, vals[j]? = some (i, v) ∧ RepV w ok β x v) → Gives X w ok β (Instr.build t vals) v := by
  unfold evBuild at h
  split at h
  · rename_i fs _ _ z hT
    obtain ⟨ht, i, hi, _, _, hz⟩ := tinf_spec hT
    obtain ⟨ha, h⟩ := h
    split at h
    · rename_i cs hcs
      split at h
      · rename_i out hout
        refine ⟨_, h, fun id hid => ?_, fun w ok β vals hl hp => ?_⟩
        · rcases fillA_refs hout id hid with h1 | h1
          · rw [zeroCs_refs hcs] at h1; cases h1
          · exact h1
        · obtain ⟨ps, h1, h2⟩ := mapM_places (P := X.P) (w := w) fs.toList (by unfold allSized at ha; rw [← Array.all_toList] at ha; exact ha)
          have hpl : (fun i => ps.toArray[i]?) = placesOf X.P fs := by
            funext i
            simp only [List.getElem?_toArray, h2 i, placesOf, Array.getElem?_toList]
          obtain ⟨arr', h3, h4⟩ := fill_rep (w := w) (ok := ok) (β := β) (vals := vals.toList) hout (zeroCs_rep hcs) (by simpa using hl) (fun j i x hj => by simpa using hp j i x hj)
          refine ⟨.agg arr', ?_, arr', rfl, h4⟩
          have h5 : (fs.mapM fun f => (do pure (f.offset, ← sizeOf f.type) : Sem (Nat × Nat))).run X.P w = .ok ps.toArray w := by
            have e : fs = fs.toList.toArray := by simp
            rw [e, List.mapM_toArray]
            simp only [Sem.run_map, h1, Result.andThen_ok]
          simp only [Instr.build, Sem.run_bind, zeroValue, typeInfo, run_program, Result.andThen_ok, hi, Sem.run_pure, hz, run_underlying ht, h5]
          rw [hpl, h3]
          rfl
      · exact h.elim
    · exact h.elim
  · rename_i len e _ _ z hT
    obtain ⟨ht, i, hi, _, _, hz⟩ := tinf_spec hT
    split at h
    · rename_i T cs hT2 hcs
      obtain ⟨_, I, hi2, hs, _⟩ := tinf_spec hT2
      split at h
      · rename_i out hout
        refine ⟨_, h, fun id hid => ?_, fun w ok β vals hl hp => ?_⟩
        · rcases fillA_refs hout id hid with h1 | h1
          · rw [zeroCs_refs hcs] at h1; cases h1
          · exact h1
        · obtain ⟨arr', h3, h4⟩ := fill_rep (w := w) (ok := ok) (β := β) (vals := vals.toList) hout (zeroCs_rep hcs) (by simpa using hl) (fun j i x hj => by simpa using hp j i x hj)
          refine ⟨.agg arr', ?_, arr', rfl, h4⟩
          simp only [Instr.build, Sem.run_bind, zeroValue, typeInfo, run_program, Result.andThen_ok, hi, Sem.run_pure, hz, run_underlying ht, run_sizeOf hi2, hs]
          rw [h3]
          rfl
      · exact h.elim
    · exact h.elim
  · exact h.elim
end Go.VL

