/- A part of the proof of CNaturalDivides: contracts over whole values, and what they lean on. Each holds under the conditions that it states. -/
import Derived.Below
import Derived.Deep.Draws
import Derived.Orders
import Derived.Still
import Derived.Laws.Sem
import Derived.Laws.CopyRow
import Derived.Maps.AppendAt
import Derived.Laws.Slices
import Derived.Laws.Strings
import Derived.Laws.Strings2
import Derived.Laws.Strings3
import Derived.Laws.Concat
import Derived.Laws.Entries
import Derived.Laws.Small
import Derived.Laws.MakeOwn
import Derived.Laws.OwnMore
import Derived.Lib.AppendStr

namespace Go.VL
open Go.RowKit
set_option linter.unusedVariables false

/-- A value read whole: no address in it. -/
inductive PV where
  | int (k : IntKind) (z : Int)
  | bool (b : Bool)
  | str (s : List UInt8)
  | lit (v : Value)
  | nil
  | sl (n : Nat) (cells : List PV)
  | pt (cells : List PV) (off : Nat)
  | clo (f : FuncId) (caps : List PV)
  | ifc
instance : Inhabited PV := ⟨.nil⟩

abbrev topLen : Nat := 9223372036854775807

inductive RepP (w : World) (ok : Nat → Prop) : PV → Value → Prop
  | int (k : IntKind) (z : Int) (h : k.min ≤ z ∧ z ≤ k.max) : RepP w ok (.int k z) (.int k z)
  | bool (b : Bool) : RepP w ok (.bool b) (.bool b)
  | str (s : List UInt8) (h : s.length ≤ topLen) : RepP w ok (.str s) (.string ⟨s.toArray⟩)
  | lit (v : Value) (h : v.oneCell' = true) : RepP w ok (.lit v) v
  | nil : RepP w ok .nil (.slice none 0 0)
  | sl0 (A : Option Addr) (cap : Nat) : RepP w ok (.sl 0 []) (.slice A 0 cap)
  | sl (n sz cap b o : Nat) (cells : List PV) (vals : Nat → Value) (hn : 0 < n) (hc : n ≤ cap) (hm : cap ≤ topLen) (hl : cells.length = n * sz) (hok : ok b)
      (hcell : ∀ (j : Nat) p, cells[j]? = some p → w.cell? ⟨b, o + j, none⟩ = some (vals j)) (hrep : ∀ (j : Nat) p, cells[j]? = some p → RepP w ok p (vals j)) :
      RepP w ok (.sl n cells) (.slice (some ⟨b, o, none⟩) n cap)
  | pt (b o off : Nat) (cells : List PV) (vals : Nat → Value) (hok : ok b)
      (hcell : ∀ (j : Nat) p, cells[j]? = some p → w.cell? ⟨b, o + j, none⟩ = some (vals j)) (hrep : ∀ (j : Nat) p, cells[j]? = some p → RepP w ok p (vals j)) :
      RepP w ok (.pt cells off) (.pointer (some ⟨b, o + off, none⟩))
  | clo (f : FuncId) (caps : List PV) (vs : Array Value) (vals : Nat → Value) (hs : vs.size = caps.length)
      (hv : ∀ (j : Nat) p, caps[j]? = some p → vs[j]? = some (vals j)) (hrep : ∀ (j : Nat) p, caps[j]? = some p → RepP w ok p (vals j)) :
      RepP w ok (.clo f caps) (.func (.func f) #[] vs)
  | ifc (t : TypeId) (v : Value) : RepP w ok .ifc (.iface t v)

theorem cell?_block {w w' : World} {b : Nat} (h : w'.heap[b]? = w.heap[b]?) (o : Nat) : w'.cell? ⟨b, o, none⟩ = w.cell? ⟨b, o, none⟩ := by
  unfold World.cell?; simp only [h]
theorem RepP.mono {w w' : World} {ok ok' : Nat → Prop} (h : ∀ b, ok b → ok' b ∧ w'.heap[b]? = w.heap[b]?) {p : PV} {v : Value} (hr : RepP w ok p v) : RepP w' ok' p v := by
  induction hr with
  | int k z hz => exact .int k z hz
  | bool b => exact .bool b
  | str s hs => exact .str s hs
  | lit v hv => exact .lit v hv
  | nil => exact .nil
  | sl0 A cap => exact .sl0 A cap
  | sl n sz cap b o cells vals hn hc hm hl hok hcell _ ih =>
    exact .sl n sz cap b o cells vals hn hc hm hl (h b hok).1 (fun j p hj => by rw [cell?_block (h b hok).2]; exact hcell j p hj) ih
  | pt b o off cells vals hok hcell _ ih =>
    exact .pt b o off cells vals (h b hok).1 (fun j p hj => by rw [cell?_block (h b hok).2]; exact hcell j p hj) ih
  | clo f caps vs vals hs hv _ ih => exact .clo f caps vs vals hs hv ih
  | ifc t v => exact .ifc t v
theorem RepP.oneCell {w : World} {ok : Nat → Prop} {p : PV} {v : Value} (hr : RepP w ok p v) : v.oneCell' = true := by
  cases hr <;> first | rfl | assumption

/-- What a frame's slots and own blocks hold. -/
inductive Cap where
  | pv (p : PV)
  | ptr (id off : Nat)
inductive AC where
  | any
  | ub
  | pv (p : PV)
  | own (id sz n : Nat)
  | sub (id sz off n : Nat)
  | ptr (id off : Nat)
  | adr (id : Nat) (T : TypeId) (sz : Nat)
  | clo (f : FuncId) (caps : List Cap)
inductive Bx where
  | pu (e : TypeId) (cells : List PV)
  | mx (cells : List AC)
inductive AV where
  | one (c : AC)
  | agg (cs : List AC)
  | tup (xs : List (Bool × List AC))
  | bot
def Bx.cells : Bx → List AC
  | .pu _ l => l.map .pv
  | .mx l => l
abbrev Hp := List (Nat × (Bx × Bool))
abbrev Bt := Nat → Option Nat
def look {α : Type} : List (Nat × α) → Nat → Option α
  | [], _ => none
  | (k, x) :: l, i => if i = k then some x else look l i
def put {α : Type} : List (Nat × α) → Nat → α → List (Nat × α)
  | [], i, y => [(i, y)]
  | (k, x) :: l, i, y => if i = k then (k, y) :: l else (k, x) :: put l i y
def del {α : Type} : List (Nat × α) → Nat → List (Nat × α)
  | [], _ => []
  | (k, x) :: l, i => if i = k then del l i else (k, x) :: del l i
theorem look_put {α : Type} (l : List (Nat × α)) (i j : Nat) (y : α) : look (put l i y) j = if j = i then some y else look l j := by
  induction l with
  | nil => simp [put, look]
  | cons a l ih =>
    obtain ⟨k, x⟩ := a
    simp only [put]
    by_cases h : i = k
    · subst h
      simp only [if_true, look]
      by_cases hj : j = i <;> simp [hj]
    · simp only [h, if_false, look, ih]
      by_cases hj : j = k
      · subst hj
        rw [if_pos rfl, if_neg (fun e => h e.symm), if_pos rfl]
      · simp [hj]
theorem look_del {α : Type} (l : List (Nat × α)) (i j : Nat) : look (del l i) j = if j = i then none else look l j := by
  induction l with
  | nil => simp [del, look]
  | cons a l ih =>
    obtain ⟨k, x⟩ := a
    simp only [del]
    by_cases h : i = k
    · subst h
      simp only [if_true, look, ih]
      by_cases hj : j = i <;> simp [hj]
    · simp only [h, if_false, look, ih]
      by_cases hj : j = k
      · subst hj
        rw [if_pos rfl, if_neg (fun e => h e.symm), if_pos rfl]
      · simp [hj]

def bsh (w : World) (b : Nat) : TypeId × Nat := match w.heap[b]? with | some (.cells c e _) => (e, c.size) | _ => (0, 0)
def OwnRep (w : World) (β : Bt) (id sz n : Nat) (v : Value) : Prop :=
  (v = .slice none 0 0 ∧ n = 0) ∨ ∃ g cap, β id = some g ∧ v = .slice (some ⟨g, 0, none⟩) n cap ∧ n ≤ cap ∧ cap ≤ topLen ∧ cap * sz = (bsh w g).2
def SubRep (β : Bt) (id off n : Nat) (v : Value) : Prop :=
  ∃ A cap, v = .slice A n cap ∧ n ≤ cap ∧ cap ≤ topLen ∧ (n = 0 ∨ ∃ g, β id = some g ∧ A = some ⟨g, off, none⟩)
def PtrRep (β : Bt) (id off : Nat) (v : Value) : Prop := ∃ g, β id = some g ∧ v = .pointer (some ⟨g, off, none⟩)
def RepCap (w : World) (ok : Nat → Prop) (β : Bt) : Cap → Value → Prop
  | .pv p, v => RepP w ok p v
  | .ptr id off, v => PtrRep β id off v
def RepC (w : World) (ok : Nat → Prop) (β : Bt) : AC → Value → Prop
  | .any, v => v.oneCell' = true
  | .ub, v => ∃ b, v = .bool b
  | .pv p, v => RepP w ok p v
  | .own id sz n, v => OwnRep w β id sz n v
  | .sub id _ off n, v => SubRep β id off n v
  | .ptr id off, v => PtrRep β id off v
  | .adr id T sz, v => ∃ g, β id = some g ∧ (v = .pointer none ∨ v = .pointer (some ⟨g, 0, none⟩)) ∧ bsh w g = (T, sz)
  | .clo f caps, v => ∃ vs, v = .func (.func f) #[] vs ∧ vs.size = caps.length ∧ ∀ (j : Nat) c, caps[j]? = some c → ∃ u : Value, vs[j]? = some u ∧ RepCap w ok β c u
def RepL (w : World) (ok : Nat → Prop) (β : Bt) (cs : List AC) (vs : Array Value) : Prop :=
  vs.size = cs.length ∧ ∀ (j : Nat) c, cs[j]? = some c → ∃ u : Value, vs[j]? = some u ∧ RepC w ok β c u
def RepE (w : World) (ok : Nat → Prop) (β : Bt) : Bool × List AC → Value → Prop
  | (true, cs), v => ∃ vs, v = .agg vs ∧ RepL w ok β cs vs
  | (false, cs), v => ∃ c, cs = [c] ∧ RepC w ok β c v
def RepV (w : World) (ok : Nat → Prop) (β : Bt) : AV → Value → Prop
  | .one c, v => RepC w ok β c v
  | .agg cs, v => ∃ vs, v = .agg vs ∧ RepL w ok β cs vs
  | .tup xs, v => ∃ vs, v = .tuple vs ∧ vs.size = xs.length ∧ ∀ (j : Nat) x, xs[j]? = some x → ∃ u : Value, vs[j]? = some u ∧ RepE w ok β x u
  | .bot, _ => True

def Cap.refs : Cap → List Nat
  | .pv _ => []
  | .ptr id _ => [id]
def AC.refs : AC → List Nat
  | .any | .ub | .pv _ => []
  | .own id _ _ | .sub id _ _ _ | .ptr id _ | .adr id _ _ => [id]
  | .clo _ caps => caps.flatMap Cap.refs
def acRefs (cs : List AC) : List Nat := cs.flatMap AC.refs
def AV.refs : AV → List Nat
  | .one c => c.refs
  | .agg cs => acRefs cs
  | .tup xs => xs.flatMap fun x => acRefs x.2
  | .bot => []

/-- Two worlds, the second of which reads as the first at all that the ids of a set stand for. -/
structure Keeps (S : Nat → Prop) (w : World) (ok : Nat → Prop) (β : Bt) (w' : World) (ok' : Nat → Prop) (β' : Bt) : Prop where
  blk : ∀ b, ok b → ok' b ∧ w'.heap[b]? = w.heap[b]?
  ids : ∀ id, S id → β' id = β id ∧ ∀ g, β id = some g → bsh w' g = bsh w g
section
variable {S : Nat → Prop} {w w' : World} {ok ok' : Nat → Prop} {β β' : Bt}
theorem Keeps.refl (w : World) (ok : Nat → Prop) (β : Bt) : Keeps S w ok β w ok β := ⟨fun _ h => ⟨h, rfl⟩, fun _ _ => ⟨rfl, fun _ _ => rfl⟩⟩
theorem Keeps.capRep (k : Keeps S w ok β w' ok' β') {c : Cap} {v : Value} (hc : ∀ id ∈ c.refs, S id) (h : RepCap w ok β c v) : RepCap w' ok' β' c v := by
  cases c with
  | pv p => exact RepP.mono k.blk h
  | ptr id off =>
    obtain ⟨g, hg, hv⟩ := h
    exact ⟨g, by rw [(k.ids id (hc id (by simp [Cap.refs]))).1]; exact hg, hv⟩
theorem Keeps.repC (k : Keeps S w ok β w' ok' β') {c : AC} {v : Value} (hc : ∀ id ∈ c.refs, S id) (h : RepC w ok β c v) : RepC w' ok' β' c v := by
  cases c with
  | any => exact h
  | ub => exact h
  | pv p => exact RepP.mono k.blk h
  | own id sz n =>
    have hk := k.ids id (hc id (by simp [AC.refs]))
    rcases h with h | ⟨g, cap, hg, hv, h1, h2, h3⟩
    · exact .inl h
    · exact .inr ⟨g, cap, by rw [hk.1]; exact hg, hv, h1, h2, by rw [hk.2 g hg]; exact h3⟩
  | sub id sz off n =>
    have hk := k.ids id (hc id (by simp [AC.refs]))
    obtain ⟨A, cap, hv, h1, h2, h3⟩ := h
    refine ⟨A, cap, hv, h1, h2, h3.imp (fun h => h) fun ⟨g, hg, e⟩ => ⟨g, by rw [hk.1]; exact hg, e⟩⟩
  | ptr id off =>
    obtain ⟨g, hg, hv⟩ := h
    exact ⟨g, by rw [(k.ids id (hc id (by simp [AC.refs]))).1]; exact hg, hv⟩
  | adr id T sz =>
    obtain ⟨g, hg, hv, hs⟩ := h
    have hk := k.ids id (hc id (by simp [AC.refs]))
    exact ⟨g, by rw [hk.1]; exact hg, hv, by rw [hk.2 g hg]; exact hs⟩
  | clo f caps =>
    obtain ⟨vs, hv, hs, h⟩ := h
    refine ⟨vs, hv, hs, fun j c hj => ?_⟩
    obtain ⟨u, hu, hr⟩ := h j c hj
    exact ⟨u, hu, k.capRep (fun id hid => hc id (List.mem_flatMap.2 ⟨c, List.mem_of_getElem? hj, hid⟩)) hr⟩
theorem Keeps.repL (k : Keeps S w ok β w' ok' β') {cs : List AC} {vs : Array Value} (hc : ∀ id ∈ acRefs cs, S id) (h : RepL w ok β cs vs) : RepL w' ok' β' cs vs :=
  ⟨h.1, fun j c hj => by
    obtain ⟨u, hu, hr⟩ := h.2 j c hj
    exact ⟨u, hu, k.repC (fun id hid => hc id (List.mem_flatMap.2 ⟨c, List.mem_of_getElem? hj, hid⟩)) hr⟩⟩
theorem Keeps.repE (k : Keeps S w ok β w' ok' β') {x : Bool × List AC} {v : Value} (hc : ∀ id ∈ acRefs x.2, S id) (h : RepE w ok β x v) : RepE w' ok' β' x v := by
  obtain ⟨b, cs⟩ := x
  cases b with
  | true =>
    obtain ⟨vs, hv, hl⟩ := h
    exact ⟨vs, hv, k.repL hc hl⟩
  | false =>
    obtain ⟨c, rfl, hr⟩ := h
    exact ⟨c, rfl, k.repC (fun id hid => hc id (by simpa [acRefs] using hid)) hr⟩
theorem Keeps.repV (k : Keeps S w ok β w' ok' β') {y : AV} {v : Value} (hc : ∀ id ∈ y.refs, S id) (h : RepV w ok β y v) : RepV w' ok' β' y v := by
  cases y with
  | one c => exact k.repC hc h
  | agg cs =>
    obtain ⟨vs, hv, hl⟩ := h
    exact ⟨vs, hv, k.repL hc hl⟩
  | tup xs =>
    obtain ⟨vs, hv, hs, h⟩ := h
    refine ⟨vs, hv, hs, fun j x hj => ?_⟩
    obtain ⟨u, hu, hr⟩ := h j x hj
    exact ⟨u, hu, k.repE (fun id hid => hc id (List.mem_flatMap.2 ⟨x, List.mem_of_getElem? hj, hid⟩)) hr⟩
  | bot => trivial
theorem RepC.oneCell {c : AC} {v : Value} (h : RepC w ok β c v) : v.oneCell' = true := by
  cases c with
  | any => exact h
  | ub => obtain ⟨b, rfl⟩ := h; rfl
  | pv p => exact RepP.oneCell h
  | own id sz n => rcases h with ⟨rfl, _⟩ | ⟨g, cap, _, rfl, _⟩ <;> rfl
  | sub id sz off n => obtain ⟨A, cap, rfl, _⟩ := h; rfl
  | ptr id off => obtain ⟨g, _, rfl⟩ := h; rfl
  | adr id T sz => obtain ⟨g, _, rfl | rfl, _⟩ := h <;> rfl
  | clo f caps => obtain ⟨vs, rfl, _⟩ := h; rfl
end

/-- What was there is as it was, but for some blocks; the streams are as they were; no block has gone. -/
structure BelowM (m : Nat → Prop) (w w' : World) : Prop where
  os : w'.os = w.os
  tape : w'.tape = w.tape
  output : w'.output = w.output
  size : w.heap.size ≤ w'.heap.size
  block : ∀ k, k < w.heap.size → ¬ m k → w'.heap[k]? = w.heap[k]?
theorem BelowM.refl (m : Nat → Prop) (w : World) : BelowM m w w := ⟨rfl, rfl, rfl, Nat.le_refl _, fun _ _ _ => rfl⟩
theorem BelowM.comp {m m2 : Nat → Prop} {a b c : World} (h : BelowM m a b) (k : BelowM m2 b c) (hm : ∀ k, m2 k → a.heap.size ≤ k ∨ m k) : BelowM m a c :=
  ⟨k.os.trans h.os, k.tape.trans h.tape, k.output.trans h.output, Nat.le_trans h.size k.size, fun i hi hn => (k.block i (Nat.lt_of_lt_of_le hi h.size) fun h2 => by
    rcases hm i h2 with h3 | h3
    · omega
    · exact hn h3).trans (h.block i hi hn)⟩
theorem BelowM.of {w w' : World} (b : Below w.heap.size w w') : BelowM (fun _ => False) w w' := ⟨b.os, b.tape, b.output, b.size, fun k hk _ => b.block k hk⟩
theorem BelowM.then {m : Nat → Prop} {a b c : World} (h : BelowM m a b) (k : Below b.heap.size b c) : BelowM m a c := h.comp (.of k) fun _ h => h.elim
theorem BelowM.row {m : Nat → Prop} {a w : World} (h : BelowM m a w) {g : Nat} (hg : a.heap.size ≤ g ∨ m g) (cs : Array Value) : BelowM m a (w.setRow g cs) :=
  h.comp (m2 := fun k => k = g) ⟨rfl, rfl, rfl, by simp, fun k hk hn => setRow_other w g k cs hn⟩ fun k hk => by rw [hk]; exact hg
theorem BelowM.grown {m : Nat → Prop} {a w w' : World} {row : Option Nat} (h : BelowM m a w) (hg : w.grownBy w' row) (hr : ∀ k, row = some k → a.heap.size ≤ k ∨ m k) : BelowM m a w' :=
  h.comp (m2 := fun k => row = some k) ⟨hg.os, hg.tape, hg.output, hg.size, fun k hk hn => hg.block k hk (fun e => hn e.symm)⟩ fun k hk => hr k hk

/-- What a program's texts need beside its code: a fact on the world that all keeps that leaves the blocks below nb as they were. -/
structure Ctx where
  P : Program
  G : World → Prop
  nb : Nat
  hN : ∀ w : World, G w → nb ≤ w.heap.size
  hG : ∀ (w w' : World) (m : Nat → Prop), G w → (∀ b, m b → nb ≤ b) → BelowM m w w' → G w'
  mixed : P.follows .mixedOrders = true
/-- A frame: the world when it began, which of the old blocks its arguments lie in, which were handed over to it, and where the ids from 1000 on stand. -/
structure Fr where
  w0 : World
  ok0 : Nat → Prop
  mine : Nat → Prop
  pin : Bt
def Fr.own (F : Fr) (g : Nat) : Prop := F.w0.heap.size ≤ g ∨ F.mine g
def Fr.ok (F : Fr) (w : World) (h : Hp) (β : Bt) : Nat → Prop := fun b =>
  b < w.heap.size ∧ (b < F.w0.heap.size → F.ok0 b ∨ F.mine b) ∧ ∀ id bx, look h id = some (bx, false) → β id ≠ some b
def BoxRep (B : Nat → Prop) (w : World) (ok : Nat → Prop) (β : Bt) (id : Nat) (bx : Bx) : Prop :=
  match β id with
  | none => bx.cells = []
  | some g => B g ∧ ∃ arr e, w.heap[g]? = some (.cells arr e (0, 0)) ∧ (∀ e' l, bx = .pu e' l → e' = e) ∧ ∀ (j : Nat) c, bx.cells[j]? = some c → ∃ u : Value, arr[j]? = some u ∧ RepC w ok β c u
/-- The ids from 1000 on stay where they stood. -/
def PinOk (F : Fr) (h : Hp) (β : Bt) (w : World) : Prop :=
  ∀ id, 1000 ≤ id → β id = F.pin id ∧ ∀ g, F.pin id = some g → g < F.w0.heap.size ∧ bsh w g = bsh F.w0 g ∧ ∀ i e, look h i = some e → i ≠ id → β i ≠ some g
structure HRel (X : Ctx) (F : Fr) (h : Hp) (β : Bt) (w : World) : Prop where
  below : BelowM F.mine F.w0 w
  g : X.G F.w0 ∧ ∀ b, F.mine b → X.nb ≤ b
  box : ∀ id bx z, look h id = some (bx, z) → BoxRep F.own w (F.ok w h β) β id bx
  inj : ∀ id id' e e' g, id ≠ id' → look h id = some e → look h id' = some e' → β id = some g → β id' ≠ some g
  wf : ∀ id bx z, look h id = some (bx, z) → ∀ i ∈ acRefs bx.cells, (look h i).isSome = true
  pin : PinOk F h β w
theorem HRel.gw {X : Ctx} {F : Fr} {h : Hp} {β : Bt} {w : World} (r : HRel X F h β w) : X.G w := X.hG _ _ _ r.g.1 r.g.2 r.below
theorem HRel.size {X : Ctx} {F : Fr} {h : Hp} {β : Bt} {w : World} (r : HRel X F h β w) : F.w0.heap.size ≤ w.heap.size := r.below.size
theorem PinOk.sub {F : Fr} {h h' : Hp} {β : Bt} {w : World} (p : PinOk F h β w) (hs : ∀ i e, look h' i = some e → ∃ e', look h i = some e') : PinOk F h' β w := fun id hid =>
  ⟨(p id hid).1, fun g hg => ⟨((p id hid).2 g hg).1, ((p id hid).2 g hg).2.1, fun i e hl => by
    obtain ⟨e', he⟩ := hs i e hl
    exact ((p id hid).2 g hg).2.2 i e' he⟩⟩
theorem PinOk.world {F : Fr} {h : Hp} {β : Bt} {w w' : World} (p : PinOk F h β w) (hs : ∀ id g, 1000 ≤ id → F.pin id = some g → bsh w' g = bsh w g) : PinOk F h β w' := fun id hid =>
  ⟨(p id hid).1, fun g hg => ⟨((p id hid).2 g hg).1, (hs id g hid hg).trans ((p id hid).2 g hg).2.1, ((p id hid).2 g hg).2.2⟩⟩
end Go.VL


namespace Go.VL
open Go.RowKit
set_option linter.unusedVariables false
section
variable {X : Ctx} {F : Fr} {h : Hp} {β : Bt} {w w' : World}

theorem BoxRep.keeps {B : Nat → Prop} {S : Nat → Prop} {w w' : World} {ok ok' : Nat → Prop} {β β' : Bt} {id : Nat} {bx : Bx} (k : Keeps S w ok β w' ok' β') (hb : β' id = β id) (hg : ∀ g, β id = some g → w'.heap[g]? = w.heap[g]?)
    (hc : ∀ i ∈ acRefs bx.cells, S i) (r : BoxRep B w ok β id bx) : BoxRep B w' ok' β' id bx := by
  unfold BoxRep at *
  rw [hb]
  cases hβ : β id with
  | none => rw [hβ] at r; exact r
  | some g =>
    rw [hβ] at r
    obtain ⟨h1, arr, e, h2, h3, h4⟩ := r
    refine ⟨h1, arr, e, by rw [hg g hβ]; exact h2, h3, fun j c hj => ?_⟩
    obtain ⟨u, hu, hr⟩ := h4 j c hj
    exact ⟨u, hu, k.repC (fun i hi => hc i (List.mem_flatMap.2 ⟨c, List.mem_of_getElem? hj, hi⟩)) hr⟩
theorem HRel.lt (r : HRel X F h β w) {id g : Nat} {e : Bx × Bool} (hl : look h id = some e) (hb : β id = some g) : g < w.heap.size ∧ F.own g := by
  obtain ⟨bx, z⟩ := e
  have := r.box id bx z hl
  unfold BoxRep at this
  rw [hb] at this
  obtain ⟨h1, arr, e, h2, _⟩ := this
  exact ⟨(Array.getElem?_eq_some_iff.1 h2).1, h1⟩
theorem isSome_of {α : Type} {o : Option α} {x : α} (h : o = some x) : o.isSome = true := by rw [h]; rfl
/-- A world that holds all that was there, and more. -/
theorem HRel.keeps_ext (r : HRel X F h β w) (b : Below w.heap.size w w') : Keeps (fun id => (look h id).isSome = true) w (F.ok w h β) β w' (F.ok w' h β) β :=
  ⟨fun k hk => ⟨⟨Nat.lt_of_lt_of_le hk.1 b.size, hk.2⟩, b.block k hk.1⟩, fun id hid => ⟨rfl, fun g hg => by
    obtain ⟨e, he⟩ := Option.isSome_iff_exists.1 hid
    unfold bsh
    rw [b.block g (r.lt he hg).1]⟩⟩
theorem HRel.ext (r : HRel X F h β w) (b : Below w.heap.size w w') : HRel X F h β w' where
  below := r.below.then b
  g := r.g
  box := fun id bx z hl => (r.box id bx z hl).keeps (r.keeps_ext b) rfl (fun g hg => b.block g (r.lt hl hg).1) (fun i hi => r.wf id bx z hl i hi)
  inj := r.inj
  wf := r.wf
  pin := r.pin.world fun id g hid hg => by
    have := ((r.pin id hid).2 g hg).1
    have := r.size
    unfold bsh
    rw [b.block g (by omega)]
/-- A draw. -/
theorem HRel.drew (r : HRel X F h β w) (n : Nat) : HRel X F h β (w.drewN n) := r.ext ⟨rfl, rfl, rfl, Nat.le_refl _, fun _ _ => rfl⟩

def upd1 (β : Bt) (id : Nat) (g : Option Nat) : Bt := fun i => if i = id then g else β i
/-- A new box: a new block. -/
theorem HRel.ok_add (r : HRel X F h β w) {id : Nat} {bx : Bx} {o : Obj} (hn : look h id = none) {b : Nat} (hb : F.ok w h β b) : F.ok (w.alloc o) (put h id (bx, false)) (upd1 β id (some w.heap.size)) b := by
  refine ⟨by have := hb.1; simp; omega, hb.2.1, fun i bx' hl e => ?_⟩
  rw [look_put] at hl
  unfold upd1 at e
  by_cases hi : i = id
  · subst hi
    simp at e
    have := hb.1
    omega
  · rw [if_neg hi] at hl e
    exact hb.2.2 i bx' hl e
theorem HRel.keeps_add (r : HRel X F h β w) {id : Nat} {bx : Bx} {o : Obj} (hn : look h id = none) :
    Keeps (fun id => (look h id).isSome = true) w (F.ok w h β) β (w.alloc o) (F.ok (w.alloc o) (put h id (bx, false)) (upd1 β id (some w.heap.size))) (upd1 β id (some w.heap.size)) :=
  ⟨fun k hk => ⟨r.ok_add hn hk, heap_alloc_old w o k hk.1⟩, fun i hi => by
    have hne : i ≠ id := fun e => by subst e; rw [hn] at hi; cases hi
    refine ⟨by simp [upd1, hne], fun g hg => ?_⟩
    obtain ⟨e, he⟩ := Option.isSome_iff_exists.1 hi
    unfold bsh
    rw [heap_alloc_old w o g (r.lt he hg).1]⟩
theorem PinOk.upd {id : Nat} {b : Bx × Bool} {o : Option Nat} (p : PinOk F h β w) (hid : id < 1000) (ho : ∀ i g, 1000 ≤ i → F.pin i = some g → o ≠ some g) : PinOk F (put h id b) (upd1 β id o) w := fun i hi =>
  ⟨by unfold upd1; rw [if_neg (by omega)]; exact (p i hi).1, fun g hg => ⟨((p i hi).2 g hg).1, ((p i hi).2 g hg).2.1, fun j e hl hne => by
    unfold upd1
    rw [look_put] at hl
    by_cases hj : j = id
    · rw [if_pos hj]; exact ho i g hi hg
    · rw [if_neg hj] at hl ⊢; exact ((p i hi).2 g hg).2.2 j e hl hne⟩⟩
theorem HRel.add (r : HRel X F h β w) {id : Nat} {bx : Bx} {arr : Array Value} {e : TypeId} (hn : look h id = none) (hid : id < 1000) (he : ∀ e' l, bx = .pu e' l → e' = e)
    (hc : ∀ (j : Nat) c, bx.cells[j]? = some c → ∃ u : Value, arr[j]? = some u ∧ RepC w (F.ok w h β) β c u) (hw : ∀ i ∈ acRefs bx.cells, (look h i).isSome = true) :
    HRel X F (put h id (bx, false)) (upd1 β id (some w.heap.size)) (w.alloc (.cells arr e)) := by
  have hb : Below w.heap.size w (w.alloc (.cells arr e)) := (Below.refl _ _).alloc (Nat.le_refl _) _
  have k := r.keeps_add (bx := bx) (o := .cells arr e) hn
  refine ⟨r.below.then hb, r.g, fun i bx' z hl => ?_, fun i i' e1 e2 g hne h1 h2 b1 b2 => ?_, fun i bx' z hl j hj => ?_, (r.ext hb).pin.upd hid fun i g hi hg e => by
    have := ((r.pin i hi).2 g hg).1
    have := r.size
    simp at e; omega⟩
  · rw [look_put] at hl
    by_cases hi : i = id
    · subst hi
      rw [if_pos rfl] at hl
      simp only [Option.some.injEq, Prod.mk.injEq] at hl
      obtain ⟨rfl, rfl⟩ := hl
      unfold BoxRep
      rw [show upd1 β i (some w.heap.size) i = some w.heap.size by simp [upd1]]
      refine ⟨.inl r.size, arr, e, heap_alloc_new w _, he, fun j c hj => ?_⟩
      obtain ⟨u, hu, hr⟩ := hc j c hj
      exact ⟨u, hu, k.repC (fun i hi => hw i (List.mem_flatMap.2 ⟨c, List.mem_of_getElem? hj, hi⟩)) hr⟩
    · rw [if_neg hi] at hl
      exact (r.box i bx' z hl).keeps k (by simp [upd1, hi]) (fun g hg => heap_alloc_old w _ g (r.lt hl hg).1) (fun j hj => r.wf i bx' z hl j hj)
  · rw [look_put] at h1 h2
    unfold upd1 at b1 b2
    by_cases hi : i = id
    · have hi' : i' ≠ id := fun e => hne (hi.trans e.symm)
      rw [if_pos hi] at b1
      rw [if_neg hi'] at h2 b2
      have := (r.lt h2 b2).1
      simp at b1
      omega
    · rw [if_neg hi] at h1 b1
      by_cases hi' : i' = id
      · rw [if_pos hi'] at b2
        have := (r.lt h1 b1).1
        simp at b2
        omega
      · rw [if_neg hi'] at h2 b2
        exact r.inj i i' e1 e2 g hne h1 h2 b1 b2
  · rw [look_put] at hl ⊢
    by_cases hj2 : j = id
    · simp [hj2]
    · rw [if_neg hj2]
      by_cases hi : i = id
      · rw [if_pos hi] at hl
        simp only [Option.some.injEq, Prod.mk.injEq] at hl
        obtain ⟨rfl, rfl⟩ := hl
        exact hw j hj
      · rw [if_neg hi] at hl
        exact r.wf i bx' z hl j hj

/-- A box that is written no more. -/
def frz (h : Hp) (id : Nat) : Hp := match look h id with | some (bx, _) => put h id (bx, true) | none => h
theorem look_frz (h : Hp) (id i : Nat) : look (frz h id) i = if i = id then (look h i).map (fun e => (e.1, true)) else look h i := by
  unfold frz
  cases hl : look h id with
  | none =>
    by_cases hi : i = id
    · subst hi; simp [hl]
    · simp [hi]
  | some e =>
    obtain ⟨bx, z⟩ := e
    simp only [look_put]
    by_cases hi : i = id
    · subst hi; simp [hl]
    · simp [hi]
theorem look_frz_some {h : Hp} {id i : Nat} {bx : Bx} {z : Bool} (hl : look (frz h id) i = some (bx, z)) : ∃ z', look h i = some (bx, z') ∧ (z = false → z' = false ∧ i ≠ id) := by
  rw [look_frz] at hl
  by_cases hi : i = id
  · rw [if_pos hi] at hl
    cases hh : look h i with
    | none => rw [hh] at hl; cases hl
    | some e =>
      rw [hh] at hl
      simp only [Option.map_some, Option.some.injEq, Prod.mk.injEq] at hl
      obtain ⟨rfl, rfl⟩ := hl
      exact ⟨e.2, rfl, fun h => by cases h⟩
  · rw [if_neg hi] at hl
    exact ⟨z, hl, fun hz => ⟨hz, hi⟩⟩
theorem isSome_frz (h : Hp) (id i : Nat) : (look (frz h id) i).isSome = (look h i).isSome := by
  rw [look_frz]
  split <;> simp
theorem ok_frz {id b : Nat} (hb : F.ok w h β b) : F.ok w (frz h id) β b := ⟨hb.1, hb.2.1, fun i bx hl => by
  obtain ⟨z', h1, h2⟩ := look_frz_some hl
  rw [(h2 rfl).1] at h1
  exact hb.2.2 i bx h1⟩
theorem keeps_frz (id : Nat) (S : Nat → Prop) : Keeps S w (F.ok w h β) β w (F.ok w (frz h id) β) β := ⟨fun b hb => ⟨ok_frz hb, rfl⟩, fun _ _ => ⟨rfl, fun _ _ => rfl⟩⟩
theorem HRel.frz (r : HRel X F h β w) (id : Nat) : HRel X F (frz h id) β w where
  below := r.below
  g := r.g
  box := fun i bx z hl => by
    obtain ⟨z', h1, _⟩ := look_frz_some hl
    exact (r.box i bx z' h1).keeps (keeps_frz id (fun _ => True)) rfl (fun _ _ => rfl) (fun _ _ => trivial)
  inj := fun i i' e1 e2 g hne h1 h2 => by
    obtain ⟨b1, z1⟩ := e1; obtain ⟨b2, z2⟩ := e2
    obtain ⟨_, h1', _⟩ := look_frz_some h1
    obtain ⟨_, h2', _⟩ := look_frz_some h2
    exact r.inj i i' _ _ g hne h1' h2'
  wf := fun i bx z hl j hj => by
    obtain ⟨z', h1, _⟩ := look_frz_some hl
    rw [isSome_frz]
    exact r.wf i bx z' h1 j hj
  pin := r.pin.sub fun i e hl => by
    obtain ⟨bx, z⟩ := e
    obtain ⟨z', h1, _⟩ := look_frz_some hl
    exact ⟨_, h1⟩
end
end Go.VL


namespace Go.VL
open Go.RowKit
set_option linter.unusedVariables false
section
variable {X : Ctx} {F : Fr} {h : Hp} {β : Bt} {w w' : World}

theorem ok_put {id b : Nat} {bx bx' : Bx} {cs : Array Value} {g : Nat} (hl : look h id = some (bx, false)) (hb : F.ok w h β b) : F.ok (w.setRow g cs) (put h id (bx', false)) β b :=
  ⟨by rw [size_setRow]; exact hb.1, hb.2.1, fun i bx2 h2 => by
    rw [look_put] at h2
    by_cases hi : i = id
    · subst hi; exact hb.2.2 i bx hl
    · rw [if_neg hi] at h2; exact hb.2.2 i bx2 h2⟩
/-- A store into an own box that is not frozen. -/
theorem HRel.set_keeps (r : HRel X F h β w) {id g : Nat} {bx bx' : Bx} {arr arr' : Array Value} {e : TypeId} (hl : look h id = some (bx, false)) (hg : β id = some g) (ha : w.heap[g]? = some (.cells arr e (0, 0))) (hs : arr'.size = arr.size) :
    Keeps (fun id => (look h id).isSome = true) w (F.ok w h β) β (w.setRow g arr') (F.ok (w.setRow g arr') (put h id (bx', false)) β) β :=
  ⟨fun b hb => ⟨ok_put hl hb, setRow_other w g b arr' (fun e => by subst e; exact hb.2.2 id bx hl hg)⟩, fun i hi => ⟨rfl, fun g' hg' => by
    unfold bsh
    by_cases he : g' = g
    · subst he
      rw [setRow_heap w g' arr arr' e (0, 0) ha, ha]
      exact congrArg (Prod.mk e) hs
    · rw [setRow_other w g g' arr' he]⟩⟩
theorem HRel.set (r : HRel X F h β w) {id g : Nat} {bx bx' : Bx} {arr arr' : Array Value} {e : TypeId} (hl : look h id = some (bx, false)) (hg : β id = some g) (ha : w.heap[g]? = some (.cells arr e (0, 0))) (hs : arr'.size = arr.size)
    (he : ∀ e' l, bx' = .pu e' l → e' = e) (hc : ∀ (j : Nat) c, bx'.cells[j]? = some c → ∃ u : Value, arr'[j]? = some u ∧ RepC w (F.ok w h β) β c u) (hw : ∀ i ∈ acRefs bx'.cells, (look h i).isSome = true) :
    HRel X F (put h id (bx', false)) β (w.setRow g arr') := by
  have k := r.set_keeps (bx' := bx') hl hg ha hs
  have hB := (r.lt hl hg).2
  refine ⟨r.below.row hB arr', r.g, fun i bx2 z h2 => ?_, fun i i' e1 e2 g1 hne h1 h2 b1 b2 => ?_, fun i bx2 z h2 j hj => ?_, (r.pin.world fun i g' hi hg' => ?_).sub fun i e hl' => ?_⟩
  · rw [look_put] at h2
    by_cases hi : i = id
    · subst hi
      rw [if_pos rfl] at h2
      simp only [Option.some.injEq, Prod.mk.injEq] at h2
      obtain ⟨rfl, rfl⟩ := h2
      unfold BoxRep
      rw [hg]
      refine ⟨hB, arr', e, setRow_heap w g arr arr' e (0, 0) ha, he, fun j c hj => ?_⟩
      obtain ⟨u, hu, hr⟩ := hc j c hj
      exact ⟨u, hu, k.repC (fun i hi => hw i (List.mem_flatMap.2 ⟨c, List.mem_of_getElem? hj, hi⟩)) hr⟩
    · rw [if_neg hi] at h2
      exact (r.box i bx2 z h2).keeps k rfl (fun g' hg' => setRow_other w g g' arr' (fun e => by subst e; exact r.inj i id _ _ g' hi h2 hl hg' hg)) (fun j hj => r.wf i bx2 z h2 j hj)
  · rw [look_put] at h1 h2
    have f1 : ∃ e, look h i = some e := by
      by_cases hi : i = id
      · exact ⟨_, hi ▸ hl⟩
      · rw [if_neg hi] at h1; exact ⟨_, h1⟩
    have f2 : ∃ e, look h i' = some e := by
      by_cases hi : i' = id
      · exact ⟨_, hi ▸ hl⟩
      · rw [if_neg hi] at h2; exact ⟨_, h2⟩
    obtain ⟨_, f1⟩ := f1; obtain ⟨_, f2⟩ := f2
    exact r.inj i i' _ _ g1 hne f1 f2 b1 b2
  · rw [look_put] at h2 ⊢
    by_cases hj2 : j = id
    · simp [hj2]
    · rw [if_neg hj2]
      by_cases hi : i = id
      · rw [if_pos hi] at h2
        simp only [Option.some.injEq, Prod.mk.injEq] at h2
        obtain ⟨rfl, rfl⟩ := h2
        exact hw j hj
      · rw [if_neg hi] at h2
        exact r.wf i bx2 z h2 j hj
  · unfold bsh
    by_cases he' : g' = g
    · subst he'
      rw [setRow_heap w g' arr arr' e (0, 0) ha, ha]
      exact congrArg (Prod.mk e) hs
    · rw [setRow_other w g g' arr' he']
  · rw [look_put] at hl'
    by_cases hi : i = id
    · exact ⟨_, hi ▸ hl⟩
    · rw [if_neg hi] at hl'; exact ⟨_, hl'⟩
/-- What stands for an id that has moved is told no more. -/
def AC.scrub (m : Nat) (c : AC) : AC := if c.refs.contains m then .any else c
def Bx.scrub (m : Nat) : Bx → Bx
  | .pu e l => .pu e l
  | .mx l => .mx (l.map (AC.scrub m))
def scrubH (m : Nat) : Hp → Hp
  | [] => []
  | (k, (bx, z)) :: h => (k, (bx.scrub m, z)) :: scrubH m h
theorem look_scrubH (m i : Nat) : ∀ h : Hp, look (scrubH m h) i = (look h i).map fun e => (e.1.scrub m, e.2)
  | [] => rfl
  | (k, (bx, z)) :: h => by
    simp only [scrubH, look]
    split
    · rfl
    · exact look_scrubH m i h
theorem AC.scrub_refs {m : Nat} {c : AC} {i : Nat} (hi : i ∈ (c.scrub m).refs) : i ∈ c.refs ∧ i ≠ m := by
  unfold AC.scrub at hi
  split at hi
  · cases hi
  · rename_i hc
    exact ⟨hi, fun e => by subst e; exact hc (by simpa using hi)⟩
theorem RepC.scrub {w : World} {ok : Nat → Prop} {β : Bt} {c : AC} {v : Value} (m : Nat) (h : RepC w ok β c v) : RepC w ok β (c.scrub m) v := by
  unfold AC.scrub
  split
  · exact h.oneCell
  · exact h
theorem Bx.scrub_cells (m : Nat) (bx : Bx) : (bx.scrub m).cells = bx.cells.map (AC.scrub m) := by
  cases bx with
  | mx l => rfl
  | pu e l =>
    simp only [Bx.scrub, Bx.cells, List.map_map]
    exact List.map_congr_left fun p _ => by simp [AC.scrub, AC.refs]
theorem acRefs_scrub {m i : Nat} {cs : List AC} (hi : i ∈ acRefs (cs.map (AC.scrub m))) : i ∈ acRefs cs ∧ i ≠ m := by
  unfold acRefs at hi
  rw [List.mem_flatMap] at hi
  obtain ⟨c, hc, hi⟩ := hi
  obtain ⟨c0, h0, rfl⟩ := List.mem_map.1 hc
  have := AC.scrub_refs hi
  exact ⟨List.mem_flatMap.2 ⟨c0, h0, this.1⟩, this.2⟩
theorem BoxRep.scrub {B : Nat → Prop} {w : World} {ok : Nat → Prop} {β : Bt} {id : Nat} {bx : Bx} (m : Nat) (r : BoxRep B w ok β id bx) : BoxRep B w ok β id (bx.scrub m) := by
  unfold BoxRep at *
  split
  · rename_i hn
    rw [hn] at r
    simp only at r
    rw [Bx.scrub_cells, r]; rfl
  · rename_i g hg
    rw [hg] at r
    obtain ⟨h1, arr, e, h2, h3, h4⟩ := r
    refine ⟨h1, arr, e, h2, fun e' l he => ?_, fun j c hj => ?_⟩
    · cases bx with
      | pu e0 l0 => simp only [Bx.scrub, Bx.pu.injEq] at he; obtain ⟨rfl, rfl⟩ := he; exact h3 _ _ rfl
      | mx l0 => simp [Bx.scrub] at he
    · rw [Bx.scrub_cells, List.getElem?_map] at hj
      cases hc : bx.cells[j]? with
      | none => rw [hc] at hj; cases hj
      | some c0 =>
        rw [hc] at hj
        simp only [Option.map_some, Option.some.injEq] at hj
        subst hj
        obtain ⟨u, hu, hr⟩ := h4 j c0 hc
        exact ⟨u, hu, hr.scrub m⟩

theorem ok_move (r : HRel X F h β w) {id g' b : Nat} {bx bx' : Bx} {row : Option Nat} (hl : look h id = some (bx, false)) (hgr : w.grownBy w' row) (hrow : ∀ k, row = some k → β id = some k) (hg' : β id = some g' ∨ g' = w.heap.size)
    (hb : F.ok w h β b) : F.ok w' (put (scrubH id h) id (bx', false)) (upd1 β id (some g')) b ∧ w'.heap[b]? = w.heap[b]? := by
  have hne : β id ≠ some b := hb.2.2 id bx hl
  refine ⟨⟨Nat.lt_of_lt_of_le hb.1 hgr.size, hb.2.1, fun i bx2 h2 e => ?_⟩, hgr.block b hb.1 fun e => hne (hrow b e.symm)⟩
  rw [look_put, look_scrubH] at h2
  unfold upd1 at e
  by_cases hi : i = id
  · rw [if_pos hi] at e
    simp only [Option.some.injEq] at e
    subst e
    rcases hg' with hg' | hg'
    · exact hne hg'
    · have := hb.1; omega
  · rw [if_neg hi] at h2 e
    cases hh : look h i with
    | none => rw [hh] at h2; cases h2
    | some x =>
      rw [hh] at h2
      simp only [Option.map_some, Option.some.injEq, Prod.mk.injEq] at h2
      obtain ⟨bx0, z0⟩ := x
      simp only at h2
      obtain ⟨_, rfl⟩ := h2
      exact hb.2.2 i bx0 hh e
theorem HRel.move_keeps (r : HRel X F h β w) {id g' : Nat} {bx bx' : Bx} {row : Option Nat} (hl : look h id = some (bx, false)) (hgr : w.grownBy w' row) (hrow : ∀ k, row = some k → β id = some k) (hg' : β id = some g' ∨ g' = w.heap.size) :
    Keeps (fun i => (look h i).isSome = true ∧ some id ≠ some i) w (F.ok w h β) β w' (F.ok w' (put (scrubH id h) id (bx', false)) (upd1 β id (some g'))) (upd1 β id (some g')) :=
  ⟨fun b hb => ok_move r hl hgr hrow hg' hb, fun i hi => by
    have hne : i ≠ id := fun e => hi.2 (by rw [e])
    refine ⟨by simp [upd1, hne], fun g hg => ?_⟩
    obtain ⟨e, he⟩ := Option.isSome_iff_exists.1 hi.1
    unfold bsh
    rw [hgr.block g (r.lt he hg).1 fun e' => r.inj i id _ _ g hne he hl hg (hrow g e'.symm)]⟩
theorem HRel.move (r : HRel X F h β w) {id g' : Nat} {bx bx' : Bx} {row : Option Nat} {arr' : Array Value} {e : TypeId} (hid : id < 1000) (hl : look h id = some (bx, false)) (hgr : w.grownBy w' row) (hrow : ∀ k, row = some k → β id = some k) (hg' : β id = some g' ∨ g' = w.heap.size)
    (ha : w'.heap[g']? = some (.cells arr' e (0, 0))) (he : ∀ e' l, bx' = .pu e' l → e' = e) (hc : ∀ (j : Nat) c, bx'.cells[j]? = some c → ∃ u : Value, arr'[j]? = some u ∧ RepC w (F.ok w h β) β c u)
    (hw : ∀ i ∈ acRefs bx'.cells, (look h i).isSome = true ∧ i ≠ id) : HRel X F (put (scrubH id h) id (bx', false)) (upd1 β id (some g')) w' := by
  have k := r.move_keeps (bx' := bx') hl hgr hrow hg'
  have ls : ∀ {i e2}, look (put (scrubH id h) id (bx', false)) i = some e2 → ∃ e3, look h i = some e3 := fun {i e2} h2 => by
    rw [look_put, look_scrubH] at h2
    by_cases hi : i = id
    · exact ⟨_, hi ▸ hl⟩
    · rw [if_neg hi] at h2
      cases hh : look h i with
      | none => rw [hh] at h2; cases h2
      | some x => exact ⟨_, rfl⟩
  refine ⟨r.below.grown hgr fun k hk => (r.lt hl (hrow k hk)).2, r.g, fun i bx2 z h2 => ?_, fun i i' e1 e2 g1 hne h1 h2 b1 b2 => ?_, fun i bx2 z h2 j hj => ?_, ?_⟩
  · rw [look_put, look_scrubH] at h2
    by_cases hi : i = id
    · subst hi
      rw [if_pos rfl] at h2
      simp only [Option.some.injEq, Prod.mk.injEq] at h2
      obtain ⟨rfl, rfl⟩ := h2
      unfold BoxRep
      rw [show upd1 β i (some g') i = some g' by simp [upd1]]
      refine ⟨?_, arr', e, ha, he, fun j c hj => ?_⟩
      · rcases hg' with hg' | hg'
        · exact (r.lt hl hg').2
        · exact .inl (by have := r.size; omega)
      · obtain ⟨u, hu, hr⟩ := hc j c hj
        exact ⟨u, hu, k.repC (fun i hi => by
          have := hw i (List.mem_flatMap.2 ⟨c, List.mem_of_getElem? hj, hi⟩)
          exact ⟨this.1, fun e => this.2 (by simpa using e.symm)⟩) hr⟩
    · rw [if_neg hi] at h2
      cases hh : look h i with
      | none => rw [hh] at h2; cases h2
      | some x =>
        obtain ⟨bx0, z0⟩ := x
        rw [hh] at h2
        simp only [Option.map_some, Option.some.injEq, Prod.mk.injEq] at h2
        obtain ⟨rfl, rfl⟩ := h2
        refine ((r.box i bx0 z0 hh).scrub id).keeps k (by simp [upd1, hi]) (fun g' hg => hgr.block g' (r.lt hh hg).1 fun e' => r.inj i id _ _ g' hi hh hl hg (hrow g' e'.symm)) fun j hj => ?_
        rw [Bx.scrub_cells] at hj
        have := acRefs_scrub hj
        exact ⟨r.wf i bx0 z0 hh j this.1, fun e => this.2 (by simpa using e.symm)⟩
  · obtain ⟨_, f1⟩ := ls h1
    obtain ⟨_, f2⟩ := ls h2
    unfold upd1 at b1 b2
    by_cases hi : i = id
    · have hi' : i' ≠ id := fun e => hne (hi.trans e.symm)
      rw [if_pos hi] at b1
      rw [if_neg hi'] at b2
      simp only [Option.some.injEq] at b1
      subst b1
      rcases hg' with hg' | hg'
      · exact r.inj i' id _ _ _ hi' f2 hl b2 hg'
      · have := (r.lt f2 b2).1; omega
    · rw [if_neg hi] at b1
      by_cases hi' : i' = id
      · rw [if_pos hi'] at b2
        simp only [Option.some.injEq] at b2
        subst b2
        rcases hg' with hg' | hg'
        · exact r.inj i id _ _ _ hi f1 hl b1 hg'
        · have := (r.lt f1 b1).1; omega
      · rw [if_neg hi'] at b2
        exact r.inj i i' _ _ g1 hne f1 f2 b1 b2
  · rw [look_put]
    by_cases hj2 : j = id
    · simp [hj2]
    · rw [if_neg hj2, look_scrubH]
      rw [look_put, look_scrubH] at h2
      by_cases hi : i = id
      · rw [if_pos hi] at h2
        simp only [Option.some.injEq, Prod.mk.injEq] at h2
        obtain ⟨rfl, rfl⟩ := h2
        simpa using (hw j hj).1
      · rw [if_neg hi] at h2
        cases hh : look h i with
        | none => rw [hh] at h2; cases h2
        | some x =>
          obtain ⟨bx0, z0⟩ := x
          rw [hh] at h2
          simp only [Option.map_some, Option.some.injEq, Prod.mk.injEq] at h2
          obtain ⟨rfl, rfl⟩ := h2
          rw [Bx.scrub_cells] at hj
          simpa using r.wf i bx0 z0 hh j (acRefs_scrub hj).1
  · have p1 : PinOk F h β w' := r.pin.world fun i g hi hg => by
      have h3 := (r.pin i hi).2 g hg
      have := r.size
      unfold bsh
      rw [hgr.block g (by omega) fun e' => h3.2.2 id _ hl (by omega) (hrow g e'.symm)]
    refine (p1.sub (h' := scrubH id h) fun i e2 hl2 => ?_).upd hid fun i g hi hg e' => ?_
    · rw [look_scrubH] at hl2
      cases hh : look h i with
      | none => rw [hh] at hl2; cases hl2
      | some x => exact ⟨_, rfl⟩
    · have h3 := (r.pin i hi).2 g hg
      have hs := r.size
      simp only [Option.some.injEq] at e'
      subst e'
      rcases hg' with hg' | hg'
      · exact h3.2.2 id _ hl (by omega) hg'
      · omega
end
end Go.VL


namespace Go.VL
open Go.RowKit
set_option linter.unusedVariables false

theorem wrap_range (k : IntKind) (z : Int) : k.min ≤ k.wrap z ∧ k.wrap z ≤ k.max := by
  cases k <;> simp only [IntKind.min, IntKind.max, IntKind.wrap, IntKind.signed, IntKind.bits] <;> simp <;> (try split) <;> omega
theorem wrap_i64 {z : Int} (h0 : -9223372036854775808 ≤ z) (h1 : z ≤ 9223372036854775807) : IntKind.wrap .i64 z = z := by
  simp only [IntKind.wrap, IntKind.signed, IntKind.bits]; simp; split <;> omega
theorem wrap_u8 {z : Int} (h0 : 0 ≤ z) (h1 : z ≤ 255) : IntKind.wrap .u8 z = z := by
  simp only [IntKind.wrap, IntKind.signed, IntKind.bits]; simp; omega
theorem wrap_u16 {z : Int} (h0 : 0 ≤ z) (h1 : z ≤ 65535) : IntKind.wrap .u16 z = z := by
  simp only [IntKind.wrap, IntKind.signed, IntKind.bits]; simp; omega
theorem wrap_u64 {z : Int} (h0 : 0 ≤ z) (h1 : z ≤ 18446744073709551615) : IntKind.wrap .u64 z = z := by
  simp only [IntKind.wrap, IntKind.signed, IntKind.bits]; simp; omega
theorem range_i64 (z : Int) : (IntKind.i64.min ≤ z ∧ z ≤ IntKind.i64.max) ↔ (-9223372036854775808 ≤ z ∧ z ≤ 9223372036854775807) := by simp [IntKind.min, IntKind.max, IntKind.signed, IntKind.bits]
theorem range_u8 (z : Int) : (IntKind.u8.min ≤ z ∧ z ≤ IntKind.u8.max) ↔ (0 ≤ z ∧ z ≤ 255) := by simp [IntKind.min, IntKind.max, IntKind.signed, IntKind.bits]

abbrev vI (z : Int) : AV := .one (.pv (.int .i64 z))
abbrev vB (b : Bool) : AV := .one (.pv (.bool b))
abbrev vS (s : List UInt8) : AV := .one (.pv (.str s))
abbrev vP (p : PV) : AV := .one (.pv p)

def ofCell : Value → AC
  | .int k z => if k.min ≤ z ∧ z ≤ k.max then .pv (.int k z) else .any
  | .bool b => .pv (.bool b)
  | .string s => if s.data.toList.length ≤ topLen then .pv (.str s.data.toList) else .any
  | .slice none 0 0 => .pv .nil
  | .agg _ | .tuple _ => .any
  | v => .pv (.lit v)
def ofVal : Value → AV
  | .agg cs => if cs.all Value.oneCell' = true then .agg (cs.toList.map ofCell) else .bot
  | .tuple _ => .bot
  | v => .one (ofCell v)
theorem ofCell_rep (w : World) (ok : Nat → Prop) (β : Bt) (v : Value) (h : v.oneCell' = true) : RepC w ok β (ofCell v) v := by
  unfold ofCell
  split
  · split
    · rename_i k z hz; exact .int k z hz
    · exact h
  · exact .bool _
  · split
    · rename_i s hs
      have e : (.string s : Value) = .string ⟨s.data.toList.toArray⟩ := by simp
      rw [e]; exact .str _ hs
    · exact h
  · exact .nil
  · simp [Value.oneCell'] at h
  · simp [Value.oneCell'] at h
  · exact .lit _ h
theorem ofVal_rep (w : World) (ok : Nat → Prop) (β : Bt) (v : Value) : RepV w ok β (ofVal v) v := by
  unfold ofVal
  split
  · rename_i cs
    split
    · rename_i hc
      refine ⟨cs, rfl, by simp, fun j c hj => ?_⟩
      rw [List.getElem?_map] at hj
      cases hu : cs.toList[j]? with
      | none => rw [hu] at hj; cases hj
      | some u =>
        rw [hu] at hj
        simp only [Option.map_some, Option.some.injEq] at hj
        subst hj
        refine ⟨u, by simpa using hu, ofCell_rep w ok β u ?_⟩
        rw [Array.all_eq_true_iff_forall_mem] at hc
        exact hc u (by simpa using List.mem_of_getElem? hu)
    · trivial
  · trivial
  · rename_i h1 h2
    refine ofCell_rep w ok β v ?_
    cases v <;> first | rfl | exact absurd rfl (h1 _) | exact absurd rfl (h2 _)

structure AS where
  env : List (Nat × AV)
  heap : Hp
  nx : Nat
def evE (env : List (Nat × AV)) : Operand → AV
  | .tmp t => (look env t).getD .bot
  | .const v => ofVal v
  | .global g => .one (.pv (.lit (.pointer (some ⟨g, 0, none⟩))))
  | .func f => .one (.pv (.clo f []))

structure TI where
  u : TypeDesc
  size : Nat
  bytes : Nat
  zero : Option Value
def tinf (P : Program) (t : TypeId) : Option TI :=
  match P.underlying t, P.info? t with
  | some u, some i => some ⟨u, i.size, i.bytes, i.zero⟩
  | _, _ => none
theorem tinf_spec {P : Program} {t : TypeId} {T : TI} (h : tinf P t = some T) : P.underlying t = some T.u ∧ ∃ i, P.info? t = some i ∧ i.size = T.size ∧ i.bytes = T.bytes ∧ i.zero = T.zero := by
  unfold tinf at h
  split at h
  · rename_i u i hu hi
    simp only [Option.some.injEq] at h
    subst h
    exact ⟨hu, i, hi, rfl, rfl, rfl⟩
  · cases h

/-- What a value operation gives: the value, in the world that it got. -/
def Gives (X : Ctx) (w : World) (ok : Nat → Prop) (β : Bt) (s : Sem Value) (v : AV) : Prop := ∃ u, s.run X.P w = .ok u w ∧ RepV w ok β v u

def evInt (op : BinOp) (k : IntKind) (a : Int) (k' : IntKind) (b : Int) (K : AV → Prop) : Prop :=
  match op with
  | .add => k = k' ∧ K (vP (.int k (k.wrap (a + b))))
  | .sub => k = k' ∧ K (vP (.int k (k.wrap (a - b))))
  | .mul => k = k' ∧ K (vP (.int k (k.wrap (a * b))))
  | .quo => k = k' ∧ b ≠ 0 ∧ K (vP (.int k (k.wrap (a.tdiv b))))
  | .rem => k = k' ∧ b ≠ 0 ∧ K (vP (.int k (a.tmod b)))
  | .and => k = k' ∧ K (vP (.int k (k.wrap ((BitVec.ofInt k.bits a &&& BitVec.ofInt k.bits b).toNat : Int))))
  | .or => k = k' ∧ K (vP (.int k (k.wrap ((BitVec.ofInt k.bits a ||| BitVec.ofInt k.bits b).toNat : Int))))
  | .xor => k = k' ∧ K (vP (.int k (k.wrap ((BitVec.ofInt k.bits a ^^^ BitVec.ofInt k.bits b).toNat : Int))))
  | .andNot => k = k' ∧ K (vP (.int k (k.wrap ((BitVec.ofInt k.bits a &&& ~~~BitVec.ofInt k.bits b).toNat : Int))))
  | .shl => 0 ≤ b ∧ K (vP (.int k (k.wrap (a * 2 ^ (min b.toNat k.bits)))))
  | .shr => 0 ≤ b ∧ K (vP (.int k (a.fdiv (2 ^ (min b.toNat k.bits)))))
  | .eql => k = k' ∧ K (vB (decide (a = b)))
  | .neq => k = k' ∧ K (vB (!decide (a = b)))
  | .lss => k = k' ∧ K (vB (decide (a < b)))
  | .leq => k = k' ∧ K (vB (decide (a ≤ b)))
  | .gtr => k = k' ∧ K (vB (decide (b < a)))
  | .geq => k = k' ∧ K (vB (decide (b ≤ a)))
theorem tmod_range {k : IntKind} {a b : Int} (ha : k.min ≤ a ∧ a ≤ k.max) : k.min ≤ a.tmod b ∧ a.tmod b ≤ k.max := by
  have h0 : k.min ≤ 0 ∧ 0 ≤ k.max := by cases k <;> simp [IntKind.min, IntKind.max, IntKind.signed, IntKind.bits]
  have hn : (a.tmod b).natAbs ≤ a.natAbs := by rw [Int.natAbs_tmod]; exact Nat.mod_le _ _
  rcases Int.le_total 0 a with h | h
  · have h1 := Int.tmod_nonneg b h
    omega
  · have e : a.tmod b = -((-a).tmod b) := by rw [Int.neg_tmod]; omega
    have h1 := Int.tmod_nonneg b (show 0 ≤ -a by omega)
    omega
theorem fdiv_range {k : IntKind} {a : Int} {n : Nat} (ha : k.min ≤ a ∧ a ≤ k.max) : k.min ≤ a.fdiv (2 ^ n) ∧ a.fdiv (2 ^ n) ≤ k.max := by
  have h0 : k.min ≤ 0 ∧ 0 ≤ k.max := by cases k <;> simp [IntKind.min, IntKind.max, IntKind.signed, IntKind.bits]
  have hp : (0 : Int) < 2 ^ n := Int.pow_pos (by omega)
  have hp1 : (1 : Int) ≤ 2 ^ n := by omega
  rw [Int.fdiv_eq_ediv_of_nonneg _ (by omega)]
  rcases Int.le_total 0 a with h | h
  · have h1 := Int.ediv_nonneg h (show (0 : Int) ≤ 2 ^ n by omega)
    have h2 := Int.ediv_le_self (2 ^ n) h
    omega
  · have h1 : a / 2 ^ n ≤ 0 := by
      have := Int.ediv_le_ediv hp h
      simpa using this
    have h2 : a ≤ a / 2 ^ n := by
      refine Int.le_ediv_of_mul_le hp ?_
      have := Int.mul_le_mul_of_nonpos_left h hp1
      simpa using this
    omega
theorem evInt_sound (X : Ctx) {op : BinOp} {k k' : IntKind} {a b : Int} {t : TypeId} {K : AV → Prop} (h : evInt op k a k' b K) :
    ∃ v, K v ∧ v.refs = [] ∧ ∀ w ok β, k.min ≤ a ∧ a ≤ k.max → Gives X w ok β (binOp op t (.int k a) (.int k' b)) v := by
  have W : ∀ z, k.min ≤ k.wrap z ∧ k.wrap z ≤ k.max := wrap_range k
  cases op <;> simp only [evInt] at h
  case shl | shr =>
    obtain ⟨h1, h2⟩ := h
    refine ⟨_, h2, rfl, fun w ok β hr => ?_⟩
    exact ⟨_, by simp [binOp, Op.shift, show ¬ b < 0 by omega]; rfl, by first | exact .int _ _ (W _) | exact .int _ _ (fdiv_range hr)⟩
  case quo | rem =>
    obtain ⟨rfl, h1, h2⟩ := h
    refine ⟨_, h2, rfl, fun w ok β hr => ?_⟩
    exact ⟨_, by simp [binOp, Op.intDiv, h1]; rfl, by first | exact .int _ _ (W _) | exact .int _ _ (tmod_range hr)⟩
  case add | sub | mul =>
    obtain ⟨rfl, h2⟩ := h
    exact ⟨_, h2, rfl, fun w ok β hr => ⟨_, by simp only [binOp, Op.intArith]; simp, .int _ _ (W _)⟩⟩
  case and | or | xor | andNot =>
    obtain ⟨rfl, h2⟩ := h
    exact ⟨_, h2, rfl, fun w ok β hr => ⟨_, by simp only [binOp, Op.intBits]; simp, .int _ _ (W _)⟩⟩
  all_goals
    obtain ⟨rfl, h2⟩ := h
    exact ⟨_, h2, rfl, fun w ok β hr => ⟨_, by rw [show ∀ op, binOp op t (.int k a) (.int k b) = binOp op t (.int k a) (.int k b) from fun _ => rfl]; simp only [binOp, ne_eq, not_true_eq_false, if_false]; rfl, .bool _⟩⟩

/-- What follows from one operand's representation alone. -/
def Acts1 (X : Ctx) (x : AV) (sem : Value → Sem Value) (v : AV) : Prop := (∀ id ∈ v.refs, id ∈ x.refs) ∧ ∀ w ok β u, RepV w ok β x u → Gives X w ok β (sem u) v
theorem one_int {w : World} {ok : Nat → Prop} {β : Bt} {k : IntKind} {z : Int} {u : Value} (h : RepV w ok β (.one (.pv (.int k z))) u) : u = .int k z ∧ k.min ≤ z ∧ z ≤ k.max := by
  have h' : RepP w ok (.int k z) u := h
  cases h' with | int _ _ hz => exact ⟨rfl, hz⟩
theorem one_bool {w : World} {ok : Nat → Prop} {β : Bt} {b : Bool} {u : Value} (h : RepV w ok β (.one (.pv (.bool b))) u) : u = .bool b := by
  have h' : RepP w ok (.bool b) u := h
  cases h'; rfl
theorem one_str {w : World} {ok : Nat → Prop} {β : Bt} {s : List UInt8} {u : Value} (h : RepV w ok β (.one (.pv (.str s))) u) : u = .string ⟨s.toArray⟩ ∧ s.length ≤ topLen := by
  have h' : RepP w ok (.str s) u := h
  cases h' with | str _ hz => exact ⟨rfl, hz⟩
theorem one_nil {w : World} {ok : Nat → Prop} {β : Bt} {u : Value} (h : RepV w ok β (.one (.pv .nil)) u) : u = .slice none 0 0 := by
  have h' : RepP w ok .nil u := h
  cases h'; rfl

def lexLt : List UInt8 → List UInt8 → Bool
  | _, [] => false
  | [], _ :: _ => true
  | a :: x, b :: y => decide (a < b) || (decide (a = b) && lexLt x y)
theorem lexLt_eq : ∀ a b, Op.bytesLess a b = lexLt a b
  | _, [] => by simp [Op.bytesLess, lexLt]
  | [], _ :: _ => rfl
  | a :: x, b :: y => by simp only [Op.bytesLess, lexLt, lexLt_eq x y]; rfl
def evStr (op : BinOp) (a b : List UInt8) (K : AV → Prop) : Prop :=
  match op with
  | .add => a.length + b.length ≤ topLen ∧ K (vS (a ++ b))
  | .eql => K (vB (decide (a = b)))
  | .neq => K (vB (!decide (a = b)))
  | .lss => K (vB (lexLt a b))
  | .leq => K (vB (lexLt a b || decide (a = b)))
  | .gtr => K (vB (!(lexLt a b || decide (a = b))))
  | .geq => K (vB (!lexLt a b))
  | _ => False
theorem beq_dec (a b : List UInt8) : (a == b) = decide (a = b) := by
  by_cases h : a = b <;> simp [h]
theorem evStr_sound (X : Ctx) {op : BinOp} {a b : List UInt8} {t : TypeId} {K : AV → Prop} (h : evStr op a b K) :
    ∃ v, K v ∧ v.refs = [] ∧ ∀ w ok β, Gives X w ok β (binOp op t (.string ⟨a.toArray⟩) (.string ⟨b.toArray⟩)) v := by
  cases op <;> simp only [evStr] at h
  case add =>
    refine ⟨_, h.2, rfl, fun w ok β => ⟨.string ⟨(a ++ b).toArray⟩, ?_, .str _ (by rw [List.length_append]; exact h.1)⟩⟩
    rw [binOp_string_add, run_string_add_sum _ _ _ (by simpa [ByteArray.size] using h.1), ByteArray.mk_append_mk]
  all_goals
    refine ⟨_, h, rfl, fun w ok β => ⟨_, by simp only [binOp, Op.stringOp, ByteArray.toList_mk, beq_dec, lexLt_eq]; rfl, .bool _⟩⟩

theorem eqGuard_int (op : BinOp) (t : TypeId) (ox oy : Operand) (k k' : IntKind) (a b : Int) (P : Program) (w : World) : (eqGuard op t ox oy (.int k a) (.int k' b)).run P w = .ok () w := by
  unfold eqGuard; cases op <;> rfl
theorem eqGuard_str (op : BinOp) (t : TypeId) (ox oy : Operand) (a b : ByteArray) (P : Program) (w : World) : (eqGuard op t ox oy (.string a) (.string b)).run P w = .ok () w := by
  unfold eqGuard; cases op <;> rfl
def evBin (op : BinOp) (x y : AV) (K : AV → Prop) : Prop :=
  match x, y with
  | .one (.pv (.int k a)), .one (.pv (.int k' b)) => evInt op k a k' b K
  | .one (.pv (.str a)), .one (.pv (.str b)) => evStr op a b K
  | _, _ => False
theorem evBin_sound (X : Ctx) {op : BinOp} {x y : AV} {t : TypeId} {ox oy : Operand} {K : AV → Prop} (h : evBin op x y K) :
    ∃ v, K v ∧ v.refs = [] ∧ ∀ w ok β u u', RepV w ok β x u → RepV w ok β y u' → Gives X w ok β (do eqGuard op t ox oy u u'; binOp op t u u') v := by
  unfold evBin at h
  split at h
  · obtain ⟨v, hK, hr, hg⟩ := evInt_sound X (t := t) h
    refine ⟨v, hK, hr, fun w ok β u u' hu hu' => ?_⟩
    obtain ⟨rfl, hz⟩ := one_int hu
    obtain ⟨rfl, _⟩ := one_int hu'
    obtain ⟨r, hr, hv⟩ := hg w ok β hz
    refine ⟨r, ?_, hv⟩
    rw [Sem.run_bind, eqGuard_int]; exact hr
  · obtain ⟨v, hK, hr, hg⟩ := evStr_sound X (t := t) h
    refine ⟨v, hK, hr, fun w ok β u u' hu hu' => ?_⟩
    obtain ⟨rfl, _⟩ := one_str hu
    obtain ⟨rfl, _⟩ := one_str hu'
    obtain ⟨r, hr, hv⟩ := hg w ok β
    refine ⟨r, ?_, hv⟩
    rw [Sem.run_bind, eqGuard_str]; exact hr
  · exact h.elim

def evUn (op : UnOp) (x : AV) (K : AV → Prop) : Prop :=
  match op, x with
  | .neg, .one (.pv (.int k a)) => K (vP (.int k (k.wrap (0 - a))))
  | .not, .one (.pv (.bool b)) => K (vB (!b))
  | _, _ => False
theorem evUn_sound (X : Ctx) {op : UnOp} {x : AV} {K : AV → Prop} (h : evUn op x K) : ∃ v, K v ∧ Acts1 X x (Op.unary op) v := by
  unfold evUn at h
  split at h
  · refine ⟨_, h, fun id hid => by simp [AV.refs, AC.refs] at hid, fun w ok β u hu => ?_⟩
    obtain ⟨rfl, hz⟩ := one_int hu
    exact ⟨_, by simp only [Op.unary, Op.intArith]; rfl, .int _ _ (wrap_range _ _)⟩
  · refine ⟨_, h, fun id hid => by simp [AV.refs, AC.refs] at hid, fun w ok β u hu => ?_⟩
    obtain rfl := one_bool hu
    exact ⟨_, by simp only [Op.unary]; rfl, .bool _⟩
  · exact h.elim

def isAggU : TypeDesc → Bool
  | .struct _ | .array _ _ => true
  | _ => false
theorem run_isAgg {P : Program} {t : TypeId} {d : TypeDesc} (h : P.underlying t = some d) (w : World) : (isAgg t).run P w = .ok (isAggU d) w := by
  unfold isAgg
  rw [Sem.run_bind, run_underlying h]
  cases d <;> rfl
theorem run_sizeOf {P : Program} {t : TypeId} {i : TypeInfo} (h : P.info? t = some i) (w : World) : (sizeOf t).run P w = .ok i.size w := by
  simp [sizeOf, typeInfo, h]
/-- A part of an aggregate's cells. -/
def evPart (X : Ctx) (t : TypeId) (cs : List AC) (off : Nat) (K : AV → Prop) : Prop :=
  match tinf X.P t with
  | some T => if isAggU T.u = true then off + T.size ≤ cs.length ∧ K (.agg ((cs.drop off).take T.size)) else (match cs[off]? with | some c => K (.one c) | none => False)
  | none => False
theorem RepL.get {w : World} {ok : Nat → Prop} {β : Bt} {cs : List AC} {vs : Array Value} (h : RepL w ok β cs vs) {j : Nat} {c : AC} (hj : cs[j]? = some c) : ∃ u, vs[j]? = some u ∧ RepC w ok β c u := h.2 j c hj
theorem RepL.extract {w : World} {ok : Nat → Prop} {β : Bt} {cs : List AC} {vs : Array Value} (h : RepL w ok β cs vs) {off n : Nat} (hl : off + n ≤ cs.length) : RepL w ok β ((cs.drop off).take n) (vs.extract off (off + n)) := by
  refine ⟨by rw [Array.size_extract, h.1, List.length_take, List.length_drop]; omega, fun j c hj => ?_⟩
  rw [List.getElem?_take] at hj
  split at hj
  · rename_i hjn
    rw [List.getElem?_drop] at hj
    obtain ⟨u, hu, hr⟩ := h.2 _ c hj
    refine ⟨u, ?_, hr⟩
    rw [Array.getElem?_extract, if_pos (by have := h.1; omega)]
    exact hu
  · cases hj
theorem acRefs_sub {cs cs' : List AC} (h : ∀ c ∈ cs', c ∈ cs) : ∀ id ∈ acRefs cs', id ∈ acRefs cs := fun id hid => by
  obtain ⟨c, hc, hi⟩ := List.mem_flatMap.1 hid
  exact List.mem_flatMap.2 ⟨c, h c hc, hi⟩
theorem evPart_sound (X : Ctx) {t : TypeId} {cs : List AC} {off : Nat} {K : AV → Prop} (h : evPart X t cs off K) :
    ∃ v, K v ∧ (∀ id ∈ v.refs, id ∈ acRefs cs) ∧ ∀ w ok β vs, RepL w ok β cs vs → Gives X w ok β (part t vs off) v := by
  unfold evPart at h
  split at h
  · rename_i T hT
    obtain ⟨hu, i, hi, hs, _⟩ := tinf_spec hT
    split at h
    · rename_i ha
      refine ⟨_, h.2, acRefs_sub fun c hc => List.mem_of_mem_drop (List.mem_of_mem_take hc), fun w ok β vs hv => ⟨.agg (vs.extract off (off + T.size)), ?_, _, rfl, hv.extract h.1⟩⟩
      simp [part, run_isAgg hu, ha, run_sizeOf hi, hs]
    · rename_i ha
      split at h
      · rename_i c hc
        refine ⟨_, h, fun id hid => List.mem_flatMap.2 ⟨c, List.mem_of_getElem? hc, hid⟩, fun w ok β vs hv => ?_⟩
        obtain ⟨u, hu', hr⟩ := hv.2 off c hc
        exact ⟨u, by simp [part, run_isAgg hu, ha, hu'], hr⟩
      · exact h.elim
  · exact h.elim
def evField (X : Ctx) (t : TypeId) (x : AV) (f : Nat) (K : AV → Prop) : Prop :=
  match tinf X.P t, x with
  | some ⟨.struct fs, _, _, _⟩, .agg cs => (match fs[f]? with | some F => evPart X F.type cs F.offset K | none => False)
  | _, _ => False
theorem evField_sound (X : Ctx) {t : TypeId} {x : AV} {f : Nat} {K : AV → Prop} (h : evField X t x f K) : ∃ v, K v ∧ Acts1 X x (fun u => Instr.field t u f) v := by
  unfold evField at h
  split at h
  · rename_i fs _ _ _ cs hT
    obtain ⟨hu, _⟩ := tinf_spec hT
    split at h
    · rename_i F hF
      obtain ⟨v, hK, hr, hg⟩ := evPart_sound X h
      refine ⟨v, hK, hr, fun w ok β u hu' => ?_⟩
      obtain ⟨vs, rfl, hl⟩ := hu'
      obtain ⟨r, h1, h2⟩ := hg w ok β vs hl
      exact ⟨r, by simp [Instr.field, run_underlying hu, hF, asAgg, h1], h2⟩
    · exact h.elim
  · exact h.elim
def evExtract (x : AV) (i : Nat) (K : AV → Prop) : Prop :=
  match x with
  | .tup xs => (match xs[i]? with | some (true, cs) => K (.agg cs) | some (false, [c]) => K (.one c) | _ => False)
  | _ => False
theorem evExtract_sound (X : Ctx) {x : AV} {i : Nat} {K : AV → Prop} (h : evExtract x i K) : ∃ v, K v ∧ Acts1 X x (fun u => Instr.extract u i) v := by
  unfold evExtract at h
  split at h
  · rename_i xs
    split at h
    · rename_i cs hx
      refine ⟨_, h, fun id hid => List.mem_flatMap.2 ⟨_, List.mem_of_getElem? hx, hid⟩, fun w ok β u hu => ?_⟩
      obtain ⟨vs, rfl, hs, hv⟩ := hu
      obtain ⟨u, hu, hr⟩ := hv i _ hx
      exact ⟨u, by simp [Instr.extract, hu], hr⟩
    · rename_i c hx
      refine ⟨_, h, fun id hid => List.mem_flatMap.2 ⟨_, List.mem_of_getElem? hx, by simpa [acRefs, AV.refs] using hid⟩, fun w ok β u hu => ?_⟩
      obtain ⟨vs, rfl, hs, hv⟩ := hu
      obtain ⟨u, hu, c', e, hr⟩ := hv i _ hx
      simp only [List.cons.injEq, and_true] at e
      subst e
      exact ⟨u, by simp [Instr.extract, hu], hr⟩
    · exact h.elim
  · exact h.elim
end Go.VL


namespace Go.VL
open Go.RowKit
set_option linter.unusedVariables false

theorem add_none (b o j : Nat) : (⟨b, o, none⟩ : Addr).add j = ⟨b, o + j, none⟩ := by unfold Addr.add; split <;> simp_all
theorem one_sl {w : World} {ok : Nat → Prop} {β : Bt} {n : Nat} {cells : List PV} {u : Value} (h : RepV w ok β (.one (.pv (.sl n cells))) u) :
    ∃ A cap, u = .slice A n cap ∧ n ≤ cap ∧ (n = 0 → cells = []) ∧ n ≤ topLen ∧ (0 < n → cap ≤ topLen ∧ ∃ sz b o, A = some ⟨b, o, none⟩ ∧ cells.length = n * sz ∧ ok b ∧ ∀ (j : Nat) p, cells[j]? = some p → ∃ v, w.cell? ⟨b, o + j, none⟩ = some v ∧ RepP w ok p v) := by
  have h' : RepP w ok (.sl n cells) u := h
  cases h' with
  | sl0 A cap => exact ⟨A, cap, rfl, Nat.zero_le _, fun _ => rfl, Nat.zero_le _, fun h => by omega⟩
  | sl _ sz cap b o _ vals hn hc hm hl hok hcell hrep => exact ⟨_, cap, rfl, hc, fun h => by omega, Nat.le_trans hc hm, fun _ => ⟨hm, sz, b, o, rfl, hl, hok, fun j p hj => ⟨_, hcell j p hj, hrep j p hj⟩⟩⟩
theorem vals_of {w : World} {ok : Nat → Prop} {cells : List PV} {b o : Nat} (h : ∀ (j : Nat) p, cells[j]? = some p → ∃ v, w.cell? ⟨b, o + j, none⟩ = some v ∧ RepP w ok p v) :
    (∀ (j : Nat) p, cells[j]? = some p → w.cell? ⟨b, o + j, none⟩ = some ((w.cell? ⟨b, o + j, none⟩).getD undef)) ∧ ∀ (j : Nat) p, cells[j]? = some p → RepP w ok p ((w.cell? ⟨b, o + j, none⟩).getD undef) := by
  constructor <;> intro j p hj <;> obtain ⟨v, hv, hr⟩ := h j p hj <;> rw [hv]
  · rfl
  · exact hr
theorem RepP.mk_sl {w : World} {ok : Nat → Prop} {n sz cap b o : Nat} {cells : List PV} (hn : n ≤ cap) (hm : cap ≤ topLen) (hl : cells.length = n * sz) (h : 0 < n → ok b ∧ ∀ (j : Nat) p, cells[j]? = some p → ∃ v, w.cell? ⟨b, o + j, none⟩ = some v ∧ RepP w ok p v) :
    RepP w ok (.sl n cells) (.slice (some ⟨b, o, none⟩) n cap) := by
  rcases Nat.eq_zero_or_pos n with h0 | h0
  · subst h0
    obtain rfl : cells = [] := List.eq_nil_of_length_eq_zero (by simpa using hl)
    exact .sl0 _ _
  · obtain ⟨hok, hc⟩ := h h0
    exact .sl n sz cap b o cells _ h0 hn hm hl hok (vals_of hc).1 (vals_of hc).2

def evFieldAddr (X : Ctx) (t : TypeId) (x : AV) (f : Nat) (K : AV → Prop) : Prop :=
  match tinf X.P t with
  | some ⟨.struct fs, _, _, _⟩ =>
    (match fs[f]? with
     | some F => (match tinf X.P F.type with
       | some T => T.size ≠ 0 ∧ (match x with
         | .one (.ptr id off) => K (.one (.ptr id (off + F.offset)))
         | .one (.pv (.pt cells off)) => K (.one (.pv (.pt cells (off + F.offset))))
         | _ => False)
       | none => False)
     | none => False)
  | _ => False
theorem evFieldAddr_sound (X : Ctx) {t : TypeId} {x : AV} {f : Nat} {K : AV → Prop} (h : evFieldAddr X t x f K) : ∃ v, K v ∧ Acts1 X x (fun u => Instr.fieldAt t u f) v := by
  unfold evFieldAddr at h
  split at h
  · rename_i fs _ _ _ hT
    obtain ⟨hu, _⟩ := tinf_spec hT
    split at h
    · rename_i F hF
      split at h
      · rename_i T hT2
        obtain ⟨_, i, hi, hs, _⟩ := tinf_spec hT2
        obtain ⟨h0, h⟩ := h
        split at h
        · rename_i id off
          refine ⟨_, h, fun id hid => hid, fun w ok β u hu' => ?_⟩
          obtain ⟨g, hg, rfl⟩ := hu'
          refine ⟨.pointer (some ⟨g, off + F.offset, none⟩), ?_, g, hg, rfl⟩
          simp [Instr.fieldAt, run_underlying hu, hF, Instr.sureAddr, fieldPlace, run_sizeOf hi, hs, h0, add_none]
        · rename_i cells off
          refine ⟨_, h, fun id hid => hid, fun w ok β u hu' => ?_⟩
          have hu2 : RepP w ok (.pt cells off) u := hu'
          cases hu2 with
          | pt b o _ _ vals hok hcell hrep =>
          refine ⟨.pointer (some ⟨b, o + (off + F.offset), none⟩), ?_, .pt b o _ cells vals hok hcell hrep⟩
          simp [Instr.fieldAt, run_underlying hu, hF, Instr.sureAddr, fieldPlace, run_sizeOf hi, hs, h0, add_none, Nat.add_assoc]
        · exact h.elim
      · exact h.elim
    · exact h.elim
  · exact h.elim

def evIndexAddr (X : Ctx) (t : TypeId) (x i : AV) (K : AV → Prop) : Prop :=
  match tinf X.P t, i with
  | some ⟨.slice e, _, _, _⟩, .one (.pv (.int _ z)) =>
    (match tinf X.P e with
     | some T => 0 ≤ z ∧ (match x with
       | .one (.own id sz n) => z < n ∧ T.size = sz ∧ K (.one (.ptr id (z.toNat * sz)))
       | .one (.sub id sz off n) => z < n ∧ T.size = sz ∧ K (.one (.ptr id (off + z.toNat * sz)))
       | .one (.pv (.sl n cells)) => z < n ∧ K (.one (.pv (.pt cells (z.toNat * T.size))))
       | _ => False)
     | none => False)
  | some ⟨.array len e, _, _, _⟩, .one (.pv (.int _ z)) =>
    (match tinf X.P e with
     | some T => 0 ≤ z ∧ z < len ∧ (match x with
       | .one (.ptr id off) => K (.one (.ptr id (off + z.toNat * T.size)))
       | .one (.pv (.pt cells off)) => K (.one (.pv (.pt cells (off + z.toNat * T.size))))
       | _ => False)
     | none => False)
  | _, _ => False
theorem run_indexAt_slice {P : Program} {t e : TypeId} {i : TypeInfo} (ht : P.underlying t = some (.slice e)) (hi : P.info? e = some i) (w : World) (b o n cap : Nat) (k : IntKind) (z : Int) (h0 : 0 ≤ z) (h1 : z < n) :
    (Instr.indexAt t (.slice (some ⟨b, o, none⟩) n cap) (.int k z)).run P w = .ok (.pointer (some ⟨b, o + z.toNat * i.size, none⟩)) w := by
  simp [Instr.indexAt, asIntOf, run_underlying ht, h0, h1, run_sizeOf hi, add_none]
theorem run_indexAt_array {P : Program} {t e : TypeId} {len : Nat} {i : TypeInfo} (ht : P.underlying t = some (.array len e)) (hi : P.info? e = some i) (w : World) (b o : Nat) (k : IntKind) (z : Int) (h0 : 0 ≤ z) (h1 : z < len) :
    (Instr.indexAt t (.pointer (some ⟨b, o, none⟩)) (.int k z)).run P w = .ok (.pointer (some ⟨b, o + z.toNat * i.size, none⟩)) w := by
  simp [Instr.indexAt, asIntOf, run_underlying ht, h0, h1, run_sizeOf hi, add_none, Instr.sureAddr]
theorem evIndexAddr_sound (X : Ctx) {t : TypeId} {x i : AV} {K : AV → Prop} (h : evIndexAddr X t x i K) :
    ∃ v, K v ∧ (∀ id ∈ v.refs, id ∈ x.refs) ∧ ∀ w ok β u u', RepV w ok β x u → RepV w ok β i u' → Gives X w ok β (Instr.indexAt t u u') v := by
  unfold evIndexAddr at h
  split at h
  · rename_i e _ _ _ k z hT
    obtain ⟨ht, _⟩ := tinf_spec hT
    split at h
    · rename_i T hT2
      obtain ⟨_, I, hi, hs, _⟩ := tinf_spec hT2
      obtain ⟨h0, h⟩ := h
      split at h
      · rename_i id sz n
        obtain ⟨h1, rfl, h⟩ := h
        refine ⟨_, h, fun id hid => hid, fun w ok β u u' hu hu' => ?_⟩
        obtain ⟨rfl, _⟩ := one_int hu'
        rcases hu with ⟨_, hn⟩ | ⟨g, cap, hg, rfl, _⟩
        · omega
        · exact ⟨_, run_indexAt_slice ht hi w g 0 n cap k z h0 h1, g, hg, by rw [hs]; simp⟩
      · rename_i id sz off n
        obtain ⟨h1, rfl, h⟩ := h
        refine ⟨_, h, fun id hid => hid, fun w ok β u u' hu hu' => ?_⟩
        obtain ⟨rfl, _⟩ := one_int hu'
        obtain ⟨A, cap, rfl, _, _, hn | ⟨g, hg, rfl⟩⟩ := hu
        · omega
        · exact ⟨_, run_indexAt_slice ht hi w g off n cap k z h0 h1, g, hg, by rw [hs]⟩
      · rename_i n cells
        obtain ⟨h1, h⟩ := h
        refine ⟨_, h, fun id hid => by simp [AV.refs, AC.refs] at hid, fun w ok β u u' hu hu' => ?_⟩
        obtain ⟨rfl, _⟩ := one_int hu'
        obtain ⟨A, cap, rfl, _, _, _, h2⟩ := one_sl hu
        obtain ⟨_, sz, b, o, rfl, hl, hok, hc⟩ := h2 (by omega)
        exact ⟨_, run_indexAt_slice ht hi w b o n cap k z h0 h1, by rw [hs]; exact RepP.pt b o _ cells _ hok (vals_of hc).1 (vals_of hc).2⟩
      · exact h.elim
    · exact h.elim
  · rename_i len e _ _ _ k z hT
    obtain ⟨ht, _⟩ := tinf_spec hT
    split at h
    · rename_i T hT2
      obtain ⟨_, I, hi, hs, _⟩ := tinf_spec hT2
      obtain ⟨h0, h1, h⟩ := h
      split at h
      · rename_i id off
        refine ⟨_, h, fun id hid => hid, fun w ok β u u' hu hu' => ?_⟩
        obtain ⟨rfl, _⟩ := one_int hu'
        obtain ⟨g, hg, rfl⟩ := hu
        exact ⟨_, run_indexAt_array ht hi w g off k z h0 h1, g, hg, by rw [hs]⟩
      · rename_i cells off
        refine ⟨_, h, fun id hid => by simp [AV.refs, AC.refs] at hid, fun w ok β u u' hu hu' => ?_⟩
        obtain ⟨rfl, _⟩ := one_int hu'
        have hu2 : RepP w ok (.pt cells off) u := hu
        cases hu2 with
        | pt b o _ _ vals hok hcell hrep =>
        exact ⟨_, run_indexAt_array ht hi w b (o + off) k z h0 h1, by rw [hs, Nat.add_assoc]; exact RepP.pt b o _ cells vals hok hcell hrep⟩
      · exact h.elim
    · exact h.elim
  · exact h.elim

def evIndex (X : Ctx) (t : TypeId) (x i : AV) (K : AV → Prop) : Prop :=
  match tinf X.P t, x, i with
  | some ⟨.string, _, _, _⟩, .one (.pv (.str s)), .one (.pv (.int _ z)) => 0 ≤ z ∧ z < s.length ∧ K (vP (.int .u8 ((s.getD z.toNat 0).toNat : Int)))
  | some ⟨.array len e, _, _, _⟩, .agg cs, .one (.pv (.int _ z)) => (match tinf X.P e with | some T => 0 ≤ z ∧ z < len ∧ evPart X e cs (z.toNat * T.size) K | none => False)
  | _, _, _ => False
theorem evIndex_sound (X : Ctx) {t : TypeId} {x i : AV} {K : AV → Prop} (h : evIndex X t x i K) :
    ∃ v, K v ∧ (∀ id ∈ v.refs, id ∈ x.refs) ∧ ∀ w ok β u u', RepV w ok β x u → RepV w ok β i u' → Gives X w ok β (Instr.index t u u') v := by
  unfold evIndex at h
  split at h
  · rename_i s k z hT
    obtain ⟨ht, _⟩ := tinf_spec hT
    obtain ⟨h0, h1, h⟩ := h
    refine ⟨_, h, fun id hid => by simp [AV.refs, AC.refs] at hid, fun w ok β u u' hu hu' => ?_⟩
    obtain ⟨rfl, _⟩ := one_int hu'
    obtain ⟨rfl, _⟩ := one_str hu
    refine ⟨.int .u8 ((s.getD z.toNat 0).toNat : Int), ?_, .int _ _ ?_⟩
    · have h2 : z.toNat < s.length := by omega
      have h3 : (ByteArray.mk s.toArray)[z.toNat]? = some (s.getD z.toNat 0) := by
        rw [ByteArray.getElem?_lt' _ _ (by simpa [ByteArray.size] using h2)]
        simp only [ByteArray.getElem_eq_getElem_data]
        simp [List.getD_eq_getElem?_getD, h2]
      simp [Instr.index, asIntOf, run_underlying ht, h0, h3]
    · have := (s.getD z.toNat 0).toNat_lt
      rw [range_u8]
      omega
  · rename_i len e _ _ _ cs k z hT
    obtain ⟨ht, _⟩ := tinf_spec hT
    split at h
    · rename_i T hT2
      obtain ⟨_, I, hi, hs, _⟩ := tinf_spec hT2
      obtain ⟨h0, h1, h⟩ := h
      obtain ⟨v, hK, hr, hg⟩ := evPart_sound X h
      refine ⟨v, hK, hr, fun w ok β u u' hu hu' => ?_⟩
      obtain ⟨rfl, _⟩ := one_int hu'
      obtain ⟨vs, rfl, hl⟩ := hu
      obtain ⟨r, h2, h3⟩ := hg w ok β vs hl
      refine ⟨r, ?_, h3⟩
      simp [Instr.index, asIntOf, run_underlying ht, h0, h1, run_sizeOf hi, hs, h2]
    · exact h.elim
  · exact h.elim

def evLen (X : Ctx) (t : TypeId) (x : AV) (K : AV → Prop) : Prop :=
  match tinf X.P t with
  | some ⟨.string, _, _, _⟩ => (match x with | .one (.pv (.str s)) => K (vI s.length) | _ => False)
  | some ⟨.slice _, _, _, _⟩ => (match x with
    | .one (.pv (.sl n _)) | .one (.own _ _ n) | .one (.sub _ _ _ n) => K (vI n)
    | .one (.pv .nil) => K (vI 0)
    | _ => False)
  | some ⟨.array n _, _, _, _⟩ => n ≤ topLen ∧ K (vI n)
  | _ => False
theorem int_i64 {w : World} {ok : Nat → Prop} {n : Nat} (h : n ≤ topLen) : RepP w ok (.int .i64 n) (.int .i64 n) := .int _ _ (by rw [range_i64]; simp only [topLen] at h; omega)
theorem evLen_sound (X : Ctx) {t ty : TypeId} {x : AV} {K : AV → Prop} (h : evLen X t x K) : ∃ v, K v ∧ Acts1 X x (fun u => Builtin.len_ #[t] ty #[u]) v := by
  unfold evLen at h
  split at h
  · rename_i _ _ _ hT
    obtain ⟨ht, _⟩ := tinf_spec hT
    split at h
    · rename_i s
      refine ⟨_, h, fun id hid => by simp [AV.refs, AC.refs] at hid, fun w ok β u hu => ?_⟩
      obtain ⟨rfl, hl⟩ := one_str hu
      refine ⟨.int .i64 s.length, ?_, int_i64 hl⟩
      have e : (ByteArray.mk s.toArray).size = s.length := by simp [ByteArray.size]
      simp [Builtin.len_, run_underlying ht, goInt, e]
    · exact h.elim
  · rename_i _ _ _ _ hT
    obtain ⟨ht, _⟩ := tinf_spec hT
    split at h
    · rename_i n cells
      refine ⟨_, h, fun id hid => by simp [AV.refs, AC.refs] at hid, fun w ok β u hu => ?_⟩
      obtain ⟨A, cap, rfl, _, _, hn, _⟩ := one_sl hu
      exact ⟨.int .i64 n, by simp [Builtin.len_, run_underlying ht, goInt], int_i64 hn⟩
    · rename_i id sz n
      refine ⟨_, h, fun id hid => by simp [AV.refs, AC.refs] at hid, fun w ok β u hu => ?_⟩
      rcases hu with ⟨rfl, rfl⟩ | ⟨g, cap, hg, rfl, h1, h2, _⟩
      · exact ⟨.int .i64 0, by simp [Builtin.len_, run_underlying ht, goInt], int_i64 (Nat.zero_le _)⟩
      · exact ⟨.int .i64 n, by simp [Builtin.len_, run_underlying ht, goInt], int_i64 (by omega)⟩
    · rename_i id sz off n
      refine ⟨_, h, fun id hid => by simp [AV.refs, AC.refs] at hid, fun w ok β u hu => ?_⟩
      obtain ⟨A, cap, rfl, h1, h2, _⟩ := hu
      exact ⟨.int .i64 n, by simp [Builtin.len_, run_underlying ht, goInt], int_i64 (by omega)⟩
    · refine ⟨_, h, fun id hid => by simp [AV.refs, AC.refs] at hid, fun w ok β u hu => ?_⟩
      obtain rfl := one_nil hu
      exact ⟨.int .i64 0, by simp [Builtin.len_, run_underlying ht, goInt], int_i64 (Nat.zero_le _)⟩
    · exact h.elim
  · rename_i n e _ _ _ hT
    obtain ⟨ht, _⟩ := tinf_spec hT
    refine ⟨_, h.2, fun id hid => by simp [AV.refs, AC.refs] at hid, fun w ok β u hu => ?_⟩
    exact ⟨.int .i64 n, by simp [Builtin.len_, run_underlying ht, goInt], int_i64 h.1⟩
  · exact h.elim
end Go.VL


namespace Go.VL
open Go.RowKit
set_option linter.unusedVariables false

/-- The bounds of a slice expression: what stands for a missing one. -/
def loOf : Option AV → Option Int
  | none => some 0
  | some (.one (.pv (.int _ z))) => some z
  | _ => none
inductive Bnd where
  | all
  | from (l : Int)
  | upto (h : Int)
  | both (l h : Int)
def bnds : Option AV → Option AV → Option Bnd
  | none, none => some .all
  | some (.one (.pv (.int _ l))), none => some (.from l)
  | none, some (.one (.pv (.int _ h))) => some (.upto h)
  | some (.one (.pv (.int _ l))), some (.one (.pv (.int _ h))) => some (.both l h)
  | _, _ => none
def evSlStr (s : List UInt8) : Bnd → (AV → Prop) → Prop
  | .all, K => K (vS s)
  | .from l, K => 0 ≤ l ∧ l ≤ s.length ∧ K (vS (s.drop l.toNat))
  | .upto h, K => 0 ≤ h ∧ h ≤ s.length ∧ K (vS (s.take h.toNat))
  | .both l h, K => 0 ≤ l ∧ l ≤ h ∧ h ≤ s.length ∧ K (vS ((s.drop l.toNat).take (h.toNat - l.toNat)))
def evSlPv (S n : Nat) (cells : List PV) : Bnd → (AV → Prop) → Prop
  | .all, K => K (vP (.sl n cells))
  | .from l, K => 0 ≤ l ∧ l ≤ n ∧ cells.length = n * S ∧ K (vP (.sl (n - l.toNat) (cells.drop (l.toNat * S))))
  | .upto h, K => 0 ≤ h ∧ h ≤ n ∧ cells.length = n * S ∧ K (vP (.sl h.toNat (cells.take (h.toNat * S))))
  | .both l h, K => 0 ≤ l ∧ l ≤ h ∧ h ≤ n ∧ cells.length = n * S ∧ K (vP (.sl (h.toNat - l.toNat) ((cells.drop (l.toNat * S)).take ((h.toNat - l.toNat) * S))))
def evSlOwn (id sz n : Nat) : Bnd → (AV → Prop) → Prop
  | .all, K => K (.one (.own id sz n))
  | .from l, K => 0 ≤ l ∧ l ≤ n ∧ K (.one (.sub id sz (l.toNat * sz) (n - l.toNat)))
  | .upto h, K => 0 ≤ h ∧ h ≤ n ∧ K (.one (.own id sz h.toNat))
  | .both l h, K => 0 ≤ l ∧ l ≤ h ∧ h ≤ n ∧ K (.one (.sub id sz (l.toNat * sz) (h.toNat - l.toNat)))
def evSlSub (id sz off n : Nat) : Bnd → (AV → Prop) → Prop
  | .all, K => K (.one (.sub id sz off n))
  | .from l, K => 0 ≤ l ∧ l ≤ n ∧ K (.one (.sub id sz (off + l.toNat * sz) (n - l.toNat)))
  | .upto h, K => 0 ≤ h ∧ h ≤ n ∧ K (.one (.sub id sz off h.toNat))
  | .both l h, K => 0 ≤ l ∧ l ≤ h ∧ h ≤ n ∧ K (.one (.sub id sz (off + l.toNat * sz) (h.toNat - l.toNat)))
def evSlNil : Bnd → (AV → Prop) → Prop
  | .all, K => K (vP .nil)
  | .from l, K => l = 0 ∧ K (vP .nil)
  | .upto h, K => h = 0 ∧ K (vP .nil)
  | .both l h, K => l = 0 ∧ h = 0 ∧ K (vP .nil)
def evSlice (X : Ctx) (t : TypeId) (x : AV) (lo hi mx : Option AV) (K : AV → Prop) : Prop :=
  match mx, bnds lo hi, tinf X.P t with
  | none, some b, some ⟨.string, _, _, _⟩ => (match x with | .one (.pv (.str s)) => evSlStr s b K | _ => False)
  | none, some b, some ⟨.slice e, _, _, _⟩ =>
    (match tinf X.P e with
     | some T => (match x with
       | .one (.pv (.sl n cells)) => evSlPv T.size n cells b K
       | .one (.own id sz n) => T.size = sz ∧ evSlOwn id sz n b K
       | .one (.sub id sz off n) => T.size = sz ∧ evSlSub id sz off n b K
       | .one (.pv .nil) => evSlNil b K
       | _ => False)
     | none => False)
  | _, _, _ => False

/-- A bound pair, as numbers: of what has n parts. -/
def Bnd.lo : Bnd → Nat
  | .all | .upto _ => 0
  | .from l | .both l _ => l.toNat
def Bnd.hi (n : Nat) : Bnd → Nat
  | .all | .from _ => n
  | .upto h | .both _ h => h.toNat
def Bnd.ok (n : Nat) : Bnd → Prop
  | .all => True
  | .from l => 0 ≤ l ∧ l ≤ n
  | .upto h => 0 ≤ h ∧ h ≤ n
  | .both l h => 0 ≤ l ∧ l ≤ h ∧ h ≤ n
theorem Bnd.ok_spec {n : Nat} {b : Bnd} (h : b.ok n) : b.lo ≤ b.hi n ∧ b.hi n ≤ n := by
  cases b <;> simp only [Bnd.ok, Bnd.lo, Bnd.hi] at * <;> omega
/-- Values that the bounds stand for. -/
def BndRep (lo hi : Option AV) (vl vh : Option Value) : Prop :=
  (lo = none ∧ vl = none ∨ ∃ k z, lo = some (.one (.pv (.int k z))) ∧ vl = some (.int k z)) ∧ (hi = none ∧ vh = none ∨ ∃ k z, hi = some (.one (.pv (.int k z))) ∧ vh = some (.int k z))
theorem run_slice_bnds {P : Program} {w : World} {lo hi : Option AV} {vl vh : Option Value} {b : Bnd} (hr : BndRep lo hi vl vh) (hb : bnds lo hi = some b) {n cap : Nat} (hn : n ≤ cap) (h : b.ok n) (isS : Bool) :
    (Instr.sliceBounds isS n cap vl vh none).run P w = .ok (b.lo, b.hi n, cap) w := by
  obtain ⟨hl, hh⟩ := hr
  rcases hl with ⟨rfl, rfl⟩ | ⟨k, z, rfl, rfl⟩ <;> rcases hh with ⟨rfl, rfl⟩ | ⟨k', z', rfl, rfl⟩ <;>
    simp only [bnds, Option.some.injEq] at hb <;> subst hb <;> simp only [Bnd.ok] at h <;> simp only [Bnd.lo, Bnd.hi]
  · simp [Instr.sliceBounds]
  · have h1 : z' ≤ (cap : Int) := by omega
    simp [Instr.sliceBounds, Instr.sliceBound, asIntOf, h.1, h1]
  · simp [Instr.sliceBounds, Instr.sliceBound, asIntOf, h.1, h.2]
  · have h1 : z' ≤ (cap : Int) := by omega
    have h0 : 0 ≤ z' := by omega
    have h2 : z ≤ ((z'.toNat : Nat) : Int) := by omega
    have h3 : z ≤ max z' 0 := by omega
    simp [Instr.sliceBounds, Instr.sliceBound, asIntOf, h.1, h0, h1, h3]
theorem run_slice_slice {P : Program} {w : World} {t e : TypeId} {i : TypeInfo} (ht : P.underlying t = some (.slice e)) (hi' : P.info? e = some i) {lo hi : Option AV} {vl vh : Option Value} {b : Bnd} (hr : BndRep lo hi vl vh) (hb : bnds lo hi = some b)
    {A : Option Addr} {n cap : Nat} (hn : n ≤ cap) (h : b.ok n) :
    (Instr.sliceAt t (.slice A n cap) vl vh none).run P w = .ok (.slice (if cap = b.lo then A else A.map (·.add (b.lo * i.size))) (b.hi n - b.lo) (cap - b.lo)) w := by
  have h1 := run_slice_bnds (P := P) (w := w) hr hb hn h true
  simp [Instr.sliceAt, Instr.slice, run_underlying ht, h1, run_sizeOf hi']
theorem run_slice_str {P : Program} {w : World} {t : TypeId} (ht : P.underlying t = some .string) {lo hi : Option AV} {vl vh : Option Value} {b : Bnd} (hr : BndRep lo hi vl vh) (hb : bnds lo hi = some b)
    {s : List UInt8} (h : b.ok s.length) : (Instr.sliceAt t (.string ⟨s.toArray⟩) vl vh none).run P w = .ok (.string ⟨((s.drop b.lo).take (b.hi s.length - b.lo)).toArray⟩) w := by
  have e : (ByteArray.mk s.toArray).size = s.length := by simp [ByteArray.size]
  have h1 := run_slice_bnds (P := P) (w := w) hr hb (Nat.le_refl s.length) h false
  simp [Instr.sliceAt, Instr.slice, run_underlying ht, e, h1, ByteArray.extract_mk]
def ORep (w : World) (ok : Nat → Prop) (β : Bt) (x : Option AV) (u : Option Value) : Prop := match x, u with | none, none => True | some x, some u => RepV w ok β x u | _, _ => False
theorem BndRep.of {w : World} {ok : Nat → Prop} {β : Bt} {lo hi : Option AV} {vl vh : Option Value} {b : Bnd} (hb : bnds lo hi = some b) (hl : ORep w ok β lo vl) (hh : ORep w ok β hi vh) : BndRep lo hi vl vh := by
  unfold bnds at hb
  split at hb
  · exact ⟨.inl ⟨rfl, by cases vl <;> simp_all [ORep]⟩, .inl ⟨rfl, by cases vh <;> simp_all [ORep]⟩⟩
  · refine ⟨.inr ?_, .inl ⟨rfl, by cases vh <;> simp_all [ORep]⟩⟩
    cases vl with
    | none => exact hl.elim
    | some u => exact ⟨_, _, rfl, congrArg some (one_int (w := w) (ok := ok) (β := β) hl).1⟩
  · refine ⟨.inl ⟨rfl, by cases vl <;> simp_all [ORep]⟩, .inr ?_⟩
    cases vh with
    | none => exact hh.elim
    | some u => exact ⟨_, _, rfl, congrArg some (one_int (w := w) (ok := ok) (β := β) hh).1⟩
  · refine ⟨.inr ?_, .inr ?_⟩
    · cases vl with
      | none => exact hl.elim
      | some u => exact ⟨_, _, rfl, congrArg some (one_int (w := w) (ok := ok) (β := β) hl).1⟩
    · cases vh with
      | none => exact hh.elim
      | some u => exact ⟨_, _, rfl, congrArg some (one_int (w := w) (ok := ok) (β := β) hh).1⟩
  · cases hb
theorem add_if {A : Option Addr} {cap l S b o : Nat} (h : A = some ⟨b, o, none⟩) (hc : cap ≠ l) : (if cap = l then A else A.map (·.add (l * S))) = some ⟨b, o + l * S, none⟩ := by
  rw [if_neg hc, h]; simp [add_none]
theorem if_lo0 {A : Option Addr} {l S : Nat} {p : Prop} [Decidable p] (h : l = 0) : (if p then A else A.map (·.add (l * S))) = A := by
  subst h
  by_cases hp : p
  · rw [if_pos hp]
  · rw [if_neg hp]; cases A <;> simp [Addr.add]
theorem evSlice_sound (X : Ctx) {t : TypeId} {x : AV} {lo hi mx : Option AV} {K : AV → Prop} (h : evSlice X t x lo hi mx K) :
    ∃ v, K v ∧ (∀ id ∈ v.refs, id ∈ x.refs) ∧ ∀ w ok β u vl vh, RepV w ok β x u → ORep w ok β lo vl → ORep w ok β hi vh → Gives X w ok β (Instr.sliceAt t u vl vh (mx.map fun _ => undef)) v := by
  unfold evSlice at h
  split at h
  · rename_i b _ _ _ hb hT
    obtain ⟨ht, _⟩ := tinf_spec hT
    split at h
    · rename_i s
      have key : b.ok s.length ∧ K (vS ((s.drop b.lo).take (b.hi s.length - b.lo))) := by
        cases b <;> simp only [evSlStr] at h <;> simp only [Bnd.ok, Bnd.lo, Bnd.hi]
        · simpa using h
        · refine ⟨⟨h.1, h.2.1⟩, ?_⟩
          rw [List.take_of_length_le (by rw [List.length_drop]; omega)]
          exact h.2.2
        · refine ⟨⟨h.1, h.2.1⟩, ?_⟩
          simpa using h.2.2
        · exact ⟨⟨h.1, h.2.1, h.2.2.1⟩, h.2.2.2⟩
      refine ⟨_, key.2, fun id hid => by simp [AV.refs, AC.refs] at hid, fun w ok β u vl vh hu hl hh => ?_⟩
      obtain ⟨rfl, hlen⟩ := one_str hu
      exact ⟨_, run_slice_str ht (BndRep.of hb hl hh) hb key.1, .str _ (by rw [List.length_take, List.length_drop]; omega)⟩
    · exact h.elim
  · rename_i b e _ _ _ hb hT
    obtain ⟨ht, _⟩ := tinf_spec hT
    split at h
    · rename_i T hT2
      obtain ⟨_, I, hi', hs, _⟩ := tinf_spec hT2
      split at h
      · rename_i n cells
        by_cases hall : b = .all
        · subst hall
          refine ⟨_, h, fun id hid => hid, fun w ok β u vl vh hu hl hh => ?_⟩
          obtain ⟨A, cap, rfl, hn, _⟩ := one_sl hu
          refine ⟨_, run_slice_slice ht hi' (BndRep.of hb hl hh) hb hn trivial, ?_⟩
          have e : ∀ A', A' = A → RepV w ok β (vP (.sl n cells)) (.slice A' n cap) := by rintro _ rfl; exact hu
          simp only [Bnd.lo, Bnd.hi, Nat.sub_zero]
          exact e _ (if_lo0 (l := 0) rfl)
        · have key : b.ok n ∧ cells.length = n * T.size ∧ K (vP (.sl (b.hi n - b.lo) ((cells.drop (b.lo * T.size)).take ((b.hi n - b.lo) * T.size)))) := by
            cases b <;> simp only [evSlPv] at h <;> simp only [Bnd.ok, Bnd.lo, Bnd.hi]
            · exact absurd rfl hall
            · refine ⟨⟨h.1, h.2.1⟩, h.2.2.1, ?_⟩
              rw [List.take_of_length_le (by rw [List.length_drop, h.2.2.1, Nat.sub_mul]; omega)]
              exact h.2.2.2
            · refine ⟨⟨h.1, h.2.1⟩, h.2.2.1, ?_⟩
              simpa using h.2.2.2
            · exact ⟨⟨h.1, h.2.1, h.2.2.1⟩, h.2.2.2.1, h.2.2.2.2⟩
          obtain ⟨hok, hlen, hK⟩ := key
          have hsp := Bnd.ok_spec hok
          refine ⟨_, hK, fun id hid => by simp [AV.refs, AC.refs] at hid, fun w ok β u vl vh hu hl hh => ?_⟩
          obtain ⟨A, cap, rfl, hn, hz, _, h2⟩ := one_sl hu
          refine ⟨_, run_slice_slice ht hi' (BndRep.of hb hl hh) hb hn hok, ?_⟩
          rw [hs]
          show RepP w ok _ _
          by_cases h0 : b.hi n - b.lo = 0
          · rw [h0]; simp only [Nat.zero_mul, List.take_zero]; exact .sl0 _ _
          · have hn0 : 0 < n := by omega
            obtain ⟨hcm, sz, b', o, rfl, hl', hok', hc⟩ := h2 hn0
            obtain rfl : sz = T.size := Nat.eq_of_mul_eq_mul_left hn0 (hl'.symm.trans hlen)
            rw [add_if rfl (by omega)]
            refine RepP.mk_sl (sz := T.size) (by omega) (by omega) ?_ fun _ => ⟨hok', fun j p hj => ?_⟩
            · rw [List.length_take, List.length_drop, hlen, ← Nat.sub_mul]
              exact Nat.min_eq_left (Nat.mul_le_mul_right _ (by omega))
            · rw [List.getElem?_take] at hj
              split at hj
              · rw [List.getElem?_drop] at hj
                obtain ⟨v, hv, hr⟩ := hc _ p hj
                exact ⟨v, by rw [Nat.add_assoc]; exact hv, hr⟩
              · cases hj
      · rename_i id sz n
        obtain ⟨rfl, h⟩ := h
        have key : b.ok n ∧ ((b.lo = 0 ∧ (∀ l, b ≠ .from l) ∧ (∀ l h, b ≠ .both l h) ∧ K (.one (.own id T.size (b.hi n)))) ∨ K (.one (.sub id T.size (b.lo * T.size) (b.hi n - b.lo)))) := by
          cases b <;> simp only [evSlOwn] at h <;> simp only [Bnd.ok, Bnd.lo, Bnd.hi]
          · exact ⟨trivial, .inl ⟨by first | rfl | trivial, by simp, by simp, h⟩⟩
          · exact ⟨⟨h.1, h.2.1⟩, .inr h.2.2⟩
          · exact ⟨⟨h.1, h.2.1⟩, .inl ⟨by first | rfl | trivial, by simp, by simp, h.2.2⟩⟩
          · exact ⟨⟨h.1, h.2.1, h.2.2.1⟩, .inr h.2.2.2⟩
        obtain ⟨hok, key⟩ := key
        have hsp := Bnd.ok_spec hok
        rcases key with ⟨h0, _, _, hK⟩ | hK
        · refine ⟨_, hK, fun id hid => hid, fun w ok β u vl vh hu hl hh => ?_⟩
          rcases hu with ⟨rfl, rfl⟩ | ⟨g, cap, hg, rfl, h1, h2, h3⟩
          · refine ⟨_, run_slice_slice ht hi' (BndRep.of hb hl hh) hb (Nat.le_refl 0) hok, .inl ⟨?_, by omega⟩⟩
            rw [h0, show b.hi 0 = 0 by omega]; simp
          · refine ⟨_, run_slice_slice ht hi' (BndRep.of hb hl hh) hb h1 hok, .inr ⟨g, cap, hg, ?_, by omega, h2, h3⟩⟩
            rw [h0]
            split <;> simp [Addr.add]
        · refine ⟨_, hK, fun id hid => hid, fun w ok β u vl vh hu hl hh => ?_⟩
          rcases hu with ⟨rfl, rfl⟩ | ⟨g, cap, hg, rfl, h1, h2, h3⟩
          · exact ⟨_, run_slice_slice ht hi' (BndRep.of hb hl hh) hb (Nat.le_refl 0) hok, _, _, rfl, by omega, by omega, .inl (by omega)⟩
          · refine ⟨_, run_slice_slice ht hi' (BndRep.of hb hl hh) hb h1 hok, _, _, rfl, by omega, by omega, ?_⟩
            by_cases h0 : b.hi n - b.lo = 0
            · exact .inl h0
            · exact .inr ⟨g, hg, by rw [hs, add_if rfl (by omega), Nat.zero_add]⟩
      · rename_i id sz off n
        obtain ⟨rfl, h⟩ := h
        have key : b.ok n ∧ K (.one (.sub id T.size (off + b.lo * T.size) (b.hi n - b.lo))) := by
          cases b <;> simp only [evSlSub] at h <;> simp only [Bnd.ok, Bnd.lo, Bnd.hi]
          · exact ⟨trivial, by simpa using h⟩
          · exact ⟨⟨h.1, h.2.1⟩, h.2.2⟩
          · exact ⟨⟨h.1, h.2.1⟩, by simpa using h.2.2⟩
          · exact ⟨⟨h.1, h.2.1, h.2.2.1⟩, h.2.2.2⟩
        obtain ⟨hok, hK⟩ := key
        have hsp := Bnd.ok_spec hok
        refine ⟨_, hK, fun id hid => hid, fun w ok β u vl vh hu hl hh => ?_⟩
        obtain ⟨A, cap, rfl, h1, h2, h3⟩ := hu
        refine ⟨_, run_slice_slice ht hi' (BndRep.of hb hl hh) hb h1 hok, _, _, rfl, by omega, by omega, ?_⟩
        by_cases h0 : b.hi n - b.lo = 0
        · exact .inl h0
        · rcases h3 with h3 | ⟨g, hg, rfl⟩
          · omega
          · exact .inr ⟨g, hg, by rw [hs, add_if rfl (by omega)]⟩
      · have key : b.ok 0 ∧ b.lo = 0 ∧ b.hi 0 = 0 ∧ K (vP .nil) := by
          cases b <;> simp only [evSlNil] at h <;> simp only [Bnd.ok, Bnd.lo, Bnd.hi]
          · exact ⟨trivial, by first | rfl | trivial, by first | rfl | trivial, h⟩
          · obtain ⟨rfl, h⟩ := h; exact ⟨⟨by omega, by omega⟩, by first | rfl | trivial | simp, by first | rfl | trivial | simp, h⟩
          · obtain ⟨rfl, h⟩ := h; exact ⟨⟨by omega, by omega⟩, by first | rfl | trivial | simp, by first | rfl | trivial | simp, h⟩
          · obtain ⟨rfl, rfl, h⟩ := h; exact ⟨⟨by omega, by omega, by omega⟩, by first | rfl | trivial | simp, by first | rfl | trivial | simp, h⟩
        obtain ⟨hok, hl0, hh0, hK⟩ := key
        refine ⟨_, hK, fun id hid => hid, fun w ok β u vl vh hu hl hh => ?_⟩
        obtain rfl := one_nil hu
        refine ⟨_, run_slice_slice ht hi' (BndRep.of hb hl hh) hb (Nat.le_refl 0) hok, ?_⟩
        rw [hl0, hh0]
        exact RepP.nil
      · exact h.elim
    · exact h.elim
  · exact h.elim
end Go.VL


namespace Go.VL
open Go.RowKit
set_option linter.unusedVariables false

def avCells : AV → Option (List AC)
  | .one c => some [c]
  | .agg cs => some cs
  | _ => none
theorem avCells_refs {x : AV} {cs : List AC} (h : avCells x = some cs) : x.refs = acRefs cs := by
  cases x <;> simp only [avCells, Option.some.injEq, reduceCtorEq] at h <;> subst h <;> simp [AV.refs, acRefs]
theorem cells_one {v : Value} (h : v.oneCell' = true) : v.cells = #[v] := by cases v <;> simp_all [Value.cells, Value.oneCell']
theorem avCells_rep {w : World} {ok : Nat → Prop} {β : Bt} {x : AV} {cs : List AC} {v : Value} (h : avCells x = some cs) (r : RepV w ok β x v) : RepL w ok β cs v.cells := by
  cases x <;> simp only [avCells, Option.some.injEq, reduceCtorEq] at h
  · subst h
    have r' : RepC w ok β _ v := r
    rw [cells_one r'.oneCell]
    refine ⟨rfl, fun j c hj => ?_⟩
    match j, hj with
    | 0, hj => simp at hj; subst hj; exact ⟨v, rfl, r'⟩
  · subst h
    obtain ⟨vs, rfl, hl⟩ := r
    exact hl
def setMany {α : Type} (l : List α) (off : Nat) (cs : List α) : List α := l.take off ++ cs ++ l.drop (off + cs.length)
theorem getElem?_setMany {α : Type} (l : List α) (off : Nat) (cs : List α) (h : off + cs.length ≤ l.length) (j : Nat) : (setMany l off cs)[j]? = if off ≤ j ∧ j < off + cs.length then cs[j - off]? else l[j]? := by
  unfold setMany
  rw [List.append_assoc, List.getElem?_append]
  have hl : (l.take off).length = off := by rw [List.length_take]; omega
  rw [hl]
  by_cases h1 : j < off
  · rw [if_pos h1, if_neg (by omega), List.getElem?_take, if_pos h1]
  · rw [if_neg h1, List.getElem?_append]
    by_cases h2 : j - off < cs.length
    · rw [if_pos h2, if_pos (by omega)]
    · rw [if_neg h2, if_neg (by omega), List.getElem?_drop]
      congr 1; omega
theorem length_setMany {α : Type} (l : List α) (off : Nat) (cs : List α) (h : off + cs.length ≤ l.length) : (setMany l off cs).length = l.length := by
  unfold setMany; simp; omega
theorem foldl_set (off : Nat) : ∀ (vs : List Value) (k : Nat) (arr : Array Value), off + k + vs.length ≤ arr.size →
    ((vs.zipIdx k).foldl (fun cs (c, j) => cs.setIfInBounds (off + j) c) arr).size = arr.size ∧
    ∀ i : Nat, ((vs.zipIdx k).foldl (fun cs (c, j) => cs.setIfInBounds (off + j) c) arr)[i]? = if off + k ≤ i ∧ i < off + k + vs.length then vs[i - (off + k)]? else arr[i]?
  | [], k, arr, _ => ⟨rfl, fun i => by rw [if_neg (by simp only [List.length_nil]; omega)]; rfl⟩
  | v :: vs, k, arr, h => by
    have ih := foldl_set off vs (k + 1) (arr.setIfInBounds (off + k) v) (by simp at h ⊢; omega)
    simp only [List.zipIdx_cons, List.foldl_cons]
    refine ⟨by rw [ih.1]; simp, fun i => ?_⟩
    rw [ih.2 i]
    simp only [List.length_cons] at h ⊢
    by_cases h1 : off + (k + 1) ≤ i ∧ i < off + (k + 1) + vs.length
    · rw [if_pos h1, if_pos (by omega)]
      rw [show i - (off + k) = (i - (off + (k + 1))) + 1 by omega, List.getElem?_cons_succ]
    · rw [if_neg h1]
      by_cases h2 : i = off + k
      · subst h2
        rw [if_pos (by omega), Nat.sub_self, List.getElem?_cons_zero, Array.getElem?_setIfInBounds_self_of_lt (by omega)]
      · rw [if_neg (by omega), Array.getElem?_setIfInBounds_ne (by omega)]
theorem RepL.setMany {w : World} {ok : Nat → Prop} {β : Bt} {cs ds : List AC} {arr vs : Array Value} {off : Nat} (h : RepL w ok β cs arr) (h2 : RepL w ok β ds vs) (hl : off + ds.length ≤ cs.length) :
    RepL w ok β (setMany cs off ds) (vs.zipIdx.foldl (fun cs (c, j) => cs.setIfInBounds (off + j) c) arr) := by
  have hv : vs.toList.length = ds.length := by rw [Array.length_toList]; exact h2.1
  have e : vs.zipIdx.foldl (fun cs (c, j) => cs.setIfInBounds (off + j) c) arr = (vs.toList.zipIdx 0).foldl (fun cs (c, j) => cs.setIfInBounds (off + j) c) arr := by
    rw [← Array.foldl_toList, Array.toList_zipIdx]
  obtain ⟨f1, f2⟩ := foldl_set off vs.toList 0 arr (by rw [hv, h.1]; omega)
  rw [e]
  refine ⟨by rw [f1, h.1, length_setMany _ _ _ hl], fun j c hj => ?_⟩
  rw [getElem?_setMany _ _ _ hl] at hj
  rw [f2 j]
  simp only [Nat.add_zero, hv]
  by_cases hc : off ≤ j ∧ j < off + ds.length
  · rw [if_pos hc] at hj ⊢
    obtain ⟨u, hu, hr⟩ := h2.2 _ c hj
    exact ⟨u, by simpa using hu, hr⟩
  · rw [if_neg hc] at hj ⊢
    exact h.2 j c hj
def fillA (place : Nat → Option (Nat × Nat)) : List AC → List (Nat × AV) → Option (List AC)
  | cells, [] => some cells
  | cells, (i, v) :: rest =>
    match place i, avCells v with
    | some (off, size), some cs => if cs.length = size ∧ off + cs.length ≤ cells.length then fillA place (setMany cells off cs) rest else none
    | _, _ => none
theorem fillA_refs {place : Nat → Option (Nat × Nat)} : ∀ {parts : List (Nat × AV)} {cells out : List AC}, fillA place cells parts = some out → ∀ id ∈ acRefs out, id ∈ acRefs cells ∨ ∃ p ∈ parts, id ∈ p.2.refs
  | [], cells, out, h, id, hid => by simp only [fillA, Option.some.injEq] at h; subst h; exact .inl hid
  | (i, v) :: rest, cells, out, h, id, hid => by
    simp only [fillA] at h
    split at h
    · rename_i off size cs hp hc
      split at h
      · rcases fillA_refs h id hid with h1 | ⟨p, hp', h1⟩
        · obtain ⟨c, hc', hi⟩ := List.mem_flatMap.1 h1
          unfold setMany at hc'
          rw [List.mem_append, List.mem_append] at hc'
          rcases hc' with (hc' | hc') | hc'
          · exact .inl (List.mem_flatMap.2 ⟨c, List.mem_of_mem_take hc', hi⟩)
          · exact .inr ⟨(i, v), by simp, by rw [avCells_refs hc]; exact List.mem_flatMap.2 ⟨c, hc', hi⟩⟩
          · exact .inl (List.mem_flatMap.2 ⟨c, List.mem_of_mem_drop hc', hi⟩)
        · exact .inr ⟨p, by simp [hp'], h1⟩
      · cases h
    · cases h
theorem fill_rep {w : World} {ok : Nat → Prop} {β : Bt} {place : Nat → Option (Nat × Nat)} : ∀ {parts : List (Nat × AV)} {vals : List (Nat × Value)} {cells out : List AC} {arr : Array Value}, fillA place cells parts = some out → RepL w ok β cells arr →
    parts.length = vals.length → (∀ (j : Nat) i x, parts[j]? = some (i, x) → ∃ v, vals[j]? = some (i, v) ∧ RepV w ok β x v) → ∃ arr', Instr.fill place arr vals = some arr' ∧ RepL w ok β out arr'
  | [], [], cells, out, arr, h, hr, _, _ => by simp only [fillA, Option.some.injEq] at h; subst h; exact ⟨arr, rfl, hr⟩
  | [], _ :: _, _, _, _, _, _, hl, _ => by simp at hl
  | _ :: _, [], _, _, _, _, _, hl, _ => by simp at hl
  | (i, x) :: parts, (i', v) :: vals, cells, out, arr, h, hr, hl, hp => by
    obtain ⟨v', hv', hrv⟩ := hp 0 i x rfl
    simp only [List.getElem?_cons_zero, Option.some.injEq, Prod.mk.injEq] at hv'
    obtain ⟨rfl, rfl⟩ := hv'
    simp only [fillA] at h
    split at h
    · rename_i off size cs hpl hc
      split at h
      · rename_i hcond
        have hcr := avCells_rep hc hrv
        have h1 := RepL.setMany hr hcr hcond.2
        obtain ⟨arr', h2, h3⟩ := fill_rep h h1 (by simpa using hl) (fun j i x hj => hp (j + 1) i x (by simpa using hj))
        refine ⟨arr', ?_, h3⟩
        simp only [Instr.fill, hpl]
        rw [if_neg (by have := hcr.1; have := hr.1; simp; omega)]
        exact h2
      · cases h
    · cases h
/-- The cells of a type's zero value. -/
def zeroCs (z : Value) : Option (List AC) := if z.cells.all Value.oneCell' = true then some (z.cells.toList.map ofCell) else none
theorem zeroCs_rep {w : World} {ok : Nat → Prop} {β : Bt} {z : Value} {cs : List AC} (h : zeroCs z = some cs) : RepL w ok β cs z.cells := by
  unfold zeroCs at h
  split at h
  · rename_i hc
    simp only [Option.some.injEq] at h
    subst h
    refine ⟨by simp, fun j c hj => ?_⟩
    rw [List.getElem?_map] at hj
    cases hu : z.cells.toList[j]? with
    | none => rw [hu] at hj; cases hj
    | some u =>
      rw [hu] at hj
      simp only [Option.map_some, Option.some.injEq] at hj
      subst hj
      refine ⟨u, by simpa using hu, ofCell_rep w ok β u ?_⟩
      rw [Array.all_eq_true_iff_forall_mem] at hc
      exact hc u (by simpa using List.mem_of_getElem? hu)
  · cases h
theorem ofCell_refs (v : Value) : (ofCell v).refs = [] := by
  unfold ofCell
  split <;> (try split) <;> rfl
theorem zeroCs_refs {z : Value} {cs : List AC} (h : zeroCs z = some cs) : acRefs cs = [] := by
  unfold zeroCs at h
  split at h
  · simp only [Option.some.injEq] at h
    subst h
    unfold acRefs
    rw [List.flatMap_eq_nil_iff]
    intro c hc
    obtain ⟨v, _, rfl⟩ := List.mem_map.1 hc
    exact ofCell_refs v
  · cases h
theorem ofVal_refs (v : Value) : (ofVal v).refs = [] := by
  unfold ofVal
  split
  · split
    · unfold AV.refs acRefs
      rw [List.flatMap_eq_nil_iff]
      intro c hc
      obtain ⟨v, _, rfl⟩ := List.mem_map.1 hc
      exact ofCell_refs v
    · rfl
  · rfl
  · exact ofCell_refs v
/-- Where a struct's fields lie. -/
def placesOf (P : Program) (fs : Array Field) (i : Nat) : Option (Nat × Nat) := match fs[i]? with
  | some F => (match tinf P F.type with | some T => some (F.offset, T.size) | none => none)
  | none => none
def allSized (P : Program) (fs : Array Field) : Bool := fs.all fun F => (tinf P F.type).isSome
def evBuild (X : Ctx) (t : TypeId) (parts : List (Nat × AV)) (K : AV → Prop) : Prop :=
  match tinf X.P t with
  | some ⟨.struct fs, _, _, some z⟩ =>
    allSized X.P fs = true ∧ (match zeroCs z with
     | some cs => (match fillA (placesOf X.P fs) cs parts with | some out => K (.agg out) | none => False)
     | none => False)
  | some ⟨.array _ e, _, _, some z⟩ =>
    (match tinf X.P e, zeroCs z with
     | some T, some cs => (match fillA (fun i => some (i * T.size, T.size)) cs parts with | some out => K (.agg out) | none => False)
     | _, _ => False)
  | _ => False
theorem mapM_places {P : Program} {w : World} : ∀ (fs : List Field), (fs.all fun F => (tinf P F.type).isSome) = true →
    ∃ ps : List (Nat × Nat), (fs.mapM fun f => (do pure (f.offset, ← sizeOf f.type) : Sem (Nat × Nat))).run P w = .ok ps w ∧ ∀ i : Nat, ps[i]? = match fs[i]? with | some F => (match tinf P F.type with | some T => some (F.offset, T.size) | none => none) | none => none
  | [], _ => ⟨[], by simp, fun i => by simp⟩
  | F :: fs, h => by
    simp only [List.all_cons, Bool.and_eq_true] at h
    obtain ⟨T, hT⟩ := Option.isSome_iff_exists.1 h.1
    obtain ⟨_, I, hi, hs, _⟩ := tinf_spec hT
    obtain ⟨ps, h1, h2⟩ := mapM_places (P := P) (w := w) fs h.2
    refine ⟨(F.offset, T.size) :: ps, ?_, fun i => ?_⟩
    · simp only [List.mapM_cons, Sem.run_bind, run_sizeOf hi, Result.andThen_ok, Sem.run_pure, h1, hs]
    · cases i with
      | zero => simp [hT]
      | succ i => simpa using h2 i
theorem evBuild_sound (X : Ctx) {t : TypeId} {parts : List (Nat × AV)} {K : AV → Prop} (h : evBuild X t parts K) :
    ∃ v, K v ∧ (∀ id ∈ v.refs, ∃ p ∈ parts, id ∈ p.2.refs) ∧ ∀ w ok β (vals : Array (Nat × Value)), parts.length = vals.size → (∀ (j : Nat) i x, parts[j]? = some (i, x) → ∃ v, vals[j]? = some (i, v) ∧ RepV w ok β x v) → Gives X w ok β (Instr.build t vals) v := by
  unfold evBuild at h
  split at h
  · rename_i fs _ _ z hT
    obtain ⟨ht, i, hi, _, _, hz⟩ := tinf_spec hT
    obtain ⟨ha, h⟩ := h
    split at h
    · rename_i cs hcs
      split at h
      · rename_i out hout
        refine ⟨_, h, fun id hid => ?_, fun w ok β vals hl hp => ?_⟩
        · rcases fillA_refs hout id hid with h1 | h1
          · rw [zeroCs_refs hcs] at h1; cases h1
          · exact h1
        · obtain ⟨ps, h1, h2⟩ := mapM_places (P := X.P) (w := w) fs.toList (by unfold allSized at ha; rw [← Array.all_toList] at ha; exact ha)
          have hpl : (fun i => ps.toArray[i]?) = placesOf X.P fs := by
            funext i
            simp only [List.getElem?_toArray, h2 i, placesOf, Array.getElem?_toList]
          obtain ⟨arr', h3, h4⟩ := fill_rep (w := w) (ok := ok) (β := β) (vals := vals.toList) hout (zeroCs_rep hcs) (by simpa using hl) (fun j i x hj => by simpa using hp j i x hj)
          refine ⟨.agg arr', ?_, arr', rfl, h4⟩
          have h5 : (fs.mapM fun f => (do pure (f.offset, ← sizeOf f.type) : Sem (Nat × Nat))).run X.P w = .ok ps.toArray w := by
            have e : fs = fs.toList.toArray := by simp
            rw [e, List.mapM_toArray]
            simp only [Sem.run_map, h1, Result.andThen_ok]
          simp only [Instr.build, Sem.run_bind, zeroValue, typeInfo, run_program, Result.andThen_ok, hi, Sem.run_pure, hz, run_underlying ht, h5]
          rw [hpl, h3]
          rfl
      · exact h.elim
    · exact h.elim
  · rename_i len e _ _ z hT
    obtain ⟨ht, i, hi, _, _, hz⟩ := tinf_spec hT
    split at h
    · rename_i T cs hT2 hcs
      obtain ⟨_, I, hi2, hs, _⟩ := tinf_spec hT2
      split at h
      · rename_i out hout
        refine ⟨_, h, fun id hid => ?_, fun w ok β vals hl hp => ?_⟩
        · rcases fillA_refs hout id hid with h1 | h1
          · rw [zeroCs_refs hcs] at h1; cases h1
          · exact h1
        · obtain ⟨arr', h3, h4⟩ := fill_rep (w := w) (ok := ok) (β := β) (vals := vals.toList) hout (zeroCs_rep hcs) (by simpa using hl) (fun j i x hj => by simpa using hp j i x hj)
          refine ⟨.agg arr', ?_, arr', rfl, h4⟩
          simp only [Instr.build, Sem.run_bind, zeroValue, typeInfo, run_program, Result.andThen_ok, hi, Sem.run_pure, hz, run_underlying ht, run_sizeOf hi2, hs]
          rw [h3]
          rfl
      · exact h.elim
    · exact h.elim
  · exact h.elim
end Go.VL


namespace Go.VL
open Go.RowKit
set_option linter.unusedVariables false

def evNilC (x : AV) (K : AV → Prop) : Prop :=
  match x with
  | .one (.ptr _ _) | .one (.pv (.pt _ _)) | .one (.pv (.clo _ _)) | .one (.clo _ _) => K x
  | _ => False
theorem evNilC_sound (X : Ctx) {x : AV} {K : AV → Prop} (h : evNilC x K) :
    K x ∧ ∀ w ok β u, RepV w ok β x u → (∃ a, u = .pointer (some a)) ∨ ∃ f vs, u = .func (.func f) #[] vs := by
  unfold evNilC at h
  split at h
  · refine ⟨h, fun w ok β u hu => ?_⟩
    obtain ⟨g, _, rfl⟩ := hu
    exact .inl ⟨_, rfl⟩
  · refine ⟨h, fun w ok β u hu => ?_⟩
    have hu' : RepP w ok _ u := hu
    cases hu'
    exact .inl ⟨_, rfl⟩
  · refine ⟨h, fun w ok β u hu => ?_⟩
    have hu' : RepP w ok _ u := hu
    cases hu'
    exact .inr ⟨_, _, rfl⟩
  · refine ⟨h, fun w ok β u hu => ?_⟩
    obtain ⟨vs, rfl, _⟩ := hu
    exact .inr ⟨_, _, rfl⟩
  · exact h.elim

def capOf : AV → Option Cap
  | .one (.pv p) => some (.pv p)
  | .one (.ptr id off) => some (.ptr id off)
  | _ => none
def capsOf : List AV → Option (List Cap)
  | [] => some []
  | x :: l => match capOf x, capsOf l with | some c, some cs => some (c :: cs) | _, _ => none
def pvsOfCaps : List Cap → Option (List PV)
  | [] => some []
  | .pv p :: l => (pvsOfCaps l).map (p :: ·)
  | _ => none
def evMkFn (fn : Fn) (first : List Operand) (caps : List AV) (K : AV → Prop) : Prop :=
  match fn, first, capsOf caps with
  | .func f, [], some cs => (match pvsOfCaps cs with | some ps => K (vP (.clo f ps)) | none => K (.one (.clo f cs)))
  | _, _, _ => False
theorem capsOf_rep {w : World} {ok : Nat → Prop} {β : Bt} : ∀ {xs : List AV} {cs : List Cap} {vs : List Value}, capsOf xs = some cs → xs.length = vs.length → (∀ (j : Nat) x, xs[j]? = some x → ∃ v, vs[j]? = some v ∧ RepV w ok β x v) →
    cs.length = vs.length ∧ ∀ (j : Nat) c, cs[j]? = some c → ∃ v, vs[j]? = some v ∧ RepCap w ok β c v
  | [], cs, [], h, _, _ => by simp only [capsOf, Option.some.injEq] at h; subst h; exact ⟨rfl, fun j c hj => by simp at hj⟩
  | [], _, _ :: _, _, hl, _ => by simp at hl
  | _ :: _, _, [], _, hl, _ => by simp at hl
  | x :: xs, cs, v :: vs, h, hl, hp => by
    simp only [capsOf] at h
    split at h
    · rename_i c cs' hc hcs
      simp only [Option.some.injEq] at h
      subst h
      obtain ⟨i1, i2⟩ := capsOf_rep (vs := vs) hcs (by simpa using hl) (fun j x hj => hp (j + 1) x (by simpa using hj))
      refine ⟨by simp [i1], fun j c' hj => ?_⟩
      cases j with
      | zero =>
        simp only [List.getElem?_cons_zero, Option.some.injEq] at hj
        subst hj
        obtain ⟨v', hv', hr⟩ := hp 0 x rfl
        refine ⟨v', hv', ?_⟩
        unfold capOf at hc
        split at hc <;> simp only [Option.some.injEq, reduceCtorEq] at hc <;> subst hc <;> exact hr
      | succ j => exact i2 j c' (by simpa using hj)
    · cases h
theorem capsOf_refs : ∀ {xs : List AV} {cs : List Cap}, capsOf xs = some cs → ∀ id ∈ cs.flatMap Cap.refs, ∃ x ∈ xs, id ∈ x.refs
  | [], cs, h, id, hid => by simp only [capsOf, Option.some.injEq] at h; subst h; simp at hid
  | x :: xs, cs, h, id, hid => by
    simp only [capsOf] at h
    split at h
    · rename_i c cs' hc hcs
      simp only [Option.some.injEq] at h
      subst h
      simp only [List.flatMap_cons, List.mem_append] at hid
      rcases hid with hid | hid
      · refine ⟨x, by simp, ?_⟩
        unfold capOf at hc
        split at hc <;> simp only [Option.some.injEq, reduceCtorEq] at hc <;> subst hc <;> (first | (simp [Cap.refs] at hid; done) | exact hid)
      · obtain ⟨y, hy, h1⟩ := capsOf_refs hcs id hid
        exact ⟨y, by simp [hy], h1⟩
    · cases h
theorem pvsOfCaps_spec : ∀ {cs : List Cap} {ps : List PV}, pvsOfCaps cs = some ps → cs = ps.map .pv
  | [], ps, h => by simp only [pvsOfCaps, Option.some.injEq] at h; subst h; rfl
  | .pv p :: l, ps, h => by
    simp only [pvsOfCaps, Option.map_eq_some_iff] at h
    obtain ⟨qs, hq, rfl⟩ := h
    rw [pvsOfCaps_spec hq]; rfl
  | .ptr _ _ :: l, ps, h => by simp [pvsOfCaps] at h
theorem evMkFn_sound (X : Ctx) {fn : Fn} {first : List Operand} {caps : List AV} {K : AV → Prop} (h : evMkFn fn first caps K) :
    ∃ v, K v ∧ (∀ id ∈ v.refs, ∃ x ∈ caps, id ∈ x.refs) ∧ first = [] ∧ ∀ w ok β (vs : Array Value), caps.length = vs.size → (∀ (j : Nat) x, caps[j]? = some x → ∃ v, vs[j]? = some v ∧ RepV w ok β x v) → RepV w ok β v (.func fn #[] vs) := by
  unfold evMkFn at h
  split at h
  · rename_i f cs hcs
    split at h
    · rename_i ps hps
      refine ⟨_, h, fun id hid => by simp [AV.refs, AC.refs] at hid, rfl, fun w ok β vs hl hp => ?_⟩
      obtain ⟨h1, h2⟩ := capsOf_rep (vs := vs.toList) hcs (by simpa using hl) (fun j x hj => by simpa using hp j x hj)
      have e := pvsOfCaps_spec hps
      subst e
      have h3 : ∀ (j : Nat) p, ps[j]? = some p → ∃ v, vs[j]? = some v ∧ RepP w ok p v := fun j p hj => by
        obtain ⟨v, hv, hr⟩ := h2 j (.pv p) (by simp [hj])
        exact ⟨v, by simpa using hv, hr⟩
      refine RepP.clo f ps vs (fun j => (vs[j]?).getD undef) (by simpa using h1.symm) (fun j p hj => ?_) (fun j p hj => ?_)
      · obtain ⟨v, hv, _⟩ := h3 j p hj; simp [hv]
      · obtain ⟨v, hv, hr⟩ := h3 j p hj; simp only [hv]; exact hr
    · refine ⟨_, h, fun id hid => capsOf_refs hcs id hid, rfl, fun w ok β vs hl hp => ?_⟩
      obtain ⟨h1, h2⟩ := capsOf_rep (vs := vs.toList) hcs (by simpa using hl) (fun j x hj => by simpa using hp j x hj)
      exact ⟨vs, rfl, by simpa using h1.symm, fun j c hj => by
        obtain ⟨v, hv, hr⟩ := h2 j c hj
        exact ⟨v, by simpa using hv, hr⟩⟩
  · exact h.elim

def evConv (X : Ctx) (s d : TypeId) (x : AV) (K : AV → Prop) : Prop :=
  match tinf X.P s, tinf X.P d, x with
  | some ⟨.int _, _, _, _⟩, some ⟨.int k, _, _, _⟩, .one (.pv (.int _ z)) => K (vP (.int k (k.wrap z)))
  | some ⟨.string, _, _, _⟩, some ⟨.string, _, _, _⟩, .one (.pv (.str l)) => K (vS l)
  | _, _, _ => False
theorem evConv_sound (X : Ctx) {s d : TypeId} {x : AV} {K : AV → Prop} (h : evConv X s d x K) : ∃ v, K v ∧ Acts1 X x (convert s d) v := by
  unfold evConv at h
  split at h
  · rename_i hs hd
    obtain ⟨h1, _⟩ := tinf_spec hs
    obtain ⟨h2, _⟩ := tinf_spec hd
    refine ⟨_, h, fun id hid => by simp [AV.refs, AC.refs] at hid, fun w ok β u hu => ?_⟩
    obtain ⟨rfl, _⟩ := one_int hu
    exact ⟨_, by simp only [convert, Sem.run_bind, run_underlying h1, run_underlying h2, Result.andThen_ok, Conv.intToInt]; rfl, .int _ _ (wrap_range _ _)⟩
  · rename_i hs hd
    obtain ⟨h1, _⟩ := tinf_spec hs
    obtain ⟨h2, _⟩ := tinf_spec hd
    refine ⟨_, h, fun id hid => by simp [AV.refs, AC.refs] at hid, fun w ok β u hu => ?_⟩
    obtain ⟨rfl, hl⟩ := one_str hu
    exact ⟨_, by simp only [convert, Sem.run_bind, run_underlying h1, run_underlying h2, Result.andThen_ok]; rfl, .str _ hl⟩
  · exact h.elim

/-- Tests that ask the type: bools, slices against nil, interfaces against nil. -/
def evEq (X : Ctx) (op : BinOp) (t : TypeId) (y' : Operand) (x y : AV) (K : AV → Prop) : Prop :=
  match op, tinf X.P t, x, y with
  | .eql, some ⟨.bool, _, _, _⟩, .one (.pv (.bool a)), .one (.pv (.bool b)) => K (vB (a == b))
  | .neq, some ⟨.bool, _, _, _⟩, .one (.pv (.bool a)), .one (.pv (.bool b)) => K (vB (!(a == b)))
  | .eql, some ⟨.slice _, _, _, _⟩, .one (.pv .nil), .one (.pv .nil) => K (vB true)
  | .neq, some ⟨.slice _, _, _, _⟩, .one (.pv .nil), .one (.pv .nil) => K (vB false)
  | .eql, some ⟨.slice _, _, _, _⟩, .one (.pv (.sl n _)), .one (.pv .nil) => (0 < n ∧ K (vB false)) ∨ K (.one .ub)
  | .neq, some ⟨.slice _, _, _, _⟩, .one (.pv (.sl n _)), .one (.pv .nil) => (0 < n ∧ K (vB true)) ∨ K (.one .ub)
  | .eql, some ⟨.interface _, _, _, _⟩, .one (.pv .ifc), .one (.pv (.lit .nilIface)) => K (vB false)
  | .neq, some ⟨.interface _, _, _, _⟩, .one (.pv .ifc), .one (.pv (.lit .nilIface)) => K (vB true)
  | .eql, some ⟨.interface _, _, _, _⟩, .one (.pv (.lit .nilIface)), .one (.pv (.lit .nilIface)) => (∃ v, y' = .const v) ∧ K (vB true)
  | .neq, some ⟨.interface _, _, _, _⟩, .one (.pv (.lit .nilIface)), .one (.pv (.lit .nilIface)) => (∃ v, y' = .const v) ∧ K (vB false)
  | _, _, _, _ => False
theorem one_lit {w : World} {ok : Nat → Prop} {β : Bt} {v u : Value} (h : RepV w ok β (.one (.pv (.lit v))) u) : u = v := by
  have h' : RepP w ok (.lit v) u := h
  cases h'; rfl
theorem eqIn_slice {P : Program} {w : World} (d : Nat) {t e : TypeId} (a : Option Addr) (l c : Nat) (h : P.underlying t = some (.slice e)) : (Op.equalIn (d + 1) t (.slice a l c) (.slice none 0 0)).run P w = .ok a.isNone w := by
  cases a <;> simp [Op.equalIn, run_underlying h]
theorem eqIn_ifc {P : Program} {w : World} (d : Nat) {t : TypeId} {ms : Array (String × TypeId)} (tx : TypeId) (v : Value) (h : P.underlying t = some (.interface ms)) : (Op.equalIn (d + 1) t (.iface tx v) .nilIface).run P w = .ok false w := by
  simp [Op.equalIn, run_underlying h]
theorem eqIn_nilnil {P : Program} {w : World} (d : Nat) {t : TypeId} {ms : Array (String × TypeId)} (h : P.underlying t = some (.interface ms)) : (Op.equalIn (d + 1) t .nilIface .nilIface).run P w = .ok true w := by
  simp [Op.equalIn, run_underlying h]
theorem bin_eql {P : Program} {w : World} {t : TypeId} {x' y' : Operand} {u u' : Value} {b : Bool} (hg : (eqGuard .eql t x' y' u u').run P w = .ok () w) (hb : binOp .eql t u u' = (do pure (.bool (← Op.equal t u u')))) (h : ∀ d, (Op.equalIn (d + 1) t u u').run P w = .ok b w) :
    (do eqGuard .eql t x' y' u u'; binOp .eql t u u' : Sem Value).run P w = .ok (.bool b) w := by
  have h' : (Op.equal t u u').run P w = .ok b w := h 9999
  rw [Sem.run_bind, hg, Result.andThen_ok, hb, Sem.run_bind, h']; rfl
theorem bin_neq {P : Program} {w : World} {t : TypeId} {x' y' : Operand} {u u' : Value} {b : Bool} (hg : (eqGuard .neq t x' y' u u').run P w = .ok () w) (hb : binOp .neq t u u' = (do pure (.bool (!(← Op.equal t u u'))))) (h : ∀ d, (Op.equalIn (d + 1) t u u').run P w = .ok b w) :
    (do eqGuard .neq t x' y' u u'; binOp .neq t u u' : Sem Value).run P w = .ok (.bool (!b)) w := by
  have h' : (Op.equal t u u').run P w = .ok b w := h 9999
  rw [Sem.run_bind, hg, Result.andThen_ok, hb, Sem.run_bind, h']; rfl
theorem guard_const {P : Program} {w : World} {op : BinOp} {t : TypeId} {x' : Operand} {v : Value} : (eqGuard op t x' (.const v) .nilIface .nilIface).run P w = .ok () w := by
  unfold eqGuard; cases op <;> simp
theorem evEq_sound (X : Ctx) {op : BinOp} {t : TypeId} {x' y' : Operand} {x y : AV} {K : AV → Prop} (h : evEq X op t y' x y K) :
    ∃ v, K v ∧ v.refs = [] ∧ ∀ w ok β u u', RepV w ok β x u → RepV w ok β y u' → Gives X w ok β (do eqGuard op t x' y' u u'; binOp op t u u') v := by
  unfold evEq at h
  split at h
  · rename_i hT
    obtain ⟨ht, _⟩ := tinf_spec hT
    refine ⟨_, h, rfl, fun w ok β u u' hu hu' => ?_⟩
    obtain rfl := one_bool hu
    obtain rfl := one_bool hu'
    exact ⟨_, by rw [Sem.run_bind, show (eqGuard .eql t x' y' (.bool _) (.bool _)).run X.P w = .ok () w from rfl, Result.andThen_ok, run_eql_bool _ _ _ _ ht], .bool _⟩
  · rename_i hT
    obtain ⟨ht, _⟩ := tinf_spec hT
    refine ⟨_, h, rfl, fun w ok β u u' hu hu' => ?_⟩
    obtain rfl := one_bool hu
    obtain rfl := one_bool hu'
    exact ⟨_, by rw [Sem.run_bind, show (eqGuard .neq t x' y' (.bool _) (.bool _)).run X.P w = .ok () w from rfl, Result.andThen_ok, run_neq_bool _ _ _ _ ht], .bool _⟩
  · rename_i hT
    obtain ⟨ht, _⟩ := tinf_spec hT
    refine ⟨_, h, rfl, fun w ok β u u' hu hu' => ?_⟩
    obtain rfl := one_nil hu
    obtain rfl := one_nil hu'
    exact ⟨.bool true, bin_eql rfl rfl fun d => eqIn_slice d _ _ _ ht, .bool _⟩
  · rename_i hT
    obtain ⟨ht, _⟩ := tinf_spec hT
    refine ⟨_, h, rfl, fun w ok β u u' hu hu' => ?_⟩
    obtain rfl := one_nil hu
    obtain rfl := one_nil hu'
    exact ⟨.bool false, bin_neq rfl rfl fun d => eqIn_slice d _ _ _ ht, .bool _⟩
  · rename_i n cells hT
    obtain ⟨ht, _⟩ := tinf_spec hT
    rcases h with h | h
    · refine ⟨_, h.2, rfl, fun w ok β u u' hu hu' => ?_⟩
      obtain ⟨A, cap, rfl, _, _, _, h2⟩ := one_sl hu
      obtain ⟨_, _, b, o, rfl, _⟩ := h2 h.1
      obtain rfl := one_nil hu'
      exact ⟨.bool false, bin_eql rfl rfl fun d => eqIn_slice d _ _ _ ht, .bool _⟩
    · refine ⟨_, h, rfl, fun w ok β u u' hu hu' => ?_⟩
      obtain ⟨A, cap, rfl, _⟩ := one_sl hu
      obtain rfl := one_nil hu'
      exact ⟨_, bin_eql rfl rfl fun d => eqIn_slice d _ _ _ ht, _, rfl⟩
  · rename_i n cells hT
    obtain ⟨ht, _⟩ := tinf_spec hT
    rcases h with h | h
    · refine ⟨_, h.2, rfl, fun w ok β u u' hu hu' => ?_⟩
      obtain ⟨A, cap, rfl, _, _, _, h2⟩ := one_sl hu
      obtain ⟨_, _, b, o, rfl, _⟩ := h2 h.1
      obtain rfl := one_nil hu'
      exact ⟨.bool true, bin_neq rfl rfl fun d => eqIn_slice d _ _ _ ht, .bool _⟩
    · refine ⟨_, h, rfl, fun w ok β u u' hu hu' => ?_⟩
      obtain ⟨A, cap, rfl, _⟩ := one_sl hu
      obtain rfl := one_nil hu'
      exact ⟨_, bin_neq rfl rfl fun d => eqIn_slice d _ _ _ ht, _, rfl⟩
  · rename_i hT
    obtain ⟨ht, _⟩ := tinf_spec hT
    refine ⟨_, h, rfl, fun w ok β u u' hu hu' => ?_⟩
    have hu2 : RepP w ok .ifc u := hu
    cases hu2
    obtain rfl := one_lit hu'
    exact ⟨.bool false, bin_eql rfl rfl fun d => eqIn_ifc d _ _ ht, .bool _⟩
  · rename_i hT
    obtain ⟨ht, _⟩ := tinf_spec hT
    refine ⟨_, h, rfl, fun w ok β u u' hu hu' => ?_⟩
    have hu2 : RepP w ok .ifc u := hu
    cases hu2
    obtain rfl := one_lit hu'
    exact ⟨.bool true, bin_neq rfl rfl fun d => eqIn_ifc d _ _ ht, .bool _⟩
  · rename_i hT
    obtain ⟨ht, _⟩ := tinf_spec hT
    obtain ⟨⟨v, rfl⟩, h⟩ := h
    refine ⟨_, h, rfl, fun w ok β u u' hu hu' => ?_⟩
    obtain rfl := one_lit hu
    obtain rfl := one_lit hu'
    exact ⟨.bool true, bin_eql guard_const rfl fun d => eqIn_nilnil d ht, .bool _⟩
  · rename_i hT
    obtain ⟨ht, _⟩ := tinf_spec hT
    obtain ⟨⟨v, rfl⟩, h⟩ := h
    refine ⟨_, h, rfl, fun w ok β u u' hu hu' => ?_⟩
    obtain rfl := one_lit hu
    obtain rfl := one_lit hu'
    exact ⟨.bool false, bin_neq guard_const rfl fun d => eqIn_nilnil d ht, .bool _⟩
  · exact h.elim

/-- A load through a pointer into what is read only. -/
def evLoadPv (X : Ctx) (t : TypeId) (cells : List PV) (off : Nat) (K : AV → Prop) : Prop :=
  match tinf X.P t with
  | some T => if isAggU T.u = true then off + T.size ≤ cells.length ∧ K (.agg (((cells.drop off).take T.size).map .pv)) else off < cells.length ∧ K (vP (cells.getD off .nil))
  | none => False
theorem loadCellsFrom_run {P : Program} {w : World} {b o : Nat} : ∀ (n i : Nat) (acc : Array Value), (∀ j, i ≤ j → j < i + n → ∃ v, w.cell? ⟨b, o + j, none⟩ = some v) →
    ∃ vs : List Value, (loadCellsFrom ⟨b, o, none⟩ i n acc).run P w = .ok (acc ++ vs.toArray) w ∧ vs.length = n ∧ ∀ j, j < n → vs[j]? = w.cell? ⟨b, o + (i + j), none⟩
  | 0, i, acc, _ => ⟨[], by simp [loadCellsFrom], rfl, fun j hj => by omega⟩
  | n + 1, i, acc, h => by
    obtain ⟨v, hv⟩ := h i (Nat.le_refl _) (by omega)
    obtain ⟨vs, h1, h2, h3⟩ := loadCellsFrom_run (P := P) n (i + 1) (acc.push v) (fun j h1 h2 => h j (by omega) (by omega))
    refine ⟨v :: vs, ?_, by simp [h2], fun j hj => ?_⟩
    · simp only [loadCellsFrom, Sem.run_bind, run_load, add_none, hv]
      simp only [Result.andThen_ok, h1]
      simp
    · cases j with
      | zero => simp [hv]
      | succ j => rw [List.getElem?_cons_succ, h3 j (by omega)]; congr 2; omega
theorem loadVar_agg {P : Program} {w : World} {t : TypeId} {u : TypeDesc} {i : TypeInfo} (hu : P.underlying t = some u) (hi : P.info? t = some i) (ha : isAggU u = true) {b o : Nat} (h : ∀ j, j < i.size → ∃ v, w.cell? ⟨b, o + j, none⟩ = some v) :
    ∃ vs : List Value, (loadVar t ⟨b, o, none⟩).run P w = .ok (.agg vs.toArray) w ∧ vs.length = i.size ∧ ∀ j, j < i.size → vs[j]? = w.cell? ⟨b, o + j, none⟩ := by
  obtain ⟨vs, h1, h2, h3⟩ := loadCellsFrom_run (P := P) (w := w) (b := b) (o := o) i.size 0 #[] (fun j _ hj => h j (by omega))
  refine ⟨vs, ?_, h2, fun j hj => by rw [h3 j hj, Nat.zero_add]⟩
  simp only [loadVar, Sem.run_bind, run_isAgg hu, ha, Result.andThen_ok, if_true, run_sizeOf hi, loadCells, h1, Sem.run_pure]
  simp
theorem loadVar_one {P : Program} {w : World} {t : TypeId} {u : TypeDesc} (hu : P.underlying t = some u) (ha : ¬ isAggU u = true) {b o : Nat} {v : Value} (h : w.cell? ⟨b, o, none⟩ = some v) : (loadVar t ⟨b, o, none⟩).run P w = .ok v w := by
  simp [loadVar, run_isAgg hu, ha, h]
theorem evLoadPv_sound (X : Ctx) {t : TypeId} {cells : List PV} {off : Nat} {K : AV → Prop} (h : evLoadPv X t cells off K) : ∃ v, K v ∧ v.refs = [] ∧ ∀ w ok β u, RepV w ok β (.one (.pv (.pt cells off))) u → Gives X w ok β (Instr.loadAt t u) v := by
  unfold evLoadPv at h
  split at h
  · rename_i T hT
    obtain ⟨hu, i, hi, hs, _⟩ := tinf_spec hT
    split at h
    · rename_i ha
      have hr : (AV.agg (((cells.drop off).take T.size).map AC.pv)).refs = [] := by
        unfold AV.refs acRefs
        rw [List.flatMap_eq_nil_iff]
        intro c hc
        obtain ⟨p, _, rfl⟩ := List.mem_map.1 hc
        rfl
      refine ⟨_, h.2, hr, fun w ok β u hu' => ?_⟩
      have hu2 : RepP w ok (.pt cells off) u := hu'
      cases hu2 with
      | pt b o _ _ vals hok hcell hrep =>
      have hc : ∀ j, j < T.size → ∃ p, cells[off + j]? = some p := fun j hj => ⟨_, List.getElem?_eq_getElem (by omega)⟩
      obtain ⟨vs, h1, h2, h3⟩ := loadVar_agg (P := X.P) (w := w) hu hi ha (b := b) (o := o + off) (fun j hj => by
        obtain ⟨p, hp⟩ := hc j (by omega)
        exact ⟨_, by rw [Nat.add_assoc]; exact hcell _ p hp⟩)
      refine ⟨.agg vs.toArray, by simp [Instr.loadAt, Instr.sureAddr, h1], vs.toArray, rfl, by simp [h2, hs]; omega, fun j c hj => ?_⟩
      rw [List.getElem?_map, List.getElem?_take] at hj
      split at hj
      · rename_i hjn
        rw [List.getElem?_drop] at hj
        cases hp : cells[off + j]? with
        | none => rw [hp] at hj; cases hj
        | some p =>
          rw [hp] at hj
          simp only [Option.map_some, Option.some.injEq] at hj
          subst hj
          refine ⟨vals (off + j), ?_, hrep _ p hp⟩
          rw [List.getElem?_toArray, h3 j (by omega), Nat.add_assoc]
          exact hcell _ p hp
      · cases hj
    · rename_i ha
      refine ⟨_, h.2, rfl, fun w ok β u hu' => ?_⟩
      have hu2 : RepP w ok (.pt cells off) u := hu'
      cases hu2 with
      | pt b o _ _ vals hok hcell hrep =>
      have hp : cells[off]? = some (cells.getD off .nil) := by rw [List.getD_eq_getElem?_getD, List.getElem?_eq_getElem h.1]; rfl
      exact ⟨vals off, by simp only [Instr.loadAt, Sem.run_bind, Instr.sureAddr, Sem.run_pure, Result.andThen_ok, loadVar_one hu ha (hcell off _ hp)], hrep off _ hp⟩
  · exact h.elim
end Go.VL


namespace Go.VL
open Go.RowKit
set_option linter.unusedVariables false

def evMM (mx : Bool) (x y : AV) (K : AV → Prop) : Prop :=
  match x, y with
  | .one (.pv (.int k a)), .one (.pv (.int k' b)) => k = k' ∧ K (vP (.int k (if mx = true then max a b else min a b)))
  | _, _ => False
def evMM3 (mx : Bool) (x y z : AV) (K : AV → Prop) : Prop := evMM mx x y fun v => evMM mx v z K
def evVal (X : Ctx) (op : Op) (ρ : Operand → AV) (K : AV → Prop) : Prop :=
  match op with
  | .move x | .assign x => K (ρ x)
  | .pick c a b => (match ρ c with | .one (.pv (.bool t)) => (t = true → K (ρ a)) ∧ (t = false → K (ρ b)) | _ => False)
  | .binOp op t x y _ => evBin op (ρ x) (ρ y) K ∨ evEq X op t y (ρ x) (ρ y) K
  | .unOp op _ x => evUn op (ρ x) K
  | .convert s d x => evConv X s d (ρ x) K
  | .build t parts => evBuild X t (parts.toList.map fun p => (p.1, ρ p.2)) K
  | .field t x f => evField X t (ρ x) f K
  | .extract x i => evExtract (ρ x) i K
  | .fieldAddr t x f => evFieldAddr X t (ρ x) f K
  | .indexAddr t x i => evIndexAddr X t (ρ x) (ρ i) K
  | .index t x i => evIndex X t (ρ x) (ρ i) K
  | .slice t x lo hi mx => evSlice X t (ρ x) (lo.map ρ) (hi.map ρ) (mx.map ρ) K
  | .nilCheck x => evNilC (ρ x) K
  | .makeFunc fn first caps => evMkFn fn first.toList (caps.toList.map ρ) K
  | .makeInterface t x => (match tinf X.P t with | some ⟨.interface _, _, _, _⟩ => False | some _ => K (vP .ifc) | none => False)
  | .load t x => (match ρ x with | .one (.pv (.pt cells off)) => evLoadPv X t cells off K | _ => False)
  | .call c => (match c.callee, c.args.toList, c.argTypes.toList with
    | .builtin .len, [x], [t] => evLen X t (ρ x) K
    | .builtin .min, [x, y], _ => evMM false (ρ x) (ρ y) K
    | .builtin .max, [x, y], _ => evMM true (ρ x) (ρ y) K
    | .builtin .min, [x, y, z], _ => evMM3 false (ρ x) (ρ y) (ρ z) K
    | .builtin .max, [x, y, z], _ => evMM3 true (ρ x) (ρ y) (ρ z) K
    | _, _, _ => False)
  | _ => False

def VOk (X : Ctx) (o : Oper) (ρ : Operand → AV) (v : AV) : Prop :=
  (∀ id ∈ v.refs, ∃ x ∈ o.op.operands.toList, id ∈ (ρ x).refs) ∧ ∀ w ok β (val : Operand → Value), (∀ x ∈ o.op.operands.toList, RepV w ok β (ρ x) (val x)) → ∃ u, (execOp val o).run X.P w = .ok (.value u) w ∧ RepV w ok β v u
theorem run_v {P : Program} {w : World} {s : Sem Value} {u : Value} (h : s.run P w = .ok u w) : (do pure (Next.value (← s)) : Sem Next).run P w = .ok (.value u) w := by
  rw [Sem.run_bind, h]; rfl
theorem toList_arr1 {α : Type} {a : Array α} {x : α} (h : a.toList = [x]) : a = #[x] := by cases a; simp_all
theorem toList_arr2 {α : Type} {a : Array α} {x y : α} (h : a.toList = [x, y]) : a = #[x, y] := by cases a; simp_all
theorem toList_arr3 {α : Type} {a : Array α} {x y z : α} (h : a.toList = [x, y, z]) : a = #[x, y, z] := by cases a; simp_all
theorem evMM_sound {mx : Bool} {x y : AV} {K : AV → Prop} (h : evMM mx x y K) :
    ∃ v, K v ∧ v.refs = [] ∧ ∀ (P : Program) w ok β u u', RepV w ok β x u → RepV w ok β y u' → ∃ r, (if mx = true then Builtin.max2 u u' else Builtin.min2 u u').run P w = .ok r w ∧ RepV w ok β v r := by
  unfold evMM at h
  split at h
  · rename_i k a k' b
    obtain ⟨rfl, h⟩ := h
    refine ⟨_, h, rfl, fun P w ok β u u' hu hu' => ?_⟩
    obtain ⟨rfl, h1⟩ := one_int hu
    obtain ⟨rfl, h2⟩ := one_int hu'
    cases mx with
    | true =>
      refine ⟨.int k (max a b), ?_, .int _ _ ?_⟩
      · simp only [if_true, Builtin.max2, Sem.run_pure]
        congr 2
        split <;> omega
      · simp only [if_true]; omega
    | false =>
      refine ⟨.int k (min a b), ?_, .int _ _ ?_⟩
      · simp only [Bool.false_eq_true, if_false, Builtin.min2, Sem.run_pure]
        congr 2
        split <;> omega
      · simp only [Bool.false_eq_true, if_false]; omega
  · exact h.elim
theorem exec_builtin {P : Program} {w : World} {val : Operand → Value} {o : Oper} {c : Call} {b : Builtin} (ho : o.op = .call c) (hc : c.callee = .builtin b) :
    (execOp val o).run P w = (builtin b c.argTypes o.type (c.args.map fun | .const _ => true | _ => false) (c.args.map val)).run P w := by
  unfold execOp
  rw [ho]
  simp only [resolve, hc, Sem.run_bind, Sem.run_pure, Result.andThen_ok, invoke]
  rfl
set_option maxHeartbeats 1000000 in
theorem evVal_sound (X : Ctx) {o : Oper} {ρ : Operand → AV} {K : AV → Prop} (h : evVal X o.op ρ K) : ∃ v, K v ∧ VOk X o ρ v := by
  obtain ⟨dst, op, type, pos, after, guard⟩ := o
  simp only at h
  unfold evVal at h
  split at h
  case h_1 x =>
    exact ⟨_, h, fun id hid => ⟨x, by simp [Op.operands], hid⟩, fun w ok β val hv => ⟨val x, rfl, hv x (by simp [Op.operands])⟩⟩
  case h_2 x =>
    exact ⟨_, h, fun id hid => ⟨x, by simp [Op.operands], hid⟩, fun w ok β val hv => ⟨val x, rfl, hv x (by simp [Op.operands])⟩⟩
  case h_3 c a b =>
    split at h
    · rename_i t ht
      cases t with
      | true =>
        refine ⟨_, h.1 rfl, fun id hid => ⟨a, by simp [Op.operands], hid⟩, fun w ok β val hv => ⟨val a, ?_, hv a (by simp [Op.operands])⟩⟩
        have hc := hv c (by simp [Op.operands])
        rw [ht] at hc
        simp [execOp, one_bool hc, asBool]
      | false =>
        refine ⟨_, h.2 rfl, fun id hid => ⟨b, by simp [Op.operands], hid⟩, fun w ok β val hv => ⟨val b, ?_, hv b (by simp [Op.operands])⟩⟩
        have hc := hv c (by simp [Op.operands])
        rw [ht] at hc
        simp [execOp, one_bool hc, asBool]
    · exact h.elim
  case h_4 op t x y yt =>
    rcases h with h | h
    · obtain ⟨v, hK, hr, hg⟩ := evBin_sound X (t := t) (ox := x) (oy := y) h
      exact ⟨v, hK, fun id hid => (by rw [hr] at hid; cases hid), fun w ok β val hv => by
        obtain ⟨u, h1, h2⟩ := hg w ok β _ _ (hv x (by simp [Op.operands])) (hv y (by simp [Op.operands]))
        exact ⟨u, run_v h1, h2⟩⟩
    · obtain ⟨v, hK, hr, hg⟩ := evEq_sound X (x' := x) h
      exact ⟨v, hK, fun id hid => (by rw [hr] at hid; cases hid), fun w ok β val hv => by
        obtain ⟨u, h1, h2⟩ := hg w ok β _ _ (hv x (by simp [Op.operands])) (hv y (by simp [Op.operands]))
        exact ⟨u, run_v h1, h2⟩⟩
  case h_5 op t x =>
    obtain ⟨v, hK, hr, hg⟩ := evUn_sound X h
    exact ⟨v, hK, fun id hid => ⟨x, by simp [Op.operands], hr id hid⟩, fun w ok β val hv => by
      obtain ⟨u, h1, h2⟩ := hg w ok β _ (hv x (by simp [Op.operands]))
      exact ⟨u, run_v h1, h2⟩⟩
  case h_6 s d x =>
    obtain ⟨v, hK, hr, hg⟩ := evConv_sound X h
    exact ⟨v, hK, fun id hid => ⟨x, by simp [Op.operands], hr id hid⟩, fun w ok β val hv => by
      obtain ⟨u, h1, h2⟩ := hg w ok β _ (hv x (by simp [Op.operands]))
      exact ⟨u, run_v h1, h2⟩⟩
  case h_7 t parts =>
    obtain ⟨v, hK, hr, hg⟩ := evBuild_sound X h
    refine ⟨v, hK, fun id hid => ?_, fun w ok β val hv => ?_⟩
    · obtain ⟨p, hp, hi⟩ := hr id hid
      obtain ⟨q, hq, rfl⟩ := List.mem_map.1 hp
      exact ⟨q.2, by simp only [Op.operands]; exact List.mem_map.2 ⟨q, hq, rfl⟩, hi⟩
    · obtain ⟨u, h1, h2⟩ := hg w ok β (parts.map fun (i, x) => (i, val x)) (by simp) (fun j i x hj => by
        rw [List.getElem?_map] at hj
        cases hq : parts.toList[j]? with
        | none => rw [hq] at hj; cases hj
        | some q =>
          rw [hq] at hj
          simp only [Option.map_some, Option.some.injEq, Prod.mk.injEq] at hj
          obtain ⟨rfl, rfl⟩ := hj
          have hq' : parts[j]? = some q := by simpa using hq
          exact ⟨val q.2, by simp [hq'], hv q.2 (by simp only [Op.operands]; exact List.mem_map.2 ⟨q, List.mem_of_getElem? hq, rfl⟩)⟩)
      exact ⟨u, run_v h1, h2⟩
  case h_8 t x f =>
    obtain ⟨v, hK, hr, hg⟩ := evField_sound X h
    exact ⟨v, hK, fun id hid => ⟨x, by simp [Op.operands], hr id hid⟩, fun w ok β val hv => by
      obtain ⟨u, h1, h2⟩ := hg w ok β _ (hv x (by simp [Op.operands]))
      exact ⟨u, run_v h1, h2⟩⟩
  case h_9 x i =>
    obtain ⟨v, hK, hr, hg⟩ := evExtract_sound X h
    exact ⟨v, hK, fun id hid => ⟨x, by simp [Op.operands], hr id hid⟩, fun w ok β val hv => by
      obtain ⟨u, h1, h2⟩ := hg w ok β _ (hv x (by simp [Op.operands]))
      exact ⟨u, run_v h1, h2⟩⟩
  case h_10 t x f =>
    obtain ⟨v, hK, hr, hg⟩ := evFieldAddr_sound X h
    exact ⟨v, hK, fun id hid => ⟨x, by simp [Op.operands], hr id hid⟩, fun w ok β val hv => by
      obtain ⟨u, h1, h2⟩ := hg w ok β _ (hv x (by simp [Op.operands]))
      exact ⟨u, run_v h1, h2⟩⟩
  case h_11 t x i =>
    obtain ⟨v, hK, hr, hg⟩ := evIndexAddr_sound X h
    exact ⟨v, hK, fun id hid => ⟨x, by simp [Op.operands], hr id hid⟩, fun w ok β val hv => by
      obtain ⟨u, h1, h2⟩ := hg w ok β _ _ (hv x (by simp [Op.operands])) (hv i (by simp [Op.operands]))
      exact ⟨u, run_v h1, h2⟩⟩
  case h_12 t x i =>
    obtain ⟨v, hK, hr, hg⟩ := evIndex_sound X h
    exact ⟨v, hK, fun id hid => ⟨x, by simp [Op.operands], hr id hid⟩, fun w ok β val hv => by
      obtain ⟨u, h1, h2⟩ := hg w ok β _ _ (hv x (by simp [Op.operands])) (hv i (by simp [Op.operands]))
      exact ⟨u, run_v h1, h2⟩⟩
  case h_13 t x lo hi mx =>
    have hmx : mx = none := by
      cases mx with
      | none => rfl
      | some m => simp [evSlice] at h
    subst hmx
    obtain ⟨v, hK, hr, hg⟩ := evSlice_sound X h
    refine ⟨v, hK, fun id hid => ⟨x, by simp [Op.operands], hr id hid⟩, fun w ok β val hv => ?_⟩
    obtain ⟨u, h1, h2⟩ := hg w ok β _ (lo.map val) (hi.map val) (hv x (by simp [Op.operands])) (by
      cases lo with
      | none => trivial
      | some l => exact hv l (by simp [Op.operands])) (by
      cases hi with
      | none => trivial
      | some l => exact hv l (by simp [Op.operands]))
    exact ⟨u, run_v h1, h2⟩
  case h_14 x =>
    obtain ⟨hK, hg⟩ := evNilC_sound X h
    refine ⟨_, hK, fun id hid => ⟨x, by simp [Op.operands], hid⟩, fun w ok β val hv => ⟨val x, ?_, hv x (by simp [Op.operands])⟩⟩
    rcases hg w ok β _ (hv x (by simp [Op.operands])) with ⟨a, ha⟩ | ⟨f, vs, ha⟩ <;> simp [execOp, ha]
  case h_15 fn first caps =>
    obtain ⟨v, hK, hr, hf, hg⟩ := evMkFn_sound X h
    refine ⟨v, hK, fun id hid => ?_, fun w ok β val hv => ?_⟩
    · obtain ⟨p, hp, hi⟩ := hr id hid
      obtain ⟨q, hq, rfl⟩ := List.mem_map.1 hp
      exact ⟨q, by simp only [Op.operands]; rw [Array.toList_append]; exact List.mem_append.2 (.inr hq), hi⟩
    · have hfe : first = #[] := by cases first; simp_all
      subst hfe
      refine ⟨.func fn #[] (caps.map val), by simp [execOp, Instr.makeFunc], hg w ok β _ (by simp) fun j x hj => ?_⟩
      rw [List.getElem?_map] at hj
      cases hq : caps.toList[j]? with
      | none => rw [hq] at hj; cases hj
      | some q =>
        rw [hq] at hj
        simp only [Option.map_some, Option.some.injEq] at hj
        subst hj
        have hq' : caps[j]? = some q := by simpa using hq
        exact ⟨val q, by simp [hq'], hv q (by simp only [Op.operands]; rw [Array.toList_append]; exact List.mem_append.2 (.inr (List.mem_of_getElem? hq)))⟩
  case h_16 t x =>
    split at h
    · exact h.elim
    · rename_i T hne hT
      obtain ⟨ht, _⟩ := tinf_spec hT
      refine ⟨_, h, fun id hid => by simp [AV.refs, AC.refs] at hid, fun w ok β val hv => ⟨.iface t (val x), ?_, .ifc _ _⟩⟩
      refine run_v ?_
      simp only [Instr.makeInterface, Sem.run_bind, run_underlying ht, Result.andThen_ok]
      obtain ⟨u, a, b, c⟩ := T
      cases u <;> first | rfl | exact absurd rfl (hne _ _ _ _)
    · exact h.elim
  case h_17 t x =>
    split at h
    · rename_i cells off hx
      obtain ⟨v, hK, hr, hg⟩ := evLoadPv_sound X h
      exact ⟨v, hK, fun id hid => (by rw [hr] at hid; cases hid), fun w ok β val hv => by
        obtain ⟨u, h1, h2⟩ := hg w ok β (val x) (by rw [← hx]; exact hv x (by simp [Op.operands]))
        exact ⟨u, run_v h1, h2⟩⟩
    · exact h.elim
  case h_18 c =>
    obtain ⟨callee, args, argTypes⟩ := c
    simp only at h
    split at h
    · rename_i x t ha ht
      obtain rfl := toList_arr1 ha
      obtain rfl := toList_arr1 ht
      obtain ⟨v, hK, hr, hg⟩ := evLen_sound X (ty := type) h
      exact ⟨v, hK, fun id hid => ⟨x, by simp [Op.operands, Call.operands], hr id hid⟩, fun w ok β val hv => by
        obtain ⟨u, h1, h2⟩ := hg w ok β _ (hv x (by simp [Op.operands, Call.operands]))
        exact ⟨u, by rw [exec_builtin rfl rfl]; exact run_v (by simpa using h1), h2⟩⟩
    · rename_i x y ha
      obtain rfl := toList_arr2 ha
      obtain ⟨v, hK, hr, hg⟩ := evMM_sound h
      exact ⟨v, hK, fun id hid => (by rw [hr] at hid; cases hid), fun w ok β val hv => by
        obtain ⟨u, h1, h2⟩ := hg X.P w ok β _ _ (hv x (by simp [Op.operands, Call.operands])) (hv y (by simp [Op.operands, Call.operands]))
        exact ⟨u, by rw [exec_builtin rfl rfl]; exact run_v (by simpa [Builtin.min_] using h1), h2⟩⟩
    · rename_i x y ha
      obtain rfl := toList_arr2 ha
      obtain ⟨v, hK, hr, hg⟩ := evMM_sound h
      exact ⟨v, hK, fun id hid => (by rw [hr] at hid; cases hid), fun w ok β val hv => by
        obtain ⟨u, h1, h2⟩ := hg X.P w ok β _ _ (hv x (by simp [Op.operands, Call.operands])) (hv y (by simp [Op.operands, Call.operands]))
        exact ⟨u, by rw [exec_builtin rfl rfl]; exact run_v (by simpa [Builtin.max_] using h1), h2⟩⟩
    · rename_i x y z ha
      obtain rfl := toList_arr3 ha
      obtain ⟨v1, h', hr1, hg1⟩ := evMM_sound h
      obtain ⟨v, hK, hr, hg⟩ := evMM_sound h'
      exact ⟨v, hK, fun id hid => (by rw [hr] at hid; cases hid), fun w ok β val hv => by
        obtain ⟨u1, h1, h2⟩ := hg1 X.P w ok β _ _ (hv x (by simp [Op.operands, Call.operands])) (hv y (by simp [Op.operands, Call.operands]))
        obtain ⟨u, h3, h4⟩ := hg X.P w ok β _ _ h2 (hv z (by simp [Op.operands, Call.operands]))
        simp only [Bool.false_eq_true, if_false] at h1 h3
        exact ⟨u, by rw [exec_builtin rfl rfl]; exact run_v (by simp [Builtin.min_, h1, h3]), h4⟩⟩
    · rename_i x y z ha
      obtain rfl := toList_arr3 ha
      obtain ⟨v1, h', hr1, hg1⟩ := evMM_sound h
      obtain ⟨v, hK, hr, hg⟩ := evMM_sound h'
      exact ⟨v, hK, fun id hid => (by rw [hr] at hid; cases hid), fun w ok β val hv => by
        obtain ⟨u1, h1, h2⟩ := hg1 X.P w ok β _ _ (hv x (by simp [Op.operands, Call.operands])) (hv y (by simp [Op.operands, Call.operands]))
        obtain ⟨u, h3, h4⟩ := hg X.P w ok β _ _ h2 (hv z (by simp [Op.operands, Call.operands]))
        simp only [if_true] at h1 h3
        exact ⟨u, by rw [exec_builtin rfl rfl]; exact run_v (by simp [Builtin.max_, h1, h3]), h4⟩⟩
    · exact h.elim
  case h_19 => exact h.elim
end Go.VL


namespace Go.VL
open Go.RowKit
set_option linter.unusedVariables false

def frzs (h : Hp) : List Nat → Hp
  | [] => h
  | z :: zs => frzs (frz h z) zs
theorem isSome_frzs : ∀ (zs : List Nat) (h : Hp) (i : Nat), (look (frzs h zs) i).isSome = (look h i).isSome
  | [], h, i => rfl
  | z :: zs, h, i => by rw [frzs, isSome_frzs zs, isSome_frz]
theorem look_frz_fst (h : Hp) (id i : Nat) : (look (frz h id) i).map (·.1) = (look h i).map (·.1) := by
  rw [look_frz]; split <;> simp [Function.comp_def]
theorem look_frzs_fst : ∀ (zs : List Nat) (h : Hp) (i : Nat), (look (frzs h zs) i).map (·.1) = (look h i).map (·.1)
  | [], h, i => rfl
  | z :: zs, h, i => by rw [frzs, look_frzs_fst zs, look_frz_fst]
theorem look_frzs_some : ∀ (zs : List Nat) {h : Hp} {i : Nat} {bx : Bx} {z : Bool}, look (frzs h zs) i = some (bx, z) → ∃ z', look h i = some (bx, z') ∧ (z = false → z' = false ∧ i ∉ zs)
  | [], h, i, bx, z, hl => ⟨z, hl, fun hz => ⟨hz, by simp⟩⟩
  | y :: zs, h, i, bx, z, hl => by
    rw [frzs] at hl
    obtain ⟨z1, h1, k1⟩ := look_frzs_some zs hl
    obtain ⟨z2, h2, k2⟩ := look_frz_some h1
    refine ⟨z2, h2, fun hz => ?_⟩
    obtain ⟨e1, n1⟩ := k1 hz
    obtain ⟨e2, n2⟩ := k2 e1
    exact ⟨e2, by simp [n1, n2]⟩
section
variable {X : Ctx} {F : Fr} {h : Hp} {β : Bt} {w w' : World}
theorem HRel.frzs (r : HRel X F h β w) : ∀ zs : List Nat, HRel X F (frzs h zs) β w := fun zs => by
  induction zs generalizing h with
  | nil => exact r
  | cons z zs ih => exact ih (r.frz z)
theorem ok_frzs {b : Nat} (zs : List Nat) (hb : F.ok w h β b) : F.ok w (frzs h zs) β b := by
  induction zs generalizing h with
  | nil => exact hb
  | cons z zs ih => exact ih (ok_frz hb)
/-- A frozen box lies where nothing is written. -/
theorem HRel.ok_frozen (r : HRel X F h β w) {zs : List Nat} {id g : Nat} (hid : id ∈ zs) (hs : (look h id).isSome = true) (hg : β id = some g) : F.ok w (Go.VL.frzs h zs) β g := by
  obtain ⟨e, he⟩ := Option.isSome_iff_exists.1 hs
  have hlt := r.lt he hg
  refine ⟨hlt.1, fun hb => .inr (hlt.2.resolve_left (by omega)), fun i bx hl e' => ?_⟩
  obtain ⟨z', h1, h2⟩ := look_frzs_some zs hl
  obtain ⟨_, hn⟩ := h2 rfl
  by_cases hi : i = id
  · subst hi; exact hn hid
  · exact r.inj i id _ _ g hi h1 he e' hg
end

/-- Arguments and results, read whole. -/
inductive PA where
  | one (p : PV)
  | agg (ps : List PV)
  | tup (xs : List (Bool × List PV))
def PA.av : PA → AV
  | .one p => .one (.pv p)
  | .agg ps => .agg (ps.map .pv)
  | .tup xs => .tup (xs.map fun x => (x.1, x.2.map .pv))
theorem acRefs_pv (ps : List PV) : acRefs (ps.map .pv) = [] := by
  unfold acRefs
  rw [List.flatMap_eq_nil_iff]
  intro c hc
  obtain ⟨p, _, rfl⟩ := List.mem_map.1 hc
  rfl
theorem PA.av_refs (pa : PA) : pa.av.refs = [] := by
  cases pa with
  | one p => rfl
  | agg ps => exact acRefs_pv ps
  | tup xs =>
    simp only [PA.av, AV.refs]
    rw [List.flatMap_eq_nil_iff]
    intro x hx
    obtain ⟨y, _, rfl⟩ := List.mem_map.1 hx
    exact acRefs_pv _
abbrev β0 : Bt := fun _ => none

def viewC1 (h : Hp) : AC → (PV → List Nat → Prop) → Prop
  | .pv p, K => (match p with | .nil => K (.sl 0 []) [] | p => K p [])
  | .own id sz n, K => (match look h id with | some (.pu _ l, _) => n * sz ≤ l.length ∧ K (.sl n (l.take (n * sz))) [id] | _ => False)
  | .sub id sz off n, K => (match look h id with | some (.pu _ l, _) => off + n * sz ≤ l.length ∧ K (.sl n ((l.drop off).take (n * sz))) [id] | _ => False)
  | _, _ => False
def viewL1 (h : Hp) : List AC → (List PV → List Nat → Prop) → Prop
  | [], K => K [] []
  | c :: cs, K => viewC1 h c fun p ids => viewL1 h cs fun ps ids' => K (p :: ps) (ids ++ ids')
def viewC (h : Hp) : AC → (PV → List Nat → Prop) → Prop
  | .ptr id off, K => (match look h id with
    | some (.pu _ l, _) => K (.pt l off) [id]
    | some (.mx cs, _) => viewL1 h cs fun ps ids => K (.pt ps off) (id :: ids)
    | none => False)
  | c, K => viewC1 h c K
def viewCap (h : Hp) : Cap → (PV → List Nat → Prop) → Prop
  | .pv p, K => K p []
  | .ptr id off, K => viewC h (.ptr id off) K
def viewCaps (h : Hp) : List Cap → (List PV → List Nat → Prop) → Prop
  | [], K => K [] []
  | c :: cs, K => viewCap h c fun p ids => viewCaps h cs fun ps ids' => K (p :: ps) (ids ++ ids')
def viewA (h : Hp) : AV → (PA → List Nat → Prop) → Prop
  | .one (.clo f caps), K => viewCaps h caps fun ps ids => K (.one (.clo f ps)) ids
  | .one c, K => viewC h c fun p ids => K (.one p) ids
  | .agg cs, K => viewL1 h cs fun ps ids => K (.agg ps) ids
  | _, _ => False
def viewAs (h : Hp) : List AV → (List PA → List Nat → Prop) → Prop
  | [], K => K [] []
  | x :: xs, K => viewA h x fun p ids => viewAs h xs fun ps ids' => K (p :: ps) (ids ++ ids')

/-- A later heap that holds the same in some boxes. -/
def Agree (h h2 : Hp) (ids : List Nat) : Prop := ∀ id ∈ ids, (look h2 id).map (·.1) = (look h id).map (·.1)
theorem Agree.mono {h h2 : Hp} {ids ids' : List Nat} (a : Agree h h2 ids) (s : ∀ id ∈ ids', id ∈ ids) : Agree h h2 ids' := fun id hid => a id (s id hid)
/-- What may be read: what the frame may read, and the boxes named. -/
structure Wide (X : Ctx) (F : Fr) (h : Hp) (β : Bt) (w : World) (ids : List Nat) (ok' : Nat → Prop) : Prop where
  rel : HRel X F h β w
  ok : ∀ b, F.ok w h β b → ok' b
  own : ∀ id ∈ ids, ∀ g, β id = some g → ok' g
theorem Wide.mono {X : Ctx} {F : Fr} {h : Hp} {β : Bt} {w : World} {ids ids' : List Nat} {ok' : Nat → Prop} (a : Wide X F h β w ids ok') (s : ∀ id ∈ ids', id ∈ ids) : Wide X F h β w ids' ok' :=
  ⟨a.rel, a.ok, fun id hid => a.own id (s id hid)⟩
def VwC (h : Hp) (c : AC) (p : PV) (ids : List Nat) : Prop := ∀ h2, Agree h h2 ids → ∀ X F β w ok' u, Wide X F h2 β w ids ok' → RepC w (F.ok w h2 β) β c u → RepP w ok' p u
theorem box_pu {X : Ctx} {F : Fr} {h : Hp} {β : Bt} {w : World} (r : HRel X F h β w) {id g : Nat} {e : TypeId} {l : List PV} {z : Bool} (hl : look h id = some (.pu e l, z)) (hg : β id = some g) :
    ∃ arr, w.heap[g]? = some (.cells arr e (0, 0)) ∧ ∀ (j : Nat) p, l[j]? = some p → ∃ v, arr[j]? = some v ∧ RepP w (F.ok w h β) p v := by
  have := r.box id _ z hl
  unfold BoxRep at this
  rw [hg] at this
  obtain ⟨_, arr, e', ha, he, hc⟩ := this
  obtain rfl := he e l rfl
  refine ⟨arr, ha, fun j p hj => ?_⟩
  obtain ⟨v, hv, hr⟩ := hc j (.pv p) (by simp [Bx.cells, hj])
  exact ⟨v, hv, hr⟩
theorem cell_arr {w : World} {g j : Nat} {arr : Array Value} {e : TypeId} (h : w.heap[g]? = some (.cells arr e (0, 0))) : w.cell? ⟨g, j, none⟩ = arr[j]? := cell_of_row w g j arr e (0, 0) h
theorem agree_pu {h h2 : Hp} {ids : List Nat} (a : Agree h h2 ids) {id : Nat} (hid : id ∈ ids) {bx : Bx} {z : Bool} (hl : look h id = some (bx, z)) : ∃ z', look h2 id = some (bx, z') := by
  have := a id hid
  rw [hl] at this
  cases h2' : look h2 id with
  | none => rw [h2'] at this; cases this
  | some e =>
    rw [h2'] at this
    simp only [Option.map_some, Option.some.injEq] at this
    exact ⟨e.2, by rw [← this]⟩
theorem viewC1_sound {h : Hp} {c : AC} {K : PV → List Nat → Prop} (hv : viewC1 h c K) : ∃ p ids, K p ids ∧ (∀ id ∈ ids, id ∈ c.refs) ∧ VwC h c p ids := by
  unfold viewC1 at hv
  split at hv
  · rename_i p
    split at hv
    · refine ⟨_, _, hv, fun id hid => by simp at hid, fun h2 _ X F β w ok' u hw hu => ?_⟩
      have hu' : RepP w (F.ok w h2 β) .nil u := hu
      cases hu'
      exact .sl0 _ _
    · refine ⟨_, _, hv, fun id hid => by simp at hid, fun h2 _ X F β w ok' u hw hu => ?_⟩
      exact RepP.mono (fun b hb => ⟨hw.ok b hb, rfl⟩) hu
  · rename_i id sz n
    split at hv
    · rename_i e l z hl
      refine ⟨_, _, hv.2, fun i hi => hi, fun h2 ha X F β w ok' u hw hu => ?_⟩
      obtain ⟨z', hl2⟩ := agree_pu ha (by simp) hl
      rcases hu with ⟨rfl, rfl⟩ | ⟨g, cap, hg, rfl, h1, h2', h3⟩
      · simp only [Nat.zero_mul, List.take_zero]; exact .sl0 _ _
      · obtain ⟨arr, harr, hc⟩ := box_pu hw.rel hl2 hg
        refine RepP.mk_sl (sz := sz) h1 h2' (by rw [List.length_take]; have := hv.1; omega) fun _ => ⟨hw.own id (by simp) g hg, fun j p hj => ?_⟩
        rw [List.getElem?_take] at hj
        split at hj
        · obtain ⟨v, hv', hr⟩ := hc j p hj
          exact ⟨v, by rw [cell_arr harr, Nat.zero_add]; exact hv', hr.mono fun b hb => ⟨hw.ok b hb, rfl⟩⟩
        · cases hj
    · exact hv.elim
  · rename_i id sz off n
    split at hv
    · rename_i e l z hl
      refine ⟨_, _, hv.2, fun i hi => hi, fun h2 ha X F β w ok' u hw hu => ?_⟩
      obtain ⟨z', hl2⟩ := agree_pu ha (by simp) hl
      obtain ⟨A, cap, rfl, h1, h2', h3⟩ := hu
      by_cases hn : n = 0
      · subst hn; simp only [Nat.zero_mul, List.take_zero]; exact .sl0 _ _
      · rcases h3 with h3 | ⟨g, hg, rfl⟩
        · exact absurd h3 hn
        · obtain ⟨arr, harr, hc⟩ := box_pu hw.rel hl2 hg
          refine RepP.mk_sl (sz := sz) h1 h2' (by rw [List.length_take, List.length_drop]; have := hv.1; omega) fun _ => ⟨hw.own id (by simp) g hg, fun j p hj => ?_⟩
          rw [List.getElem?_take] at hj
          split at hj
          · rw [List.getElem?_drop] at hj
            obtain ⟨v, hv', hr⟩ := hc _ p hj
            exact ⟨v, by rw [cell_arr harr]; exact hv', hr.mono fun b hb => ⟨hw.ok b hb, rfl⟩⟩
          · cases hj
    · exact hv.elim
  · exact hv.elim
/-- Cells, one by one. -/
def VwL (h : Hp) (cs : List AC) (ps : List PV) (ids : List Nat) : Prop := ps.length = cs.length ∧ ∀ h2, Agree h h2 ids → ∀ X F β w ok', Wide X F h2 β w ids ok' → ∀ (j : Nat) c p u, cs[j]? = some c → ps[j]? = some p → RepC w (F.ok w h2 β) β c u → RepP w ok' p u
theorem viewL1_sound {h : Hp} : ∀ {cs : List AC} {K : List PV → List Nat → Prop}, viewL1 h cs K → ∃ ps ids, K ps ids ∧ (∀ id ∈ ids, id ∈ acRefs cs) ∧ VwL h cs ps ids
  | [], K, hv => ⟨[], [], hv, fun id hid => by simp at hid, rfl, fun h2 _ X F β w ok' _ j c p u hj => by simp at hj⟩
  | c :: cs, K, hv => by
    obtain ⟨p, ids, h1, hr, hp⟩ := viewC1_sound hv
    obtain ⟨ps, ids', h2, hr', hl, hps⟩ := viewL1_sound h1
    refine ⟨_, _, h2, fun id hid => ?_, by simp [hl], fun h3 ha X F β w ok' hw j c' p' u hj hj' hu => ?_⟩
    · rw [List.mem_append] at hid
      unfold acRefs at hr' ⊢
      rw [List.flatMap_cons, List.mem_append]
      exact hid.imp (hr id) (hr' id)
    · have a1 := ha.mono (ids' := ids) (fun id hid => List.mem_append.2 (.inl hid))
      have a2 := ha.mono (ids' := ids') (fun id hid => List.mem_append.2 (.inr hid))
      have w1 := hw.mono (ids' := ids) (fun id hid => List.mem_append.2 (.inl hid))
      have w2 := hw.mono (ids' := ids') (fun id hid => List.mem_append.2 (.inr hid))
      cases j with
      | zero =>
        simp only [List.getElem?_cons_zero, Option.some.injEq] at hj hj'
        subst hj; subst hj'
        exact hp h3 a1 X F β w ok' u w1 hu
      | succ j => exact hps h3 a2 X F β w ok' w2 j c' p' u (by simpa using hj) (by simpa using hj') hu
theorem viewC_sound {h : Hp} {c : AC} {K : PV → List Nat → Prop} (hv : viewC h c K) (hwf : ∀ id bx z, look h id = some (bx, z) → ∀ i ∈ acRefs bx.cells, (look h i).isSome = true) (hc : ∀ id ∈ c.refs, (look h id).isSome = true) :
    ∃ p ids, K p ids ∧ (∀ id ∈ ids, (look h id).isSome = true) ∧ VwC h c p ids := by
  unfold viewC at hv
  split at hv
  · rename_i id off
    split at hv
    · rename_i e l z hl
      refine ⟨_, _, hv, fun i hi => hc i hi, fun h2 ha X F β w ok' u hw hu => ?_⟩
      obtain ⟨z', hl2⟩ := agree_pu ha (by simp) hl
      obtain ⟨g, hg, rfl⟩ := hu
      obtain ⟨arr, harr, hcl⟩ := box_pu hw.rel hl2 hg
      have hcl' : ∀ (j : Nat) p, l[j]? = some p → ∃ v, w.cell? ⟨g, 0 + j, none⟩ = some v ∧ RepP w ok' p v := fun j p hj => by
        obtain ⟨v, hv', hr⟩ := hcl j p hj
        exact ⟨v, by rw [cell_arr harr, Nat.zero_add]; exact hv', hr.mono fun b hb => ⟨hw.ok b hb, rfl⟩⟩
      have := RepP.pt (w := w) (ok := ok') g 0 off l _ (hw.own id (by simp) g hg) (vals_of hcl').1 (vals_of hcl').2
      rwa [Nat.zero_add] at this
    · rename_i cs z hl
      obtain ⟨ps, ids, h1, hr, hlen, hps⟩ := viewL1_sound hv
      refine ⟨_, _, h1, fun i hi => ?_, fun h2 ha X F β w ok' u hw hu => ?_⟩
      · rcases List.mem_cons.1 hi with rfl | hi
        · rw [hl]; rfl
        · exact hwf id _ z hl i (hr i hi)
      · obtain ⟨z', hl2⟩ := agree_pu ha (by simp) hl
        obtain ⟨g, hg, rfl⟩ := hu
        have hb := hw.rel.box id _ z' hl2
        unfold BoxRep at hb
        rw [hg] at hb
        obtain ⟨_, arr, e', harr, _, hcc⟩ := hb
        have hcl' : ∀ (j : Nat) p, ps[j]? = some p → ∃ v, w.cell? ⟨g, 0 + j, none⟩ = some v ∧ RepP w ok' p v := fun j p hj => by
          have hjl : j < cs.length := by rw [← hlen]; exact (List.getElem?_eq_some_iff.1 hj).1
          obtain ⟨v, hv', hr'⟩ := hcc j cs[j] (List.getElem?_eq_getElem hjl)
          exact ⟨v, by rw [cell_arr harr, Nat.zero_add]; exact hv', hps h2 (ha.mono fun i hi => List.mem_cons.2 (.inr hi)) X F β w ok' (hw.mono fun i hi => List.mem_cons.2 (.inr hi)) j _ p v (List.getElem?_eq_getElem hjl) hj hr'⟩
        have := RepP.pt (w := w) (ok := ok') g 0 off ps _ (hw.own id (by simp) g hg) (vals_of hcl').1 (vals_of hcl').2
        rwa [Nat.zero_add] at this
    · exact hv.elim
  · obtain ⟨p, ids, h1, hr, hp⟩ := viewC1_sound hv
    exact ⟨p, ids, h1, fun id hid => hc id (hr id hid), hp⟩
def VwCaps (h : Hp) (cs : List Cap) (ps : List PV) (ids : List Nat) : Prop := ps.length = cs.length ∧ ∀ h2, Agree h h2 ids → ∀ X F β w ok', Wide X F h2 β w ids ok' → ∀ (j : Nat) c p u, cs[j]? = some c → ps[j]? = some p → RepCap w (F.ok w h2 β) β c u → RepP w ok' p u
theorem viewCaps_sound {h : Hp} (hwf : ∀ id bx z, look h id = some (bx, z) → ∀ i ∈ acRefs bx.cells, (look h i).isSome = true) : ∀ {cs : List Cap} {K : List PV → List Nat → Prop}, viewCaps h cs K → (∀ id ∈ cs.flatMap Cap.refs, (look h id).isSome = true) →
    ∃ ps ids, K ps ids ∧ (∀ id ∈ ids, (look h id).isSome = true) ∧ VwCaps h cs ps ids
  | [], K, hv, _ => ⟨[], [], hv, fun id hid => by simp at hid, rfl, fun h2 _ X F β w ok' _ j c p u hj => by simp at hj⟩
  | c :: cs, K, hv, hc => by
    have hcap : ∃ p ids, viewCaps h cs (fun ps ids' => K (p :: ps) (ids ++ ids')) ∧ (∀ id ∈ ids, (look h id).isSome = true) ∧ ∀ h2, Agree h h2 ids → ∀ X F β w ok' u, Wide X F h2 β w ids ok' → RepCap w (F.ok w h2 β) β c u → RepP w ok' p u := by
      cases c with
      | pv p => exact ⟨p, [], hv, fun id hid => by simp at hid, fun h2 _ X F β w ok' u hw hu => RepP.mono (fun b hb => ⟨hw.ok b hb, rfl⟩) hu⟩
      | ptr id off =>
        obtain ⟨p, ids, h1, hr, hp⟩ := viewC_sound (c := .ptr id off) (show viewC h (.ptr id off) (fun p ids => viewCaps h cs fun ps ids' => K (p :: ps) (ids ++ ids')) from hv) hwf (fun i hi => hc i (by simp only [List.flatMap_cons, List.mem_append]; exact .inl hi))
        exact ⟨p, ids, h1, hr, hp⟩
    obtain ⟨p, ids, h1, hr, hp⟩ := hcap
    obtain ⟨ps, ids', h2, hr', hl, hps⟩ := viewCaps_sound hwf h1 (fun i hi => hc i (by simp only [List.flatMap_cons, List.mem_append]; exact .inr hi))
    refine ⟨_, _, h2, fun id hid => (List.mem_append.1 hid).elim (hr id) (hr' id), by simp [hl], fun h3 ha X F β w ok' hw j c' p' u hj hj' hu => ?_⟩
    cases j with
    | zero =>
      simp only [List.getElem?_cons_zero, Option.some.injEq] at hj hj'
      subst hj; subst hj'
      exact hp h3 (ha.mono fun id hid => List.mem_append.2 (.inl hid)) X F β w ok' u (hw.mono fun id hid => List.mem_append.2 (.inl hid)) hu
    | succ j => exact hps h3 (ha.mono fun id hid => List.mem_append.2 (.inr hid)) X F β w ok' (hw.mono fun id hid => List.mem_append.2 (.inr hid)) j c' p' u (by simpa using hj) (by simpa using hj') hu
def VwA (h : Hp) (x : AV) (p : PA) (ids : List Nat) : Prop := ∀ h2, Agree h h2 ids → ∀ X F β w ok' u, Wide X F h2 β w ids ok' → RepV w (F.ok w h2 β) β x u → RepV w ok' β0 p.av u
theorem repL_pv {w : World} {ok' : Nat → Prop} {ps : List PV} {vs : Array Value} (hl : vs.size = ps.length) (h : ∀ (j : Nat) p, ps[j]? = some p → ∃ u, vs[j]? = some u ∧ RepP w ok' p u) : RepL w ok' β0 (ps.map .pv) vs :=
  ⟨by simpa using hl, fun j c hj => by
    rw [List.getElem?_map] at hj
    cases hp : ps[j]? with
    | none => rw [hp] at hj; cases hj
    | some p =>
      rw [hp] at hj
      simp only [Option.map_some, Option.some.injEq] at hj
      subst hj
      exact h j p hp⟩
theorem viewA_sound {h : Hp} (hwf : ∀ id bx z, look h id = some (bx, z) → ∀ i ∈ acRefs bx.cells, (look h i).isSome = true) {x : AV} {K : PA → List Nat → Prop} (hv : viewA h x K) (hc : ∀ id ∈ x.refs, (look h id).isSome = true) :
    ∃ p ids, K p ids ∧ (∀ id ∈ ids, (look h id).isSome = true) ∧ VwA h x p ids := by
  unfold viewA at hv
  split at hv
  · rename_i f caps
    obtain ⟨ps, ids, h1, hr, hl, hps⟩ := viewCaps_sound hwf hv hc
    refine ⟨_, _, h1, hr, fun h2 ha X F β w ok' u hw hu => ?_⟩
    obtain ⟨vs, rfl, hs, hcc⟩ := hu
    have key : ∀ (j : Nat) p, ps[j]? = some p → ∃ v, vs[j]? = some v ∧ RepP w ok' p v := fun j p hj => by
      have hjl : j < caps.length := by rw [← hl]; exact (List.getElem?_eq_some_iff.1 hj).1
      obtain ⟨v, hv', hr'⟩ := hcc j caps[j] (List.getElem?_eq_getElem hjl)
      exact ⟨v, hv', hps h2 ha X F β w ok' hw j _ p v (List.getElem?_eq_getElem hjl) hj hr'⟩
    refine RepP.clo f ps vs (fun j => (vs[j]?).getD undef) (by rw [hs, hl]) (fun j p hj => ?_) (fun j p hj => ?_)
    · obtain ⟨v, hv, _⟩ := key j p hj; simp [hv]
    · obtain ⟨v, hv, hr⟩ := key j p hj; simp only [hv]; exact hr
  · obtain ⟨p, ids, h1, hr, hp⟩ := viewC_sound hv hwf hc
    exact ⟨_, _, h1, hr, hp⟩
  · rename_i cs
    obtain ⟨ps, ids, h1, hr, hl, hps⟩ := viewL1_sound hv
    refine ⟨_, _, h1, fun id hid => hc id (hr id hid), fun h2 ha X F β w ok' u hw hu => ?_⟩
    obtain ⟨vs, rfl, hs, hcc⟩ := hu
    refine ⟨vs, rfl, repL_pv (by rw [hs, hl]) fun j p hj => ?_⟩
    have hjl : j < cs.length := by rw [← hl]; exact (List.getElem?_eq_some_iff.1 hj).1
    obtain ⟨v, hv', hr'⟩ := hcc j cs[j] (List.getElem?_eq_getElem hjl)
    exact ⟨v, hv', hps h2 ha X F β w ok' hw j _ p v (List.getElem?_eq_getElem hjl) hj hr'⟩
  · exact hv.elim
def VwAs (h : Hp) (xs : List AV) (ps : List PA) (ids : List Nat) : Prop := ps.length = xs.length ∧ ∀ h2, Agree h h2 ids → ∀ X F β w ok', Wide X F h2 β w ids ok' → ∀ (j : Nat) x p u, xs[j]? = some x → ps[j]? = some p → RepV w (F.ok w h2 β) β x u → RepV w ok' β0 p.av u
theorem viewAs_sound {h : Hp} (hwf : ∀ id bx z, look h id = some (bx, z) → ∀ i ∈ acRefs bx.cells, (look h i).isSome = true) : ∀ {xs : List AV} {K : List PA → List Nat → Prop}, viewAs h xs K → (∀ x ∈ xs, ∀ id ∈ x.refs, (look h id).isSome = true) →
    ∃ ps ids, K ps ids ∧ (∀ id ∈ ids, (look h id).isSome = true) ∧ VwAs h xs ps ids
  | [], K, hv, _ => ⟨[], [], hv, fun id hid => by simp at hid, rfl, fun h2 _ X F β w ok' _ j c p u hj => by simp at hj⟩
  | x :: xs, K, hv, hc => by
    obtain ⟨p, ids, h1, hr, hp⟩ := viewA_sound hwf hv (hc x (by simp))
    obtain ⟨ps, ids', h2, hr', hl, hps⟩ := viewAs_sound hwf h1 (fun y hy => hc y (by simp [hy]))
    refine ⟨_, _, h2, fun id hid => (List.mem_append.1 hid).elim (hr id) (hr' id), by simp [hl], fun h3 ha X F β w ok' hw j c' p' u hj hj' hu => ?_⟩
    cases j with
    | zero =>
      simp only [List.getElem?_cons_zero, Option.some.injEq] at hj hj'
      subst hj; subst hj'
      exact hp h3 (ha.mono fun id hid => List.mem_append.2 (.inl hid)) X F β w ok' u (hw.mono fun id hid => List.mem_append.2 (.inl hid)) hu
    | succ j => exact hps h3 (ha.mono fun id hid => List.mem_append.2 (.inr hid)) X F β w ok' (hw.mono fun id hid => List.mem_append.2 (.inr hid)) j c' p' u (by simpa using hj) (by simpa using hj') hu
end Go.VL


namespace Go.VL
open Go.RowKit
set_option linter.unusedVariables false

structure Post (X : Ctx) (F : Fr) (h : Hp) (β : Bt) (w : World) (h' : Hp) (β' : Bt) (w' : World) (m : Option Nat) : Prop where
  rel : HRel X F h' β' w'
  keep : Keeps (fun i => (look h i).isSome = true ∧ m ≠ some i) w (F.ok w h β) β w' (F.ok w' h' β') β'
  dom : ∀ i, (look h i).isSome = true → (look h' i).isSome = true
def SemOp (X : Ctx) (o : Oper) (ρ : Operand → AV) (h : Hp) (v : AV) (h' : Hp) (m : Option Nat) : Prop :=
  ∀ F β w (a : Act), HRel X F h β w → (∀ x ∈ o.op.operands.toList, RepV w (F.ok w h β) β (ρ x) (a.eval x) ∧ ∀ id ∈ (ρ x).refs, (look h id).isSome = true) →
  ∀ (next : Act → World → Prop) (Q : Exit → Act → World → Prop),
    (∀ u w' β', Post X F h β w h' β' w' m → RepV w' (F.ok w' h' β') β' v u → (∀ id ∈ v.refs, (look h' id).isSome = true) → next (a.put o.dst u) w') → o.wp X.P a w next Q
def upd (h : Hp) (zs : List Nat) (add : Option (Nat × Bx)) : Hp :=
  match add with
  | none => frzs h zs
  | some (id, bx) => put (frzs h zs) id (bx, false)
/-- An operation that writes nothing: what it yields wherever the boxes that it reads hold the same; the boxes that it hands on, frozen; the box that it makes. -/
def NSem (X : Ctx) (o : Oper) (ρ : Operand → AV) (h : Hp) (v : AV) (rd zs : List Nat) (add : Option (Nat × Bx)) : Prop :=
  ∀ h2, Agree h h2 rd → (∀ id bx, add = some (id, bx) → look h2 id = none ∧ id < 1000) → SemOp X o ρ h2 v (upd h2 zs add) none
theorem agree_isSome {h h2 : Hp} {ids : List Nat} (a : Agree h h2 ids) {id : Nat} (hid : id ∈ ids) (hs : (look h id).isSome = true) : (look h2 id).isSome = true := by
  have := a id hid
  cases h1 : look h id with
  | none => rw [h1] at hs; cases hs
  | some e => rw [h1] at this; cases h2' : look h2 id with
    | none => rw [h2'] at this; cases this
    | some e => rfl
theorem Post.refl {X : Ctx} {F : Fr} {h : Hp} {β : Bt} {w : World} (r : HRel X F h β w) : Post X F h β w h β w none := ⟨r, Keeps.refl _ _ _, fun _ h => h⟩
theorem upon_wp {P : Program} {o : Oper} {a : Act} {w w' : World} {u : Value} {next : Act → World → Prop} {Q : Exit → Act → World → Prop} (h : (execOp a.eval o).run P w = .ok (.value u) w') (hn : next (a.put o.dst u) w') : o.wp P a w next Q := by
  unfold Oper.wp Oper.upon
  rw [h]; exact hn
theorem upon_skip {P : Program} {o : Oper} {a : Act} {w w' : World} {next : Act → World → Prop} {Q : Exit → Act → World → Prop} (h : (execOp a.eval o).run P w = .ok .skip w') (hn : next (a.put o.dst undef) w') : o.wp P a w next Q := by
  unfold Oper.wp Oper.upon
  rw [h]; exact hn
theorem VOk.nsem {X : Ctx} {o : Oper} {ρ : Operand → AV} {v : AV} (k : VOk X o ρ v) (h : Hp) : NSem X o ρ h v [] [] none := fun h2 _ _ F β w a r hv next Q hn => by
  obtain ⟨u, h1, h3⟩ := k.2 w (F.ok w h2 β) β a.eval fun x hx => (hv x hx).1
  exact upon_wp h1 (hn u w β (Post.refl r) h3 fun id hid => by
    obtain ⟨x, hx, hi⟩ := k.1 id hid
    exact (hv x hx).2 id hi)

/-! ### A load of an own box -/
def evLoadBx (X : Ctx) (t : TypeId) (h : Hp) (id off : Nat) (K : AV → Prop) : Prop :=
  match tinf X.P t, look h id with
  | some T, some (.mx cs, _) => if isAggU T.u = true then off + T.size ≤ cs.length ∧ K (.agg ((cs.drop off).take T.size)) else (match cs[off]? with | some c => K (.one c) | none => False)
  | some T, some (.pu _ l, _) => if isAggU T.u = true then off + T.size ≤ l.length ∧ K (.agg (((l.drop off).take T.size).map .pv)) else off < l.length ∧ K (vP (l.getD off .nil))
  | _, _ => False
/-- The same, told of the box's cells. -/
theorem evLoadBx_cells {X : Ctx} {t : TypeId} {h : Hp} {id off : Nat} {K : AV → Prop} (hv : evLoadBx X t h id off K) :
    ∃ T bx z v, tinf X.P t = some T ∧ look h id = some (bx, z) ∧ K v ∧ ((isAggU T.u = true ∧ off + T.size ≤ bx.cells.length ∧ v = .agg ((bx.cells.drop off).take T.size)) ∨ (¬ isAggU T.u = true ∧ ∃ c, bx.cells[off]? = some c ∧ v = .one c)) := by
  unfold evLoadBx at hv
  split at hv
  · rename_i T cs z hT hl
    split at hv
    · rename_i ha; exact ⟨T, _, z, _, hT, hl, hv.2, .inl ⟨ha, hv.1, rfl⟩⟩
    · rename_i ha
      split at hv
      · rename_i c hc; exact ⟨T, _, z, _, hT, hl, hv, .inr ⟨ha, c, hc, rfl⟩⟩
      · exact hv.elim
  · rename_i T e l z hT hl
    split at hv
    · rename_i ha
      exact ⟨T, _, z, _, hT, hl, hv.2, .inl ⟨ha, by simpa [Bx.cells] using hv.1, by simp [Bx.cells, List.map_take, List.map_drop]⟩⟩
    · rename_i ha
      exact ⟨T, _, z, _, hT, hl, hv.2, .inr ⟨ha, _, by simp [Bx.cells, List.getD_eq_getElem?_getD, hv.1], rfl⟩⟩
  · exact hv.elim
theorem evLoadBx_sound {X : Ctx} {o : Oper} {t : TypeId} {x : Operand} (ho : o.op = .load t x) {ρ : Operand → AV} {h : Hp} {id off : Nat} (hx : ρ x = .one (.ptr id off)) {K : AV → Prop} (hv : evLoadBx X t h id off K) :
    ∃ v, K v ∧ NSem X o ρ h v [id] [] none := by
  obtain ⟨T, bx, z, v, hT, hl, hK, hcase⟩ := evLoadBx_cells hv
  obtain ⟨hu, i, hi, hs, _⟩ := tinf_spec hT
  refine ⟨v, hK, fun h2 ha _ F β w a r hv' next Q hn => ?_⟩
  have hxm : x ∈ o.op.operands.toList := by rw [ho]; simp [Op.operands]
  obtain ⟨hxv, hxr⟩ := hv' x hxm
  rw [hx] at hxv
  obtain ⟨g, hg, hgv⟩ := hxv
  obtain ⟨z', hl2⟩ := agree_pu ha (by simp) hl
  have hb := r.box id bx z' hl2
  unfold BoxRep at hb
  rw [hg] at hb
  obtain ⟨_, arr, e, harr, _, hcells⟩ := hb
  have hex : execOp a.eval o = (do pure (Next.value (← Instr.loadAt t (.pointer (some ⟨g, off, none⟩)))) : Sem Next) := by
    unfold execOp; rw [ho]; simp only [hgv]
  rcases hcase with ⟨ha', hlen, rfl⟩ | ⟨ha', c, hc, rfl⟩
  · obtain ⟨vs, h1, h2', h3⟩ := loadVar_agg (P := X.P) (w := w) hu hi ha' (b := g) (o := off) (fun j hj => by
      obtain ⟨u, hu', _⟩ := hcells (off + j) _ (List.getElem?_eq_getElem (by omega))
      exact ⟨u, by rw [cell_arr harr]; exact hu'⟩)
    refine upon_wp (u := .agg vs.toArray) (w' := w) (by rw [hex]; exact run_v (by simp [Instr.loadAt, Instr.sureAddr, h1])) (hn _ w β (Post.refl r) ⟨vs.toArray, rfl, by simp [h2', hs]; omega, fun j c hj => ?_⟩ fun i hi => ?_)
    · rw [List.getElem?_take] at hj
      split at hj
      · rename_i hjn
        rw [List.getElem?_drop] at hj
        obtain ⟨u, hu', hr⟩ := hcells _ c hj
        refine ⟨u, ?_, hr⟩
        rw [List.getElem?_toArray, h3 j (by omega), cell_arr harr]
        exact hu'
      · cases hj
    · refine r.wf id bx z' hl2 i (acRefs_sub (fun c hc => List.mem_of_mem_drop (List.mem_of_mem_take hc)) i hi)
  · obtain ⟨u, hu', hr⟩ := hcells off c hc
    exact upon_wp (u := u) (w' := w) (by rw [hex]; exact run_v (by simp only [Instr.loadAt, Sem.run_bind, Instr.sureAddr, Sem.run_pure, Result.andThen_ok]; exact loadVar_one hu ha' (by rw [cell_arr harr]; exact hu'))) (hn u w β (Post.refl r) hr fun i hi => r.wf id bx z' hl2 i (List.mem_flatMap.2 ⟨c, List.mem_of_getElem? hc, hi⟩))

/-! ### A variable made -/
theorem post_add {X : Ctx} {F : Fr} {h : Hp} {β : Bt} {w : World} {id : Nat} {bx : Bx} {arr : Array Value} {e : TypeId} (r : HRel X F h β w) (hn : look h id = none ∧ id < 1000) (he : ∀ e' l, bx = .pu e' l → e' = e)
    (hc : ∀ (j : Nat) c, bx.cells[j]? = some c → ∃ u : Value, arr[j]? = some u ∧ RepC w (F.ok w h β) β c u) (hw : ∀ i ∈ acRefs bx.cells, (look h i).isSome = true) :
    Post X F h β w (put h id (bx, false)) (upd1 β id (some w.heap.size)) (w.alloc (.cells arr e)) none where
  rel := r.add hn.1 hn.2 he hc hw
  keep := by
    have := r.keeps_add (bx := bx) (o := .cells arr e) hn.1
    exact ⟨this.blk, fun i hi => this.ids i hi.1⟩
  dom := fun i hi => by rw [look_put]; split <;> simp_all
/-- Cells put into a new box. -/
theorem new_box {X : Ctx} {o : Oper} {ρ : Operand → AV} {h : Hp} {id : Nat} {cs : List AC} (e : TypeId)
    (hx : ∀ (F : Fr) (β : Bt) (w : World) (a : Act) (h2 : Hp), (∀ x ∈ o.op.operands.toList, RepV w (F.ok w h2 β) β (ρ x) (a.eval x) ∧ ∀ id ∈ (ρ x).refs, (look h2 id).isSome = true) →
      ∃ arr, (execOp a.eval o).run X.P w = .ok (.value (.pointer (some ⟨w.heap.size, 0, none⟩))) (w.alloc (.cells arr e)) ∧ RepL w (F.ok w h2 β) β cs arr ∧ ∀ i ∈ acRefs cs, (look h2 i).isSome = true) :
    NSem X o ρ h (.one (.ptr id 0)) [] [] (some (id, .mx cs)) := fun h2 _ hn F β w a r hv next Q hnx => by
  obtain ⟨arr, h1, h3, h4⟩ := hx F β w a h2 hv
  refine upon_wp h1 (hnx _ _ (upd1 β id (some w.heap.size)) (post_add r (hn id _ rfl) (fun e' l he => by cases he) h3.2 h4) ⟨w.heap.size, by simp [upd1], rfl⟩ fun i hi => ?_)
  simp only [AV.refs, AC.refs, List.mem_singleton] at hi
  subst hi
  show (look (put h2 i (Bx.mx cs, false)) i).isSome = true
  rw [look_put]; simp
def evBox (X : Ctx) (x : AV) (h : Hp) (nx : Nat) (K : List Nat → List Nat → Option (Nat × Bx) → AV → Prop) : Prop :=
  match avCells x with
  | some cs => look h nx = none ∧ K [] [] (some (nx, .mx cs)) (.one (.ptr nx 0))
  | none => False
theorem run_box {P : Program} {w : World} {t : TypeId} {v : Value} : (Instr.box t v).run P w = .ok (.pointer (some ⟨w.heap.size, 0, none⟩)) (w.alloc (.cells v.cells t)) := by
  simp [Instr.box, newVar, newRow]
def evAlloc (X : Ctx) (t : TypeId) (h : Hp) (nx : Nat) (K : List Nat → List Nat → Option (Nat × Bx) → AV → Prop) : Prop :=
  match tinf X.P t with
  | some ⟨_, _, _, some z⟩ => (match zeroCs z with | some cs => look h nx = none ∧ K [] [] (some (nx, .mx cs)) (.one (.ptr nx 0)) | none => False)
  | _ => False

/-! ### A slice made -/
def zeroPvs (z : Value) : Option (List PV) := (zeroCs z).bind fun cs => cs.foldr (fun c l => match c, l with | .pv p, some l => some (p :: l) | _, _ => none) (some [])
theorem zeroPvs_spec {z : Value} {ps : List PV} (h : zeroPvs z = some ps) : zeroCs z = some (ps.map .pv) := by
  unfold zeroPvs at h
  cases hc : zeroCs z with
  | none => rw [hc] at h; cases h
  | some cs =>
    rw [hc] at h
    simp only [Option.bind_some] at h
    clear hc
    congr 1
    induction cs generalizing ps with
    | nil => simp only [List.foldr_nil, Option.some.injEq] at h; subst h; rfl
    | cons c cs ih =>
      simp only [List.foldr_cons] at h
      split at h
      · rename_i p l hl
        simp only [Option.some.injEq] at h
        subst h
        rw [ih hl]; rfl
      · cases h
def repCells (n : Nat) (ps : List PV) : List PV := match ps with
  | [p] => List.replicate n p
  | ps => (List.replicate n ps).flatten
theorem repCells_get {n : Nat} {ps : List PV} (hp : 0 < ps.length) : (repCells n ps).length = n * ps.length ∧ ∀ j, j < n * ps.length → (repCells n ps)[j]? = ps[j % ps.length]? := by
  have key : ((List.replicate n ps).flatten).length = n * ps.length ∧ ∀ j, j < n * ps.length → ((List.replicate n ps).flatten)[j]? = ps[j % ps.length]? := by
    induction n with
    | zero => simp
    | succ n ih =>
      rw [List.replicate_succ, List.flatten_cons]
      refine ⟨by rw [List.length_append, ih.1, Nat.succ_mul]; omega, fun j hj => ?_⟩
      rw [List.getElem?_append]
      split
      · rename_i hlt; rw [Nat.mod_eq_of_lt hlt]
      · rename_i hge
        rw [ih.2 _ (by rw [Nat.succ_mul] at hj; omega), ← Nat.mod_eq_sub_mod (show ps.length ≤ j by omega)]
  unfold repCells
  split
  · rename_i p
    refine ⟨by simp, fun j hj => ?_⟩
    simp only [List.length_singleton, Nat.mul_one] at hj
    simp [hj, Nat.mod_one]
  · exact key
def evMake (X : Ctx) (t : TypeId) (ln cp : AV) (h : Hp) (nx : Nat) (K : List Nat → List Nat → Option (Nat × Bx) → AV → Prop) : Prop :=
  match tinf X.P t, ln, cp with
  | some ⟨.slice e, _, _, _⟩, .one (.pv (.int _ l)), .one (.pv (.int _ c)) =>
    (match tinf X.P e with
     | some ⟨_, S, B, some z⟩ => (match zeroPvs z with
       | some ps => ps.length = S ∧ 0 < S ∧ 0 ≤ l ∧ l ≤ c ∧ (B : Int) * c ≤ 281474976710656 ∧ c ≤ 9223372036854775807 ∧ look h nx = none ∧ K [] [] (some (nx, .pu e (repCells l.toNat ps))) (.one (.own nx S l.toNat))
       | none => False)
     | _ => False)
  | _, _, _ => False
theorem bsh_new {w : World} {arr : Array Value} {e : TypeId} : bsh (w.alloc (.cells arr e)) w.heap.size = (e, arr.size) := by
  unfold bsh; rw [heap_alloc_new]
theorem evMake_sound {X : Ctx} {o : Oper} {t : TypeId} {lo co : Operand} (ho : o.op = .makeSlice t lo co) {ρ : Operand → AV} {h : Hp} {nx : Nat} {K : List Nat → List Nat → Option (Nat × Bx) → AV → Prop} (hv : evMake X t (ρ lo) (ρ co) h nx K) :
    ∃ rd zs add v, K rd zs add v ∧ NSem X o ρ h v rd zs add := by
  unfold evMake at hv
  split at hv
  · rename_i e _ _ _ kl l kc c hT hlo hco
    obtain ⟨ht, _⟩ := tinf_spec hT
    split at hv
    · rename_i S B z hT2
      obtain ⟨_, i, hi, hs, hby, hz⟩ := tinf_spec hT2
      split at hv
      · rename_i ps hps
        obtain ⟨hl, hS, h0, hlc, hb, h63, _, hK⟩ := hv
        refine ⟨_, _, _, _, hK, fun h2 _ hn F β w a r hv' next Q hnx => ?_⟩
        have h1 := (hv' lo (by rw [ho]; simp [Op.operands])).1
        have h2' := (hv' co (by rw [ho]; simp [Op.operands])).1
        rw [hlo] at h1
        rw [hco] at h2'
        obtain ⟨e1, _⟩ := one_int h1
        obtain ⟨e2, _⟩ := one_int h2'
        simp only at hs hby hz
        have hr := run_make (P := X.P) w t e i z ht hi hz kl kc l c h0 hlc (by rw [hby]; exact hb) h63
        have hex : (execOp a.eval o).run X.P w = .ok (.value (.slice (some ⟨w.heap.size, 0, none⟩) l.toNat c.toNat)) (w.alloc (.cells (madeCells z.cells (c.toNat * i.size)) e)) := by
          unfold execOp; rw [ho]; simp only [e1, e2]
          rw [Sem.run_bind, hr]; rfl
        have hzr := zeroCs_rep (w := w) (ok := F.ok w h2 β) (β := β) (zeroPvs_spec hps)
        have hzl : z.cells.size = S := by rw [hzr.1, List.length_map, hl]
        have hg := repCells_get (n := l.toNat) (ps := ps) (by omega)
        have hle : l.toNat * S ≤ c.toNat * S := Nat.mul_le_mul_right _ (by omega)
        refine upon_wp hex (hnx _ _ (upd1 β nx (some w.heap.size)) (post_add r (hn nx _ rfl) (fun e' l he => by cases he; rfl) (fun j cc hj => ?_) (fun i hi' => ?_)) (.inr ⟨w.heap.size, c.toNat, by simp [upd1], rfl, by omega, by show _ ≤ 9223372036854775807; omega, ?_⟩) fun i hi' => ?_)
        · simp only [Bx.cells, List.getElem?_map] at hj
          cases hp : (repCells l.toNat ps)[j]? with
          | none => rw [hp] at hj; cases hj
          | some p =>
            rw [hp] at hj
            simp only [Option.map_some, Option.some.injEq] at hj
            subst hj
            have hjl : j < l.toNat * ps.length := by rw [← hg.1]; exact (List.getElem?_eq_some_iff.1 hp).1
            rw [hg.2 j hjl] at hp
            obtain ⟨u, hu, hr'⟩ := hzr.2 (j % ps.length) (.pv p) (by simp [hp])
            refine ⟨u, ?_, hr'⟩
            have hjc : j < c.toNat * i.size := by rw [hs]; rw [hl] at hjl; omega
            have : z.cells[j % z.cells.size]! = u := by rw [getElem!_def, hzl, ← hl, hu]
            show (madeCells z.cells (c.toNat * i.size))[j]? = some u
            unfold madeCells
            rw [Array.getElem?_map, Array.getElem?_range, if_pos hjc]
            simp only [Option.map_some, this]
        · simp only [Bx.cells] at hi'
          rw [acRefs_pv] at hi'; cases hi'
        · rw [bsh_new, size_madeCells, hs]
        · simp only [AV.refs, AC.refs, List.mem_singleton] at hi'
          subst hi'
          show (look (put h2 i _) i).isSome = true
          rw [look_put]; simp
      · exact hv.elim
    · exact hv.elim
  · exact hv.elim
end Go.VL


namespace Go.VL
open Go.RowKit
set_option linter.unusedVariables false

theorem evBox_sound {X : Ctx} {o : Oper} {t : TypeId} {x : Operand} (ho : o.op = .box t x) {ρ : Operand → AV} {h : Hp} {nx : Nat} {K : List Nat → List Nat → Option (Nat × Bx) → AV → Prop} (hv : evBox X (ρ x) h nx K) :
    ∃ rd zs add v, K rd zs add v ∧ NSem X o ρ h v rd zs add := by
  unfold evBox at hv
  split at hv
  · rename_i cs hcs
    refine ⟨_, _, _, _, hv.2, new_box t fun F β w a h2 hv' => ?_⟩
    obtain ⟨h1, h3⟩ := hv' x (by rw [ho]; simp [Op.operands])
    refine ⟨(a.eval x).cells, ?_, avCells_rep hcs h1, fun i hi => h3 i (by rw [avCells_refs hcs]; exact hi)⟩
    unfold execOp; rw [ho]; simp only
    rw [Sem.run_bind, run_box]; rfl
  · exact hv.elim
theorem evAlloc_sound {X : Ctx} {o : Oper} {t : TypeId} (ho : o.op = .alloc t) {ρ : Operand → AV} {h : Hp} {nx : Nat} {K : List Nat → List Nat → Option (Nat × Bx) → AV → Prop} (hv : evAlloc X t h nx K) :
    ∃ rd zs add v, K rd zs add v ∧ NSem X o ρ h v rd zs add := by
  unfold evAlloc at hv
  split at hv
  · rename_i z hT
    obtain ⟨ht, i, hi, _, _, hz⟩ := tinf_spec hT
    split at hv
    · rename_i cs hcs
      refine ⟨_, _, _, _, hv.2, new_box t fun F β w a h2 hv' => ?_⟩
      refine ⟨z.cells, ?_, zeroCs_rep hcs, fun i hi => by rw [zeroCs_refs hcs] at hi; cases hi⟩
      unfold execOp; rw [ho]; simp only
      have : (Instr.alloc t true (.tuple #[])).run X.P w = .ok (.pointer (some ⟨w.heap.size, 0, none⟩)) (w.alloc (.cells z.cells t)) := by
        simp [Instr.alloc, zeroValue, typeInfo, hi, hz, newVar, newRow]
      rw [Sem.run_bind, this]; rfl
    · exact hv.elim
  · exact hv.elim

/-! ### What is handed on, as one row of cells -/
def viewX (h : Hp) (x : AV) (K : List PV → List Nat → Prop) : Prop := viewA h x fun p ids => match p with | .one p => K [p] ids | .agg ps => K ps ids | .tup _ => False
def VwX (h : Hp) (x : AV) (ps : List PV) (ids : List Nat) : Prop := ∀ h2, Agree h h2 ids → ∀ X F β w ok' u, Wide X F h2 β w ids ok' → RepV w (F.ok w h2 β) β x u → RepL w ok' β0 (ps.map .pv) u.cells
theorem viewX_sound {h : Hp} (hwf : ∀ id bx z, look h id = some (bx, z) → ∀ i ∈ acRefs bx.cells, (look h i).isSome = true) {x : AV} {K : List PV → List Nat → Prop} (hv : viewX h x K) (hc : ∀ id ∈ x.refs, (look h id).isSome = true) :
    ∃ ps ids, K ps ids ∧ (∀ id ∈ ids, (look h id).isSome = true) ∧ VwX h x ps ids := by
  obtain ⟨p, ids, h1, h2, h3⟩ := viewA_sound hwf hv hc
  cases p with
  | one p =>
    refine ⟨_, _, h1, h2, fun h4 ha X F β w ok' u hw hu => ?_⟩
    have hr := h3 h4 ha X F β w ok' u hw hu
    have hr' : RepP w ok' p u := hr
    rw [cells_one hr'.oneCell]
    exact repL_pv rfl fun j q hj => by
      match j, hj with
      | 0, hj => simp at hj; subst hj; exact ⟨u, rfl, hr'⟩
  | agg ps =>
    refine ⟨_, _, h1, h2, fun h4 ha X F β w ok' u hw hu => ?_⟩
    obtain ⟨vs, rfl, hl⟩ := h3 h4 ha X F β w ok' u hw hu
    exact hl
  | tup xs => exact h1.elim
theorem Post.frzs {X : Ctx} {F : Fr} {h : Hp} {β : Bt} {w : World} (r : HRel X F h β w) (zs : List Nat) : Post X F h β w (frzs h zs) β w none :=
  ⟨r.frzs zs, ⟨fun b hb => ⟨ok_frzs zs hb, rfl⟩, fun _ _ => ⟨rfl, fun _ _ => rfl⟩⟩, fun i hi => by rw [isSome_frzs]; exact hi⟩
theorem Post.trans {X : Ctx} {F : Fr} {h h1 h2 : Hp} {β β1 β2 : Bt} {w w1 w2 : World} {m : Option Nat} (p : Post X F h β w h1 β1 w1 none) (q : Post X F h1 β1 w1 h2 β2 w2 m) : Post X F h β w h2 β2 w2 m where
  rel := q.rel
  keep := ⟨fun b hb => by
      obtain ⟨a1, a2⟩ := p.keep.blk b hb
      obtain ⟨b1, b2⟩ := q.keep.blk b a1
      exact ⟨b1, b2.trans a2⟩, fun i hi => by
      obtain ⟨a1, a2⟩ := p.keep.ids i ⟨hi.1, by simp⟩
      obtain ⟨b1, b2⟩ := q.keep.ids i ⟨p.dom i hi.1, hi.2⟩
      exact ⟨b1.trans a1, fun g hg => (b2 g (by rw [a1]; exact hg)).trans (a2 g hg)⟩⟩
  dom := fun i hi => q.dom i (p.dom i hi)
theorem look_isSome_none {h : Hp} {zs : List Nat} {id : Nat} (hn : look h id = none) : look (frzs h zs) id = none := by
  have := isSome_frzs zs h id
  rw [hn] at this
  cases hl : look (frzs h zs) id with
  | none => rfl
  | some e => rw [hl] at this; cases this
theorem wide_frzs {X : Ctx} {F : Fr} {h : Hp} {β : Bt} {w : World} (r : HRel X F h β w) {ids : List Nat} (hs : ∀ id ∈ ids, (look h id).isSome = true) : Wide X F h β w ids (F.ok w (frzs h ids) β) :=
  ⟨r, fun b hb => ok_frzs ids hb, fun id hid g hg => r.ok_frozen hid (hs id hid) hg⟩
theorem repC_pv_any {w : World} {ok : Nat → Prop} {β : Bt} {ps : List PV} {vs : Array Value} (h : RepL w ok β0 (ps.map .pv) vs) : RepL w ok β (ps.map .pv) vs :=
  ⟨h.1, fun j c hj => by
    obtain ⟨u, hu, hr⟩ := h.2 j c hj
    rw [List.getElem?_map] at hj
    cases hp : ps[j]? with
    | none => rw [hp] at hj; cases hj
    | some p =>
      rw [hp] at hj
      simp only [Option.map_some, Option.some.injEq] at hj
      subst hj
      exact ⟨u, hu, hr⟩⟩

/-! ### A slice made out of its parts -/
def viewParts (h : Hp) (S : Nat) : Nat → List (Nat × AV) → (List PV → List Nat → Prop) → Prop
  | _, [], K => K [] []
  | k, (i, x) :: rest, K => i = k ∧ viewX h x fun ps ids => ps.length = S ∧ viewParts h S (k + 1) rest fun qs ids' => K (ps ++ qs) (ids ++ ids')
def evBSl (X : Ctx) (t : TypeId) (len : Nat) (parts : List (Nat × AV)) (h : Hp) (nx : Nat) (K : List Nat → List Nat → Option (Nat × Bx) → AV → Prop) : Prop :=
  match tinf X.P t with
  | some ⟨.slice e, _, _, _⟩ =>
    (match tinf X.P e with
     | some ⟨_, S, _, some z⟩ => (zeroCs z).isSome = true ∧ z.cells.size = S ∧ 0 < S ∧ len * S ≤ 16777216 ∧ parts.length = len ∧ look h nx = none ∧ viewParts h S 0 parts fun ps ids => K ids ids (some (nx, .pu e ps)) (.one (.own nx S len))
     | _ => False)
  | _ => False
/-- The parts as they are handed on. -/
def VwParts (h : Hp) (S k : Nat) (parts : List (Nat × AV)) (ps : List PV) (ids : List Nat) : Prop :=
  ps.length = parts.length * S ∧ ∀ h2, Agree h h2 ids → ∀ X F β w ok', Wide X F h2 β w ids ok' → ∀ (vals : List (Nat × Value)) (arr : Array Value), parts.length = vals.length → (∀ (j : Nat) i x, parts[j]? = some (i, x) → ∃ v, vals[j]? = some (i, v) ∧ RepV w (F.ok w h2 β) β x v) →
    arr.size = (k + parts.length) * S → ∃ arr', Instr.fill (fun i => some (i * S, S)) arr vals = some arr' ∧ arr'.size = arr.size ∧ (∀ j, j < k * S → arr'[j]? = arr[j]?) ∧ ∀ (j : Nat) p, ps[j]? = some p → ∃ u, arr'[k * S + j]? = some u ∧ RepP w ok' p u
theorem viewParts_sound {h : Hp} {S : Nat} (hwf : ∀ id bx z, look h id = some (bx, z) → ∀ i ∈ acRefs bx.cells, (look h i).isSome = true) : ∀ {parts : List (Nat × AV)} {k : Nat} {K : List PV → List Nat → Prop}, viewParts h S k parts K → (∀ p ∈ parts, ∀ id ∈ p.2.refs, (look h id).isSome = true) →
    ∃ ps ids, K ps ids ∧ (∀ id ∈ ids, (look h id).isSome = true) ∧ VwParts h S k parts ps ids
  | [], k, K, hv, _ => ⟨[], [], hv, fun id hid => by simp at hid, by simp, fun h2 _ X F β w ok' _ vals arr hl _ _ => ⟨arr, by cases vals with | nil => rfl | cons v vs => simp at hl, rfl, fun _ _ => rfl, fun j p hj => by simp at hj⟩⟩
  | (i, x) :: rest, k, K, hv, hc => by
    obtain ⟨rfl, hv⟩ := hv
    obtain ⟨ps, ids, ⟨hps, h1⟩, hr, hp⟩ := viewX_sound hwf hv (hc (i, x) (by simp))
    obtain ⟨qs, ids', h2, hr', hq, hrest⟩ := viewParts_sound hwf h1 (fun p hp => hc p (by simp [hp]))
    refine ⟨_, _, h2, fun id hid => (List.mem_append.1 hid).elim (hr id) (hr' id), by simp only [List.length_append, List.length_cons, hps, hq, Nat.add_mul]; omega, fun h3 ha X F β w ok' hw vals arr hl hvals harr => ?_⟩
    cases vals with
    | nil => simp at hl
    | cons v vals =>
      obtain ⟨v', hv', hrv⟩ := hvals 0 i x rfl
      simp only [List.getElem?_cons_zero, Option.some.injEq] at hv'
      subst hv'
      have hcells := hp h3 (ha.mono fun id hid => List.mem_append.2 (.inl hid)) X F β w ok' v' (hw.mono fun id hid => List.mem_append.2 (.inl hid)) hrv
      have hcs : v'.cells.size = S := by rw [hcells.1, List.length_map, hps]
      have hvl : v'.cells.toList.length = S := by rw [Array.length_toList]; exact hcs
      have hsz : arr.size = i * S + S + rest.length * S := by rw [harr, List.length_cons]; simp only [Nat.add_mul, Nat.one_mul]; omega
      obtain ⟨f1, f2⟩ := foldl_set (i * S) v'.cells.toList 0 arr (by rw [hvl]; omega)
      have e : v'.cells.zipIdx.foldl (fun cs (c, j) => cs.setIfInBounds (i * S + j) c) arr = (v'.cells.toList.zipIdx 0).foldl (fun cs (c, j) => cs.setIfInBounds (i * S + j) c) arr := by
        rw [← Array.foldl_toList, Array.toList_zipIdx]
      obtain ⟨arr', g1, g2, g3, g4⟩ := hrest h3 (ha.mono fun id hid => List.mem_append.2 (.inr hid)) X F β w ok' (hw.mono fun id hid => List.mem_append.2 (.inr hid)) vals ((v'.cells.toList.zipIdx 0).foldl (fun cs (c, j) => cs.setIfInBounds (i * S + j) c) arr)
        (by simpa using hl) (fun j i x hj => hvals (j + 1) i x (by simpa using hj)) (by rw [f1, hsz]; simp only [Nat.add_mul, Nat.one_mul])
      refine ⟨arr', ?_, g2.trans f1, fun j hj => ?_, fun j p hj => ?_⟩
      · simp only [Instr.fill]
        rw [if_neg (by simp; omega), e]
        exact g1
      · rw [g3 j (by rw [Nat.add_mul]; omega), f2 j, if_neg (by omega)]
      · rw [List.getElem?_append] at hj
        split at hj
        · rename_i hlt
          rw [hps] at hlt
          rw [g3 _ (by rw [Nat.add_mul, Nat.one_mul]; omega), f2 _, if_pos (by rw [hvl]; omega)]
          obtain ⟨u, hu, hru⟩ := hcells.2 j (.pv p) (by simp [hj])
          exact ⟨u, by rw [Nat.add_zero, Nat.add_sub_cancel_left]; simpa using hu, hru⟩
        · rename_i hge
          rw [hps] at hge hj
          obtain ⟨u, hu, hru⟩ := g4 (j - S) p hj
          refine ⟨u, ?_, hru⟩
          rw [← hu]; congr 1; rw [Nat.add_mul, Nat.one_mul]; omega
theorem evBSl_sound {X : Ctx} {o : Oper} {t : TypeId} {len : Nat} {parts : Array (Nat × Operand)} (ho : o.op = .buildSlice t len parts) {ρ : Operand → AV} {h : Hp} {nx : Nat} {K : List Nat → List Nat → Option (Nat × Bx) → AV → Prop}
    (hwf : ∀ id bx z, look h id = some (bx, z) → ∀ i ∈ acRefs bx.cells, (look h i).isSome = true) (hrf : ∀ x ∈ o.op.operands.toList, ∀ id ∈ (ρ x).refs, (look h id).isSome = true)
    (hv : evBSl X t len (parts.toList.map fun p => (p.1, ρ p.2)) h nx K) : ∃ rd zs add v, K rd zs add v ∧ NSem X o ρ h v rd zs add := by
  unfold evBSl at hv
  split at hv
  · rename_i e _ _ _ hT
    obtain ⟨ht, _⟩ := tinf_spec hT
    split at hv
    · rename_i S _ z hT2
      obtain ⟨_, i, hi, hs, _, hz⟩ := tinf_spec hT2
      simp only at hs hz
      obtain ⟨hzo, hzs, hS, hlim, hpl, _, hv⟩ := hv
      obtain ⟨ps, ids, hK, hr, hpsl, hp⟩ := viewParts_sound hwf hv (fun p hp id hid => by
        obtain ⟨q, hq, rfl⟩ := List.mem_map.1 hp
        exact hrf q.2 (by rw [ho]; simp only [Op.operands]; exact List.mem_map.2 ⟨q, hq, rfl⟩) id hid)
      refine ⟨_, _, _, _, hK, fun h2 ha hn F β w a r hv' next Q hnx => ?_⟩
      have hr2 : ∀ id ∈ ids, (look h2 id).isSome = true := fun id hid => agree_isSome ha hid (hr id hid)
      rw [List.length_map] at hpl
      obtain ⟨arr', g1, g2, _, g4⟩ := hp h2 ha X F β w _ (wide_frzs r hr2) (parts.toList.map fun p => (p.1, a.eval p.2)) (madeCells (if len * S = 0 then #[] else z.cells) (len * S)) (by simp) (fun j i x hj => by
        rw [List.getElem?_map] at hj
        cases hq : parts.toList[j]? with
        | none => rw [hq] at hj; cases hj
        | some q =>
          rw [hq] at hj
          simp only [Option.map_some, Option.some.injEq, Prod.mk.injEq] at hj
          obtain ⟨rfl, rfl⟩ := hj
          exact ⟨a.eval q.2, by simp [hq], (hv' q.2 (by rw [ho]; simp only [Op.operands]; exact List.mem_map.2 ⟨q, List.mem_of_getElem? hq, rfl⟩)).1⟩)
        (by rw [size_madeCells, List.length_map, hpl, Nat.zero_add])
      have hex : (execOp a.eval o).run X.P w = .ok (.value (.slice (some ⟨w.heap.size, 0, none⟩) len len)) (w.alloc (.cells arr' e)) := by
        unfold execOp; rw [ho]; simp only
        have : (Instr.buildSlice t len (parts.map fun (i, x) => (i, a.eval x))).run X.P w = .ok (.slice (some ⟨w.heap.size, 0, none⟩) len len) (w.alloc (.cells arr' e)) := by
          unfold madeCells at g1
          have hlim' : ¬ (len * S > 2 ^ 24) := by omega
          by_cases h0 : len * S = 0
          · rw [if_pos h0] at g1
            have g1' := g1
            simp only [Instr.buildSlice, Sem.run_bind, run_underlying ht, Result.andThen_ok, run_sizeOf hi, hs, h0, show ¬ (0 > 2 ^ 24) by decide, if_false, if_true, Sem.run_pure, Array.toList_map]
            rw [h0] at g1'
            simp only [g1', newRow, Sem.run_bind, run_newObj, Result.andThen_ok, Sem.run_pure]
            rfl
          · rw [if_neg h0] at g1
            simp only [Instr.buildSlice, Sem.run_bind, run_underlying ht, Result.andThen_ok, run_sizeOf hi, hs, hlim', if_false, h0, Sem.run_pure, Array.toList_map, zeroValue, typeInfo, run_program, hi, hz, g1, newRow, run_newObj]
            rfl
        rw [Sem.run_bind, this]; rfl
      refine upon_wp hex (hnx _ _ (upd1 β nx (some w.heap.size)) ((Post.frzs r ids).trans (post_add (r.frzs ids) ⟨look_isSome_none (hn nx _ rfl).1, (hn nx _ rfl).2⟩ (fun e' l he => by cases he; rfl) (fun j cc hj => ?_) (fun i hi' => ?_))) (.inr ⟨w.heap.size, len, by simp [upd1], rfl, Nat.le_refl _, ?_, ?_⟩) fun i hi' => ?_)
      · simp only [Bx.cells, List.getElem?_map] at hj
        cases hp' : ps[j]? with
        | none => rw [hp'] at hj; cases hj
        | some p =>
          rw [hp'] at hj
          simp only [Option.map_some, Option.some.injEq] at hj
          subst hj
          obtain ⟨u, hu, hru⟩ := g4 j p hp'
          exact ⟨u, by simpa using hu, hru⟩
      · simp only [Bx.cells] at hi'
        rw [acRefs_pv] at hi'; cases hi'
      · show len ≤ 9223372036854775807
        have : len ≤ len * S := Nat.le_mul_of_pos_right _ hS
        omega
      · rw [bsh_new, g2, size_madeCells]
      · simp only [AV.refs, AC.refs, List.mem_singleton] at hi'
        subst hi'
        show (look (put (frzs h2 ids) i _) i).isSome = true
        rw [look_put]; simp
    · exact hv.elim
  · exact hv.elim
end Go.VL


namespace Go.VL
open Go.RowKit
set_option linter.unusedVariables false

/-! ### Stores -/
def setM {α : Type} (l : List α) (off : Nat) (cs : List α) : List α := match cs with
  | [c] => l.set off c
  | cs => setMany l off cs
theorem setM_eq {α : Type} (l : List α) (off : Nat) (cs : List α) (h : off + cs.length ≤ l.length) : setM l off cs = setMany l off cs := by
  unfold setM
  split
  · rename_i c
    apply List.ext_getElem?
    intro j
    rw [getElem?_setMany _ _ _ h]
    simp only [List.length_singleton] at h ⊢
    by_cases hj : off = j
    · subst hj; rw [List.getElem?_set_self (by omega), if_pos (by omega)]; simp
    · rw [List.getElem?_set_ne hj, if_neg (by omega)]
  · rfl
def evStore (X : Ctx) (t : TypeId) (h : Hp) (id off : Nat) (x : AV) (K : Hp → Prop) : Prop :=
  match tinf X.P t, look h id with
  | some T, some (.mx cs, false) => (match avCells x with | some ds => ds.length = T.size ∧ off + ds.length ≤ cs.length ∧ K (put h id (.mx (setM cs off ds), false)) | none => False)
  | some T, some (.pu e l, false) => viewX h x fun ps ids => ps.length = T.size ∧ off + ps.length ≤ l.length ∧ ids.contains id = false ∧ K (put (frzs h ids) id (.pu e (setM l off ps), false))
  | _, _ => False
theorem run_storeAt {P : Program} {w : World} {t : TypeId} {i : TypeInfo} (hi : P.info? t = some i) {g off : Nat} {v : Value} {arr : Array Value} {e : TypeId} (ha : w.heap[g]? = some (.cells arr e (0, 0))) (hs : v.cells.size = i.size) (hl : off + v.cells.size ≤ arr.size) (h1 : ∀ u ∈ v.cells.toList, u.oneCell' = true) :
    (Instr.storeAt t (.pointer (some ⟨g, off, none⟩)) v).run P w = .ok () (w.setRow g (setMany arr.toList off v.cells.toList).toArray) := by
  have := run_storeCells_at P g off e v.cells.toList 0 arr w ha (by simpa using hl) h1
  simp only [Instr.storeAt, Instr.sureAddr, Sem.run_bind, Sem.run_pure, Result.andThen_ok, storeVar, run_sizeOf hi, hs, ne_eq, not_true_eq_false, if_false, this]
  unfold setMany
  simp
theorem repL_setMany {w : World} {ok : Nat → Prop} {β : Bt} {cs ds : List AC} {arr vs : Array Value} {off : Nat} (hl : off + ds.length ≤ cs.length) (ha : cs.length ≤ arr.size) (h : ∀ (j : Nat) c, cs[j]? = some c → ∃ u, arr[j]? = some u ∧ RepC w ok β c u) (h2 : RepL w ok β ds vs) :
    ∀ (j : Nat) c, (setM cs off ds)[j]? = some c → ∃ u, (setMany arr.toList off vs.toList).toArray[j]? = some u ∧ RepC w ok β c u := by
  intro j c hj
  rw [setM_eq _ _ _ hl, getElem?_setMany _ _ _ hl] at hj
  have hv : vs.toList.length = ds.length := by rw [Array.length_toList]; exact h2.1
  rw [List.getElem?_toArray, getElem?_setMany _ _ _ (show off + vs.toList.length ≤ arr.toList.length by have hq : arr.toList.length = arr.size := Array.length_toList; omega), hv]
  by_cases hc : off ≤ j ∧ j < off + ds.length
  · rw [if_pos hc] at hj ⊢
    obtain ⟨u, hu, hr⟩ := h2.2 _ c hj
    exact ⟨u, by simpa using hu, hr⟩
  · rw [if_neg hc] at hj ⊢
    obtain ⟨u, hu, hr⟩ := h j c hj
    exact ⟨u, by simpa using hu, hr⟩
theorem mem_setM {α : Type} {l cs : List α} {off : Nat} {x : α} (h : x ∈ setM l off cs) : x ∈ l ∨ x ∈ cs := by
  unfold setM at h
  split at h
  · rcases List.mem_or_eq_of_mem_set h with h | rfl
    · exact .inl h
    · exact .inr (by simp)
  · unfold setMany at h
    rw [List.mem_append, List.mem_append] at h
    rcases h with (h | h) | h
    · exact .inl (List.mem_of_mem_take h)
    · exact .inr h
    · exact .inl (List.mem_of_mem_drop h)
theorem look_frzs_not : ∀ (zs : List Nat) (h : Hp) {id : Nat}, id ∉ zs → look (frzs h zs) id = look h id
  | [], h, id, _ => rfl
  | z :: zs, h, id, hn => by
    simp only [List.mem_cons, not_or] at hn
    rw [frzs, look_frzs_not zs _ hn.2, look_frz, if_neg hn.1]
/-- The store itself. -/
theorem store_core {X : Ctx} {F : Fr} {h : Hp} {β : Bt} {w : World} (r : HRel X F h β w) {t : TypeId} {i : TypeInfo} (hi : X.P.info? t = some i) {id g off : Nat} {bx bx' : Bx} (hl : look h id = some (bx, false)) (hg : β id = some g) {v : Value} {ds : List AC}
    (hx : RepL w (F.ok w h β) β ds v.cells) (hs : ds.length = i.size) (hd : off + ds.length ≤ bx.cells.length) (hb' : bx'.cells = setM bx.cells off ds) (he' : ∀ e' l', bx' = .pu e' l' → ∃ l, bx = .pu e' l) (hw : ∀ i ∈ acRefs ds, (look h i).isSome = true) :
    ∃ w', (Instr.storeAt t (.pointer (some ⟨g, off, none⟩)) v).run X.P w = .ok () w' ∧ Post X F h β w (put h id (bx', false)) β w' none := by
  have hb := r.box id _ _ hl
  unfold BoxRep at hb
  rw [hg] at hb
  obtain ⟨_, arr, e, harr, hpe, hcc⟩ := hb
  have hal : bx.cells.length ≤ arr.size := by
    rcases Nat.eq_zero_or_pos bx.cells.length with h0 | h0
    · omega
    · obtain ⟨u, hu, _⟩ := hcc (bx.cells.length - 1) _ (List.getElem?_eq_getElem (by omega))
      have := (Array.getElem?_eq_some_iff.1 hu).1
      omega
  have hsz : (setMany arr.toList off v.cells.toList).toArray.size = arr.size := by
    have := hx.1
    rw [List.size_toArray, length_setMany _ _ _ (by simp only [Array.length_toList]; omega), Array.length_toList]
  have hrun := run_storeAt (P := X.P) (w := w) hi (g := g) (off := off) (v := v) harr (by rw [hx.1, hs]) (by rw [hx.1]; omega) (fun u hu => by
    obtain ⟨j, hj, rfl⟩ := List.getElem_of_mem hu
    have hjl : j < ds.length := by rw [← hx.1]; simpa using hj
    obtain ⟨u, hu', hr⟩ := hx.2 j _ (List.getElem?_eq_getElem hjl)
    have : v.cells.toList[j] = u := by
      have := hu'; rw [Array.getElem?_eq_getElem (by simpa using hj)] at this; simpa using this
    rw [this]; exact hr.oneCell)
  refine ⟨_, hrun, r.set hl hg harr hsz (fun e' l' he => ?_) (fun j c hj => ?_) (fun i hi' => ?_), ?_, fun i hi => ?_⟩
  · obtain ⟨l, rfl⟩ := he' e' l' he
    exact hpe e' l rfl
  · rw [hb'] at hj
    exact repL_setMany hd hal hcc hx j c hj
  · rw [hb'] at hi'
    obtain ⟨c, hc, hic⟩ := List.mem_flatMap.1 hi'
    rcases mem_setM hc with hc | hc
    · exact r.wf id _ _ hl i (List.mem_flatMap.2 ⟨c, hc, hic⟩)
    · exact hw i (List.mem_flatMap.2 ⟨c, hc, hic⟩)
  · have := r.set_keeps (bx' := bx') hl hg harr hsz
    exact ⟨this.blk, fun i hi => this.ids i hi.1⟩
  · rw [look_put]; split <;> simp_all
theorem evStore_sound {X : Ctx} {o : Oper} {t : TypeId} {ad x : Operand} (ho : o.op = .store t ad x) {ρ : Operand → AV} {h : Hp} {id off : Nat} (had : ρ ad = .one (.ptr id off)) {K : Hp → Prop}
    (hwf : ∀ id bx z, look h id = some (bx, z) → ∀ i ∈ acRefs bx.cells, (look h i).isSome = true) (hrf : ∀ x ∈ o.op.operands.toList, ∀ id ∈ (ρ x).refs, (look h id).isSome = true) (hv : evStore X t h id off (ρ x) K) :
    ∃ h', K h' ∧ SemOp X o ρ h .bot h' none := by
  unfold evStore at hv
  have hxm : x ∈ o.op.operands.toList := by rw [ho]; simp [Op.operands]
  have ham : ad ∈ o.op.operands.toList := by rw [ho]; simp [Op.operands]
  have hex : ∀ (a : Act) (w w' : World), (Instr.storeAt t (a.eval ad) (a.eval x)).run X.P w = .ok () w' → (execOp a.eval o).run X.P w = .ok .skip w' := fun a w w' h1 => by
    unfold execOp; rw [ho]; simp only
    rw [Sem.run_bind, h1]; rfl
  split at hv
  · rename_i T cs hT hl
    obtain ⟨_, i, hi, hs, _⟩ := tinf_spec hT
    split at hv
    · rename_i ds hds
      obtain ⟨hd1, hd2, hK⟩ := hv
      refine ⟨_, hK, fun F β w a r hv' next Q hn => ?_⟩
      have h1 := (hv' ad ham).1
      rw [had] at h1
      obtain ⟨g, hg, hgv⟩ := h1
      obtain ⟨w', hrun, hp⟩ := store_core (bx' := .mx (setM cs off ds)) r hi hl hg (avCells_rep hds (hv' x hxm).1) (by rw [hd1, hs]) hd2 rfl (fun e' l' he => by cases he) (fun i hi => (hv' x hxm).2 i (by rw [avCells_refs hds]; exact hi))
      rw [← hgv] at hrun
      exact upon_skip (hex a w _ hrun) (hn _ _ β hp trivial fun i hi => by cases hi)
    · exact hv.elim
  · rename_i T e l hT hl
    obtain ⟨_, i, hi, hs, _⟩ := tinf_spec hT
    obtain ⟨ps, ids, ⟨hp1, hp2, hnid, hK⟩, hr, hvx⟩ := viewX_sound hwf hv (hrf x hxm)
    refine ⟨_, hK, fun F β w a r hv' next Q hn => ?_⟩
    have h1 := (hv' ad ham).1
    rw [had] at h1
    obtain ⟨g, hg, hgv⟩ := h1
    have hl' : look (frzs h ids) id = some (.pu e l, false) := by rw [look_frzs_not ids h (by simpa using hnid)]; exact hl
    obtain ⟨w', hrun, hp⟩ := store_core (bx' := .pu e (setM l off ps)) (r.frzs ids) hi hl' hg (repC_pv_any (β := β) (hvx h (fun _ _ => rfl) X F β w _ _ (wide_frzs r hr) (hv' x hxm).1)) (by rw [List.length_map, hp1, hs]) (by simpa [Bx.cells] using hp2)
      (by
        simp only [Bx.cells]
        unfold setM
        match ps with
        | [] => simp [setMany]
        | [p] => simp [List.map_set]
        | p :: q :: rs => simp [setMany, List.map_take, List.map_drop])
      (fun e' l' he => by cases he; exact ⟨l, rfl⟩) (fun i hi => by rw [acRefs_pv] at hi; cases hi)
    rw [← hgv] at hrun
    exact upon_skip (hex a w _ hrun) (hn _ _ β ((Post.frzs r ids).trans hp) trivial fun i hi => by cases hi)
  · exact hv.elim

/-! ### Calls -/
def Ent (P : Program) (f : FuncId) : Prop := ∀ (args : Array Value) (w : World), (callFunc f args).run P w = .ok (.enter f args) w
theorem ent_of {P : Program} {f : FuncId} {fn : Func} {c : Code} (hf : P.funcs[f]? = some fn) (hname : (fn.name == "runtime.NumGoroutine") = false) (hb : fn.body = some c) : Ent P f := fun args w => by
  have hn : ¬ (fn.name = "runtime.NumGoroutine") := by simpa using hname
  simp [callFunc, hf, hn, hb]
/-- What a function of whole values comes to: at these arguments it returns this result, and leaves all that was there. -/
structure Spc (X : Ctx) (f : FuncId) (args : List PA) (res : PA) : Prop where
  ent : Ent X.P f
  calls : ∀ (ok : Nat → Prop) (w : World) (vals : Array Value), X.G w → (∀ b, ok b → b < w.heap.size) → vals.size = args.length → (∀ (j : Nat) pa, args[j]? = some pa → ∃ u, vals[j]? = some u ∧ RepV w ok β0 pa.av u) →
    Calls X.P f vals w fun e w' => ∃ u, e = .returned u ∧ RepV w' (fun b => b < w'.heap.size ∧ (b < w.heap.size → ok b)) β0 res.av u ∧ Below w.heap.size w w'
/-- No place in memory in it. -/
def PV.plain : PV → Bool
  | .int _ _ | .bool _ | .str _ | .lit _ | .nil | .ifc | .clo _ [] => true
  | _ => false
def PA.plain : PA → Bool
  | .one p => p.plain
  | .agg ps => ps.all PV.plain
  | .tup xs => xs.all fun x => x.2.all PV.plain
theorem RepP.plain {w w' : World} {ok ok' : Nat → Prop} {p : PV} {v : Value} (h : p.plain = true) (r : RepP w ok p v) : RepP w' ok' p v := by
  cases r with
  | int k z hz => exact .int k z hz
  | bool b => exact .bool b
  | str s hs => exact .str s hs
  | lit v hv => exact .lit v hv
  | nil => exact .nil
  | ifc t v => exact .ifc t v
  | clo f caps vs vals hs hv hr =>
    cases caps with
    | nil => exact .clo f [] vs vals hs (fun j p hj => by simp at hj) (fun j p hj => by simp at hj)
    | cons c cs => simp [PV.plain] at h
  | sl0 A cap => simp [PV.plain] at h
  | sl => simp [PV.plain] at h
  | pt => simp [PV.plain] at h
theorem repL_plain {w w' : World} {ok ok' : Nat → Prop} {β β' : Bt} {ps : List PV} {vs : Array Value} (h : ps.all PV.plain = true) (r : RepL w ok β (ps.map .pv) vs) : RepL w' ok' β' (ps.map .pv) vs :=
  ⟨r.1, fun j c hj => by
    obtain ⟨u, hu, hr⟩ := r.2 j c hj
    rw [List.getElem?_map] at hj
    cases hp : ps[j]? with
    | none => rw [hp] at hj; cases hj
    | some p =>
      rw [hp] at hj
      simp only [Option.map_some, Option.some.injEq] at hj
      subst hj
      exact ⟨u, hu, RepP.plain (List.all_eq_true.1 h p (List.mem_of_getElem? hp)) hr⟩⟩
theorem repE_plain {w w' : World} {ok ok' : Nat → Prop} {β β' : Bt} {x : Bool × List PV} {u : Value} (h : x.2.all PV.plain = true) (r : RepE w ok β (x.1, x.2.map .pv) u) : RepE w' ok' β' (x.1, x.2.map .pv) u := by
  obtain ⟨b, ps⟩ := x
  cases b with
  | true => obtain ⟨vs, rfl, hl⟩ := r; exact ⟨vs, rfl, repL_plain h hl⟩
  | false =>
    obtain ⟨c, hc, hr⟩ := r
    refine ⟨c, hc, ?_⟩
    match ps, hc with
    | [p], hc =>
      simp only [List.map_cons, List.map_nil, List.cons.injEq, and_true] at hc
      subst hc
      exact RepP.plain (by simpa using h) hr
theorem PA.repV_plain {w w' : World} {ok ok' : Nat → Prop} {β β' : Bt} {pa : PA} {u : Value} (h : pa.plain = true) (r : RepV w ok β pa.av u) : RepV w' ok' β' pa.av u := by
  cases pa with
  | one p => exact RepP.plain h r
  | agg ps => obtain ⟨vs, rfl, hl⟩ := r; exact ⟨vs, rfl, repL_plain h hl⟩
  | tup xs =>
    obtain ⟨vs, rfl, hs, hx⟩ := r
    refine ⟨vs, rfl, hs, fun j x hj => ?_⟩
    obtain ⟨u, hu, hr⟩ := hx j x hj
    refine ⟨u, hu, ?_⟩
    rw [List.getElem?_map] at hj
    cases hp : xs[j]? with
    | none => rw [hp] at hj; cases hj
    | some y =>
      rw [hp] at hj
      simp only [Option.map_some, Option.some.injEq] at hj
      subst hj
      exact repE_plain (List.all_eq_true.1 h y (List.mem_of_getElem? hp)) hr
theorem PA.repV_β {w : World} {ok : Nat → Prop} {β β' : Bt} {pa : PA} {u : Value} (r : RepV w ok β pa.av u) : RepV w ok β' pa.av u := by
  have k : Keeps (fun _ => False) w ok β w ok β' := ⟨fun b h => ⟨h, rfl⟩, fun _ h => h.elim⟩
  exact k.repV (fun id hid => by rw [PA.av_refs] at hid; cases hid) r
def evCall (X : Ctx) (fv : AV) (args : List AV) (h : Hp) (K : List Nat → List Nat → AV → Prop) : Prop :=
  match fv with
  | .one (.pv (.clo f caps)) => viewAs h args fun ps ids => ∃ res, Spc X f (ps ++ caps.map .one) res ∧ K ids (if res.plain = true then [] else ids) res.av
  | .one (.clo f caps) => viewAs h args fun ps ids => viewCaps h caps fun cs ids' => ∃ res, Spc X f (ps ++ cs.map .one) res ∧ K (ids ++ ids') (if res.plain = true then [] else ids ++ ids') res.av
  | _ => False
end Go.VL


namespace Go.VL
open Go.RowKit
set_option linter.unusedVariables false

theorem Post.ext {X : Ctx} {F : Fr} {h : Hp} {β : Bt} {w w' : World} (r : HRel X F h β w) (b : Below w.heap.size w w') : Post X F h β w h β w' none :=
  ⟨r.ext b, ⟨(r.keeps_ext b).blk, fun i hi => (r.keeps_ext b).ids i hi.1⟩, fun _ h => h⟩
theorem exec_value {P : Program} {w : World} {val : Operand → Value} {o : Oper} {c : Call} {f : Operand} {g : FuncId} {caps : Array Value} (ho : o.op = .call c) (hc : c.callee = .value f) (hf : val f = .func (.func g) #[] caps) (he : Ent P g) :
    (execOp val o).run P w = .ok (.enter g (c.args.map val ++ caps)) w := by
  unfold execOp
  rw [ho]
  simp only [resolve, hc, hf, Deferred.ofValue, Sem.run_bind, Sem.run_pure, Result.andThen_ok, invoke]
  simpa using he (c.args.map val ++ caps) w
theorem call_core {X : Ctx} {F : Fr} {h : Hp} {β : Bt} {w : World} (r : HRel X F h β w) {ids : List Nat} (hr : ∀ id ∈ ids, (look h id).isSome = true) {g : FuncId} {pas : List PA} {res : PA} (hsp : Spc X g pas res) {vals : Array Value} (hs : vals.size = pas.length)
    (hv : ∀ ok', Wide X F h β w ids ok' → ∀ (j : Nat) pa, pas[j]? = some pa → ∃ u, vals[j]? = some u ∧ RepV w ok' β0 pa.av u) :
    Calls X.P g vals w fun e w' => ∃ u, e = .returned u ∧ RepV w' (F.ok w' (frzs h (if res.plain = true then [] else ids)) β) β res.av u ∧ Post X F h β w (frzs h (if res.plain = true then [] else ids)) β w' none := by
  by_cases hp : res.plain = true
  · rw [if_pos hp]
    have hw : Wide X F h β w ids (fun b => b < w.heap.size) := ⟨r, fun b hb => hb.1, fun id hid g hg => by
      obtain ⟨e, he⟩ := Option.isSome_iff_exists.1 (hr id hid)
      exact (r.lt he hg).1⟩
    exact (hsp.calls _ w vals r.gw (fun b hb => hb) hs (hv _ hw)).mono fun e w' ⟨u, he, hu, hb⟩ => ⟨u, he, PA.repV_plain hp hu, Post.ext r hb⟩
  · rw [if_neg hp]
    have hw := wide_frzs r hr
    refine (hsp.calls _ w vals r.gw (fun b hb => hb.1) hs (hv _ hw)).mono fun e w' ⟨u, he, hu, hb⟩ => ⟨u, he, PA.repV_β (β := β0) ?_, (Post.frzs r ids).trans (Post.ext (r.frzs ids) hb)⟩
    have k : Keeps (fun _ => False) w' (fun b => b < w'.heap.size ∧ (b < w.heap.size → F.ok w (frzs h ids) β b)) β0 w' (F.ok w' (frzs h ids) β) β0 := ⟨fun b hb => ⟨⟨hb.1, fun h0 => (hb.2 (Nat.lt_of_lt_of_le h0 r.size)).2.1 h0, fun id bx hl hg => by
      have hlt := ((r.frzs ids).lt hl hg).1
      exact (hb.2 hlt).2.2 id bx hl hg⟩, rfl⟩, fun _ h => h.elim⟩
    exact k.repV (fun id hid => by rw [PA.av_refs] at hid; cases hid) hu
theorem evCall_sound {X : Ctx} {o : Oper} {c : Call} {f : Operand} (ho : o.op = .call c) (hc : c.callee = .value f) {ρ : Operand → AV} {h : Hp} {K : List Nat → List Nat → AV → Prop}
    (hwf : ∀ id bx z, look h id = some (bx, z) → ∀ i ∈ acRefs bx.cells, (look h i).isSome = true) (hrf : ∀ x ∈ o.op.operands.toList, ∀ id ∈ (ρ x).refs, (look h id).isSome = true) (hv : evCall X (ρ f) (c.args.toList.map ρ) h K) :
    ∃ rd zs v, K rd zs v ∧ NSem X o ρ h v rd zs none := by
  have hfm : f ∈ o.op.operands.toList := by rw [ho]; simp [Op.operands, Call.operands, hc]
  have ham : ∀ x ∈ c.args.toList, x ∈ o.op.operands.toList := fun x hx => by rw [ho]; simp only [Op.operands, Call.operands]; rw [Array.toList_append]; exact List.mem_append.2 (.inr hx)
  have hargs : ∀ x ∈ c.args.toList.map ρ, ∀ id ∈ x.refs, (look h id).isSome = true := fun x hx id hid => by
    obtain ⟨y, hy, rfl⟩ := List.mem_map.1 hx
    exact hrf y (ham y hy) id hid
  unfold evCall at hv
  split at hv
  · rename_i g caps hfv
    obtain ⟨ps, ids, ⟨res, hsp, hK⟩, hr, hl, hps⟩ := viewAs_sound hwf hv hargs
    refine ⟨_, _, _, hK, fun h2 ha _ F β w a r hv' next Q hn => ?_⟩
    have h1 := (hv' f hfm).1
    rw [hfv] at h1
    have h1' : RepP w (F.ok w h2 β) (.clo g caps) (a.eval f) := h1
    generalize hfe : a.eval f = fe at h1'
    cases h1' with
    | clo _ _ vs vals hs hvv hrep =>
    have hex := exec_value (P := X.P) (w := w) ho hc hfe hsp.ent
    have hcall := call_core r (ids := ids) (fun id hid => agree_isSome ha hid (hr id hid)) hsp (vals := c.args.map a.eval ++ vs) (by simp [hs, hl]) (fun ok' hw j pa hj => by
      rw [List.getElem?_append] at hj
      split at hj
      · rename_i hlt
        have hlt' : j < c.args.toList.length := by rw [hl] at hlt; simpa using hlt
        have hx : (c.args.toList.map ρ)[j]? = some (ρ c.args.toList[j]) := by rw [List.getElem?_map, List.getElem?_eq_getElem hlt']; rfl
        have := hps h2 ha X F β w ok' hw j _ pa (a.eval c.args.toList[j]) hx hj (hv' _ (ham _ (List.getElem_mem hlt'))).1
        refine ⟨_, ?_, this⟩
        rw [Array.getElem?_append, if_pos (by simpa using hlt')]
        have hlt2 : j < c.args.size := by simpa using hlt'
        simp [hlt2]
      · rename_i hge
        rw [List.getElem?_map] at hj
        cases hp : caps[j - ps.length]? with
        | none => rw [hp] at hj; cases hj
        | some p =>
          rw [hp] at hj
          simp only [Option.map_some, Option.some.injEq] at hj
          subst hj
          refine ⟨vals (j - ps.length), ?_, (hrep _ p hp).mono fun b hb => ⟨hw.ok b hb, rfl⟩⟩
          have hlen : ps.length = c.args.size := by rw [hl]; simp
          rw [Array.getElem?_append, if_neg (by rw [Array.size_map]; omega), Array.size_map, ← hlen]
          exact hvv _ p hp)
    unfold Oper.wp Oper.upon
    rw [hex]
    exact hcall.mono fun e w' ⟨u, he, hu, hp⟩ => by
      subst he
      exact hn u w' β hp hu fun id hid => by rw [PA.av_refs] at hid; cases hid
  · rename_i g caps hfv
    obtain ⟨ps, ids, hv2, hr, hl, hps⟩ := viewAs_sound hwf hv hargs
    obtain ⟨cs, ids', ⟨res, hsp, hK⟩, hr', hl', hcs⟩ := viewCaps_sound hwf hv2 (fun id hid => hrf f hfm id (by rw [hfv]; exact hid))
    refine ⟨_, _, _, hK, fun h2 ha _ F β w a r hv' next Q hn => ?_⟩
    have h1 := (hv' f hfm).1
    rw [hfv] at h1
    obtain ⟨vs, hfe, hs, hvv⟩ := h1
    have hex := exec_value (P := X.P) (w := w) ho hc hfe hsp.ent
    have hcall := call_core r (ids := ids ++ ids') (fun id hid => agree_isSome ha hid ((List.mem_append.1 hid).elim (hr id) (hr' id))) hsp (vals := c.args.map a.eval ++ vs) (by simp [hs, hl, hl']) (fun ok' hw j pa hj => by
      have a1 := ha.mono (ids' := ids) (fun id hid => List.mem_append.2 (.inl hid))
      have a2 := ha.mono (ids' := ids') (fun id hid => List.mem_append.2 (.inr hid))
      have w1 := hw.mono (ids' := ids) (fun id hid => List.mem_append.2 (.inl hid))
      have w2 := hw.mono (ids' := ids') (fun id hid => List.mem_append.2 (.inr hid))
      rw [List.getElem?_append] at hj
      split at hj
      · rename_i hlt
        have hlt' : j < c.args.toList.length := by rw [hl] at hlt; simpa using hlt
        have hx : (c.args.toList.map ρ)[j]? = some (ρ c.args.toList[j]) := by rw [List.getElem?_map, List.getElem?_eq_getElem hlt']; rfl
        have := hps h2 a1 X F β w ok' w1 j _ pa (a.eval c.args.toList[j]) hx hj (hv' _ (ham _ (List.getElem_mem hlt'))).1
        refine ⟨_, ?_, this⟩
        rw [Array.getElem?_append, if_pos (by simpa using hlt')]
        have hlt2 : j < c.args.size := by simpa using hlt'
        simp [hlt2]
      · rename_i hge
        rw [List.getElem?_map] at hj
        cases hp : cs[j - ps.length]? with
        | none => rw [hp] at hj; cases hj
        | some p =>
          rw [hp] at hj
          simp only [Option.map_some, Option.some.injEq] at hj
          subst hj
          have hjl : j - ps.length < caps.length := by rw [← hl']; exact (List.getElem?_eq_some_iff.1 hp).1
          obtain ⟨u, hu, hru⟩ := hvv _ _ (List.getElem?_eq_getElem hjl)
          refine ⟨u, ?_, hcs h2 a2 X F β w ok' w2 _ _ p u (List.getElem?_eq_getElem hjl) hp hru⟩
          have hlen : ps.length = c.args.size := by rw [hl]; simp
          rw [Array.getElem?_append, if_neg (by rw [Array.size_map]; omega), Array.size_map, ← hlen]
          exact hu)
    unfold Oper.wp Oper.upon
    rw [hex]
    exact hcall.mono fun e w' ⟨u, he, hu, hp⟩ => by
      subst he
      exact hn u w' β hp hu fun id hid => by rw [PA.av_refs] at hid; cases hid
  · exact hv.elim
end Go.VL


namespace Go.VL
open Go.RowKit
set_option linter.unusedVariables false

theorem HRel.congr {X : Ctx} {F : Fr} {h h' : Hp} {β : Bt} {w : World} (r : HRel X F h β w) (e : ∀ i, look h' i = look h i) : HRel X F h' β w := by
  have hok : F.ok w h' β = F.ok w h β := by
    funext b; unfold Fr.ok; simp only [e]
  exact ⟨r.below, r.g, fun id bx z hl => by rw [hok]; exact r.box id bx z (by rw [← e]; exact hl), fun i i' e1 e2 g hne h1 h2 => r.inj i i' e1 e2 g hne (by rw [← e]; exact h1) (by rw [← e]; exact h2), fun id bx z hl i hi => by rw [e]; exact r.wf id bx z (by rw [← e]; exact hl) i hi, r.pin.sub fun i x hl => ⟨x, by rw [← e]; exact hl⟩⟩
/-- A box that has no block yet. -/
theorem post_ghost {X : Ctx} {F : Fr} {h : Hp} {β : Bt} {w : World} (r : HRel X F h β w) {id : Nat} {e : TypeId} (hn : look h id = none) (hid : id < 1000) : Post X F h β w (put h id (.pu e [], false)) (upd1 β id none) w none := by
  have hok : ∀ b, F.ok w h β b → F.ok w (put h id (.pu e [], false)) (upd1 β id none) b := fun b hb => ⟨hb.1, hb.2.1, fun i bx hl hg => by
    rw [look_put] at hl
    unfold upd1 at hg
    by_cases hi : i = id
    · rw [if_pos hi] at hg; cases hg
    · rw [if_neg hi] at hl hg; exact hb.2.2 i bx hl hg⟩
  have k : Keeps (fun i => (look h i).isSome = true) w (F.ok w h β) β w (F.ok w (put h id (.pu e [], false)) (upd1 β id none)) (upd1 β id none) := ⟨fun b hb => ⟨hok b hb, rfl⟩, fun i hi => by
    have hne : i ≠ id := fun e => by subst e; rw [hn] at hi; cases hi
    exact ⟨by simp [upd1, hne], fun _ _ => rfl⟩⟩
  refine ⟨⟨r.below, r.g, fun i bx z hl => ?_, fun i i' e1 e2 g hne h1 h2 b1 b2 => ?_, fun i bx z hl j hj => ?_, r.pin.upd hid fun i g _ _ e => by cases e⟩, ⟨k.blk, fun i hi => k.ids i hi.1⟩, fun i hi => by rw [look_put]; split <;> simp_all⟩
  · rw [look_put] at hl
    by_cases hi : i = id
    · rw [if_pos hi] at hl
      simp only [Option.some.injEq, Prod.mk.injEq] at hl
      obtain ⟨rfl, rfl⟩ := hl
      unfold BoxRep
      rw [show upd1 β id none i = none by simp [upd1, hi]]
      rfl
    · rw [if_neg hi] at hl
      exact (r.box i bx z hl).keeps k (by simp [upd1, hi]) (fun _ _ => rfl) (fun j hj => r.wf i bx z hl j hj)
  · rw [look_put] at h1 h2
    unfold upd1 at b1 b2
    by_cases hi : i = id
    · rw [if_pos hi] at b1; cases b1
    · rw [if_neg hi] at h1 b1
      by_cases hi' : i' = id
      · rw [if_pos hi'] at b2; cases b2
      · rw [if_neg hi'] at h2 b2; exact r.inj i i' e1 e2 g hne h1 h2 b1 b2
  · rw [look_put] at hl ⊢
    by_cases hj2 : j = id
    · simp [hj2]
    · rw [if_neg hj2]
      by_cases hi : i = id
      · rw [if_pos hi] at hl
        simp only [Option.some.injEq, Prod.mk.injEq] at hl
        obtain ⟨rfl, rfl⟩ := hl
        simp [Bx.cells, acRefs] at hj
      · rw [if_neg hi] at hl; exact r.wf i bx z hl j hj

theorem HRel.scrub {X : Ctx} {F : Fr} {h : Hp} {β : Bt} {w : World} (r : HRel X F h β w) (m : Nat) : HRel X F (scrubH m h) β w := by
  have hs : ∀ {i bx z}, look (scrubH m h) i = some (bx, z) → ∃ bx0, look h i = some (bx0, z) ∧ bx = bx0.scrub m := fun {i bx z} hl => by
    rw [look_scrubH] at hl
    cases hh : look h i with
    | none => rw [hh] at hl; cases hl
    | some e =>
      rw [hh] at hl
      simp only [Option.map_some, Option.some.injEq, Prod.mk.injEq] at hl
      obtain ⟨rfl, rfl⟩ := hl
      exact ⟨e.1, rfl, rfl⟩
  have hok : ∀ b, F.ok w h β b → F.ok w (scrubH m h) β b := fun b hb => ⟨hb.1, hb.2.1, fun i bx hl => by
    obtain ⟨bx0, h0, _⟩ := hs hl
    exact hb.2.2 i bx0 h0⟩
  refine ⟨r.below, r.g, fun i bx z hl => ?_, fun i i' e1 e2 g hne h1 h2 => ?_, fun i bx z hl j hj => ?_, r.pin.sub fun i e hl => by
    obtain ⟨bx, z⟩ := e
    obtain ⟨bx0, h0, _⟩ := hs hl
    exact ⟨_, h0⟩⟩
  · obtain ⟨bx0, h0, rfl⟩ := hs hl
    refine ((r.box i bx0 z h0).scrub m).keeps (S := fun _ => True) ⟨fun b hb => ⟨hok b hb, rfl⟩, fun _ _ => ⟨rfl, fun _ _ => rfl⟩⟩ rfl (fun _ _ => rfl) (fun _ _ => trivial)
  · obtain ⟨b1, z1⟩ := e1; obtain ⟨b2, z2⟩ := e2
    obtain ⟨_, f1, _⟩ := hs h1
    obtain ⟨_, f2, _⟩ := hs h2
    exact r.inj i i' _ _ g hne f1 f2
  · obtain ⟨bx0, h0, rfl⟩ := hs hl
    rw [Bx.scrub_cells] at hj
    rw [look_scrubH]
    simpa using r.wf i bx0 z h0 j (acRefs_scrub hj).1
theorem grownBy_refl (w : World) : w.grownBy w none := ⟨rfl, rfl, rfl, Nat.le_refl _, fun _ _ _ => rfl⟩
theorem run_append_zero {P : Program} {w : World} {t ty e : TypeId} {i : TypeInfo} (ht : P.underlying t = some (.slice e)) (hi : P.info? e = some i) {A B : Option Addr} {n cap c : Nat} (hn : n ≤ cap) :
    (Builtin.append_ #[t, t] ty #[.slice A n cap, .slice B 0 c]).run P w = .ok (.slice A n cap) w := by
  have h1 : (Builtin.firstCells i.size 0 (.slice B 0 c)).run P w = .ok #[] w := by
    cases B <;> simp [Builtin.firstCells, loadCells, loadCellsFrom]
  cases A <;> simp [Builtin.append_, run_underlying ht, sizeOf, typeInfo, hi, Builtin.lenOf, hn, h1, storeCells]
/-- Nothing is appended. -/
theorem append_zero {X : Ctx} {F : Fr} {h : Hp} {β : Bt} {w : World} (r : HRel X F h β w) {e : TypeId} {S : Nat} {id n : Nat} {l : List PV} (hl : look h id = some (.pu e l, false)) {v : Value} (hv : OwnRep w β id S n v) (hid : id < 1000) :
    ∃ β', Post X F h β w (put (scrubH id h) id (.pu e (l.take (n * S)), false)) β' w (some id) ∧ OwnRep w β' id S n v ∧ ∃ A cap, v = .slice A n cap ∧ n ≤ cap := by
  have hdom : ∀ i, (look h i).isSome = true → (look (put (scrubH id h) id (.pu e (l.take (n * S)), false)) i).isSome = true := fun i hi => by
    rw [look_put, look_scrubH]; split <;> simp_all
  have keepid : ∀ {g : Nat}, β id = some g → upd1 β id (some g) = β := fun {g} hg => by
    funext j; unfold upd1; split <;> simp_all
  rcases hv with ⟨rfl, rfl⟩ | ⟨g, cap', hg, rfl, h1, h2, h3⟩
  · cases hβ : β id with
    | none =>
      have hb' := r.box id _ _ hl
      unfold BoxRep at hb'
      rw [hβ] at hb'
      obtain rfl : l = [] := by simpa [Bx.cells] using hb'
      have hc : ∀ j, look (put (scrubH id h) id (.pu e (List.take (0 * S) []), false)) j = look (scrubH id h) j := fun j => by
        rw [look_put]
        split
        · rename_i hj; subst hj; rw [look_scrubH, hl]; simp [Bx.scrub]
        · rfl
      refine ⟨β, ⟨(r.scrub id).congr hc, ⟨fun b hb' => ⟨⟨hb'.1, hb'.2.1, fun j bx hj => ?_⟩, rfl⟩, fun _ _ => ⟨rfl, fun _ _ => rfl⟩⟩, hdom⟩, .inl ⟨rfl, rfl⟩, _, _, rfl, Nat.le_refl _⟩
      rw [hc, look_scrubH] at hj
      cases hh : look h j with
      | none => rw [hh] at hj; cases hj
      | some x =>
        rw [hh] at hj
        simp only [Option.map_some, Option.some.injEq, Prod.mk.injEq] at hj
        obtain ⟨bx0, z0⟩ := x
        simp only at hj
        obtain ⟨_, rfl⟩ := hj
        exact hb'.2.2 j bx0 hh
    | some g =>
      obtain ⟨arr, harr, hcc⟩ := box_pu r hl hβ
      have hmv := r.move (bx' := .pu e (l.take (0 * S))) hid hl (grownBy_refl w) (fun k hk => by cases hk) (.inl hβ) harr (fun e' l' he => by cases he; rfl) (fun j c hj => by simp [Bx.cells] at hj) (fun j hj => by simp [Bx.cells, acRefs] at hj)
      have hkp := r.move_keeps (bx' := .pu e (l.take (0 * S))) hl (grownBy_refl w) (fun k hk => by cases hk) (.inl hβ)
      rw [keepid hβ] at hmv hkp
      exact ⟨β, ⟨hmv, hkp, hdom⟩, .inl ⟨rfl, rfl⟩, _, _, rfl, Nat.le_refl _⟩
  · obtain ⟨arr, harr, hcc⟩ := box_pu r hl hg
    have hmv := r.move (bx' := .pu e (l.take (n * S))) hid hl (grownBy_refl w) (fun k hk => by cases hk) (.inl hg) harr (fun e' l' he => by cases he; rfl) (fun j c hj => by
      simp only [Bx.cells, List.getElem?_map, List.getElem?_take] at hj
      split at hj
      · cases hp : l[j]? with
        | none => rw [hp] at hj; cases hj
        | some p =>
          rw [hp] at hj
          simp only [Option.map_some, Option.some.injEq] at hj
          subst hj
          exact hcc j p hp
      · cases hj) (fun j hj => by simp only [Bx.cells] at hj; rw [acRefs_pv] at hj; cases hj)
    have hkp := r.move_keeps (bx' := .pu e (l.take (n * S))) hl (grownBy_refl w) (fun k hk => by cases hk) (.inl hg)
    rw [keepid hg] at hmv hkp
    exact ⟨β, ⟨hmv, hkp, hdom⟩, .inr ⟨g, cap', hg, rfl, h1, h2, h3⟩, _, _, rfl, h1⟩
/-- The row as it is. -/
theorem own_row {X : Ctx} {F : Fr} {h : Hp} {β : Bt} {w : World} (r : HRel X F h β w) {e : TypeId} {sz id n : Nat} {l : List PV} (hl : look h id = some (.pu e l, false)) {v : Value} (hv : OwnRep w β id sz n v) (hnl : n * sz ≤ l.length) :
    ∃ xs, w.ownsRow 0 e sz v n xs ∧ (∀ (j : Nat) p, (l.take (n * sz))[j]? = some p → ∃ u, xs[j]? = some u ∧ RepP w (F.ok w h β) p u) ∧ ∀ k, v.ownBlock = some k → β id = some k := by
  rcases hv with ⟨rfl, rfl⟩ | ⟨g, cap', hg, rfl, h1, h2, h3⟩
  · exact ⟨[], World.ownsRow_nil w _ e sz, fun j p hj => by simp at hj, fun k hk => by simp [Value.ownBlock] at hk⟩
  · obtain ⟨arr, harr, hcc⟩ := box_pu r hl hg
    have hbs : (bsh w g).2 = arr.size := by unfold bsh; rw [harr]
    have hle : n * sz ≤ arr.size := by rw [← hbs, ← h3]; exact Nat.mul_le_mul_right _ h1
    refine ⟨arr.toList.take (n * sz), ⟨by rw [List.length_take, Array.length_toList]; omega, .inr ⟨g, cap', arr, rfl, Nat.zero_le _, harr, h1, h2, by rw [h3, hbs], rfl⟩⟩, fun j p hj => ?_, fun k hk => by simp [Value.ownBlock] at hk; subst hk; exact hg⟩
    rw [List.getElem?_take] at hj ⊢
    split at hj
    · rename_i hjn
      rw [if_pos hjn]
      obtain ⟨u, hu, hr⟩ := hcc j p hj
      exact ⟨u, by simpa using hu, hr⟩
    · cases hj
/-- What stands behind an append. -/
theorem append_fin {X : Ctx} {F : Fr} {h : Hp} {β : Bt} {w w' : World} (r : HRel X F h β w) {e : TypeId} {sz id n m : Nat} {l cells : List PV} (hl : look h id = some (.pu e l, false)) {v v' : Value} (hnl : n * sz ≤ l.length) (hml : cells.length = m * sz) (hid : id < 1000) (hpm : 0 < m)
    {xs news : List Value} (hxl : xs.length = n * sz) (hxs : ∀ (j : Nat) p, (l.take (n * sz))[j]? = some p → ∃ u, xs[j]? = some u ∧ RepP w (F.ok w h β) p u) (hblk : ∀ k, v.ownBlock = some k → β id = some k)
    (hnw : ∀ (j : Nat) p, cells[j]? = some p → ∃ u, news[j]? = some u ∧ RepP w (F.ok w h β) p u) (hown' : w'.ownsRow 0 e sz v' (n + m) (xs ++ news)) (hgr : w.grownBy w' v.ownBlock) (hat : v'.ownBlock = v.ownBlock ∨ v'.ownBlock = some w.heap.size) :
    ∃ β', Post X F h β w (put (scrubH id h) id (.pu e (l.take (n * sz) ++ cells), false)) β' w' (some id) ∧ OwnRep w' β' id sz (n + m) v' := by
  have hdom : ∀ i, (look h i).isSome = true → (look (put (scrubH id h) id (.pu e (l.take (n * sz) ++ cells), false)) i).isSome = true := fun i hi => by
    rw [look_put, look_scrubH]; split <;> simp_all
  rcases hown'.2 with ⟨hn', hz'⟩ | ⟨g', cap', cur, rfl, hbg, hg', hnc, hcm, hcs, htake⟩
  · omega
  · have hloc : β id = some g' ∨ g' = w.heap.size := by
      rcases hat with hat | hat
      · exact .inl (hblk g' (by rw [← hat]; rfl))
      · right; simpa [Value.ownBlock] using hat
    have hcur : ∀ (j : Nat) c, (Bx.pu e (l.take (n * sz) ++ cells)).cells[j]? = some c → ∃ u : Value, cur[j]? = some u ∧ RepC w (F.ok w h β) β c u := fun j c hj => by
      simp only [Bx.cells, List.getElem?_map] at hj
      cases hp : (l.take (n * sz) ++ cells)[j]? with
      | none => rw [hp] at hj; cases hj
      | some p =>
        rw [hp] at hj
        simp only [Option.map_some, Option.some.injEq] at hj
        subst hj
        have hcur' : ∀ u, (xs ++ news)[j]? = some u → cur[j]? = some u := fun u hu => by
          rw [← htake, List.getElem?_take] at hu
          split at hu
          · simpa using hu
          · cases hu
        rw [List.getElem?_append, List.length_take, Nat.min_eq_left hnl] at hp
        split at hp
        · rename_i hlt
          obtain ⟨u, hu, hr⟩ := hxs j p hp
          exact ⟨u, hcur' u (by rw [List.getElem?_append, hxl, if_pos hlt]; exact hu), hr⟩
        · rename_i hge
          obtain ⟨u, hu, hr⟩ := hnw _ p hp
          exact ⟨u, hcur' u (by rw [List.getElem?_append, hxl, if_neg hge]; exact hu), hr⟩
    have hw0 : ∀ i ∈ acRefs (Bx.pu e (l.take (n * sz) ++ cells)).cells, (look h i).isSome = true ∧ i ≠ id := fun i hi => by
      simp only [Bx.cells] at hi; rw [acRefs_pv] at hi; cases hi
    refine ⟨upd1 β id (some g'), ⟨r.move hid hl hgr hblk hloc hg' (fun e' l' he => by cases he; rfl) hcur hw0, r.move_keeps hl hgr hblk hloc, hdom⟩, .inr ⟨g', cap', by simp [upd1], rfl, hnc, hcm, ?_⟩⟩
    unfold bsh; rw [hg']; exact hcs.symm
theorem append_core {X : Ctx} {F : Fr} {h : Hp} {β : Bt} {w : World} (r : HRel X F h β w) {t ty e : TypeId} {i : TypeInfo} {z : Value} {S B : Nat} (ht : X.P.underlying t = some (.slice e)) (hi : X.P.info? e = some i) (hz : i.zero = some z) (hs : i.size = S) (hby : i.bytes = B)
    (hzs : z.cells.size = S) (hS : 0 < S) (hB : 0 < B) {id n : Nat} {l : List PV} (hl : look h id = some (.pu e l, false)) {v v2 : Value} (hv : OwnRep w β id S n v) (hnl : n * S ≤ l.length) {m : Nat} {cells : List PV} (hm : RepP w (F.ok w h β) (.sl m cells) v2) (hml : cells.length = m * S)
    (hb : (n + m) * B ≤ 140737488355328) (hid : id < 1000) :
    ∃ v' w' β', (Builtin.append_ #[t, t] ty #[v, v2]).run X.P w = .ok v' w' ∧ Post X F h β w (put (scrubH id h) id (.pu e (l.take (n * S) ++ cells), false)) β' w' (some id) ∧ OwnRep w' β' id S (n + m) v' := by
  have hv2 : RepV w (F.ok w h β) β (.one (.pv (.sl m cells))) v2 := hm
  obtain ⟨A, cap, rfl, hmc, hm0, _, hpos⟩ := one_sl hv2
  rcases Nat.eq_zero_or_pos m with h0 | hpm
  · subst h0
    obtain rfl := hm0 rfl
    simp only [List.append_nil, Nat.add_zero] at *
    obtain ⟨β', hp, ho, A', cap', rfl, hnc⟩ := append_zero r hl hv hid
    exact ⟨_, w, β', run_append_zero ht hi hnc, hp, ho⟩
  · obtain ⟨_, sz, b, o, rfl, hl', hok, hc⟩ := hpos hpm
    obtain rfl : sz = S := Nat.eq_of_mul_eq_mul_left hpm (hl'.symm.trans hml)
    have hsz63 : n + m ≤ maxLen := by
      have : (n + m) ≤ (n + m) * B := Nat.le_mul_of_pos_right _ hB
      simp only [maxLen]; omega
    obtain ⟨xs, hown, hxs, hblk⟩ := own_row r hl hv hnl
    -- what is appended
    let vals : Nat → Value := fun j => (w.cell? ⟨b, o + j, none⟩).getD undef
    have hv1 := vals_of hc
    have hnews : ∀ (j : Nat) u, ((List.range (m * sz)).map vals)[j]? = some u → w.cell? ((⟨b, o, none⟩ : Addr).add j) = some u := fun j u hj => by
      rw [List.getElem?_map] at hj
      by_cases hjl : j < m * sz
      · rw [List.getElem?_range hjl] at hj
        simp only [Option.map_some, Option.some.injEq] at hj
        rw [add_none, ← hj]
        exact hv1.1 j _ (List.getElem?_eq_getElem (by rw [hml]; exact hjl))
      · rw [List.getElem?_eq_none (by simpa using Nat.le_of_not_lt hjl)] at hj; cases hj
    have hone : ∀ u ∈ (List.range (m * sz)).map vals, u.oneCell' = true := fun u hu => by
      obtain ⟨j, hj, rfl⟩ := List.mem_map.1 hu
      have hjl : j < cells.length := by rw [hml]; simpa using hj
      exact (hv1.2 j _ (List.getElem?_eq_getElem hjl)).oneCell
    obtain ⟨v', w', hr', hown', hgr, hnil, hat⟩ := run_append_own_at (P := X.P) w 0 t ty e i z sz B ht hi hz hs hby hzs hS v n xs hown ⟨b, o, none⟩ m cap ((List.range (m * sz)).map vals) (by simp) hnews hone hsz63 hb (Nat.zero_le _)
    obtain ⟨β', hp, ho⟩ := append_fin r hl hnl hml hid hpm (by simpa using hown.1) hxs hblk (fun j p hj => ⟨vals j, by
      have hjl : j < m * sz := by rw [← hml]; exact (List.getElem?_eq_some_iff.1 hj).1
      rw [List.getElem?_map, List.getElem?_range hjl]; rfl, hv1.2 j p hj⟩) hown' hgr hat
    exact ⟨_, w', β', hr', hp, ho⟩
/-! ### A string's bytes, appended -/
theorem run_append_str_at {P : Program} (w : World) (t u ty e : TypeId) (i : TypeInfo) (ht : P.underlying t = some (.slice e)) (hu : P.underlying u = some .string) (hi : P.info? e = some i) (hz : i.zero = some (.int .u8 0)) (hsize : i.size = 1) (hby : i.bytes = 1)
    (v : Value) (n : Nat) (xs : List Value) (hown : w.ownsRow 0 e 1 v n xs) (s : ByteArray) (hpos : 0 < s.size) (hb : n + s.size ≤ 140737488355328) :
    ∃ v' w', (Builtin.append_ #[t, u] ty #[v, .string s]).run P w = .ok v' w' ∧ w'.ownsRow 0 e 1 v' (n + s.size) (xs ++ Lib.strCells s) ∧ w.grownBy w' v.ownBlock ∧ (v'.ownBlock = v.ownBlock ∨ v'.ownBlock = some w.heap.size) := by
  have h63 : n + s.size ≤ maxLen := by simp only [maxLen]; omega
  obtain ⟨v', w', hr, h1, h2, _⟩ := Lib.run_append_own_string (P := P) w 0 t u ty e i ht hu hi hz hsize hby v n xs hown s h63 hb (Nat.zero_le _)
  refine ⟨v', w', hr, h1, h2, ?_⟩
  have hxl : xs.length = n := by simpa using hown.1
  rcases hown.2 with ⟨rfl, rfl⟩ | ⟨g, cap, cur, rfl, hbg, hg, hnc, hcm, hcs, htake⟩
  · have hr2 := run_append_nil_string (P := P) w t u ty e i (.int .u8 0) ht hu hi hz s hpos (by omega) (by rw [hby]; omega)
    rw [hr] at hr2
    simp only [Result.ok.injEq] at hr2
    rw [hr2.1]; exact .inr rfl
  · by_cases hroom : n + s.size ≤ cap
    · have hcs' : cur.size = cap := by simpa using hcs
      have hr2 := Lib.run_append_room_string (P := P) w t u ty e i ht hu hi hsize g n cap cur hg s hroom (by omega)
      rw [hr] at hr2
      simp only [Result.ok.injEq] at hr2
      rw [hr2.1]; exact .inl rfl
    · have holds : ∀ j u, xs[j]? = some u → w.cell? ((⟨g, 0, none⟩ : Addr).add j) = some u := hown.cells (g := g) rfl
      have hr2 := Lib.run_append_grow_string (P := P) w t u ty e i (.int .u8 0) ht hu hi hz ⟨g, 0, none⟩ n cap xs (by rw [hsize]; simpa using hxl) holds s (by omega) (by omega) (by rw [hby]; exact growslice_fits (by omega) (by omega))
      rw [hr] at hr2
      simp only [Result.ok.injEq] at hr2
      rw [hr2.1]; exact .inr rfl
theorem run_append_zero_str {P : Program} {w : World} {t u ty e : TypeId} {i : TypeInfo} (ht : P.underlying t = some (.slice e)) (hu : P.underlying u = some .string) (hi : P.info? e = some i) (hsize : i.size = 1) {A : Option Addr} {n cap : Nat} (hn : n ≤ cap) :
    (Builtin.append_ #[t, u] ty #[.slice A n cap, .string ⟨#[]⟩]).run P w = .ok (.slice A n cap) w := by
  have hs0 : (ByteArray.mk #[]).size = 0 := rfl
  have hf := Lib.run_firstCells_string (P := P) w 1 ⟨#[]⟩
  rw [hs0] at hf
  have e0 : (Lib.strCells ⟨#[]⟩).toArray = #[] := rfl
  rw [e0] at hf
  cases A <;> simp [Builtin.append_, run_underlying ht, run_underlying hu, sizeOf, typeInfo, hi, hsize, Builtin.lenOf, hn, hs0, hf, storeCells]
def bytesPV (s : List UInt8) : List PV := s.map fun b => .int .u8 (b.toNat : Int)
theorem bytesPV_get {s : List UInt8} {j : Nat} {p : PV} (h : (bytesPV s)[j]? = some p) : ∃ u, (Lib.strCells ⟨s.toArray⟩)[j]? = some u ∧ ∀ w ok, RepP w ok p u := by
  unfold bytesPV at h
  rw [List.getElem?_map] at h
  cases hb : s[j]? with
  | none => rw [hb] at h; cases h
  | some b =>
    rw [hb] at h
    simp only [Option.map_some, Option.some.injEq] at h
    subst h
    refine ⟨.int .u8 (b.toNat : Int), by simp [Lib.strCells, hb], fun w ok => .int _ _ ?_⟩
    have := b.toNat_lt
    rw [range_u8]; omega
theorem append_core_str {X : Ctx} {F : Fr} {h : Hp} {β : Bt} {w : World} (r : HRel X F h β w) {t u ty e : TypeId} {i : TypeInfo} (ht : X.P.underlying t = some (.slice e)) (hu : X.P.underlying u = some .string) (hi : X.P.info? e = some i) (hz : i.zero = some (.int .u8 0)) (hs : i.size = 1) (hby : i.bytes = 1)
    {id n : Nat} {l : List PV} (hl : look h id = some (.pu e l, false)) {v : Value} (hv : OwnRep w β id 1 n v) (hnl : n * 1 ≤ l.length) (s : List UInt8) (hb : n + s.length ≤ 140737488355328) (hid : id < 1000) :
    ∃ v' w' β', (Builtin.append_ #[t, u] ty #[v, .string ⟨s.toArray⟩]).run X.P w = .ok v' w' ∧ Post X F h β w (put (scrubH id h) id (.pu e (l.take (n * 1) ++ bytesPV s), false)) β' w' (some id) ∧ OwnRep w' β' id 1 (n + s.length) v' := by
  rcases Nat.eq_zero_or_pos s.length with h0 | hpm
  · obtain rfl := List.eq_nil_of_length_eq_zero h0
    simp only [bytesPV, List.map_nil, List.append_nil, List.length_nil, Nat.add_zero] at *
    obtain ⟨β', hp, ho, A', cap', rfl, hnc⟩ := append_zero r hl hv hid
    exact ⟨_, w, β', run_append_zero_str ht hu hi hs hnc, hp, ho⟩
  · obtain ⟨xs, hown, hxs, hblk⟩ := own_row r hl hv hnl
    have hsz : (ByteArray.mk s.toArray).size = s.length := by simp [ByteArray.size]
    obtain ⟨v', w', hr', hown', hgr, hat⟩ := run_append_str_at (P := X.P) w t u ty e i ht hu hi hz hs hby v n xs hown ⟨s.toArray⟩ (by rw [hsz]; exact hpm) (by rw [hsz]; exact hb)
    rw [hsz] at hown'
    obtain ⟨β', hp, ho⟩ := append_fin (cells := bytesPV s) r hl hnl (by simp [bytesPV]) hid hpm (by simpa using hown.1) hxs hblk (fun j p hj => by
      obtain ⟨u, h1, h2⟩ := bytesPV_get hj
      exact ⟨u, h1, h2 _ _⟩) hown' hgr hat
    exact ⟨_, w', β', hr', hp, ho⟩
end Go.VL

