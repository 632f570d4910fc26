/- Contracts over whole values, and what they lean on: part i. Each holds under the conditions that it states. -/
import Derived.Test.YtekfjbjdlenhoaaGreatDoorYh
import Derived.Lib.Bytealg
import Derived.Shelf.GgClosure.StringsRunes
import Derived.Laws.RangeAny
import Derived.Lib.Join
set_option linter.unusedVariables false
set_option linter.unusedSimpArgs false

namespace Go.VL
open Go.RowKit
section
variable {X : Ctx} {f : FuncId}
/-- Of a string and a whole number. -/
theorem spc_strInt {s : List UInt8} {z : Int} {res : PA} (ent : Ent X.P f) (h : ∀ w, X.G w → s.length ≤ 9223372036854775807 → -9223372036854775808 ≤ z → z ≤ 9223372036854775807 → Calls X.P f #[.string ⟨s.toArray⟩, .int .i64 z] w fun e w' => ∃ u, e = .returned u ∧ RepV w' (fun _ => False) β0 res.av u ∧ Below w.heap.size w w') : Spc X f [.one (.str s), .one (.int .i64 z)] res :=
  spc_calls ent fun ok w vals hG hlt hs hv => by
    obtain ⟨u, hu, hr⟩ := hv 0 _ rfl
    obtain ⟨v, hv, hq⟩ := hv 1 _ rfl
    obtain ⟨rfl, hz⟩ := one_str hr
    obtain ⟨rfl, hy⟩ := one_int hq
    rw [range_i64] at hy
    rw [vals2 hs hu hv]
    exact h w hG hz hy.1 hy.2
end
end Go.VL
namespace Go.VN
open Go.RowKit Go.VL
set_option linter.unusedVariables false
/-- What stands ahead of a byte's first place. -/
def cutL (c : UInt8) (s : List UInt8) : List UInt8 := s.takeWhile (· != c)
theorem indexByte_cut (c : UInt8) : ∀ s : List UInt8, (c ∈ s → Lib.indexByte s c = ((cutL c s).length : Int) ∧ s = cutL c s ++ c :: s.drop ((cutL c s).length + 1)) ∧ (c ∉ s → Lib.indexByte s c = -1 ∧ cutL c s = s)
  | [] => ⟨fun h => (by cases h), fun _ => ⟨rfl, rfl⟩⟩
  | x :: s => by
    obtain ⟨h1, h2⟩ := indexByte_cut c s
    by_cases hx : x = c
    · subst hx
      refine ⟨fun _ => ?_, fun h => absurd (by simp) h⟩
      simp [Lib.indexByte, cutL]
    · have e : cutL c (x :: s) = x :: cutL c s := by unfold cutL; rw [List.takeWhile_cons, if_pos (by simpa using hx)]
      refine ⟨fun h => ?_, fun h => ?_⟩
      · have hm : c ∈ s := by
          rcases List.mem_cons.1 h with h | h
          · exact absurd h.symm hx
          · exact h
        obtain ⟨h3, h4⟩ := h1 hm
        rw [e]
        refine ⟨?_, ?_⟩
        · rw [Lib.indexByte, if_neg (by simpa using hx), h3, if_neg (fun e => by have := eq_of_beq e; omega), List.length_cons]
          omega
        · rw [List.length_cons, List.drop_succ_cons, List.cons_append, ← h4]
      · have hm : c ∉ s := fun hm => h (List.mem_cons_of_mem _ hm)
        obtain ⟨h3, h4⟩ := h2 hm
        rw [e, h4]
        refine ⟨?_, rfl⟩
        rw [Lib.indexByte, if_neg (by simpa using hx), h3]
        rfl
theorem cutL_app {c : UInt8} {a : List UInt8} (h : c ∉ a) (b : List UInt8) : cutL c (a ++ c :: b) = a := by
  unfold cutL
  induction a with
  | nil => simp
  | cons x a ih =>
    have hx : x ≠ c := fun e => h (by simp [e])
    rw [List.cons_append, List.takeWhile_cons, if_pos (by simpa using hx), ih (fun hm => h (List.mem_cons_of_mem _ hm))]
theorem cutL_all {c : UInt8} {a : List UInt8} (h : c ∉ a) : cutL c a = a := ((indexByte_cut c a).2 h).2
theorem cut_at {c : UInt8} {t : List UInt8} {i : Nat} (hi : i ≤ t.length) (hn : c ∉ t.take i) (h : i = t.length ∨ t[i]? = some c) : t.take i = cutL c t ∧ (cutL c t).length = i ∧ (c ∈ t ↔ i < t.length) := by
  have key : cutL c t = t.take i ∧ (c ∈ t ↔ i < t.length) := by
    rcases h with h | h
    · subst h
      rw [List.take_length] at hn ⊢
      exact ⟨cutL_all hn, fun h => absurd h hn, fun h => by omega⟩
    · obtain ⟨h1, h2⟩ := List.getElem?_eq_some_iff.1 h
      have e : t = t.take i ++ c :: t.drop (i + 1) := by
        conv => lhs; rw [← List.take_append_drop i t]
        rw [List.drop_eq_getElem_cons h1, h2]
      refine ⟨?_, fun _ => h1, fun _ => by rw [← h2]; exact List.getElem_mem h1⟩
      conv => lhs; rw [e]
      exact cutL_app hn _
  refine ⟨key.1.symm, ?_, key.2⟩
  rw [key.1, List.length_take]; omega
/-! ### The text of a fraction -/
def fmtB (f : FrN) : List UInt8 := (if f.1 = true then [45] else []) ++ fmtL f.2.1 ++ (if f.2.2 = [1] then [] else [47] ++ fmtL f.2.2)
def fmtF (f : FrN) : List UInt8 × Int := if validF f = true then (fmtB f, 0) else ([], 1)
def restS (s : List UInt8) : List UInt8 := if s.head? = some 45 then s.drop 1 else s
def denS (t : List UInt8) : List UInt8 := if 47 ∈ t then t.drop ((cutL 47 t).length + 1) else [49]
def outS (s : List UInt8) : FrN := (decide (s.head? = some 45), (parseL (cutL 47 (restS s))).1, (parseL (denS (restS s))).1)
def parseF (s : List UInt8) : FrN × Int :=
  if (parseL (cutL 47 (restS s))).2 ≠ 0 ∨ (parseL (denS (restS s))).2 ≠ 0 then (zF, 2)
  else if (fmtF (outS s)).2 ≠ 0 ∨ (fmtF (outS s)).1 ≠ s then (zF, 2) else (outS s, 0)
theorem fmtL_dec {a : List Int} (h : validB a = true) : Dec (fmtL a) ∧ fmtL a ≠ [] ∧ (fmtL a).length ≤ 4 * a.length + 1 := by
  obtain ⟨la, da, nz⟩ := validB_parts h
  by_cases h0 : a = []
  · subst h0
    exact ⟨fun c hc => by (have h48 : c = 48 := by simpa [fmtL] using hc); subst h48; decide, by decide, by decide⟩
  · obtain ⟨_, h1, h2, _, h3⟩ := fmtL_back da nz h0
    exact ⟨h1, h2, by omega⟩
theorem dec_no {a : List UInt8} (h : Dec a) {c : UInt8} (hc : c.toNat < 48) : c ∉ a := fun hm => by have := (h c hm).1; omega
theorem dec_head {a : List UInt8} (h : Dec a) {c : UInt8} (hc : c.toNat < 48) (b : List UInt8) (h0 : a ≠ []) : (a ++ b).head? ≠ some c := by
  cases a with
  | nil => exact absurd rfl h0
  | cons x a =>
    intro e
    simp at e
    subst e
    exact dec_no h hc (by simp)
theorem parse_one : parseL [49] = ([1], 0) := by
  have : parseL (fmtL [1]) = ([1], 0) := parse_fmt (by decide)
  have e : fmtL [1] = [49] := by simp [fmtL, Lib.itoa, Lib.decDigits]
  rwa [e] at this
theorem fmt_one {b : List Int} (h : validB b = true) : fmtL b = [49] ↔ b = [1] := by
  constructor
  · intro e
    have h1 := parse_fmt h
    rw [e, parse_one] at h1
    exact (congrArg Prod.fst h1).symm
  · intro e; subst e; simp [fmtL, Lib.itoa, Lib.decDigits]
theorem dec_tail {b : List Int} (h : validB b = true) : 47 ∉ fmtL b := dec_no (fmtL_dec h).1 (by decide)
/-- A valid fraction's text leads back. -/
theorem parse_text {f : FrN} (h : validF f = true) : parseF (fmtF f).1 = (f, 0) := by
  have hv := h
  unfold validF at h
  simp only [Bool.and_eq_true] at h
  obtain ⟨⟨⟨⟨ha, hb⟩, _⟩, _⟩, _⟩ := h
  obtain ⟨s, a, b⟩ := f
  simp only at ha hb
  have e0 : fmtF (s, a, b) = (fmtB (s, a, b), 0) := by unfold fmtF; rw [if_pos hv]
  have hda := fmtL_dec ha
  have na : 47 ∉ fmtL a := dec_tail ha
  have eR : restS (fmtB (s, a, b)) = fmtL a ++ (if b = [1] then [] else [47] ++ fmtL b) ∧ decide ((fmtB (s, a, b)).head? = some 45) = s := by
    unfold restS fmtB
    cases s with
    | true => simp
    | false =>
      have := dec_head hda.1 (c := 45) (by decide) (if b = [1] then [] else [47] ++ fmtL b) hda.2.1
      simp only [Bool.false_eq_true, if_false, List.nil_append]
      rw [if_neg this]
      exact ⟨rfl, decide_eq_false this⟩
  have eC : cutL 47 (restS (fmtB (s, a, b))) = fmtL a ∧ parseL (denS (restS (fmtB (s, a, b)))) = (b, 0) := by
    rw [eR.1]
    by_cases h1 : b = [1]
    · rw [if_pos h1, List.append_nil, cutL_all na]
      refine ⟨rfl, ?_⟩
      unfold denS
      rw [if_neg na, parse_one, h1]
    · rw [if_neg h1]
      have e1 : cutL 47 (fmtL a ++ ([47] ++ fmtL b)) = fmtL a := cutL_app na _
      refine ⟨e1, ?_⟩
      unfold denS
      rw [if_pos (by simp), e1]
      have : (fmtL a ++ ([47] ++ fmtL b)).drop ((fmtL a).length + 1) = fmtL b := by
        rw [List.drop_append]
        simp
      rw [this]
      exact parse_fmt hb
  have eO : outS (fmtB (s, a, b)) = (s, a, b) := by
    unfold outS
    rw [eR.2, eC.1, eC.2, parse_fmt ha]
  unfold parseF
  rw [e0, eC.1, eC.2, parse_fmt ha, eO, e0]
  simp
/-- What Parse accepts has this text. -/
theorem parse_back {s : List UInt8} (h : (parseF s).2 = 0) : validF (parseF s).1 = true ∧ fmtF (parseF s).1 = (s, 0) := by
  unfold parseF at h ⊢
  by_cases h1 : (parseL (cutL 47 (restS s))).2 ≠ 0 ∨ (parseL (denS (restS s))).2 ≠ 0
  · rw [if_pos h1] at h; cases h
  · rw [if_neg h1] at h ⊢
    by_cases h2 : (fmtF (outS s)).2 ≠ 0 ∨ (fmtF (outS s)).1 ≠ s
    · rw [if_pos h2] at h; cases h
    · rw [if_neg h2]
      rw [not_or, Decidable.not_not, Decidable.not_not] at h2
      refine ⟨?_, Prod.ext h2.2 h2.1⟩
      unfold fmtF at h2
      by_cases hv : validF (outS s) = true
      · exact hv
      · rw [if_neg hv] at h2; exact absurd h2.1 (by decide)
end Go.VN


namespace Go.VN
open Go.RowKit Go.VL
set_option linter.unusedVariables false
abbrev Snd := Int × Int × List UInt8
abbrev Sgn := List UInt8 × List Snd × Int × Int
abbrev Ort := List UInt8 × List Sgn
def eSd (s : Snd) : List PV := [.int .i64 s.1, .int .i64 s.2.1, .str s.2.2]
def eSg (s : Sgn) : List PV := [.str s.1, slc eSd s.2.1, .int .i64 s.2.2.1, .int .i64 s.2.2.2]
def eO (o : Ort) : List PV := [.str o.1, slc eSg o.2]
abbrev zSd : Snd := (0, 0, [])
abbrev zSg : Sgn := ([], [], 0, 0)
abbrev zO : Ort := ([], [])
/-! ### Names and numbers -/
def sml (c : UInt8) : Bool := decide (97 ≤ c.toNat) && decide (c.toNat ≤ 122)
def dgt (c : UInt8) : Bool := decide (48 ≤ c.toNat) && decide (c.toNat ≤ 57)
def nm2 : List UInt8 → Nat
  | [] => 0
  | [c] => if (sml c || dgt c) = true then 1 else 0
  | c :: d :: l => if (sml c || dgt c) = true then 1 + nm2 (d :: l) else if c = 45 ∧ (sml d || dgt d) = true then 2 + nm2 l else 0
def nmL (s : List UInt8) : Nat := match s with | [] => 0 | c :: l => if sml c = true then 1 + nm2 l else 0
def isNm (s : List UInt8) : Bool := !s.isEmpty && decide (s.length ≤ 20) && decide (nmL s = s.length)
def digL : List UInt8 → Nat
  | [] => 0
  | c :: l => if dgt c = true then 1 + digL l else 0
def badN (s : List UInt8) : Bool := s.isEmpty || decide (6 < s.length) || decide (digL s ≠ s.length) || (decide (1 < s.length) && decide (s.head? = some 48))
def numF (s : List UInt8) : Int × Bool := if badN s = true then (0, false) else (dv s, true)
/-! ### Sounds -/
def wrt (c : UInt8) : Bool := sml c || dgt c || decide (c = 95) || decide (c = 94) || decide (c = 39)
def nuc (s : Snd) : Bool := decide (s.1 = 1) || decide (s.1 = 2)
def qty (s : Snd) : Bool := if s.1 = 1 then decide (1 ≤ s.2.1) && decide (s.2.1 ≤ 3) else if s.1 = 2 then decide (s.2.1 = 2) else decide (s.2.1 = 0)
def sdE (s : Snd) : Int := if s.1 < 1 ∨ 9 < s.1 then 1 else if qty s = false then 6 else if s.2.2 = [] then 7 else if 8 < s.2.2.length then 3 else if s.2.2.all wrt = true then 0 else 2
abbrev ltrs : List UInt8 := [118, 100, 109, 108, 110, 115, 120, 103, 98]
def sdT (s : Snd) : List UInt8 := s.2.2 ++ [47] ++ [ltrs.getD (s.1 - 1).toNat 0] ++ (if nuc s = true then [UInt8.ofNat (48 + s.2.1.toNat)] else [])
def joinS : List (List UInt8) → List UInt8
  | [] => []
  | [x] => x
  | x :: y :: l => x ++ [32] ++ joinS (y :: l)
def sdsT (l : List Snd) : List UInt8 := joinS (l.map sdT)
def firstE (l : List Snd) : Int := match l with | [] => 0 | s :: l => if sdE s ≠ 0 then sdE s else firstE l
def fmtSd (l : List Snd) : List UInt8 × Int := if 200 < l.length then ([], 3) else if firstE l ≠ 0 then ([], firstE l) else (sdsT l, 0)
def consH (x : UInt8) : List (List UInt8) → List (List UInt8)
  | [] => [[x]]
  | y :: l => (x :: y) :: l
def spK (k : Bool) (c : UInt8) : List UInt8 → List (List UInt8)
  | [] => [[]]
  | x :: s => if x = c then (if k = true then [c] else []) :: spK k c s else consH x (spK k c s)
abbrev splitL (c : UInt8) (s : List UInt8) : List (List UInt8) := spK false c s
def idxB (l : List UInt8) (c : UInt8) : Int := Lib.indexByte l c
/-- The sound with a text, and whether there is one: as the program tells it. -/
def rdF (w : List UInt8) : Snd × Bool :=
  if 47 ∈ w ∧ w.drop ((cutL 47 w).length + 1) ≠ [] then
    let t := w.drop ((cutL 47 w).length + 1)
    let x : Snd := (Lib.indexByte ltrs (t.getD 0 0) + 1, 0, cutL 47 w)
    if nuc x = true then (if t.length = 2 ∧ 49 ≤ (t.getD 1 0).toNat ∧ (t.getD 1 0).toNat ≤ 51 then (let y : Snd := (x.1, ((t.getD 1 0).toNat : Int) - 48, x.2.2); (y, decide (sdE y = 0))) else (zSd, false))
    else if t.length = 1 then (x, decide (sdE x = 0)) else (zSd, false)
  else (zSd, false)
/-- .. as the reference tells it. -/
def rdG (w : List UInt8) : Snd × Bool :=
  if 47 ∈ w ∧ w.drop ((cutL 47 w).length + 1) ≠ [] then
    let t := w.drop ((cutL 47 w).length + 1)
    let x : Snd := (Lib.indexByte ltrs (t.getD 0 0) + 1, 0, cutL 47 w)
    if nuc x = true ∧ t.length = 2 ∧ 49 ≤ (t.getD 1 0).toNat ∧ (t.getD 1 0).toNat ≤ 51 then (let y : Snd := (x.1, ((t.getD 1 0).toNat : Int) - 48, x.2.2); (y, decide (sdE y = 0)))
    else (x, decide (t.length = 1) && decide (sdE x = 0))
  else (zSd, false)
def toO {α : Type} (p : α × Bool) : Option α := if p.2 = true then some p.1 else none
def rdS (w : List UInt8) : Option Snd := toO (rdF w)
def rdAll : List (List UInt8) → Option (List Snd)
  | [] => some []
  | w :: l => match rdS w, rdAll l with | some s, some t => some (s :: t) | _, _ => none
def prsSd (s : List UInt8) : List Snd × Int :=
  if 4000 < s.length then ([], 3) else if s = [] then ([], 0) else match rdAll (splitL 32 s) with | none => ([], 2) | some l => if 200 < l.length then ([], 2) else (l, 0)
/-! ### Signs -/
def ltr (c : UInt8) : Bool := decide (32 ≤ c.toNat) && decide (c.toNat ≤ 126) && !([32, 46, 44, 59, 58, 33, 63, 34, 45, 91, 93, 60, 62, 123, 125] : List UInt8).contains c
def upr (c : UInt8) : Bool := decide (65 ≤ c.toNat) && decide (c.toNat ≤ 90)
def txE (s : List UInt8) : Int := if s = [] then 7 else if 4 < s.length then 3 else if (s.all fun c => ltr c && !upr c) = true then 0 else 2
def sgE (s : Sgn) : Int :=
  if txE s.1 ≠ 0 then txE s.1 else if s.2.1 = [] then 7 else if 2 < s.2.1.length then 3 else if firstE s.2.1 ≠ 0 then firstE s.2.1
  else if s.2.2.1 < 0 ∨ 99 < s.2.2.1 ∨ s.2.2.2 < 0 ∨ 4 < s.2.2.2 then 6 else 0
def sameSg (a b : Sgn) : Bool := decide (a.1 = b.1) && decide (a.2.2.2 = b.2.2.2) && decide (a.2.1 = b.2.1)
/-- The first wrong sign, behind those that stand ahead. -/
def chkL : List Sgn → List Sgn → Int × Int
  | _, [] => (-1, 0)
  | p, s :: l => if sgE s ≠ 0 then (p.length, sgE s) else if (p.any fun t => sameSg t s) = true then (p.length, 5) else chkL (p ++ [s]) l
def chkO (o : Ort) : Int × Int := if isNm o.1 = false then (-1, 2) else if o.2 = [] then (-1, 7) else if 120 < o.2.length then (-1, 3) else chkL [] o.2
def begs (l : List Snd) : Bool := match l with | [] => false | s :: _ => nuc s
def ends (l : List Snd) : Bool := match l.getLast? with | none => false | some s => nuc s
def fitW (w : Int) (b a : List Snd) : Bool :=
  if w = 0 then true else if w = 1 then begs a else if w = 2 then begs a && b.isEmpty else if w = 3 then begs a && ends b else if w = 4 then !begs a else false
def fitsO (o : Ort) (i : Int) (b a : List Snd) : Bool := if i < 0 ∨ (o.2.length : Int) ≤ i then false else fitW (o.2.getD i.toNat zSg).2.2.2 b a
def findL (s : List UInt8) : Nat → List Sgn → List Int
  | _, [] => []
  | k, x :: l => if x.1 = s then (k : Int) :: findL s (k + 1) l else findL s (k + 1) l
def plcs : List (List UInt8) := [[97, 110, 121, 119, 104, 101, 114, 101], [98, 101, 102, 111, 114, 101], [115, 116, 97, 114, 116], [98, 101, 116, 119, 101, 101, 110], [110, 111, 116]]
def plc (w : Int) : List UInt8 := plcs.getD w.toNat []
abbrev wOrt : List UInt8 := [111, 114, 116, 104, 111, 103, 114, 97, 112, 104, 121]
def sgT (s : Sgn) : List UInt8 := s.1 ++ [32] ++ sdsT s.2.1 ++ [32] ++ Lib.itoa s.2.2.1 ++ [32] ++ plc s.2.2.2 ++ [10]
def ortT (o : Ort) : List UInt8 := wOrt ++ [32] ++ o.1 ++ [10] ++ o.2.flatMap sgT
def fmtO (o : Ort) : List UInt8 × Int := if (chkO o).2 ≠ 0 then ([], (chkO o).2) else (ortT o, 0)
def ixP {α : Type} (p : α → Bool) : List α → Int
  | [] => -1
  | x :: l => if p x = true then 0 else if ixP p l < 0 then -1 else ixP p l + 1
def sgMk (t : List UInt8) (sd : List Snd × Int) (nu : Int × Bool) (z : Int) : Option Sgn := if z < 0 ∨ sd.2 ≠ 0 ∨ sd.1 = [] ∨ nu.2 = false then none else some (t, sd.1, nu.1, z)
/-- The sign with a line's words. -/
def sgOf (l : List (List UInt8)) : Option Sgn :=
  if l.length < 4 ∨ l.head? = some [] then none
  else sgMk (l.getD 0 []) (prsSd (joinS ((l.drop 1).take (l.length - 3)))) (numF (l.getD (l.length - 2) [])) (ixP (fun y => decide (l.getD (l.length - 1) [] = y)) plcs)
end Go.VN


namespace Go.VN
open Go.RowKit Go.VL
set_option linter.unusedVariables false
theorem spK_hit (k : Bool) (c : UInt8) : ∀ {s : List UInt8}, c ∈ s → spK k c s = s.take ((cutL c s).length + k.toNat) :: spK k c (s.drop ((cutL c s).length + 1))
  | x :: s, h => by
    rw [spK]
    by_cases hx : x = c
    · subst hx
      rw [if_pos rfl]
      have e : cutL x (x :: s) = [] := by unfold cutL; simp
      rw [e]
      cases k <;> simp
    · rw [if_neg hx]
      have hm : c ∈ s := by rcases List.mem_cons.1 h with h | h; exact absurd h.symm hx; exact h
      have e : cutL c (x :: s) = x :: cutL c s := by
        unfold cutL
        rw [List.takeWhile_cons, if_pos (by simpa using hx)]
      rw [spK_hit k c hm, consH, e, List.length_cons, show (cutL c s).length + 1 + k.toNat = ((cutL c s).length + k.toNat) + 1 by omega, List.take_succ_cons, List.drop_succ_cons]
  | [], h => by simp at h
theorem spK_miss (k : Bool) (c : UInt8) : ∀ {s : List UInt8}, c ∉ s → spK k c s = [s]
  | [], _ => rfl
  | x :: s, h => by
    rw [List.mem_cons, not_or] at h
    rw [spK, if_neg (fun e => h.1 e.symm), spK_miss k c h.2]; rfl
theorem cutL_not (c : UInt8) : ∀ s : List UInt8, c ∉ cutL c s
  | [] => by simp [cutL]
  | x :: s => by
    have ih := cutL_not c s
    unfold cutL at ih ⊢
    rw [List.takeWhile_cons]
    by_cases h : x = c
    · subst h; simp
    · rw [if_pos (by simpa using h), List.mem_cons, not_or]
      exact ⟨fun e => h e.symm, ih⟩
theorem count_hit (c : UInt8) {s : List UInt8} (h : c ∈ s) : s.count c = (s.drop ((cutL c s).length + 1)).count c + 1 := by
  obtain ⟨_, h4⟩ := (indexByte_cut c s).1 h
  have hn := cutL_not c s
  conv => lhs; rw [h4]
  rw [List.count_append, List.count_cons_self, List.count_eq_zero_of_not_mem hn]
  omega
theorem cut_len (c : UInt8) {s : List UInt8} (h : c ∈ s) : (cutL c s).length + 1 ≤ s.length := by
  obtain ⟨_, h4⟩ := (indexByte_cut c s).1 h
  have h5 := congrArg List.length h4
  rw [List.length_append, List.length_cons] at h5
  omega
theorem spK_len (k : Bool) (c : UInt8) : ∀ (n : Nat) (s : List UInt8), s.length ≤ n → (spK k c s).length = s.count c + 1
  | 0, s, h => by
    obtain rfl := List.eq_nil_of_length_eq_zero (Nat.le_zero.1 h)
    rfl
  | n + 1, s, h => by
    by_cases hm : c ∈ s
    · have h1 := cut_len c hm
      rw [spK_hit k c hm, List.length_cons, spK_len k c n _ (by rw [List.length_drop]; omega), count_hit c hm]
    · rw [spK_miss k c hm, List.count_eq_zero_of_not_mem hm]; rfl
theorem set_fill {α : Type} (acc : List α) (x z : α) (m : Nat) (hm : 0 < m) : (acc ++ List.replicate m z).set acc.length x = (acc ++ [x]) ++ List.replicate (m - 1) z := by
  obtain ⟨m, rfl⟩ : ∃ k, m = k + 1 := ⟨m - 1, by omega⟩
  rw [List.set_append_right _ _ (Nat.le_refl _), Nat.sub_self, List.replicate_succ, List.set_cons_zero, Nat.add_sub_cancel, List.append_assoc]; rfl
end Go.VN


namespace Go.VL
open Go.RowKit
set_option linter.unusedVariables false
theorem flat_set1 {α : Type} {e : α → List PV} {S : Nat} (he : ∀ x, (e x).length = S) {p : PV} {j : Nat} {a b : α} (hb : e b = (e a).set j p) (hj : j < S) : ∀ {l : List α} {m : Nat}, l[m]? = some a → (l.flatMap e).set (m * S + j) p = (l.set m b).flatMap e
  | y :: l, 0, h => by
    obtain rfl : y = a := by simpa using h
    rw [List.set_cons_zero, List.flatMap_cons, List.flatMap_cons, hb, Nat.zero_mul, Nat.zero_add, List.set_append_left _ _ (by rw [he]; exact hj)]
  | y :: l, m + 1, h => by
    have ih := flat_set1 he hb hj (l := l) (m := m) (by simpa using h)
    rw [List.set_cons_succ, List.flatMap_cons, List.flatMap_cons, ← ih, List.set_append_right _ _ (by rw [he, Nat.succ_mul]; omega), he, Nat.succ_mul]
    congr 2
    omega
  | [], m, h => by simp at h
section
variable {X : Ctx} {N : Nat} {R : AS → Prop} {k : List KI} {ops : Array Oper} {D D' : Option (List Fl)} {rest : List Oper} {env : List (Nat × AV)} {h : Hp} {n : Nat} {d : Tmp} {ty tx : TypeId} {ps : String} {af : Array Edge}
theorem R_ldOF {x : Operand} {α : Type} {e : α → List PV} {l : List α} {id S m j : Nat} {te : TypeId} {zb : Bool} {a : α} {p : PV} {T : TI} [hT : TInf X tx T] (hl : l[m]? = some a) (hx : EvR env x (.one (.ptr id (m * S + j))) := by exact ⟨rfl⟩) (hlk : look h id = some (.pu te (l.flatMap e), zb) := by rfl) (hS : ∀ x, (e x).length = S := by exact fun _ => rfl) (hag : isAggU T.u = false := by rfl)
    (hp : (e a)[j]? = some p := by rfl) (hfl : FlR D env (.load tx x) (vP p) (.n [id] [] none) D' := by first | exact .seq | exact .drawn rfl)
    (hK : Rn X N R k ops D' rest ⟨(d, vP p) :: env, h, n⟩) : Rn X N R k ops D (⟨some d, .load tx x, ty, ps, af, none⟩ :: rest) ⟨env, h, n⟩ :=
  Rn.step (ef := .n [id] [] none) trivial (fun K hK => by
    have hg := flat_get hS hl hp
    have h1 := (List.getElem?_eq_some_iff.1 hg).1
    simp only [evOp, hx.h, evLoadBx, hT.h, hlk, hag, Bool.false_eq_true, if_false]
    exact ⟨h1, by rw [List.getD_eq_getElem?_getD, hg]; exact hK⟩) hfl hK
theorem R_stOF {x y : Operand} {α : Type} {e : α → List PV} {l : List α} {id S m j : Nat} {te : TypeId} {a b : α} {p : PV} {T : TI} [hT : TInf X tx T] (hl : l[m]? = some a) (hb : e b = (e a).set j p) (hx : EvR env x (.one (.ptr id (m * S + j))) := by exact ⟨rfl⟩) (hlk : look h id = some (.pu te (l.flatMap e), false) := by rfl) (hS : ∀ x, (e x).length = S := by exact fun _ => rfl) (hT1 : T.size = 1 := by rfl) (hj : Nat.blt j S = true := by rfl)
    (hy : EvR env y (vP p) := by exact ⟨rfl⟩) (hnn : p.isNil = false := by rfl) {h' : Hp} (hh : PutR h id (.pu te ((l.set m b).flatMap e), false) h' := by repeat (first | exact .hit | exact .nil | (apply PutR.miss; rfl)))
    (hfl : FlR D env (.store tx x y) .bot (.e h' none) D' := by first | exact .seq | exact .drawn rfl)
    (hK : Rn X N R k ops D' rest ⟨env, h', n⟩) : Rn X N R k ops D (⟨none, .store tx x y, ty, ps, af, none⟩ :: rest) ⟨env, h, n⟩ :=
  Rn.step (ef := .e h' none) (v := .bot) (n' := n) trivial (fun K hK => by
    have hj' : j < S := by simpa using hj
    have hm := (List.getElem?_eq_some_iff.1 hl).1
    have hv := (VA.one (h := h) (VC.pv hnn)).h
    have e1 : setM (l.flatMap e) (m * S + j) [p] = (l.set m b).flatMap e := flat_set1 hS hb hj' hl
    have hlt : m * S + j + 1 ≤ (l.flatMap e).length := by
      rw [flat_len hS]
      have := Nat.mul_le_mul_right S (Nat.succ_le_of_lt hm)
      rw [Nat.succ_mul] at this
      omega
    simp only [evOp, hx.h, evStore, hT.h, hlk, hy.h, viewX]
    refine hv _ ?_
    simp only [frzs, e1, hh.eq]
    exact ⟨hT1.symm, hlt, rfl, hK⟩) hfl hK
/-- A cell behind a pointer that was captured. -/
theorem R_ldPt {x : Operand} {cells : List PV} {off : Nat} {p : PV} {T : TI} [hT : TInf X tx T] (hx : EvR env x (vP (.pt cells off)) := by exact ⟨rfl⟩) (hag : isAggU T.u = false := by rfl) (hp : cells[off]? = some p := by rfl) (hfl : FlR D env (.load tx x) (vP p) (.n [] [] none) D' := by first | exact .seq | exact .drawn rfl)
    (hK : Rn X N R k ops D' rest ⟨(d, vP p) :: env, h, n⟩) : Rn X N R k ops D (⟨some d, .load tx x, ty, ps, af, none⟩ :: rest) ⟨env, h, n⟩ :=
  Rn.step (ef := .n [] [] none) trivial (fun K hK => by
    have h1 := (List.getElem?_eq_some_iff.1 hp).1
    simp only [evOp, hx.h, evLoadPv, hT.h, hag, Bool.false_eq_true, if_false]
    exact ⟨h1, by rw [List.getD_eq_getElem?_getD, hp]; exact hK⟩) hfl hK
end
end Go.VL


namespace Go.VN
open Go.RowKit Go.VL
set_option linter.unusedVariables false
def vis (c : UInt8) : Bool := decide (32 ≤ c.toNat) && decide (c.toNat ≤ 126)
def tvE (s : List UInt8) : Int := if 120 < s.length then 3 else if s.all vis = true then 0 else 2
def lowB (c : UInt8) : UInt8 := if upr c = true then UInt8.ofNat (c.toNat + 32) else c
def foldS (s : List UInt8) : List UInt8 := s.map lowB
abbrev Spn := Int × Int
def eSp (p : Spn) : List PV := [.int .i64 p.1, .int .i64 p.2]
def wStep (i : Nat) (c : UInt8) (out : List Spn) : List Spn :=
  if ltr c = false then out else if 0 < out.length ∧ (out.getD (out.length - 1) (0, 0)).2 = i then out.set (out.length - 1) ((out.getD (out.length - 1) (0, 0)).1, (i : Int) + 1) else out ++ [((i : Int), (i : Int) + 1)]
def wdsL : Nat → List UInt8 → List Spn → List Spn
  | _, [], out => out
  | i, c :: s, out => wdsL (i + 1) s (wStep i c out)
def wdsF (s : List UInt8) : List Spn × Int := if tvE s ≠ 0 then ([], tvE s) else (wdsL 0 s [], 0)
theorem lowB_fix (c : UInt8) : lowB c = c ↔ upr c = false := by
  unfold lowB
  cases h : upr c with
  | false => simp
  | true =>
    simp only [if_true, Bool.true_eq_false, iff_false]
    unfold upr at h
    simp only [Bool.and_eq_true, decide_eq_true_eq] at h
    intro he
    have h2 := congrArg UInt8.toNat he
    rw [UInt8.toNat_ofNat_of_lt' (by show c.toNat + 32 < 256; omega)] at h2
    omega
theorem foldS_fix : ∀ s : List UInt8, foldS s = s ↔ s.all (fun c => !upr c) = true
  | [] => by simp [foldS]
  | c :: s => by
    have ih := foldS_fix s
    unfold foldS at ih ⊢
    rw [List.map_cons, List.cons.injEq, lowB_fix, ih, List.all_cons, Bool.and_eq_true]
    simp
theorem foldS_len (s : List UInt8) : (foldS s).length = s.length := by unfold foldS; simp
theorem fold_next {s : List UInt8} {i : Nat} (h : i < s.length) : (foldS (s.take i) ++ s.drop i).set i (lowB s[i]) = foldS (s.take (i + 1)) ++ s.drop (i + 1) := by
  have hl : (foldS (s.take i)).length = i := by rw [foldS_len, List.length_take]; omega
  rw [List.set_append_right _ _ (by omega), hl, Nat.sub_self, List.drop_eq_getElem_cons h, List.set_cons_zero, List.take_succ_eq_append_getElem h]
  unfold foldS
  rw [List.map_append, List.append_assoc]; rfl
theorem fold_at {s : List UInt8} {i : Nat} (h : i < s.length) : (foldS (s.take i) ++ s.drop i)[i]? = some s[i] := by
  have hl : (foldS (s.take i)).length = i := by rw [foldS_len, List.length_take]; omega
  rw [List.getElem?_append_right (by omega), hl, Nat.sub_self, List.drop_eq_getElem_cons h]; rfl
theorem set_self? {α : Type} {l : List α} {i : Nat} {c : α} (h : l[i]? = some c) : l.set i c = l := by
  obtain ⟨h1, rfl⟩ := List.getElem?_eq_some_iff.1 h
  exact List.set_getElem_self h1
theorem lowB_up {c : UInt8} (h : 65 ≤ c.toNat ∧ c.toNat ≤ 90) : (lowB c).toNat = c.toNat + 32 := by
  unfold lowB upr
  rw [if_pos (by simp; exact h), UInt8.toNat_ofNat_of_lt' (by show c.toNat + 32 < 256; omega)]
theorem lowB_no {c : UInt8} (h : ¬ (65 ≤ c.toNat ∧ c.toNat ≤ 90)) : lowB c = c := by
  unfold lowB upr
  rw [if_neg (by simp; omega)]
theorem ltr_vis {c : UInt8} (h : ltr c = true) : vis c = true := by
  unfold ltr at h
  unfold vis
  simp only [Bool.and_eq_true] at h ⊢
  exact h.1
theorem all_vis {s : List UInt8} (h : s.all ltr = true) : s.all vis = true := List.all_eq_true.2 fun c hc => ltr_vis (List.all_eq_true.1 h c hc)
/-- The spans lie in order, each not empty, behind one another; the last ends at or ahead of i. -/
theorem wdsL_all : ∀ (s : List UInt8) (i : Nat), s.all ltr = true → ∀ (f : Int), wdsL i s [(f, (i : Int))] = [(f, (i : Int) + s.length)]
  | [], i, _, f => by simp [wdsL]
  | c :: s, i, h, f => by
    rw [List.all_cons, Bool.and_eq_true] at h
    rw [wdsL]
    have e : wStep i c [(f, (i : Int))] = [(f, ((i + 1 : Nat) : Int))] := by
      unfold wStep
      rw [if_neg (by rw [h.1]; decide)]
      rw [if_pos (by simp)]
      simp
    rw [e, wdsL_all s (i + 1) h.2 f, List.length_cons]
    congr 2
    push_cast
    omega
theorem wStep_len (i : Nat) (c : UInt8) (out : List Spn) : out.length ≤ (wStep i c out).length := by
  unfold wStep
  split
  · exact Nat.le_refl _
  · split
    · simp
    · simp
/-- A bound on the sum of the spans' lengths: at most the letters met. -/
def spl (l : List Spn) : Int := (l.map fun p => p.2 - p.1).sum
theorem spl_set : ∀ (l : List Spn) (k : Nat) (p : Spn), k < l.length → spl (l.set k p) = spl l - ((l.getD k (0, 0)).2 - (l.getD k (0, 0)).1) + (p.2 - p.1)
  | [], k, p, h => by simp at h
  | x :: l, 0, p, h => by simp [spl]; omega
  | x :: l, k + 1, p, h => by
    have ih := spl_set l k p (by simpa using h)
    unfold spl at ih ⊢
    simp only [List.set_cons_succ, List.map_cons, List.sum_cons, List.getD_cons_succ] at ih ⊢
    omega
theorem spl_step (i : Nat) (c : UInt8) (out : List Spn) : spl (wStep i c out) = spl out + if ltr c = true then 1 else 0 := by
  unfold wStep
  cases h : ltr c with
  | false => simp
  | true =>
    rw [if_neg (by simp), if_pos rfl]
    split
    · rename_i h2
      rw [spl_set _ _ _ (by omega), h2.2]
      simp only
      omega
    · simp [spl]; omega
theorem spl_wds : ∀ (s : List UInt8) (i : Nat) (out : List Spn), spl (wdsL i s out) = spl out + (s.filter ltr).length
  | [], i, out => by simp [wdsL]
  | c :: s, i, out => by
    rw [wdsL, spl_wds s (i + 1), spl_step]
    cases h : ltr c with
    | false => simp [h]
    | true => simp [h]; omega
/-- One word, as long as the line: exactly if all are letters. -/
theorem wds_one {s : List UInt8} (hs : s ≠ []) : ((wdsL 0 s []).length = 1 ∧ ((wdsL 0 s []).getD 0 (0, 0)).2 - ((wdsL 0 s []).getD 0 (0, 0)).1 = s.length) ↔ s.all ltr = true := by
  constructor
  · intro ⟨h1, h2⟩
    have h3 := spl_wds s 0 []
    obtain ⟨p, hp⟩ := List.length_eq_one_iff.1 h1
    rw [hp] at h2 h3
    simp only [List.getD_cons_zero] at h2
    simp only [spl, List.map_cons, List.map_nil, List.sum_cons, List.sum_nil] at h3
    have h4 : (s.filter ltr).length = s.length := by omega
    exact List.all_eq_true.2 (List.length_filter_eq_length_iff.1 h4)
  · intro h
    match s, hs, h with
    | c :: s, _, h =>
      rw [List.all_cons, Bool.and_eq_true] at h
      have e : wdsL 0 (c :: s) [] = [((0 : Int), ((s.length + 1 : Nat) : Int))] := by
        rw [wdsL]
        have e1 : wStep 0 c [] = [((0 : Int), ((1 : Nat) : Int))] := by
          unfold wStep
          rw [if_neg (by rw [h.1]; decide)]
          simp
        rw [e1, wdsL_all s 1 h.2]
        congr 2
        push_cast
        omega
      rw [e]
      simp
theorem tx_spec (s : List UInt8) : txE s = if s = [] then 7 else if 4 < s.length then 3 else if foldS s ≠ s then 2 else if (wdsF s).2 ≠ 0 ∨ (wdsF s).1.length ≠ 1 ∨ ((wdsF s).1.getD 0 (0, 0)).2 - ((wdsF s).1.getD 0 (0, 0)).1 ≠ s.length then 2 else 0 := by
  unfold txE
  by_cases h1 : s = []
  · rw [if_pos h1, if_pos h1]
  rw [if_neg h1, if_neg h1]
  by_cases h2 : 4 < s.length
  · rw [if_pos h2, if_pos h2]
  rw [if_neg h2, if_neg h2]
  have ha : (s.all fun c => ltr c && !upr c) = (s.all ltr && s.all fun c => !upr c) := by
    clear h1 h2
    induction s with
    | nil => rfl
    | cons c s ih =>
      simp only [List.all_cons, ih]
      cases ltr c <;> cases upr c <;> cases s.all ltr <;> simp
  rw [ha]
  by_cases h3 : foldS s = s
  · rw [(foldS_fix s).1 h3, Bool.and_true, if_neg (show ¬ (foldS s ≠ s) from fun h => h h3)]
    by_cases h4 : s.all ltr = true
    · have hv : tvE s = 0 := by unfold tvE; rw [if_neg (by omega), if_pos (all_vis h4)]
      have hw : wdsF s = (wdsL 0 s [], 0) := by unfold wdsF; rw [if_neg (by rw [hv]; simp)]
      have := (wds_one h1).2 h4
      rw [if_pos h4, hw, if_neg (by simp only; omega)]
    · rw [if_neg h4]
      by_cases hv : tvE s = 0
      · have hw : wdsF s = (wdsL 0 s [], 0) := by unfold wdsF; rw [if_neg (by rw [hv]; simp)]
        have hn := fun h => h4 ((wds_one h1).1 h)
        rw [hw, if_pos]
        simp only
        by_cases h5 : (wdsL 0 s []).length = 1
        · exact .inr (.inr fun h => hn ⟨h5, h⟩)
        · exact .inr (.inl h5)
      · rw [if_pos (.inl (by unfold wdsF; rw [if_pos hv]; exact hv))]
  · rw [if_pos h3]
    have : (s.all fun c => !upr c) ≠ true := fun h => h3 ((foldS_fix s).2 h)
    rw [if_neg (by rw [Bool.and_eq_true]; exact fun h => this h.2)]
end Go.VN
namespace Go.VL
open Go.RowKit
variable {X : Ctx} {f : FuncId}
/-- Of a string and a byte. -/
theorem spc_strU8 {s : List UInt8} {c : UInt8} {res : PA} (ent : Ent X.P f) (h : ∀ w, X.G w → s.length ≤ 9223372036854775807 → Calls X.P f #[.string ⟨s.toArray⟩, .int .u8 (c.toNat : Int)] w fun e w' => ∃ u, e = .returned u ∧ RepV w' (fun _ => False) β0 res.av u ∧ Below w.heap.size w w') : Spc X f [.one (.str s), .one (.int .u8 (c.toNat : Int))] res :=
  spc_calls ent fun ok w vals hG hlt hs hv => by
    obtain ⟨u, hu, hr⟩ := hv 0 _ rfl
    obtain ⟨v, hv, hq⟩ := hv 1 _ rfl
    obtain ⟨rfl, hz⟩ := one_str hr
    obtain ⟨rfl, hy⟩ := one_int hq
    rw [vals2 hs hu hv]
    exact h w hG hz
end Go.VL


namespace Go.VN
open Go.RowKit Go.VL
set_option linter.unusedVariables false
def wrR (r : Nat) : Bool := (decide (97 ≤ r) && decide (r ≤ 122)) || (decide (48 ≤ r) && decide (r ≤ 57)) || decide (r = 95) || decide (r = 94) || decide (r = 39)
theorem wrR_high {r : Nat} (h : 128 ≤ r) : wrR r = false := by
  unfold wrR
  simp only [Bool.or_eq_false_iff, Bool.and_eq_false_iff, decide_eq_false_iff_not]
  omega
theorem wrR_wrt (c : UInt8) : wrR c.toNat = wrt c := by
  have e : ∀ d : UInt8, (c = d) = (c.toNat = d.toNat) := fun d => propext ⟨fun h => by rw [h], fun h => UInt8.toNat_inj.1 h⟩
  unfold wrR wrt sml dgt
  simp only [e]
  rfl
theorem idx_wrt (s : List UInt8) : ∀ (f pos : Nat), s.length ≤ f + pos → decide (0 ≤ Lib.idxFuncFrom (fun r => !wrR r) true ⟨s.toArray⟩ f pos) = !((s.drop pos).all wrt)
  | 0, pos, h => by
    rw [List.drop_eq_nil_of_le (by omega)]
    rfl
  | f + 1, pos, h => by
    have hsz : (⟨s.toArray⟩ : ByteArray).size = s.length := by simp [ByteArray.size]
    unfold Lib.idxFuncFrom
    by_cases hp : pos < s.length
    · rw [if_pos (by rw [hsz]; exact hp)]
      have hget : ((⟨s.toArray⟩ : ByteArray)[pos]'(by rw [hsz]; exact hp)) = s[pos] := rfl
      rw [List.drop_eq_getElem_cons hp, List.all_cons]
      by_cases hc : s[pos].toNat < 128
      · rw [decode_ascii ⟨s.toArray⟩ pos (by rw [hsz]; exact hp) (by rw [hget]; exact hc), hget]
        simp only [wrR_wrt]
        cases hw : wrt s[pos] with
        | true =>
          rw [if_neg (by simp), idx_wrt s f (pos + 1) (by omega)]
          rfl
        | false =>
          rw [if_pos (by simp), decide_eq_true (by omega)]
          rfl
      · have hh := decode_high ⟨s.toArray⟩ pos (by rw [hsz]; exact hp) (by rw [hget]; omega)
        rw [if_pos (by rw [wrR_high hh.1]; rfl), decide_eq_true (by omega)]
        have : wrt s[pos] = false := by rw [← wrR_wrt]; exact wrR_high (by omega)
        rw [this]; rfl
    · rw [if_neg (by rw [hsz]; exact hp), List.drop_eq_nil_of_le (by omega)]
      rfl
theorem idx_wrt0 (s : List UInt8) : decide (0 ≤ Lib.idxFunc (fun r => !wrR r) true ⟨s.toArray⟩) = !(s.all wrt) := by
  have hsz : (⟨s.toArray⟩ : ByteArray).size = s.length := by simp [ByteArray.size]
  unfold Lib.idxFunc
  rw [hsz, idx_wrt s s.length 0 (by omega), List.drop_zero]
theorem lexLt_irr : ∀ a : List UInt8, lexLt a a = false
  | [] => rfl
  | a :: x => by
    rw [lexLt, lexLt_irr x]
    have : decide (a < a) = false := decide_eq_false (fun h => absurd (UInt8.lt_iff_toNat_lt.1 h) (Nat.lt_irrefl _))
    rw [this]; simp
def cmpSd (a b : Snd) : Int :=
  if sgn a.1 b.1 ≠ 0 then sgn a.1 b.1 else if sgn a.2.1 b.2.1 ≠ 0 then sgn a.2.1 b.2.1
  else if lexLt a.2.2 b.2.2 = true then -1 else if (!(lexLt a.2.2 b.2.2 || decide (a.2.2 = b.2.2))) = true then 1 else 0
theorem sgn_zero {x y : Int} : sgn x y = 0 ↔ x = y := by
  unfold sgn
  constructor
  · intro h
    split at h
    · cases h
    · split at h
      · cases h
      · omega
  · intro h; subst h; simp
theorem cmpSd_zero (a b : Snd) : cmpSd a b = 0 ↔ a = b := by
  unfold cmpSd
  constructor
  · intro h
    split at h
    · rename_i h1; exact absurd h h1
    rename_i h1
    split at h
    · rename_i h2; exact absurd h h2
    rename_i h2
    split at h
    · cases h
    rename_i h3
    split at h
    · cases h
    rename_i h4
    have e1 := sgn_zero.1 (Decidable.not_not.1 h1)
    have e2 := sgn_zero.1 (Decidable.not_not.1 h2)
    have e3 : a.2.2 = b.2.2 := by
      have h3' : lexLt a.2.2 b.2.2 = false := by simpa using h3
      rw [h3'] at h4
      simpa using h4
    exact Prod.ext e1 (Prod.ext e2 e3)
  · intro h
    subst h
    rw [sgn_zero.2 rfl, sgn_zero.2 rfl, lexLt_irr]
    simp
theorem eq_take {α : Type} {a b : List α} {i : Nat} (h1 : i < a.length) (h2 : i < b.length) (h : a.take i = b.take i) (hi : a[i] = b[i]) : a.take (i + 1) = b.take (i + 1) := by
  rw [List.take_succ_eq_append_getElem h1, List.take_succ_eq_append_getElem h2, h, hi]
end Go.VN


namespace Go.VN
open Go.RowKit Go.VL
set_option linter.unusedVariables false
theorem firstE_bad : ∀ {l : List Snd} {i : Nat} {x : Snd}, l[i]? = some x → (∀ y ∈ l.take i, sdE y = 0) → sdE x ≠ 0 → firstE l = sdE x
  | y :: l, 0, x, h, _, hx => by
    obtain rfl : y = x := by simpa using h
    rw [firstE, if_pos hx]
  | y :: l, i + 1, x, h, ho, hx => by
    rw [firstE, if_neg (by simpa using ho y (by simp))]
    exact firstE_bad (by simpa using h) (fun z hz => ho z (by simp [hz])) hx
  | [], i, x, h, _, _ => by simp at h
theorem firstE_ok : ∀ {l : List Snd}, (∀ y ∈ l, sdE y = 0) → firstE l = 0
  | [], _ => rfl
  | y :: l, h => by
    rw [firstE, if_neg (by simpa using h y (by simp))]
    exact firstE_ok fun z hz => h z (by simp [hz])
theorem take_succ_all {α : Type} {l : List α} {i : Nat} {x : α} {P : α → Prop} (hx : l[i]? = some x) (ho : ∀ y ∈ l.take i, P y) (h : P x) : ∀ y ∈ l.take (i + 1), P y := by
  obtain ⟨hi, rfl⟩ := List.getElem?_eq_some_iff.1 hx
  intro y hy
  rw [List.take_succ_eq_append_getElem hi] at hy
  rcases List.mem_append.1 hy with hy | hy
  · exact ho y hy
  · rw [List.mem_singleton.1 hy]; exact h
theorem getD_some {α : Type} [Inhabited α] {l : List α} {i : Nat} (h : i < l.length) : l[i]? = some (l.getD i default) := by
  rw [List.getD_eq_getElem?_getD, List.getElem?_eq_getElem h]; rfl
theorem wdsL_bd : ∀ (s : List UInt8) (i : Nat) (out : List Spn), (∀ p ∈ out, 0 ≤ p.1 ∧ p.1 ≤ i ∧ 0 ≤ p.2 ∧ p.2 ≤ i) → ∀ p ∈ wdsL i s out, 0 ≤ p.1 ∧ p.1 ≤ i + s.length ∧ 0 ≤ p.2 ∧ p.2 ≤ i + s.length
  | [], i, out, h => by simpa [wdsL] using h
  | c :: s, i, out, h => by
    have ih := wdsL_bd s (i + 1) (wStep i c out) (fun p hp => by
      unfold wStep at hp
      split at hp
      · have := h p hp; omega
      · split at hp
        · rename_i h2
          rcases List.mem_or_eq_of_mem_set hp with hp | hp
          · have := h p hp; omega
          · have hm : out.getD (out.length - 1) (0, 0) ∈ out := by
              rw [List.getD_eq_getElem?_getD, List.getElem?_eq_getElem (by omega)]
              exact List.getElem_mem _
            have := h _ hm
            rw [hp]; simp only; omega
        · rcases List.mem_append.1 hp with hp | hp
          · have := h p hp; omega
          · rw [List.mem_singleton.1 hp]; simp only; omega)
    intro p hp
    rw [wdsL] at hp
    have := ih p hp
    rw [List.length_cons]
    omega
theorem wdsF_bd (s : List UInt8) : ∀ p ∈ (wdsF s).1, 0 ≤ p.1 ∧ p.1 ≤ 120 ∧ 0 ≤ p.2 ∧ p.2 ≤ 120 := by
  intro p hp
  unfold wdsF at hp
  by_cases h : tvE s ≠ 0
  · rw [if_pos h] at hp; simp at hp
  · rw [if_neg h] at hp
    have hl : s.length ≤ 120 := by
      unfold tvE at h
      by_cases h1 : 120 < s.length
      · rw [if_pos h1] at h; simp at h
      · omega
    have := wdsL_bd s 0 [] (by simp) p hp
    omega
def eqA (c : UInt8) (l : List UInt8) : Bool := l.contains c
end Go.VN
namespace Go.VN
open Go.RowKit Go.VL
theorem eqPs_sd (a b : Snd) : eqPs (eSd a) (eSd b) = decide (a = b) := by
  obtain ⟨a1, a2, a3⟩ := a
  obtain ⟨b1, b2, b3⟩ := b
  simp only [eSd, eqPs, eqP, Bool.and_true]
  rw [Bool.eq_iff_iff]
  simp
theorem ixP_no {α : Type} {p : α → Bool} : ∀ {l : List α}, (∀ y ∈ l, p y = false) → ixP p l = -1
  | [], _ => rfl
  | x :: l, h => by
    have ih := ixP_no (p := p) (l := l) fun y hy => h y (by simp [hy])
    rw [ixP, if_neg (by rw [h x (by simp)]; decide), ih]; rfl
theorem ixP_at {α : Type} {p : α → Bool} : ∀ {l : List α} {i : Nat} {x : α}, l[i]? = some x → (∀ y ∈ l.take i, p y = false) → p x = true → ixP p l = i
  | y :: l, 0, x, h, _, hx => by
    obtain rfl : y = x := by simpa using h
    rw [ixP, if_pos hx]; rfl
  | y :: l, i + 1, x, h, ho, hx => by
    have ih := ixP_at (p := p) (l := l) (i := i) (by simpa using h) (fun z hz => ho z (by simp [hz])) hx
    rw [ixP, if_neg (by rw [ho y (by simp)]; decide), ih, if_neg (by omega)]; push_cast; rfl
  | [], i, x, h, _, _ => by simp at h
theorem ixP_any {α : Type} (p : α → Bool) : ∀ l : List α, decide (0 ≤ ixP p l) = l.any p
  | [] => rfl
  | x :: l => by
    have ih := ixP_any p l
    rw [ixP, List.any_cons]
    cases h : p x with
    | true => simp
    | false =>
      rw [if_neg (by decide), Bool.false_or, ← ih]
      by_cases h1 : ixP p l < 0
      · rw [if_pos h1, decide_eq_false (by omega), decide_eq_false (by omega)]
      · rw [if_neg h1, decide_eq_true (by omega), decide_eq_true (by omega)]
theorem sameSg_comm (a b : Sgn) : sameSg a b = sameSg b a := by
  unfold sameSg
  rw [Bool.eq_iff_iff]
  simp only [Bool.and_eq_true, decide_eq_true_eq]
  constructor <;> (rintro ⟨⟨h1, h2⟩, h3⟩; exact ⟨⟨h1.symm, h2.symm⟩, h3.symm⟩)
theorem chkL_step {l : List Sgn} {i : Nat} {x : Sgn} (h : l[i]? = some x) : chkL (l.take i) (l.drop i) = if sgE x ≠ 0 then ((i : Int), sgE x) else if ((l.take i).any fun t => sameSg t x) = true then ((i : Int), 5) else chkL (l.take (i + 1)) (l.drop (i + 1)) := by
  obtain ⟨hi, rfl⟩ := List.getElem?_eq_some_iff.1 h
  rw [List.drop_eq_getElem_cons hi, chkL, List.take_succ_eq_append_getElem hi, List.length_take, Nat.min_eq_left (by omega)]
end Go.VN
namespace Go.VL
open Go.RowKit
theorem VA.clo1 {h : Hp} {id off : Nat} {f : FuncId} {cs : List AC} {ps : List PV} {ids : List Nat} {z : Bool} (hl : look h id = some (.mx cs, z)) (hc : VL h cs ps ids) : VA h (.one (.clo f [.ptr id off])) (.one (.clo f [.pt ps off])) (id :: ids ++ []) := ⟨fun K hK => by
  simp only [viewA, viewCaps, viewCap, viewC, hl]
  exact hc.h _ hK⟩
end Go.VL


namespace Go.VS.YtekfjbjdlenhoaaGreatDoor
open Go Go.VL Go.VN Go.RowKit Go.Proofs
set_option maxRecDepth 100000
set_option linter.unusedVariables false
set_option linter.unusedSimpArgs false

theorem s_IndexS1 (s : List UInt8) (c : UInt8) (hl : s.length ≤ 140737488355328) : Spc X 79 [.one (.str s), .one (.str [c])] (.one (.int .i64 (Lib.indexByte s c))) :=
  spc_str2 (ent_of2 (P := X.P) Tryz.func79 (by kernel_rfl) (by kernel_rfl)) fun w hG h0 _ => (Tryz.strings_Index_one ⟨s.toArray⟩ c w).mono fun e w' ⟨he, hw⟩ => ⟨_, he, .int _ _ ((Go.VL.range_i64 _).2 (by
    have h1 := Lib.indexByte_ge s c
    have h2 : Lib.indexByte s c ≤ 140737488355328 := by
      by_cases hm : c ∈ s
      · rw [((indexByte_cut c s).1 hm).1]
        have := cut_len c hm
        omega
      · rw [((indexByte_cut c s).2 hm).1]; omega
    constructor <;> omega)), by rw [hw]; exact Below.refl _ _⟩
theorem s_Count1 (s : List UInt8) (c : UInt8) (hl : s.length ≤ 140737488355328) : Spc X 113 [.one (.str s), .one (.str [c])] (.one (.int .i64 (s.count c : Nat))) :=
  spc_str2 (ent_of2 (P := X.P) Tryz.func113 (by kernel_rfl) (by kernel_rfl)) fun w hG h0 _ => (Tryz.strings_Count_one ⟨s.toArray⟩ c w).mono fun e w' ⟨he, hw⟩ => ⟨_, he, .int _ _ ((Go.VL.range_i64 _).2 (by
    have h2 := List.count_le_length (a := c) (l := s)
    constructor <;> omega)), by rw [hw]; exact Below.refl _ _⟩
theorem s_Contains1 (s : List UInt8) (c : UInt8) : Spc X 54 [.one (.str s), .one (.str [c])] (.one (.bool (s.contains c))) :=
  spc_str2 (ent_of2 (P := X.P) Tryz.func54 (by kernel_rfl) (by kernel_rfl)) fun w hG h0 _ => (Tryz.strings_Contains_one ⟨s.toArray⟩ c w).mono fun e w' ⟨he, hw⟩ => ⟨_, by
    rw [he]
    have : decide (0 ≤ Lib.indexByte s c) = s.contains c := by
      by_cases hm : c ∈ s
      · rw [((indexByte_cut c s).1 hm).1, List.contains_iff_mem.2 hm]; simp
      · rw [((indexByte_cut c s).2 hm).1, Bool.eq_false_iff.2 (fun h => hm (List.contains_iff_mem.1 h))]; rfl
    rw [show Lib.indexByte (ByteArray.mk s.toArray).data.toList c = Lib.indexByte s c from rfl, this], .bool _, by rw [hw]; exact Below.refl _ _⟩
theorem s_genSplit (k : Bool) (c : UInt8) (s : List UInt8) (hl : s.length ≤ 1000000) : Spc X 76 [.one (.str s), .one (.str [c]), .one (.int .i64 (k.toNat : Int)), .one (.int .i64 (-1))] (.one (slc eS (spK k c s))) := by
  refine Spc.start Tryz.func76 rfl (h := fun hs R hR => ?_)
  unfold Tryz.f76
  simp only [entryE, PA.av]
  have k1 := s_Count1 s c (by omega)
  have hc := List.count_le_length (a := c) (l := s)
  have hk : (k.toNat : Int) ≤ 1 := by cases k <;> simp
  refine walk (hQ := ?_)
  refine R_call k1 (hK := ?_)
  refine walk (hQ := ?_)
  have hspl : ∀ m, m = s.count c → (spK k c s).length = m + 1 := fun m hm => by rw [spK_len k c s.length s (Nat.le_refl _), hm]
  generalize hn : s.count c = n at *
  have e1 : min ((n : Int) + 1) ((s.length : Int) + 1) = ((n + 1 : Nat) : Int) := by omega
  rw [e1]
  simp only [Int.toNat_natCast]
  refine Lp.intro2 (fun (acc : List (List UInt8)) (cur : List UInt8) => ⟨[(0, vS cur), (1, vS [c]), (2, vI (k.toNat : Int)), (3, vI n), (9, .one (.own 0 1 (n + 1))), (10, vI acc.length)], [(0, (.pu 9 ((acc ++ List.replicate (n + 1 - acc.length) []).flatMap eS), false))], 1⟩) (fun acc cur => acc ++ spK k c cur = spK k c s ∧ acc.length + cur.count c = n ∧ cur.length ≤ s.length) (fun acc cur => cur.length) [] s ⟨by simp, by simp [hn], Nat.le_refl _⟩ (h0 := le_auto) (hr := fun acc cur K ⟨hi, ho, hcl⟩ hK => ?_)
  have hal : (acc ++ List.replicate (n + 1 - acc.length) ([] : List UInt8)).length = n + 1 := by rw [List.length_append, List.length_replicate]; omega
  have hsf := fun x => set_fill acc x ([] : List UInt8) (n + 1 - acc.length) (by omega)
  refine walk (hQ := ?_)
  refine W_if (ht := fun h1 => ?_) (hf := fun h1 => ?_)
  · have hm : c ∈ cur := List.count_pos_iff.1 (by omega)
    have h2 := spK_hit k c hm
    have h3 := count_hit c hm
    have h4 := cut_len c hm
    have k2 := s_IndexS1 cur c (by omega)
    rw [((indexByte_cut c cur).1 hm).1] at k2
    have hkk : k.toNat ≤ 1 := by cases k <;> simp
    generalize (cutL c cur).length = q at *
    refine walk (hQ := ?_)
    refine R_call k2 (hK := ?_)
    refine walk (hQ := ?_)
    rw [hsf, show n + 1 - acc.length - 1 = n + 1 - (acc.length + 1) by omega]
    rw [h2, show acc ++ cur.take (q + k.toNat) :: spK k c (cur.drop (q + 1)) = (acc ++ [cur.take (q + k.toNat)]) ++ spK k c (cur.drop (q + 1)) by rw [List.append_assoc]; rfl] at hi
    refine hK _ (acc ++ [cur.take (q + k.toNat)]) (cur.drop (q + 1)) ⟨hi, by rw [List.length_append, List.length_singleton]; omega, by rw [List.length_drop]; omega⟩ (by rw [List.length_drop]; omega) ?_
    rw [List.length_append, List.length_singleton]
    exact le_auto
  · have hno : cur.count c = 0 := by omega
    have hm : c ∉ cur := List.count_eq_zero.1 hno
    rw [spK_miss k c hm] at hi
    obtain rfl : acc.length = n := by omega
    have hl2 := hspl _ rfl
    refine walk (hQ := ?_)
    rw [hsf, show acc.length + 1 - acc.length - 1 = 0 by omega, List.replicate_zero, List.append_nil, hi]
    exact hR _ (ret1 (hp := rfl))
theorem s_Split (c : UInt8) (s : List UInt8) (hl : s.length ≤ 1000000) : Spc X 80 [.one (.str s), .one (.str [c])] (.one (slc eS (splitL c s))) := by
  refine Spc.start Tryz.func80 rfl (h := fun hs R hR => ?_)
  unfold Tryz.f80
  simp only [entryE, PA.av]
  have k1 := s_genSplit false c s hl
  refine walk (hQ := ?_)
  refine R_call k1 (hK := ?_)
  refine walk (hQ := ?_)
  exact hR _ (ret1 (hp := rfl))
theorem s_SplitAfter (c : UInt8) (s : List UInt8) (hl : s.length ≤ 1000000) : Spc X 51 [.one (.str s), .one (.str [c])] (.one (slc eS (spK true c s))) := by
  refine Spc.start Tryz.func51 rfl (h := fun hs R hR => ?_)
  unfold Tryz.f51
  simp only [entryE, PA.av]
  have k1 := s_genSplit true c s hl
  refine walk (hQ := ?_)
  refine R_call k1 (hK := ?_)
  refine walk (hQ := ?_)
  exact hR _ (ret1 (hp := rfl))
theorem s_CutSuffix (s t : List UInt8) : Spc X 52 [.one (.str s), .one (.str t)] (.tup [(false, [.str (Lib.trimSuffix s t)]), (false, [.bool (Lib.hasSuffix s t)])]) :=
  spc_str2 (ent_of2 (P := X.P) Tryz.func52 (by kernel_rfl) (by kernel_rfl)) fun w hG h0 _ => (Tryz.strings_CutSuffix ⟨s.toArray⟩ ⟨t.toArray⟩ w (by simpa [ByteArray.size] using h0)).mono fun e w' ⟨he, hw⟩ => ⟨_, he, ⟨#[.string ⟨(Lib.trimSuffix s t).toArray⟩, .bool (Lib.hasSuffix s t)], rfl, rfl, fun j x hj => by
    match j, hj with
    | 0, hj => cases hj; exact ⟨_, rfl, _, rfl, .str _ (Nat.le_trans (by unfold Lib.trimSuffix; split <;> simp) h0)⟩
    | 1, hj => cases hj; exact ⟨_, rfl, _, rfl, .bool _⟩⟩, by rw [hw]; exact Below.refl _ _⟩
theorem s_CutPrefix (s t : List UInt8) : Spc X 53 [.one (.str s), .one (.str t)] (.tup [(false, [.str (Lib.trimPrefix s t)]), (false, [.bool (Lib.hasPrefix s t)])]) :=
  spc_str2 (ent_of2 (P := X.P) Tryz.func53 (by kernel_rfl) (by kernel_rfl)) fun w hG h0 _ => (Tryz.strings_CutPrefix ⟨s.toArray⟩ ⟨t.toArray⟩ w).mono fun e w' ⟨he, hw⟩ => ⟨_, he, ⟨#[.string ⟨(Lib.trimPrefix s t).toArray⟩, .bool (Lib.hasPrefix s t)], rfl, rfl, fun j x hj => by
    match j, hj with
    | 0, hj => cases hj; exact ⟨_, rfl, _, rfl, .str _ (Nat.le_trans (by unfold Lib.trimPrefix; split <;> simp) h0)⟩
    | 1, hj => cases hj; exact ⟨_, rfl, _, rfl, .bool _⟩⟩, by rw [hw]; exact Below.refl _ _⟩
theorem s_IndexStr (l : List (List UInt8)) (w : List UInt8) : Spc X 83 [.one (slc eS l), .one (.str w)] (.one (.int .i64 (ixP (fun y => decide (w = y)) l))) := by
  refine Spc.start Tryz.func83 rfl (h := fun hs R hR => ?_)
  unfold Tryz.f83
  simp only [entryE, PA.av]
  have la := (sane_slc hs.1).1
  refine walk (hQ := ?_)
  refine Lp.intro (fun (i : Nat) => ⟨[(0, vP (slc eS l)), (1, vS w), (7, vI l.length), (8, vI i)], [], 0⟩) (fun i => i ≤ l.length ∧ ∀ y ∈ l.take i, decide (w = y) = false) (fun i => l.length - i) 0 ⟨Nat.zero_le _, by simp⟩ (h0 := le_auto) (hr := fun i K ⟨hi, ho⟩ hK => ?_)
  refine walk (hQ := ?_)
  refine W_if (ht := fun h1 => ?_) (hf := fun h1 => ?_)
  · have hil : i < l.length := by omega
    have e0 := getD_some hil
    have hst := take_succ_all (P := fun y => decide (w = y) = false) e0 ho
    have hbd := ixP_at (p := fun y => decide (w = y)) e0 ho
    refine walk (hQ := ?_)
    generalize l.getD i default = x at *
    refine W_if (ht := fun h2 => ?_) (hf := fun h2 => ?_)
    · rw [hbd (decide_eq_true h2)] at hR
      refine walk (hQ := ?_)
      exact hR _ (ret1 (hp := rfl))
    · refine walk (hQ := ?_)
      exact hK _ (i + 1) ⟨by omega, hst (decide_eq_false h2)⟩ (by omega) le_auto
  · obtain rfl : i = l.length := by omega
    rw [List.take_length] at ho
    rw [ixP_no ho] at hR
    refine walk (hQ := ?_)
    exact hR _ (ret1 (hp := rfl))
end Go.VS.YtekfjbjdlenhoaaGreatDoor


namespace Go.VN
open Go.RowKit Go.VL
set_option linter.unusedVariables false
theorem sdE_nuc0 {k : Int} {s : List UInt8} (h : nuc (k, 0, s) = true) : sdE (k, 0, s) ≠ 0 := by
  unfold nuc at h
  simp only [Bool.or_eq_true, decide_eq_true_eq] at h
  unfold sdE qty
  rcases h with rfl | rfl <;> simp
theorem rdG_rdS (w : List UInt8) : toO (rdG w) = rdS w := by
  unfold rdS rdG rdF toO
  by_cases h0 : 47 ∈ w ∧ w.drop ((cutL 47 w).length + 1) ≠ []
  · rw [if_pos h0, if_pos h0]
    simp only
    generalize w.drop ((cutL 47 w).length + 1) = t
    generalize hk : Lib.indexByte ltrs (t.getD 0 0) + 1 = k
    cases hn : nuc (k, 0, cutL 47 w) with
    | true =>
      have h2 := sdE_nuc0 hn
      by_cases h1 : t.length = 2 ∧ 49 ≤ (t.getD 1 0).toNat ∧ (t.getD 1 0).toNat ≤ 51
      · simp only [h1, and_self, if_true]
      · simp only [h1, and_false, if_false, if_true, decide_eq_false h2, Bool.and_false, Bool.false_eq_true]
    | false =>
      by_cases h1 : t.length = 1
      · simp only [h1, Bool.false_eq_true, false_and, if_false, if_true, decide_true, Bool.true_and]
      · simp only [h1, Bool.false_eq_true, false_and, if_false, decide_false, Bool.false_and]
  · rw [if_neg h0, if_neg h0]
theorem joinS_join : ∀ l : List (List UInt8), joinS l = Lib.join l [32]
  | [] => rfl
  | [x] => by simp [joinS, Lib.join, List.intercalate]
  | x :: y :: l => by
    have ih := joinS_join (y :: l)
    rw [joinS, ih]
    simp [Lib.join, List.intercalate, List.intersperse]
end Go.VN
namespace Go.VN
open Go.RowKit Go.VL
theorem spK_mem (k : Bool) (c : UInt8) : ∀ (s : List UInt8), ∀ w ∈ spK k c s, w.length ≤ s.length
  | [], w, h => by
    simp only [spK, List.mem_singleton] at h
    rw [h]; simp
  | x :: s, w, h => by
    have ih := spK_mem k c s
    rw [spK] at h
    by_cases hx : x = c
    · rw [if_pos hx] at h
      rcases List.mem_cons.1 h with h | h
      · rw [h]; cases k <;> simp
      · have := ih w h; rw [List.length_cons]; omega
    · rw [if_neg hx] at h
      cases he : spK k c s with
      | nil =>
        rw [he] at h
        simp only [consH, List.mem_singleton] at h
        rw [h]; simp
      | cons y l =>
        rw [he] at h ih
        simp only [consH] at h
        rcases List.mem_cons.1 h with h | h
        · have := ih y (by simp)
          rw [h, List.length_cons, List.length_cons]; omega
        · have := ih w (by simp [h])
          rw [List.length_cons]; omega
theorem rdAll_app : ∀ (a b : List (List UInt8)), rdAll (a ++ b) = (rdAll a).bind fun x => (rdAll b).map fun y => x ++ y
  | [], b => by simp [rdAll]
  | w :: a, b => by
    have ih := rdAll_app a b
    rw [List.cons_append, rdAll, rdAll, ih]
    cases rdS w with
    | none => rfl
    | some x => cases rdAll a with
      | none => rfl
      | some y => cases rdAll b <;> rfl
theorem rdAll_len : ∀ {l : List (List UInt8)} {out : List Snd}, rdAll l = some out → out.length = l.length
  | [], out, h => by simp only [rdAll, Option.some.injEq] at h; rw [← h]; rfl
  | w :: l, out, h => by
    rw [rdAll] at h
    cases hw : rdS w with
    | none => rw [hw] at h; cases h
    | some x =>
      cases hl : rdAll l with
      | none => rw [hw, hl] at h; cases h
      | some y =>
        rw [hw, hl] at h
        have := rdAll_len hl
        cases h
        simp [this]
theorem rdAll_next {l : List (List UInt8)} {i : Nat} {w : List UInt8} {out : List Snd} (h : l[i]? = some w) (ho : rdAll (l.take i) = some out) : (rdS w = none → rdAll l = none) ∧ ∀ x, rdS w = some x → rdAll (l.take (i + 1)) = some (out ++ [x]) := by
  obtain ⟨hi, rfl⟩ := List.getElem?_eq_some_iff.1 h
  constructor
  · intro hn
    have e : l = l.take i ++ l[i] :: l.drop (i + 1) := by
      rw [← List.drop_eq_getElem_cons hi, List.take_append_drop]
    rw [e, rdAll_app, ho]
    simp only [Option.bind_some]
    rw [rdAll, hn]; rfl
  · intro x hx
    rw [List.take_succ_eq_append_getElem hi, rdAll_app, ho]
    simp only [Option.bind_some, rdAll, hx]; rfl
end Go.VN
namespace Go.VN
open Go.RowKit Go.VL
theorem spK_ne (k : Bool) (c : UInt8) (s : List UInt8) : 0 < (spK k c s).length := by rw [spK_len k c s.length s (Nat.le_refl _)]; omega
def lastAdd (l : List (List UInt8)) (x : UInt8) : List (List UInt8) := l.set (l.length - 1) (l.getD (l.length - 1) [] ++ [x])
theorem lastAdd_cons {a : List UInt8} {l : List (List UInt8)} (h : 0 < l.length) (x : UInt8) : lastAdd (a :: l) x = a :: lastAdd l x := by
  match l, h with
  | b :: l, _ => unfold lastAdd; simp
theorem splitL_snoc (c x : UInt8) : ∀ p : List UInt8, splitL c (p ++ [x]) = if x = c then splitL c p ++ [[]] else lastAdd (splitL c p) x
  | [] => by
    by_cases h : x = c <;> simp [splitL, spK, h, consH, lastAdd]
  | y :: p => by
    have ih := splitL_snoc c x p
    have hp : 0 < (splitL c p).length := spK_ne false c p
    rw [List.cons_append]
    unfold splitL at ih hp ⊢
    rw [spK, spK, ih]
    by_cases hy : y = c
    · rw [if_pos hy, if_pos hy]
      by_cases hx : x = c
      · rw [if_pos hx, if_pos hx]; rfl
      · rw [if_neg hx, if_neg hx, lastAdd_cons hp]
    · rw [if_neg hy, if_neg hy]
      match hl : spK false c p, hp with
      | a :: l, _ =>
        by_cases hx : x = c
        · rw [if_pos hx, if_pos hx]; rfl
        · rw [if_neg hx, if_neg hx]
          cases l with
          | nil => simp [consH, lastAdd]
          | cons b l =>
            rw [lastAdd_cons (a := a) (l := b :: l) (by simp)]
            show (y :: a) :: lastAdd (b :: l) x = lastAdd ((y :: a) :: (b :: l)) x
            rw [lastAdd_cons (a := y :: a) (l := b :: l) (by simp)]
end Go.VN
namespace Go.VN
open Go.RowKit Go.VL
abbrev lts : List UInt8 := [32, 118, 100, 109, 108, 110, 115, 120, 103, 98]
theorem lts_tab : ∀ n < 256, ∀ k < 10, 1 ≤ k → (lts.getD k 0 = UInt8.ofNat n ↔ Lib.indexByte ltrs (UInt8.ofNat n) + 1 = (k : Int)) := by decide +kernel
theorem lts_at (c : UInt8) {k : Nat} (h1 : 1 ≤ k) (h2 : k < 10) : lts.getD k 0 = c ↔ Lib.indexByte ltrs c + 1 = (k : Int) := by
  have := lts_tab c.toNat c.toNat_lt k h2 h1
  rwa [UInt8.ofNat_toNat] at this
theorem ltrs_le (c : UInt8) : Lib.indexByte ltrs c ≤ 8 := by
  by_cases hm : c ∈ ltrs
  · rw [((indexByte_cut c ltrs).1 hm).1]
    have := cut_len c hm
    simp only [List.length_cons, List.length_nil] at this
    omega
  · rw [((indexByte_cut c ltrs).2 hm).1]; omega
end Go.VN
namespace Go.VN
open Go.RowKit Go.VL
theorem joinS_len {B : Nat} : ∀ {l : List (List UInt8)}, (∀ w ∈ l, w.length ≤ B) → (joinS l).length ≤ l.length * (B + 1)
  | [], _ => by simp [joinS]
  | [x], h => by have := h x (by simp); simp [joinS]; omega
  | x :: y :: l, h => by
    have ih := joinS_len (l := y :: l) fun w hw => h w (by simp [hw])
    have := h x (by simp)
    rw [joinS, List.length_append, List.length_append, List.length_singleton, List.length_cons, Nat.succ_mul]
    omega
def oO {α : Type} (z : α) (o : Option α) : α × Bool := match o with | none => (z, false) | some x => (x, true)
end Go.VN


namespace Go.VS.YtekfjbjdlenhoaaGreatDoor
open Go Go.VL Go.VN Go.RowKit Go.Proofs
set_option maxRecDepth 100000
set_option linter.unusedVariables false
set_option linter.unusedSimpArgs false

theorem s_Join (l : List (List UInt8)) (sep : List UInt8) (h0 : 0 < l.length) (hN : l.length ≤ 1000000) (hl : (Lib.join l sep).length ≤ 140737488355328) : Spc X 73 [.one (slc eS l), .one (.str sep)] (.one (.str (Lib.join l sep))) :=
  spc_calls (ent_of2 (P := X.P) Tryz.func73 (by kernel_rfl) (by kernel_rfl)) fun ok w vals hG hlt hs hv => by
    obtain ⟨u, hu, hr⟩ := hv 0 _ rfl
    obtain ⟨v, hv, hq⟩ := hv 1 _ rfl
    obtain ⟨rfl, hz⟩ := one_str hq
    obtain ⟨A, cap, rfl, h1, _, h3, hpos⟩ := one_sl hr
    obtain ⟨_, sz, b, o, rfl, hl', hok, hc⟩ := hpos h0
    rw [vals2 hs hu hv]
    have em : (l.map fun s => (⟨s.toArray⟩ : ByteArray)).map (fun x => x.data.toList) = l := by
      rw [List.map_map]; exact List.map_id'' (fun _ => rfl) l
    have el : (l.map fun s => (⟨s.toArray⟩ : ByteArray)).length = l.length := List.length_map ..
    have hj := Tryz.strings_Join b o cap (l.map fun s => ⟨s.toArray⟩) ⟨sep.toArray⟩ w (fun j x hj => by
      rw [List.getElem?_map] at hj
      cases hx : l[j]? with
      | none => rw [hx] at hj; cases hj
      | some y =>
        rw [hx] at hj
        cases hj
        have hp : (l.flatMap eS)[j]? = some (.str y) := by
          have := flat_get (e := eS) (S := 1) (fun _ => rfl) hx (show (eS y)[0]? = some (.str y) from rfl)
          simpa using this
        obtain ⟨v, hv, hrv⟩ := hc j _ hp
        cases hrv
        exact hv) (hlt _ hok) (by omega) (by omega) (by rw [em]; exact hl)
    rw [em, el] at hj
    refine hj.mono fun e w' ⟨he, hb⟩ => ?_
    exact ⟨_, he, .str _ (Nat.le_trans hl (by decide)), hb⟩
theorem s_Index1 (s : List UInt8) (c : UInt8) (hl : s.length ≤ 140737488355328) : Spc X 116 [.one (.str s), .one (.str [c])] (.one (.int .i64 (Lib.indexByte s c))) :=
  spc_str2 (ent_of2 (P := X.P) Tryz.func116 (by kernel_rfl) (by kernel_rfl)) fun w hG h0 _ => (Tryz.stringslite_Index_one ⟨s.toArray⟩ c w).mono fun e w' ⟨he, hw⟩ => ⟨_, he, .int _ _ ((Go.VL.range_i64 _).2 (by
    have h1 := Lib.indexByte_ge s c
    have h2 : Lib.indexByte s c ≤ 140737488355328 := by
      by_cases hm : c ∈ s
      · rw [((indexByte_cut c s).1 hm).1]
        have := cut_len c hm
        omega
      · rw [((indexByte_cut c s).2 hm).1]; omega
    constructor <;> omega)), by rw [hw]; exact Below.refl _ _⟩
theorem s_cut1 (s : List UInt8) (c : UInt8) (hl : s.length ≤ 140737488355328) : Spc X 161 [.one (.str s), .one (.str [c])] (.tup [(false, [.str (cutL c s)]), (false, [.str (if c ∈ s then s.drop ((cutL c s).length + 1) else [])]), (false, [.bool (decide (c ∈ s))])]) := by
  refine Spc.start Tryz.func161 rfl (h := fun hs R hR => ?_)
  unfold Tryz.f161
  simp only [entryE, PA.av]
  refine walk (hQ := ?_)
  refine R_call (s_Index1 s c hl) (hK := ?_)
  by_cases hm : c ∈ s
  · obtain ⟨h3, h4⟩ := (indexByte_cut c s).1 hm
    have h6 := cut_len c hm
    have h7 : s.take (cutL c s).length = cutL c s := (congrArg (List.take (cutL c s).length) h4).trans (List.take_left' rfl)
    rw [h3]
    simp only [hm, decide_true, if_true] at hR
    refine walk (hQ := ?_)
    rw [h7]
    exact hR _ (ret3 (hp := rfl))
  · obtain ⟨h3, h4⟩ := (indexByte_cut c s).2 hm
    rw [h3]
    simp only [hm, decide_false, if_false] at hR
    rw [h4] at hR
    refine walk (hQ := ?_)
    exact hR _ (ret3 (hp := rfl))
theorem s_Cut1 (s : List UInt8) (c : UInt8) (hl : s.length ≤ 140737488355328) : Spc X 147 [.one (.str s), .one (.str [c])] (.tup [(false, [.str (cutL c s)]), (false, [.str (if c ∈ s then s.drop ((cutL c s).length + 1) else [])]), (false, [.bool (decide (c ∈ s))])]) := by
  refine Spc.start Tryz.func147 rfl (h := fun hs R hR => ?_)
  unfold Tryz.f147
  simp only [entryE, PA.av]
  refine walk (hQ := ?_)
  refine R_call (s_cut1 s c hl) (hK := ?_)
  refine walk (hQ := ?_)
  exact hR _ (ret3 (hp := rfl))
end Go.VS.YtekfjbjdlenhoaaGreatDoor


namespace Go.VS.YtekfjbjdlenhoaaGreatDoor
open Go Go.VL Go.VN Go.RowKit Go.Proofs
set_option maxRecDepth 100000
set_option linter.unusedVariables false

theorem f_small (c : UInt8) : Spc X 125 [.one (.int .u8 c.toNat)] (.one (.bool (sml c))) := by
  refine Spc.start Tryz.func125 rfl (h := fun hs R hR => ?_)
  unfold Tryz.f125
  simp only [entryE, PA.av]
  refine walk (hQ := ?_)
  refine R_g_if (h1 := fun h1 => ?_) (h2 := fun h1 => ?_) <;> simp only [if_true] at h1 <;> refine walk (hQ := ?_) <;> refine hR _ (ret1 (hp := ?_)) <;> unfold sml <;> congr 2 <;> rw [Bool.eq_iff_iff] <;> simp <;> omega
theorem f_digit (c : UInt8) : Spc X 126 [.one (.int .u8 c.toNat)] (.one (.bool (dgt c))) := by
  refine Spc.start Tryz.func126 rfl (h := fun hs R hR => ?_)
  unfold Tryz.f126
  simp only [entryE, PA.av]
  refine walk (hQ := ?_)
  refine R_g_if (h1 := fun h1 => ?_) (h2 := fun h1 => ?_) <;> simp only [if_true] at h1 <;> refine walk (hQ := ?_) <;> refine hR _ (ret1 (hp := ?_)) <;> unfold dgt <;> congr 2 <;> rw [Bool.eq_iff_iff] <;> simp <;> omega
theorem g_small (c : UInt8) : Spc X 129 [.one (.int .u8 c.toNat)] (.one (.bool (sml c))) := by
  refine Spc.start Tryz.func129 rfl (h := fun hs R hR => ?_)
  unfold Tryz.f129
  simp only [entryE, PA.av]
  refine walk (hQ := ?_)
  refine R_g_if (h1 := fun h1 => ?_) (h2 := fun h1 => ?_) <;> simp only [if_true] at h1 <;> refine walk (hQ := ?_) <;> refine hR _ (ret1 (hp := ?_)) <;> unfold sml <;> congr 2 <;> rw [Bool.eq_iff_iff] <;> simp <;> omega
theorem g_digit (c : UInt8) : Spc X 130 [.one (.int .u8 c.toNat)] (.one (.bool (dgt c))) := by
  refine Spc.start Tryz.func130 rfl (h := fun hs R hR => ?_)
  unfold Tryz.f130
  simp only [entryE, PA.av]
  refine walk (hQ := ?_)
  refine R_g_if (h1 := fun h1 => ?_) (h2 := fun h1 => ?_) <;> simp only [if_true] at h1 <;> refine walk (hQ := ?_) <;> refine hR _ (ret1 (hp := ?_)) <;> unfold dgt <;> congr 2 <;> rw [Bool.eq_iff_iff] <;> simp <;> omega
theorem f_digits (s : List UInt8) : Spc X 118 [.one (.str s)] (.one (.int .i64 (digL s))) := by
  refine Spc.start Tryz.func118 rfl (h := fun hs R hR => ?_)
  unfold Tryz.f118
  simp only [entryE, PA.av]
  have ls := sane_str hs.1
  refine walk (hQ := ?_)
  refine Lp.intro (fun (i : Nat) => ⟨[(0, vS s), (3, vI i)], [], 0⟩) (fun i => i ≤ s.length ∧ digL s = i + digL (s.drop i)) (fun i => s.length - i) 0 ⟨Nat.zero_le _, by simp⟩ (h0 := le_auto) (hr := fun i K ⟨hi, ho⟩ hK => ?_)
  refine walk (hQ := ?_)
  refine R_g_if (h1 := fun h1 => ?_) (h2 := fun h1 => ?_)
  · simp only [if_true] at h1
    have hil : i < s.length := by omega
    have e0 : s[i] = s.getD i 0 := by rw [List.getD_eq_getElem?_getD, List.getElem?_eq_getElem hil]; rfl
    rw [List.drop_eq_getElem_cons hil, e0] at ho
    have hd := f_digit (s.getD i 0)
    refine walk (hQ := ?_)
    generalize s.getD i 0 = c at *
    refine R_call hd (hK := ?_)
    refine walk (hQ := ?_)
    refine W_ifb (ht := fun h2 => ?_) (hf := fun h2 => ?_)
    · refine walk (hQ := ?_)
      exact hK _ (i + 1) ⟨by omega, by rw [ho, digL, if_pos h2]; omega⟩ (by omega) le_auto
    · refine walk (hQ := ?_)
      refine hR _ (ret1 (hp := ?_))
      rw [ho, digL, if_neg (by rw [h2]; decide)]; simp
  · simp only [if_true] at h1
    obtain rfl : i = s.length := by omega
    refine walk (hQ := ?_)
    refine hR _ (ret1 (hp := ?_))
    rw [ho, List.drop_length, digL]; simp
theorem g_digits (s : List UInt8) : Spc X 133 [.one (.str s)] (.one (.int .i64 (digL s))) := by
  refine Spc.start Tryz.func133 rfl (h := fun hs R hR => ?_)
  unfold Tryz.f133
  simp only [entryE, PA.av]
  have ls := sane_str hs.1
  refine walk (hQ := ?_)
  refine Lp.intro (fun (i : Nat) => ⟨[(0, vS s), (3, vI i)], [], 0⟩) (fun i => i ≤ s.length ∧ digL s = i + digL (s.drop i)) (fun i => s.length - i) 0 ⟨Nat.zero_le _, by simp⟩ (h0 := le_auto) (hr := fun i K ⟨hi, ho⟩ hK => ?_)
  refine walk (hQ := ?_)
  refine R_g_if (h1 := fun h1 => ?_) (h2 := fun h1 => ?_)
  · simp only [if_true] at h1
    have hil : i < s.length := by omega
    have e0 : s[i] = s.getD i 0 := by rw [List.getD_eq_getElem?_getD, List.getElem?_eq_getElem hil]; rfl
    rw [List.drop_eq_getElem_cons hil, e0] at ho
    have hd := g_digit (s.getD i 0)
    refine walk (hQ := ?_)
    generalize s.getD i 0 = c at *
    refine R_call hd (hK := ?_)
    refine walk (hQ := ?_)
    refine W_ifb (ht := fun h2 => ?_) (hf := fun h2 => ?_)
    · refine walk (hQ := ?_)
      exact hK _ (i + 1) ⟨by omega, by rw [ho, digL, if_pos h2]; omega⟩ (by omega) le_auto
    · refine walk (hQ := ?_)
      refine hR _ (ret1 (hp := ?_))
      rw [ho, digL, if_neg (by rw [h2]; decide)]; simp
  · simp only [if_true] at h1
    obtain rfl : i = s.length := by omega
    refine walk (hQ := ?_)
    refine hR _ (ret1 (hp := ?_))
    rw [ho, List.drop_length, digL]; simp

theorem nm2_take {c : UInt8} {l : List UInt8} (h : (sml c || dgt c) = true) : nm2 (c :: l) = 1 + nm2 l := by
  cases l with
  | nil => simp [nm2, h]
  | cons d l => rw [nm2, if_pos h]
theorem nm2_dash {c d : UInt8} {l : List UInt8} (h : ¬ (sml c || dgt c) = true) (h1 : c = 45) (h2 : (sml d || dgt d) = true) : nm2 (c :: d :: l) = 2 + nm2 l := by
  rw [nm2, if_neg h, if_pos ⟨h1, h2⟩]
theorem nm2_stop1 {c : UInt8} (h : ¬ (sml c || dgt c) = true) : nm2 [c] = 0 := by rw [nm2, if_neg h]
theorem nm2_stop {c d : UInt8} {l : List UInt8} (h : ¬ (sml c || dgt c) = true) (h2 : ¬ (c = 45 ∧ (sml d || dgt d) = true)) : nm2 (c :: d :: l) = 0 := by
  rw [nm2, if_neg h, if_neg h2]
theorem f_name (s : List UInt8) : Spc X 97 [.one (.str s)] (.one (.int .i64 (nmL s))) := by
  refine Spc.start Tryz.func97 rfl (h := fun hs R hR => ?_)
  unfold Tryz.f97
  simp only [entryE, PA.av]
  have ls := sane_str hs.1
  cases s with
  | nil =>
    refine walk (hQ := ?_)
    exact hR _ (ret1 (hp := rfl))
  | cons c0 s0 =>
  have hsm := f_small c0
  have hl0 : (c0 :: s0).length = s0.length + 1 := rfl
  refine walk (hQ := ?_)
  refine R_call hsm (hK := ?_)
  refine walk (hQ := ?_)
  refine W_ifb (ht := fun h2 => ?_) (hf := fun h2 => ?_)
  · refine walk (hQ := ?_)
    refine hR _ (ret1 (hp := ?_))
    unfold nmL
    simp only
    rw [if_neg (by simpa using h2)]; rfl
  have h3 : sml c0 = true := by simpa using h2
  have hn : nmL (c0 :: s0) = 1 + nm2 s0 := by unfold nmL; simp only; rw [if_pos h3]
  rw [hn] at hR
  have e1 : (c0 :: s0).drop 1 = s0 := rfl
  clear h2 h3 hn hsm
  generalize c0 :: s0 = s at *
  refine walk (hQ := ?_)
  refine Lp.intro (fun (i : Nat) => ⟨[(0, vS s), (3, vI i)], [], 0⟩) (fun i => 1 ≤ i ∧ i ≤ s.length ∧ 1 + nm2 s0 = i + nm2 (s.drop i)) (fun i => s.length - i) 1 ⟨by omega, by omega, by rw [e1]⟩ (h0 := le_auto) (hr := fun i K ⟨hi1, hi, ho⟩ hK => ?_)
  refine walk (hQ := ?_)
  refine W_if (ht := fun h1 => ?_) (hf := fun h1 => ?_)
  · have hil : i < s.length := by omega
    have e0 : s[i] = s.getD i 0 := by rw [List.getD_eq_getElem?_getD, List.getElem?_eq_getElem hil]; rfl
    rw [List.drop_eq_getElem_cons hil, e0] at ho
    have hd := f_digit (s.getD i 0)
    have hsm := f_small (s.getD i 0)
    refine walk (hQ := ?_)
    generalize s.getD i 0 = c at *
    refine R_call hsm (hK := ?_)
    refine walk (hQ := ?_)
    refine R_g_b (h1 := fun h2 => ?_) (h2 := fun h2 => ?_)
    · refine walk (hQ := ?_)
      refine R_call hd (hK := ?_)
      refine walk (hQ := ?_)
      refine W_ifb (ht := fun h3 => ?_) (hf := fun h3 => ?_)
      · refine walk (hQ := ?_)
        exact hK _ (i + 1) ⟨by omega, by omega, by rw [ho, nm2_take (by rw [h2, h3]; rfl)]; omega⟩ (by omega) le_auto
      · have hno : ¬ (sml c || dgt c) = true := by rw [h2, h3]; decide
        refine walk (hQ := ?_)
        refine R_g_if (h1 := fun h4 => ?_) (h2 := fun h4 => ?_)
        · simp only [if_true] at h4
          have h4' : c = 45 := UInt8.toNat_inj.1 (show c.toNat = 45 by omega)
          refine walk (hQ := ?_)
          refine R_g_if (h1 := fun h5 => ?_) (h2 := fun h5 => ?_)
          · simp only [if_true] at h5
            have hil2 : i + 1 < s.length := by omega
            have e2 : s[i + 1] = s.getD (i + 1) 0 := by rw [List.getD_eq_getElem?_getD, List.getElem?_eq_getElem hil2]; rfl
            rw [List.drop_eq_getElem_cons hil2, e2] at ho
            have hd2 := f_digit (s.getD (i + 1) 0)
            have hsm2 := f_small (s.getD (i + 1) 0)
            refine walk (hQ := ?_)
            refine R_call hsm2 (hK := ?_)
            refine walk (hQ := ?_)
            refine R_g_b (h1 := fun h6 => ?_) (h2 := fun h6 => ?_)
            · refine walk (hQ := ?_)
              refine R_call hd2 (hK := ?_)
              refine walk (hQ := ?_)
              refine W_ifb (ht := fun h7 => ?_) (hf := fun h7 => ?_)
              · refine walk (hQ := ?_)
                exact hK _ (i + 1 + 1) ⟨by omega, by omega, by rw [ho, nm2_dash hno h4' (by rw [h6, h7]; rfl)]; omega⟩ (by omega) le_auto
              · refine walk (hQ := ?_)
                refine hR _ (ret1 (hp := ?_))
                rw [ho, nm2_stop hno (fun h => by have := h.2; rw [h6, h7] at this; cases this)]; simp
            · refine walk (hQ := ?_)
              exact hK _ (i + 1 + 1) ⟨by omega, by omega, by rw [ho, nm2_dash hno h4' (by rw [h6]; rfl)]; omega⟩ (by omega) le_auto
          · simp only [if_true] at h5
            rw [List.drop_eq_nil_of_le (show s.length ≤ i + 1 by omega)] at ho
            refine walk (hQ := ?_)
            refine hR _ (ret1 (hp := ?_))
            rw [ho, nm2_stop1 hno]; simp
        · simp only [if_true] at h4
          have hz : nm2 (c :: s.drop (i + 1)) = 0 := by
            cases s.drop (i + 1) with
            | nil => exact nm2_stop1 hno
            | cons d l => exact nm2_stop hno fun h => h4 (by rw [h.1]; rfl)
          refine walk (hQ := ?_)
          refine hR _ (ret1 (hp := ?_))
          rw [ho, hz]; simp
    · refine walk (hQ := ?_)
      exact hK _ (i + 1) ⟨by omega, by omega, by rw [ho, nm2_take (by rw [h2]; rfl)]; omega⟩ (by omega) le_auto
  · obtain rfl : i = s.length := by omega
    refine walk (hQ := ?_)
    refine hR _ (ret1 (hp := ?_))
    rw [ho, List.drop_length, nm2]; simp
theorem g_name (s : List UInt8) : Spc X 100 [.one (.str s)] (.one (.int .i64 (nmL s))) := by
  refine Spc.start Tryz.func100 rfl (h := fun hs R hR => ?_)
  unfold Tryz.f100
  simp only [entryE, PA.av]
  have ls := sane_str hs.1
  cases s with
  | nil =>
    refine walk (hQ := ?_)
    exact hR _ (ret1 (hp := rfl))
  | cons c0 s0 =>
  have hsm := g_small c0
  have hl0 : (c0 :: s0).length = s0.length + 1 := rfl
  refine walk (hQ := ?_)
  refine R_call hsm (hK := ?_)
  refine walk (hQ := ?_)
  refine W_ifb (ht := fun h2 => ?_) (hf := fun h2 => ?_)
  · refine walk (hQ := ?_)
    refine hR _ (ret1 (hp := ?_))
    unfold nmL
    simp only
    rw [if_neg (by simpa using h2)]; rfl
  have h3 : sml c0 = true := by simpa using h2
  have hn : nmL (c0 :: s0) = 1 + nm2 s0 := by unfold nmL; simp only; rw [if_pos h3]
  rw [hn] at hR
  have e1 : (c0 :: s0).drop 1 = s0 := rfl
  clear h2 h3 hn hsm
  generalize c0 :: s0 = s at *
  refine walk (hQ := ?_)
  refine Lp.intro (fun (i : Nat) => ⟨[(0, vS s), (3, vI i)], [], 0⟩) (fun i => 1 ≤ i ∧ i ≤ s.length ∧ 1 + nm2 s0 = i + nm2 (s.drop i)) (fun i => s.length - i) 1 ⟨by omega, by omega, by rw [e1]⟩ (h0 := le_auto) (hr := fun i K ⟨hi1, hi, ho⟩ hK => ?_)
  refine walk (hQ := ?_)
  refine W_if (ht := fun h1 => ?_) (hf := fun h1 => ?_)
  · have hil : i < s.length := by omega
    have e0 : s[i] = s.getD i 0 := by rw [List.getD_eq_getElem?_getD, List.getElem?_eq_getElem hil]; rfl
    rw [List.drop_eq_getElem_cons hil, e0] at ho
    have hd := g_digit (s.getD i 0)
    have hsm := g_small (s.getD i 0)
    refine walk (hQ := ?_)
    refine R_call hsm (hK := ?_)
    refine walk (hQ := ?_)
    refine R_g_b (h1 := fun h2 => ?_) (h2 := fun h2 => ?_)
    · refine walk (hQ := ?_)
      refine R_call hd (hK := ?_)
      refine walk (hQ := ?_)
      refine W_ifb (ht := fun h3 => ?_) (hf := fun h3 => ?_)
      · refine walk (hQ := ?_)
        exact hK _ (i + 1) ⟨by omega, by omega, by rw [ho, nm2_take (by rw [h2, h3]; rfl)]; omega⟩ (by omega) le_auto
      · have hno : ¬ (sml (s.getD i 0) || dgt (s.getD i 0)) = true := by rw [h2, h3]; decide
        refine walk (hQ := ?_)
        refine R_g_if (h1 := fun h4 => ?_) (h2 := fun h4 => ?_)
        · have h4' : (s.getD i 0) = 45 := UInt8.toNat_inj.1 (show (s.getD i 0).toNat = 45 by simp only [Bool.false_eq_true, if_false] at h4; omega)
          refine walk (hQ := ?_)
          refine R_g_if (h1 := fun h5 => ?_) (h2 := fun h5 => ?_)
          · simp only [Bool.false_eq_true, if_false] at h5
            have hil2 : i + 1 < s.length := by omega
            have e2 : s[i + 1] = s.getD (i + 1) 0 := by rw [List.getD_eq_getElem?_getD, List.getElem?_eq_getElem hil2]; rfl
            rw [List.drop_eq_getElem_cons hil2, e2] at ho
            have hd2 := g_digit (s.getD (i + 1) 0)
            have hsm2 := g_small (s.getD (i + 1) 0)
            refine walk (hQ := ?_)
            refine R_call hsm2 (hK := ?_)
            refine walk (hQ := ?_)
            refine R_g_b (h1 := fun h6 => ?_) (h2 := fun h6 => ?_)
            · have h6' : sml (s.getD (i + 1) 0) = false := by simpa using h6
              refine walk (hQ := ?_)
              refine R_call hd2 (hK := ?_)
              refine walk (hQ := ?_)
              refine W_ifb (ht := fun h7 => ?_) (hf := fun h7 => ?_)
              · have h7' : dgt (s.getD (i + 1) 0) = false := by simpa using h7
                refine walk (hQ := ?_)
                refine hR _ (ret1 (hp := ?_))
                rw [ho, nm2_stop hno (fun h => by have := h.2; rw [h6', h7'] at this; cases this)]; simp
              · have h7' : dgt (s.getD (i + 1) 0) = true := by simpa using h7
                refine walk (hQ := ?_)
                exact hK _ (i + 1 + 1) ⟨by omega, by omega, by rw [ho, nm2_dash hno h4' (by rw [h6', h7']; rfl)]; omega⟩ (by omega) le_auto
            · have h6' : sml (s.getD (i + 1) 0) = true := by simpa using h6
              refine walk (hQ := ?_)
              exact hK _ (i + 1 + 1) ⟨by omega, by omega, by rw [ho, nm2_dash hno h4' (by rw [h6']; rfl)]; omega⟩ (by omega) le_auto
          · simp only [Bool.false_eq_true, if_false] at h5
            rw [List.drop_eq_nil_of_le (show s.length ≤ i + 1 by omega)] at ho
            refine walk (hQ := ?_)
            refine hR _ (ret1 (hp := ?_))
            rw [ho, nm2_stop1 hno]; simp
        · have h4' : ¬ s.getD i 0 = 45 := fun h => by rw [h] at h4; simp at h4
          have hz : nm2 (s.getD i 0 :: s.drop (i + 1)) = 0 := by
            cases s.drop (i + 1) with
            | nil => exact nm2_stop1 hno
            | cons d l => exact nm2_stop hno fun h => h4' h.1
          refine walk (hQ := ?_)
          refine hR _ (ret1 (hp := ?_))
          rw [ho, hz]; simp
    · refine walk (hQ := ?_)
      exact hK _ (i + 1) ⟨by omega, by omega, by rw [ho, nm2_take (by rw [h2]; rfl)]; omega⟩ (by omega) le_auto
  · obtain rfl : i = s.length := by omega
    refine walk (hQ := ?_)
    refine hR _ (ret1 (hp := ?_))
    rw [ho, List.drop_length, nm2]; simp
theorem f_IsName (s : List UInt8) : Spc X 60 [.one (.str s)] (.one (.bool (isNm s))) := by
  refine Spc.start Tryz.func60 rfl (h := fun hs R hR => ?_)
  unfold Tryz.f60
  simp only [entryE, PA.av]
  have ls := sane_str hs.1
  cases s with
  | nil =>
    refine walk (hQ := ?_)
    exact hR _ (ret1 (hp := rfl))
  | cons c0 s0 =>
  have hl0 : (c0 :: s0).length = s0.length + 1 := rfl
  refine walk (hQ := ?_)
  refine R_g_if (h1 := fun h1 => ?_) (h2 := fun h1 => ?_)
  · simp only [if_true] at h1
    refine walk (hQ := ?_)
    refine R_call (f_name _) (hK := ?_)
    refine walk (hQ := ?_)
    refine hR _ (ret1 (hp := ?_))
    congr 2
    unfold isNm
    rw [Bool.eq_iff_iff]
    simp only [decide_eq_true_eq, List.isEmpty_cons, Bool.not_false, Bool.true_and, Bool.and_eq_true]
    omega
  · simp only [if_true] at h1
    refine walk (hQ := ?_)
    refine hR _ (ret1 (hp := ?_))
    congr 2
    unfold isNm
    rw [Bool.eq_iff_iff]
    simp only [decide_eq_true_eq, List.isEmpty_cons, Bool.not_false, Bool.true_and, Bool.and_eq_true]
    constructor
    · intro h; cases h
    · intro h; omega
theorem g_IsName (s : List UInt8) : Spc X 65 [.one (.str s)] (.one (.bool (isNm s))) := by
  refine Spc.start Tryz.func65 rfl (h := fun hs R hR => ?_)
  unfold Tryz.f65
  simp only [entryE, PA.av]
  have ls := sane_str hs.1
  cases s with
  | nil =>
    refine walk (hQ := ?_)
    exact hR _ (ret1 (hp := rfl))
  | cons c0 s0 =>
  have hl0 : (c0 :: s0).length = s0.length + 1 := rfl
  refine walk (hQ := ?_)
  refine R_g_if (h1 := fun h1 => ?_) (h2 := fun h1 => ?_)
  · simp only [if_true] at h1
    refine walk (hQ := ?_)
    refine R_call (g_name _) (hK := ?_)
    refine walk (hQ := ?_)
    refine hR _ (ret1 (hp := ?_))
    congr 2
    unfold isNm
    rw [Bool.eq_iff_iff]
    simp only [decide_eq_true_eq, List.isEmpty_cons, Bool.not_false, Bool.true_and, Bool.and_eq_true]
    omega
  · simp only [if_true] at h1
    refine walk (hQ := ?_)
    refine hR _ (ret1 (hp := ?_))
    congr 2
    unfold isNm
    rw [Bool.eq_iff_iff]
    simp only [decide_eq_true_eq, List.isEmpty_cons, Bool.not_false, Bool.true_and, Bool.and_eq_true]
    constructor
    · intro h; cases h
    · intro h; omega
theorem digL_all : ∀ {s : List UInt8}, digL s = s.length → Dec s
  | [], _ => fun c hc => by cases hc
  | c :: s, h => by
    rw [digL] at h
    split at h
    · rename_i hc
      have := digL_all (s := s) (by simp only [List.length_cons] at h; omega)
      intro x hx
      rcases List.mem_cons.1 hx with rfl | hx
      · unfold dgt at hc
        simp only [Bool.and_eq_true, decide_eq_true_eq] at hc
        exact hc
      · exact this x hx
    · simp at h
theorem take_dv {s : List UInt8} {i : Nat} (h : i < s.length) : dv (s.take (i + 1)) = dv (s.take i) * 10 + (s[i].toNat - 48) := by
  rw [List.take_succ_eq_append_getElem h, dv_snoc]
theorem take_lt {s : List UInt8} (hd : Dec s) (hl : s.length ≤ 6) (i : Nat) : dv (s.take i) < 1000000 := by
  have h1 := dv_lt (l := s.take i) fun c hc => hd c (List.mem_of_mem_take hc)
  have h2 : 10 ^ (s.take i).length ≤ 10 ^ 6 := Nat.pow_le_pow_right (by decide) (by rw [List.length_take]; omega)
  exact Nat.lt_of_lt_of_le h1 h2
theorem f_Number (s : List UInt8) : Spc X 82 [.one (.str s)] (.tup [(false, [.int .i64 (numF s).1]), (false, [.bool (numF s).2])]) := by
  refine Spc.start Tryz.func82 rfl (h := fun hs R hR => ?_)
  unfold Tryz.f82
  simp only [entryE, PA.av]
  have ls := sane_str hs.1
  cases s with
  | nil =>
    refine walk (hQ := ?_)
    exact hR _ (ret2 (hp := rfl))
  | cons c0 s0 =>
  have hl0 : (c0 :: s0).length = s0.length + 1 := rfl
  have hh : (c0 :: s0).head? = some ((c0 :: s0).getD (Int.toNat 0) 0) := rfl
  have hne : (c0 :: s0).isEmpty = false := rfl
  have hdg := f_digits (c0 :: s0)
  have hlp : 0 < (c0 :: s0).length := by omega
  refine walk (hQ := ?_)
  have bad : badN (c0 :: s0) = true → ∀ σ, retP X Tryz.f82.results.toList (.tup [(false, [.int .i64 0]), (false, [.bool false])]) σ → R σ := fun h σ hσ => hR σ (by unfold numF; rw [if_pos h]; exact hσ)
  have good : ¬ badN (c0 :: s0) = true → ∀ σ, retP X Tryz.f82.results.toList (.tup [(false, [.int .i64 (dv (c0 :: s0))]), (false, [.bool true])]) σ → R σ := fun h σ hσ => hR σ (by unfold numF; rw [if_neg h]; exact hσ)
  have hbad : badN (c0 :: s0) = true ↔ (6 < (c0 :: s0).length ∨ digL (c0 :: s0) ≠ (c0 :: s0).length ∨ (1 < (c0 :: s0).length ∧ (c0 :: s0).getD (Int.toNat 0) 0 = 48)) := by
    unfold badN
    rw [hne, hh]
    simp only [Bool.false_or, Bool.or_eq_true, Bool.and_eq_true, decide_eq_true_eq, Option.some.injEq]
    rw [or_assoc]
  clear hR
  generalize c0 :: s0 = s at *
  refine R_g_if (h1 := fun h1 => ?_) (h2 := fun h1 => ?_)
  · simp only [Bool.false_eq_true, if_false] at h1
    refine walk (hQ := ?_)
    refine R_call hdg (hK := ?_)
    refine walk (hQ := ?_)
    refine R_g_if (h1 := fun h2 => ?_) (h2 := fun h2 => ?_)
    · simp only [Bool.false_eq_true, if_false, Decidable.not_not] at h2
      have hdec := digL_all (s := s) (by omega)
      refine walk (hQ := ?_)
      have fin : ¬ (1 < s.length ∧ s.getD (Int.toNat 0) 0 = 48) → ¬ badN s = true := fun h hb => by
        rcases hbad.1 hb with h3 | h3 | h3
        · omega
        · omega
        · exact h h3
      refine R_g_if (h1 := fun h3 => ?_) (h2 := fun h3 => ?_)
      case' refine_1 =>
        simp only [if_true] at h3
        refine walk (hQ := ?_)
        refine W_if (ht := fun h4 => ?_) (hf := fun h4 => ?_)
        case refine_1 =>
          refine walk (hQ := ?_)
          exact bad (hbad.2 (.inr (.inr ⟨by omega, UInt8.toNat_inj.1 (show (s.getD (Int.toNat 0) 0).toNat = 48 by omega)⟩))) _ (ret2 (hp := rfl))
        have hb := fin fun h => h4 (by rw [h.2]; rfl)
      case' refine_2 =>
        simp only [if_true] at h3
        have hb := fin fun h => by omega
      all_goals
        refine walk (hQ := ?_)
        refine Lp.intro (fun (i : Nat) => ⟨[(0, vS s), (4, vI (dv (s.take i))), (32, vP (slc eU s)), (33, vI s.length), (34, vI i)], [], 0⟩) (fun i => i ≤ s.length) (fun i => s.length - i) 0 (Nat.zero_le _) (h0 := le_auto) (hr := fun i K hi hK => ?_)
        have hlt := take_lt hdec (by omega) i
        refine walk (hQ := ?_)
        refine W_if (ht := fun h5 => ?_) (hf := fun h5 => ?_)
        · have hil : i < s.length := by omega
          have hc := hdec _ (List.getElem_mem hil)
          have hst := take_dv hil
          have e0 : s[i] = s.getD i default := by rw [List.getD_eq_getElem?_getD, List.getElem?_eq_getElem hil]; rfl
          rw [e0] at hc hst
          refine walk (hQ := ?_)
          refine R_subw (hK := ?_)
          rw [wrap_u8 (by omega) (by omega)]
          refine walk (hQ := ?_)
          exact hK _ (i + 1) (by omega) (by omega) le_auto
        · obtain rfl : i = s.length := by omega
          rw [List.take_length]
          refine walk (hQ := ?_)
          exact good hb _ (ret2 (hp := rfl))
    · simp only [Bool.false_eq_true, if_false] at h2
      refine walk (hQ := ?_)
      exact bad (hbad.2 (.inr (.inl (by omega)))) _ (ret2 (hp := rfl))
  · simp only [Bool.false_eq_true, if_false, Decidable.not_not] at h1
    refine walk (hQ := ?_)
    exact bad (hbad.2 (.inl (by omega))) _ (ret2 (hp := rfl))
theorem g_Number (s : List UInt8) : Spc X 104 [.one (.str s)] (.tup [(false, [.int .i64 (numF s).1]), (false, [.bool (numF s).2])]) := by
  refine Spc.start Tryz.func104 rfl (h := fun hs R hR => ?_)
  unfold Tryz.f104
  simp only [entryE, PA.av]
  have ls := sane_str hs.1
  cases s with
  | nil =>
    refine walk (hQ := ?_)
    exact hR _ (ret2 (hp := rfl))
  | cons c0 s0 =>
  have hl0 : (c0 :: s0).length = s0.length + 1 := rfl
  have hh : (c0 :: s0).head? = some ((c0 :: s0).getD (Int.toNat 0) 0) := rfl
  have hne : (c0 :: s0).isEmpty = false := rfl
  have hdg := g_digits (c0 :: s0)
  have hlp : 0 < (c0 :: s0).length := by omega
  refine walk (hQ := ?_)
  have bad : badN (c0 :: s0) = true → ∀ σ, retP X Tryz.f104.results.toList (.tup [(false, [.int .i64 0]), (false, [.bool false])]) σ → R σ := fun h σ hσ => hR σ (by unfold numF; rw [if_pos h]; exact hσ)
  have good : ¬ badN (c0 :: s0) = true → ∀ σ, retP X Tryz.f104.results.toList (.tup [(false, [.int .i64 (dv (c0 :: s0))]), (false, [.bool true])]) σ → R σ := fun h σ hσ => hR σ (by unfold numF; rw [if_neg h]; exact hσ)
  have hbad : badN (c0 :: s0) = true ↔ (6 < (c0 :: s0).length ∨ digL (c0 :: s0) ≠ (c0 :: s0).length ∨ (1 < (c0 :: s0).length ∧ (c0 :: s0).getD (Int.toNat 0) 0 = 48)) := by
    unfold badN
    rw [hne, hh]
    simp only [Bool.false_or, Bool.or_eq_true, Bool.and_eq_true, decide_eq_true_eq, Option.some.injEq]
    rw [or_assoc]
  clear hR
  generalize c0 :: s0 = s at *
  refine R_g_if (h1 := fun h1 => ?_) (h2 := fun h1 => ?_)
  · simp only [Bool.false_eq_true, if_false] at h1
    refine walk (hQ := ?_)
    refine R_call hdg (hK := ?_)
    refine walk (hQ := ?_)
    refine R_g_if (h1 := fun h2 => ?_) (h2 := fun h2 => ?_)
    · simp only [Bool.false_eq_true, if_false, Decidable.not_not] at h2
      have hdec := digL_all (s := s) (by omega)
      refine walk (hQ := ?_)
      have fin : ¬ (1 < s.length ∧ s.getD (Int.toNat 0) 0 = 48) → ¬ badN s = true := fun h hb => by
        rcases hbad.1 hb with h3 | h3 | h3
        · omega
        · omega
        · exact h h3
      refine R_g_if (h1 := fun h3 => ?_) (h2 := fun h3 => ?_)
      case' refine_1 =>
        simp only [if_true] at h3
        refine walk (hQ := ?_)
        refine W_if (ht := fun h4 => ?_) (hf := fun h4 => ?_)
        case refine_1 =>
          refine walk (hQ := ?_)
          exact bad (hbad.2 (.inr (.inr ⟨by omega, UInt8.toNat_inj.1 (show (s.getD (Int.toNat 0) 0).toNat = 48 by omega)⟩))) _ (ret2 (hp := rfl))
        have hb := fin fun h => by omega
      case' refine_2 =>
        simp only [if_true] at h3
        have hb := fin fun h => h3 (by rw [h.2]; rfl)
      all_goals
        refine walk (hQ := ?_)
        refine Lp.intro (fun (i : Nat) => ⟨[(0, vS s), (4, vI (dv (s.take i))), (5, vI i)], [], 0⟩) (fun i => i ≤ s.length) (fun i => s.length - i) 0 (Nat.zero_le _) (h0 := le_auto) (hr := fun i K hi hK => ?_)
        have hlt := take_lt hdec (by omega) i
        refine walk (hQ := ?_)
        refine W_if (ht := fun h5 => ?_) (hf := fun h5 => ?_)
        · have hil : i < s.length := by omega
          have hc := hdec _ (List.getElem_mem hil)
          have hst := take_dv hil
          have e0 : s[i] = s.getD i 0 := by rw [List.getD_eq_getElem?_getD, List.getElem?_eq_getElem hil]; rfl
          rw [e0] at hc hst
          refine walk (hQ := ?_)
          refine R_subw (hK := ?_)
          rw [wrap_u8 (by omega) (by omega)]
          refine walk (hQ := ?_)
          exact hK _ (i + 1) (by omega) (by omega) le_auto
        · obtain rfl : i = s.length := by omega
          rw [List.take_length]
          refine walk (hQ := ?_)
          exact good hb _ (ret2 (hp := rfl))
    · simp only [Bool.false_eq_true, if_false] at h2
      refine walk (hQ := ?_)
      exact bad (hbad.2 (.inr (.inl (by omega)))) _ (ret2 (hp := rfl))
  · simp only [Bool.false_eq_true, if_false, Decidable.not_not] at h1
    refine walk (hQ := ?_)
    exact bad (hbad.2 (.inl (by omega))) _ (ret2 (hp := rfl))
end Go.VS.YtekfjbjdlenhoaaGreatDoor


namespace Go.VL
open Go.RowKit
set_option linter.unusedVariables false
section
variable {X : Ctx} {N : Nat} {R : AS → Prop} {k : List KI} {σ : AS} {ops : Array Oper} {D D' : Option (List Fl)} {rest : List Oper} {env env' : List (Nat × AV)} {h h' : Hp} {n n' : Nat} {dst : Option Tmp} {t d : Tmp} {op : Op} {ty tx t' : TypeId} {ps : String} {af : Array Edge}
theorem R_steql {x y : Operand} {α : Type} [DecidableEq α] (e : α → List PV) (a b : α) {cs ds : List AC} {fs : Array Field} {s q : Nat} {zz : Option Value} [hT : TInf X tx ⟨.struct fs, s, q, zz⟩] (hq : eqPs (e a) (e b) = decide (a = b)) (hp : plF X fs.toList 0 (e a) (e b)) (hx : EvR env x (.agg cs) := by exact ⟨rfl⟩) (hy : EvR env y (.agg ds) := by exact ⟨rfl⟩)
    (hc : (e a).map AC.pv = cs := by exact rfl) (hd : (e b).map AC.pv = ds := by exact rfl) (hs : X.P.stoodInHeld tx = false := by kernel_rfl) (hg : X.P.eqGuardType X.P.depth tx = false := by kernel_rfl)
    (hfl : FlR D env (.binOp .eql tx x y t') (vB (decide (a = b))) (.n [] [] none) D' := by first | exact .seq | exact .drawn rfl)
    (hK : Rn X N R k ops D' rest ⟨(d, vB (decide (a = b))) :: env, h, n⟩) : Rn X N R k ops D (⟨some d, .binOp .eql tx x y t', ty, ps, af, none⟩ :: rest) ⟨env, h, n⟩ :=
  Rn.val rfl (fun K hK => by
    simp only [evVal, hx.h, hy.h, evBin, evEq, hT.h]
    exact .inr ⟨e a, e b, hc.symm, hd.symm, hp, hs, hg, by rw [hq]; exact hK⟩) hfl hK
theorem R_stneq {x y : Operand} {α : Type} [DecidableEq α] (e : α → List PV) (a b : α) {cs ds : List AC} {fs : Array Field} {s q : Nat} {zz : Option Value} [hT : TInf X tx ⟨.struct fs, s, q, zz⟩] (hq : eqPs (e a) (e b) = decide (a = b)) (hp : plF X fs.toList 0 (e a) (e b)) (hx : EvR env x (.agg cs) := by exact ⟨rfl⟩) (hy : EvR env y (.agg ds) := by exact ⟨rfl⟩)
    (hc : (e a).map AC.pv = cs := by exact rfl) (hd : (e b).map AC.pv = ds := by exact rfl) (hs : X.P.stoodInHeld tx = false := by kernel_rfl) (hg : X.P.eqGuardType X.P.depth tx = false := by kernel_rfl)
    (hfl : FlR D env (.binOp .neq tx x y t') (vB (decide (¬ a = b))) (.n [] [] none) D' := by first | exact .seq | exact .drawn rfl)
    (hK : Rn X N R k ops D' rest ⟨(d, vB (decide (¬ a = b))) :: env, h, n⟩) : Rn X N R k ops D (⟨some d, .binOp .neq tx x y t', ty, ps, af, none⟩ :: rest) ⟨env, h, n⟩ :=
  Rn.val rfl (fun K hK => by
    simp only [evVal, hx.h, hy.h, evBin, evEq, hT.h]
    exact .inr ⟨e a, e b, hc.symm, hd.symm, hp, hs, hg, by rw [hq, ← decide_not]; exact hK⟩) hfl hK
end
end Go.VL


namespace Go.VS.YtekfjbjdlenhoaaGreatDoor
open Go Go.VL Go.VN Go.RowKit Go.Proofs
set_option maxRecDepth 100000
set_option linter.unusedVariables false

theorem f_Nucleus (s : Snd) : Spc X 33 [.agg (eSd s)] (.one (.bool (nuc s))) := by
  refine Spc.start Tryz.func33 rfl (h := fun hs R hR => ?_)
  unfold Tryz.f33
  simp only [entryE, PA.av, List.map_cons, List.map_nil]
  refine walk (hQ := ?_)
  first
  | (refine hR _ (ret1 (hp := ?_))
     congr 2
     rw [Bool.eq_iff_iff]
     simp only [nuc, Bool.or_eq_true, Bool.and_eq_true, decide_eq_true_eq, Bool.not_eq_true', decide_eq_false_iff_not, Bool.true_eq, Bool.false_eq_true, iff_true, true_iff, false_iff, iff_false]
     try omega)
  | (refine R_g_if (h1 := fun h1 => ?_) (h2 := fun h1 => ?_)
     all_goals
       simp only [Bool.false_eq_true, if_false, if_true, Decidable.not_not] at h1
       refine walk (hQ := ?_)
       refine hR _ (ret1 (hp := ?_))
       congr 2
       rw [Bool.eq_iff_iff]
       simp only [nuc, Bool.or_eq_true, Bool.and_eq_true, decide_eq_true_eq, Bool.not_eq_true', decide_eq_false_iff_not, Bool.true_eq, Bool.false_eq_true, iff_true, true_iff, false_iff, iff_false]
       try omega
    )
theorem g_Nucleus (s : Snd) : Spc X 57 [.agg (eSd s)] (.one (.bool (nuc s))) := by
  refine Spc.start Tryz.func57 rfl (h := fun hs R hR => ?_)
  unfold Tryz.f57
  simp only [entryE, PA.av, List.map_cons, List.map_nil]
  refine walk (hQ := ?_)
  first
  | (refine hR _ (ret1 (hp := ?_))
     congr 2
     rw [Bool.eq_iff_iff]
     simp only [nuc, Bool.or_eq_true, Bool.and_eq_true, decide_eq_true_eq, Bool.not_eq_true', decide_eq_false_iff_not, Bool.true_eq, Bool.false_eq_true, iff_true, true_iff, false_iff, iff_false]
     try omega)
  | (refine R_g_if (h1 := fun h1 => ?_) (h2 := fun h1 => ?_)
     all_goals
       simp only [Bool.false_eq_true, if_false, if_true, Decidable.not_not] at h1
       refine walk (hQ := ?_)
       refine hR _ (ret1 (hp := ?_))
       congr 2
       rw [Bool.eq_iff_iff]
       simp only [nuc, Bool.or_eq_true, Bool.and_eq_true, decide_eq_true_eq, Bool.not_eq_true', decide_eq_false_iff_not, Bool.true_eq, Bool.false_eq_true, iff_true, true_iff, false_iff, iff_false]
       try omega
    )
theorem g_letter (c : UInt8) : Spc X 132 [.one (.int .u8 c.toNat)] (.one (.bool (wrt c))) := by
  have e95 : c = 95 ↔ c.toNat = 95 := ⟨fun h => by rw [h]; rfl, fun h => UInt8.toNat_inj.1 h⟩
  have e94 : c = 94 ↔ c.toNat = 94 := ⟨fun h => by rw [h]; rfl, fun h => UInt8.toNat_inj.1 h⟩
  have e39 : c = 39 ↔ c.toNat = 39 := ⟨fun h => by rw [h]; rfl, fun h => UInt8.toNat_inj.1 h⟩
  refine Spc.start Tryz.func132 rfl (h := fun hs R hR => ?_)
  unfold Tryz.f132
  simp only [entryE, PA.av, List.map_cons, List.map_nil]
  refine walk (hQ := ?_)
  first
  | (refine hR _ (ret1 (hp := ?_))
     congr 2
     rw [Bool.eq_iff_iff]
     simp only [wrt, sml, dgt, e95, e94, e39, Bool.or_eq_true, Bool.and_eq_true, decide_eq_true_eq, Bool.not_eq_true', decide_eq_false_iff_not, Bool.true_eq, Bool.false_eq_true, iff_true, true_iff, false_iff, iff_false]
     try omega)
  | (refine R_g_if (h1 := fun h1 => ?_) (h2 := fun h1 => ?_)
     all_goals
       simp only [Bool.false_eq_true, if_false, if_true, Decidable.not_not] at h1
       refine walk (hQ := ?_)
       first
       | (refine hR _ (ret1 (hp := ?_))
          congr 2
          rw [Bool.eq_iff_iff]
          simp only [wrt, sml, dgt, e95, e94, e39, Bool.or_eq_true, Bool.and_eq_true, decide_eq_true_eq, Bool.not_eq_true', decide_eq_false_iff_not, Bool.true_eq, Bool.false_eq_true, iff_true, true_iff, false_iff, iff_false]
          try omega)
       | (refine R_g_if (h1 := fun h1 => ?_) (h2 := fun h1 => ?_)
          all_goals
            simp only [Bool.false_eq_true, if_false, if_true, Decidable.not_not] at h1
            refine walk (hQ := ?_)
            first
            | (refine hR _ (ret1 (hp := ?_))
               congr 2
               rw [Bool.eq_iff_iff]
               simp only [wrt, sml, dgt, e95, e94, e39, Bool.or_eq_true, Bool.and_eq_true, decide_eq_true_eq, Bool.not_eq_true', decide_eq_false_iff_not, Bool.true_eq, Bool.false_eq_true, iff_true, true_iff, false_iff, iff_false]
               try omega)
            | (refine R_g_if (h1 := fun h1 => ?_) (h2 := fun h1 => ?_)
               all_goals
                 simp only [Bool.false_eq_true, if_false, if_true, Decidable.not_not] at h1
                 refine walk (hQ := ?_)
                 first
                 | (refine hR _ (ret1 (hp := ?_))
                    congr 2
                    rw [Bool.eq_iff_iff]
                    simp only [wrt, sml, dgt, e95, e94, e39, Bool.or_eq_true, Bool.and_eq_true, decide_eq_true_eq, Bool.not_eq_true', decide_eq_false_iff_not, Bool.true_eq, Bool.false_eq_true, iff_true, true_iff, false_iff, iff_false]
                    try omega)
                 | (refine R_g_if (h1 := fun h1 => ?_) (h2 := fun h1 => ?_)
                    all_goals
                      simp only [Bool.false_eq_true, if_false, if_true, Decidable.not_not] at h1
                      refine walk (hQ := ?_)
                      first
                      | (refine hR _ (ret1 (hp := ?_))
                         congr 2
                         rw [Bool.eq_iff_iff]
                         simp only [wrt, sml, dgt, e95, e94, e39, Bool.or_eq_true, Bool.and_eq_true, decide_eq_true_eq, Bool.not_eq_true', decide_eq_false_iff_not, Bool.true_eq, Bool.false_eq_true, iff_true, true_iff, false_iff, iff_false]
                         try omega)
                      | (refine R_g_if (h1 := fun h1 => ?_) (h2 := fun h1 => ?_)
                         all_goals
                           simp only [Bool.false_eq_true, if_false, if_true, Decidable.not_not] at h1
                           refine walk (hQ := ?_)
                           first
                           | (refine hR _ (ret1 (hp := ?_))
                              congr 2
                              rw [Bool.eq_iff_iff]
                              simp only [wrt, sml, dgt, e95, e94, e39, Bool.or_eq_true, Bool.and_eq_true, decide_eq_true_eq, Bool.not_eq_true', decide_eq_false_iff_not, Bool.true_eq, Bool.false_eq_true, iff_true, true_iff, false_iff, iff_false]
                              try omega)
                           | (refine R_g_if (h1 := fun h1 => ?_) (h2 := fun h1 => ?_)
                              all_goals
                                simp only [Bool.false_eq_true, if_false, if_true, Decidable.not_not] at h1
                                refine walk (hQ := ?_)
                                refine hR _ (ret1 (hp := ?_))
                                congr 2
                                rw [Bool.eq_iff_iff]
                                simp only [wrt, sml, dgt, e95, e94, e39, Bool.or_eq_true, Bool.and_eq_true, decide_eq_true_eq, Bool.not_eq_true', decide_eq_false_iff_not, Bool.true_eq, Bool.false_eq_true, iff_true, true_iff, false_iff, iff_false]
                                try omega
                             )
                        )
                   )
              )
         )
    )
theorem f_quantity (s : Snd) : Spc X 106 [.agg (eSd s)] (.one (.bool (qty s))) := by
  refine Spc.start Tryz.func106 rfl (h := fun hs R hR => ?_)
  unfold Tryz.f106
  simp only [entryE, PA.av, List.map_cons, List.map_nil]
  refine walk (hQ := ?_)
  refine W_if (ht := fun h2 => ?_) (hf := fun h2 => ?_)
  · unfold qty at hR
    rw [if_pos h2] at hR
    refine walk (hQ := ?_)
    first
    | (refine hR _ (ret1 (hp := ?_))
       congr 2
       rw [Bool.eq_iff_iff]
       simp only [h2, Bool.or_eq_true, Bool.and_eq_true, decide_eq_true_eq, Bool.not_eq_true', decide_eq_false_iff_not, Bool.true_eq, Bool.false_eq_true, iff_true, true_iff, false_iff, iff_false]
       try omega)
    | (refine R_g_if (h1 := fun h1 => ?_) (h2 := fun h1 => ?_)
       all_goals
         simp only [Bool.false_eq_true, if_false, if_true, Decidable.not_not] at h1
         refine walk (hQ := ?_)
         refine hR _ (ret1 (hp := ?_))
         congr 2
         rw [Bool.eq_iff_iff]
         simp only [h2, Bool.or_eq_true, Bool.and_eq_true, decide_eq_true_eq, Bool.not_eq_true', decide_eq_false_iff_not, Bool.true_eq, Bool.false_eq_true, iff_true, true_iff, false_iff, iff_false]
         try omega
      )
  · unfold qty at hR
    rw [if_neg h2] at hR
    refine walk (hQ := ?_)
    refine W_if (ht := fun h3 => ?_) (hf := fun h3 => ?_)
    · rw [if_pos h3] at hR
      refine walk (hQ := ?_)
      exact hR _ (ret1 (hp := rfl))
    · rw [if_neg h3] at hR
      refine walk (hQ := ?_)
      exact hR _ (ret1 (hp := rfl))
theorem g_order (a b : Int) : Spc X 103 [.one (.int .i64 a), .one (.int .i64 b)] (.one (.int .i64 (sgn a b))) := by
  refine Spc.start Tryz.func103 rfl (h := fun hs R hR => ?_)
  unfold Tryz.f103
  simp only [entryE, PA.av, List.map_cons, List.map_nil]
  unfold sgn at hR
  refine walk (hQ := ?_)
  refine W_if (ht := fun h1 => ?_) (hf := fun h1 => ?_)
  · rw [if_pos h1] at hR
    refine walk (hQ := ?_)
    exact hR _ (ret1 (hp := rfl))
  · rw [if_neg h1] at hR
    refine walk (hQ := ?_)
    refine W_if (ht := fun h2 => ?_) (hf := fun h2 => ?_)
    · rw [if_pos (by omega)] at hR
      refine walk (hQ := ?_)
      exact hR _ (ret1 (hp := rfl))
    · rw [if_neg (by omega)] at hR
      refine walk (hQ := ?_)
      exact hR _ (ret1 (hp := rfl))
def gwR : Go.Shelf.Ren := ⟨fun | 15 => 134 | 17 => 107 | 20 => 152 | n => n, fun | 0 => 0 | 3 => 3 | 4 => 4 | 9 => 9 | 21 => 21 | 23 => 128 | n => n, fun | n => n⟩
theorem gw17 : Go.Proofs.LaysGw.n17 Tryz.prog gwR := {
  mixed := by kernel_rfl
  f15 := by kernel_rfl
  f17 := by kernel_rfl
  f20 := by kernel_rfl
  t0 := by kernel_rfl
  a0 := fun _ => by kernel_rfl
  z0 := fun _ => by kernel_rfl
  v0 := fun _ => by kernel_rfl
  i0 := by kernel_rfl
  t3 := by kernel_rfl
  a3 := fun _ => by kernel_rfl
  z3 := fun _ => by kernel_rfl
  v3 := fun _ => by kernel_rfl
  i3 := by kernel_rfl
  t4 := by kernel_rfl
  a4 := fun _ => by kernel_rfl
  z4 := fun _ => by kernel_rfl
  v4 := fun _ => by kernel_rfl
  i4 := by kernel_rfl
  t9 := by kernel_rfl
  a9 := fun _ => by kernel_rfl
  z9 := fun _ => by kernel_rfl
  v9 := fun _ => by kernel_rfl
  i9 := by kernel_rfl
  t21 := by kernel_rfl
  a21 := fun _ => by kernel_rfl
  z21 := fun _ => by kernel_rfl
  v21 := fun _ => by kernel_rfl
  i21 := by kernel_rfl
  t23 := by kernel_rfl
  a23 := fun _ => by kernel_rfl
  z23 := fun _ => by kernel_rfl
  v23 := fun _ => by kernel_rfl
  i23 := by kernel_rfl }
theorem run_written (r : Nat) (w : World) : Calls Tryz.prog 109 #[.int .i32 r] w fun e w' => e = .returned (.bool (wrR r)) ∧ w' = w := by
  have e : ∀ z : Int, z = (r : Int) → True := fun _ _ => trivial
  unfold wrR
  by_cases h1 : 97 ≤ r <;> by_cases h2 : r ≤ 122 <;> by_cases h3 : 48 ≤ r <;> by_cases h4 : r ≤ 57 <;> by_cases h5 : r = 95 <;> by_cases h6 : r = 94 <;> by_cases h7 : r = 39
  all_goals first | (exfalso; omega) | skip
  all_goals
    have z1 : (97 : Int) ≤ (r : Int) ↔ 97 ≤ r := by omega
    have z2 : (r : Int) ≤ 122 ↔ r ≤ 122 := by omega
    have z3 : (48 : Int) ≤ (r : Int) ↔ 48 ≤ r := by omega
    have z4 : (r : Int) ≤ 57 ↔ r ≤ 57 := by omega
    have z5 : (r : Int) = 95 ↔ r = 95 := by omega
    have z6 : (r : Int) = 94 ↔ r = 94 := by omega
    have z7 : (r : Int) = 39 ↔ r = 39 := by omega
    go_enter Tryz.func109, Tryz.ntmps109
    go_wp2
    all_goals first | (exfalso; omega) | (go_ret; exact ⟨by simp [h1, h2, h3, h4, h5, h6, h7, z5, z6, z7], rfl⟩)
theorem valid1_gives (w : World) : Go.Proofs.PredAtRunes Tryz.prog 108 #[] (fun r => !wrR r) w := fun W r _ _ => by
  unfold Go.Proofs.FnGives
  show Calls Tryz.prog 108 #[.int .i32 r] W _
  go_enter Tryz.func108, Tryz.ntmps108
  go_wp2_with (go_at_call 109; refine (run_written r W).mono ?_; rintro e w' ⟨rfl, rfl⟩)
  all_goals (go_ret; exact ⟨by simp [*], 0, rfl⟩)
theorem s_ContainsW (s : List UInt8) : Spc X 107 [.one (.str s), .one (.clo 108 [])] (.one (.bool (!(s.all wrt)))) :=
  spc_calls (ent_of2 (P := X.P) Tryz.func107 (by kernel_rfl) (by kernel_rfl)) fun ok w vals hG hlt hs hv => by
    obtain ⟨u, hu, hr⟩ := hv 0 _ rfl
    obtain ⟨v, hv, hq⟩ := hv 1 _ rfl
    obtain ⟨rfl, hz⟩ := one_str hr
    have hq' : RepP w ok (.clo 108 []) v := hq
    obtain ⟨vs, rfl, hvs⟩ : ∃ vs : Array Value, v = .func (.func 108) #[] vs ∧ vs.size = 0 := by
      cases hq' with
      | clo f caps vs vals h1 h2 h3 => exact ⟨vs, rfl, h1⟩
    obtain rfl : vs = #[] := Array.size_eq_zero_iff.1 hvs
    rw [vals2 hs hu hv]
    refine (Any.strings_ContainsFunc_runes gw17 108 #[] (enters_of Tryz.func108 (by kernel_rfl) rfl) _ ⟨s.toArray⟩ w (valid1_gives w)).mono fun e w' ⟨he, hb⟩ => ?_
    exact ⟨_, he, by rw [idx_wrt0]; exact .bool _, hb⟩
end Go.VS.YtekfjbjdlenhoaaGreatDoor


namespace Go.VS.YtekfjbjdlenhoaaGreatDoor
open Go Go.VL Go.VN Go.RowKit Go.Proofs
set_option maxRecDepth 100000
set_option linter.unusedVariables false

theorem f_SValid (s : Snd) : Spc X 72 [.agg (eSd s)] (.one (.int .i64 (sdE s))) := by
  refine Spc.start Tryz.func72 rfl (h := fun hs R hR => ?_)
  unfold Tryz.f72
  simp only [entryE, PA.av, List.map_cons, List.map_nil]
  have hq := f_quantity s
  have hc := s_ContainsW s.2.2
  unfold sdE at hR
  refine walk (hQ := ?_)
  refine R_g_if (h1 := fun h1 => ?_) (h2 := fun h1 => ?_)
  case refine_2 =>
    simp only [Bool.false_eq_true, if_false, Decidable.not_not] at h1
    rw [if_pos (.inl h1)] at hR
    refine walk (hQ := ?_)
    exact hR _ (ret1 (hp := rfl))
  simp only [Bool.false_eq_true, if_false] at h1
  refine walk (hQ := ?_)
  refine W_if (ht := fun h2 => ?_) (hf := fun h2 => ?_)
  · rw [if_pos (.inr h2)] at hR
    refine walk (hQ := ?_)
    exact hR _ (ret1 (hp := rfl))
  rw [if_neg (by omega)] at hR
  refine walk (hQ := ?_)
  refine R_call hq (hK := ?_)
  cases hqq : qty s with
  | false =>
    rw [if_pos hqq] at hR
    refine walk (hQ := ?_)
    exact hR _ (ret1 (hp := rfl))
  | true =>
  rw [hqq, if_neg (by decide)] at hR
  refine walk (hQ := ?_)
  refine W_if (ht := fun h3 => ?_) (hf := fun h3 => ?_)
  · rw [if_pos h3] at hR
    refine walk (hQ := ?_)
    exact hR _ (ret1 (hp := rfl))
  rw [if_neg h3] at hR
  refine walk (hQ := ?_)
  refine W_if (ht := fun h4 => ?_) (hf := fun h4 => ?_)
  · rw [if_pos (by omega)] at hR
    refine walk (hQ := ?_)
    exact hR _ (ret1 (hp := rfl))
  rw [if_neg (by omega)] at hR
  refine walk (hQ := ?_)
  refine R_call hc (hK := ?_)
  cases hw : s.2.2.all wrt with
  | false =>
    rw [hw, if_neg (by decide)] at hR
    refine walk (hQ := ?_)
    exact hR _ (ret1 (hp := rfl))
  | true =>
    rw [hw, if_pos rfl] at hR
    refine walk (hQ := ?_)
    exact hR _ (ret1 (hp := rfl))
theorem all_take {α : Type} {p : α → Bool} {l : List α} {i : Nat} (h : i < l.length) (ho : (l.take i).all p = true) (hp : p l[i] = true) : (l.take (i + 1)).all p = true := by
  rw [List.take_succ_eq_append_getElem h, List.all_append, ho]
  simp [hp]
theorem all_not {α : Type} {p : α → Bool} {l : List α} {i : Nat} (h : i < l.length) (hp : p l[i] = false) : l.all p = false := by
  rw [List.all_eq_false]
  exact ⟨l[i], List.getElem_mem h, by rw [hp]; decide⟩
theorem g_SValid (s : Snd) : Spc X 102 [.agg (eSd s)] (.one (.int .i64 (sdE s))) := by
  refine Spc.start Tryz.func102 rfl (h := fun hs R hR => ?_)
  unfold Tryz.f102
  simp only [entryE, PA.av, List.map_cons, List.map_nil]
  have hss : s.2.2.length ≤ 9223372036854775807 := by
    have := hs.1 (.str s.2.2) (by simp [eSd])
    unfold PV.sane at this
    exact this
  unfold sdE at hR
  refine walk (hQ := ?_)
  refine R_g_if (h1 := fun h1 => ?_) (h2 := fun h1 => ?_)
  case refine_2 =>
    simp only [Bool.false_eq_true, if_false, Decidable.not_not] at h1
    rw [if_pos (.inl h1)] at hR
    refine walk (hQ := ?_)
    exact hR _ (ret1 (hp := rfl))
  simp only [Bool.false_eq_true, if_false] at h1
  refine walk (hQ := ?_)
  refine W_if (ht := fun h2 => ?_) (hf := fun h2 => ?_)
  · rw [if_pos (.inr h2)] at hR
    refine walk (hQ := ?_)
    exact hR _ (ret1 (hp := rfl))
  rw [if_neg (by omega)] at hR
  refine walk (hQ := ?_)
  refine W_if (ht := fun h3 => ?_) (hf := fun h3 => ?_)
  case' refine_1 =>
    have hq : qty s = (decide (1 ≤ s.2.1) && decide (s.2.1 ≤ 3)) := by unfold qty; rw [if_pos h3]
    refine walk (hQ := ?_)
    refine R_g_if (h1 := fun h4 => ?_) (h2 := fun h4 => ?_)
    case' refine_1 =>
      simp only [if_true] at h4
      rw [decide_eq_true h4, Bool.true_and] at hq
      refine walk (hQ := ?_)
      refine W_if (ht := fun h5 => absurd h5 (by omega)) (hf := fun h5 => ?_)
      refine walk (hQ := ?_)
    case' refine_2 =>
      simp only [if_true] at h4
      rw [decide_eq_false h4, Bool.false_and] at hq
      refine walk (hQ := ?_)
      refine W_if (ht := fun h5 => absurd h5 (by omega)) (hf := fun h5 => ?_)
      rw [if_pos hq] at hR
      refine walk (hQ := ?_)
      exact hR _ (ret1 (hp := rfl))
  case' refine_2 =>
    refine walk (hQ := ?_)
    refine W_if (ht := fun h5 => ?_) (hf := fun h5 => ?_)
    case' refine_1 =>
      have hq : qty s = decide (s.2.1 = 2) := by unfold qty; rw [if_neg h3, if_pos h5]
      refine walk (hQ := ?_)
    case' refine_2 =>
      have hq : qty s = decide (s.2.1 = 0) := by unfold qty; rw [if_neg h3, if_neg h5]
      refine walk (hQ := ?_)
  all_goals
    refine W_if (ht := fun h6 => ?_) (hf := fun h6 => ?_)
    · have hqq : qty s = false := by rw [hq]; exact decide_eq_false h6
      rw [if_pos hqq] at hR
      refine walk (hQ := ?_)
      exact hR _ (ret1 (hp := rfl))
    have hqq : qty s = true := by rw [hq]; exact decide_eq_true (Decidable.not_not.1 h6)
    rw [hqq, if_neg (by decide)] at hR
    refine walk (hQ := ?_)
    refine W_if (ht := fun h7 => ?_) (hf := fun h7 => ?_)
    · rw [if_pos h7] at hR
      refine walk (hQ := ?_)
      exact hR _ (ret1 (hp := rfl))
    rw [if_neg h7] at hR
    refine walk (hQ := ?_)
    refine W_if (ht := fun h8 => ?_) (hf := fun h8 => ?_)
    · rw [if_pos (by omega)] at hR
      refine walk (hQ := ?_)
      exact hR _ (ret1 (hp := rfl))
    rw [if_neg (by omega)] at hR
    refine walk (hQ := ?_)
    refine Lp.intro (fun (i : Nat) => ⟨[(1, .one (.ptr 0 0)), (4, vI i)], [(0, (.mx [.pv (.int .i64 s.1), .pv (.int .i64 s.2.1), .pv (.str s.2.2)], false))], 1⟩) (fun i => i ≤ s.2.2.length ∧ (s.2.2.take i).all wrt = true) (fun i => s.2.2.length - i) 0 ⟨Nat.zero_le _, by simp⟩ (h0 := le_auto) (hr := fun i K ⟨hi, ho⟩ hK => ?_)
    refine walk (hQ := ?_)
    refine W_if (ht := fun h9 => ?_) (hf := fun h9 => ?_)
    · have hil : i < s.2.2.length := by omega
      have e0 : s.2.2[i] = s.2.2.getD i 0 := by rw [List.getD_eq_getElem?_getD, List.getElem?_eq_getElem hil]; rfl
      have hl := g_letter (s.2.2.getD i 0)
      refine walk (hQ := ?_)
      refine R_call hl (hK := ?_)
      cases hw : wrt (s.2.2.getD i 0) with
      | false =>
        rw [all_not hil (by rw [e0]; exact hw), if_neg (by decide)] at hR
        refine walk (hQ := ?_)
        exact hR _ (ret1 (hp := rfl))
      | true =>
        refine walk (hQ := ?_)
        exact hK _ (i + 1) ⟨by omega, all_take hil ho (by rw [e0]; exact hw)⟩ (by omega) le_auto
    · obtain rfl : i = s.2.2.length := by omega
      rw [List.take_length] at ho
      rw [if_pos ho] at hR
      refine walk (hQ := ?_)
      exact hR _ (ret1 (hp := rfl))
theorem g_Compare (a b : Snd) : Spc X 67 [.agg (eSd a), .agg (eSd b)] (.one (.int .i64 (cmpSd a b))) := by
  refine Spc.start Tryz.func67 rfl (h := fun hs R hR => ?_)
  unfold Tryz.f67
  simp only [entryE, PA.av, List.map_cons, List.map_nil]
  unfold cmpSd at hR
  refine walk (hQ := ?_)
  refine R_call (g_order _ _) (hK := ?_)
  refine walk (hQ := ?_)
  refine W_if (ht := fun h1 => ?_) (hf := fun h1 => ?_)
  · rw [if_pos h1] at hR
    refine walk (hQ := ?_)
    exact hR _ (ret1 (hp := rfl))
  rw [if_neg h1] at hR
  refine walk (hQ := ?_)
  refine R_call (g_order _ _) (hK := ?_)
  refine walk (hQ := ?_)
  refine W_if (ht := fun h2 => ?_) (hf := fun h2 => ?_)
  · rw [if_pos h2] at hR
    refine walk (hQ := ?_)
    exact hR _ (ret1 (hp := rfl))
  rw [if_neg h2] at hR
  refine walk (hQ := ?_)
  refine W_ifb (ht := fun h3 => ?_) (hf := fun h3 => ?_)
  · rw [if_pos h3] at hR
    refine walk (hQ := ?_)
    exact hR _ (ret1 (hp := rfl))
  rw [if_neg (by rw [h3]; decide)] at hR
  refine walk (hQ := ?_)
  refine W_ifb (ht := fun h4 => ?_) (hf := fun h4 => ?_)
  · rw [if_pos h4] at hR
    refine walk (hQ := ?_)
    exact hR _ (ret1 (hp := rfl))
  rw [if_neg (by rw [h4]; decide)] at hR
  refine walk (hQ := ?_)
  exact hR _ (ret1 (hp := rfl))
theorem g_SSame (a b : List Snd) : Spc X 41 [.one (slc eSd a), .one (slc eSd b)] (.one (.bool (decide (a = b)))) := by
  refine Spc.start Tryz.func41 rfl (h := fun hs R hR => ?_)
  unfold Tryz.f41
  simp only [entryE, PA.av]
  have la := (sane_slc hs.1).1
  have lb := (sane_slc hs.2.1).1
  refine walk (hQ := ?_)
  refine W_if (ht := fun h1 => ?_) (hf := fun h1 => ?_)
  · rw [decide_eq_false (fun h => h1 (by rw [h]))] at hR
    refine walk (hQ := ?_)
    exact hR _ (ret1 (hp := rfl))
  have hll : a.length = b.length := by omega
  refine walk (hQ := ?_)
  refine Lp.intro (fun (i : Nat) => ⟨[(0, vP (slc eSd a)), (1, vP (slc eSd b)), (5, vI i)], [], 0⟩) (fun i => i ≤ a.length ∧ a.take i = b.take i) (fun i => a.length - i) 0 ⟨Nat.zero_le _, by simp⟩ (h0 := le_auto) (hr := fun i K ⟨hi, ho⟩ hK => ?_)
  refine walk (hQ := ?_)
  refine W_if (ht := fun h2 => ?_) (hf := fun h2 => ?_)
  · have hia : i < a.length := by omega
    have hib : i < b.length := by omega
    have ea : a[i] = a.getD i default := by rw [List.getD_eq_getElem?_getD, List.getElem?_eq_getElem hia]; rfl
    have eb : b[i] = b.getD i default := by rw [List.getD_eq_getElem?_getD, List.getElem?_eq_getElem hib]; rfl
    have hc := g_Compare (a.getD i default) (b.getD i default)
    have hz := cmpSd_zero (a.getD i default) (b.getD i default)
    refine walk (hQ := ?_)
    refine R_call hc (hK := ?_)
    refine walk (hQ := ?_)
    refine W_if (ht := fun h3 => ?_) (hf := fun h3 => ?_)
    · rw [decide_eq_false (fun h => h3 (hz.2 (by rw [h])))] at hR
      refine walk (hQ := ?_)
      exact hR _ (ret1 (hp := rfl))
    · refine walk (hQ := ?_)
      exact hK _ (i + 1) ⟨by omega, eq_take hia hib ho (by rw [ea, eb]; exact hz.1 (Decidable.not_not.1 h3))⟩ (by omega) le_auto
  · obtain rfl : i = a.length := by omega
    rw [List.take_length, hll, List.take_length] at ho
    rw [decide_eq_true ho] at hR
    refine walk (hQ := ?_)
    exact hR _ (ret1 (hp := rfl))
def fewS (l : List Snd) (n : Int) : Bool := decide ((l.length : Int) ≤ n) && l.all fun s => decide (s.2.2.length ≤ 40)
theorem g_SFew (l : List Snd) (n : Int) : Spc X 12 [.one (slc eSd l), .one (.int .i64 n)] (.one (.bool (fewS l n))) := by
  refine Spc.start Tryz.func12 rfl (h := fun hs R hR => ?_)
  unfold Tryz.f12
  simp only [entryE, PA.av]
  have la := (sane_slc hs.1).1
  unfold fewS at hR
  refine walk (hQ := ?_)
  refine W_if (ht := fun h1 => ?_) (hf := fun h1 => ?_)
  · rw [decide_eq_false (by omega), Bool.false_and] at hR
    refine walk (hQ := ?_)
    exact hR _ (ret1 (hp := rfl))
  rw [decide_eq_true (by omega), Bool.true_and] at hR
  refine walk (hQ := ?_)
  refine Lp.intro (fun (i : Nat) => ⟨[(0, vP (slc eSd l)), (5, vI i)], [], 0⟩) (fun i => i ≤ l.length ∧ (l.take i).all (fun s => decide (s.2.2.length ≤ 40)) = true) (fun i => l.length - i) 0 ⟨Nat.zero_le _, by simp⟩ (h0 := le_auto) (hr := fun i K ⟨hi, ho⟩ hK => ?_)
  refine walk (hQ := ?_)
  refine W_if (ht := fun h2 => ?_) (hf := fun h2 => ?_)
  · have hia : i < l.length := by omega
    have ea : l[i] = l.getD i default := by rw [List.getD_eq_getElem?_getD, List.getElem?_eq_getElem hia]; rfl
    refine walk (hQ := ?_)
    refine W_if (ht := fun h3 => ?_) (hf := fun h3 => ?_)
    · rw [all_not hia (by rw [ea]; exact decide_eq_false (by omega))] at hR
      refine walk (hQ := ?_)
      exact hR _ (ret1 (hp := rfl))
    · refine walk (hQ := ?_)
      exact hK _ (i + 1) ⟨by omega, all_take hia ho (by rw [ea]; exact decide_eq_true (by omega))⟩ (by omega) le_auto
  · obtain rfl : i = l.length := by omega
    rw [List.take_length] at ho
    rw [ho] at hR
    refine walk (hQ := ?_)
    exact hR _ (ret1 (hp := rfl))
end Go.VS.YtekfjbjdlenhoaaGreatDoor

