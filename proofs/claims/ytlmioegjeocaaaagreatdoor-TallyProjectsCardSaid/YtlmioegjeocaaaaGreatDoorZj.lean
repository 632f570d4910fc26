/- Contracts over whole values, and what they lean on: part j. Each holds under the conditions that it states. -/
import Derived.Test.YtlmioegjeocaaaaGreatDoorZi
import Derived.Lib.Bytealg
import Derived.Shelf.GgClosure.StringsRunes
import Derived.Laws.RangeAny
import Derived.Lib.Join
set_option linter.unusedVariables false
set_option linter.unusedSimpArgs false

namespace Go.VN
open Go.RowKit
set_option linter.unusedVariables false
theorem itoa_len (d : Int) (h0 : 0 ≤ d) (h : d < 10000) : (Lib.itoa d).length ≤ 4 := itoa4 h0 h
theorem ofNat_toNat (n : Nat) (h : n < 256) : (UInt8.ofNat n).toNat = n := by
  rw [UInt8.toNat_ofNat']
  omega
theorem dec_decDigits (n : Nat) : Dec (Lib.decDigits n) := by
  induction n using Nat.strongRecOn with
  | ind n ih =>
    unfold Lib.decDigits
    split
    · intro c hc
      rw [List.mem_singleton.1 hc, ofNat_toNat _ (by omega)]
      omega
    · intro c hc
      rcases List.mem_append.1 hc with h | h
      · exact ih (n / 10) (by omega) c h
      · rw [List.mem_singleton.1 h, ofNat_toNat _ (by omega)]
        omega
theorem dv_decDigits (n : Nat) : dv (Lib.decDigits n) = n := by
  induction n using Nat.strongRecOn with
  | ind n ih =>
    unfold Lib.decDigits
    split
    · show 0 * 10 + ((UInt8.ofNat (48 + n)).toNat - 48) = n
      rw [ofNat_toNat _ (by omega)]
      omega
    · rw [dv_snoc, ih (n / 10) (by omega), ofNat_toNat _ (by omega)]
      omega
theorem decDigits_ne (n : Nat) : Lib.decDigits n ≠ [] := by
  unfold Lib.decDigits
  split <;> simp
theorem decDigits_head (n : Nat) (h : 0 < n) : (Lib.decDigits n).head? ≠ some 48 := by
  induction n using Nat.strongRecOn with
  | ind n ih =>
    unfold Lib.decDigits
    split
    · intro e
      simp only [List.head?_cons, Option.some.injEq] at e
      have := congrArg UInt8.toNat e
      rw [ofNat_toNat _ (by omega), show (48 : UInt8).toNat = 48 from rfl] at this
      omega
    · have := ih (n / 10) (by omega) (by omega)
      rw [List.head?_append]
      have hne := decDigits_ne (n / 10)
      cases hd : (Lib.decDigits (n / 10)).head? with
      | none => exact absurd (List.head?_eq_none_iff.1 hd) hne
      | some x => rw [hd] at this; exact this
theorem dv_zeros (m : Nat) (l : List UInt8) : dv (List.replicate m 48 ++ l) = dv l := by
  induction m with
  | zero => rfl
  | succ m ih => rw [List.replicate_succ, List.cons_append, dv_cons, ih]; simp
theorem dec_zeros (m : Nat) : Dec (List.replicate m 48) := by
  intro c hc
  rw [List.eq_of_mem_replicate hc]
  decide
theorem dec_join {a b : List UInt8} (ha : Dec a) (hb : Dec b) : Dec (a ++ b) := fun x hx => by
  rcases List.mem_append.1 hx with h | h
  · exact ha x h
  · exact hb x h
theorem pad4_form (d : Int) (h0 : 0 ≤ d) (h1 : d < 10000) : pad4 d = List.replicate (4 - (Lib.decDigits d.toNat).length) 48 ++ Lib.decDigits d.toNat := by
  obtain ⟨n, rfl⟩ := Int.eq_ofNat_of_zero_le h0
  unfold pad4
  rw [itoa_nat, Int.toNat_natCast]
  congr 1
  show List.drop _ (List.replicate 4 48) = _
  rw [List.drop_replicate]
theorem dec_pad4 (d : Int) (h0 : 0 ≤ d) (h1 : d < 10000) : Dec (pad4 d) := by
  rw [pad4_form d h0 h1]
  exact dec_join (dec_zeros _) (dec_decDigits _)
theorem dv_pad4 (d : Int) (h0 : 0 ≤ d) (h1 : d < 10000) : (dv (pad4 d) : Int) = d := by
  rw [pad4_form d h0 h1, dv_zeros, dv_decDigits]
  omega
/-- Four places, written out. -/
def p4 (n : Nat) : List UInt8 := [UInt8.ofNat (48 + n / 1000 % 10), UInt8.ofNat (48 + n / 100 % 10), UInt8.ofNat (48 + n / 10 % 10), UInt8.ofNat (48 + n % 10)]
theorem p4_pad4 (n : Nat) (h : n < 10000) : pad4 (n : Int) = p4 n := by
  have hD : Dec (p4 n) := by
    intro c hc
    simp only [p4, List.mem_cons, List.not_mem_nil, or_false] at hc
    rcases hc with rfl | rfl | rfl | rfl <;> rw [ofNat_toNat _ (by omega)] <;> omega
  have hv : dv (p4 n) = n := by
    unfold p4
    rw [dv_cons, dv_cons, dv_cons, dv_cons]
    simp only [List.length_cons, List.length_nil]
    rw [ofNat_toNat _ (by omega), ofNat_toNat _ (by omega), ofNat_toNat _ (by omega), ofNat_toNat _ (by omega)]
    show _ + (_ + (_ + (_ + 0))) = n
    omega
  have := pad4_dv hD rfl
  rwa [hv] at this
theorem fmtL_snoc (l : List Int) (d : Int) : fmtL (l ++ [d]) = Lib.itoa d ++ l.reverse.flatMap pad4 := by
  unfold fmtL
  rw [List.reverse_append]
  rfl
theorem fmtL_back {l : List Int} (h : Dig l) (hl : l.getLast? ≠ some 0) (h0 : l ≠ []) : nums (fmtL l) = l ∧ Dec (fmtL l) ∧ fmtL l ≠ [] ∧ (fmtL l).head? ≠ some 48 ∧ (fmtL l).length ≤ 4 * l.length := by
  induction l with
  | nil => exact absurd rfl h0
  | cons c l ih =>
    have hc := h.head
    by_cases hn : l = []
    · subst hn
      have e : fmtL [c] = Lib.itoa c := by unfold fmtL; simp
      have hlen := itoa_len c hc.1 hc.2
      obtain ⟨n, rfl⟩ := Int.eq_ofNat_of_zero_le hc.1
      rw [e]
      rw [itoa_nat] at *
      have hne := decDigits_ne n
      have hn0 : 0 < n := by
        rcases Nat.eq_zero_or_pos n with h | h
        · subst h; simp at hl
        · exact h
      refine ⟨?_, dec_decDigits n, hne, decDigits_head n hn0, by simpa using hlen⟩
      rw [nums_cons _ hne, show (Lib.decDigits n).length - 4 = 0 by omega, List.drop_zero, List.take_zero, nums_nil, dv_decDigits]
    · have hl' : l.getLast? ≠ some 0 := by
        rw [List.getLast?_cons] at hl
        intro e
        rw [e] at hl
        exact hl rfl
      obtain ⟨i1, i2, i3, i4, i5⟩ := ih h.tail hl' hn
      rw [fmtL_cons c l hn]
      have hp := pad4_len hc.1 hc.2
      refine ⟨?_, dec_join i2 (dec_pad4 c hc.1 hc.2), by simp [i3], ?_, by rw [List.length_append, hp, List.length_cons]; omega⟩
      · rw [nums_cons _ (by simp [i3]), List.length_append, hp, Nat.add_sub_cancel, List.drop_left', List.take_left', i1, dv_pad4 c hc.1 hc.2]
        · rfl
        · rfl
      · rw [List.head?_append]
        cases hd : (fmtL l).head? with
        | none => exact absurd (List.head?_eq_none_iff.1 hd) i3
        | some x => rw [hd] at i4; exact i4
theorem parse_fmt {l : List Int} (h : validB l = true) : parseL (fmtL l) = (l, 0) := by
  unfold validB at h
  simp only [Bool.and_eq_true, decide_eq_true_eq, Bool.not_eq_true', beq_eq_false_iff_ne, List.all_eq_true] at h
  obtain ⟨⟨h1, h2⟩, h3⟩ := h
  by_cases h0 : l = []
  · subst h0
    have e : fmtL [] = [48] := rfl
    have e2 : nums [48] = [0] := by rw [nums_cons _ (by simp)]; simp [nums_nil, dv, dvF]
    unfold parseL
    rw [e, e2]
    rfl
  · obtain ⟨i1, i2, i3, i4, i5⟩ := fmtL_back (l := l) h3 h2 h0
    unfold parseL
    have hb : bad (fmtL l) = false := by
      unfold bad
      rw [dec_all.2 i2]
      have : (fmtL l).isEmpty = false := by simpa using i3
      rw [this]
      have h4 : ((fmtL l).head? == some 48) = false := by simpa using i4
      rw [h4]
      simp
    rw [hb, if_neg (by decide), if_neg (by omega), i1]
    have := norm_digs (l := l) h3 h2
    rw [this, tr_digs_id]
/-- The last places of four. -/
theorem p4_step {d0 j : Nat} (hj : j < 4) (h : d0 < 10000) : UInt8.ofNat (48 + d0 / 10 ^ j % 10) :: (p4 d0).drop (4 - j) = (p4 d0).drop (4 - (j + 1)) := by
  obtain rfl | rfl | rfl | rfl : j = 0 ∨ j = 1 ∨ j = 2 ∨ j = 3 := by omega
  all_goals simp [p4]
theorem flat_pad4_len {l : List Int} (h : Dig l) : (l.flatMap pad4).length = 4 * l.length := by
  induction l with
  | nil => rfl
  | cons d l ih =>
    rw [List.flatMap_cons, List.length_append, ih h.tail, pad4_len h.head.1 h.head.2, List.length_cons]
    omega
/-- A text without the zeros ahead; one byte stays. -/
def stripZ : List UInt8 → List UInt8
  | c :: d :: l => if c = 48 then stripZ (d :: l) else c :: d :: l
  | l => l
theorem stripZ_cons (c : UInt8) {l : List UInt8} (h : l ≠ []) : stripZ (48 :: l) = stripZ l := by
  cases l with
  | nil => exact absurd rfl h
  | cons d l => rw [stripZ, if_pos rfl]
theorem stripZ_stop {l : List UInt8} (h : l.length ≤ 1 ∨ l.getD 0 0 ≠ 48) : stripZ l = l := by
  match l, h with
  | [], _ => rfl
  | [_], _ => rfl
  | c :: d :: l, h =>
    rcases h with h | h
    · simp at h
    · rw [stripZ, if_neg (by simpa using h)]
theorem stripZ_rep (k : Nat) {l : List UInt8} (h : l ≠ []) : stripZ (List.replicate k 48 ++ l) = stripZ l := by
  induction k with
  | zero => rfl
  | succ k ih => rw [List.replicate_succ, List.cons_append, stripZ_cons 48 (by simp [h]), ih]
theorem strip_fmt {a : List Int} (h : validB a = true) : (a = [] → stripZ (a.reverse.flatMap pad4) = []) ∧ (a ≠ [] → stripZ (a.reverse.flatMap pad4) = fmtL a ∧ fmtL a ≠ []) := by
  refine ⟨fun e => by subst e; rfl, fun e => ?_⟩
  obtain ⟨la, da, nz⟩ := validB_parts h
  rcases List.eq_nil_or_concat a with e' | ⟨l, d, e'⟩
  · exact absurd e' e
  · rw [List.concat_eq_append] at e'
    subst e'
    have hd := da d (by simp)
    have h0 : d ≠ 0 := fun e0 => by subst e0; simp at nz
    obtain ⟨n, rfl⟩ := Int.eq_ofNat_of_zero_le hd.1
    have hn : 0 < n := by omega
    have hne := decDigits_ne n
    rw [fmtL_snoc, List.reverse_append, List.reverse_singleton, List.singleton_append, List.flatMap_cons, pad4_form _ hd.1 hd.2, Int.toNat_natCast, List.append_assoc, stripZ_rep _ (by simp [hne]), itoa_nat]
    refine ⟨stripZ_stop (.inr ?_), by simp [hne]⟩
    have hh := decDigits_head n hn
    cases hc : Lib.decDigits n with
    | nil => exact absurd hc hne
    | cons x r => rw [hc] at hh; simpa using hh
end Go.VN


namespace Go.VN
open Go.RowKit Go.VL
set_option linter.unusedVariables false
abbrev FrN := Bool × List Int × List Int
def eF (f : FrN) : List PV := [.bool f.1, slc eI f.2.1, slc eI f.2.2]
abbrev ft (f : FrN) : PA := .agg (eF f)
abbrev fr (r : FrN × Int) : PA := .tup [(true, eF r.1), (false, [.int .i64 r.2])]
def eP (p : List Int × List Int) : List PV := [slc eI p.1, slc eI p.2]
abbrev zF : FrN := (false, [], [])
def nm (f : FrN) : Nat := (val f.2.1).toNat
def dn (f : FrN) : Nat := (val f.2.2).toNat
def validF (f : FrN) : Bool := validB f.2.1 && validB f.2.2 && !f.2.2.isEmpty && !(f.2.1.isEmpty && f.1) && decide (Nat.gcd (nm f) (dn f) = 1)
def redN (neg : Bool) (p q : Nat) : FrN := (neg && !decide (p / Nat.gcd p q = 0), digs (p / Nat.gcd p q), digs (q / Nat.gcd p q))
def fits (n : Nat) : Bool := decide ((digs n).length ≤ 200)
theorem fit_fits {n : Nat} (h : fits n = true) : fit n = (digs n, 0) := by
  unfold fits at h
  unfold fit
  simp only [decide_eq_true_eq] at h
  rw [if_neg (by omega)]
theorem fit_not {n : Nat} (h : ¬ fits n = true) : fit n = ([], 3) := by
  unfold fits at h
  unfold fit
  simp only [decide_eq_true_eq] at h
  rw [if_pos (by omega)]
theorem digs_inj {m n : Nat} (h : digs m = digs n) : m = n := by
  have h1 := congrArg val h
  rw [val_digs, val_digs] at h1
  omega
theorem digs_empty (n : Nat) : (digs n).isEmpty = decide (n = 0) := by
  rw [Bool.eq_iff_iff]
  simp [digs_nil]
theorem valid_N' (n : Nat) (h : (digs n).length ≤ 200) : validB (digs n) = true := by
  have := valid_tr (dig_digs n) (by rw [tr_digs_id]; exact h)
  rwa [tr_digs_id] at this
/-- A valid fraction, told in numbers. -/
structure VF (f : FrN) : Prop where
  num : f.2.1 = digs (nm f)
  den : f.2.2 = digs (dn f)
  pos : 0 < dn f
  cop : Nat.gcd (nm f) (dn f) = 1
  sig : nm f = 0 → f.1 = false
  ln : (digs (nm f)).length ≤ 200
  ld : (digs (dn f)).length ≤ 200
theorem validF_VF {f : FrN} (h : validF f = true) : VF f := by
  unfold validF at h
  simp only [Bool.and_eq_true, Bool.not_eq_true', decide_eq_true_eq] at h
  obtain ⟨⟨⟨⟨h1, h2⟩, h3⟩, h4⟩, h5⟩ := h
  obtain ⟨l1, d1, z1⟩ := validB_parts h1
  obtain ⟨l2, d2, z2⟩ := validB_parts h2
  have e1 : f.2.1 = digs (nm f) := norm_digs d1 z1
  have e2 : f.2.2 = digs (dn f) := norm_digs d2 z2
  refine ⟨e1, e2, ?_, h5, fun h0 => ?_, by rw [← e1]; exact l1, by rw [← e2]; exact l2⟩
  · rcases Nat.eq_zero_or_pos (dn f) with h0 | h0
    · rw [e2, digs_empty, h0] at h3; simp at h3
    · exact h0
  · rw [e1, digs_empty, h0] at h4
    simpa using h4
theorem VF.valid {f : FrN} (h : VF f) : validF f = true := by
  unfold validF
  have h1 : validB f.2.1 = true := by rw [h.num]; exact valid_N' _ h.ln
  have h2 : validB f.2.2 = true := by rw [h.den]; exact valid_N' _ h.ld
  have h3 : f.2.2.isEmpty = false := by rw [h.den, digs_empty]; simpa using Nat.pos_iff_ne_zero.1 h.pos
  have h4 : (f.2.1.isEmpty && f.1) = false := by
    rw [h.num, digs_empty]
    by_cases h0 : nm f = 0
    · rw [h.sig h0]; simp
    · simp [h0]
  have h5 := h.cop
  simp [h1, h2, h3, h4, h5]
theorem nm_mk (b : Bool) (p q : Nat) : nm (b, digs p, digs q) = p := by unfold nm; rw [val_digs]; rfl
theorem dn_mk (b : Bool) (p q : Nat) : dn (b, digs p, digs q) = q := by unfold dn; rw [val_digs]; rfl
theorem VF.eta {f : FrN} (h : VF f) : f = (f.1, digs (nm f), digs (dn f)) := by
  rw [← h.num, ← h.den]
theorem VF.mk' {b : Bool} {p q : Nat} (h0 : 0 < q) (h1 : Nat.gcd p q = 1) (h2 : p = 0 → b = false) (h3 : (digs p).length ≤ 200) (h4 : (digs q).length ≤ 200) : VF (b, digs p, digs q) := by
  refine ⟨?_, ?_, ?_, ?_, ?_, ?_, ?_⟩ <;> simp only [nm_mk, dn_mk] <;> assumption
theorem red_VF {b : Bool} {p q : Nat} (h0 : 0 < q) (lp : (digs p).length ≤ 200) (lq : (digs q).length ≤ 200) : VF (redN b p q) := by
  have hg : 0 < Nat.gcd p q := Nat.gcd_pos_of_pos_right p h0
  refine VF.mk' (Nat.div_pos (Nat.gcd_le_right p h0) hg) (Nat.gcd_div_gcd_div_gcd_of_pos_right h0) (fun h => by simp [h]) (Nat.le_trans (len_of_lt (Nat.div_le_self _ _)) lp) (Nat.le_trans (len_of_lt (Nat.div_le_self _ _)) lq)
/-- A fraction in lowest terms stays as it is. -/
theorem red_id {f : FrN} (h : VF f) : redN f.1 (nm f) (dn f) = f := by
  unfold redN
  rw [h.cop, Nat.div_one, Nat.div_one, ← h.num, ← h.den]
  have : (f.1 && !decide (nm f = 0)) = f.1 := by
    by_cases h0 : nm f = 0
    · rw [h.sig h0]; rfl
    · simp [h0]
  rw [this]
/-- What Valid still asks behind its first test. -/
theorem validF_gcd {b : Bool} {p q : List Int} (h1 : validB p = true) (h2 : validB q = true) (h3 : q.isEmpty = false) (h4 : (p.isEmpty && b) = false) : validF (b, p, q) = decide (Nat.gcd (val p).toNat (val q).toNat = 1) := by
  unfold validF nm dn
  simp [h1, h2, h3, h4]
theorem cmp_one (n : Nat) : decide (cmpL (digs n) (digs 1) = 0) = decide (n = 1) := by
  rw [Bool.eq_iff_iff]
  rw [decide_eq_true_eq, decide_eq_true_eq]
  exact ⟨fun h => digs_inj (cmpL_zero h), fun h => by rw [h]; exact cmpL_self _⟩
/-! ### The answers -/
def addN (s : Bool) (m n : Nat) (t : Bool) (p q : Nat) : FrN × Int :=
  if fits (m * q) = true ∧ fits (p * n) = true ∧ fits (n * q) = true then
    (if s = t then (if fits (m * q + p * n) = true then (redN s (m * q + p * n) (n * q), 0) else (zF, 3))
     else if m * q < p * n then (redN t (p * n - m * q) (n * q), 0) else (redN s (m * q - p * n) (n * q), 0))
  else (zF, 3)
def mulN (s : Bool) (m n : Nat) (t : Bool) (p q : Nat) : FrN × Int :=
  if fits (m * p) = true ∧ fits (n * q) = true then (redN (s != t) (m * p) (n * q), 0) else (zF, 3)
def addF (f g : FrN) : FrN × Int := if validF f = true ∧ validF g = true then addN f.1 (nm f) (dn f) g.1 (nm g) (dn g) else (zF, 1)
def oppF (f : FrN) : FrN := (!f.1 && !f.2.1.isEmpty, f.2.1, f.2.2)
def subF (f g : FrN) : FrN × Int := if validF f = true ∧ validF g = true then addF f (oppF g) else (zF, 1)
def mulF (f g : FrN) : FrN × Int := if validF f = true ∧ validF g = true then mulN f.1 (nm f) (dn f) g.1 (nm g) (dn g) else (zF, 1)
def divF (f g : FrN) : FrN × Int := if validF f = true ∧ validF g = true then (if g.2.1.isEmpty = true then (zF, 6) else mulN f.1 (nm f) (dn f) g.1 (dn g) (nm g)) else (zF, 1)
def newF (a b : List Int) : FrN × Int := if validB a = true ∧ validB b = true then (if b.isEmpty = true then (zF, 6) else (redN false (val a).toNat (val b).toNat, 0)) else (zF, 1)
def ofF (a b : Int) : FrN × Int := if b = 0 then (zF, 6) else if a > 1000000000000000 ∨ b > 1000000000000000 ∨ a < -1000000000000000 ∨ b < -1000000000000000 then (zF, 3) else (redN (decide (a < 0) != decide (b < 0)) a.natAbs b.natAbs, 0)
/-- Products of pairs. -/
def prodR : List (List Int × List Int) → List (List Int) × Int
  | [] => ([], 0)
  | p :: l => if (mulR p.1 p.2).2 ≠ 0 then ([], (mulR p.1 p.2).2) else if (prodR l).2 ≠ 0 then ([], (prodR l).2) else ((mulR p.1 p.2).1 :: (prodR l).1, 0)
theorem prodR_ok : ∀ {l : List (List Int × List Int)}, (∀ p ∈ l, (mulR p.1 p.2).2 = 0) → prodR l = (l.map fun p => (mulR p.1 p.2).1, 0)
  | [], _ => rfl
  | p :: l, h => by
    rw [prodR, prodR_ok fun q hq => h q (List.mem_cons_of_mem _ hq), if_neg (by rw [h p (by simp)]; simp)]
    simp
theorem prodR_bad : ∀ {l : List (List Int × List Int)} {i : Nat} {p : List Int × List Int}, l[i]? = some p → (∀ q ∈ l.take i, (mulR q.1 q.2).2 = 0) → (mulR p.1 p.2).2 ≠ 0 → prodR l = ([], (mulR p.1 p.2).2)
  | [], i, p, h, _, _ => by simp at h
  | q :: l, 0, p, h, _, hp => by
    simp at h
    subst h
    rw [prodR, if_pos hp]
  | q :: l, i + 1, p, h, hq, hp => by
    have := prodR_bad (l := l) (i := i) (by simpa using h) (fun x hx => hq x (by simp [hx])) hp
    rw [prodR, if_neg (by rw [hq q (by simp)]; simp), this]
    simp [hp]
theorem mulR_N {m n : Nat} (hm : (digs m).length ≤ 200) (hn : (digs n).length ≤ 200) : mulR (digs m) (digs n) = if fits (m * n) = true then (digs (m * n), 0) else ([], 3) := by
  unfold mulR fit fits
  rw [if_pos ⟨valid_N' m hm, valid_N' n hn⟩, val_digs, val_digs, ← Int.natCast_mul, Int.toNat_natCast]
  by_cases h : (digs (m * n)).length ≤ 200
  · rw [if_neg (by omega), if_pos (by simpa using h)]
  · rw [if_pos (by omega), if_neg (by simpa using h)]
theorem prod2 {a b c d : Nat} (ha : (digs a).length ≤ 200) (hb : (digs b).length ≤ 200) (hc : (digs c).length ≤ 200) (hd : (digs d).length ≤ 200) :
    prodR [(digs a, digs b), (digs c, digs d)] = if fits (a * b) = true ∧ fits (c * d) = true then ([digs (a * b), digs (c * d)], 0) else ([], 3) := by
  simp only [prodR, mulR_N ha hb, mulR_N hc hd]
  by_cases h1 : fits (a * b) = true <;> by_cases h2 : fits (c * d) = true <;> simp [h1, h2]
theorem prod3 {a b c d x y : Nat} (ha : (digs a).length ≤ 200) (hb : (digs b).length ≤ 200) (hc : (digs c).length ≤ 200) (hd : (digs d).length ≤ 200) (hx : (digs x).length ≤ 200) (hy : (digs y).length ≤ 200) :
    prodR [(digs a, digs b), (digs c, digs d), (digs x, digs y)] = if fits (a * b) = true ∧ fits (c * d) = true ∧ fits (x * y) = true then ([digs (a * b), digs (c * d), digs (x * y)], 0) else ([], 3) := by
  simp only [prodR, mulR_N ha hb, mulR_N hc hd, mulR_N hx hy]
  by_cases h1 : fits (a * b) = true <;> by_cases h2 : fits (c * d) = true <;> by_cases h3 : fits (x * y) = true <;> simp [h1, h2, h3]
theorem fits_le {n : Nat} (h : fits n = true) : (digs n).length ≤ 200 := by simpa [fits] using h
theorem cmp_lt (m n : Nat) : cmpL (digs m) (digs n) < 0 ↔ m < n := by
  rw [cmp_digs]; unfold sgn
  by_cases h1 : (m : Int) < n
  · rw [if_pos h1]; omega
  · by_cases h2 : (m : Int) > n
    · rw [if_neg h1, if_pos h2]; omega
    · rw [if_neg h1, if_neg h2]; omega
end Go.VN


namespace Go.VL
open Go.RowKit
section
variable {X : Ctx} {f : FuncId}
/-- Of a string and a whole number. -/
theorem spc_strInt {s : List UInt8} {z : Int} {res : PA} (ent : Ent X.P f) (h : ∀ w, X.G w → s.length ≤ 9223372036854775807 → -9223372036854775808 ≤ z → z ≤ 9223372036854775807 → Calls X.P f #[.string ⟨s.toArray⟩, .int .i64 z] w fun e w' => ∃ u, e = .returned u ∧ RepV w' (fun _ => False) β0 res.av u ∧ Below w.heap.size w w') : Spc X f [.one (.str s), .one (.int .i64 z)] res :=
  spc_calls ent fun ok w vals hG hlt hs hv => by
    obtain ⟨u, hu, hr⟩ := hv 0 _ rfl
    obtain ⟨v, hv, hq⟩ := hv 1 _ rfl
    obtain ⟨rfl, hz⟩ := one_str hr
    obtain ⟨rfl, hy⟩ := one_int hq
    rw [range_i64] at hy
    rw [vals2 hs hu hv]
    exact h w hG hz hy.1 hy.2
end
end Go.VL
namespace Go.VN
open Go.RowKit Go.VL
set_option linter.unusedVariables false
/-- What stands ahead of a byte's first place. -/
def cutL (c : UInt8) (s : List UInt8) : List UInt8 := s.takeWhile (· != c)
theorem indexByte_cut (c : UInt8) : ∀ s : List UInt8, (c ∈ s → Lib.indexByte s c = ((cutL c s).length : Int) ∧ s = cutL c s ++ c :: s.drop ((cutL c s).length + 1)) ∧ (c ∉ s → Lib.indexByte s c = -1 ∧ cutL c s = s)
  | [] => ⟨fun h => (by cases h), fun _ => ⟨rfl, rfl⟩⟩
  | x :: s => by
    obtain ⟨h1, h2⟩ := indexByte_cut c s
    by_cases hx : x = c
    · subst hx
      refine ⟨fun _ => ?_, fun h => absurd (by simp) h⟩
      simp [Lib.indexByte, cutL]
    · have e : cutL c (x :: s) = x :: cutL c s := by unfold cutL; rw [List.takeWhile_cons, if_pos (by simpa using hx)]
      refine ⟨fun h => ?_, fun h => ?_⟩
      · have hm : c ∈ s := by
          rcases List.mem_cons.1 h with h | h
          · exact absurd h.symm hx
          · exact h
        obtain ⟨h3, h4⟩ := h1 hm
        rw [e]
        refine ⟨?_, ?_⟩
        · rw [Lib.indexByte, if_neg (by simpa using hx), h3, if_neg (fun e => by have := eq_of_beq e; omega), List.length_cons]
          omega
        · rw [List.length_cons, List.drop_succ_cons, List.cons_append, ← h4]
      · have hm : c ∉ s := fun hm => h (List.mem_cons_of_mem _ hm)
        obtain ⟨h3, h4⟩ := h2 hm
        rw [e, h4]
        refine ⟨?_, rfl⟩
        rw [Lib.indexByte, if_neg (by simpa using hx), h3]
        rfl
theorem cutL_app {c : UInt8} {a : List UInt8} (h : c ∉ a) (b : List UInt8) : cutL c (a ++ c :: b) = a := by
  unfold cutL
  induction a with
  | nil => simp
  | cons x a ih =>
    have hx : x ≠ c := fun e => h (by simp [e])
    rw [List.cons_append, List.takeWhile_cons, if_pos (by simpa using hx), ih (fun hm => h (List.mem_cons_of_mem _ hm))]
theorem cutL_all {c : UInt8} {a : List UInt8} (h : c ∉ a) : cutL c a = a := ((indexByte_cut c a).2 h).2
theorem cut_at {c : UInt8} {t : List UInt8} {i : Nat} (hi : i ≤ t.length) (hn : c ∉ t.take i) (h : i = t.length ∨ t[i]? = some c) : t.take i = cutL c t ∧ (cutL c t).length = i ∧ (c ∈ t ↔ i < t.length) := by
  have key : cutL c t = t.take i ∧ (c ∈ t ↔ i < t.length) := by
    rcases h with h | h
    · subst h
      rw [List.take_length] at hn ⊢
      exact ⟨cutL_all hn, fun h => absurd h hn, fun h => by omega⟩
    · obtain ⟨h1, h2⟩ := List.getElem?_eq_some_iff.1 h
      have e : t = t.take i ++ c :: t.drop (i + 1) := by
        conv => lhs; rw [← List.take_append_drop i t]
        rw [List.drop_eq_getElem_cons h1, h2]
      refine ⟨?_, fun _ => h1, fun _ => by rw [← h2]; exact List.getElem_mem h1⟩
      conv => lhs; rw [e]
      exact cutL_app hn _
  refine ⟨key.1.symm, ?_, key.2⟩
  rw [key.1, List.length_take]; omega
/-! ### The text of a fraction -/
def fmtB (f : FrN) : List UInt8 := (if f.1 = true then [45] else []) ++ fmtL f.2.1 ++ (if f.2.2 = [1] then [] else [47] ++ fmtL f.2.2)
def fmtF (f : FrN) : List UInt8 × Int := if validF f = true then (fmtB f, 0) else ([], 1)
def restS (s : List UInt8) : List UInt8 := if s.head? = some 45 then s.drop 1 else s
def denS (t : List UInt8) : List UInt8 := if 47 ∈ t then t.drop ((cutL 47 t).length + 1) else [49]
def outS (s : List UInt8) : FrN := (decide (s.head? = some 45), (parseL (cutL 47 (restS s))).1, (parseL (denS (restS s))).1)
def parseF (s : List UInt8) : FrN × Int :=
  if (parseL (cutL 47 (restS s))).2 ≠ 0 ∨ (parseL (denS (restS s))).2 ≠ 0 then (zF, 2)
  else if (fmtF (outS s)).2 ≠ 0 ∨ (fmtF (outS s)).1 ≠ s then (zF, 2) else (outS s, 0)
theorem fmtL_dec {a : List Int} (h : validB a = true) : Dec (fmtL a) ∧ fmtL a ≠ [] ∧ (fmtL a).length ≤ 4 * a.length + 1 := by
  obtain ⟨la, da, nz⟩ := validB_parts h
  by_cases h0 : a = []
  · subst h0
    exact ⟨fun c hc => by (have h48 : c = 48 := by simpa [fmtL] using hc); subst h48; decide, by decide, by decide⟩
  · obtain ⟨_, h1, h2, _, h3⟩ := fmtL_back da nz h0
    exact ⟨h1, h2, by omega⟩
theorem dec_no {a : List UInt8} (h : Dec a) {c : UInt8} (hc : c.toNat < 48) : c ∉ a := fun hm => by have := (h c hm).1; omega
theorem dec_head {a : List UInt8} (h : Dec a) {c : UInt8} (hc : c.toNat < 48) (b : List UInt8) (h0 : a ≠ []) : (a ++ b).head? ≠ some c := by
  cases a with
  | nil => exact absurd rfl h0
  | cons x a =>
    intro e
    simp at e
    subst e
    exact dec_no h hc (by simp)
theorem parse_one : parseL [49] = ([1], 0) := by
  have : parseL (fmtL [1]) = ([1], 0) := parse_fmt (by decide)
  have e : fmtL [1] = [49] := by simp [fmtL, Lib.itoa, Lib.decDigits]
  rwa [e] at this
theorem fmt_one {b : List Int} (h : validB b = true) : fmtL b = [49] ↔ b = [1] := by
  constructor
  · intro e
    have h1 := parse_fmt h
    rw [e, parse_one] at h1
    exact (congrArg Prod.fst h1).symm
  · intro e; subst e; simp [fmtL, Lib.itoa, Lib.decDigits]
theorem dec_tail {b : List Int} (h : validB b = true) : 47 ∉ fmtL b := dec_no (fmtL_dec h).1 (by decide)
/-- A valid fraction's text leads back. -/
theorem parse_text {f : FrN} (h : validF f = true) : parseF (fmtF f).1 = (f, 0) := by
  have hv := h
  unfold validF at h
  simp only [Bool.and_eq_true] at h
  obtain ⟨⟨⟨⟨ha, hb⟩, _⟩, _⟩, _⟩ := h
  obtain ⟨s, a, b⟩ := f
  simp only at ha hb
  have e0 : fmtF (s, a, b) = (fmtB (s, a, b), 0) := by unfold fmtF; rw [if_pos hv]
  have hda := fmtL_dec ha
  have na : 47 ∉ fmtL a := dec_tail ha
  have eR : restS (fmtB (s, a, b)) = fmtL a ++ (if b = [1] then [] else [47] ++ fmtL b) ∧ decide ((fmtB (s, a, b)).head? = some 45) = s := by
    unfold restS fmtB
    cases s with
    | true => simp
    | false =>
      have := dec_head hda.1 (c := 45) (by decide) (if b = [1] then [] else [47] ++ fmtL b) hda.2.1
      simp only [Bool.false_eq_true, if_false, List.nil_append]
      rw [if_neg this]
      exact ⟨rfl, decide_eq_false this⟩
  have eC : cutL 47 (restS (fmtB (s, a, b))) = fmtL a ∧ parseL (denS (restS (fmtB (s, a, b)))) = (b, 0) := by
    rw [eR.1]
    by_cases h1 : b = [1]
    · rw [if_pos h1, List.append_nil, cutL_all na]
      refine ⟨rfl, ?_⟩
      unfold denS
      rw [if_neg na, parse_one, h1]
    · rw [if_neg h1]
      have e1 : cutL 47 (fmtL a ++ ([47] ++ fmtL b)) = fmtL a := cutL_app na _
      refine ⟨e1, ?_⟩
      unfold denS
      rw [if_pos (by simp), e1]
      have : (fmtL a ++ ([47] ++ fmtL b)).drop ((fmtL a).length + 1) = fmtL b := by
        rw [List.drop_append]
        simp
      rw [this]
      exact parse_fmt hb
  have eO : outS (fmtB (s, a, b)) = (s, a, b) := by
    unfold outS
    rw [eR.2, eC.1, eC.2, parse_fmt ha]
  unfold parseF
  rw [e0, eC.1, eC.2, parse_fmt ha, eO, e0]
  simp
/-- What Parse accepts has this text. -/
theorem parse_back {s : List UInt8} (h : (parseF s).2 = 0) : validF (parseF s).1 = true ∧ fmtF (parseF s).1 = (s, 0) := by
  unfold parseF at h ⊢
  by_cases h1 : (parseL (cutL 47 (restS s))).2 ≠ 0 ∨ (parseL (denS (restS s))).2 ≠ 0
  · rw [if_pos h1] at h; cases h
  · rw [if_neg h1] at h ⊢
    by_cases h2 : (fmtF (outS s)).2 ≠ 0 ∨ (fmtF (outS s)).1 ≠ s
    · rw [if_pos h2] at h; cases h
    · rw [if_neg h2]
      rw [not_or, Decidable.not_not, Decidable.not_not] at h2
      refine ⟨?_, Prod.ext h2.2 h2.1⟩
      unfold fmtF at h2
      by_cases hv : validF (outS s) = true
      · exact hv
      · rw [if_neg hv] at h2; exact absurd h2.1 (by decide)
end Go.VN


namespace Go.VN
open Go.RowKit Go.VL
set_option linter.unusedVariables false
abbrev Snd := Int × Int × List UInt8
abbrev Sgn := List UInt8 × List Snd × Int × Int
abbrev Ort := List UInt8 × List Sgn
def eSd (s : Snd) : List PV := [.int .i64 s.1, .int .i64 s.2.1, .str s.2.2]
def eSg (s : Sgn) : List PV := [.str s.1, slc eSd s.2.1, .int .i64 s.2.2.1, .int .i64 s.2.2.2]
def eO (o : Ort) : List PV := [.str o.1, slc eSg o.2]
abbrev zSd : Snd := (0, 0, [])
abbrev zSg : Sgn := ([], [], 0, 0)
abbrev zO : Ort := ([], [])
/-! ### Names and numbers -/
def sml (c : UInt8) : Bool := decide (97 ≤ c.toNat) && decide (c.toNat ≤ 122)
def dgt (c : UInt8) : Bool := decide (48 ≤ c.toNat) && decide (c.toNat ≤ 57)
def nm2 : List UInt8 → Nat
  | [] => 0
  | [c] => if (sml c || dgt c) = true then 1 else 0
  | c :: d :: l => if (sml c || dgt c) = true then 1 + nm2 (d :: l) else if c = 45 ∧ (sml d || dgt d) = true then 2 + nm2 l else 0
def nmL (s : List UInt8) : Nat := match s with | [] => 0 | c :: l => if sml c = true then 1 + nm2 l else 0
def isNm (s : List UInt8) : Bool := !s.isEmpty && decide (s.length ≤ 20) && decide (nmL s = s.length)
def digL : List UInt8 → Nat
  | [] => 0
  | c :: l => if dgt c = true then 1 + digL l else 0
def badN (s : List UInt8) : Bool := s.isEmpty || decide (6 < s.length) || decide (digL s ≠ s.length) || (decide (1 < s.length) && decide (s.head? = some 48))
def numF (s : List UInt8) : Int × Bool := if badN s = true then (0, false) else (dv s, true)
/-! ### Sounds -/
def wrt (c : UInt8) : Bool := sml c || dgt c || decide (c = 95) || decide (c = 94) || decide (c = 39)
def nuc (s : Snd) : Bool := decide (s.1 = 1) || decide (s.1 = 2)
def qty (s : Snd) : Bool := if s.1 = 1 then decide (1 ≤ s.2.1) && decide (s.2.1 ≤ 3) else if s.1 = 2 then decide (s.2.1 = 2) else decide (s.2.1 = 0)
def sdE (s : Snd) : Int := if s.1 < 1 ∨ 9 < s.1 then 1 else if qty s = false then 6 else if s.2.2 = [] then 7 else if 8 < s.2.2.length then 3 else if s.2.2.all wrt = true then 0 else 2
abbrev ltrs : List UInt8 := [118, 100, 109, 108, 110, 115, 120, 103, 98]
def sdT (s : Snd) : List UInt8 := s.2.2 ++ [47] ++ [ltrs.getD (s.1 - 1).toNat 0] ++ (if nuc s = true then [UInt8.ofNat (48 + s.2.1.toNat)] else [])
def joinS : List (List UInt8) → List UInt8
  | [] => []
  | [x] => x
  | x :: y :: l => x ++ [32] ++ joinS (y :: l)
def sdsT (l : List Snd) : List UInt8 := joinS (l.map sdT)
def firstE (l : List Snd) : Int := match l with | [] => 0 | s :: l => if sdE s ≠ 0 then sdE s else firstE l
def fmtSd (l : List Snd) : List UInt8 × Int := if 200 < l.length then ([], 3) else if firstE l ≠ 0 then ([], firstE l) else (sdsT l, 0)
def consH (x : UInt8) : List (List UInt8) → List (List UInt8)
  | [] => [[x]]
  | y :: l => (x :: y) :: l
def spK (k : Bool) (c : UInt8) : List UInt8 → List (List UInt8)
  | [] => [[]]
  | x :: s => if x = c then (if k = true then [c] else []) :: spK k c s else consH x (spK k c s)
abbrev splitL (c : UInt8) (s : List UInt8) : List (List UInt8) := spK false c s
def idxB (l : List UInt8) (c : UInt8) : Int := Lib.indexByte l c
/-- The sound with a text, and whether there is one: as the program tells it. -/
def rdF (w : List UInt8) : Snd × Bool :=
  if 47 ∈ w ∧ w.drop ((cutL 47 w).length + 1) ≠ [] then
    let t := w.drop ((cutL 47 w).length + 1)
    let x : Snd := (Lib.indexByte ltrs (t.getD 0 0) + 1, 0, cutL 47 w)
    if nuc x = true then (if t.length = 2 ∧ 49 ≤ (t.getD 1 0).toNat ∧ (t.getD 1 0).toNat ≤ 51 then (let y : Snd := (x.1, ((t.getD 1 0).toNat : Int) - 48, x.2.2); (y, decide (sdE y = 0))) else (zSd, false))
    else if t.length = 1 then (x, decide (sdE x = 0)) else (zSd, false)
  else (zSd, false)
/-- .. as the reference tells it. -/
def rdG (w : List UInt8) : Snd × Bool :=
  if 47 ∈ w ∧ w.drop ((cutL 47 w).length + 1) ≠ [] then
    let t := w.drop ((cutL 47 w).length + 1)
    let x : Snd := (Lib.indexByte ltrs (t.getD 0 0) + 1, 0, cutL 47 w)
    if nuc x = true ∧ t.length = 2 ∧ 49 ≤ (t.getD 1 0).toNat ∧ (t.getD 1 0).toNat ≤ 51 then (let y : Snd := (x.1, ((t.getD 1 0).toNat : Int) - 48, x.2.2); (y, decide (sdE y = 0)))
    else (x, decide (t.length = 1) && decide (sdE x = 0))
  else (zSd, false)
def toO {α : Type} (p : α × Bool) : Option α := if p.2 = true then some p.1 else none
def rdS (w : List UInt8) : Option Snd := toO (rdF w)
def rdAll : List (List UInt8) → Option (List Snd)
  | [] => some []
  | w :: l => match rdS w, rdAll l with | some s, some t => some (s :: t) | _, _ => none
def prsSd (s : List UInt8) : List Snd × Int :=
  if 4000 < s.length then ([], 3) else if s = [] then ([], 0) else match rdAll (splitL 32 s) with | none => ([], 2) | some l => if 200 < l.length then ([], 2) else (l, 0)
/-! ### Signs -/
def ltr (c : UInt8) : Bool := decide (32 ≤ c.toNat) && decide (c.toNat ≤ 126) && !([32, 46, 44, 59, 58, 33, 63, 34, 45, 91, 93, 60, 62, 123, 125] : List UInt8).contains c
def upr (c : UInt8) : Bool := decide (65 ≤ c.toNat) && decide (c.toNat ≤ 90)
def txE (s : List UInt8) : Int := if s = [] then 7 else if 4 < s.length then 3 else if (s.all fun c => ltr c && !upr c) = true then 0 else 2
def sgE (s : Sgn) : Int :=
  if txE s.1 ≠ 0 then txE s.1 else if s.2.1 = [] then 7 else if 2 < s.2.1.length then 3 else if firstE s.2.1 ≠ 0 then firstE s.2.1
  else if s.2.2.1 < 0 ∨ 99 < s.2.2.1 ∨ s.2.2.2 < 0 ∨ 4 < s.2.2.2 then 6 else 0
def sameSg (a b : Sgn) : Bool := decide (a.1 = b.1) && decide (a.2.2.2 = b.2.2.2) && decide (a.2.1 = b.2.1)
/-- The first wrong sign, behind those that stand ahead. -/
def chkL : List Sgn → List Sgn → Int × Int
  | _, [] => (-1, 0)
  | p, s :: l => if sgE s ≠ 0 then (p.length, sgE s) else if (p.any fun t => sameSg t s) = true then (p.length, 5) else chkL (p ++ [s]) l
def chkO (o : Ort) : Int × Int := if isNm o.1 = false then (-1, 2) else if o.2 = [] then (-1, 7) else if 120 < o.2.length then (-1, 3) else chkL [] o.2
def begs (l : List Snd) : Bool := match l with | [] => false | s :: _ => nuc s
def ends (l : List Snd) : Bool := match l.getLast? with | none => false | some s => nuc s
def fitW (w : Int) (b a : List Snd) : Bool :=
  if w = 0 then true else if w = 1 then begs a else if w = 2 then begs a && b.isEmpty else if w = 3 then begs a && ends b else if w = 4 then !begs a else false
def fitsO (o : Ort) (i : Int) (b a : List Snd) : Bool := if i < 0 ∨ (o.2.length : Int) ≤ i then false else fitW (o.2.getD i.toNat zSg).2.2.2 b a
def findL (s : List UInt8) : Nat → List Sgn → List Int
  | _, [] => []
  | k, x :: l => if x.1 = s then (k : Int) :: findL s (k + 1) l else findL s (k + 1) l
def plcs : List (List UInt8) := [[97, 110, 121, 119, 104, 101, 114, 101], [98, 101, 102, 111, 114, 101], [115, 116, 97, 114, 116], [98, 101, 116, 119, 101, 101, 110], [110, 111, 116]]
def plc (w : Int) : List UInt8 := plcs.getD w.toNat []
abbrev wOrt : List UInt8 := [111, 114, 116, 104, 111, 103, 114, 97, 112, 104, 121]
def sgT (s : Sgn) : List UInt8 := s.1 ++ [32] ++ sdsT s.2.1 ++ [32] ++ Lib.itoa s.2.2.1 ++ [32] ++ plc s.2.2.2 ++ [10]
def ortT (o : Ort) : List UInt8 := wOrt ++ [32] ++ o.1 ++ [10] ++ o.2.flatMap sgT
def fmtO (o : Ort) : List UInt8 × Int := if (chkO o).2 ≠ 0 then ([], (chkO o).2) else (ortT o, 0)
def ixP {α : Type} (p : α → Bool) : List α → Int
  | [] => -1
  | x :: l => if p x = true then 0 else if ixP p l < 0 then -1 else ixP p l + 1
def sgMk (t : List UInt8) (sd : List Snd × Int) (nu : Int × Bool) (z : Int) : Option Sgn := if z < 0 ∨ sd.2 ≠ 0 ∨ sd.1 = [] ∨ nu.2 = false then none else some (t, sd.1, nu.1, z)
/-- The sign with a line's words. -/
def sgOf (l : List (List UInt8)) : Option Sgn :=
  if l.length < 4 ∨ l.head? = some [] then none
  else sgMk (l.getD 0 []) (prsSd (joinS ((l.drop 1).take (l.length - 3)))) (numF (l.getD (l.length - 2) [])) (ixP (fun y => decide (l.getD (l.length - 1) [] = y)) plcs)
end Go.VN


namespace Go.VN
open Go.RowKit Go.VL
set_option linter.unusedVariables false
theorem spK_hit (k : Bool) (c : UInt8) : ∀ {s : List UInt8}, c ∈ s → spK k c s = s.take ((cutL c s).length + k.toNat) :: spK k c (s.drop ((cutL c s).length + 1))
  | x :: s, h => by
    rw [spK]
    by_cases hx : x = c
    · subst hx
      rw [if_pos rfl]
      have e : cutL x (x :: s) = [] := by unfold cutL; simp
      rw [e]
      cases k <;> simp
    · rw [if_neg hx]
      have hm : c ∈ s := by rcases List.mem_cons.1 h with h | h; exact absurd h.symm hx; exact h
      have e : cutL c (x :: s) = x :: cutL c s := by
        unfold cutL
        rw [List.takeWhile_cons, if_pos (by simpa using hx)]
      rw [spK_hit k c hm, consH, e, List.length_cons, show (cutL c s).length + 1 + k.toNat = ((cutL c s).length + k.toNat) + 1 by omega, List.take_succ_cons, List.drop_succ_cons]
  | [], h => by simp at h
theorem spK_miss (k : Bool) (c : UInt8) : ∀ {s : List UInt8}, c ∉ s → spK k c s = [s]
  | [], _ => rfl
  | x :: s, h => by
    rw [List.mem_cons, not_or] at h
    rw [spK, if_neg (fun e => h.1 e.symm), spK_miss k c h.2]; rfl
theorem cutL_not (c : UInt8) : ∀ s : List UInt8, c ∉ cutL c s
  | [] => by simp [cutL]
  | x :: s => by
    have ih := cutL_not c s
    unfold cutL at ih ⊢
    rw [List.takeWhile_cons]
    by_cases h : x = c
    · subst h; simp
    · rw [if_pos (by simpa using h), List.mem_cons, not_or]
      exact ⟨fun e => h e.symm, ih⟩
theorem count_hit (c : UInt8) {s : List UInt8} (h : c ∈ s) : s.count c = (s.drop ((cutL c s).length + 1)).count c + 1 := by
  obtain ⟨_, h4⟩ := (indexByte_cut c s).1 h
  have hn := cutL_not c s
  conv => lhs; rw [h4]
  rw [List.count_append, List.count_cons_self, List.count_eq_zero_of_not_mem hn]
  omega
theorem cut_len (c : UInt8) {s : List UInt8} (h : c ∈ s) : (cutL c s).length + 1 ≤ s.length := by
  obtain ⟨_, h4⟩ := (indexByte_cut c s).1 h
  have h5 := congrArg List.length h4
  rw [List.length_append, List.length_cons] at h5
  omega
theorem spK_len (k : Bool) (c : UInt8) : ∀ (n : Nat) (s : List UInt8), s.length ≤ n → (spK k c s).length = s.count c + 1
  | 0, s, h => by
    obtain rfl := List.eq_nil_of_length_eq_zero (Nat.le_zero.1 h)
    rfl
  | n + 1, s, h => by
    by_cases hm : c ∈ s
    · have h1 := cut_len c hm
      rw [spK_hit k c hm, List.length_cons, spK_len k c n _ (by rw [List.length_drop]; omega), count_hit c hm]
    · rw [spK_miss k c hm, List.count_eq_zero_of_not_mem hm]; rfl
theorem set_fill {α : Type} (acc : List α) (x z : α) (m : Nat) (hm : 0 < m) : (acc ++ List.replicate m z).set acc.length x = (acc ++ [x]) ++ List.replicate (m - 1) z := by
  obtain ⟨m, rfl⟩ : ∃ k, m = k + 1 := ⟨m - 1, by omega⟩
  rw [List.set_append_right _ _ (Nat.le_refl _), Nat.sub_self, List.replicate_succ, List.set_cons_zero, Nat.add_sub_cancel, List.append_assoc]; rfl
end Go.VN


namespace Go.VL
open Go.RowKit
set_option linter.unusedVariables false
theorem flat_set1 {α : Type} {e : α → List PV} {S : Nat} (he : ∀ x, (e x).length = S) {p : PV} {j : Nat} {a b : α} (hb : e b = (e a).set j p) (hj : j < S) : ∀ {l : List α} {m : Nat}, l[m]? = some a → (l.flatMap e).set (m * S + j) p = (l.set m b).flatMap e
  | y :: l, 0, h => by
    obtain rfl : y = a := by simpa using h
    rw [List.set_cons_zero, List.flatMap_cons, List.flatMap_cons, hb, Nat.zero_mul, Nat.zero_add, List.set_append_left _ _ (by rw [he]; exact hj)]
  | y :: l, m + 1, h => by
    have ih := flat_set1 he hb hj (l := l) (m := m) (by simpa using h)
    rw [List.set_cons_succ, List.flatMap_cons, List.flatMap_cons, ← ih, List.set_append_right _ _ (by rw [he, Nat.succ_mul]; omega), he, Nat.succ_mul]
    congr 2
    omega
  | [], m, h => by simp at h
section
variable {X : Ctx} {N : Nat} {R : AS → Prop} {k : List KI} {ops : Array Oper} {D D' : Option (List Fl)} {rest : List Oper} {env : List (Nat × AV)} {h : Hp} {n : Nat} {d : Tmp} {ty tx : TypeId} {ps : String} {af : Array Edge}
theorem R_ldOF {x : Operand} {α : Type} {e : α → List PV} {l : List α} {id S m j : Nat} {te : TypeId} {zb : Bool} {a : α} {p : PV} {T : TI} [hT : TInf X tx T] (hl : l[m]? = some a) (hx : EvR env x (.one (.ptr id (m * S + j))) := by exact ⟨rfl⟩) (hlk : look h id = some (.pu te (l.flatMap e), zb) := by rfl) (hS : ∀ x, (e x).length = S := by exact fun _ => rfl) (hag : isAggU T.u = false := by rfl)
    (hp : (e a)[j]? = some p := by rfl) (hfl : FlR D env (.load tx x) (vP p) (.n [id] [] none) D' := by first | exact .seq | exact .drawn rfl)
    (hK : Rn X N R k ops D' rest ⟨(d, vP p) :: env, h, n⟩) : Rn X N R k ops D (⟨some d, .load tx x, ty, ps, af, none⟩ :: rest) ⟨env, h, n⟩ :=
  Rn.step (ef := .n [id] [] none) trivial (fun K hK => by
    have hg := flat_get hS hl hp
    have h1 := (List.getElem?_eq_some_iff.1 hg).1
    simp only [evOp, hx.h, evLoadBx, hT.h, hlk, hag, Bool.false_eq_true, if_false]
    exact ⟨h1, by rw [List.getD_eq_getElem?_getD, hg]; exact hK⟩) hfl hK
theorem R_stOF {x y : Operand} {α : Type} {e : α → List PV} {l : List α} {id S m j : Nat} {te : TypeId} {a b : α} {p : PV} {T : TI} [hT : TInf X tx T] (hl : l[m]? = some a) (hb : e b = (e a).set j p) (hx : EvR env x (.one (.ptr id (m * S + j))) := by exact ⟨rfl⟩) (hlk : look h id = some (.pu te (l.flatMap e), false) := by rfl) (hS : ∀ x, (e x).length = S := by exact fun _ => rfl) (hT1 : T.size = 1 := by rfl) (hj : Nat.blt j S = true := by rfl)
    (hy : EvR env y (vP p) := by exact ⟨rfl⟩) (hnn : p.isNil = false := by rfl) {h' : Hp} (hh : PutR h id (.pu te ((l.set m b).flatMap e), false) h' := by repeat (first | exact .hit | exact .nil | (apply PutR.miss; rfl)))
    (hfl : FlR D env (.store tx x y) .bot (.e h' none) D' := by first | exact .seq | exact .drawn rfl)
    (hK : Rn X N R k ops D' rest ⟨env, h', n⟩) : Rn X N R k ops D (⟨none, .store tx x y, ty, ps, af, none⟩ :: rest) ⟨env, h, n⟩ :=
  Rn.step (ef := .e h' none) (v := .bot) (n' := n) trivial (fun K hK => by
    have hj' : j < S := by simpa using hj
    have hm := (List.getElem?_eq_some_iff.1 hl).1
    have hv := (VA.one (h := h) (VC.pv hnn)).h
    have e1 : setM (l.flatMap e) (m * S + j) [p] = (l.set m b).flatMap e := flat_set1 hS hb hj' hl
    have hlt : m * S + j + 1 ≤ (l.flatMap e).length := by
      rw [flat_len hS]
      have := Nat.mul_le_mul_right S (Nat.succ_le_of_lt hm)
      rw [Nat.succ_mul] at this
      omega
    simp only [evOp, hx.h, evStore, hT.h, hlk, hy.h, viewX]
    refine hv _ ?_
    simp only [frzs, e1, hh.eq]
    exact ⟨hT1.symm, hlt, rfl, hK⟩) hfl hK
/-- A cell behind a pointer that was captured. -/
theorem R_ldPt {x : Operand} {cells : List PV} {off : Nat} {p : PV} {T : TI} [hT : TInf X tx T] (hx : EvR env x (vP (.pt cells off)) := by exact ⟨rfl⟩) (hag : isAggU T.u = false := by rfl) (hp : cells[off]? = some p := by rfl) (hfl : FlR D env (.load tx x) (vP p) (.n [] [] none) D' := by first | exact .seq | exact .drawn rfl)
    (hK : Rn X N R k ops D' rest ⟨(d, vP p) :: env, h, n⟩) : Rn X N R k ops D (⟨some d, .load tx x, ty, ps, af, none⟩ :: rest) ⟨env, h, n⟩ :=
  Rn.step (ef := .n [] [] none) trivial (fun K hK => by
    have h1 := (List.getElem?_eq_some_iff.1 hp).1
    simp only [evOp, hx.h, evLoadPv, hT.h, hag, Bool.false_eq_true, if_false]
    exact ⟨h1, by rw [List.getD_eq_getElem?_getD, hp]; exact hK⟩) hfl hK
end
end Go.VL


namespace Go.VN
open Go.RowKit Go.VL
set_option linter.unusedVariables false
def vis (c : UInt8) : Bool := decide (32 ≤ c.toNat) && decide (c.toNat ≤ 126)
def tvE (s : List UInt8) : Int := if 120 < s.length then 3 else if s.all vis = true then 0 else 2
def lowB (c : UInt8) : UInt8 := if upr c = true then UInt8.ofNat (c.toNat + 32) else c
def foldS (s : List UInt8) : List UInt8 := s.map lowB
abbrev Spn := Int × Int
def eSp (p : Spn) : List PV := [.int .i64 p.1, .int .i64 p.2]
def wStep (i : Nat) (c : UInt8) (out : List Spn) : List Spn :=
  if ltr c = false then out else if 0 < out.length ∧ (out.getD (out.length - 1) (0, 0)).2 = i then out.set (out.length - 1) ((out.getD (out.length - 1) (0, 0)).1, (i : Int) + 1) else out ++ [((i : Int), (i : Int) + 1)]
def wdsL : Nat → List UInt8 → List Spn → List Spn
  | _, [], out => out
  | i, c :: s, out => wdsL (i + 1) s (wStep i c out)
def wdsF (s : List UInt8) : List Spn × Int := if tvE s ≠ 0 then ([], tvE s) else (wdsL 0 s [], 0)
theorem lowB_fix (c : UInt8) : lowB c = c ↔ upr c = false := by
  unfold lowB
  cases h : upr c with
  | false => simp
  | true =>
    simp only [if_true, Bool.true_eq_false, iff_false]
    unfold upr at h
    simp only [Bool.and_eq_true, decide_eq_true_eq] at h
    intro he
    have h2 := congrArg UInt8.toNat he
    rw [UInt8.toNat_ofNat_of_lt' (by show c.toNat + 32 < 256; omega)] at h2
    omega
theorem foldS_fix : ∀ s : List UInt8, foldS s = s ↔ s.all (fun c => !upr c) = true
  | [] => by simp [foldS]
  | c :: s => by
    have ih := foldS_fix s
    unfold foldS at ih ⊢
    rw [List.map_cons, List.cons.injEq, lowB_fix, ih, List.all_cons, Bool.and_eq_true]
    simp
theorem foldS_len (s : List UInt8) : (foldS s).length = s.length := by unfold foldS; simp
theorem fold_next {s : List UInt8} {i : Nat} (h : i < s.length) : (foldS (s.take i) ++ s.drop i).set i (lowB s[i]) = foldS (s.take (i + 1)) ++ s.drop (i + 1) := by
  have hl : (foldS (s.take i)).length = i := by rw [foldS_len, List.length_take]; omega
  rw [List.set_append_right _ _ (by omega), hl, Nat.sub_self, List.drop_eq_getElem_cons h, List.set_cons_zero, List.take_succ_eq_append_getElem h]
  unfold foldS
  rw [List.map_append, List.append_assoc]; rfl
theorem fold_at {s : List UInt8} {i : Nat} (h : i < s.length) : (foldS (s.take i) ++ s.drop i)[i]? = some s[i] := by
  have hl : (foldS (s.take i)).length = i := by rw [foldS_len, List.length_take]; omega
  rw [List.getElem?_append_right (by omega), hl, Nat.sub_self, List.drop_eq_getElem_cons h]; rfl
theorem set_self? {α : Type} {l : List α} {i : Nat} {c : α} (h : l[i]? = some c) : l.set i c = l := by
  obtain ⟨h1, rfl⟩ := List.getElem?_eq_some_iff.1 h
  exact List.set_getElem_self h1
theorem lowB_up {c : UInt8} (h : 65 ≤ c.toNat ∧ c.toNat ≤ 90) : (lowB c).toNat = c.toNat + 32 := by
  unfold lowB upr
  rw [if_pos (by simp; exact h), UInt8.toNat_ofNat_of_lt' (by show c.toNat + 32 < 256; omega)]
theorem lowB_no {c : UInt8} (h : ¬ (65 ≤ c.toNat ∧ c.toNat ≤ 90)) : lowB c = c := by
  unfold lowB upr
  rw [if_neg (by simp; omega)]
theorem ltr_vis {c : UInt8} (h : ltr c = true) : vis c = true := by
  unfold ltr at h
  unfold vis
  simp only [Bool.and_eq_true] at h ⊢
  exact h.1
theorem all_vis {s : List UInt8} (h : s.all ltr = true) : s.all vis = true := List.all_eq_true.2 fun c hc => ltr_vis (List.all_eq_true.1 h c hc)
/-- The spans lie in order, each not empty, behind one another; the last ends at or ahead of i. -/
theorem wdsL_all : ∀ (s : List UInt8) (i : Nat), s.all ltr = true → ∀ (f : Int), wdsL i s [(f, (i : Int))] = [(f, (i : Int) + s.length)]
  | [], i, _, f => by simp [wdsL]
  | c :: s, i, h, f => by
    rw [List.all_cons, Bool.and_eq_true] at h
    rw [wdsL]
    have e : wStep i c [(f, (i : Int))] = [(f, ((i + 1 : Nat) : Int))] := by
      unfold wStep
      rw [if_neg (by rw [h.1]; decide)]
      rw [if_pos (by simp)]
      simp
    rw [e, wdsL_all s (i + 1) h.2 f, List.length_cons]
    congr 2
    push_cast
    omega
theorem wStep_len (i : Nat) (c : UInt8) (out : List Spn) : out.length ≤ (wStep i c out).length := by
  unfold wStep
  split
  · exact Nat.le_refl _
  · split
    · simp
    · simp
/-- A bound on the sum of the spans' lengths: at most the letters met. -/
def spl (l : List Spn) : Int := (l.map fun p => p.2 - p.1).sum
theorem spl_set : ∀ (l : List Spn) (k : Nat) (p : Spn), k < l.length → spl (l.set k p) = spl l - ((l.getD k (0, 0)).2 - (l.getD k (0, 0)).1) + (p.2 - p.1)
  | [], k, p, h => by simp at h
  | x :: l, 0, p, h => by simp [spl]; omega
  | x :: l, k + 1, p, h => by
    have ih := spl_set l k p (by simpa using h)
    unfold spl at ih ⊢
    simp only [List.set_cons_succ, List.map_cons, List.sum_cons, List.getD_cons_succ] at ih ⊢
    omega
theorem spl_step (i : Nat) (c : UInt8) (out : List Spn) : spl (wStep i c out) = spl out + if ltr c = true then 1 else 0 := by
  unfold wStep
  cases h : ltr c with
  | false => simp
  | true =>
    rw [if_neg (by simp), if_pos rfl]
    split
    · rename_i h2
      rw [spl_set _ _ _ (by omega), h2.2]
      simp only
      omega
    · simp [spl]; omega
theorem spl_wds : ∀ (s : List UInt8) (i : Nat) (out : List Spn), spl (wdsL i s out) = spl out + (s.filter ltr).length
  | [], i, out => by simp [wdsL]
  | c :: s, i, out => by
    rw [wdsL, spl_wds s (i + 1), spl_step]
    cases h : ltr c with
    | false => simp [h]
    | true => simp [h]; omega
/-- One word, as long as the line: exactly if all are letters. -/
theorem wds_one {s : List UInt8} (hs : s ≠ []) : ((wdsL 0 s []).length = 1 ∧ ((wdsL 0 s []).getD 0 (0, 0)).2 - ((wdsL 0 s []).getD 0 (0, 0)).1 = s.length) ↔ s.all ltr = true := by
  constructor
  · intro ⟨h1, h2⟩
    have h3 := spl_wds s 0 []
    obtain ⟨p, hp⟩ := List.length_eq_one_iff.1 h1
    rw [hp] at h2 h3
    simp only [List.getD_cons_zero] at h2
    simp only [spl, List.map_cons, List.map_nil, List.sum_cons, List.sum_nil] at h3
    have h4 : (s.filter ltr).length = s.length := by omega
    exact List.all_eq_true.2 (List.length_filter_eq_length_iff.1 h4)
  · intro h
    match s, hs, h with
    | c :: s, _, h =>
      rw [List.all_cons, Bool.and_eq_true] at h
      have e : wdsL 0 (c :: s) [] = [((0 : Int), ((s.length + 1 : Nat) : Int))] := by
        rw [wdsL]
        have e1 : wStep 0 c [] = [((0 : Int), ((1 : Nat) : Int))] := by
          unfold wStep
          rw [if_neg (by rw [h.1]; decide)]
          simp
        rw [e1, wdsL_all s 1 h.2]
        congr 2
        push_cast
        omega
      rw [e]
      simp
theorem tx_spec (s : List UInt8) : txE s = if s = [] then 7 else if 4 < s.length then 3 else if foldS s ≠ s then 2 else if (wdsF s).2 ≠ 0 ∨ (wdsF s).1.length ≠ 1 ∨ ((wdsF s).1.getD 0 (0, 0)).2 - ((wdsF s).1.getD 0 (0, 0)).1 ≠ s.length then 2 else 0 := by
  unfold txE
  by_cases h1 : s = []
  · rw [if_pos h1, if_pos h1]
  rw [if_neg h1, if_neg h1]
  by_cases h2 : 4 < s.length
  · rw [if_pos h2, if_pos h2]
  rw [if_neg h2, if_neg h2]
  have ha : (s.all fun c => ltr c && !upr c) = (s.all ltr && s.all fun c => !upr c) := by
    clear h1 h2
    induction s with
    | nil => rfl
    | cons c s ih =>
      simp only [List.all_cons, ih]
      cases ltr c <;> cases upr c <;> cases s.all ltr <;> simp
  rw [ha]
  by_cases h3 : foldS s = s
  · rw [(foldS_fix s).1 h3, Bool.and_true, if_neg (show ¬ (foldS s ≠ s) from fun h => h h3)]
    by_cases h4 : s.all ltr = true
    · have hv : tvE s = 0 := by unfold tvE; rw [if_neg (by omega), if_pos (all_vis h4)]
      have hw : wdsF s = (wdsL 0 s [], 0) := by unfold wdsF; rw [if_neg (by rw [hv]; simp)]
      have := (wds_one h1).2 h4
      rw [if_pos h4, hw, if_neg (by simp only; omega)]
    · rw [if_neg h4]
      by_cases hv : tvE s = 0
      · have hw : wdsF s = (wdsL 0 s [], 0) := by unfold wdsF; rw [if_neg (by rw [hv]; simp)]
        have hn := fun h => h4 ((wds_one h1).1 h)
        rw [hw, if_pos]
        simp only
        by_cases h5 : (wdsL 0 s []).length = 1
        · exact .inr (.inr fun h => hn ⟨h5, h⟩)
        · exact .inr (.inl h5)
      · rw [if_pos (.inl (by unfold wdsF; rw [if_pos hv]; exact hv))]
  · rw [if_pos h3]
    have : (s.all fun c => !upr c) ≠ true := fun h => h3 ((foldS_fix s).2 h)
    rw [if_neg (by rw [Bool.and_eq_true]; exact fun h => this h.2)]
end Go.VN
namespace Go.VL
open Go.RowKit
variable {X : Ctx} {f : FuncId}
/-- Of a string and a byte. -/
theorem spc_strU8 {s : List UInt8} {c : UInt8} {res : PA} (ent : Ent X.P f) (h : ∀ w, X.G w → s.length ≤ 9223372036854775807 → Calls X.P f #[.string ⟨s.toArray⟩, .int .u8 (c.toNat : Int)] w fun e w' => ∃ u, e = .returned u ∧ RepV w' (fun _ => False) β0 res.av u ∧ Below w.heap.size w w') : Spc X f [.one (.str s), .one (.int .u8 (c.toNat : Int))] res :=
  spc_calls ent fun ok w vals hG hlt hs hv => by
    obtain ⟨u, hu, hr⟩ := hv 0 _ rfl
    obtain ⟨v, hv, hq⟩ := hv 1 _ rfl
    obtain ⟨rfl, hz⟩ := one_str hr
    obtain ⟨rfl, hy⟩ := one_int hq
    rw [vals2 hs hu hv]
    exact h w hG hz
end Go.VL


namespace Go.VN
open Go.RowKit Go.VL
set_option linter.unusedVariables false
def wrR (r : Nat) : Bool := (decide (97 ≤ r) && decide (r ≤ 122)) || (decide (48 ≤ r) && decide (r ≤ 57)) || decide (r = 95) || decide (r = 94) || decide (r = 39)
theorem wrR_high {r : Nat} (h : 128 ≤ r) : wrR r = false := by
  unfold wrR
  simp only [Bool.or_eq_false_iff, Bool.and_eq_false_iff, decide_eq_false_iff_not]
  omega
theorem wrR_wrt (c : UInt8) : wrR c.toNat = wrt c := by
  have e : ∀ d : UInt8, (c = d) = (c.toNat = d.toNat) := fun d => propext ⟨fun h => by rw [h], fun h => UInt8.toNat_inj.1 h⟩
  unfold wrR wrt sml dgt
  simp only [e]
  rfl
theorem idx_wrt (s : List UInt8) : ∀ (f pos : Nat), s.length ≤ f + pos → decide (0 ≤ Lib.idxFuncFrom (fun r => !wrR r) true ⟨s.toArray⟩ f pos) = !((s.drop pos).all wrt)
  | 0, pos, h => by
    rw [List.drop_eq_nil_of_le (by omega)]
    rfl
  | f + 1, pos, h => by
    have hsz : (⟨s.toArray⟩ : ByteArray).size = s.length := by simp [ByteArray.size]
    unfold Lib.idxFuncFrom
    by_cases hp : pos < s.length
    · rw [if_pos (by rw [hsz]; exact hp)]
      have hget : ((⟨s.toArray⟩ : ByteArray)[pos]'(by rw [hsz]; exact hp)) = s[pos] := rfl
      rw [List.drop_eq_getElem_cons hp, List.all_cons]
      by_cases hc : s[pos].toNat < 128
      · rw [decode_ascii ⟨s.toArray⟩ pos (by rw [hsz]; exact hp) (by rw [hget]; exact hc), hget]
        simp only [wrR_wrt]
        cases hw : wrt s[pos] with
        | true =>
          rw [if_neg (by simp), idx_wrt s f (pos + 1) (by omega)]
          rfl
        | false =>
          rw [if_pos (by simp), decide_eq_true (by omega)]
          rfl
      · have hh := decode_high ⟨s.toArray⟩ pos (by rw [hsz]; exact hp) (by rw [hget]; omega)
        rw [if_pos (by rw [wrR_high hh.1]; rfl), decide_eq_true (by omega)]
        have : wrt s[pos] = false := by rw [← wrR_wrt]; exact wrR_high (by omega)
        rw [this]; rfl
    · rw [if_neg (by rw [hsz]; exact hp), List.drop_eq_nil_of_le (by omega)]
      rfl
theorem idx_wrt0 (s : List UInt8) : decide (0 ≤ Lib.idxFunc (fun r => !wrR r) true ⟨s.toArray⟩) = !(s.all wrt) := by
  have hsz : (⟨s.toArray⟩ : ByteArray).size = s.length := by simp [ByteArray.size]
  unfold Lib.idxFunc
  rw [hsz, idx_wrt s s.length 0 (by omega), List.drop_zero]
theorem lexLt_irr : ∀ a : List UInt8, lexLt a a = false
  | [] => rfl
  | a :: x => by
    rw [lexLt, lexLt_irr x]
    have : decide (a < a) = false := decide_eq_false (fun h => absurd (UInt8.lt_iff_toNat_lt.1 h) (Nat.lt_irrefl _))
    rw [this]; simp
def cmpSd (a b : Snd) : Int :=
  if sgn a.1 b.1 ≠ 0 then sgn a.1 b.1 else if sgn a.2.1 b.2.1 ≠ 0 then sgn a.2.1 b.2.1
  else if lexLt a.2.2 b.2.2 = true then -1 else if (!(lexLt a.2.2 b.2.2 || decide (a.2.2 = b.2.2))) = true then 1 else 0
theorem sgn_zero {x y : Int} : sgn x y = 0 ↔ x = y := by
  unfold sgn
  constructor
  · intro h
    split at h
    · cases h
    · split at h
      · cases h
      · omega
  · intro h; subst h; simp
theorem cmpSd_zero (a b : Snd) : cmpSd a b = 0 ↔ a = b := by
  unfold cmpSd
  constructor
  · intro h
    split at h
    · rename_i h1; exact absurd h h1
    rename_i h1
    split at h
    · rename_i h2; exact absurd h h2
    rename_i h2
    split at h
    · cases h
    rename_i h3
    split at h
    · cases h
    rename_i h4
    have e1 := sgn_zero.1 (Decidable.not_not.1 h1)
    have e2 := sgn_zero.1 (Decidable.not_not.1 h2)
    have e3 : a.2.2 = b.2.2 := by
      have h3' : lexLt a.2.2 b.2.2 = false := by simpa using h3
      rw [h3'] at h4
      simpa using h4
    exact Prod.ext e1 (Prod.ext e2 e3)
  · intro h
    subst h
    rw [sgn_zero.2 rfl, sgn_zero.2 rfl, lexLt_irr]
    simp
theorem eq_take {α : Type} {a b : List α} {i : Nat} (h1 : i < a.length) (h2 : i < b.length) (h : a.take i = b.take i) (hi : a[i] = b[i]) : a.take (i + 1) = b.take (i + 1) := by
  rw [List.take_succ_eq_append_getElem h1, List.take_succ_eq_append_getElem h2, h, hi]
end Go.VN


namespace Go.VN
open Go.RowKit Go.VL
set_option linter.unusedVariables false
theorem firstE_bad : ∀ {l : List Snd} {i : Nat} {x : Snd}, l[i]? = some x → (∀ y ∈ l.take i, sdE y = 0) → sdE x ≠ 0 → firstE l = sdE x
  | y :: l, 0, x, h, _, hx => by
    obtain rfl : y = x := by simpa using h
    rw [firstE, if_pos hx]
  | y :: l, i + 1, x, h, ho, hx => by
    rw [firstE, if_neg (by simpa using ho y (by simp))]
    exact firstE_bad (by simpa using h) (fun z hz => ho z (by simp [hz])) hx
  | [], i, x, h, _, _ => by simp at h
theorem firstE_ok : ∀ {l : List Snd}, (∀ y ∈ l, sdE y = 0) → firstE l = 0
  | [], _ => rfl
  | y :: l, h => by
    rw [firstE, if_neg (by simpa using h y (by simp))]
    exact firstE_ok fun z hz => h z (by simp [hz])
theorem take_succ_all {α : Type} {l : List α} {i : Nat} {x : α} {P : α → Prop} (hx : l[i]? = some x) (ho : ∀ y ∈ l.take i, P y) (h : P x) : ∀ y ∈ l.take (i + 1), P y := by
  obtain ⟨hi, rfl⟩ := List.getElem?_eq_some_iff.1 hx
  intro y hy
  rw [List.take_succ_eq_append_getElem hi] at hy
  rcases List.mem_append.1 hy with hy | hy
  · exact ho y hy
  · rw [List.mem_singleton.1 hy]; exact h
theorem getD_some {α : Type} [Inhabited α] {l : List α} {i : Nat} (h : i < l.length) : l[i]? = some (l.getD i default) := by
  rw [List.getD_eq_getElem?_getD, List.getElem?_eq_getElem h]; rfl
theorem wdsL_bd : ∀ (s : List UInt8) (i : Nat) (out : List Spn), (∀ p ∈ out, 0 ≤ p.1 ∧ p.1 ≤ i ∧ 0 ≤ p.2 ∧ p.2 ≤ i) → ∀ p ∈ wdsL i s out, 0 ≤ p.1 ∧ p.1 ≤ i + s.length ∧ 0 ≤ p.2 ∧ p.2 ≤ i + s.length
  | [], i, out, h => by simpa [wdsL] using h
  | c :: s, i, out, h => by
    have ih := wdsL_bd s (i + 1) (wStep i c out) (fun p hp => by
      unfold wStep at hp
      split at hp
      · have := h p hp; omega
      · split at hp
        · rename_i h2
          rcases List.mem_or_eq_of_mem_set hp with hp | hp
          · have := h p hp; omega
          · have hm : out.getD (out.length - 1) (0, 0) ∈ out := by
              rw [List.getD_eq_getElem?_getD, List.getElem?_eq_getElem (by omega)]
              exact List.getElem_mem _
            have := h _ hm
            rw [hp]; simp only; omega
        · rcases List.mem_append.1 hp with hp | hp
          · have := h p hp; omega
          · rw [List.mem_singleton.1 hp]; simp only; omega)
    intro p hp
    rw [wdsL] at hp
    have := ih p hp
    rw [List.length_cons]
    omega
theorem wdsF_bd (s : List UInt8) : ∀ p ∈ (wdsF s).1, 0 ≤ p.1 ∧ p.1 ≤ 120 ∧ 0 ≤ p.2 ∧ p.2 ≤ 120 := by
  intro p hp
  unfold wdsF at hp
  by_cases h : tvE s ≠ 0
  · rw [if_pos h] at hp; simp at hp
  · rw [if_neg h] at hp
    have hl : s.length ≤ 120 := by
      unfold tvE at h
      by_cases h1 : 120 < s.length
      · rw [if_pos h1] at h; simp at h
      · omega
    have := wdsL_bd s 0 [] (by simp) p hp
    omega
def eqA (c : UInt8) (l : List UInt8) : Bool := l.contains c
end Go.VN
namespace Go.VN
open Go.RowKit Go.VL
theorem eqPs_sd (a b : Snd) : eqPs (eSd a) (eSd b) = decide (a = b) := by
  obtain ⟨a1, a2, a3⟩ := a
  obtain ⟨b1, b2, b3⟩ := b
  simp only [eSd, eqPs, eqP, Bool.and_true]
  rw [Bool.eq_iff_iff]
  simp
theorem ixP_no {α : Type} {p : α → Bool} : ∀ {l : List α}, (∀ y ∈ l, p y = false) → ixP p l = -1
  | [], _ => rfl
  | x :: l, h => by
    have ih := ixP_no (p := p) (l := l) fun y hy => h y (by simp [hy])
    rw [ixP, if_neg (by rw [h x (by simp)]; decide), ih]; rfl
theorem ixP_at {α : Type} {p : α → Bool} : ∀ {l : List α} {i : Nat} {x : α}, l[i]? = some x → (∀ y ∈ l.take i, p y = false) → p x = true → ixP p l = i
  | y :: l, 0, x, h, _, hx => by
    obtain rfl : y = x := by simpa using h
    rw [ixP, if_pos hx]; rfl
  | y :: l, i + 1, x, h, ho, hx => by
    have ih := ixP_at (p := p) (l := l) (i := i) (by simpa using h) (fun z hz => ho z (by simp [hz])) hx
    rw [ixP, if_neg (by rw [ho y (by simp)]; decide), ih, if_neg (by omega)]; push_cast; rfl
  | [], i, x, h, _, _ => by simp at h
theorem ixP_any {α : Type} (p : α → Bool) : ∀ l : List α, decide (0 ≤ ixP p l) = l.any p
  | [] => rfl
  | x :: l => by
    have ih := ixP_any p l
    rw [ixP, List.any_cons]
    cases h : p x with
    | true => simp
    | false =>
      rw [if_neg (by decide), Bool.false_or, ← ih]
      by_cases h1 : ixP p l < 0
      · rw [if_pos h1, decide_eq_false (by omega), decide_eq_false (by omega)]
      · rw [if_neg h1, decide_eq_true (by omega), decide_eq_true (by omega)]
theorem sameSg_comm (a b : Sgn) : sameSg a b = sameSg b a := by
  unfold sameSg
  rw [Bool.eq_iff_iff]
  simp only [Bool.and_eq_true, decide_eq_true_eq]
  constructor <;> (rintro ⟨⟨h1, h2⟩, h3⟩; exact ⟨⟨h1.symm, h2.symm⟩, h3.symm⟩)
theorem chkL_step {l : List Sgn} {i : Nat} {x : Sgn} (h : l[i]? = some x) : chkL (l.take i) (l.drop i) = if sgE x ≠ 0 then ((i : Int), sgE x) else if ((l.take i).any fun t => sameSg t x) = true then ((i : Int), 5) else chkL (l.take (i + 1)) (l.drop (i + 1)) := by
  obtain ⟨hi, rfl⟩ := List.getElem?_eq_some_iff.1 h
  rw [List.drop_eq_getElem_cons hi, chkL, List.take_succ_eq_append_getElem hi, List.length_take, Nat.min_eq_left (by omega)]
end Go.VN
namespace Go.VL
open Go.RowKit
theorem VA.clo1 {h : Hp} {id off : Nat} {f : FuncId} {cs : List AC} {ps : List PV} {ids : List Nat} {z : Bool} (hl : look h id = some (.mx cs, z)) (hc : VL h cs ps ids) : VA h (.one (.clo f [.ptr id off])) (.one (.clo f [.pt ps off])) (id :: ids ++ []) := ⟨fun K hK => by
  simp only [viewA, viewCaps, viewCap, viewC, hl]
  exact hc.h _ hK⟩
end Go.VL


namespace Go.VS.YtlmioegjeocaaaaGreatDoor
open Go Go.VL Go.VN Go.RowKit Go.Proofs
set_option maxRecDepth 100000
set_option linter.unusedVariables false
set_option linter.unusedSimpArgs false

theorem s_IndexS1 (s : List UInt8) (c : UInt8) (hl : s.length ≤ 140737488355328) : Spc X 95 [.one (.str s), .one (.str [c])] (.one (.int .i64 (Lib.indexByte s c))) :=
  spc_str2 (ent_of2 (P := X.P) Tryz.func95 (by kernel_rfl) (by kernel_rfl)) fun w hG h0 _ => (Tryz.strings_Index_one ⟨s.toArray⟩ c w).mono fun e w' ⟨he, hw⟩ => ⟨_, he, .int _ _ ((Go.VL.range_i64 _).2 (by
    have h1 := Lib.indexByte_ge s c
    have h2 : Lib.indexByte s c ≤ 140737488355328 := by
      by_cases hm : c ∈ s
      · rw [((indexByte_cut c s).1 hm).1]
        have := cut_len c hm
        omega
      · rw [((indexByte_cut c s).2 hm).1]; omega
    constructor <;> omega)), by rw [hw]; exact Below.refl _ _⟩
theorem s_Count1 (s : List UInt8) (c : UInt8) (hl : s.length ≤ 140737488355328) : Spc X 94 [.one (.str s), .one (.str [c])] (.one (.int .i64 (s.count c : Nat))) :=
  spc_str2 (ent_of2 (P := X.P) Tryz.func94 (by kernel_rfl) (by kernel_rfl)) fun w hG h0 _ => (Tryz.strings_Count_one ⟨s.toArray⟩ c w).mono fun e w' ⟨he, hw⟩ => ⟨_, he, .int _ _ ((Go.VL.range_i64 _).2 (by
    have h2 := List.count_le_length (a := c) (l := s)
    constructor <;> omega)), by rw [hw]; exact Below.refl _ _⟩
theorem s_genSplit (k : Bool) (c : UInt8) (s : List UInt8) (hl : s.length ≤ 1000000) : Spc X 70 [.one (.str s), .one (.str [c]), .one (.int .i64 (k.toNat : Int)), .one (.int .i64 (-1))] (.one (slc eS (spK k c s))) := by
  refine Spc.start Tryz.func70 rfl (h := fun hs R hR => ?_)
  unfold Tryz.f70
  simp only [entryE, PA.av]
  have k1 := s_Count1 s c (by omega)
  have hc := List.count_le_length (a := c) (l := s)
  have hk : (k.toNat : Int) ≤ 1 := by cases k <;> simp
  refine walk (hQ := ?_)
  refine R_call k1 (hK := ?_)
  refine walk (hQ := ?_)
  have hspl : ∀ m, m = s.count c → (spK k c s).length = m + 1 := fun m hm => by rw [spK_len k c s.length s (Nat.le_refl _), hm]
  generalize hn : s.count c = n at *
  have e1 : min ((n : Int) + 1) ((s.length : Int) + 1) = ((n + 1 : Nat) : Int) := by omega
  rw [e1]
  simp only [Int.toNat_natCast]
  refine Lp.intro2 (fun (acc : List (List UInt8)) (cur : List UInt8) => ⟨[(0, vS cur), (1, vS [c]), (2, vI (k.toNat : Int)), (3, vI n), (9, .one (.own 0 1 (n + 1))), (10, vI acc.length)], [(0, (.pu 9 ((acc ++ List.replicate (n + 1 - acc.length) []).flatMap eS), false))], 1⟩) (fun acc cur => acc ++ spK k c cur = spK k c s ∧ acc.length + cur.count c = n ∧ cur.length ≤ s.length) (fun acc cur => cur.length) [] s ⟨by simp, by simp [hn], Nat.le_refl _⟩ (h0 := le_auto) (hr := fun acc cur K ⟨hi, ho, hcl⟩ hK => ?_)
  have hal : (acc ++ List.replicate (n + 1 - acc.length) ([] : List UInt8)).length = n + 1 := by rw [List.length_append, List.length_replicate]; omega
  have hsf := fun x => set_fill acc x ([] : List UInt8) (n + 1 - acc.length) (by omega)
  refine walk (hQ := ?_)
  refine W_if (ht := fun h1 => ?_) (hf := fun h1 => ?_)
  · have hm : c ∈ cur := List.count_pos_iff.1 (by omega)
    have h2 := spK_hit k c hm
    have h3 := count_hit c hm
    have h4 := cut_len c hm
    have k2 := s_IndexS1 cur c (by omega)
    rw [((indexByte_cut c cur).1 hm).1] at k2
    have hkk : k.toNat ≤ 1 := by cases k <;> simp
    generalize (cutL c cur).length = q at *
    refine walk (hQ := ?_)
    refine R_call k2 (hK := ?_)
    refine walk (hQ := ?_)
    rw [hsf, show n + 1 - acc.length - 1 = n + 1 - (acc.length + 1) by omega]
    rw [h2, show acc ++ cur.take (q + k.toNat) :: spK k c (cur.drop (q + 1)) = (acc ++ [cur.take (q + k.toNat)]) ++ spK k c (cur.drop (q + 1)) by rw [List.append_assoc]; rfl] at hi
    refine hK _ (acc ++ [cur.take (q + k.toNat)]) (cur.drop (q + 1)) ⟨hi, by rw [List.length_append, List.length_singleton]; omega, by rw [List.length_drop]; omega⟩ (by rw [List.length_drop]; omega) ?_
    rw [List.length_append, List.length_singleton]
    exact le_auto
  · have hno : cur.count c = 0 := by omega
    have hm : c ∉ cur := List.count_eq_zero.1 hno
    rw [spK_miss k c hm] at hi
    obtain rfl : acc.length = n := by omega
    have hl2 := hspl _ rfl
    refine walk (hQ := ?_)
    rw [hsf, show acc.length + 1 - acc.length - 1 = 0 by omega, List.replicate_zero, List.append_nil, hi]
    exact hR _ (ret1 (hp := rfl))
theorem s_Split (c : UInt8) (s : List UInt8) (hl : s.length ≤ 1000000) : Spc X 42 [.one (.str s), .one (.str [c])] (.one (slc eS (splitL c s))) := by
  refine Spc.start Tryz.func42 rfl (h := fun hs R hR => ?_)
  unfold Tryz.f42
  simp only [entryE, PA.av]
  have k1 := s_genSplit false c s hl
  refine walk (hQ := ?_)
  refine R_call k1 (hK := ?_)
  refine walk (hQ := ?_)
  exact hR _ (ret1 (hp := rfl))
theorem s_IndexStr (l : List (List UInt8)) (w : List UInt8) : Spc X 133 [.one (slc eS l), .one (.str w)] (.one (.int .i64 (ixP (fun y => decide (w = y)) l))) := by
  refine Spc.start Tryz.func133 rfl (h := fun hs R hR => ?_)
  unfold Tryz.f133
  simp only [entryE, PA.av]
  have la := (sane_slc hs.1).1
  refine walk (hQ := ?_)
  refine Lp.intro (fun (i : Nat) => ⟨[(0, vP (slc eS l)), (1, vS w), (7, vI l.length), (8, vI i)], [], 0⟩) (fun i => i ≤ l.length ∧ ∀ y ∈ l.take i, decide (w = y) = false) (fun i => l.length - i) 0 ⟨Nat.zero_le _, by simp⟩ (h0 := le_auto) (hr := fun i K ⟨hi, ho⟩ hK => ?_)
  refine walk (hQ := ?_)
  refine W_if (ht := fun h1 => ?_) (hf := fun h1 => ?_)
  · have hil : i < l.length := by omega
    have e0 := getD_some hil
    have hst := take_succ_all (P := fun y => decide (w = y) = false) e0 ho
    have hbd := ixP_at (p := fun y => decide (w = y)) e0 ho
    refine walk (hQ := ?_)
    generalize l.getD i default = x at *
    refine W_if (ht := fun h2 => ?_) (hf := fun h2 => ?_)
    · rw [hbd (decide_eq_true h2)] at hR
      refine walk (hQ := ?_)
      exact hR _ (ret1 (hp := rfl))
    · refine walk (hQ := ?_)
      exact hK _ (i + 1) ⟨by omega, hst (decide_eq_false h2)⟩ (by omega) le_auto
  · obtain rfl : i = l.length := by omega
    rw [List.take_length] at ho
    rw [ixP_no ho] at hR
    refine walk (hQ := ?_)
    exact hR _ (ret1 (hp := rfl))
end Go.VS.YtlmioegjeocaaaaGreatDoor


namespace Go.VN
open Go.RowKit Go.VL
set_option linter.unusedVariables false
theorem sdE_nuc0 {k : Int} {s : List UInt8} (h : nuc (k, 0, s) = true) : sdE (k, 0, s) ≠ 0 := by
  unfold nuc at h
  simp only [Bool.or_eq_true, decide_eq_true_eq] at h
  unfold sdE qty
  rcases h with rfl | rfl <;> simp
theorem rdG_rdS (w : List UInt8) : toO (rdG w) = rdS w := by
  unfold rdS rdG rdF toO
  by_cases h0 : 47 ∈ w ∧ w.drop ((cutL 47 w).length + 1) ≠ []
  · rw [if_pos h0, if_pos h0]
    simp only
    generalize w.drop ((cutL 47 w).length + 1) = t
    generalize hk : Lib.indexByte ltrs (t.getD 0 0) + 1 = k
    cases hn : nuc (k, 0, cutL 47 w) with
    | true =>
      have h2 := sdE_nuc0 hn
      by_cases h1 : t.length = 2 ∧ 49 ≤ (t.getD 1 0).toNat ∧ (t.getD 1 0).toNat ≤ 51
      · simp only [h1, and_self, if_true]
      · simp only [h1, and_false, if_false, if_true, decide_eq_false h2, Bool.and_false, Bool.false_eq_true]
    | false =>
      by_cases h1 : t.length = 1
      · simp only [h1, Bool.false_eq_true, false_and, if_false, if_true, decide_true, Bool.true_and]
      · simp only [h1, Bool.false_eq_true, false_and, if_false, decide_false, Bool.false_and]
  · rw [if_neg h0, if_neg h0]
theorem joinS_join : ∀ l : List (List UInt8), joinS l = Lib.join l [32]
  | [] => rfl
  | [x] => by simp [joinS, Lib.join, List.intercalate]
  | x :: y :: l => by
    have ih := joinS_join (y :: l)
    rw [joinS, ih]
    simp [Lib.join, List.intercalate, List.intersperse]
end Go.VN
namespace Go.VN
open Go.RowKit Go.VL
theorem spK_mem (k : Bool) (c : UInt8) : ∀ (s : List UInt8), ∀ w ∈ spK k c s, w.length ≤ s.length
  | [], w, h => by
    simp only [spK, List.mem_singleton] at h
    rw [h]; simp
  | x :: s, w, h => by
    have ih := spK_mem k c s
    rw [spK] at h
    by_cases hx : x = c
    · rw [if_pos hx] at h
      rcases List.mem_cons.1 h with h | h
      · rw [h]; cases k <;> simp
      · have := ih w h; rw [List.length_cons]; omega
    · rw [if_neg hx] at h
      cases he : spK k c s with
      | nil =>
        rw [he] at h
        simp only [consH, List.mem_singleton] at h
        rw [h]; simp
      | cons y l =>
        rw [he] at h ih
        simp only [consH] at h
        rcases List.mem_cons.1 h with h | h
        · have := ih y (by simp)
          rw [h, List.length_cons, List.length_cons]; omega
        · have := ih w (by simp [h])
          rw [List.length_cons]; omega
theorem rdAll_app : ∀ (a b : List (List UInt8)), rdAll (a ++ b) = (rdAll a).bind fun x => (rdAll b).map fun y => x ++ y
  | [], b => by simp [rdAll]
  | w :: a, b => by
    have ih := rdAll_app a b
    rw [List.cons_append, rdAll, rdAll, ih]
    cases rdS w with
    | none => rfl
    | some x => cases rdAll a with
      | none => rfl
      | some y => cases rdAll b <;> rfl
theorem rdAll_len : ∀ {l : List (List UInt8)} {out : List Snd}, rdAll l = some out → out.length = l.length
  | [], out, h => by simp only [rdAll, Option.some.injEq] at h; rw [← h]; rfl
  | w :: l, out, h => by
    rw [rdAll] at h
    cases hw : rdS w with
    | none => rw [hw] at h; cases h
    | some x =>
      cases hl : rdAll l with
      | none => rw [hw, hl] at h; cases h
      | some y =>
        rw [hw, hl] at h
        have := rdAll_len hl
        cases h
        simp [this]
theorem rdAll_next {l : List (List UInt8)} {i : Nat} {w : List UInt8} {out : List Snd} (h : l[i]? = some w) (ho : rdAll (l.take i) = some out) : (rdS w = none → rdAll l = none) ∧ ∀ x, rdS w = some x → rdAll (l.take (i + 1)) = some (out ++ [x]) := by
  obtain ⟨hi, rfl⟩ := List.getElem?_eq_some_iff.1 h
  constructor
  · intro hn
    have e : l = l.take i ++ l[i] :: l.drop (i + 1) := by
      rw [← List.drop_eq_getElem_cons hi, List.take_append_drop]
    rw [e, rdAll_app, ho]
    simp only [Option.bind_some]
    rw [rdAll, hn]; rfl
  · intro x hx
    rw [List.take_succ_eq_append_getElem hi, rdAll_app, ho]
    simp only [Option.bind_some, rdAll, hx]; rfl
end Go.VN
namespace Go.VN
open Go.RowKit Go.VL
theorem spK_ne (k : Bool) (c : UInt8) (s : List UInt8) : 0 < (spK k c s).length := by rw [spK_len k c s.length s (Nat.le_refl _)]; omega
def lastAdd (l : List (List UInt8)) (x : UInt8) : List (List UInt8) := l.set (l.length - 1) (l.getD (l.length - 1) [] ++ [x])
theorem lastAdd_cons {a : List UInt8} {l : List (List UInt8)} (h : 0 < l.length) (x : UInt8) : lastAdd (a :: l) x = a :: lastAdd l x := by
  match l, h with
  | b :: l, _ => unfold lastAdd; simp
theorem splitL_snoc (c x : UInt8) : ∀ p : List UInt8, splitL c (p ++ [x]) = if x = c then splitL c p ++ [[]] else lastAdd (splitL c p) x
  | [] => by
    by_cases h : x = c <;> simp [splitL, spK, h, consH, lastAdd]
  | y :: p => by
    have ih := splitL_snoc c x p
    have hp : 0 < (splitL c p).length := spK_ne false c p
    rw [List.cons_append]
    unfold splitL at ih hp ⊢
    rw [spK, spK, ih]
    by_cases hy : y = c
    · rw [if_pos hy, if_pos hy]
      by_cases hx : x = c
      · rw [if_pos hx, if_pos hx]; rfl
      · rw [if_neg hx, if_neg hx, lastAdd_cons hp]
    · rw [if_neg hy, if_neg hy]
      match hl : spK false c p, hp with
      | a :: l, _ =>
        by_cases hx : x = c
        · rw [if_pos hx, if_pos hx]; rfl
        · rw [if_neg hx, if_neg hx]
          cases l with
          | nil => simp [consH, lastAdd]
          | cons b l =>
            rw [lastAdd_cons (a := a) (l := b :: l) (by simp)]
            show (y :: a) :: lastAdd (b :: l) x = lastAdd ((y :: a) :: (b :: l)) x
            rw [lastAdd_cons (a := y :: a) (l := b :: l) (by simp)]
end Go.VN
namespace Go.VN
open Go.RowKit Go.VL
abbrev lts : List UInt8 := [32, 118, 100, 109, 108, 110, 115, 120, 103, 98]
theorem lts_tab : ∀ n < 256, ∀ k < 10, 1 ≤ k → (lts.getD k 0 = UInt8.ofNat n ↔ Lib.indexByte ltrs (UInt8.ofNat n) + 1 = (k : Int)) := by decide +kernel
theorem lts_at (c : UInt8) {k : Nat} (h1 : 1 ≤ k) (h2 : k < 10) : lts.getD k 0 = c ↔ Lib.indexByte ltrs c + 1 = (k : Int) := by
  have := lts_tab c.toNat c.toNat_lt k h2 h1
  rwa [UInt8.ofNat_toNat] at this
theorem ltrs_le (c : UInt8) : Lib.indexByte ltrs c ≤ 8 := by
  by_cases hm : c ∈ ltrs
  · rw [((indexByte_cut c ltrs).1 hm).1]
    have := cut_len c hm
    simp only [List.length_cons, List.length_nil] at this
    omega
  · rw [((indexByte_cut c ltrs).2 hm).1]; omega
end Go.VN
namespace Go.VN
open Go.RowKit Go.VL
theorem joinS_len {B : Nat} : ∀ {l : List (List UInt8)}, (∀ w ∈ l, w.length ≤ B) → (joinS l).length ≤ l.length * (B + 1)
  | [], _ => by simp [joinS]
  | [x], h => by have := h x (by simp); simp [joinS]; omega
  | x :: y :: l, h => by
    have ih := joinS_len (l := y :: l) fun w hw => h w (by simp [hw])
    have := h x (by simp)
    rw [joinS, List.length_append, List.length_append, List.length_singleton, List.length_cons, Nat.succ_mul]
    omega
def oO {α : Type} (z : α) (o : Option α) : α × Bool := match o with | none => (z, false) | some x => (x, true)
end Go.VN


namespace Go.VS.YtlmioegjeocaaaaGreatDoor
open Go Go.VL Go.VN Go.RowKit Go.Proofs
set_option maxRecDepth 100000
set_option linter.unusedVariables false
set_option linter.unusedSimpArgs false

theorem s_Join (l : List (List UInt8)) (sep : List UInt8) (h0 : 0 < l.length) (hN : l.length ≤ 1000000) (hl : (Lib.join l sep).length ≤ 140737488355328) : Spc X 43 [.one (slc eS l), .one (.str sep)] (.one (.str (Lib.join l sep))) :=
  spc_calls (ent_of2 (P := X.P) Tryz.func43 (by kernel_rfl) (by kernel_rfl)) fun ok w vals hG hlt hs hv => by
    obtain ⟨u, hu, hr⟩ := hv 0 _ rfl
    obtain ⟨v, hv, hq⟩ := hv 1 _ rfl
    obtain ⟨rfl, hz⟩ := one_str hq
    obtain ⟨A, cap, rfl, h1, _, h3, hpos⟩ := one_sl hr
    obtain ⟨_, sz, b, o, rfl, hl', hok, hc⟩ := hpos h0
    rw [vals2 hs hu hv]
    have em : (l.map fun s => (⟨s.toArray⟩ : ByteArray)).map (fun x => x.data.toList) = l := by
      rw [List.map_map]; exact List.map_id'' (fun _ => rfl) l
    have el : (l.map fun s => (⟨s.toArray⟩ : ByteArray)).length = l.length := List.length_map ..
    have hj := Tryz.strings_Join b o cap (l.map fun s => ⟨s.toArray⟩) ⟨sep.toArray⟩ w (fun j x hj => by
      rw [List.getElem?_map] at hj
      cases hx : l[j]? with
      | none => rw [hx] at hj; cases hj
      | some y =>
        rw [hx] at hj
        cases hj
        have hp : (l.flatMap eS)[j]? = some (.str y) := by
          have := flat_get (e := eS) (S := 1) (fun _ => rfl) hx (show (eS y)[0]? = some (.str y) from rfl)
          simpa using this
        obtain ⟨v, hv, hrv⟩ := hc j _ hp
        cases hrv
        exact hv) (hlt _ hok) (by omega) (by omega) (by rw [em]; exact hl)
    rw [em, el] at hj
    refine hj.mono fun e w' ⟨he, hb⟩ => ?_
    exact ⟨_, he, .str _ (Nat.le_trans hl (by decide)), hb⟩
theorem s_Index1 (s : List UInt8) (c : UInt8) (hl : s.length ≤ 140737488355328) : Spc X 116 [.one (.str s), .one (.str [c])] (.one (.int .i64 (Lib.indexByte s c))) :=
  spc_str2 (ent_of2 (P := X.P) Tryz.func116 (by kernel_rfl) (by kernel_rfl)) fun w hG h0 _ => (Tryz.stringslite_Index_one ⟨s.toArray⟩ c w).mono fun e w' ⟨he, hw⟩ => ⟨_, he, .int _ _ ((Go.VL.range_i64 _).2 (by
    have h1 := Lib.indexByte_ge s c
    have h2 : Lib.indexByte s c ≤ 140737488355328 := by
      by_cases hm : c ∈ s
      · rw [((indexByte_cut c s).1 hm).1]
        have := cut_len c hm
        omega
      · rw [((indexByte_cut c s).2 hm).1]; omega
    constructor <;> omega)), by rw [hw]; exact Below.refl _ _⟩
theorem s_cut1 (s : List UInt8) (c : UInt8) (hl : s.length ≤ 140737488355328) : Spc X 88 [.one (.str s), .one (.str [c])] (.tup [(false, [.str (cutL c s)]), (false, [.str (if c ∈ s then s.drop ((cutL c s).length + 1) else [])]), (false, [.bool (decide (c ∈ s))])]) := by
  refine Spc.start Tryz.func88 rfl (h := fun hs R hR => ?_)
  unfold Tryz.f88
  simp only [entryE, PA.av]
  refine walk (hQ := ?_)
  refine R_call (s_Index1 s c hl) (hK := ?_)
  by_cases hm : c ∈ s
  · obtain ⟨h3, h4⟩ := (indexByte_cut c s).1 hm
    have h6 := cut_len c hm
    have h7 : s.take (cutL c s).length = cutL c s := (congrArg (List.take (cutL c s).length) h4).trans (List.take_left' rfl)
    rw [h3]
    simp only [hm, decide_true, if_true] at hR
    refine walk (hQ := ?_)
    rw [h7]
    exact hR _ (ret3 (hp := rfl))
  · obtain ⟨h3, h4⟩ := (indexByte_cut c s).2 hm
    rw [h3]
    simp only [hm, decide_false, if_false] at hR
    rw [h4] at hR
    refine walk (hQ := ?_)
    exact hR _ (ret3 (hp := rfl))
theorem s_Cut1 (s : List UInt8) (c : UInt8) (hl : s.length ≤ 140737488355328) : Spc X 63 [.one (.str s), .one (.str [c])] (.tup [(false, [.str (cutL c s)]), (false, [.str (if c ∈ s then s.drop ((cutL c s).length + 1) else [])]), (false, [.bool (decide (c ∈ s))])]) := by
  refine Spc.start Tryz.func63 rfl (h := fun hs R hR => ?_)
  unfold Tryz.f63
  simp only [entryE, PA.av]
  refine walk (hQ := ?_)
  refine R_call (s_cut1 s c hl) (hK := ?_)
  refine walk (hQ := ?_)
  exact hR _ (ret3 (hp := rfl))
end Go.VS.YtlmioegjeocaaaaGreatDoor


namespace Go.VL
set_option linter.unusedVariables false
open Go.VN
structure Tal where
  ks : List (List UInt8)
  cs : List Int
deriving DecidableEq
instance : Inhabited Tal := ⟨⟨[], []⟩⟩
def eTl (t : Tal) : List PV := [slc eS t.ks, slc eI t.cs]
def badB (c : UInt8) : Bool := decide (c.toNat < 33) || decide (126 < c.toNat)
def keyE (s : List UInt8) : Int := if 60 < s.length then 3 else if s.any badB = true then 2 else if (splitL 47 s).contains [] = true then 7 else 0
def entE (t : Tal) (i : Nat) : Int :=
  if keyE (t.ks.getD i []) ≠ 0 then keyE (t.ks.getD i []) else if 0 < i ∧ lexLt (t.ks.getD (i - 1) []) (t.ks.getD i []) = false then 18 else if t.cs.getD i 0 < 1 ∨ 1000000 < t.cs.getD i 0 then 6 else 0
theorem entE_eq (t : Tal) (i : Nat) : entE t i = if keyE (t.ks.getD i []) ≠ 0 then keyE (t.ks.getD i []) else if 0 < i ∧ lexLt (t.ks.getD (i - 1) []) (t.ks.getD i []) = false then 18 else if t.cs.getD i 0 < 1 ∨ 1000000 < t.cs.getD i 0 then 6 else 0 := rfl
/-- The first error from an index on, and its index. -/
def scanE (f : Nat → Int) (i : Nat) : Nat → Int × Nat
  | 0 => (0, i)
  | m + 1 => if f i ≠ 0 then (f i, i) else scanE f (i + 1) m
def validE (t : Tal) : Int := if t.ks.length ≠ t.cs.length then 1 else if 2000 < t.ks.length then 3 else (scanE (entE t) 0 t.ks.length).1
theorem scanE_skip {f : Nat → Int} : ∀ (j i m : Nat), (∀ k, k < j → f (i + k) = 0) → j ≤ m → scanE f i m = scanE f (i + j) (m - j)
  | 0, i, m, h, _ => rfl
  | j + 1, i, 0, h, hm => by omega
  | j + 1, i, m + 1, h, hm => by
    have h0 : f i = 0 := h 0 (by omega)
    rw [scanE, if_neg (by rw [h0]; simp), scanE_skip j (i + 1) m (fun k hk => by rw [show i + 1 + k = i + (k + 1) by omega]; exact h (k + 1) (by omega)) (by omega)]
    congr 1 <;> omega
theorem scanE_hit {f : Nat → Int} {i n : Nat} (h : ∀ k, k < i → f k = 0) (hi : i < n) (he : f i ≠ 0) : scanE f 0 n = (f i, i) := by
  rw [scanE_skip i 0 n (fun k hk => by rw [Nat.zero_add]; exact h k hk) (by omega), Nat.zero_add, show n - i = (n - i - 1) + 1 by omega, scanE, if_pos he]
theorem scanE_end {f : Nat → Int} {n : Nat} (h : ∀ k, k < n → f k = 0) : scanE f 0 n = (0, n) := by
  rw [scanE_skip n 0 n (fun k hk => by rw [Nat.zero_add]; exact h k hk) (Nat.le_refl _), Nat.zero_add, Nat.sub_self, scanE]
theorem scanE_cases (f : Nat → Int) (n : Nat) : ((scanE f 0 n).1 = 0 ∧ ∀ k, k < n → f k = 0) ∨ ∃ i, i < n ∧ f i ≠ 0 ∧ (∀ k, k < i → f k = 0) ∧ scanE f 0 n = (f i, i) := by
  by_cases h : ∀ k, k < n → f k = 0
  · exact .inl ⟨by rw [scanE_end h], h⟩
  · have : ∃ i, i < n ∧ f i ≠ 0 := Classical.byContradiction fun hc => h fun k hk => Classical.byContradiction fun hk2 => hc ⟨k, hk, hk2⟩
    obtain ⟨i, hi⟩ := this
    have key : ∀ m, ∀ i, i ≤ m → i < n ∧ f i ≠ 0 → ∃ i, i < n ∧ f i ≠ 0 ∧ ∀ k, k < i → f k = 0 := fun m => by
      induction m with
      | zero => intro i hm hi; exact ⟨i, hi.1, hi.2, fun k hk => by omega⟩
      | succ m ih =>
        intro i hm hi
        by_cases h2 : ∀ k, k < i → f k = 0
        · exact ⟨i, hi.1, hi.2, h2⟩
        · have : ∃ k, k < i ∧ f k ≠ 0 := Classical.byContradiction fun hc => h2 fun k hk => Classical.byContradiction fun hk2 => hc ⟨k, hk, hk2⟩
          obtain ⟨k, hk, hk2⟩ := this
          exact ih k (by omega) ⟨by omega, hk2⟩
    obtain ⟨i, h1, h2, h3⟩ := key i i (Nat.le_refl _) hi
    exact .inr ⟨i, h1, h2, h3, scanE_hit h3 h1 h2⟩
/-- Whether a part is empty; b: a part begins here. -/
def hasE : Bool → List UInt8 → Bool
  | b, [] => b
  | b, x :: s => (b && decide (x = 47)) || hasE (decide (x = 47)) s
theorem hasE_split : ∀ s : List UInt8, ∃ h t, splitL 47 s = h :: t ∧ ∀ b, hasE b s = ((b && decide (h = [])) || t.contains [])
  | [] => ⟨[], [], rfl, fun b => by simp [hasE]⟩
  | x :: s => by
    obtain ⟨h, t, e, ih⟩ := hasE_split s
    unfold splitL at e
    simp only [splitL, spK, hasE]
    by_cases hx : x = 47
    · rw [if_pos hx, if_neg (by simp), e]
      refine ⟨[], h :: t, rfl, fun b => ?_⟩
      rw [ih, decide_eq_true hx]
      have : (h :: t).contains [] = (decide (h = []) || t.contains []) := by
        rw [List.contains_cons]
        congr 1
        by_cases hh : h = []
        · subst hh; rfl
        · cases h with
          | nil => exact absurd rfl hh
          | cons a l => rfl
      rw [this]
      simp
    · rw [if_neg hx, e]
      refine ⟨x :: h, t, rfl, fun b => ?_⟩
      rw [ih, decide_eq_false hx]
      simp
theorem hasE_key (s : List UInt8) : hasE true s = (splitL 47 s).contains [] := by
  obtain ⟨h, t, e, ih⟩ := hasE_split s
  rw [e, ih, List.contains_cons]
  congr 1
  by_cases hh : h = []
  · subst hh; rfl
  · cases h with
    | nil => exact absurd rfl hh
    | cons a l => rfl
/-- Whether a part begins at an index. -/
def begB (s : List UInt8) (i : Nat) : Bool := decide (i = 0) || decide (s.getD (i - 1) 0 = 47)
theorem hasE_at {s : List UInt8} {i : Nat} (hi : i < s.length) : hasE (begB s i) (s.drop i) = ((begB s i && decide (s.getD i 0 = 47)) || hasE (begB s (i + 1)) (s.drop (i + 1))) := by
  have e : s.drop i = s.getD i 0 :: s.drop (i + 1) := by rw [List.drop_eq_getElem_cons hi, List.getD_eq_getElem?_getD, List.getElem?_eq_getElem hi]; rfl
  rw [e, hasE]
  rfl
theorem lex_le : ∀ a b : List UInt8, (lexLt a b || decide (a = b)) = !lexLt b a
  | [], [] => rfl
  | [], _ :: _ => rfl
  | _ :: _, [] => rfl
  | a :: x, b :: y => by
    have ih := lex_le x y
    simp only [lexLt]
    by_cases h : a = b
    · subst h
      have h1 : ¬ a < a := by simp
      rw [decide_eq_false h1]
      simp only [Bool.false_or, decide_true, Bool.true_and, List.cons.injEq, true_and]
      exact ih
    · have h2 : ¬ b = a := fun e => h e.symm
      rw [decide_eq_false h, decide_eq_false h2]
      simp only [Bool.false_and, Bool.or_false, List.cons.injEq, h, false_and, decide_false]
      by_cases hl : a < b
      · have : ¬ b < a := by
          rw [UInt8.lt_iff_toNat_lt] at *; omega
        rw [decide_eq_true hl, decide_eq_false this]; rfl
      · have : b < a := by
          rw [UInt8.lt_iff_toNat_lt] at *
          have : a.toNat ≠ b.toNat := fun e => h (UInt8.toNat_inj.1 e)
          omega
        rw [decide_eq_false hl, decide_eq_true this]; rfl
def chkR (t : Tal) : Int × Int := if t.ks.length ≠ t.cs.length then (-1, 1) else if 2000 < t.ks.length then (-1, 3) else if (scanE (entE t) 0 t.ks.length).1 = 0 then (-1, 0) else ((scanE (entE t) 0 t.ks.length).2, (scanE (entE t) 0 t.ks.length).1)
theorem chkR_valid (t : Tal) : (chkR t).2 = validE t := by
  unfold chkR validE
  split
  · rfl
  · split
    · rfl
    · split
      · rename_i h; rw [h]
      · rfl
end Go.VL


namespace Go.VS.YtlmioegjeocaaaaGreatDoor
open Go Go.VL Go.VN Go.RowKit Go.Proofs
set_option maxRecDepth 100000
set_option linter.unusedVariables false
set_option linter.unusedSimpArgs false

theorem s_ContStr (l : List (List UInt8)) (w : List UInt8) : Spc X 108 [.one (slc eS l), .one (.str w)] (.one (.bool (l.contains w))) := by
  refine Spc.start Tryz.func108 rfl (h := fun hs R hR => ?_)
  unfold Tryz.f108
  simp only [entryE, PA.av]
  have k1 := s_IndexStr l w
  refine walk (hQ := ?_)
  refine R_call k1 (hK := ?_)
  refine walk (hQ := ?_)
  refine hR _ (ret1 (hp := ?_))
  rw [ixP_any, List.contains_eq_any_beq]
  congr 3
  congr 1
  funext y
  by_cases h : w = y <;> simp [h]
theorem t_wrong (s : List UInt8) : Spc X 76 [.one (.str s)] (.one (.int .i64 (keyE s))) := by
  refine Spc.start Tryz.func76 rfl (h := fun hs R hR => ?_)
  unfold Tryz.f76
  simp only [entryE, PA.av]
  unfold keyE at hR
  have ls := sane_str hs.1
  refine walk (hQ := ?_)
  refine W_if (ht := fun h1 => ?_) (hf := fun h1 => ?_)
  · rw [if_pos (by omega)] at hR
    refine walk (hQ := ?_)
    exact hR _ (ret1 (hp := rfl))
  rw [if_neg (by omega)] at hR
  refine walk (hQ := ?_)
  refine Lp.intro (fun (i : Nat) => ⟨[(0, vS s), (9, vP (slc eU s)), (10, vI s.length), (11, vI i)], [], 0⟩) (fun i => i ≤ s.length ∧ ∀ y ∈ s.take i, badB y = false) (fun i => s.length - i) 0 ⟨Nat.zero_le _, by simp⟩ (h0 := le_auto) (hr := fun i K ⟨hi, ho⟩ hK => ?_)
  refine walk (hQ := ?_)
  refine W_if (ht := fun h2 => ?_) (hf := fun h2 => ?_)
  · have hil : i < s.length := by omega
    have e0 := getD_some hil
    have hst := take_succ_all (P := fun y => badB y = false) e0 ho
    have hm : s.getD i default ∈ s := List.mem_of_getElem? e0
    refine walk (hQ := ?_)
    generalize s.getD i default = c at *
    refine R_g_if (h1 := fun h3 => ?_) (h2 := fun h3 => ?_)
    · simp only [Bool.false_eq_true, if_false] at h3
      refine walk (hQ := ?_)
      refine W_if (ht := fun h4 => ?_) (hf := fun h4 => ?_)
      · rw [if_pos (List.any_eq_true.2 ⟨c, hm, by simp only [badB, Bool.or_eq_true, decide_eq_true_eq]; omega⟩)] at hR
        refine walk (hQ := ?_)
        exact hR _ (ret1 (hp := rfl))
      · refine walk (hQ := ?_)
        exact hK _ (i + 1) ⟨by omega, hst (by simp only [badB, Bool.or_eq_false_iff, decide_eq_false_iff_not]; omega)⟩ (by omega) le_auto
    · simp only [Bool.false_eq_true, if_false] at h3
      rw [if_pos (List.any_eq_true.2 ⟨c, hm, by simp only [badB, Bool.or_eq_true, decide_eq_true_eq]; omega⟩)] at hR
      refine walk (hQ := ?_)
      exact hR _ (ret1 (hp := rfl))
  · obtain rfl : i = s.length := by omega
    rw [List.take_length] at ho
    rw [if_neg (by rw [List.any_eq_true]; rintro ⟨y, hy, hb⟩; rw [ho y hy] at hb; cases hb)] at hR
    refine walk (hQ := ?_)
    refine R_call (s_Split 47 s (by omega)) (hK := ?_)
    refine walk (hQ := ?_)
    refine R_call (s_ContStr (splitL 47 s) []) (hK := ?_)
    refine walk (hQ := ?_)
    refine W_ifb (ht := fun h3 => ?_) (hf := fun h3 => ?_)
    · rw [if_pos h3] at hR
      refine walk (hQ := ?_)
      exact hR _ (ret1 (hp := rfl))
    · rw [if_neg (by rw [h3]; simp)] at hR
      refine walk (hQ := ?_)
      exact hR _ (ret1 (hp := rfl))
theorem t_entry (t : Tal) (i : Nat) (hi : i < t.ks.length) (hl : t.ks.length = t.cs.length) : Spc X 50 [.agg (eTl t), .one (.int .i64 (i : Int))] (.one (.int .i64 (entE t i))) := by
  refine Spc.start Tryz.func50 rfl (h := fun hs R hR => ?_)
  unfold Tryz.f50
  simp only [entryE, PA.av]
  have lk := (sane_slc (hs.1 (slc eS t.ks) (by simp [eTl]))).1
  obtain ⟨ks, cs⟩ := t
  simp only [eTl, entE] at *
  have hc : i < cs.length := by omega
  have k1 := t_wrong (ks.getD i [])
  generalize keyE (ks.getD i []) = E at *
  refine walk (hQ := ?_)
  refine R_call k1 (hK := ?_)
  refine walk (hQ := ?_)
  refine W_if (ht := fun h1 => ?_) (hf := fun h1 => ?_)
  · rw [if_pos (by omega)] at hR
    refine walk (hQ := ?_)
    exact hR _ (ret1 (hp := rfl))
  rw [if_neg (by omega)] at hR
  refine walk (hQ := ?_)
  refine R_g_if (h1 := fun h2 => ?_) (h2 := fun h2 => ?_)
  · simp only [if_true] at h2
    have e1 : ((i : Int) - 1).toNat = i - 1 := by omega
    refine walk (hQ := ?_)
    rw [e1]
    generalize lexLt (ks.getD (i - 1) []) (ks.getD i []) = B at *
    refine W_ifb (ht := fun h3 => ?_) (hf := fun h3 => ?_)
    · rw [if_pos ⟨by omega, by simpa using h3⟩] at hR
      refine walk (hQ := ?_)
      exact hR _ (ret1 (hp := rfl))
    · rw [if_neg (by rintro ⟨_, h⟩; rw [h] at h3; cases h3)] at hR
      refine walk (hQ := ?_)
      refine R_g_if (h1 := fun h4 => ?_) (h2 := fun h4 => ?_)
      · simp only [Bool.false_eq_true, if_false] at h4
        refine walk (hQ := ?_)
        refine W_if (ht := fun h5 => ?_) (hf := fun h5 => ?_)
        · rw [if_pos (by omega)] at hR
          refine walk (hQ := ?_)
          exact hR _ (ret1 (hp := rfl))
        · rw [if_neg (by omega)] at hR
          refine walk (hQ := ?_)
          exact hR _ (ret1 (hp := rfl))
      · simp only [Bool.false_eq_true, if_false] at h4
        rw [if_pos (by omega)] at hR
        refine walk (hQ := ?_)
        exact hR _ (ret1 (hp := rfl))
  · simp only [if_true] at h2
    rw [if_neg (by rintro ⟨h, _⟩; omega)] at hR
    refine walk (hQ := ?_)
    refine R_g_if (h1 := fun h4 => ?_) (h2 := fun h4 => ?_)
    · simp only [Bool.false_eq_true, if_false] at h4
      refine walk (hQ := ?_)
      refine W_if (ht := fun h5 => ?_) (hf := fun h5 => ?_)
      · rw [if_pos (by omega)] at hR
        refine walk (hQ := ?_)
        exact hR _ (ret1 (hp := rfl))
      · rw [if_neg (by omega)] at hR
        refine walk (hQ := ?_)
        exact hR _ (ret1 (hp := rfl))
    · simp only [Bool.false_eq_true, if_false] at h4
      rw [if_pos (by omega)] at hR
      refine walk (hQ := ?_)
      exact hR _ (ret1 (hp := rfl))
theorem t_Valid (t : Tal) : Spc X 17 [.agg (eTl t)] (.one (.int .i64 (validE t))) := by
  refine Spc.start Tryz.func17 rfl (h := fun hs R hR => ?_)
  unfold Tryz.f17
  simp only [entryE, PA.av]
  have lk := (sane_slc (hs.1 (slc eS t.ks) (by simp [eTl]))).1
  have lc := (sane_slc (hs.1 (slc eI t.cs) (by simp [eTl]))).1
  have kE := fun i h1 h2 => t_entry t i h1 h2
  unfold validE at hR
  generalize hEn : entE t = En at *
  obtain ⟨ks, cs⟩ := t
  simp only [eTl] at *
  refine walk (hQ := ?_)
  refine W_if (ht := fun h1 => ?_) (hf := fun h1 => ?_)
  · rw [if_pos (by omega)] at hR
    refine walk (hQ := ?_)
    exact hR _ (ret1 (hp := rfl))
  have hll : ks.length = cs.length := by omega
  rw [if_neg (by omega)] at hR
  refine walk (hQ := ?_)
  refine W_if (ht := fun h2 => ?_) (hf := fun h2 => ?_)
  · rw [if_pos (by omega)] at hR
    refine walk (hQ := ?_)
    exact hR _ (ret1 (hp := rfl))
  rw [if_neg (by omega)] at hR
  refine walk (hQ := ?_)
  refine Lp.intro (fun (i : Nat) => ⟨[(1, .one (.ptr 0 0)), (18, vI ks.length), (19, vI i)], [(0, (.mx [.pv (slc eS ks), .pv (slc eI cs)], false))], 1⟩) (fun i => i ≤ ks.length ∧ ∀ k, k < i → En k = 0) (fun i => ks.length - i) 0 ⟨Nat.zero_le _, fun k hk => by omega⟩ (h0 := le_auto) (hr := fun i K ⟨hi, ho⟩ hK => ?_)
  refine walk (hQ := ?_)
  refine W_if (ht := fun h3 => ?_) (hf := fun h3 => ?_)
  · have hil : i < ks.length := by omega
    have k1 := kE i hil hll
    refine walk (hQ := ?_)
    refine R_call k1 (hK := ?_)
    refine walk (hQ := ?_)
    refine W_if (ht := fun h4 => ?_) (hf := fun h4 => ?_)
    · rw [scanE_hit ho hil (by omega)] at hR
      refine walk (hQ := ?_)
      exact hR _ (ret1 (hp := rfl))
    · refine walk (hQ := ?_)
      exact hK _ (i + 1) ⟨by omega, fun k hk => by
        rcases Nat.lt_or_ge k i with h | h
        · exact ho k h
        · obtain rfl : k = i := by omega
          omega⟩ (by omega) le_auto
  · obtain rfl : i = ks.length := by omega
    rw [scanE_end ho] at hR
    refine walk (hQ := ?_)
    exact hR _ (ret1 (hp := rfl))
end Go.VS.YtlmioegjeocaaaaGreatDoor


namespace Go.VS.YtlmioegjeocaaaaGreatDoor
open Go Go.VL Go.VN Go.RowKit Go.Proofs
set_option maxRecDepth 100000
set_option linter.unusedVariables false
set_option linter.unusedSimpArgs false

theorem r_Key (s : List UInt8) : Spc X 78 [.one (.str s)] (.one (.int .i64 (keyE s))) := by
  refine Spc.start Tryz.func78 rfl (h := fun hs R hR => ?_)
  unfold Tryz.f78
  simp only [entryE, PA.av]
  unfold keyE at hR
  have ls := sane_str hs.1
  rw [← hasE_key] at hR
  refine walk (hQ := ?_)
  refine W_if (ht := fun h1 => ?_) (hf := fun h1 => ?_)
  · rw [if_pos (by omega)] at hR
    refine walk (hQ := ?_)
    exact hR _ (ret1 (hp := rfl))
  rw [if_neg (by omega)] at hR
  refine walk (hQ := ?_)
  refine Lp.intro (fun (i : Nat) => ⟨[(0, vS s), (3, vI i)], [], 0⟩) (fun i => i ≤ s.length ∧ ∀ y ∈ s.take i, badB y = false) (fun i => s.length - i) 0 ⟨Nat.zero_le _, by simp⟩ (h0 := le_auto) (hr := fun i K ⟨hi, ho⟩ hK => ?_)
  refine walk (hQ := ?_)
  refine W_if (ht := fun h2 => ?_) (hf := fun h2 => ?_)
  · have hil : i < s.length := by omega
    have e0 : s[i]? = some (s.getD i 0) := by rw [List.getD_eq_getElem?_getD, List.getElem?_eq_getElem hil]; rfl
    have hst := take_succ_all (P := fun y => badB y = false) e0 ho
    have hm : s.getD i 0 ∈ s := List.mem_of_getElem? e0
    refine walk (hQ := ?_)
    generalize hc : s.getD i 0 = c at *
    refine R_g_if (h1 := fun h3 => ?_) (h2 := fun h3 => ?_)
    · simp only [Bool.false_eq_true, if_false] at h3
      refine walk (hQ := ?_)
      rw [hc]
      refine W_if (ht := fun h4 => ?_) (hf := fun h4 => ?_)
      · rw [if_pos (List.any_eq_true.2 ⟨c, hm, by simp only [badB, Bool.or_eq_true, decide_eq_true_eq]; omega⟩)] at hR
        refine walk (hQ := ?_)
        exact hR _ (ret1 (hp := rfl))
      · refine walk (hQ := ?_)
        exact hK _ (i + 1) ⟨by omega, hst (by simp only [badB, Bool.or_eq_false_iff, decide_eq_false_iff_not]; omega)⟩ (by omega) le_auto
    · simp only [Bool.false_eq_true, if_false] at h3
      rw [if_pos (List.any_eq_true.2 ⟨c, hm, by simp only [badB, Bool.or_eq_true, decide_eq_true_eq]; omega⟩)] at hR
      refine walk (hQ := ?_)
      exact hR _ (ret1 (hp := rfl))
  · obtain rfl : i = s.length := by omega
    rw [List.take_length] at ho
    rw [if_neg (by rw [List.any_eq_true]; rintro ⟨y, hy, hb⟩; rw [ho y hy] at hb; cases hb)] at hR
    refine walk (hQ := ?_)
    refine Lp.intro (fun (i : Nat) => ⟨[(0, vS s), (4, vI i)], [], 0⟩) (fun i => i ≤ s.length + 1 ∧ (i ≤ s.length → hasE true s = hasE (begB s i) (s.drop i)) ∧ (i = s.length + 1 → hasE true s = false)) (fun i => s.length + 1 - i) 0 ⟨Nat.zero_le _, fun _ => by simp [begB], fun h => by omega⟩ (h0 := le_auto) (hr := fun i K ⟨hi, ho2, ho3⟩ hK => ?_)
    have hU : ∀ c : UInt8, ((c.toNat : Int) = 47) ↔ c = 47 := fun c => ⟨fun h => UInt8.toNat_inj.1 (by show c.toNat = 47; omega), fun h => by rw [h]; rfl⟩
    refine walk (hQ := ?_)
    refine W_if (ht := fun h2 => ?_) (hf := fun h2 => ?_)
    · refine walk (hQ := ?_)
      refine R_g_if (h1 := fun h3 => ?_) (h2 := fun h3 => ?_)
      · simp only [Bool.false_eq_true, if_false] at h3
        have e1 : ((i : Int) - 1).toNat = i - 1 := by omega
        have hbq : begB s i = decide (s.getD (i - 1) 0 = 47) := by unfold begB; rw [decide_eq_false (by omega : ¬ i = 0), Bool.false_or]
        refine walk (hQ := ?_)
        rw [e1]
        refine R_g_if (h1 := fun h4 => ?_) (h2 := fun h4 => ?_)
        · simp only [if_true] at h4
          have hbeg : begB s i = true := by rw [hbq]; exact decide_eq_true ((hU _).1 h4)
          refine walk (hQ := ?_)
          refine R_g_if (h1 := fun h5 => ?_) (h2 := fun h5 => ?_)
          · simp only [Bool.false_eq_true, if_false] at h5
            have hil : i < s.length := by omega
            have hat := hasE_at hil
            refine walk (hQ := ?_)
            refine W_if (ht := fun h6 => ?_) (hf := fun h6 => ?_)
            · rw [ho2 (by omega), hat, hbeg, decide_eq_true ((hU _).1 h6)] at hR
              simp only [Bool.and_self, Bool.true_or, if_true] at hR
              refine walk (hQ := ?_)
              exact hR _ (ret1 (hp := rfl))
            · rw [hbeg, decide_eq_false (fun h => h6 ((hU _).2 h)), Bool.and_false, Bool.false_or] at hat
              refine walk (hQ := ?_)
              exact hK _ (i + 1) ⟨by omega, fun _ => (ho2 (by omega)).trans (by rw [hbeg]; exact hat), fun h => by omega⟩ (by omega) le_auto
          · simp only [Bool.false_eq_true, if_false] at h5
            obtain rfl : i = s.length := by omega
            rw [ho2 (by omega), hbeg, List.drop_length, hasE] at hR
            simp only [if_true] at hR
            refine walk (hQ := ?_)
            exact hR _ (ret1 (hp := rfl))
        · simp only [if_true] at h4
          have hbeg : begB s i = false := by rw [hbq]; exact decide_eq_false (fun h => h4 ((hU _).2 h))
          refine walk (hQ := ?_)
          refine hK _ (i + 1) ⟨by omega, fun h => ?_, fun h => ?_⟩ (by omega) le_auto
          · rw [ho2 (by omega), hasE_at (by omega), hbeg, Bool.false_and, Bool.false_or]
          · rw [ho2 (by omega), hbeg, show i = s.length by omega, List.drop_length, hasE]
      · simp only [Bool.false_eq_true, if_false] at h3
        have hbeg : begB s i = true := by unfold begB; rw [decide_eq_true (by omega : i = 0), Bool.true_or]
        refine walk (hQ := ?_)
        refine R_g_if (h1 := fun h5 => ?_) (h2 := fun h5 => ?_)
        · simp only [Bool.false_eq_true, if_false] at h5
          have hil : i < s.length := by omega
          have hat := hasE_at hil
          refine walk (hQ := ?_)
          refine W_if (ht := fun h6 => ?_) (hf := fun h6 => ?_)
          · rw [ho2 (by omega), hat, hbeg, decide_eq_true ((hU _).1 h6)] at hR
            simp only [Bool.and_self, Bool.true_or, if_true] at hR
            refine walk (hQ := ?_)
            exact hR _ (ret1 (hp := rfl))
          · rw [hbeg, decide_eq_false (fun h => h6 ((hU _).2 h)), Bool.and_false, Bool.false_or] at hat
            refine walk (hQ := ?_)
            exact hK _ (i + 1) ⟨by omega, fun _ => (ho2 (by omega)).trans (by rw [hbeg]; exact hat), fun h => by omega⟩ (by omega) le_auto
        · simp only [Bool.false_eq_true, if_false] at h5
          obtain rfl : i = s.length := by omega
          rw [ho2 (by omega), hbeg, List.drop_length, hasE] at hR
          simp only [if_true] at hR
          refine walk (hQ := ?_)
          exact hR _ (ret1 (hp := rfl))
    · rw [ho3 (by omega)] at hR
      refine walk (hQ := ?_)
      exact hR _ (ret1 (hp := rfl))
theorem r_check (t : Tal) : Spc X 52 [.agg (eTl t)] (.tup [(false, [.int .i64 (chkR t).1]), (false, [.int .i64 (chkR t).2])]) := by
  refine Spc.start Tryz.func52 rfl (h := fun hs R hR => ?_)
  unfold Tryz.f52
  simp only [entryE, PA.av]
  have lk := (sane_slc (hs.1 (slc eS t.ks) (by simp [eTl]))).1
  have lc := (sane_slc (hs.1 (slc eI t.cs) (by simp [eTl]))).1
  unfold chkR at hR
  have hent := entE_eq t
  generalize hEn : entE t = En at *
  obtain ⟨ks, cs⟩ := t
  simp only [eTl] at *
  refine walk (hQ := ?_)
  refine W_if (ht := fun h1 => ?_) (hf := fun h1 => ?_)
  · rw [if_pos (by omega)] at hR
    refine walk (hQ := ?_)
    exact hR _ (ret2 (hp := rfl))
  have hll : ks.length = cs.length := by omega
  rw [if_neg (by omega)] at hR
  refine walk (hQ := ?_)
  refine W_if (ht := fun h2 => ?_) (hf := fun h2 => ?_)
  · rw [if_pos (by omega)] at hR
    refine walk (hQ := ?_)
    exact hR _ (ret2 (hp := rfl))
  rw [if_neg (by omega)] at hR
  refine walk (hQ := ?_)
  refine Lp.intro (fun (i : Nat) => ⟨[(1, .one (.ptr 0 0)), (4, vI i)], [(0, (.mx [.pv (slc eS ks), .pv (slc eI cs)], false))], 1⟩) (fun i => i ≤ ks.length ∧ ∀ k, k < i → En k = 0) (fun i => ks.length - i) 0 ⟨Nat.zero_le _, fun k hk => by omega⟩ (h0 := le_auto) (hr := fun i K ⟨hi, ho⟩ hK => ?_)
  refine walk (hQ := ?_)
  refine W_if (ht := fun h3 => ?_) (hf := fun h3 => ?_)
  · have hil : i < ks.length := by omega
    have hic : i < cs.length := by omega
    have hit : En i ≠ 0 → ∀ σ, retP X Tryz.f52.results.toList (.tup [(false, [.int .i64 (i : Int)]), (false, [.int .i64 (En i)])]) σ → R σ := fun hne => by
      rw [scanE_hit ho hil hne, if_neg hne] at hR
      exact hR
    have nxt : En i = 0 → ∀ k, k < i + 1 → En k = 0 := fun h0 k hk => by
      rcases Nat.lt_or_ge k i with h | h
      · exact ho k h
      · obtain rfl : k = i := by omega
        exact h0
    clear hR
    have hEi := hent i
    have k1 := r_Key (ks.getD i [])
    generalize keyE (ks.getD i []) = E at *
    refine walk (hQ := ?_)
    refine R_call k1 (hK := ?_)
    refine walk (hQ := ?_)
    refine W_if (ht := fun h4 => ?_) (hf := fun h4 => ?_)
    · rw [if_pos (by omega)] at hEi
      have hR := hit (by omega)
      rw [hEi] at hR
      refine walk (hQ := ?_)
      exact hR _ (ret2 (hp := rfl))
    rw [if_neg (by omega)] at hEi
    refine walk (hQ := ?_)
    refine R_g_if (h1 := fun h2 => ?_) (h2 := fun h2 => ?_)
    · simp only [if_true] at h2
      have e1 : ((i : Int) - 1).toNat = i - 1 := by omega
      refine walk (hQ := ?_)
      rw [e1, lex_le]
      generalize lexLt (ks.getD (i - 1) []) (ks.getD i []) = B at *
      refine W_ifb (ht := fun h3 => ?_) (hf := fun h3 => ?_)
      · rw [if_pos ⟨by omega, by simpa using h3⟩] at hEi
        have hR := hit (by rw [hEi]; decide)
        rw [hEi] at hR
        refine walk (hQ := ?_)
        exact hR _ (ret2 (hp := rfl))
      · rw [if_neg (by rintro ⟨_, h⟩; rw [h] at h3; cases h3)] at hEi
        refine walk (hQ := ?_)
        refine R_g_if (h1 := fun h6 => ?_) (h2 := fun h6 => ?_)
        · simp only [Bool.false_eq_true, if_false] at h6
          refine walk (hQ := ?_)
          refine W_if (ht := fun h7 => ?_) (hf := fun h7 => ?_)
          · rw [if_pos (by omega)] at hEi
            have hR := hit (by rw [hEi]; decide)
            rw [hEi] at hR
            refine walk (hQ := ?_)
            exact hR _ (ret2 (hp := rfl))
          · rw [if_neg (by omega)] at hEi
            refine walk (hQ := ?_)
            exact hK _ (i + 1) ⟨by omega, nxt hEi⟩ (by omega) le_auto
        · simp only [Bool.false_eq_true, if_false] at h6
          rw [if_pos (by omega)] at hEi
          have hR := hit (by rw [hEi]; decide)
          rw [hEi] at hR
          refine walk (hQ := ?_)
          exact hR _ (ret2 (hp := rfl))
    · simp only [if_true] at h2
      rw [if_neg (by rintro ⟨h, _⟩; omega)] at hEi
      refine walk (hQ := ?_)
      refine R_g_if (h1 := fun h6 => ?_) (h2 := fun h6 => ?_)
      · simp only [Bool.false_eq_true, if_false] at h6
        refine walk (hQ := ?_)
        refine W_if (ht := fun h7 => ?_) (hf := fun h7 => ?_)
        · rw [if_pos (by omega)] at hEi
          have hR := hit (by rw [hEi]; decide)
          rw [hEi] at hR
          refine walk (hQ := ?_)
          exact hR _ (ret2 (hp := rfl))
        · rw [if_neg (by omega)] at hEi
          refine walk (hQ := ?_)
          exact hK _ (i + 1) ⟨by omega, nxt hEi⟩ (by omega) le_auto
      · simp only [Bool.false_eq_true, if_false] at h6
        rw [if_pos (by omega)] at hEi
        have hR := hit (by rw [hEi]; decide)
        rw [hEi] at hR
        refine walk (hQ := ?_)
        exact hR _ (ret2 (hp := rfl))
  · obtain rfl : i = ks.length := by omega
    rw [scanE_end ho] at hR
    simp only [if_true] at hR
    refine walk (hQ := ?_)
    exact hR _ (ret2 (hp := rfl))
theorem r_Valid (t : Tal) : Spc X 19 [.agg (eTl t)] (.one (.int .i64 (validE t))) := by
  refine Spc.start Tryz.func19 rfl (h := fun hs R hR => ?_)
  unfold Tryz.f19
  simp only [entryE, PA.av]
  have k1 := r_check t
  rw [← chkR_valid] at hR
  generalize chkR t = C at *
  obtain ⟨ks, cs⟩ := t
  simp only [eTl] at *
  refine walk (hQ := ?_)
  refine R_call k1 (hK := ?_)
  refine walk (hQ := ?_)
  exact hR _ (ret1 (hp := rfl))
end Go.VS.YtlmioegjeocaaaaGreatDoor


namespace Go.VS.YtlmioegjeocaaaaGreatDoor
open Go Go.VL Go.VN Go.RowKit Go.Proofs
set_option maxRecDepth 100000
set_option linter.unusedVariables false
set_option linter.unusedSimpArgs false

theorem s_isNaNs (x : List UInt8) : Spc X 111 [.one (.str x)] (.one (.bool false)) := by
  refine Spc.start Tryz.func111 rfl (h := fun hs R hR => ?_)
  unfold Tryz.f111
  simp only [entryE, PA.av]
  rw [show false = decide (¬ x = x) by simp] at hR
  refine walk (hQ := ?_)
  exact hR _ (ret1 (hp := rfl))
theorem s_isNaNs2 (x : List UInt8) : Spc X 82 [.one (.str x)] (.one (.bool false)) := by
  refine Spc.start Tryz.func82 rfl (h := fun hs R hR => ?_)
  unfold Tryz.f82
  simp only [entryE, PA.av]
  rw [show false = decide (¬ x = x) by simp] at hR
  refine walk (hQ := ?_)
  exact hR _ (ret1 (hp := rfl))
theorem s_LessS (x y : List UInt8) : Spc X 81 [.one (.str x), .one (.str y)] (.one (.bool (lexLt x y))) := by
  refine Spc.start Tryz.func81 rfl (h := fun hs R hR => ?_)
  unfold Tryz.f81
  simp only [entryE, PA.av]
  refine walk (hQ := ?_)
  refine R_call (s_isNaNs x) (hK := ?_)
  refine walk (hQ := ?_)
  exact hR _ (ret1 (hp := rfl))
theorem s_Bs (l : List (List UInt8)) (t : List UInt8) (p : Nat) (hp : p ≤ l.length) (hlo : ∀ i, i < p → lexLt (l.getD i []) t = true) (hhi : ∀ i, p ≤ i → i < l.length → lexLt (l.getD i []) t = false) (hll : l.length ≤ 1000000000000) :
    Spc X 57 [.one (slc eS l), .one (.str t)] (.tup [(false, [.int .i64 p]), (false, [.bool (decide (p < l.length ∧ l.getD p [] = t))])]) := by
  refine Spc.start Tryz.func57 rfl (h := fun hs R hR => ?_)
  unfold Tryz.f57
  simp only [entryE, PA.av]
  refine walk (hQ := ?_)
  refine Lp.intro2 (fun (i j : Nat) => ⟨[(0, vP (slc eS l)), (1, vS t), (6, vI l.length), (7, vI i), (8, vI j)], [], 0⟩) (fun i j => i ≤ p ∧ p ≤ j ∧ j ≤ l.length) (fun i j => j - i) 0 l.length ⟨Nat.zero_le _, hp, Nat.le_refl _⟩ (h0 := le_auto) (hr := fun i j K ⟨hi, hj, hjl⟩ hK => ?_)
  refine walk (hQ := ?_)
  refine W_if (ht := fun h1 => ?_) (hf := fun h1 => ?_)
  · refine walk (hQ := ?_)
    refine R_bin (v := vP (.int .u64 (((i + j) / 2 : Nat) : Int))) (.tmp rfl) (.ci rfl) (fun K hK => ⟨by decide, by
      rw [show ((i : Int) + (j : Int)).fdiv (2 ^ (min (Int.toNat 1) IntKind.u64.bits)) = (((i + j) / 2 : Nat) : Int) by
        rw [show (2 : Int) ^ (min (Int.toNat 1) IntKind.u64.bits) = 2 from rfl, Int.fdiv_eq_ediv_of_nonneg _ (by decide)]; omega]; exact hK⟩) .seq ?_
    have hm1 : i ≤ (i + j) / 2 := by omega
    have hm2 : (i + j) / 2 < j := by omega
    generalize (i + j) / 2 = m at *
    have k1 := s_LessS (l.getD m []) t
    have hlo1 := hlo m
    have hhi1 := hhi m
    refine walk (hQ := ?_)
    generalize lexLt (l.getD m []) t = B at *
    refine R_call k1 (hK := ?_)
    refine walk (hQ := ?_)
    refine W_ifb (ht := fun h2 => ?_) (hf := fun h2 => ?_)
    · have : m < p := by
        rcases Nat.lt_or_ge m p with h | h
        · exact h
        · have := hhi1 h (by omega); rw [h2] at this; cases this
      refine walk (hQ := ?_)
      exact hK _ (m + 1) j ⟨by omega, hj, hjl⟩ (by omega) le_auto
    · have : p ≤ m := by
        rcases Nat.lt_or_ge m p with h | h
        · have := hlo1 h; rw [h2] at this; cases this
        · exact h
      refine walk (hQ := ?_)
      exact hK _ i m ⟨hi, this, by omega⟩ (by omega) le_auto
  · obtain rfl : i = p := by omega
    refine walk (hQ := ?_)
    refine R_g_if (h1 := fun h2 => ?_) (h2 := fun h2 => ?_)
    · simp only [if_true] at h2
      refine walk (hQ := ?_)
      refine R_g_if (h1 := fun h3 => ?_) (h2 := fun h3 => ?_)
      · simp only [Bool.false_eq_true, if_false] at h3
        rw [decide_eq_false (by rintro ⟨_, h⟩; exact h3 h)] at hR
        refine walk (hQ := ?_)
        refine R_call (s_isNaNs2 (l.getD i [])) (hK := ?_)
        refine walk (hQ := ?_)
        exact hR _ (ret2 (hp := rfl))
      · simp only [Bool.false_eq_true, if_false] at h3
        rw [decide_eq_true ⟨by omega, h3⟩] at hR
        refine walk (hQ := ?_)
        exact hR _ (ret2 (hp := rfl))
    · simp only [if_true] at h2
      rw [decide_eq_false (by rintro ⟨h, _⟩; omega)] at hR
      refine walk (hQ := ?_)
      exact hR _ (ret2 (hp := rfl))
end Go.VS.YtlmioegjeocaaaaGreatDoor

