/- Fractions as quotients of whole numbers: plain laws. No condition. -/
import Derived.Test.YtiaijoomngefnaaGreatDoorZj
namespace Go.VN
open Go.RowKit Go.VL
set_option linter.unusedVariables false
theorem sg_mk (s : Bool) (m : Nat) (n : Nat) : sg (s, digs m, digs n) = sgI s m := by unfold sg sgI; rw [nm_mk]
theorem sg_eta {f : FrN} (h : VF f) : sg f = sgI f.1 (nm f) := by unfold sg sgI; rfl
theorem sgI_abs (s : Bool) (m : Nat) : (sgI s m).natAbs = m := by unfold sgI; cases s <;> simp
/-- Equal quotients in lowest terms are the same. -/
theorem VF_eq {f g : FrN} (hf : VF f) (hg : VF g) (h : sg f * dn g = sg g * dn f) : f = g := by
  have h1 : nm f * dn g = nm g * dn f := by
    have := congrArg Int.natAbs h
    rw [Int.natAbs_mul, Int.natAbs_mul, sg_eta hf, sg_eta hg, sgI_abs, sgI_abs, Int.natAbs_natCast, Int.natAbs_natCast] at this
    exact this
  have c1 : Nat.Coprime (dn f) (nm f) := Nat.Coprime.symm hf.cop
  have c2 : Nat.Coprime (dn g) (nm g) := Nat.Coprime.symm hg.cop
  have d1 : dn f ∣ dn g := c1.dvd_of_dvd_mul_left (by rw [h1]; exact Nat.dvd_mul_left _ _)
  have d2 : dn g ∣ dn f := c2.dvd_of_dvd_mul_left (by rw [← h1]; exact Nat.dvd_mul_left _ _)
  have e1 : dn f = dn g := Nat.dvd_antisymm d1 d2
  have e2 : nm f = nm g := by
    rw [e1] at h1
    exact Nat.eq_of_mul_eq_mul_right hg.pos h1
  have e3 : f.1 = g.1 := by
    have h2 : sg f = sg g := by
      rw [e1] at h
      exact Int.eq_of_mul_eq_mul_right (by have := hg.pos; omega) h
    rw [sg_eta hf, sg_eta hg, e2] at h2
    by_cases h0 : nm g = 0
    · rw [hf.sig (by rw [e2, h0]), hg.sig h0]
    · unfold sgI at h2
      cases hs : f.1 <;> cases ht : g.1 <;> rw [hs, ht] at h2 <;> simp at h2 <;> first | rfl | omega
  rw [hf.eta, hg.eta, e1, e2, e3]
/-- A fraction's value. -/
def Vl (f : FrN) (a b : Int) : Prop := sg f * b = a * dn f
theorem Vl.self {f : FrN} : Vl f (sg f) (dn f) := rfl
theorem red_val {s : Bool} {p q : Nat} (hq : 0 < q) : Vl (redN s p q) (sgI s p) q := by
  have hg : 0 < Nat.gcd p q := Nat.gcd_pos_of_pos_right p hq
  obtain ⟨p', hp⟩ := Nat.gcd_dvd_left p q
  obtain ⟨q', hq'⟩ := Nat.gcd_dvd_right p q
  unfold Vl redN
  rw [sg_mk, dn_mk]
  generalize Nat.gcd p q = g at *
  subst hp hq'
  rw [Nat.mul_div_cancel_left _ hg, Nat.mul_div_cancel_left _ hg]
  unfold sgI
  by_cases h0 : p' = 0
  · subst h0; cases s <;> simp
  · cases s
    · simp only [Bool.false_and, Bool.false_eq_true, if_false]
      rw [Int.natCast_mul, Int.natCast_mul, ← Int.mul_assoc, Int.mul_comm (p' : Int) g]
    · simp only [h0, decide_false, Bool.not_false, Bool.and_true, if_true]
      rw [Int.natCast_mul, Int.natCast_mul, Int.neg_mul, Int.neg_mul, ← Int.mul_assoc, Int.mul_comm (p' : Int) g]
theorem addN_val {s t : Bool} {m n p q : Nat} (hn : 0 < n) (hq : 0 < q) (h : (addN s m n t p q).2 = 0) : Vl (addN s m n t p q).1 (sgI s m * q + sgI t p * n) (n * q : Nat) := by
  have hp : 0 < n * q := Nat.mul_pos hn hq
  have eA : sgI s m * q = sgI s (m * q) := by unfold sgI; cases s <;> simp [Int.neg_mul]
  have eB : sgI t p * n = sgI t (p * n) := by unfold sgI; cases t <;> simp [Int.neg_mul]
  rw [eA, eB]
  unfold addN at h ⊢
  by_cases h1 : fits (m * q) = true ∧ fits (p * n) = true ∧ fits (n * q) = true
  · rw [if_pos h1] at h ⊢
    generalize m * q = A at *
    generalize p * n = B at *
    by_cases h2 : s = t
    · subst h2
      rw [if_pos rfl] at h ⊢
      by_cases h3 : fits (A + B) = true
      · rw [if_pos h3]
        have := red_val (s := s) (p := A + B) hp
        have e : sgI s (A + B) = sgI s A + sgI s B := by unfold sgI; cases s <;> simp <;> omega
        rwa [e] at this
      · rw [if_neg h3] at h; cases h
    · rw [if_neg h2]
      by_cases h3 : A < B
      · rw [if_pos h3]
        have := red_val (s := t) (p := B - A) hp
        have e : sgI t (B - A) = sgI s A + sgI t B := by unfold sgI; cases s <;> cases t <;> simp at h2 ⊢ <;> omega
        rwa [e] at this
      · rw [if_neg h3]
        have := red_val (s := s) (p := A - B) hp
        have e : sgI s (A - B) = sgI s A + sgI t B := by unfold sgI; cases s <;> cases t <;> simp at h2 ⊢ <;> omega
        rwa [e] at this
  · rw [if_neg h1] at h; cases h
theorem mulN_val {s t : Bool} {m n p q : Nat} (hn : 0 < n) (hq : 0 < q) (h : (mulN s m n t p q).2 = 0) : Vl (mulN s m n t p q).1 (sgI s m * sgI t p) (n * q : Nat) := by
  have hp : 0 < n * q := Nat.mul_pos hn hq
  have e : sgI (s != t) (m * p) = sgI s m * sgI t p := by unfold sgI; cases s <;> cases t <;> simp [Int.neg_mul, Int.mul_neg]
  unfold mulN at h ⊢
  by_cases h1 : fits (m * p) = true ∧ fits (n * q) = true
  · rw [if_pos h1]
    have := red_val (s := s != t) (p := m * p) hp
    rwa [e] at this
  · rw [if_neg h1] at h; cases h
theorem addF_val {f g : FrN} (h : (addF f g).2 = 0) : Vl (addF f g).1 (sg f * dn g + sg g * dn f) (dn f * dn g : Nat) ∧ VF f ∧ VF g := by
  unfold addF at h ⊢
  by_cases h1 : validF f = true ∧ validF g = true
  · rw [if_pos h1] at h ⊢
    have hf := validF_VF h1.1
    have hg := validF_VF h1.2
    exact ⟨addN_val hf.pos hg.pos h, hf, hg⟩
  · rw [if_neg h1] at h; cases h
theorem mulF_val {f g : FrN} (h : (mulF f g).2 = 0) : Vl (mulF f g).1 (sg f * sg g) (dn f * dn g : Nat) ∧ VF f ∧ VF g := by
  unfold mulF at h ⊢
  by_cases h1 : validF f = true ∧ validF g = true
  · rw [if_pos h1] at h ⊢
    have hf := validF_VF h1.1
    have hg := validF_VF h1.2
    exact ⟨mulN_val hf.pos hg.pos h, hf, hg⟩
  · rw [if_neg h1] at h; cases h
theorem opp_sg {g : FrN} (h : VF g) : sg (oppF g) = - sg g ∧ dn (oppF g) = dn g ∧ VF (oppF g) := by
  have e : oppF g = (!g.1 && !decide (nm g = 0), digs (nm g), digs (dn g)) := by
    unfold oppF
    rw [h.num, digs_empty, ← h.den]
  rw [e, sg_mk, dn_mk, sg_eta h]
  refine ⟨?_, rfl, VF.mk' h.pos h.cop (fun h0 => by simp [h0]) h.ln h.ld⟩
  unfold sgI
  by_cases h0 : nm g = 0
  · simp [h0]
  · cases g.1 <;> simp [h0]
theorem subF_val {f g : FrN} (h : (subF f g).2 = 0) : Vl (subF f g).1 (sg f * dn g - sg g * dn f) (dn f * dn g : Nat) ∧ VF f ∧ VF g := by
  unfold subF at h ⊢
  by_cases h1 : validF f = true ∧ validF g = true
  · rw [if_pos h1] at h ⊢
    have hf := validF_VF h1.1
    have hg := validF_VF h1.2
    obtain ⟨o1, o2, o3⟩ := opp_sg hg
    obtain ⟨v, _, _⟩ := addF_val h
    rw [o1, o2, Int.neg_mul, ← Int.sub_eq_add_neg] at v
    exact ⟨v, hf, hg⟩
  · rw [if_neg h1] at h; cases h
theorem divF_val {f g : FrN} (h : (divF f g).2 = 0) : Vl (divF f g).1 (sg f * sgI g.1 (dn g)) (dn f * nm g : Nat) ∧ VF f ∧ VF g ∧ 0 < nm g := by
  unfold divF at h ⊢
  by_cases h1 : validF f = true ∧ validF g = true
  · rw [if_pos h1] at h ⊢
    have hf := validF_VF h1.1
    have hg := validF_VF h1.2
    by_cases h2 : g.2.1.isEmpty = true
    · rw [if_pos h2] at h; cases h
    · rw [if_neg h2] at h ⊢
      have h3 : 0 < nm g := by
        rcases Nat.eq_zero_or_pos (nm g) with h0 | h0
        · rw [hg.num, digs_empty, h0] at h2; exact absurd rfl h2
        · exact h0
      exact ⟨mulN_val hf.pos h3 h, hf, hg, h3⟩
  · rw [if_neg h1] at h; cases h
/-! ### Orders -/
theorem sgn_mul {x y c : Int} (hc : 0 < c) : sgn (x * c) (y * c) = sgn x y := by
  rcases Int.lt_trichotomy x y with h | h | h
  · rw [sgn_lt h, sgn_lt (Int.mul_lt_mul_of_pos_right h hc)]
  · rw [sgn_eq h, sgn_eq (by rw [h])]
  · rw [sgn_gt h, sgn_gt (Int.mul_lt_mul_of_pos_right h hc)]
theorem sgn_sub (x y : Int) : sgn (x - y) 0 = sgn x y := by
  rcases Int.lt_trichotomy x y with h | h | h
  · rw [sgn_lt h, sgn_lt (by omega)]
  · rw [sgn_eq h, sgn_eq (by omega)]
  · rw [sgn_gt h, sgn_gt (by omega)]
theorem cmpF_swap (x y : FrN) : cmpF y x = - cmpF x y := by
  unfold cmpF
  by_cases h : validF x = true ∧ validF y = true
  · rw [if_pos h, if_pos ⟨h.2, h.1⟩, sgn_swap]
  · rw [if_neg h, if_neg (fun e => h ⟨e.2, e.1⟩)]; rfl
theorem cmpF_abs (x y : FrN) : -1 ≤ cmpF x y ∧ cmpF x y ≤ 1 := by
  unfold cmpF
  split
  · unfold sgn; split
    · decide
    · split <;> decide
  · decide
theorem cmpF_le {x y : FrN} (hx : VF x) (hy : VF y) : ¬ cmpF x y > 0 ↔ sg x * dn y ≤ sg y * dn x := by
  unfold cmpF
  rw [if_pos ⟨hx.valid, hy.valid⟩]
  rcases Int.lt_trichotomy (sg x * dn y) (sg y * dn x) with h | h | h
  · rw [sgn_lt h]; exact ⟨fun _ => by omega, fun _ => by decide⟩
  · rw [sgn_eq h]; exact ⟨fun _ => by omega, fun _ => by decide⟩
  · rw [sgn_gt h]; exact ⟨fun k => absurd (by decide) k, fun k => by omega⟩
theorem cmpF_zero {x y : FrN} (hx : VF x) (hy : VF y) : decide (cmpF x y = 0) = decide (x = y) := by
  rw [Bool.eq_iff_iff, decide_eq_true_eq, decide_eq_true_eq]
  unfold cmpF
  rw [if_pos ⟨hx.valid, hy.valid⟩]
  constructor
  · intro h
    rcases Int.lt_trichotomy (sg x * dn y) (sg y * dn x) with k | k | k
    · rw [sgn_lt k] at h; cases h
    · exact VF_eq hx hy k
    · rw [sgn_gt k] at h; cases h
  · intro h; subst h; exact sgn_eq rfl
theorem cmpF_trans {x y z : FrN} (hx : VF x) (hy : VF y) (hz : VF z) (h1 : ¬ cmpF x y > 0) (h2 : ¬ cmpF y z > 0) : cmpF x z ≤ 0 := by
  rw [cmpF_le hx hy] at h1
  rw [cmpF_le hy hz] at h2
  have h3 : ¬ cmpF x z > 0 := by
    rw [cmpF_le hx hz]
    have a := hx.pos
    have b := hy.pos
    have c := hz.pos
    have k1 := Int.mul_le_mul_of_nonneg_right h1 (show (0 : Int) ≤ dn z by omega)
    have k2 := Int.mul_le_mul_of_nonneg_right h2 (show (0 : Int) ≤ dn x by omega)
    have k3 : sg x * dn z * dn y ≤ sg z * dn x * dn y := by
      rw [Int.mul_right_comm (sg x), Int.mul_right_comm (sg z)]
      refine Int.le_trans k1 ?_
      rw [Int.mul_right_comm (sg y)]
      exact k2
    exact Int.le_of_mul_le_mul_right k3 (by omega)
  omega
theorem zero_VF : VF (false, [], [1]) := by
  have : VF (false, digs 0, digs 1) := VF.mk' (by decide) (by decide) (fun _ => rfl) (by rw [digs_zero]; decide) (by rw [digs_pos 1 (by decide)]; rw [show (1 : Nat) / 10000 = 0 from rfl, digs_zero]; decide)
  rwa [digs_zero, digs_pos 1 (by decide), show (1 : Nat) / 10000 = 0 from rfl, digs_zero] at this
theorem cmpF_diff {x y d : FrN} (hd : VF d) (h : subF x y = (d, 0)) : cmpF d (false, [], [1]) = cmpF x y := by
  have h0 : (subF x y).2 = 0 := by rw [h]
  obtain ⟨v, hx, hy⟩ := subF_val h0
  rw [h] at v
  unfold Vl at v
  unfold cmpF
  rw [if_pos ⟨hd.valid, zero_VF.valid⟩, if_pos ⟨hx.valid, hy.valid⟩]
  have z1 : sg (false, [], [1]) = 0 := rfl
  have z2 : dn (false, [], [1]) = 1 := rfl
  rw [z1, z2]
  have hxy : 0 < dn x * dn y := Nat.mul_pos hx.pos hy.pos
  have c1 := sgn_mul (x := sg d) (y := 0) (c := ((dn x * dn y : Nat) : Int)) (by omega)
  have c2 := sgn_mul (x := sg x * dn y - sg y * dn x) (y := 0) (c := (dn d : Int)) (by have := hd.pos; omega)
  rw [Int.zero_mul] at c1 c2
  dsimp only at v
  rw [v, c2, sgn_sub] at c1
  rw [Int.zero_mul, show ((1 : Nat) : Int) = 1 from rfl, Int.mul_one, ← c1]
end Go.VN
