/- Small fractions: sums and products stay small, and obey the laws of quotients. No condition. -/
import Derived.Test.YtiaijoomngefnaaGreatDoorZVLRat
namespace Go.VN
open Go.RowKit Go.VL
set_option linter.unusedVariables false
theorem Vl_eq {f g : FrN} {a b c d : Int} (hf : VF f) (hg : VF g) (h1 : Vl f a b) (h2 : Vl g c d) (hb : 0 < b) (hd : 0 < d) (h : a * d = c * b) : f = g := by
  refine VF_eq hf hg ?_
  unfold Vl at h1 h2
  have hbd : 0 < b * d := Int.mul_pos hb hd
  refine Int.eq_of_mul_eq_mul_right (a := b * d) (by omega) ?_
  calc sg f * dn g * (b * d) = (sg f * b) * (dn g * d) := by ac_rfl
    _ = (a * dn f) * (dn g * d) := by rw [h1]
    _ = (a * d) * (dn f * dn g) := by ac_rfl
    _ = (c * b) * (dn f * dn g) := by rw [h]
    _ = (c * dn g) * (dn f * b) := by ac_rfl
    _ = (sg g * d) * (dn f * b) := by rw [← h2]
    _ = sg g * dn f * (b * d) := by ac_rfl
theorem Vl.add' {f g r : FrN} {p q p' q' k : Int} (hf : 0 < dn f) (hg : 0 < dn g) (h1 : Vl f p q) (h2 : Vl g p' q') (h : Vl r (sg f * dn g + k * (sg g * dn f)) (dn f * dn g : Nat)) : Vl r (p * q' + k * (p' * q)) (q * q') := by
  unfold Vl at *
  have hFG : ((dn f : Int) * dn g) ≠ 0 := by
    have := Int.mul_pos (show (0 : Int) < dn f by omega) (show (0 : Int) < dn g by omega)
    omega
  rw [Int.natCast_mul] at h
  refine Int.eq_of_mul_eq_mul_right hFG ?_
  calc sg r * (q * q') * (dn f * dn g) = sg r * (dn f * dn g) * (q * q') := by ac_rfl
    _ = (sg f * dn g + k * (sg g * dn f)) * dn r * (q * q') := by rw [h]
    _ = (sg f * q) * (dn g * q' * dn r) + k * ((sg g * q') * (dn f * q * dn r)) := by rw [Int.add_mul, Int.add_mul]; congr 1 <;> ac_rfl
    _ = (p * dn f) * (dn g * q' * dn r) + k * ((p' * dn g) * (dn f * q * dn r)) := by rw [h1, h2]
    _ = (p * q' + k * (p' * q)) * dn r * (dn f * dn g) := by rw [Int.add_mul, Int.add_mul]; congr 1 <;> ac_rfl
theorem Vl.mul' {f g r : FrN} {p q p' q' : Int} (hf : 0 < dn f) (hg : 0 < dn g) (h1 : Vl f p q) (h2 : Vl g p' q') (h : Vl r (sg f * sg g) (dn f * dn g : Nat)) : Vl r (p * p') (q * q') := by
  unfold Vl at *
  have hFG : ((dn f : Int) * dn g) ≠ 0 := by
    have := Int.mul_pos (show (0 : Int) < dn f by omega) (show (0 : Int) < dn g by omega)
    omega
  rw [Int.natCast_mul] at h
  refine Int.eq_of_mul_eq_mul_right hFG ?_
  calc sg r * (q * q') * (dn f * dn g) = sg r * (dn f * dn g) * (q * q') := by ac_rfl
    _ = sg f * sg g * dn r * (q * q') := by rw [h]
    _ = (sg f * q) * (sg g * q') * dn r := by ac_rfl
    _ = (p * dn f) * (p' * dn g) * dn r := by rw [h1, h2]
    _ = p * p' * dn r * (dn f * dn g) := by ac_rfl
/-! ### Small ones -/
structure Bd (f : FrN) (A B : Nat) : Prop where
  v : VF f
  n : nm f ≤ A
  d : dn f ≤ B
theorem fits_num {n : Nat} (h : n ≤ 1000000000000000) : fits n = true := by
  unfold fits
  have := digs_len n (by omega)
  simp only [decide_eq_true_eq]
  omega
theorem red_bd {s : Bool} {p q : Nat} (hq : 0 < q) (hp : p ≤ 1000000000000000) (hq2 : q ≤ 1000000000000000) : Bd (redN s p q) p q := by
  refine ⟨red_VF hq (by simpa [fits] using fits_num hp) (by simpa [fits] using fits_num hq2), ?_, ?_⟩
  · unfold redN; rw [nm_mk]; exact Nat.div_le_self _ _
  · unfold redN; rw [dn_mk]; exact Nat.div_le_self _ _
theorem add_bd {f g : FrN} {A B C D : Nat} (hf : Bd f A B) (hg : Bd g C D) (h1 : A * D + C * B ≤ 1000000000000000) (h2 : B * D ≤ 1000000000000000) : ∃ r, addF f g = (r, 0) ∧ Bd r (A * D + C * B) (B * D) := by
  have m1 : nm f * dn g ≤ A * D := Nat.mul_le_mul hf.n hg.d
  have m2 : nm g * dn f ≤ C * B := Nat.mul_le_mul hg.n hf.d
  have m3 : dn f * dn g ≤ B * D := Nat.mul_le_mul hf.d hg.d
  have hp : 0 < dn f * dn g := Nat.mul_pos hf.v.pos hg.v.pos
  unfold addF
  rw [if_pos ⟨hf.v.valid, hg.v.valid⟩]
  unfold addN
  rw [if_pos ⟨fits_num (by omega), fits_num (by omega), fits_num (by omega)⟩]
  by_cases h3 : f.1 = g.1
  · rw [if_pos h3, if_pos (fits_num (by omega))]
    have := red_bd (s := f.1) (p := nm f * dn g + nm g * dn f) hp (by omega) (by omega)
    exact ⟨_, rfl, this.v, by have := this.n; omega, by have := this.d; omega⟩
  · rw [if_neg h3]
    split
    · have := red_bd (s := g.1) (p := nm g * dn f - nm f * dn g) hp (by omega) (by omega)
      exact ⟨_, rfl, this.v, by have := this.n; omega, by have := this.d; omega⟩
    · have := red_bd (s := f.1) (p := nm f * dn g - nm g * dn f) hp (by omega) (by omega)
      exact ⟨_, rfl, this.v, by have := this.n; omega, by have := this.d; omega⟩
theorem mulN_bd {s t : Bool} {m n p q : Nat} (hn : 0 < n) (hq : 0 < q) {A B : Nat} (h1 : m * p ≤ A) (h2 : n * q ≤ B) (hA : A ≤ 1000000000000000) (hB : B ≤ 1000000000000000) : ∃ r, mulN s m n t p q = (r, 0) ∧ Bd r A B := by
  unfold mulN
  rw [if_pos ⟨fits_num (by omega), fits_num (by omega)⟩]
  have := red_bd (s := s != t) (p := m * p) (Nat.mul_pos hn hq) (by omega) (by omega)
  exact ⟨_, rfl, this.v, by have := this.n; omega, by have := this.d; omega⟩
theorem mul_bd {f g : FrN} {A B C D : Nat} (hf : Bd f A B) (hg : Bd g C D) (h1 : A * C ≤ 1000000000000000) (h2 : B * D ≤ 1000000000000000) : ∃ r, mulF f g = (r, 0) ∧ Bd r (A * C) (B * D) := by
  unfold mulF
  rw [if_pos ⟨hf.v.valid, hg.v.valid⟩]
  exact mulN_bd hf.v.pos hg.v.pos (Nat.mul_le_mul hf.n hg.n) (Nat.mul_le_mul hf.d hg.d) h1 h2
theorem sub_bd {f g : FrN} {A B C D : Nat} (hf : Bd f A B) (hg : Bd g C D) (h1 : A * D + C * B ≤ 1000000000000000) (h2 : B * D ≤ 1000000000000000) : ∃ r, subF f g = (r, 0) ∧ Bd r (A * D + C * B) (B * D) := by
  obtain ⟨o1, o2, o3⟩ := opp_sg hg.v
  have hn : nm (oppF g) = nm g := by
    have := congrArg Int.natAbs o1
    rw [sg_eta o3, sg_eta hg.v, Int.natAbs_neg, sgI_abs, sgI_abs] at this
    exact this
  unfold subF
  rw [if_pos ⟨hf.v.valid, hg.v.valid⟩]
  exact add_bd hf ⟨o3, by rw [hn]; exact hg.n, by rw [o2]; exact hg.d⟩ h1 h2
theorem div_bd {f g : FrN} {A B C D : Nat} (hf : Bd f A B) (hg : Bd g C D) (h0 : 0 < nm g) (h1 : A * D ≤ 1000000000000000) (h2 : B * C ≤ 1000000000000000) : ∃ r, divF f g = (r, 0) ∧ Bd r (A * D) (B * C) := by
  unfold divF
  rw [if_pos ⟨hf.v.valid, hg.v.valid⟩, if_neg (by rw [hg.v.num, digs_empty]; simp; omega)]
  exact mulN_bd hf.v.pos h0 (Nat.mul_le_mul hf.n hg.d) (Nat.mul_le_mul hf.d hg.n) h1 h2
theorem addF_v {f g r : FrN} (h : addF f g = (r, 0)) {p q p' q' : Int} (h1 : Vl f p q) (h2 : Vl g p' q') : Vl r (p * q' + p' * q) (q * q') := by
  obtain ⟨v, a, b⟩ := addF_val (f := f) (g := g) (by rw [h])
  rw [h] at v
  have := Vl.add' (k := 1) a.pos b.pos h1 h2 (by rw [Int.one_mul]; exact v)
  rwa [Int.one_mul] at this
theorem subF_v {f g r : FrN} (h : subF f g = (r, 0)) {p q p' q' : Int} (h1 : Vl f p q) (h2 : Vl g p' q') : Vl r (p * q' - p' * q) (q * q') := by
  obtain ⟨v, a, b⟩ := subF_val (f := f) (g := g) (by rw [h])
  rw [h] at v
  have := Vl.add' (k := -1) a.pos b.pos h1 h2 (by rw [Int.neg_mul, Int.one_mul, ← Int.sub_eq_add_neg]; exact v)
  rwa [Int.neg_mul, Int.one_mul, ← Int.sub_eq_add_neg] at this
theorem mulF_v {f g r : FrN} (h : mulF f g = (r, 0)) {p q p' q' : Int} (h1 : Vl f p q) (h2 : Vl g p' q') : Vl r (p * p') (q * q') := by
  obtain ⟨v, a, b⟩ := mulF_val (f := f) (g := g) (by rw [h])
  rw [h] at v
  exact Vl.mul' a.pos b.pos h1 h2 v
theorem divF_v {f g r : FrN} (h : divF f g = (r, 0)) {p q : Int} (h1 : Vl f p q) : Vl r (p * sgI g.1 (dn g)) (q * nm g) := by
  obtain ⟨v, a, b, c⟩ := divF_val (f := f) (g := g) (by rw [h])
  rw [h] at v
  unfold Vl at *
  rw [Int.natCast_mul] at v
  refine Int.eq_of_mul_eq_mul_right (a := (dn f : Int)) (by have := a.pos; omega) ?_
  calc sg r * (q * nm g) * dn f = sg r * (dn f * nm g) * q := by ac_rfl
    _ = sg f * sgI g.1 (dn g) * dn r * q := by rw [v]
    _ = (sg f * q) * sgI g.1 (dn g) * dn r := by ac_rfl
    _ = (p * dn f) * sgI g.1 (dn g) * dn r := by rw [h1]
    _ = p * sgI g.1 (dn g) * dn r * dn f := by ac_rfl
/-! ### The laws -/
section
variable {x y z : FrN} (hx : Bd x 32768 256) (hy : Bd y 32768 256) (hz : Bd z 32768 256)
include hx hy
theorem fld_addc : ∃ r, addF x y = (r, 0) ∧ addF y x = (r, 0) := by
  obtain ⟨r, e1, b1⟩ := add_bd hx hy (by decide) (by decide)
  obtain ⟨t, e2, b2⟩ := add_bd hy hx (by decide) (by decide)
  have a := hx.v.pos
  have b := hy.v.pos
  have e : r = t := Vl_eq b1.v b2.v (addF_v e1 Vl.self Vl.self) (addF_v e2 Vl.self Vl.self) (Int.mul_pos (by omega) (by omega)) (Int.mul_pos (by omega) (by omega)) (by rw [Int.mul_comm (dn y : Int), Int.add_comm])
  exact ⟨r, e1, by rw [e2, e]⟩
theorem fld_mulc : ∃ r, mulF x y = (r, 0) ∧ mulF y x = (r, 0) := by
  obtain ⟨r, e1, b1⟩ := mul_bd hx hy (by decide) (by decide)
  obtain ⟨t, e2, b2⟩ := mul_bd hy hx (by decide) (by decide)
  have a := hx.v.pos
  have b := hy.v.pos
  have e : r = t := Vl_eq b1.v b2.v (mulF_v e1 Vl.self Vl.self) (mulF_v e2 Vl.self Vl.self) (Int.mul_pos (by omega) (by omega)) (Int.mul_pos (by omega) (by omega)) (by ac_rfl)
  exact ⟨r, e1, by rw [e2, e]⟩
theorem fld_back : ∃ r, addF x y = (r, 0) ∧ subF r y = (x, 0) := by
  obtain ⟨r, e1, b1⟩ := add_bd hx hy (by decide) (by decide)
  obtain ⟨t, e2, b2⟩ := sub_bd b1 hy (by decide) (by decide)
  have a := hx.v.pos
  have b := hy.v.pos
  have e : t = x := Vl_eq b2.v hx.v (subF_v e2 (addF_v e1 Vl.self Vl.self) Vl.self) Vl.self (Int.mul_pos (Int.mul_pos (by omega) (by omega)) (by omega)) (by omega) (by
    have : (sg x * dn y + sg y * dn x) * (dn y : Int) - sg y * (dn x * dn y) = sg x * dn y * dn y := by
      rw [Int.add_mul, show sg y * (dn x : Int) * dn y = sg y * (dn x * dn y) by ac_rfl]; omega
    rw [this]; ac_rfl)
  exact ⟨r, e1, by rw [e2, e]⟩
theorem fld_divb (h0 : 0 < nm y) : ∃ r, mulF x y = (r, 0) ∧ divF r y = (x, 0) := by
  obtain ⟨r, e1, b1⟩ := mul_bd hx hy (by decide) (by decide)
  obtain ⟨t, e2, b2⟩ := div_bd b1 hy h0 (by decide) (by decide)
  have a := hx.v.pos
  have b := hy.v.pos
  have e : t = x := Vl_eq b2.v hx.v (divF_v e2 (mulF_v e1 Vl.self Vl.self)) Vl.self (Int.mul_pos (Int.mul_pos (by omega) (by omega)) (by omega)) (by omega) (by
    have : sg y * sgI y.1 (dn y) = (dn y : Int) * nm y := by
      rw [sg_eta hy.v]
      unfold sgI
      cases y.1 <;> simp [Int.mul_comm, Int.neg_mul, Int.mul_neg]
    calc sg x * sg y * sgI y.1 (dn y) * (dn x : Int) = sg x * (sg y * sgI y.1 (dn y)) * dn x := by ac_rfl
      _ = sg x * (dn y * nm y) * dn x := by rw [this]
      _ = sg x * (dn x * dn y * nm y) := by ac_rfl)
  exact ⟨r, e1, by rw [e2, e]⟩
include hz
theorem fld_adda : ∃ r s t, addF x y = (r, 0) ∧ addF y z = (s, 0) ∧ addF r z = (t, 0) ∧ addF x s = (t, 0) := by
  obtain ⟨r, e1, b1⟩ := add_bd hx hy (by decide) (by decide)
  obtain ⟨s, e2, b2⟩ := add_bd hy hz (by decide) (by decide)
  obtain ⟨t, e3, b3⟩ := add_bd b1 hz (by decide) (by decide)
  obtain ⟨u, e4, b4⟩ := add_bd hx b2 (by decide) (by decide)
  have a := hx.v.pos
  have b := hy.v.pos
  have c := hz.v.pos
  have e : u = t := Vl_eq b4.v b3.v (addF_v e4 Vl.self (addF_v e2 Vl.self Vl.self)) (addF_v e3 (addF_v e1 Vl.self Vl.self) Vl.self) (Int.mul_pos (by omega) (Int.mul_pos (by omega) (by omega))) (Int.mul_pos (Int.mul_pos (by omega) (by omega)) (by omega)) (by
    simp only [Int.add_mul, Int.mul_add]; ac_rfl)
  exact ⟨r, s, t, e1, e2, e3, by rw [e4, e]⟩
theorem fld_mula : ∃ r s t, mulF x y = (r, 0) ∧ mulF y z = (s, 0) ∧ mulF r z = (t, 0) ∧ mulF x s = (t, 0) := by
  obtain ⟨r, e1, b1⟩ := mul_bd hx hy (by decide) (by decide)
  obtain ⟨s, e2, b2⟩ := mul_bd hy hz (by decide) (by decide)
  obtain ⟨t, e3, b3⟩ := mul_bd b1 hz (by decide) (by decide)
  obtain ⟨u, e4, b4⟩ := mul_bd hx b2 (by decide) (by decide)
  have a := hx.v.pos
  have b := hy.v.pos
  have c := hz.v.pos
  have e : u = t := Vl_eq b4.v b3.v (mulF_v e4 Vl.self (mulF_v e2 Vl.self Vl.self)) (mulF_v e3 (mulF_v e1 Vl.self Vl.self) Vl.self) (Int.mul_pos (by omega) (Int.mul_pos (by omega) (by omega))) (Int.mul_pos (Int.mul_pos (by omega) (by omega)) (by omega)) (by ac_rfl)
  exact ⟨r, s, t, e1, e2, e3, by rw [e4, e]⟩
theorem fld_dist : ∃ s p q t, addF y z = (s, 0) ∧ mulF x y = (p, 0) ∧ mulF x z = (q, 0) ∧ mulF x s = (t, 0) ∧ addF p q = (t, 0) := by
  obtain ⟨s, e1, b1⟩ := add_bd hy hz (by decide) (by decide)
  obtain ⟨p, e2, b2⟩ := mul_bd hx hy (by decide) (by decide)
  obtain ⟨q, e3, b3⟩ := mul_bd hx hz (by decide) (by decide)
  obtain ⟨t, e4, b4⟩ := mul_bd hx b1 (by decide) (by decide)
  obtain ⟨u, e5, b5⟩ := add_bd b2 b3 (by decide) (by decide)
  have a := hx.v.pos
  have b := hy.v.pos
  have c := hz.v.pos
  have e : u = t := Vl_eq b5.v b4.v (addF_v e5 (mulF_v e2 Vl.self Vl.self) (mulF_v e3 Vl.self Vl.self)) (mulF_v e4 Vl.self (addF_v e1 Vl.self Vl.self)) (Int.mul_pos (Int.mul_pos (by omega) (by omega)) (Int.mul_pos (by omega) (by omega))) (Int.mul_pos (by omega) (Int.mul_pos (by omega) (by omega))) (by
    simp only [Int.add_mul, Int.mul_add]; ac_rfl)
  exact ⟨s, p, q, t, e1, e2, e3, e4, by rw [e5, e]⟩
end
theorem small_bd {a b : Int} (ha : -32768 ≤ a ∧ a ≤ 32767) (hb : 0 ≤ b ∧ b ≤ 255) : Bd (ofF a (1 + b)).1 32768 256 ∧ (nm (ofF a (1 + b)).1 = 0 ↔ a = 0) := by
  unfold ofF
  rw [if_neg (by omega), if_neg (by omega)]
  have h0 : 0 < (1 + b).natAbs := by omega
  have := red_bd (s := decide (a < 0) != decide (1 + b < 0)) (p := a.natAbs) (q := (1 + b).natAbs) h0 (by omega) (by omega)
  refine ⟨⟨this.v, by have := this.n; dsimp only at this ⊢; omega, by have := this.d; dsimp only at this ⊢; omega⟩, ?_⟩
  have hg : 0 < Nat.gcd a.natAbs (1 + b).natAbs := Nat.gcd_pos_of_pos_right _ h0
  dsimp only
  unfold redN
  rw [nm_mk]
  obtain ⟨k, hk⟩ := Nat.gcd_dvd_left a.natAbs (1 + b).natAbs
  generalize Nat.gcd a.natAbs (1 + b).natAbs = g at *
  rw [hk, Nat.mul_div_cancel_left _ hg]
  constructor
  · intro h; subst h; simp at hk; omega
  · intro h
    subst h
    rcases Nat.eq_zero_or_pos k with h | h
    · exact h
    · have := Nat.mul_pos hg h; simp at hk; omega
end Go.VN
