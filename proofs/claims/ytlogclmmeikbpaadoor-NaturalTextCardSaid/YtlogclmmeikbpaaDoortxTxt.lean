/- Plain laws over decimal texts: what the library's and the chapter's functions on texts answer. No program is walked here, and no condition stands. -/
import Derived.Test.YtlogclmmeikbpaaDoortxKit
import Derived.Test.YtlogclmmeikbpaaDoortxFmt
namespace Go.Proofs.YtlogclmmeikbpaaDoor.Pu
open Go.RowKit Go.Proofs.YtlogclmmeikbpaaDoorW.PrintWords Go.Proofs.YtlogclmmeikbpaaDoor.Given
set_option linter.unusedVariables false

def dvF (a : Nat) (l : List UInt8) : Nat := l.foldl (fun a c => a * 10 + (c.toNat - 48)) a
/-- The number of a decimal text. -/
def dv (l : List UInt8) : Nat := dvF 0 l
def Dec (l : List UInt8) : Prop := ∀ c ∈ l, 48 ≤ c.toNat ∧ c.toNat ≤ 57
theorem Dec.tail {c : UInt8} {l : List UInt8} (h : Dec (c :: l)) : Dec l := fun x hx => h x (List.mem_cons_of_mem _ hx)
theorem Dec.take {l : List UInt8} (h : Dec l) (n : Nat) : Dec (l.take n) := fun x hx => h x (List.mem_of_mem_take hx)
theorem Dec.drop {l : List UInt8} (h : Dec l) (n : Nat) : Dec (l.drop n) := fun x hx => h x (List.mem_of_mem_drop hx)
theorem dvF_append (a : Nat) (l r : List UInt8) : dvF a (l ++ r) = dvF (dvF a l) r := by simp [dvF]
theorem dvF_lin (l : List UInt8) : ∀ a, dvF a l = a * 10 ^ l.length + dvF 0 l := by
  induction l with
  | nil => intro a; simp [dvF]
  | cons c l ih =>
    intro a
    show dvF (a * 10 + (c.toNat - 48)) l = _ + dvF (0 * 10 + (c.toNat - 48)) l
    rw [ih, ih (0 * 10 + (c.toNat - 48)), List.length_cons, Nat.pow_succ, Nat.add_mul, Nat.add_mul, Nat.zero_mul, Nat.mul_assoc, Nat.mul_comm 10]
    omega
theorem dv_cons (c : UInt8) (l : List UInt8) : dv (c :: l) = (c.toNat - 48) * 10 ^ l.length + dv l := by
  show dvF (0 * 10 + (c.toNat - 48)) l = _
  rw [dvF_lin]
  simp [dv]
theorem dv_snoc (l : List UInt8) (c : UInt8) : dv (l ++ [c]) = dv l * 10 + (c.toNat - 48) := by
  unfold dv
  rw [dvF_append]
  rfl
theorem dv_lt {l : List UInt8} (h : Dec l) : dv l < 10 ^ l.length := by
  induction l with
  | nil => decide
  | cons c l ih =>
    have := ih h.tail
    have hc := h c (by simp)
    rw [dv_cons, List.length_cons, Nat.pow_succ, Nat.mul_comm _ 10]
    have : (c.toNat - 48) * 10 ^ l.length ≤ 9 * 10 ^ l.length := Nat.mul_le_mul_right _ (by omega)
    omega
theorem dv_pos {c : UInt8} {l : List UInt8} (h : Dec (c :: l)) (hc : c ≠ 48) : 0 < dv (c :: l) := by
  have h1 := h c (by simp)
  have h2 : c.toNat ≠ 48 := fun e => hc (UInt8.toNat_inj.1 (by simpa using e))
  have h3 : 0 < (c.toNat - 48) * 10 ^ l.length := Nat.mul_pos (by omega) (Nat.pow_pos (by decide))
  rw [dv_cons]
  omega
theorem digit_back (c : UInt8) (h : 48 ≤ c.toNat ∧ c.toNat ≤ 57) : UInt8.ofNat (48 + (c.toNat - 48)) = c := by
  rw [show 48 + (c.toNat - 48) = c.toNat by omega]
  simp
theorem dec_dv : ∀ (n : Nat) (c : UInt8) (l : List UInt8), l.length = n → Dec (c :: l) → c ≠ 48 → Lib.decDigits (dv (c :: l)) = c :: l
  | 0, c, l, hn, h, hc => by
    obtain rfl := List.eq_nil_of_length_eq_zero hn
    have h1 := h c (by simp)
    unfold Lib.decDigits
    rw [dv_cons]
    have : (c.toNat - 48) * 10 ^ ([] : List UInt8).length + dv [] = c.toNat - 48 := by simp [dv, dvF]
    rw [this, dif_pos (by omega), digit_back c h1]
  | n + 1, c, l, hn, h, hc => by
    rcases List.eq_nil_or_concat l with rfl | ⟨l', x, rfl⟩
    · cases hn
    · rw [List.concat_eq_append] at h hn ⊢
      have hx := h x (by simp)
      have hp : Dec (c :: l') := fun y hy => h y (by rcases List.mem_cons.1 hy with rfl | hy <;> simp [*])
      have ih := dec_dv n c l' (by simpa using hn) hp hc
      have hpos := dv_pos hp hc
      unfold Lib.decDigits
      have e : dv (c :: (l' ++ [x])) = dv (c :: l') * 10 + (x.toNat - 48) := dv_snoc (c :: l') x
      rw [e, dif_neg (by omega), show (dv (c :: l') * 10 + (x.toNat - 48)) / 10 = dv (c :: l') by omega, show (dv (c :: l') * 10 + (x.toNat - 48)) % 10 = x.toNat - 48 by omega, ih, digit_back x hx]
      rfl
theorem itoa_nat (n : Nat) : Lib.itoa (n : Int) = Lib.decDigits n := by
  unfold Lib.itoa
  rw [if_neg (by omega)]
  rfl
theorem pad_dv (n : Nat) : ∀ (l : List UInt8), Dec l → 0 < l.length → l.length ≤ n → (List.replicate n (48 : UInt8)).drop (Lib.decDigits (dv l)).length ++ Lib.decDigits (dv l) = List.replicate (n - l.length) 48 ++ l
  | [], _, h0, _ => by cases h0
  | c :: l, h, _, hn => by
    by_cases hc : c = 48
    · subst hc
      cases l with
      | nil =>
        have : Lib.decDigits (dv [48]) = [48] := by unfold Lib.decDigits; rfl
        rw [this]
        simp
      | cons y l =>
        have ih := pad_dv n (y :: l) h.tail (by simp) (by simp at hn ⊢; omega)
        have e : dv (48 :: y :: l) = dv (y :: l) := by rw [dv_cons]; simp
        rw [e, ih]
        simp only [List.length_cons] at hn ⊢
        obtain ⟨d, rfl⟩ : ∃ d, n = d + (l.length + 1 + 1) := ⟨n - (l.length + 1 + 1), by omega⟩
        rw [show d + (l.length + 1 + 1) - (l.length + 1) = d + 1 by omega, show d + (l.length + 1 + 1) - (l.length + 1 + 1) = d by omega, List.replicate_succ', List.append_assoc]
        rfl
    · rw [dec_dv l.length c l rfl h hc]
      simp
theorem pad4_dv {l : List UInt8} (h : Dec l) (hl : l.length = 4) : pad4 (dv l : Int) = l := by
  have := pad_dv 4 l h (by omega) (by omega)
  unfold pad4
  rw [itoa_nat]
  rw [hl] at this
  simpa using this
theorem parseUint_dec : ∀ (l : List UInt8) (acc : Nat), Dec l → (acc + 1) * 10 ^ l.length ≤ 10 ^ 18 → Lib.parseUint10 acc l = .ok (dvF acc l)
  | [], acc, _, _ => rfl
  | c :: l, acc, h, hb => by
    have hc := h c (by simp)
    rw [List.length_cons, Nat.pow_succ] at hb
    have h1 : 0 < 10 ^ l.length := Nat.pow_pos (by decide)
    have h2 : (acc + 1) * 1 ≤ (acc + 1) * (10 ^ l.length * 10) := Nat.mul_le_mul_left _ (by omega)
    rw [Lib.parseUint10, if_pos hc, if_neg (by omega), if_neg (by omega), parseUint_dec l _ h.tail ?_]
    · rfl
    · refine Nat.le_trans ?_ hb
      rw [show (acc + 1) * (10 ^ l.length * 10) = (acc * 10 + 10) * 10 ^ l.length by rw [Nat.mul_comm (10 ^ l.length), ← Nat.mul_assoc, Nat.add_mul]]
      exact Nat.mul_le_mul_right _ (by omega)
theorem atoi_dec {l : List UInt8} (h : Dec l) (h0 : l ≠ []) (hl : l.length ≤ 17) : Lib.atoiAll l = .ok (dv l : Int) := by
  cases l with
  | nil => exact absurd rfl h0
  | cons c l =>
    have hc := h c (by simp)
    have hb : (0 + 1) * 10 ^ (c :: l).length ≤ 10 ^ 18 := by
      rw [Nat.zero_add, Nat.one_mul]
      exact Nat.pow_le_pow_right (by decide) (by omega)
    have hp := parseUint_dec (c :: l) 0 h hb
    have hlt := dv_lt h
    have h3 : 10 ^ (c :: l).length ≤ 10 ^ 18 := Nat.pow_le_pow_right (by decide) (by omega)
    unfold Lib.atoiAll
    simp only
    rw [if_neg (by omega), Lib.parseMag, if_neg (by simp), hp]
    simp only
    have hd : dvF 0 (c :: l) = dv (c :: l) := rfl
    rw [hd]
    rw [if_neg (by omega), if_neg (by omega), if_neg (by omega)]
theorem Atoi_dec {s : ByteArray} (h : Dec s.data.toList) (h0 : s.data.toList ≠ []) (hl : s.data.toList.length ≤ 17) : strconv_Atoi.f s = some ((dv s.data.toList : Int), none) := by
  unfold strconv_Atoi.f
  have : s.size = s.data.toList.length := rfl
  rw [if_pos (by omega), atoi_dec h h0 hl]

/-- The digits in the base 10000 of a decimal text, the least one first. -/
def nums (s : List UInt8) : List Int := if h : s = [] then [] else (dv (s.drop (s.length - 4)) : Int) :: nums (s.take (s.length - 4))
termination_by s.length
decreasing_by
  have : 0 < s.length := List.length_pos_iff.2 h
  rw [List.length_take]
  omega
theorem nums_nil : nums [] = [] := by unfold nums; simp
theorem nums_cons (s : List UInt8) (h : s ≠ []) : nums s = (dv (s.drop (s.length - 4)) : Int) :: nums (s.take (s.length - 4)) := by rw [nums]; simp [h]
theorem fmtL_cons (c : Int) (l : List Int) (h : l ≠ []) : fmtL (c :: l) = fmtL l ++ pad4 c := by
  unfold fmtL
  rw [List.reverse_cons]
  cases hr : l.reverse with
  | nil => exact absurd (by simpa using hr) h
  | cons d r => simp
end Go.Proofs.YtlogclmmeikbpaaDoor.Pu

