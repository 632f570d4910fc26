/- The law NaturalRing, as a plain law over the printed functions. No condition. -/
import Derived.Test.YtlogclmmeikbpaaDoorriPuSums
import Derived.Test.YtlogclmmeikbpaaDoorriPx14
import Derived.Test.YtlogclmmeikbpaaDoorriLRing
namespace Go.Proofs.YtlogclmmeikbpaaDoor.Pu
open Go.RowKit Go.Proofs.YtlogclmmeikbpaaDoorW.PrintWords Go.Proofs.YtlogclmmeikbpaaDoor.Given Go.Proofs.YtlogclmmeikbpaaDoor.P
set_option linter.unusedVariables false
theorem made_l0_ev (l : List Int) (hl : l.length ≤ 100) (hd : ∀ d ∈ l, 0 ≤ d ∧ d ≤ 65535) : ∀ (m i : Nat) (out : List Int), l.length - i = m → i ≤ l.length → Dig out → out.length = i →
    ∃ n : Nat, Ev (fun k => ancepsref02_Made.l0 k l out (i : Int)) (digs n) ∧ (digs n).length ≤ l.length
  | 0, i, out, hm, hi, hD, ho => by
    refine ⟨(val out).toNat, ?_, ?_⟩
    · apply Ev.step
      simp only [ancepsref02_Made.l0]
      refine Ev.no (by omega) ?_
      rw [← tr_digs hD]
      exact Ev.bind (trim_ev out (by omega)) (Ev.pure _)
    · rw [← tr_digs hD]
      have := len_tr out
      omega
  | m + 1, i, out, hm, hi, hD, ho => by
    have hil : i < l.length := by omega
    have hx := hd _ (List.getElem_mem hil)
    obtain ⟨x, hxx⟩ := Int.eq_ofNat_of_zero_le hx.1
    have e1 : Int.tmod (x : Int) 10000 = ((x % 10000 : Nat) : Int) := tmod_ x 10000
    obtain ⟨n, h1, h2⟩ := made_l0_ev l hl hd m (i + 1) (out ++ [((x % 10000 : Nat) : Int)]) (by omega) (by omega) (hD.join (Dig.one (by omega) (by omega))) (by rw [List.length_append, ho]; rfl)
    refine ⟨n, ?_, h2⟩
    apply Ev.step
    simp only [ancepsref02_Made.l0]
    refine Ev.yes (by omega) (Ev.yes (by omega) (Ev.yes (by omega) (Ev.yes (by omega) ?_)))
    rw [rd_at l i hil, hxx, w64 (by omega) (by omega), e1, w64 (by omega) (by omega)]
    exact h1
theorem Made_ev (l : List Int) (hl : l.length ≤ 100) (hd : ∀ d ∈ l, 0 ≤ d ∧ d ≤ 65535) : ∃ n : Nat, Ev (fun k => ancepsref02_Made.f k l) (digs n) ∧ (digs n).length ≤ l.length := by
  simp only [ancepsref02_Made.f]
  exact made_l0_ev l hl hd l.length 0 [] rfl (Nat.zero_le _) Dig.nil rfl
theorem add_len (m n b : Nat) (hm : (digs m).length ≤ b) (hn : (digs n).length ≤ b) : (digs (m + n)).length ≤ b + 1 := by
  apply digs_le
  have h1 := len_lt m
  have h2 := len_lt n
  have h3 := pow_mono hm
  have h4 := pow_mono hn
  rw [Int.pow_succ]
  omega
theorem mul_len (m n : Nat) : (digs (m * n)).length ≤ (digs m).length + (digs n).length := by
  have := prod_len (dig_digs m) (dig_digs n)
  rw [val_digs, val_digs, ← Int.natCast_mul] at this
  exact this
theorem fit_ok (n : Nat) (h : (digs n).length ≤ 200) : fit n = (digs n, 0) := by
  unfold fit
  rw [if_neg (by omega)]
theorem AddN (m n : Nat) (hm : (digs m).length ≤ 199) (hn : (digs n).length ≤ 199) : Ev (fun k => natural_Add.f k (digs m) (digs n)) (digs (m + n), 0) := by
  have h := Add_ev (digs m) (digs n)
  have hl := add_len m n 199 hm hn
  rw [addR_digs m n (by omega) (by omega), fit_ok _ hl] at h
  exact h
theorem MulN (m n : Nat) (h : (digs m).length + (digs n).length ≤ 200) : Ev (fun k => natural_Mul.f k (digs m) (digs n)) (digs (m * n), 0) := by
  have h1 := Mul_ev (digs m) (digs n)
  have hl := mul_len m n
  unfold mulR at h1
  rw [if_pos ⟨valid_digs m (by omega), valid_digs n (by omega)⟩, val_digs, val_digs, ← Int.natCast_mul, Int.toNat_natCast, fit_ok _ (by omega)] at h1
  exact h1
theorem SubN (m n : Nat) (hm : (digs m).length ≤ 200) (hn : n ≤ m) : Ev (fun k => natural_Sub.f k (digs m) (digs n)) (digs (m - n), 0) := by
  have h1 := Sub_ev (digs m) (digs n)
  have hl := len_of_lt hn
  unfold subR at h1
  rw [if_pos ⟨valid_digs m (by omega), valid_digs n (by omega)⟩, val_digs, val_digs, Int.toNat_natCast, Int.toNat_natCast, if_neg (by omega)] at h1
  exact h1
theorem SameN (n : Nat) (h : (digs n).length ≤ 1000) : Ev (fun k => ancepsref02_Same.f k (digs n) (digs n)) true := Same_yes (digs n) (by omega)
theorem ring_l0 (m n p : Nat) (hm : (digs m).length ≤ 60) (hn : (digs n).length ≤ 60) (hp : (digs p).length ≤ 60) : ∀ (s i : Nat), 9 - i = s → i ≤ 9 →
    Ev (fun k => ancepslaw02_NaturalRing.l0 k [0, 0, 0, 0, 0, 0, 0, 0, 0] 9 (i : Int) (digs m) (digs m) (digs (m * n)) (digs (n * m)) (digs (m * (n + p))) (digs (m * n + m * p)) (digs (m * n * p)) (digs (m * (n * p)))) true
  | 0, i, hs, hi => by
    have l1 := mul_len m n
    have l2 := add_len n p 60 hn hp
    have l3 := mul_len m (n + p)
    have l4 := mul_len (m * n) p
    apply Ev.step
    simp only [ancepslaw02_NaturalRing.l0]
    refine Ev.no (by omega) ?_
    rw [Nat.mul_comm n m, ← Nat.mul_add, ← Nat.mul_assoc]
    refine Ev.bind (SameN m (by omega)) (Ev.yes rfl (Ev.bind (SameN _ (by omega)) (Ev.yes rfl (Ev.bind (SameN _ (by omega)) (Ev.yes rfl ?_)))))
    exact Ev.bind (SameN _ (by omega)) (Ev.pure _)
  | s + 1, i, hs, hi => by
    apply Ev.step
    simp only [ancepslaw02_NaturalRing.l0]
    refine Ev.yes (by omega) (Ev.yes (by omega) (Ev.yes (by simp; omega) ?_))
    have e : rd [0, 0, 0, 0, 0, 0, 0, 0, 0] (i : Int) = 0 := rd_zeros 9 i
    refine Ev.yes e ?_
    rw [w64 (by omega) (by omega)]
    exact ring_l0 m n p hm hn hp s (i + 1) (by omega) (by omega)
theorem lawRing (a b c : List Int) (ha : ∀ d ∈ a, 0 ≤ d ∧ d ≤ 65535) (hb : ∀ d ∈ b, 0 ≤ d ∧ d ≤ 65535) (hc : ∀ d ∈ c, 0 ≤ d ∧ d ≤ 65535) : Ev (fun k => ancepslaw02_NaturalRing.f k a b c) true := by
  have hbad : ∀ x : Bool, x = true → Ev (fun k => ancepslaw02_NaturalRing.j0 k a b c x) true := fun x hx => by
    apply Ev.step
    simp only [ancepslaw02_NaturalRing.j0]
    exact Ev.yes hx (Ev.bind awake_ev (Ev.pure _))
  simp only [ancepslaw02_NaturalRing.f]
  refine Ev.bind awake_ev (Ev.yes rfl ?_)
  by_cases h1 : (a.length : Int) > 60
  · exact Ev.yes h1 (hbad _ rfl)
  refine Ev.no h1 ?_
  by_cases h2 : (b.length : Int) > 60
  · exact Ev.yes h2 (hbad _ rfl)
  refine Ev.no h2 ?_
  by_cases h3 : (c.length : Int) > 60
  · exact hbad _ (decide_eq_true h3)
  rw [decide_eq_false h3]
  obtain ⟨m, em, lm⟩ := Made_ev a (by omega) ha
  obtain ⟨n, en, ln⟩ := Made_ev b (by omega) hb
  obtain ⟨p, ep, lp⟩ := Made_ev c (by omega) hc
  have hm : (digs m).length ≤ 60 := by omega
  have hn : (digs n).length ≤ 60 := by omega
  have hp : (digs p).length ≤ 60 := by omega
  have s1 := add_len m n 60 hm hn
  have s2 := add_len n p 60 hn hp
  have s3 := add_len (m + n) p 61 s1 (by omega)
  have p1 := mul_len m n
  have p2 := mul_len m p
  have p3 := mul_len n p
  have p4 := mul_len m (n + p)
  have p5 := mul_len (m * n) p
  apply Ev.step
  simp only [ancepslaw02_NaturalRing.j0]
  refine Ev.no (by simp) ?_
  refine Ev.bind em (Ev.bind en (Ev.bind ep ?_))
  refine Ev.bind (AddN m n (by omega) (by omega)) (Ev.bind (AddN n m (by omega) (by omega)) (Ev.bind (AddN n p (by omega) (by omega)) ?_))
  refine Ev.bind (AddN (m + n) p (by omega) (by omega)) (Ev.bind (AddN m (n + p) (by omega) (by omega)) ?_)
  refine Ev.yes rfl (Ev.yes rfl (Ev.yes rfl (Ev.yes rfl (Ev.yes rfl ?_))))
  have c1 := SameN (m + n) (by omega)
  have c2 := SameN (m + n + p) (by omega)
  rw [Nat.add_comm n m, ← Nat.add_assoc m n p]
  refine Ev.bind c1 (Ev.yes rfl (Ev.bind c2 (Ev.yes rfl ?_)))
  refine Ev.bind (SubN (m + n) n (by omega) (by omega)) ?_
  refine Ev.bind (MulN m n (by omega)) (Ev.bind (MulN m p (by omega)) (Ev.bind (MulN n m (by omega)) (Ev.bind (MulN m (n + p) (by omega)) ?_)))
  refine Ev.bind (AddN (m * n) (m * p) (by omega) (by omega)) (Ev.bind (MulN (m * n) p (by omega)) (Ev.bind (MulN n p (by omega)) (Ev.bind (MulN m (n * p) (by omega)) (Ev.bind (Ev.pure _) ?_))))
  rw [Nat.add_sub_cancel]
  exact ring_l0 m n p hm hn hp 9 0 rfl (by omega)
end Go.Proofs.YtlogclmmeikbpaaDoor.Pu

