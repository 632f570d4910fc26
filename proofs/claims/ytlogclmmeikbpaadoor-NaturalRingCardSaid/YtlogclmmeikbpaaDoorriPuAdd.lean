/- What the sums and differences answer, as plain laws over the printed functions. No condition. -/
import Derived.Test.YtlogclmmeikbpaaDoorriPuMul
import Derived.Test.YtlogclmmeikbpaaDoorriPx3
import Derived.Test.YtlogclmmeikbpaaDoorriPx0
import Derived.Test.YtlogclmmeikbpaaDoorriGiven
import Derived.Test.YtlogclmmeikbpaaDoorriPx1
import Derived.Test.YtlogclmmeikbpaaDoorriPx4
import Derived.Test.YtlogclmmeikbpaaDoorriPx6
import Derived.Test.YtlogclmmeikbpaaDoorriPx15
import Derived.Test.YtlogclmmeikbpaaDoorriPuText
namespace Go.Proofs.YtlogclmmeikbpaaDoor.Pu
open Go.RowKit Go.Proofs.YtlogclmmeikbpaaDoorW.PrintWords Go.Proofs.YtlogclmmeikbpaaDoor.Given Go.Proofs.YtlogclmmeikbpaaDoor.P
set_option linter.unusedVariables false

theorem rd_out (l : List Int) (i : Nat) (h : l.length ≤ i) : rd l (i : Int) = 0 := by
  unfold rd
  rw [List.getD_eq_getElem?_getD, Int.toNat_natCast, List.getElem?_eq_none h]
  rfl
theorem vt_succ (l : List Int) (i : Nat) : val (l.take (i + 1)) = val (l.take i) + 10000 ^ i * rd l i := by
  by_cases h : i < l.length
  · exact take_succ_val h
  · rw [rd_out l i (by omega), Int.mul_zero, Int.add_zero, List.take_of_length_le (by omega), List.take_of_length_le (by omega)]
theorem val_snoc (l : List Int) (d : Int) : val (l ++ [d]) = val l + 10000 ^ l.length * d := by
  rw [val_append]
  simp [val]
theorem full {l : List Int} (h : Dig l) (h0 : l ≠ []) (hv : 10000 ^ (l.length - 1) ≤ val l) : l = digs (val l).toNat := by
  refine norm_digs h ?_
  intro e
  rcases List.eq_nil_or_concat l with rfl | ⟨l', x, rfl⟩
  · exact h0 rfl
  · rw [List.concat_eq_append] at *
    have hx : x = 0 := by simpa using e
    subst hx
    have := val_lt (Dig.append h).1
    rw [val_snoc, List.length_append, List.length_singleton, Nat.add_sub_cancel] at hv
    omega
/-- One place of a sum. -/
theorem plus {c x y : Int} (hc : 0 ≤ c) (hc1 : c ≤ 1) (hx : 0 ≤ x) (hx1 : x < 10000) (hy : 0 ≤ y) (hy1 : y < 10000) :
    ∃ q r : Int, 0 ≤ q ∧ q ≤ 1 ∧ 0 ≤ r ∧ r < 10000 ∧ c + x + y = 10000 * q + r ∧ wrap64 (wrap64 (c + x) + y) = c + x + y ∧ wrap64 (wrap64 (x + y) + c) = c + x + y ∧ Int.tmod (c + x + y) 10000 = r ∧ wrap64 (Int.tdiv (c + x + y) 10000) = q := by
  obtain ⟨n, hn⟩ := Int.eq_ofNat_of_zero_le (show 0 ≤ c + x + y by omega)
  have e1 : Int.tmod (n : Int) 10000 = ((n % 10000 : Nat) : Int) := tmod_ n 10000
  have e2 : Int.tdiv (n : Int) 10000 = ((n / 10000 : Nat) : Int) := tdiv_ n 10000
  refine ⟨((n / 10000 : Nat) : Int), ((n % 10000 : Nat) : Int), by omega, by omega, by omega, by omega, by omega, ?_, ?_, ?_, ?_⟩
  · rw [w64 (n := c + x) (by omega) (by omega), w64 (by omega) (by omega)]
  · rw [w64 (n := x + y) (by omega) (by omega), w64 (by omega) (by omega)]
    omega
  · rw [hn, e1]
  · rw [hn, e2, w64 (by omega) (by omega)]
structure Sum (a b out : List Int) (i : Nat) (c : Int) : Prop where
  len : out.length = i
  dig : Dig out
  c0 : 0 ≤ c
  c1 : c ≤ 1
  eq : val out + c * 10000 ^ i = val (a.take i) + val (b.take i)
theorem Sum.start (a b : List Int) : Sum a b [] 0 0 := ⟨rfl, Dig.nil, by decide, by decide, by simp [val]⟩
theorem Sum.next {a b out : List Int} {i : Nat} {c q r : Int} (h : Sum a b out i c) (q0 : 0 ≤ q) (q1 : q ≤ 1) (r0 : 0 ≤ r) (r1 : r < 10000) (he : c + rd a i + rd b i = 10000 * q + r) : Sum a b (out ++ [r]) (i + 1) q := by
  refine ⟨by rw [List.length_append, h.len]; rfl, h.dig.join (Dig.one r0 r1), q0, q1, ?_⟩
  have h1 := h.eq
  rw [val_snoc, h.len, vt_succ a i, vt_succ b i, Int.pow_succ]
  clear h
  generalize rd a (i : Int) = x at *
  generalize rd b (i : Int) = y at *
  generalize (10000 : Int) ^ i = P at *
  generalize val (a.take i) = A at *
  generalize val (b.take i) = B at *
  generalize val out = U at *
  grind
theorem add_l0_ev (a b : List Int) (ha : Dig a) (hb : Dig b) (la : a.length ≤ 1000000) (lb : b.length ≤ a.length) : ∀ (m i : Nat) (out : List Int) (c : Int), a.length - i = m → i ≤ a.length → Sum a b out i c →
    ∃ r, Ev (fun k => natural_add.l0 k b out c a (a.length : Int) (i : Int)) r ∧ Dig r ∧ val r = val a + val b ∧ (r.length = a.length ∨ r.length = a.length + 1 ∧ 10000 ^ a.length ≤ val r)
  | 0, i, out, c, hm, hi, h => by
    have hia : i = a.length := by omega
    subst hia
    have hlen := h.len
    have hc0 := h.c0
    have hc1 := h.c1
    have h1 := h.eq
    rw [List.take_length, List.take_of_length_le (l := b) (by omega)] at h1
    by_cases hc : c > 0
    · refine ⟨out ++ [c], ?_, h.dig.join (Dig.one hc0 (by omega)), ?_, .inr ⟨by rw [List.length_append, hlen]; rfl, ?_⟩⟩
      · apply Ev.step
        simp only [natural_add.l0]
        refine Ev.no (by omega) (Ev.yes hc (Ev.yes (by omega) ?_))
        exact Ev.pure _
      · rw [val_snoc, hlen, ← h1, Int.mul_comm]
      · have := val_nonneg h.dig
        have e : c = 1 := by omega
        rw [val_snoc, hlen, e]
        omega
    · refine ⟨out, ?_, h.dig, ?_, .inl hlen⟩
      · apply Ev.step
        simp only [natural_add.l0]
        exact Ev.no (by omega) (Ev.no hc (Ev.pure _))
      · have e : c = 0 := by omega
        rw [← h1, e]
        omega
  | m + 1, i, out, c, hm, hi, h => by
    have hx := dig_rd ha i
    have hy := dig_rd hb i
    have hlen := h.len
    obtain ⟨q, r', q0, q1, r0, r1, he, ew, _, em, ed⟩ := plus h.c0 h.c1 hx.1 hx.2 hy.1 hy.2
    obtain ⟨r, hr, hr2⟩ := add_l0_ev a b ha hb la lb m (i + 1) (out ++ [r']) q (by omega) (by omega) (h.next q0 q1 r0 r1 he)
    refine ⟨r, ?_, hr2⟩
    apply Ev.step
    simp only [natural_add.l0]
    refine Ev.yes (by omega) (Ev.yes (by omega) (Ev.yes (by omega) ?_))
    by_cases hb' : i < b.length
    · refine Ev.yes (by omega) (Ev.yes (by omega) ?_)
      rw [ew, em, ed, w64 (by omega) (by omega)]
      exact hr
    · refine Ev.no (by omega) (Ev.yes (by omega) ?_)
      have e0 := rd_out b i (by omega)
      have hc0 := h.c0
      have hc1 := h.c1
      rw [e0, Int.add_zero] at em ed
      rw [w64 (n := c + rd a i) (by omega) (by omega), em, ed, w64 (by omega) (by omega)]
      exact hr
theorem add_j0_ev (m n : Nat) (hl : (digs n).length ≤ (digs m).length) (lm : (digs m).length ≤ 1000000) : Ev (fun k => natural_add.j0 k (digs m) (digs n)) (digs (m + n)) := by
  obtain ⟨r, hr, hd, hv, hlr⟩ := add_l0_ev (digs m) (digs n) (dig_digs m) (dig_digs n) lm hl (digs m).length 0 [] 0 rfl (Nat.zero_le _) (Sum.start _ _)
  rw [val_digs, val_digs] at hv
  have er : r = digs (m + n) := by
    by_cases h0 : r = []
    · subst h0
      have : m + n = 0 := by have := hv; simp only [val] at this; omega
      rw [this, digs_zero]
    · have := full hd h0 (by
        rcases hlr with h1 | ⟨h1, h2⟩
        · have hm : m ≠ 0 := by
            intro e
            subst e
            rw [digs_zero] at h1
            exact h0 (List.eq_nil_of_length_eq_zero (by simpa using h1))
          have := len_le m hm
          rw [h1, hv]
          omega
        · rw [h1, Nat.add_sub_cancel]
          exact h2)
      rw [this, hv]
      congr 1
  rw [← er]
  apply Ev.step
  simp only [natural_add.j0]
  rw [w64 (by omega) (by omega)]
  refine Ev.yes (by omega) (Ev.yes (by omega) ?_)
  exact hr
theorem add_ev (m n : Nat) (lm : (digs m).length ≤ 1000000) (ln : (digs n).length ≤ 1000000) : Ev (fun k => natural_add.f k (digs m) (digs n)) (digs (m + n)) := by
  simp only [natural_add.f]
  by_cases h : (digs m).length < (digs n).length
  · refine Ev.yes (by omega) ?_
    rw [Nat.add_comm]
    exact add_j0_ev n m (by omega) ln
  · refine Ev.no (by omega) ?_
    exact add_j0_ev m n (by omega) lm
theorem minus {c x y : Int} (hc : 0 ≤ c) (hc1 : c ≤ 1) (hx : 0 ≤ x) (hx1 : x < 10000) (hy : 0 ≤ y) (hy1 : y < 10000) :
    (x - c - y < 0 ∧ 0 ≤ x - c - y + 10000 ∧ x - c - y + 10000 < 10000) ∨ (¬ x - c - y < 0 ∧ 0 ≤ x - c - y ∧ x - c - y < 10000) := by omega
theorem sub_l0_ev (a b : List Int) (ha : Dig a) (hb : Dig b) (la : a.length ≤ 1000000) (lb : b.length ≤ a.length) (hv : val b ≤ val a) : ∀ (m i : Nat) (out : List Int) (c : Int), a.length - i = m → i ≤ a.length → out.length = a.length → Dig out → 0 ≤ c → c ≤ 1 →
    (∀ p : Nat, i ≤ p → rd out p = rd a p) → val out - c * 10000 ^ i = val a - val (b.take i) →
    Ev (fun k => natural_sub.l0 k b out c (a.length : Int) (i : Int)) (digs (val a - val b).toNat)
  | 0, i, out, c, hm, hi, hl, hd, c0, c1, hp, he => by
    have hia : i = a.length := by omega
    subst hia
    rw [List.take_of_length_le (l := b) (by omega)] at he
    have h2 := val_lt hd
    rw [hl] at h2
    have hc : c = 0 := by
      rcases (by omega : c = 0 ∨ c = 1) with h | h
      · exact h
      · subst h; omega
    subst hc
    have e : digs (val a - val b).toNat = tr out := by rw [tr_digs hd]; congr 1; omega
    rw [e]
    apply Ev.step
    simp only [natural_sub.l0]
    refine Ev.no (by omega) ?_
    exact Ev.bind (trimmed_ev out (by omega)) (Ev.pure _)
  | m + 1, i, out, c, hm, hi, hl, hd, c0, c1, hp, he => by
    have hx := dig_rd ha i
    have hy := dig_rd hb i
    have hri := hp i (Nat.le_refl _)
    have hil : i < out.length := by omega
    apply Ev.step
    simp only [natural_sub.l0]
    refine Ev.yes (by omega) (Ev.yes (by omega) (Ev.yes (by omega) ?_))
    rw [hri, w64 (n := rd a i - c) (by omega) (by omega), Int.toNat_natCast]
    refine Ev.bind (Ev.pure _) ?_
    have hs1 : rd (out.set i (rd a i - c)) (i : Int) = rd a i - c := by rw [rd_set _ _ _ _ hil, if_pos rfl]
    -- behind both ways the place holds x - c - y
    have fin : ∀ out2 : List Int, out2 = out.set i (rd a i - c - rd b i) → Ev (fun k => (if (rd out2 (i : Int)) < 0 then (natural_sub.l0 k b (out2.set i (wrap64 ((rd out2 (i : Int)) + 10000))) 1 (a.length : Int) (wrap64 ((i : Int) + 1))) else (natural_sub.l0 k b out2 0 (a.length : Int) (wrap64 ((i : Int) + 1))))) (digs (val a - val b).toNat) := by
      intro out2 h2
      have hs2 : rd out2 (i : Int) = rd a i - c - rd b i := by rw [h2, rd_set _ _ _ _ hil, if_pos rfl]
      rw [hs2]
      have hpow : (10000 : Int) ^ (i + 1) = 10000 ^ i * 10000 := Int.pow_succ ..
      rcases minus c0 c1 hx.1 hx.2 hy.1 hy.2 with ⟨h3, h4, h5⟩ | ⟨h3, h4, h5⟩
      · refine Ev.yes h3 ?_
        rw [w64 (n := rd a i - c - rd b i + 10000) (by omega) (by omega), w64 (by omega) (by omega), h2, List.set_set]
        refine sub_l0_ev a b ha hb la lb hv m (i + 1) _ 1 (by omega) (by omega) (by rw [List.length_set]; exact hl) (hd.set _ h4 h5) (by decide) (by decide) (fun p hpp => ?_) ?_
        · rw [rd_set _ _ _ _ hil, if_neg (by omega)]
          exact hp p (by omega)
        · rw [val_set _ _ _ hil, hri, vt_succ, hpow]
          clear h2 hs2 hs1 hp hri
          generalize rd a (i : Int) = x at *
          generalize rd b (i : Int) = y at *
          generalize (10000 : Int) ^ i = P at *
          generalize val (b.take i) = B at *
          generalize val out = U at *
          generalize val a = A at *
          grind
      · refine Ev.no h3 ?_
        rw [w64 (by omega) (by omega), h2]
        refine sub_l0_ev a b ha hb la lb hv m (i + 1) _ 0 (by omega) (by omega) (by rw [List.length_set]; exact hl) (hd.set _ h4 h5) (by decide) (by decide) (fun p hpp => ?_) ?_
        · rw [rd_set _ _ _ _ hil, if_neg (by omega)]
          exact hp p (by omega)
        · rw [val_set _ _ _ hil, hri, vt_succ, hpow]
          clear h2 hs2 hs1 hp hri
          generalize rd a (i : Int) = x at *
          generalize rd b (i : Int) = y at *
          generalize (10000 : Int) ^ i = P at *
          generalize val (b.take i) = B at *
          generalize val out = U at *
          generalize val a = A at *
          grind
    by_cases hb' : i < b.length
    · refine Ev.yes (by omega) ?_
      rw [hs1, w64 (n := rd a i - c - rd b i) (by omega) (by omega)]
      refine Ev.bind (Ev.pure _) ?_
      exact fin _ (by rw [List.set_set])
    · refine Ev.no (by omega) ?_
      refine fin _ ?_
      rw [rd_out b i (by omega), Int.sub_zero]
theorem sub_ev (m n : Nat) (h : n ≤ m) (lm : (digs m).length ≤ 1000000) : Ev (fun k => natural_sub.f k (digs m) (digs n)) (digs (m - n)) := by
  simp only [natural_sub.f]
  have hc : slices_Clone_int_int.f (digs m) = some (digs m) := by
    unfold slices_Clone_int_int.f
    rw [if_pos (by omega)]
  refine Ev.bind (Ev.of_eq hc) ?_
  have hl : (digs n).length ≤ (digs m).length := by
    rcases Nat.lt_or_ge (digs m).length (digs n).length with h2 | h2
    · have := len_mono h2
      omega
    · exact h2
  have := sub_l0_ev (digs m) (digs n) (dig_digs m) (dig_digs n) lm hl (by rw [val_digs, val_digs]; omega) _ 0 (digs m) 0 rfl (Nat.zero_le _) rfl (dig_digs m) (by decide) (by decide) (fun _ _ => rfl) (by simp [val])
  rw [val_digs, val_digs, show ((m : Int) - n).toNat = m - n by omega] at this
  exact this
end Go.Proofs.YtlogclmmeikbpaaDoor.Pu

