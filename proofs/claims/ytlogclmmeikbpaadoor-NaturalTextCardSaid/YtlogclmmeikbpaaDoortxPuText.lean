/- What the reference's Format answers, and that Parse leads back from a number's text; the law NaturalText. No condition. -/
import Derived.Test.YtlogclmmeikbpaaDoortxPuValid
import Derived.Test.YtlogclmmeikbpaaDoortxPx9
namespace Go.Proofs.YtlogclmmeikbpaaDoor.Pu
open Go.RowKit Go.Proofs.YtlogclmmeikbpaaDoorW.PrintWords Go.Proofs.YtlogclmmeikbpaaDoor.Given Go.Proofs.YtlogclmmeikbpaaDoor.P
set_option linter.unusedVariables false

theorem ofNat_toNat (n : Nat) (h : n < 256) : (UInt8.ofNat n).toNat = n := by
  rw [UInt8.toNat_ofNat']
  omega
theorem dec_decDigits (n : Nat) : Dec (Lib.decDigits n) := by
  induction n using Nat.strongRecOn with
  | ind n ih =>
    unfold Lib.decDigits
    split
    · intro c hc
      rw [List.mem_singleton.1 hc, ofNat_toNat _ (by omega)]
      omega
    · intro c hc
      rcases List.mem_append.1 hc with h | h
      · exact ih (n / 10) (by omega) c h
      · rw [List.mem_singleton.1 h, ofNat_toNat _ (by omega)]
        omega
theorem dv_decDigits (n : Nat) : dv (Lib.decDigits n) = n := by
  induction n using Nat.strongRecOn with
  | ind n ih =>
    unfold Lib.decDigits
    split
    · show 0 * 10 + ((UInt8.ofNat (48 + n)).toNat - 48) = n
      rw [ofNat_toNat _ (by omega)]
      omega
    · rw [dv_snoc, ih (n / 10) (by omega), ofNat_toNat _ (by omega)]
      omega
theorem decDigits_ne (n : Nat) : Lib.decDigits n ≠ [] := by
  unfold Lib.decDigits
  split <;> simp
theorem decDigits_head (n : Nat) (h : 0 < n) : (Lib.decDigits n).head? ≠ some 48 := by
  induction n using Nat.strongRecOn with
  | ind n ih =>
    unfold Lib.decDigits
    split
    · intro e
      simp only [List.head?_cons, Option.some.injEq] at e
      have := congrArg UInt8.toNat e
      rw [ofNat_toNat _ (by omega), show (48 : UInt8).toNat = 48 from rfl] at this
      omega
    · have := ih (n / 10) (by omega) (by omega)
      rw [List.head?_append]
      have hne := decDigits_ne (n / 10)
      cases hd : (Lib.decDigits (n / 10)).head? with
      | none => exact absurd (List.head?_eq_none_iff.1 hd) hne
      | some x => rw [hd] at this; exact this
theorem dv_zeros (m : Nat) (l : List UInt8) : dv (List.replicate m 48 ++ l) = dv l := by
  induction m with
  | zero => rfl
  | succ m ih => rw [List.replicate_succ, List.cons_append, dv_cons, ih]; simp
theorem dec_zeros (m : Nat) : Dec (List.replicate m 48) := by
  intro c hc
  rw [List.eq_of_mem_replicate hc]
  decide
theorem dec_join {a b : List UInt8} (ha : Dec a) (hb : Dec b) : Dec (a ++ b) := fun x hx => by
  rcases List.mem_append.1 hx with h | h
  · exact ha x h
  · exact hb x h
theorem pad4_form (d : Int) (h0 : 0 ≤ d) (h1 : d < 10000) : pad4 d = List.replicate (4 - (Lib.decDigits d.toNat).length) 48 ++ Lib.decDigits d.toNat := by
  obtain ⟨n, rfl⟩ := Int.eq_ofNat_of_zero_le h0
  unfold pad4
  rw [itoa_nat, Int.toNat_natCast]
  congr 1
  show List.drop _ (List.replicate 4 48) = _
  rw [List.drop_replicate]
theorem dec_pad4 (d : Int) (h0 : 0 ≤ d) (h1 : d < 10000) : Dec (pad4 d) := by
  rw [pad4_form d h0 h1]
  exact dec_join (dec_zeros _) (dec_decDigits _)
theorem dv_pad4 (d : Int) (h0 : 0 ≤ d) (h1 : d < 10000) : (dv (pad4 d) : Int) = d := by
  rw [pad4_form d h0 h1, dv_zeros, dv_decDigits]
  omega
/-- Four places, written out. -/
def p4 (n : Nat) : List UInt8 := [UInt8.ofNat (48 + n / 1000 % 10), UInt8.ofNat (48 + n / 100 % 10), UInt8.ofNat (48 + n / 10 % 10), UInt8.ofNat (48 + n % 10)]
theorem p4_pad4 (n : Nat) (h : n < 10000) : pad4 (n : Int) = p4 n := by
  have hD : Dec (p4 n) := by
    intro c hc
    simp only [p4, List.mem_cons, List.not_mem_nil, or_false] at hc
    rcases hc with rfl | rfl | rfl | rfl <;> rw [ofNat_toNat _ (by omega)] <;> omega
  have hv : dv (p4 n) = n := by
    unfold p4
    rw [dv_cons, dv_cons, dv_cons, dv_cons]
    simp only [List.length_cons, List.length_nil]
    rw [ofNat_toNat _ (by omega), ofNat_toNat _ (by omega), ofNat_toNat _ (by omega), ofNat_toNat _ (by omega)]
    show _ + (_ + (_ + (_ + 0))) = n
    omega
  have := pad4_dv hD rfl
  rwa [hv] at this
theorem fmtL_snoc (l : List Int) (d : Int) : fmtL (l ++ [d]) = Lib.itoa d ++ l.reverse.flatMap pad4 := by
  unfold fmtL
  rw [List.reverse_append]
  rfl
theorem fmtL_back {l : List Int} (h : Dig l) (hl : l.getLast? ≠ some 0) (h0 : l ≠ []) : nums (fmtL l) = l ∧ Dec (fmtL l) ∧ fmtL l ≠ [] ∧ (fmtL l).head? ≠ some 48 ∧ (fmtL l).length ≤ 4 * l.length := by
  induction l with
  | nil => exact absurd rfl h0
  | cons c l ih =>
    have hc := h.head
    by_cases hn : l = []
    · subst hn
      have e : fmtL [c] = Lib.itoa c := by unfold fmtL; simp
      have hlen := itoa_len c hc.1 hc.2
      obtain ⟨n, rfl⟩ := Int.eq_ofNat_of_zero_le hc.1
      rw [e]
      rw [itoa_nat] at *
      have hne := decDigits_ne n
      have hn0 : 0 < n := by
        rcases Nat.eq_zero_or_pos n with h | h
        · subst h; simp at hl
        · exact h
      refine ⟨?_, dec_decDigits n, hne, decDigits_head n hn0, by simpa using hlen⟩
      rw [nums_cons _ hne, show (Lib.decDigits n).length - 4 = 0 by omega, List.drop_zero, List.take_zero, nums_nil, dv_decDigits]
    · have hl' : l.getLast? ≠ some 0 := by
        rw [List.getLast?_cons] at hl
        intro e
        rw [e] at hl
        exact hl rfl
      obtain ⟨i1, i2, i3, i4, i5⟩ := ih h.tail hl' hn
      rw [fmtL_cons c l hn]
      have hp := pad4_len c hc.1 hc.2
      refine ⟨?_, dec_join i2 (dec_pad4 c hc.1 hc.2), by simp [i3], ?_, by rw [List.length_append, hp, List.length_cons]; omega⟩
      · rw [nums_cons _ (by simp [i3]), List.length_append, hp, Nat.add_sub_cancel, List.drop_left', List.take_left', i1, dv_pad4 c hc.1 hc.2]
        · rfl
        · rfl
      · rw [List.head?_append]
        cases hd : (fmtL l).head? with
        | none => exact absurd (List.head?_eq_none_iff.1 hd) i3
        | some x => rw [hd] at i4; exact i4
theorem parse_fmt {l : List Int} (h : validB l = true) : parseL (fmtL l) = (l, 0) := by
  unfold validB at h
  simp only [Bool.and_eq_true, decide_eq_true_eq, Bool.not_eq_true', beq_eq_false_iff_ne, List.all_eq_true] at h
  obtain ⟨⟨h1, h2⟩, h3⟩ := h
  by_cases h0 : l = []
  · subst h0
    have e : fmtL [] = [48] := rfl
    have e2 : nums [48] = [0] := by rw [nums_cons _ (by simp)]; simp [nums_nil, dv, dvF]
    unfold parseL
    rw [e, e2]
    rfl
  · obtain ⟨i1, i2, i3, i4, i5⟩ := fmtL_back (l := l) h3 h2 h0
    unfold parseL
    have hb : bad (fmtL l) = false := by
      unfold bad
      rw [dec_all.2 i2]
      have : (fmtL l).isEmpty = false := by simpa using i3
      rw [this]
      have h4 : ((fmtL l).head? == some 48) = false := by simpa using i4
      rw [h4]
      simp
    rw [hb, if_neg (by decide), if_neg (by omega), i1]
    have := norm_digs (l := l) h3 h2
    rw [this, tr_digs_id]
/-- The stripping of zeros. -/
theorem strip_ev (t : List UInt8) (h0 : t ≠ []) (hh : t.head? ≠ some 48) (ht : t.length ≤ 100000) : ∀ (m : Nat) (s : ByteArray), m ≤ 100000 → s.data.toList = List.replicate m 48 ++ t → Ev (fun k => ancepsref02_Format.l2 k s) (⟨t.toArray⟩, 0)
  | 0, s, _, hs => by
    rw [List.replicate_zero, List.nil_append] at hs
    have e : s = ⟨t.toArray⟩ := by rw [← hs]
    apply Ev.step
    simp only [ancepsref02_Format.l2]
    rw [size_ s, toList_]
    have hp := List.length_pos_iff.2 h0
    have hfin : Ev (fun k => if s.data.toList = ([] : List UInt8) then some ((⟨#[48]⟩ : ByteArray), (0 : Int)) else some (s, 0)) (⟨t.toArray⟩, 0) := by
      refine Ev.no (by rw [hs]; exact h0) ?_
      rw [e]
      exact Ev.pure _
    by_cases h1 : (s.data.toList.length : Int) > 1
    · refine Ev.yes h1 (Ev.yes (by omega) ?_)
      have hp' : 0 < s.data.toList.length := by omega
      have hb : bt s 0 = (s.data.toList[0]).toNat := bt_ s 0 hp'
      rw [hb]
      refine Ev.no ?_ hfin
      intro e48
      have hx : s.data.toList[0] = 48 := UInt8.toNat_inj.1 (by rw [show (48 : UInt8).toNat = 48 from rfl]; omega)
      apply hh
      rw [← hs, List.head?_eq_getElem?, List.getElem?_eq_getElem hp', hx]
    · exact Ev.no h1 hfin
  | m + 1, s, hm, hs => by
    apply Ev.step
    simp only [ancepsref02_Format.l2]
    rw [size_ s]
    have hp := List.length_pos_iff.2 h0
    have hl : s.data.toList.length = m + 1 + t.length := by rw [hs, List.length_append, List.length_replicate]
    refine Ev.yes (by omega) (Ev.yes (by omega) ?_)
    have hp' : 0 < s.data.toList.length := by omega
    have hb : bt s 0 = (s.data.toList[0]).toNat := bt_ s 0 hp'
    rw [hb]
    have hx : s.data.toList[0] = 48 := by simp only [hs, List.replicate_succ, List.cons_append, List.getElem_cons_zero]
    refine Ev.yes (by rw [hx]; rfl) (Ev.yes (by omega) ?_)
    refine strip_ev t h0 hh ht m _ (by omega) ?_
    rw [extract_, hl, hs, List.replicate_succ, List.cons_append, List.drop_one, List.tail_cons, List.take_of_length_le]
    rw [List.length_append, List.length_replicate]
    omega
theorem cons_bytes (c : UInt8) (s : ByteArray) : ((⟨#[c]⟩ : ByteArray) ++ s).data.toList = c :: s.data.toList := by
  rw [ByteArray.data_append, Array.toList_append]
  rfl
theorem digit_step (n : Nat) (h : n < 10000) : (wrap64 (48 + Int.tmod (n : Int) 10)) % 256 = ((48 + n % 10 : Nat) : Int) ∧ wrap64 (Int.tdiv (n : Int) 10) = ((n / 10 : Nat) : Int) := by
  have e1 : Int.tmod (n : Int) 10 = ((n % 10 : Nat) : Int) := tmod_ n 10
  have e2 : Int.tdiv (n : Int) 10 = ((n / 10 : Nat) : Int) := tdiv_ n 10
  rw [e1, e2, w64 (by omega) (by omega), w64 (by omega) (by omega)]
  exact ⟨by omega, rfl⟩
theorem strOf_one (n : Nat) (h : n < 256) : strOfNums [(n : Int)] = (⟨#[UInt8.ofNat n]⟩ : ByteArray) := by
  unfold strOfNums
  simp
theorem fmt_step (l : List Int) (i j n : Nat) (s : ByteArray) (r : ByteArray × Int) (hj : j < 4) (hn : n < 10000) (hs : s.data.toList.length ≤ 100000)
    (h : Ev (fun k => ancepsref02_Format.l1 k ((⟨#[UInt8.ofNat (48 + n % 10)]⟩ : ByteArray) ++ s) (i : Int) ((n / 10 : Nat) : Int) ((j + 1 : Nat) : Int) l) r) : Ev (fun k => ancepsref02_Format.l1 k s (i : Int) (n : Int) (j : Int) l) r := by
  apply Ev.step
  simp only [ancepsref02_Format.l1]
  obtain ⟨e1, e2⟩ := digit_step n hn
  refine Ev.yes (by omega) ?_
  rw [e1, e2, w64 (by omega) (by omega)]
  refine Ev.bind (Ev.pure _) ?_
  rw [strOf_one _ (by omega)]
  refine Ev.yes ?_ ?_
  · have h1 := size_ s
    have h2 : (⟨#[UInt8.ofNat (48 + n % 10)]⟩ : ByteArray).size = 1 := rfl
    omega
  · exact h
theorem fmt_digit (l : List Int) (i n : Nat) (s : ByteArray) (r : ByteArray × Int) (hn : n < 10000) (hs : s.data.toList.length ≤ 90000)
    (h : ∀ s' : ByteArray, s'.data.toList = p4 n ++ s.data.toList → Ev (fun k => ancepsref02_Format.l0 k s' (wrap64 ((i : Int) + 1)) l) r) : Ev (fun k => ancepsref02_Format.l1 k s (i : Int) (n : Int) 0 l) r := by
  refine fmt_step l i 0 n s r (by omega) hn (by omega) ?_
  refine fmt_step l i 1 (n / 10) _ r (by omega) (by omega) (by rw [cons_bytes, List.length_cons]; omega) ?_
  refine fmt_step l i 2 (n / 10 / 10) _ r (by omega) (by omega) (by rw [cons_bytes, cons_bytes, List.length_cons, List.length_cons]; omega) ?_
  refine fmt_step l i 3 (n / 10 / 10 / 10) _ r (by omega) (by omega) (by rw [cons_bytes, cons_bytes, cons_bytes, List.length_cons, List.length_cons, List.length_cons]; omega) ?_
  apply Ev.step
  simp only [ancepsref02_Format.l1]
  refine Ev.no (by omega) ?_
  refine h _ ?_
  rw [cons_bytes, cons_bytes, cons_bytes, cons_bytes]
  unfold p4
  rw [show n / 10 / 10 / 10 % 10 = n / 1000 % 10 by omega, show n / 10 / 10 % 10 = n / 100 % 10 by omega]
  rfl
theorem fmt_l0_ev (l : List Int) (hD : Dig l) (hl : l.length ≤ 1000) (r : ByteArray × Int) : ∀ (m i : Nat) (s : ByteArray), l.length - i = m → i ≤ l.length → s.data.toList = (l.take i).reverse.flatMap pad4 → 
    (∀ s' : ByteArray, s'.data.toList = l.reverse.flatMap pad4 → Ev (fun k => ancepsref02_Format.l2 k s') r) → Ev (fun k => ancepsref02_Format.l0 k s (i : Int) l) r
  | 0, i, s, hm, hi, hs, h => by
    apply Ev.step
    simp only [ancepsref02_Format.l0]
    refine Ev.no (by omega) ?_
    refine h s ?_
    rw [hs, List.take_of_length_le (by omega)]
  | m + 1, i, s, hm, hi, hs, h => by
    have hil : i < l.length := by omega
    have hd := hD _ (List.getElem_mem hil)
    have e1 : l.take (i + 1) = l.take i ++ [l[i]] := by simp
    apply Ev.step
    simp only [ancepsref02_Format.l0]
    refine Ev.yes (by omega) (Ev.yes (by omega) ?_)
    rw [rd_at l i hil]
    generalize hx : l[i] = x at hd e1
    obtain ⟨n, rfl⟩ := Int.eq_ofNat_of_zero_le hd.1
    have hlen : s.data.toList.length = 4 * i := by
      rw [hs, flat_len _ (fun d hd => hD d (List.mem_of_mem_take (List.mem_reverse.1 hd))), List.length_reverse, List.length_take, Nat.min_eq_left hi]
    refine fmt_digit l i n s r (by omega) (by omega) fun s' hs' => ?_
    rw [w64 (by omega) (by omega)]
    refine fmt_l0_ev l hD hl r m (i + 1) s' (by omega) (by omega) ?_ h
    rw [hs', hs, e1, List.reverse_append, List.reverse_singleton, List.singleton_append, List.flatMap_cons, p4_pad4 n (by omega)]
theorem refFormat_ev (l : List Int) (h : l.length ≤ 1000000000000000) : Ev (fun k => ancepsref02_Format.f k l) (if validB l = true then (⟨(fmtL l).toArray⟩, 0) else (⟨#[]⟩, 1)) := by
  simp only [ancepsref02_Format.f]
  refine Ev.bind (refValid_ev l h) ?_
  by_cases hv : validB l = true
  · rw [if_pos hv]
    refine Ev.yes hv ?_
    have hvv := hv
    unfold validB at hvv
    simp only [Bool.and_eq_true, decide_eq_true_eq, Bool.not_eq_true', beq_eq_false_iff_ne, List.all_eq_true] at hvv
    obtain ⟨⟨h1, h2⟩, h3⟩ := hvv
    have hD : Dig l := h3
    refine fmt_l0_ev l hD (by omega) _ l.length 0 ⟨#[]⟩ rfl (Nat.zero_le _) (by rw [List.take_zero]; rfl) fun s' hs' => ?_
    rcases List.eq_nil_or_concat l with rfl | ⟨l', d, rfl⟩
    · have : s' = ⟨#[]⟩ := by
        have : s'.data.toList = [] := hs'
        have h5 : s' = ⟨s'.data.toList.toArray⟩ := rfl
        rw [h5, this]
      rw [this]
      apply Ev.step
      simp only [ancepsref02_Format.l2]
      refine Ev.no (by decide) ?_
      refine Ev.yes (by rw [toList_]) ?_
      exact Ev.pure _
    · rw [List.concat_eq_append] at *
      have hd := hD d (by simp)
      have hd0 : d ≠ 0 := by intro e; subst e; simp at h2
      rw [List.reverse_append, List.reverse_singleton, List.singleton_append, List.flatMap_cons, pad4_form d hd.1 hd.2, List.append_assoc] at hs'
      have hit : Lib.itoa d = Lib.decDigits d.toNat := by
        obtain ⟨n, rfl⟩ := Int.eq_ofNat_of_zero_le hd.1
        rw [itoa_nat]
        rfl
      rw [fmtL_snoc, hit]
      have hlen := fmtL_back hD h2 (by simp)
      have hl5 := hlen.2.2.2.2
      rw [fmtL_snoc, hit] at hl5
      refine strip_ev _ ?_ ?_ (by omega) _ s' (by omega) hs'
      · have := decDigits_ne d.toNat
        simp [this]
      · have := hlen.2.2.2.1
        rwa [fmtL_snoc, hit] at this
  · rw [if_neg hv]
    refine Ev.no hv ?_
    exact Ev.pure _
theorem nFormat_eq (l : List Int) : natural_Format.f l = some (if validB l = true then (⟨(fmtL l).toArray⟩, 0) else (⟨#[]⟩, 1)) := by
  unfold natural_Format.f
  split <;> rfl
theorem copied_ev (l : List Int) (h : l.length ≤ 1000000000000) : ancepslaw02_copied.f l = some l := by
  unfold ancepslaw02_copied.f slices_Clone_int_int.f
  rw [if_pos (by omega)]
  rfl
/-- The law. -/
theorem lawText (l : List Int) (h : l.length ≤ 1000000000000000) : Ev (fun k => ancepslaw02_NaturalText.f k l) true := by
  simp only [ancepslaw02_NaturalText.f]
  refine Ev.bind awake_ev (Ev.yes (by simp) ?_)
  refine Ev.bind (few1_ev l h) ?_
  by_cases hf : (l.length : Int) ≤ 420
  · refine Ev.yes (decide_eq_true hf) ?_
    refine Ev.bind (Ev.of_eq (copied_ev l (by omega))) ?_
    refine Ev.bind (Ev.of_eq (nFormat_eq l)) (Ev.bind (refFormat_ev l h) ?_)
    refine Ev.yes rfl (Ev.yes rfl ?_)
    apply Ev.step
    simp only [ancepslaw02_NaturalText.j0]
    by_cases hv : validB l = true
    · rw [if_pos hv]
      refine Ev.no (by simp) ?_
      have hb := valid_digits hv
      have hlen : (fmtL l).length ≤ 1000 := by
        have hvv := hv
        unfold validB at hvv
        simp only [Bool.and_eq_true, decide_eq_true_eq, Bool.not_eq_true', beq_eq_false_iff_ne, List.all_eq_true] at hvv
        by_cases h0 : l = []
        · subst h0; decide
        · have := (fmtL_back (l := l) hvv.2 hvv.1.2 h0).2.2.2.2
          omega
      have hP := Parse_ev ⟨(fmtL l).toArray⟩ hlen
      have e : parseL (⟨(fmtL l).toArray⟩ : ByteArray).data.toList = (l, 0) := parse_fmt hv
      rw [e] at hP
      refine Ev.bind hP (Ev.yes rfl ?_)
      exact Ev.bind (Same_yes l (by omega)) (Ev.pure _)
    · rw [if_neg hv]
      refine Ev.yes (by simp) (Ev.yes trivial ?_)
      exact Ev.pure _
  · exact Ev.no (by simpa using hf) (Ev.bind awake_ev (Ev.pure _))
end Go.Proofs.YtlogclmmeikbpaaDoor.Pu

