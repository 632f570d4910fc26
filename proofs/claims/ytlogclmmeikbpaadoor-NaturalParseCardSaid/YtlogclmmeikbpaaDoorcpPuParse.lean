/- What the two Parse functions answer, as plain laws over the printed functions. No condition. -/
import Derived.Test.YtlogclmmeikbpaaDoorcpPuBase
import Derived.Test.YtlogclmmeikbpaaDoorcpPx5
import Derived.Test.YtlogclmmeikbpaaDoorcpPx10
namespace Go.Proofs.YtlogclmmeikbpaaDoor.Pu
open Go.RowKit Go.Proofs.YtlogclmmeikbpaaDoorW.PrintWords Go.Proofs.YtlogclmmeikbpaaDoor.Given Go.Proofs.YtlogclmmeikbpaaDoor.P
set_option linter.unusedVariables false

theorem awake_ev : Ev (fun k => ancepslaw02_awake.f k) true := Ev.mono 64 (by kernel_rfl) ancepslaw02_awake.mono
theorem toList_ (s : ByteArray) : s.toList = s.data.toList := ByteArray.toList_eq s
theorem size_ (s : ByteArray) : s.size = s.data.toList.length := rfl
theorem extract_ (s : ByteArray) (a b : Nat) : (s.extract a b).data.toList = (s.data.toList.drop a).take (b - a) := Lib.extract_data s a b
theorem bt_ (s : ByteArray) (i : Nat) (h : i < s.data.toList.length) : bt s (i : Int) = (s.data.toList[i]).toNat := by
  unfold bt
  rw [dif_pos (show (i : Int).toNat < s.size from h)]
  rfl
/-- The answer of Parse. -/
def bad (s : List UInt8) : Bool := s.isEmpty || (decide (1 < s.length) && s.head? == some 48) || !(s.all fun c => decide (48 ≤ c.toNat) && decide (c.toNat ≤ 57))
def parseL (s : List UInt8) : List Int × Int := if bad s = true then ([], 2) else if s.length > 800 then ([], 3) else (tr (nums s), 0)
theorem dec_all {s : List UInt8} : (s.all fun c => decide (48 ≤ c.toNat) && decide (c.toNat ≤ 57)) = true ↔ Dec s := by
  simp [Dec]
theorem parse_l0_ev : ∀ (n : Nat) (s : ByteArray) (acc : List Int), s.data.toList.length = n → n ≤ 1000 → acc.length + n ≤ 2000 → Dec s.data.toList → Ev (fun k => natural_Parse.l0 k s acc) (tr (acc ++ nums s.data.toList), 0) := by
  intro n
  induction n using Nat.strongRecOn with
  | ind n ih =>
    intro s acc hn hb ha hd
    apply Ev.step
    simp only [natural_Parse.l0]
    rw [size_ s, hn]
    by_cases h0 : n = 0
    · refine Ev.no (by omega) ?_
      have : s.data.toList = [] := List.eq_nil_of_length_eq_zero (by omega)
      rw [this, nums_nil, List.append_nil]
      exact Ev.bind (of_ev acc (by omega)) (Ev.pure _)
    · refine Ev.yes (by omega) ?_
      have e : mx (wrap64 ((n : Int) - 4)) 0 = ((n - 4 : Nat) : Int) := by
        rw [w64 (by omega) (by omega)]
        unfold mx
        split <;> omega
      rw [e]
      refine Ev.yes (by omega) (Ev.yes (by omega) ?_)
      have e3 : ((n - 4 : Nat) : Int).toNat = n - 4 := rfl
      rw [e3]
      have e1 : (s.extract (n - 4) n).data.toList = s.data.toList.drop (n - 4) := by
        rw [extract_, List.take_of_length_le]
        rw [List.length_drop]
        omega
      have e2 : (s.extract 0 (n - 4)).data.toList = s.data.toList.take (n - 4) := by
        rw [extract_]
        simp
      have hA := Atoi_dec (s := s.extract (n - 4) n) (by rw [e1]; exact hd.drop _) (by rw [e1]; intro h; have := congrArg List.length h; rw [List.length_drop, List.length_nil] at this; omega) (by rw [e1, List.length_drop]; omega)
      refine Ev.bind (Ev.of_eq hA) ?_
      refine Ev.yes (by omega) ?_
      have hne : s.data.toList ≠ [] := by intro h; rw [h] at hn; simp at hn; omega
      have := ih (n - 4) (by omega) (s.extract 0 (n - 4)) (acc ++ [(dv (s.extract (n - 4) n).data.toList : Int)]) (by rw [e2, List.length_take]; omega) (by omega) (by rw [List.length_append, List.length_singleton]; omega) (by rw [e2]; exact hd.take _)
      rw [e2, e1, List.append_assoc] at this
      rw [nums_cons _ hne, hn, e1]
      exact this
theorem contains_dec (c : UInt8) : ([48, 49, 50, 51, 52, 53, 54, 55, 56, 57] : List UInt8).contains c = (decide (48 ≤ c.toNat) && decide (c.toNat ≤ 57)) := by
  rw [Bool.eq_iff_iff]
  simp only [List.contains_eq_mem, List.mem_cons, List.not_mem_nil, or_false, decide_eq_true_eq, Bool.and_eq_true, ← UInt8.toNat_inj]
  simp
  omega
theorem dropWhile_nil {α : Type} (p : α → Bool) (l : List α) : l.dropWhile p = [] ↔ l.all p = true := by
  induction l with
  | nil => simp
  | cons a l ih =>
    rw [List.dropWhile_cons]
    cases h : p a <;> simp [h, ih]
theorem dropWhile_all_rev {α : Type} (p : α → Bool) (l : List α) : ((l.reverse.dropWhile p).reverse.dropWhile p = []) ↔ l.all p = true := by
  constructor
  · intro h
    cases hd : l.reverse.dropWhile p with
    | nil =>
      have := (dropWhile_nil p _).1 hd
      rwa [List.all_reverse] at this
    | cons a r =>
      rw [hd] at h
      have h1 := (dropWhile_nil p _).1 h
      rw [List.all_reverse] at h1
      have h2 : p a = true := by
        have := List.all_eq_true.1 h1 a (by simp)
        exact this
      have h3 : ¬ p a = true := by
        have := List.head_dropWhile_not p (l := l.reverse) (by rw [hd]; simp)
        simp [hd] at this
        simp [this]
      exact absurd h2 h3
  · intro h
    have h1 : l.reverse.dropWhile p = [] := (dropWhile_nil p _).2 (by rw [List.all_reverse]; exact h)
    rw [h1]
    rfl
theorem trim_dec (s : ByteArray) (h : s.data.toList.length ≤ 1000) : ∃ t, strings_Trim.f s ⟨#[48, 49, 50, 51, 52, 53, 54, 55, 56, 57]⟩ = some t ∧ (t.toList != []) = !(s.data.toList.all fun c => decide (48 ≤ c.toNat) && decide (c.toNat ≤ 57)) := by
  refine ⟨⟨(Lib.trimS s.data.toList [48, 49, 50, 51, 52, 53, 54, 55, 56, 57]).toArray⟩, ?_, ?_⟩
  · unfold strings_Trim.f
    rw [if_pos]
    have := size_ s
    exact ⟨by omega, by decide, by decide⟩
  · rw [toList_]
    have h1 := dropWhile_all_rev (fun c : UInt8 => ([48, 49, 50, 51, 52, 53, 54, 55, 56, 57] : List UInt8).contains c) s.data.toList
    have h2 : (s.data.toList.all fun c => decide (48 ≤ c.toNat) && decide (c.toNat ≤ 57)) = s.data.toList.all fun c : UInt8 => ([48, 49, 50, 51, 52, 53, 54, 55, 56, 57] : List UInt8).contains c := by
      congr 1
      funext c
      rw [contains_dec]
    rw [h2]
    show (Lib.trimS s.data.toList _ != []) = _
    unfold Lib.trimS Lib.trimLeftS Lib.trimRightS
    cases hh : (s.data.toList.all fun c : UInt8 => ([48, 49, 50, 51, 52, 53, 54, 55, 56, 57] : List UInt8).contains c) with
    | true => rw [h1.2 hh]; rfl
    | false =>
      have : ¬ _ := fun e => by have := h1.1 e; rw [hh] at this; cases this
      simpa using this
theorem head_ok {l : List UInt8} {c : UInt8} (h : l.head? = some c) (hc : ¬c = 48) (h0 : ¬l = []) : (l.isEmpty || (decide (1 < l.length) && l.head? == some 48)) = false := by
  rw [h]
  simp [hc, h0]
theorem len_ok {l : List UInt8} (h0 : ¬l = []) (h1 : ¬1 < l.length) : (l.isEmpty || (decide (1 < l.length) && l.head? == some 48)) = false := by
  simp [h0, h1]
theorem one_48 {l : List UInt8} (h : l.head? = some 48) (h1 : ¬1 < l.length) : l = [48] := by
  match l, h, h1 with
  | [c], h, _ => simp at h; rw [h]
  | [], h, _ => cases h
  | _ :: _ :: _, _, h1 => exact absurd (by simp) h1
theorem take_snoc (l : List UInt8) (i : Nat) (h : i < l.length) : l.take (i + 1) = l.take i ++ [l[i]] := by simp
theorem parse_j0_bad (s : ByteArray) : Ev (fun k => natural_Parse.j0 k s true) ([], 2) := by
  apply Ev.step
  simp only [natural_Parse.j0]
  exact Ev.yes trivial (Ev.pure _)
theorem parse_j0_ok (s : ByteArray) (h : s.data.toList.length ≤ 1000) (hd : Dec s.data.toList) : Ev (fun k => natural_Parse.j0 k s false) (if s.data.toList.length > 800 then ([], 3) else (tr (nums s.data.toList), 0)) := by
  apply Ev.step
  simp only [natural_Parse.j0]
  refine Ev.no (by simp) ?_
  rw [size_ s]
  by_cases h8 : s.data.toList.length > 800
  · refine Ev.yes (by omega) ?_
    rw [if_pos h8]
    exact Ev.pure _
  · refine Ev.no (by omega) ?_
    rw [if_neg h8]
    exact parse_l0_ev _ s [] rfl h (by rw [List.length_nil]; omega) hd
theorem Parse_ev (s : ByteArray) (h : s.data.toList.length ≤ 1000) : Ev (fun k => natural_Parse.f k s) (parseL s.data.toList) := by
  simp only [natural_Parse.f]
  rw [toList_]
  obtain ⟨t, ht, htt⟩ := trim_dec s h
  have hj : ∀ b : Bool, (b = (s.data.toList.isEmpty || (decide (1 < s.data.toList.length) && s.data.toList.head? == some 48))) → b = false → Ev (fun k => natural_Parse.j0 k s (t.toList != [])) (parseL s.data.toList) := by
    intro b hb hb0
    rw [hb0] at hb
    rw [htt]
    unfold parseL bad
    rw [← hb, Bool.false_or]
    cases hA : (s.data.toList.all fun c => decide (48 ≤ c.toNat) && decide (c.toNat ≤ 57)) with
    | true =>
      have := parse_j0_ok s h (dec_all.1 hA)
      simpa using this
    | false =>
      have := parse_j0_bad s
      simpa using this
  by_cases h0 : s.data.toList = []
  · refine Ev.yes h0 ?_
    unfold parseL bad
    rw [h0]
    exact parse_j0_bad s
  · refine Ev.no h0 ?_
    by_cases h1 : s.data.toList = [48]
    · refine Ev.yes h1 ?_
      refine Ev.bind (Ev.of_eq ht) ?_
      exact hj _ rfl (by rw [h1]; rfl)
    · refine Ev.no h1 ?_
      have hp := List.length_pos_iff.2 h0
      refine Ev.yes (by rw [size_ s]; omega) ?_
      have hbt := bt_ s 0 hp
      have hh : s.data.toList.head? = some s.data.toList[0] := by rw [List.head?_eq_getElem?, List.getElem?_eq_getElem hp]
      have hbt' : bt s 0 = (s.data.toList[0]).toNat := hbt
      rw [hbt']
      by_cases h2 : s.data.toList[0] = 48
      · refine Ev.yes (by rw [h2]; rfl) ?_
        have hl : 1 < s.data.toList.length := by
          rcases Nat.lt_or_ge 1 s.data.toList.length with h | h
          · exact h
          · exfalso
            apply h1
            match hs : s.data.toList, hp, h with
            | [c], _, _ =>
              have : s.data.toList[0] = c := by simp [hs]
              rw [← this, h2]
        have : parseL s.data.toList = ([], 2) := by
          unfold parseL bad
          rw [hh, h2, decide_eq_true hl]
          simp
        rw [this]
        exact parse_j0_bad s
      · refine Ev.no (by intro e; apply h2; exact UInt8.toNat_inj.1 (by rw [show (48 : UInt8).toNat = 48 from rfl]; omega)) ?_
        refine Ev.bind (Ev.of_eq ht) ?_
        exact hj _ rfl (head_ok hh h2 h0)

theorem ref_l2_ev (s : ByteArray) (acc : List Int) (e : Nat) (he : e ≤ s.data.toList.length) (hs : s.data.toList.length ≤ 1000) (hd : Dec s.data.toList) (r : List Int × Int) (ha : acc.length ≤ 2000) :
    ∀ (m i a : Nat), e - i = m → e ≤ i + 4 → i ≤ e → a < 10 ^ (4 - m) → Ev (fun k => ancepsref02_Parse.l1 k s (acc ++ [(dvF a ((s.data.toList.take e).drop i) : Int)]) ((e : Int) - 4)) r → Ev (fun k => ancepsref02_Parse.l2 k s acc (e : Int) (a : Int) (i : Int)) r
  | 0, i, a, hm, h4, hi, hA, h => by
    apply Ev.step
    simp only [ancepsref02_Parse.l2]
    refine Ev.no (by omega) ?_
    refine Ev.yes (by omega) ?_
    rw [w64 (by omega) (by omega)]
    have : (s.data.toList.take e).drop i = [] := List.drop_eq_nil_of_le (by rw [List.length_take]; omega)
    rw [this] at h
    exact h
  | m + 1, i, a, hm, h4, hi, hA, h => by
    apply Ev.step
    simp only [ancepsref02_Parse.l2]
    refine Ev.yes (by omega) (Ev.yes (by omega) ?_)
    rw [size_ s]
    refine Ev.yes (by omega) ?_
    have hil : i < s.data.toList.length := by omega
    rw [bt_ s i hil]
    have hc := hd _ (List.getElem_mem hil)
    generalize hcc : s.data.toList[i] = c at hc
    have h5 : 10 ^ (4 - (m + 1)) ≤ 10 ^ 4 := Nat.pow_le_pow_right (by decide) (by omega)
    have e1 : wrap64 (wrap64 ((a : Int) * 10) + ((c.toNat : Int) - 48) % 256) = ((a * 10 + (c.toNat - 48) : Nat) : Int) := by
      rw [w64 (n := (a : Int) * 10) (by omega) (by omega), w64 (by omega) (by omega)]
      omega
    rw [e1, w64 (by omega) (by omega)]
    have e2 : (s.data.toList.take e).drop i = c :: (s.data.toList.take e).drop (i + 1) := by
      rw [List.drop_eq_getElem_cons (by rw [List.length_take]; omega)]
      congr 1
      rw [List.getElem_take]
      exact hcc
    rw [e2] at h
    have h6 : a * 10 + (c.toNat - 48) < 10 ^ (4 - m) := by
      rw [show 4 - m = 4 - (m + 1) + 1 by omega, Nat.pow_succ]
      omega
    exact ref_l2_ev s acc e he hs hd r ha m (i + 1) (a * 10 + (c.toNat - 48)) (by omega) (by omega) (by omega) h6 h
theorem ref_l1_ev (s : ByteArray) (hs : s.data.toList.length ≤ 1000) (hd : Dec s.data.toList) : ∀ (e : Nat) (acc : List Int), e ≤ s.data.toList.length → acc.length + e ≤ 2000 → Ev (fun k => ancepsref02_Parse.l1 k s acc (e : Int)) (tr (acc ++ nums (s.data.toList.take e)), 0) := by
  intro e
  induction e using Nat.strongRecOn with
  | ind e ih =>
    intro acc he ha
    apply Ev.step
    simp only [ancepsref02_Parse.l1]
    by_cases h0 : e = 0
    · subst h0
      refine Ev.no (by omega) ?_
      rw [List.take_zero, nums_nil, List.append_nil]
      exact Ev.bind (trim_ev acc (by omega)) (Ev.pure _)
    · refine Ev.yes (by omega) ?_
      have e1 : mx (wrap64 ((e : Int) - 4)) 0 = ((e - 4 : Nat) : Int) := by
        rw [w64 (by omega) (by omega)]
        unfold mx
        split <;> omega
      rw [e1]
      have hne : s.data.toList.take e ≠ [] := by
        intro h
        have := congrArg List.length h
        rw [List.length_take, List.length_nil] at this
        omega
      have e2 : (s.data.toList.take e).length = e := by rw [List.length_take]; omega
      have e3 : (s.data.toList.take e).take (e - 4) = s.data.toList.take (e - 4) := by rw [List.take_take]; congr 1; omega
      refine ref_l2_ev s acc e he hs hd _ (by omega) (e - (e - 4)) (e - 4) 0 rfl (by omega) (by omega) (Nat.pow_pos (by decide)) ?_
      rw [nums_cons _ hne, e2, e3]
      by_cases h4 : e ≤ 4
      · have e5 : e - 4 = 0 := by omega
        rw [e5, List.take_zero, nums_nil]
        apply Ev.step
        simp only [ancepsref02_Parse.l1]
        refine Ev.no (by omega) ?_
        exact Ev.bind (trim_ev _ (by rw [List.length_append]; simp; omega)) (Ev.pure _)
      · have := ih (e - 4) (by omega) (acc ++ [(dvF 0 ((s.data.toList.take e).drop (e - 4)) : Int)]) (by omega) (by rw [List.length_append, List.length_singleton]; omega)
        rw [List.append_assoc] at this
        rw [show ((e : Int) - 4) = ((e - 4 : Nat) : Int) by omega]
        exact this
theorem ref_l0_ev (s : ByteArray) (hs : s.data.toList.length ≤ 1000) : ∀ (m i : Nat), s.data.toList.length - i = m → i ≤ s.data.toList.length → Dec (s.data.toList.take i) →
    Ev (fun k => ancepsref02_Parse.l0 k s (i : Int)) (if ((s.data.toList.drop i).all fun c => decide (48 ≤ c.toNat) && decide (c.toNat ≤ 57)) = true then (if s.data.toList.length > 800 then ([], 3) else (tr (nums s.data.toList), 0)) else ([], 2))
  | 0, i, hm, hi, hD => by
    have e0 : s.data.toList.drop i = [] := List.drop_eq_nil_of_le (by omega)
    have e1 : s.data.toList.take i = s.data.toList := List.take_of_length_le (by omega)
    rw [e0]
    rw [e1] at hD
    rw [List.all_nil, if_pos rfl]
    apply Ev.step
    simp only [ancepsref02_Parse.l0]
    rw [size_ s]
    refine Ev.no (by omega) ?_
    by_cases h8 : s.data.toList.length > 800
    · rw [if_pos h8]
      exact Ev.yes (by omega) (Ev.pure _)
    · rw [if_neg h8]
      refine Ev.no (by omega) ?_
      have := ref_l1_ev s hs hD s.data.toList.length [] (Nat.le_refl _) (by rw [List.length_nil]; omega)
      rw [List.take_length] at this
      exact this
  | m + 1, i, hm, hi, hD => by
    have hil : i < s.data.toList.length := by omega
    have e0 : s.data.toList.drop i = s.data.toList[i] :: s.data.toList.drop (i + 1) := List.drop_eq_getElem_cons hil
    have e1 : s.data.toList.take (i + 1) = s.data.toList.take i ++ [s.data.toList[i]] := take_snoc _ _ hil
    apply Ev.step
    simp only [ancepsref02_Parse.l0]
    rw [size_ s]
    refine Ev.yes (by omega) (Ev.yes (by omega) ?_)
    rw [bt_ s i hil, e0, List.all_cons]
    by_cases c1 : (s.data.toList[i]).toNat < 48
    · refine Ev.yes (by omega) ?_
      rw [decide_eq_false (show ¬ 48 ≤ (s.data.toList[i]).toNat by omega), Bool.false_and, Bool.false_and, if_neg (by decide)]
      exact Ev.pure _
    · refine Ev.no (by omega) ?_
      by_cases c2 : (s.data.toList[i]).toNat > 57
      · refine Ev.yes (by omega) ?_
        rw [decide_eq_false (show ¬ (s.data.toList[i]).toNat ≤ 57 by omega), Bool.and_false, Bool.false_and, if_neg (by decide)]
        exact Ev.pure _
      · refine Ev.no (by omega) ?_
        rw [decide_eq_true (show 48 ≤ (s.data.toList[i]).toNat by omega), decide_eq_true (show (s.data.toList[i]).toNat ≤ 57 by omega), w64 (by omega) (by omega), Bool.and_self, Bool.true_and]
        have hD' : Dec (s.data.toList.take (i + 1)) := by
          rw [e1]
          intro x hx
          rcases List.mem_append.1 hx with h | h
          · exact hD x h
          · rw [List.mem_singleton.1 h]; omega
        exact ref_l0_ev s hs m (i + 1) (by omega) (by omega) hD'
theorem refParse_ev (s : ByteArray) (h : s.data.toList.length ≤ 1000) : Ev (fun k => ancepsref02_Parse.f k s) (parseL s.data.toList) := by
  have hbad : Ev (fun k => ancepsref02_Parse.j0 k s true) ([], 2) := by
    apply Ev.step
    simp only [ancepsref02_Parse.j0]
    exact Ev.yes trivial (Ev.pure _)
  have hok : (s.data.toList.isEmpty || (decide (1 < s.data.toList.length) && s.data.toList.head? == some 48)) = false → Ev (fun k => ancepsref02_Parse.j0 k s false) (parseL s.data.toList) := by
    intro hb
    apply Ev.step
    simp only [ancepsref02_Parse.j0]
    refine Ev.no (by simp) ?_
    unfold parseL bad
    rw [hb, Bool.false_or]
    have hD0 : Dec (s.data.toList.take 0) := by intro x hx; cases hx
    have hE := ref_l0_ev s h s.data.toList.length 0 rfl (Nat.zero_le _) hD0
    rw [List.drop_zero] at hE
    cases hA : (s.data.toList.all fun c => decide (48 ≤ c.toNat) && decide (c.toNat ≤ 57)) with
    | true => rw [hA, if_pos rfl] at hE; rw [if_neg (by decide)]; exact hE
    | false => rw [hA, if_neg (by decide)] at hE; rw [if_pos (by decide)]; exact hE
  simp only [ancepsref02_Parse.f]
  rw [toList_, size_ s]
  by_cases h0 : s.data.toList = []
  · refine Ev.yes h0 ?_
    unfold parseL bad
    rw [h0]
    exact hbad
  · refine Ev.no h0 ?_
    have hp := List.length_pos_iff.2 h0
    have hh : s.data.toList.head? = some s.data.toList[0] := by rw [List.head?_eq_getElem?, List.getElem?_eq_getElem hp]
    by_cases h1 : 1 < s.data.toList.length
    · refine Ev.yes (by omega) (Ev.yes (by omega) ?_)
      have hbt : bt s 0 = (s.data.toList[0]).toNat := bt_ s 0 hp
      rw [hbt]
      by_cases h2 : s.data.toList[0] = 48
      · have e : (((s.data.toList[0]).toNat : Int) == 48) = true := by rw [h2]; rfl
        have : parseL s.data.toList = ([], 2) := by
          unfold parseL bad
          rw [hh, h2, decide_eq_true h1]
          simp
        rw [e, this]
        exact hbad
      · have e : (((s.data.toList[0]).toNat : Int) == 48) = false := by
          rw [beq_eq_false_iff_ne]
          intro e
          apply h2
          exact UInt8.toNat_inj.1 (by rw [show (48 : UInt8).toNat = 48 from rfl]; omega)
        rw [e]
        exact hok (head_ok hh h2 h0)
    · refine Ev.no (by omega) ?_
      exact hok (len_ok h0 h1)
theorem parseL_len (s : List UInt8) : (parseL s).1.length ≤ 1000 := by
  unfold parseL
  split
  · simp
  · split
    · simp
    · have h1 := len_tr (nums s)
      have h2 := nums_len s
      show (tr (nums s)).length ≤ 1000
      omega
/-- The law. -/
theorem lawParse (s : ByteArray) : Ev (fun k => ancepslaw02_NaturalParse.f k s) true := by
  simp only [ancepslaw02_NaturalParse.f]
  refine Ev.bind awake_ev ?_
  refine Ev.yes rfl ?_
  rw [size_ s]
  by_cases h9 : s.data.toList.length > 900
  · exact Ev.yes (by omega) (Ev.bind awake_ev (Ev.pure _))
  · refine Ev.no (by omega) ?_
    refine Ev.bind (Parse_ev s (by omega)) ?_
    refine Ev.bind (refParse_ev s (by omega)) ?_
    refine Ev.yes rfl ?_
    have hl := parseL_len s.data.toList
    refine Ev.bind (Same_yes _ (by omega)) ?_
    refine Ev.yes rfl ?_
    by_cases h0 : (parseL s.data.toList).2 = 0
    · refine Ev.yes h0 ?_
      have hb : bad s.data.toList = false := by
        unfold parseL at h0
        cases h : bad s.data.toList with
        | false => rfl
        | true => rw [h] at h0; simp at h0
      have h8 : ¬ s.data.toList.length > 800 := by
        intro h
        unfold parseL at h0
        rw [hb, if_pos h] at h0
        simp at h0
      have e : parseL s.data.toList = (tr (nums s.data.toList), 0) := by
        unfold parseL
        rw [hb, if_neg h8]
        rfl
      rw [e]
      unfold bad at hb
      simp only [Bool.or_eq_false_iff, Bool.not_eq_false'] at hb
      obtain ⟨⟨hb1, hb2⟩, hb3⟩ := hb
      have hD := dec_all.1 hb3
      have hne : s.data.toList ≠ [] := by intro h; rw [h] at hb1; cases hb1
      have hz : s.data.toList.head? = some 48 → s.data.toList = [48] := by
        intro hz
        rw [hz] at hb2
        have hlen : ¬ 1 < s.data.toList.length := by
          intro h
          rw [decide_eq_true h] at hb2
          cases hb2
        exact one_48 hz hlen
      have h1 := len_tr (nums s.data.toList)
      have h2 := nums_len s.data.toList
      have hv := valid_tr (nums_dig hD) (by omega)
      have hf : natural_Format.f (tr (nums s.data.toList)) = some (s, 0) := by
        unfold natural_Format.f
        rw [if_pos hv, fmt_nums hD hne hz]
      refine Ev.bind (Ev.of_eq hf) ?_
      refine Ev.yes rfl ?_
      have : (s.toList == s.toList) = true := by simp
      rw [this]
      exact Ev.pure _
    · refine Ev.no h0 ?_
      exact Ev.bind (Same_yes _ (by omega)) (Ev.pure _)
end Go.Proofs.YtlogclmmeikbpaaDoor.Pu

