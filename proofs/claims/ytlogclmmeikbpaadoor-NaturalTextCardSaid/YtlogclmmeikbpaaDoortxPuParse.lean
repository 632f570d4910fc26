/- What the two Parse functions answer, as plain laws over the printed functions. No condition. -/
import Derived.Test.YtlogclmmeikbpaaDoortxPuBase
import Derived.Test.YtlogclmmeikbpaaDoortxPx5
import Derived.Test.YtlogclmmeikbpaaDoortxPx0
import Derived.Test.YtlogclmmeikbpaaDoortxFmt
import Derived.Test.YtlogclmmeikbpaaDoortxPx2
import Derived.Test.YtlogclmmeikbpaaDoortxPx7
namespace Go.Proofs.YtlogclmmeikbpaaDoor.Pu
open Go.RowKit Go.Proofs.YtlogclmmeikbpaaDoorW.PrintWords Go.Proofs.YtlogclmmeikbpaaDoor.Given Go.Proofs.YtlogclmmeikbpaaDoor.P
set_option linter.unusedVariables false

theorem awake_ev : Ev (fun k => ancepslaw02_awake.f k) true := Ev.mono 64 (by kernel_rfl) ancepslaw02_awake.mono
theorem toList_ (s : ByteArray) : s.toList = s.data.toList := ByteArray.toList_eq s
theorem size_ (s : ByteArray) : s.size = s.data.toList.length := rfl
theorem extract_ (s : ByteArray) (a b : Nat) : (s.extract a b).data.toList = (s.data.toList.drop a).take (b - a) := Lib.extract_data s a b
theorem bt_ (s : ByteArray) (i : Nat) (h : i < s.data.toList.length) : bt s (i : Int) = (s.data.toList[i]).toNat := by
  unfold bt
  rw [dif_pos (show (i : Int).toNat < s.size from h)]
  rfl
/-- The answer of Parse. -/
def bad (s : List UInt8) : Bool := s.isEmpty || (decide (1 < s.length) && s.head? == some 48) || !(s.all fun c => decide (48 ≤ c.toNat) && decide (c.toNat ≤ 57))
def parseL (s : List UInt8) : List Int × Int := if bad s = true then ([], 2) else if s.length > 800 then ([], 3) else (tr (nums s), 0)
theorem dec_all {s : List UInt8} : (s.all fun c => decide (48 ≤ c.toNat) && decide (c.toNat ≤ 57)) = true ↔ Dec s := by
  simp [Dec]
theorem parse_l0_ev : ∀ (n : Nat) (s : ByteArray) (acc : List Int), s.data.toList.length = n → n ≤ 1000 → acc.length + n ≤ 2000 → Dec s.data.toList → Ev (fun k => natural_Parse.l0 k s acc) (tr (acc ++ nums s.data.toList), 0) := by
  intro n
  induction n using Nat.strongRecOn with
  | ind n ih =>
    intro s acc hn hb ha hd
    apply Ev.step
    simp only [natural_Parse.l0]
    rw [size_ s, hn]
    by_cases h0 : n = 0
    · refine Ev.no (by omega) ?_
      have : s.data.toList = [] := List.eq_nil_of_length_eq_zero (by omega)
      rw [this, nums_nil, List.append_nil]
      exact Ev.bind (of_ev acc (by omega)) (Ev.pure _)
    · refine Ev.yes (by omega) ?_
      have e : mx (wrap64 ((n : Int) - 4)) 0 = ((n - 4 : Nat) : Int) := by
        rw [w64 (by omega) (by omega)]
        unfold mx
        split <;> omega
      rw [e]
      refine Ev.yes (by omega) (Ev.yes (by omega) ?_)
      have e3 : ((n - 4 : Nat) : Int).toNat = n - 4 := rfl
      rw [e3]
      have e1 : (s.extract (n - 4) n).data.toList = s.data.toList.drop (n - 4) := by
        rw [extract_, List.take_of_length_le]
        rw [List.length_drop]
        omega
      have e2 : (s.extract 0 (n - 4)).data.toList = s.data.toList.take (n - 4) := by
        rw [extract_]
        simp
      have hA := Atoi_dec (s := s.extract (n - 4) n) (by rw [e1]; exact hd.drop _) (by rw [e1]; intro h; have := congrArg List.length h; rw [List.length_drop, List.length_nil] at this; omega) (by rw [e1, List.length_drop]; omega)
      refine Ev.bind (Ev.of_eq hA) ?_
      refine Ev.yes (by omega) ?_
      have hne : s.data.toList ≠ [] := by intro h; rw [h] at hn; simp at hn; omega
      have := ih (n - 4) (by omega) (s.extract 0 (n - 4)) (acc ++ [(dv (s.extract (n - 4) n).data.toList : Int)]) (by rw [e2, List.length_take]; omega) (by omega) (by rw [List.length_append, List.length_singleton]; omega) (by rw [e2]; exact hd.take _)
      rw [e2, e1, List.append_assoc] at this
      rw [nums_cons _ hne, hn, e1]
      exact this
theorem contains_dec (c : UInt8) : ([48, 49, 50, 51, 52, 53, 54, 55, 56, 57] : List UInt8).contains c = (decide (48 ≤ c.toNat) && decide (c.toNat ≤ 57)) := by
  rw [Bool.eq_iff_iff]
  simp only [List.contains_eq_mem, List.mem_cons, List.not_mem_nil, or_false, decide_eq_true_eq, Bool.and_eq_true, ← UInt8.toNat_inj]
  simp
  omega
theorem dropWhile_nil {α : Type} (p : α → Bool) (l : List α) : l.dropWhile p = [] ↔ l.all p = true := by
  induction l with
  | nil => simp
  | cons a l ih =>
    rw [List.dropWhile_cons]
    cases h : p a <;> simp [h, ih]
theorem dropWhile_all_rev {α : Type} (p : α → Bool) (l : List α) : ((l.reverse.dropWhile p).reverse.dropWhile p = []) ↔ l.all p = true := by
  constructor
  · intro h
    cases hd : l.reverse.dropWhile p with
    | nil =>
      have := (dropWhile_nil p _).1 hd
      rwa [List.all_reverse] at this
    | cons a r =>
      rw [hd] at h
      have h1 := (dropWhile_nil p _).1 h
      rw [List.all_reverse] at h1
      have h2 : p a = true := by
        have := List.all_eq_true.1 h1 a (by simp)
        exact this
      have h3 : ¬ p a = true := by
        have := List.head_dropWhile_not p (l := l.reverse) (by rw [hd]; simp)
        simp [hd] at this
        simp [this]
      exact absurd h2 h3
  · intro h
    have h1 : l.reverse.dropWhile p = [] := (dropWhile_nil p _).2 (by rw [List.all_reverse]; exact h)
    rw [h1]
    rfl
theorem trim_dec (s : ByteArray) (h : s.data.toList.length ≤ 1000) : ∃ t, strings_Trim.f s ⟨#[48, 49, 50, 51, 52, 53, 54, 55, 56, 57]⟩ = some t ∧ (t.toList != []) = !(s.data.toList.all fun c => decide (48 ≤ c.toNat) && decide (c.toNat ≤ 57)) := by
  refine ⟨⟨(Lib.trimS s.data.toList [48, 49, 50, 51, 52, 53, 54, 55, 56, 57]).toArray⟩, ?_, ?_⟩
  · unfold strings_Trim.f
    rw [if_pos]
    have := size_ s
    exact ⟨by omega, by decide, by decide⟩
  · rw [toList_]
    have h1 := dropWhile_all_rev (fun c : UInt8 => ([48, 49, 50, 51, 52, 53, 54, 55, 56, 57] : List UInt8).contains c) s.data.toList
    have h2 : (s.data.toList.all fun c => decide (48 ≤ c.toNat) && decide (c.toNat ≤ 57)) = s.data.toList.all fun c : UInt8 => ([48, 49, 50, 51, 52, 53, 54, 55, 56, 57] : List UInt8).contains c := by
      congr 1
      funext c
      rw [contains_dec]
    rw [h2]
    show (Lib.trimS s.data.toList _ != []) = _
    unfold Lib.trimS Lib.trimLeftS Lib.trimRightS
    cases hh : (s.data.toList.all fun c : UInt8 => ([48, 49, 50, 51, 52, 53, 54, 55, 56, 57] : List UInt8).contains c) with
    | true => rw [h1.2 hh]; rfl
    | false =>
      have : ¬ _ := fun e => by have := h1.1 e; rw [hh] at this; cases this
      simpa using this
theorem head_ok {l : List UInt8} {c : UInt8} (h : l.head? = some c) (hc : ¬c = 48) (h0 : ¬l = []) : (l.isEmpty || (decide (1 < l.length) && l.head? == some 48)) = false := by
  rw [h]
  simp [hc, h0]
theorem parse_j0_bad (s : ByteArray) : Ev (fun k => natural_Parse.j0 k s true) ([], 2) := by
  apply Ev.step
  simp only [natural_Parse.j0]
  exact Ev.yes trivial (Ev.pure _)
theorem parse_j0_ok (s : ByteArray) (h : s.data.toList.length ≤ 1000) (hd : Dec s.data.toList) : Ev (fun k => natural_Parse.j0 k s false) (if s.data.toList.length > 800 then ([], 3) else (tr (nums s.data.toList), 0)) := by
  apply Ev.step
  simp only [natural_Parse.j0]
  refine Ev.no (by simp) ?_
  rw [size_ s]
  by_cases h8 : s.data.toList.length > 800
  · refine Ev.yes (by omega) ?_
    rw [if_pos h8]
    exact Ev.pure _
  · refine Ev.no (by omega) ?_
    rw [if_neg h8]
    exact parse_l0_ev _ s [] rfl h (by rw [List.length_nil]; omega) hd
theorem Parse_ev (s : ByteArray) (h : s.data.toList.length ≤ 1000) : Ev (fun k => natural_Parse.f k s) (parseL s.data.toList) := by
  simp only [natural_Parse.f]
  rw [toList_]
  obtain ⟨t, ht, htt⟩ := trim_dec s h
  have hj : ∀ b : Bool, (b = (s.data.toList.isEmpty || (decide (1 < s.data.toList.length) && s.data.toList.head? == some 48))) → b = false → Ev (fun k => natural_Parse.j0 k s (t.toList != [])) (parseL s.data.toList) := by
    intro b hb hb0
    rw [hb0] at hb
    rw [htt]
    unfold parseL bad
    rw [← hb, Bool.false_or]
    cases hA : (s.data.toList.all fun c => decide (48 ≤ c.toNat) && decide (c.toNat ≤ 57)) with
    | true =>
      have := parse_j0_ok s h (dec_all.1 hA)
      simpa using this
    | false =>
      have := parse_j0_bad s
      simpa using this
  by_cases h0 : s.data.toList = []
  · refine Ev.yes h0 ?_
    unfold parseL bad
    rw [h0]
    exact parse_j0_bad s
  · refine Ev.no h0 ?_
    by_cases h1 : s.data.toList = [48]
    · refine Ev.yes h1 ?_
      refine Ev.bind (Ev.of_eq ht) ?_
      exact hj _ rfl (by rw [h1]; rfl)
    · refine Ev.no h1 ?_
      have hp := List.length_pos_iff.2 h0
      refine Ev.yes (by rw [size_ s]; omega) ?_
      have hbt := bt_ s 0 hp
      have hh : s.data.toList.head? = some s.data.toList[0] := by rw [List.head?_eq_getElem?, List.getElem?_eq_getElem hp]
      have hbt' : bt s 0 = (s.data.toList[0]).toNat := hbt
      rw [hbt']
      by_cases h2 : s.data.toList[0] = 48
      · refine Ev.yes (by rw [h2]; rfl) ?_
        have hl : 1 < s.data.toList.length := by
          rcases Nat.lt_or_ge 1 s.data.toList.length with h | h
          · exact h
          · exfalso
            apply h1
            match hs : s.data.toList, hp, h with
            | [c], _, _ =>
              have : s.data.toList[0] = c := by simp [hs]
              rw [← this, h2]
        have : parseL s.data.toList = ([], 2) := by
          unfold parseL bad
          rw [hh, h2, decide_eq_true hl]
          simp
        rw [this]
        exact parse_j0_bad s
      · refine Ev.no (by intro e; apply h2; exact UInt8.toNat_inj.1 (by rw [show (48 : UInt8).toNat = 48 from rfl]; omega)) ?_
        refine Ev.bind (Ev.of_eq ht) ?_
        exact hj _ rfl (head_ok hh h2 h0)

end Go.Proofs.YtlogclmmeikbpaaDoor.Pu

