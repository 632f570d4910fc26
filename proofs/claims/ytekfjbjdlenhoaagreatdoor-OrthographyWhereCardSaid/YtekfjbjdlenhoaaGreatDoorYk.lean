/- Contracts over whole values, and what they lean on: part k. Each holds under the conditions that it states. -/
import Derived.Test.YtekfjbjdlenhoaaGreatDoorYj
import Derived.Sort.LotA
import Derived.Shelf.Strconv.Itoa3
import Derived.Test.YtekfjbjdlenhoaaGreatDoorProg
import Derived.Shelf.Lays
import Derived.Shelf.LaysM
import Derived.Shelf.LaysC
set_option linter.unusedVariables false
set_option linter.unusedSimpArgs false

namespace Go.VN
open Go.RowKit Go.VL
set_option linter.unusedVariables false
theorem spK_no (c : UInt8) : ∀ s : List UInt8, ∀ w ∈ splitL c s, c ∉ w
  | [], w, h => by
    simp only [splitL, spK, List.mem_singleton] at h
    rw [h]; simp
  | x :: s, w, h => by
    have ih := spK_no c s
    unfold splitL at h ih
    rw [spK] at h
    by_cases hx : x = c
    · rw [if_pos hx] at h
      rcases List.mem_cons.1 h with h | h
      · rw [h]; simp
      · exact ih w h
    · rw [if_neg hx] at h
      have hne := spK_ne false c s
      match hl : spK false c s, hne with
      | y :: l, _ =>
        rw [hl] at h ih
        simp only [consH] at h
        rcases List.mem_cons.1 h with h | h
        · rw [h, List.mem_cons, not_or]
          exact ⟨fun e => hx e.symm, ih y (by simp)⟩
        · exact ih w (by simp [h])
theorem splitL_one {c : UInt8} {w : List UInt8} (h : c ∉ w) : splitL c w = [w] := spK_miss false c h
theorem splitL_cons {c : UInt8} {w : List UInt8} (h : c ∉ w) (t : List UInt8) : splitL c (w ++ c :: t) = w :: splitL c t := by
  have hm : c ∈ w ++ c :: t := by simp
  unfold splitL
  rw [spK_hit false c hm, cutL_app h]
  simp [List.drop_append]
  rw [List.drop_eq_nil_of_le (by omega), List.nil_append]
theorem splitL_join : ∀ {M : List (List UInt8)}, M ≠ [] → (∀ w ∈ M, 32 ∉ w) → splitL 32 (joinS M) = M
  | [x], _, h => by rw [joinS]; exact splitL_one (h x (by simp))
  | x :: y :: l, _, h => by
    have ih := splitL_join (M := y :: l) (by simp) fun w hw => h w (by simp [hw])
    rw [joinS, List.append_assoc, List.singleton_append, splitL_cons (h x (by simp)), ih]
theorem rdAll_none : ∀ {M : List (List UInt8)} {w : List UInt8}, w ∈ M → rdS w = none → rdAll M = none
  | x :: M, w, h, hw => by
    rw [rdAll]
    rcases List.mem_cons.1 h with h | h
    · rw [← h, hw]
    · rw [rdAll_none h hw]
      cases rdS x <;> rfl
theorem rdS_nil : rdS [] = none := rfl
theorem prs_join {M : List (List UInt8)} (hM : M ≠ []) (hno : ∀ w ∈ M, 32 ∉ w) : ([] ∈ M → (prsSd (joinS M)).2 ≠ 0 ∨ (prsSd (joinS M)).1 = []) ∧ ([] ∉ M → (prsSd (joinS M)).2 = 0 → (prsSd (joinS M)).1 ≠ []) := by
  have hs := splitL_join hM hno
  unfold prsSd
  by_cases h1 : 4000 < (joinS M).length
  · rw [if_pos h1]
    exact ⟨fun _ => .inl (by simp), fun _ h => by simp at h⟩
  rw [if_neg h1]
  by_cases h2 : joinS M = []
  · rw [if_pos h2]
    refine ⟨fun _ => .inr rfl, fun hn _ => ?_⟩
    rw [h2] at hs
    exact absurd (by rw [← hs]; simp [splitL, spK]) hn
  rw [if_neg h2, hs]
  constructor
  · intro hm
    rw [rdAll_none hm rdS_nil]
    exact .inl (by simp)
  · intro hn
    cases hr : rdAll M with
    | none => intro h; simp at h
    | some l =>
      simp only
      split
      · intro h; simp at h
      · intro _ e
        have := rdAll_len hr
        simp only at e
        rw [e] at this
        exact hM (List.eq_nil_of_length_eq_zero this.symm)
theorem getD_mem {l : List (List UInt8)} {i : Nat} (h : i < l.length) : l.getD i [] ∈ l := by
  rw [List.getD_eq_getElem?_getD, List.getElem?_eq_getElem h]
  exact List.getElem_mem _
theorem numF_nil : numF [] = (0, false) := rfl
theorem ixP_nil : ixP (fun y => decide (([] : List UInt8) = y)) plcs = -1 := rfl
/-- The same sign of a line. -/
theorem sg_same (b : List UInt8) : sgOf (splitL 32 b) = lineR (wordsF b) := by
  have hno := spK_no 32 b
  unfold wordsF
  generalize splitL 32 b = L at *
  have hM : ∀ w ∈ (L.drop 1).take (L.length - 3), 32 ∉ w := fun w hw => hno w (List.mem_of_mem_drop (List.mem_of_mem_take hw))
  have hMn : 4 ≤ L.length → (L.drop 1).take (L.length - 3) ≠ [] := fun h e => by
    have := congrArg List.length e
    rw [List.length_take, List.length_drop] at this
    simp only [List.length_nil] at this
    omega
  by_cases hm : [] ∈ L
  · rw [if_pos hm, show lineR [] = none from rfl]
    unfold sgOf
    by_cases h1 : L.length < 4 ∨ L.head? = some []
    · rw [if_pos h1]
    rw [if_neg h1]
    rw [not_or] at h1
    obtain ⟨h1, h2⟩ := h1
    have hp := (prs_join (hMn (by omega)) hM).1
    obtain ⟨i, hi, he⟩ := List.getElem_of_mem hm
    have hg : ∀ j, j = i → L.getD j [] = [] := fun j hj => by rw [hj, List.getD_eq_getElem?_getD, List.getElem?_eq_getElem hi]; exact he
    unfold sgMk
    by_cases h3 : i = L.length - 1
    · rw [hg _ h3.symm, ixP_nil, if_pos (.inl (by omega))]
    by_cases h4 : i = L.length - 2
    · rw [hg _ h4.symm, numF_nil, if_pos (.inr (.inr (.inr rfl)))]
    by_cases h5 : i = 0
    · refine absurd ?_ h2
      subst h5
      rw [List.head?_eq_getElem?, List.getElem?_eq_getElem hi, he]
    · have hmm : [] ∈ (L.drop 1).take (L.length - 3) := by
        have : ((L.drop 1).take (L.length - 3))[i - 1]? = some [] := by
          rw [List.getElem?_take, if_pos (by omega), List.getElem?_drop, show 1 + (i - 1) = i by omega, List.getElem?_eq_getElem hi, he]
        exact List.mem_of_getElem? this
      rw [if_pos (hp hmm |>.elim (fun h => .inr (.inl h)) (fun h => .inr (.inr (.inl h))))]
  · rw [if_neg hm]
    unfold sgOf lineR
    by_cases h1 : L.length < 4
    · rw [if_pos (.inl h1), if_pos h1]
    have hhd : ¬ (L.length < 4 ∨ L.head? = some []) := by
      rintro (h | h)
      · exact h1 h
      · exact hm (List.mem_of_mem_head? (by rw [h]; rfl))
    rw [if_neg hhd, if_neg h1]
    have hp := (prs_join (hMn (by omega)) hM).2 (fun h => hm (List.mem_of_mem_drop (List.mem_of_mem_take h)))
    unfold sgMk sgMk2
    generalize prsSd (joinS ((L.drop 1).take (L.length - 3))) = sd at *
    generalize numF (L.getD (L.length - 2) []) = nu at *
    generalize ixP (fun y => decide (L.getD (L.length - 1) [] = y)) plcs = z at *
    by_cases hz : z < 0
    · rw [if_pos (.inl hz), if_pos (.inr (.inr hz))]
    by_cases hs : sd.2 = 0
    · by_cases hn : nu.2 = false
      · rw [if_pos (.inr (.inr (.inr hn))), if_pos (.inr (.inl hn))]
      · rw [if_neg (by rintro (h | h | h | h); exact hz h; exact h hs; exact hp hs h; exact hn h), if_neg (by rintro (h | h | h); exact h hs; exact hn h; exact hz h)]
    · rw [if_pos (.inr (.inl hs)), if_pos (.inl hs)]
theorem joinS_consH {x : UInt8} {l : List (List UInt8)} (h : 0 < l.length) : joinS (consH x l) = x :: joinS l := by
  match l, h with
  | [y], _ => rfl
  | y :: z :: l, _ => rfl
theorem joinS_split : ∀ s : List UInt8, joinS (splitL 32 s) = s
  | [] => rfl
  | x :: s => by
    have ih := joinS_split s
    have hne := spK_ne false 32 s
    unfold splitL at ih ⊢
    rw [spK]
    by_cases hx : x = 32
    · rw [if_pos hx]
      match hl : spK false 32 s, hne with
      | y :: l, _ =>
        rw [hl] at ih
        rw [joinS, ih, hx]; rfl
    · rw [if_neg hx, joinS_consH hne, ih]
theorem pre_has (t : List UInt8) : Lib.hasPrefix (wPre ++ t) wPre = true := by
  unfold Lib.hasPrefix
  rw [List.isPrefixOf_iff_prefix]
  exact List.prefix_append _ _
theorem hdr_same (b : List UInt8) : (hdrB b).2 = (hdrR b).2 ∧ ((hdrB b).2 = true → (hdrB b).1 = (hdrR b).1) := by
  have key : ∀ nm : List UInt8, nm ≠ [] → 32 ∉ nm → b = wPre ++ nm → hdrB b = (nm, true) ∧ hdrR b = (nm, true) := fun nm h1 h2 hb => by
    have ht : Lib.trimPrefix b wPre = nm := by
      unfold Lib.trimPrefix
      rw [hb, pre_has, if_pos rfl, List.drop_left' rfl]
    constructor
    · unfold hdrB
      rw [ht, hb, pre_has]
      have h3 : nm.isEmpty = false := by cases nm with | nil => exact absurd rfl h1 | cons a l => rfl
      have h4 : nm.contains 32 = false := Bool.eq_false_iff.2 fun h => h2 (List.contains_iff_mem.1 h)
      rw [h3, h4]; rfl
    · have hs : splitL 32 b = [wOrt, nm] := by
        rw [hb, show wPre ++ nm = wOrt ++ 32 :: nm by simp, splitL_cons (by decide), splitL_one h2]
      unfold hdrR wordsF
      rw [hs, if_neg (by
        intro hm
        rcases List.mem_cons.1 hm with hm | hm
        · exact absurd hm (by decide)
        · exact h1 (List.mem_singleton.1 hm).symm)]
      rfl
  by_cases h : (hdrR b).2 = true
  · have h0 := h
    unfold hdrR at h0
    simp only [Bool.and_eq_true, decide_eq_true_eq] at h0
    obtain ⟨h1, h2⟩ := h0
    have hno := spK_no 32 b
    have hj := joinS_split b
    unfold wordsF at h1 h2
    by_cases hm : [] ∈ splitL 32 b
    · rw [if_pos hm] at h1; simp at h1
    rw [if_neg hm] at h1 h2
    generalize splitL 32 b = L at *
    match L, h1 with
    | [a, nm], _ =>
      have ha : a = wOrt := h2
      subst ha
      have hb : b = wPre ++ nm := by rw [← hj]; simp [joinS]
      obtain ⟨k1, k2⟩ := key nm (fun e => hm (by rw [e]; simp)) (hno nm (by simp)) hb
      rw [k1, k2]
      exact ⟨rfl, fun _ => rfl⟩
  · have hf : (hdrR b).2 = false := Bool.eq_false_iff.2 h
    by_cases h3 : (hdrB b).2 = true
    · exfalso
      unfold hdrB at h3
      simp only [Bool.and_eq_true, Bool.not_eq_true'] at h3
      obtain ⟨⟨h4, h5⟩, h6⟩ := h3
      have hp := h4
      unfold Lib.hasPrefix at hp
      rw [List.isPrefixOf_iff_prefix] at hp
      obtain ⟨t, ht⟩ := hp
      have htr : Lib.trimPrefix b wPre = t := by
        unfold Lib.trimPrefix
        rw [h4, if_pos rfl, ← ht, List.drop_left' rfl]
      rw [htr] at h5 h6
      obtain ⟨_, k2⟩ := key t (fun e => by rw [e] at h5; simp at h5) (fun hm => by rw [List.contains_iff_mem.2 hm] at h6; cases h6) ht.symm
      rw [k2] at h
      exact h rfl
    · rw [Bool.eq_false_iff.2 h3, hf]
      exact ⟨rfl, fun h => by cases h⟩
def appN (c : UInt8) : List (List UInt8) → List (List UInt8)
  | [] => []
  | [x] => [x]
  | x :: y :: l => (x ++ [c]) :: appN c (y :: l)
theorem appN_cons {c : UInt8} {x : List UInt8} {l : List (List UInt8)} (h : 0 < l.length) : appN c (x :: l) = (x ++ [c]) :: appN c l := by
  match l, h with
  | y :: l, _ => rfl
theorem appN_consH {c x : UInt8} {l : List (List UInt8)} (h : 0 < l.length) : appN c (consH x l) = consH x (appN c l) := by
  match l, h with
  | [y], _ => rfl
  | y :: z :: l, _ => rfl
theorem spK_app (c : UInt8) : ∀ s : List UInt8, spK true c s = appN c (splitL c s)
  | [] => rfl
  | x :: s => by
    have ih := spK_app c s
    have hne := spK_ne false c s
    unfold splitL at ih ⊢
    rw [spK, spK, ih]
    by_cases hx : x = c
    · rw [if_pos hx, if_pos hx, appN_cons hne, if_pos rfl]; rfl
    · rw [if_neg hx, if_neg hx, appN_consH hne]
theorem suf_nl (w : List UInt8) : Lib.hasSuffix (w ++ [10]) [10] = true ∧ Lib.trimSuffix (w ++ [10]) [10] = w := by
  have h : Lib.hasSuffix (w ++ [10]) [10] = true := by
    unfold Lib.hasSuffix
    rw [List.isSuffixOf_iff_suffix]
    exact List.suffix_append _ _
  refine ⟨h, ?_⟩
  unfold Lib.trimSuffix
  rw [h, if_pos rfl]
  simp
theorem suf_no {t : List UInt8} (h : 10 ∉ t) : Lib.hasSuffix t [10] = false := by
  rw [Bool.eq_false_iff]
  intro hs
  unfold Lib.hasSuffix at hs
  rw [List.isSuffixOf_iff_suffix] at hs
  obtain ⟨a, ha⟩ := hs
  exact h (by rw [← ha]; simp)
theorem sgB_same (b : List UInt8) : sgB b = sgLR b := by unfold sgB sgLR; rw [sg_same]
theorem prs_step (i : Nat) (o : Ort) (w : List UInt8) (l : List (List UInt8)) : prsL i o ((w ++ [10]) :: l) = if i = 0 then (if (hdrR w).2 = true then prsL 1 ((hdrR w).1, o.2) l else (zO, 1)) else (if (sgLR w).2 = true then prsL (i + 1) (o.1, o.2 ++ [(sgLR w).1]) l else (zO, i + 1)) := by
  obtain ⟨h1, h2⟩ := suf_nl w
  obtain ⟨h3, h4⟩ := hdr_same w
  rw [prsL, if_neg (by simp)]
  unfold hdrF sgLn
  rw [h1, h2, sgB_same]
  simp only [Bool.true_and]
  rw [h3]
  by_cases h5 : (hdrR w).2 = true
  · rw [if_pos h5, if_pos h5, h4 (by rw [h3]; exact h5)]
  · rw [if_neg h5, if_neg h5]
theorem prs_ref0 : ∀ (M : List (List UInt8)) (i : Nat) (o : Ort), prsL i o (appN 10 (M ++ [[]])) = refL false i o M
  | [], i, o => by simp [appN, prsL, refL]
  | w :: M, i, o => by
    have ih := prs_ref0 M
    rw [List.cons_append, appN_cons (by simp), prs_step, refL, ih, ih]
    simp
theorem prs_ref1 {t : List UInt8} (h0 : t ≠ []) (hn : 10 ∉ t) : ∀ (M : List (List UInt8)) (i : Nat) (o : Ort), prsL i o (appN 10 (M ++ [t])) = refL true i o (M ++ [t])
  | [], i, o => by
    rw [List.nil_append, appN, prsL, refL, if_neg h0]
    unfold hdrF sgLn
    rw [suf_no hn]
    by_cases hi : i = 0 <;> simp [hi]
  | w :: M, i, o => by
    have ih := prs_ref1 h0 hn M
    rw [List.cons_append, appN_cons (by simp), prs_step, refL, ih, ih]
    simp
theorem flat_consH {x : UInt8} {l : List (List UInt8)} (h : 0 < l.length) : (consH x l).flatten = x :: l.flatten := by
  match l, h with
  | y :: l, _ => rfl
theorem spK_flat (c : UInt8) : ∀ s : List UInt8, (spK true c s).flatten = s
  | [] => rfl
  | x :: s => by
    have ih := spK_flat c s
    rw [spK]
    by_cases hx : x = c
    · rw [if_pos hx, if_pos rfl, List.flatten_cons, ih, hx]; rfl
    · rw [if_neg hx, flat_consH (spK_ne true c s), ih]
theorem appN_map (c : UInt8) (t : List UInt8) : ∀ M : List (List UInt8), appN c (M ++ [t]) = M.map (fun w => w ++ [c]) ++ [t]
  | [] => rfl
  | w :: M => by rw [List.cons_append, appN_cons (by simp), appN_map c t M]; rfl
theorem lastD (a : List UInt8) (x : UInt8) : (a ++ [x]).getD ((a ++ [x]).length - 1) 0 = x := by
  rw [List.getD_eq_getElem?_getD]; simp
/-- Both read the same. -/
theorem prs_same (s : List UInt8) : prsR s = prsO s := by
  unfold prsR prsO
  by_cases h1 : 20000 < s.length
  · rw [if_pos h1, if_pos h1]
  rw [if_neg h1, if_neg h1]
  by_cases h2 : s = []
  · subst h2; rfl
  rw [if_neg h2]
  have hne := spK_ne false 10 s
  have hLn : splitL 10 s ≠ [] := fun e => by unfold splitL at e; rw [e] at hne; simp at hne
  obtain ⟨M, t, hL⟩ : ∃ M t, M ++ [t] = splitL 10 s := ⟨_, _, List.dropLast_concat_getLast hLn⟩
  have ht : 10 ∉ t := spK_no 10 s t (by rw [← hL]; simp)
  have hfl := spK_flat 10 s
  rw [spK_app, ← hL, appN_map, List.flatten_append] at hfl
  simp only [List.flatten_cons, List.flatten_nil, List.append_nil] at hfl
  rw [spK_app, ← hL, linesF_end hL]
  by_cases h3 : t = []
  · subst h3
    rw [if_pos rfl, prs_ref0]
    have hM : M ≠ [] := fun e => by rw [e] at hfl; exact h2 (by rw [← hfl]; rfl)
    rw [if_neg hM]
    have hb : badE s = false := by
      have hMl : M.dropLast ++ [M.getLast hM] = M := List.dropLast_concat_getLast hM
      rw [← hMl, List.map_append, List.flatten_append, List.append_nil] at hfl
      simp only [List.map_cons, List.map_nil, List.flatten_cons, List.flatten_nil, List.append_nil] at hfl
      rw [← List.append_assoc] at hfl
      unfold badE
      rw [← hfl, lastD]; simp
    rw [hb]
  · rw [if_neg h3, prs_ref1 h3 ht, if_neg (by simp)]
    have hb : badE s = true := by
      have htl : t.dropLast ++ [t.getLast h3] = t := List.dropLast_concat_getLast h3
      have hx : t.getLast h3 ≠ 10 := fun e => ht (by rw [← e]; exact List.getLast_mem h3)
      rw [← htl, ← List.append_assoc] at hfl
      unfold badE
      rw [← hfl, lastD]; simpa using hx
    rw [hb]
end Go.VN


namespace Go.VN
open Go.RowKit Go.VL
set_option linter.unusedVariables false
set_option maxRecDepth 100000
def latB : List UInt8 :=
  ([111, 114, 116, 104, 111, 103, 114, 97, 112, 104, 121, 32, 108, 97, 116, 105, 110, 10, 97, 32, 97, 47, 118, 51, 32, 49, 32, 97, 110, 121, 119, 104, 101, 114, 101, 10, 101, 32, 101, 47, 118, 51, 32, 49, 32, 97, 110, 121] : List UInt8) ++
  ([119, 104, 101, 114, 101, 10, 105, 32, 105, 47, 118, 51, 32, 49, 32, 97, 110, 121, 119, 104, 101, 114, 101, 10, 111, 32, 111, 47, 118, 51, 32, 49, 32, 97, 110, 121, 119, 104, 101, 114, 101, 10, 117, 32, 117, 47, 118, 51] : List UInt8) ++
  ([32, 49, 32, 97, 110, 121, 119, 104, 101, 114, 101, 10, 121, 32, 121, 47, 118, 51, 32, 49, 32, 97, 110, 121, 119, 104, 101, 114, 101, 10, 97, 95, 32, 97, 95, 47, 118, 50, 32, 49, 32, 97, 110, 121, 119, 104, 101, 114] : List UInt8) ++
  ([101, 10, 101, 95, 32, 101, 95, 47, 118, 50, 32, 49, 32, 97, 110, 121, 119, 104, 101, 114, 101, 10, 105, 95, 32, 105, 95, 47, 118, 50, 32, 49, 32, 97, 110, 121, 119, 104, 101, 114, 101, 10, 111, 95, 32, 111, 95, 47] : List UInt8) ++
  ([118, 50, 32, 49, 32, 97, 110, 121, 119, 104, 101, 114, 101, 10, 117, 95, 32, 117, 95, 47, 118, 50, 32, 49, 32, 97, 110, 121, 119, 104, 101, 114, 101, 10, 121, 95, 32, 121, 95, 47, 118, 50, 32, 49, 32, 97, 110, 121] : List UInt8) ++
  ([119, 104, 101, 114, 101, 10, 97, 94, 32, 97, 94, 47, 118, 49, 32, 49, 32, 97, 110, 121, 119, 104, 101, 114, 101, 10, 101, 94, 32, 101, 94, 47, 118, 49, 32, 49, 32, 97, 110, 121, 119, 104, 101, 114, 101, 10, 105, 94] : List UInt8) ++
  ([32, 105, 94, 47, 118, 49, 32, 49, 32, 97, 110, 121, 119, 104, 101, 114, 101, 10, 111, 94, 32, 111, 94, 47, 118, 49, 32, 49, 32, 97, 110, 121, 119, 104, 101, 114, 101, 10, 117, 94, 32, 117, 94, 47, 118, 49, 32, 49] : List UInt8) ++
  ([32, 97, 110, 121, 119, 104, 101, 114, 101, 10, 121, 94, 32, 121, 94, 47, 118, 49, 32, 49, 32, 97, 110, 121, 119, 104, 101, 114, 101, 10, 97, 101, 32, 97, 101, 47, 100, 50, 32, 49, 32, 97, 110, 121, 119, 104, 101, 114] : List UInt8) ++
  ([101, 10, 97, 117, 32, 97, 117, 47, 100, 50, 32, 49, 32, 97, 110, 121, 119, 104, 101, 114, 101, 10, 111, 101, 32, 111, 101, 47, 100, 50, 32, 49, 32, 97, 110, 121, 119, 104, 101, 114, 101, 10, 101, 117, 32, 101, 117, 47] : List UInt8) ++
  ([100, 50, 32, 51, 32, 97, 110, 121, 119, 104, 101, 114, 101, 10, 105, 32, 105, 47, 103, 32, 48, 32, 115, 116, 97, 114, 116, 10, 105, 32, 105, 47, 103, 32, 105, 47, 103, 32, 48, 32, 98, 101, 116, 119, 101, 101, 110, 10] : List UInt8) ++
  ([117, 32, 117, 47, 103, 32, 48, 32, 115, 116, 97, 114, 116, 10, 117, 32, 117, 47, 103, 32, 48, 32, 98, 101, 116, 119, 101, 101, 110, 10, 106, 32, 106, 47, 103, 32, 48, 32, 97, 110, 121, 119, 104, 101, 114, 101, 10, 118] : List UInt8) ++
  ([32, 118, 47, 103, 32, 48, 32, 97, 110, 121, 119, 104, 101, 114, 101, 10, 113, 117, 32, 113, 117, 47, 109, 32, 48, 32, 98, 101, 102, 111, 114, 101, 10, 103, 117, 32, 103, 117, 47, 109, 32, 50, 32, 98, 101, 102, 111, 114] : List UInt8) ++
  ([101, 10, 115, 117, 32, 115, 47, 115, 32, 117, 47, 103, 32, 51, 32, 98, 101, 102, 111, 114, 101, 10, 98, 32, 98, 47, 109, 32, 48, 32, 97, 110, 121, 119, 104, 101, 114, 101, 10, 99, 32, 99, 47, 109, 32, 48, 32, 97] : List UInt8) ++
  ([110, 121, 119, 104, 101, 114, 101, 10, 100, 32, 100, 47, 109, 32, 48, 32, 97, 110, 121, 119, 104, 101, 114, 101, 10, 102, 32, 102, 47, 109, 32, 48, 32, 97, 110, 121, 119, 104, 101, 114, 101, 10, 103, 32, 103, 47, 109, 32] : List UInt8) ++
  ([48, 32, 97, 110, 121, 119, 104, 101, 114, 101, 10, 107, 32, 107, 47, 109, 32, 48, 32, 97, 110, 121, 119, 104, 101, 114, 101, 10, 112, 32, 112, 47, 109, 32, 48, 32, 97, 110, 121, 119, 104, 101, 114, 101, 10, 116, 32, 116] : List UInt8) ++
  ([47, 109, 32, 48, 32, 97, 110, 121, 119, 104, 101, 114, 101, 10, 108, 32, 108, 47, 108, 32, 48, 32, 97, 110, 121, 119, 104, 101, 114, 101, 10, 114, 32, 114, 47, 108, 32, 48, 32, 97, 110, 121, 119, 104, 101, 114, 101, 10] : List UInt8) ++
  ([109, 32, 109, 47, 110, 32, 48, 32, 97, 110, 121, 119, 104, 101, 114, 101, 10, 110, 32, 110, 47, 110, 32, 48, 32, 97, 110, 121, 119, 104, 101, 114, 101, 10, 115, 32, 115, 47, 115, 32, 48, 32, 97, 110, 121, 119, 104, 101] : List UInt8) ++
  ([114, 101, 10, 120, 32, 120, 47, 120, 32, 48, 32, 97, 110, 121, 119, 104, 101, 114, 101, 10, 122, 32, 122, 47, 120, 32, 48, 32, 97, 110, 121, 119, 104, 101, 114, 101, 10, 104, 32, 104, 47, 98, 32, 48, 32, 97, 110, 121] : List UInt8) ++
  ([119, 104, 101, 114, 101, 10] : List UInt8)
def greB : List UInt8 :=
  ([111, 114, 116, 104, 111, 103, 114, 97, 112, 104, 121, 32, 103, 114, 101, 101, 107, 10, 97, 32, 97, 47, 118, 51, 32, 49, 32, 97, 110, 121, 119, 104, 101, 114, 101, 10, 105, 32, 105, 47, 118, 51, 32, 49, 32, 97, 110, 121] : List UInt8) ++
  ([119, 104, 101, 114, 101, 10, 117, 32, 117, 47, 118, 51, 32, 49, 32, 97, 110, 121, 119, 104, 101, 114, 101, 10, 97, 95, 32, 97, 95, 47, 118, 50, 32, 49, 32, 97, 110, 121, 119, 104, 101, 114, 101, 10, 105, 95, 32, 105] : List UInt8) ++
  ([95, 47, 118, 50, 32, 49, 32, 97, 110, 121, 119, 104, 101, 114, 101, 10, 117, 95, 32, 117, 95, 47, 118, 50, 32, 49, 32, 97, 110, 121, 119, 104, 101, 114, 101, 10, 97, 94, 32, 97, 94, 47, 118, 49, 32, 49, 32, 97] : List UInt8) ++
  ([110, 121, 119, 104, 101, 114, 101, 10, 105, 94, 32, 105, 94, 47, 118, 49, 32, 49, 32, 97, 110, 121, 119, 104, 101, 114, 101, 10, 117, 94, 32, 117, 94, 47, 118, 49, 32, 49, 32, 97, 110, 121, 119, 104, 101, 114, 101, 10] : List UInt8) ++
  ([101, 32, 101, 47, 118, 49, 32, 49, 32, 97, 110, 121, 119, 104, 101, 114, 101, 10, 111, 32, 111, 47, 118, 49, 32, 49, 32, 97, 110, 121, 119, 104, 101, 114, 101, 10, 101, 95, 32, 101, 95, 47, 118, 50, 32, 49, 32, 97] : List UInt8) ++
  ([110, 121, 119, 104, 101, 114, 101, 10, 111, 95, 32, 111, 95, 47, 118, 50, 32, 49, 32, 97, 110, 121, 119, 104, 101, 114, 101, 10, 97, 105, 32, 97, 105, 47, 100, 50, 32, 49, 32, 97, 110, 121, 119, 104, 101, 114, 101, 10] : List UInt8) ++
  ([97, 117, 32, 97, 117, 47, 100, 50, 32, 49, 32, 97, 110, 121, 119, 104, 101, 114, 101, 10, 101, 105, 32, 101, 105, 47, 100, 50, 32, 49, 32, 97, 110, 121, 119, 104, 101, 114, 101, 10, 101, 117, 32, 101, 117, 47, 100, 50] : List UInt8) ++
  ([32, 49, 32, 97, 110, 121, 119, 104, 101, 114, 101, 10, 111, 105, 32, 111, 105, 47, 100, 50, 32, 49, 32, 97, 110, 121, 119, 104, 101, 114, 101, 10, 111, 117, 32, 111, 117, 47, 100, 50, 32, 49, 32, 97, 110, 121, 119, 104] : List UInt8) ++
  ([101, 114, 101, 10, 117, 105, 32, 117, 105, 47, 100, 50, 32, 49, 32, 97, 110, 121, 119, 104, 101, 114, 101, 10, 112, 104, 32, 112, 104, 47, 109, 32, 48, 32, 97, 110, 121, 119, 104, 101, 114, 101, 10, 116, 104, 32, 116, 104] : List UInt8) ++
  ([47, 109, 32, 48, 32, 97, 110, 121, 119, 104, 101, 114, 101, 10, 107, 104, 32, 107, 104, 47, 109, 32, 48, 32, 97, 110, 121, 119, 104, 101, 114, 101, 10, 112, 32, 112, 47, 109, 32, 48, 32, 97, 110, 121, 119, 104, 101, 114] : List UInt8) ++
  ([101, 10, 116, 32, 116, 47, 109, 32, 48, 32, 97, 110, 121, 119, 104, 101, 114, 101, 10, 107, 32, 107, 47, 109, 32, 48, 32, 97, 110, 121, 119, 104, 101, 114, 101, 10, 98, 32, 98, 47, 109, 32, 48, 32, 97, 110, 121, 119] : List UInt8) ++
  ([104, 101, 114, 101, 10, 100, 32, 100, 47, 109, 32, 48, 32, 97, 110, 121, 119, 104, 101, 114, 101, 10, 103, 32, 103, 47, 109, 32, 48, 32, 97, 110, 121, 119, 104, 101, 114, 101, 10, 114, 104, 32, 114, 104, 47, 108, 32, 48] : List UInt8) ++
  ([32, 97, 110, 121, 119, 104, 101, 114, 101, 10, 108, 32, 108, 47, 108, 32, 48, 32, 97, 110, 121, 119, 104, 101, 114, 101, 10, 114, 32, 114, 47, 108, 32, 48, 32, 97, 110, 121, 119, 104, 101, 114, 101, 10, 109, 32, 109, 47] : List UInt8) ++
  ([110, 32, 48, 32, 97, 110, 121, 119, 104, 101, 114, 101, 10, 110, 32, 110, 47, 110, 32, 48, 32, 97, 110, 121, 119, 104, 101, 114, 101, 10, 115, 32, 115, 47, 115, 32, 48, 32, 97, 110, 121, 119, 104, 101, 114, 101, 10, 112] : List UInt8) ++
  ([115, 32, 112, 115, 47, 120, 32, 48, 32, 97, 110, 121, 119, 104, 101, 114, 101, 10, 107, 115, 32, 107, 115, 47, 120, 32, 48, 32, 97, 110, 121, 119, 104, 101, 114, 101, 10, 120, 32, 120, 47, 120, 32, 48, 32, 97, 110, 121] : List UInt8) ++
  ([119, 104, 101, 114, 101, 10, 122, 32, 122, 47, 120, 32, 48, 32, 97, 110, 121, 119, 104, 101, 114, 101, 10, 104, 32, 104, 47, 98, 32, 48, 32, 115, 116, 97, 114, 116, 10] : List UInt8)
abbrev LAT : Ort := (prsO latB).1
abbrev GRE : Ort := (prsO greB).1
theorem lat_ok : (prsO latB).2 = (0, 0) := by decide +kernel
theorem gre_ok : (prsO greB).2 = (0, 0) := by decide +kernel
theorem lat_i : findL [105] 0 LAT.2 = [2, 22, 23] := by decide +kernel
theorem lat_qu : findL [113, 117] 0 LAT.2 = [28] := by decide +kernel
theorem lat_len : LAT.2.length = 47 ∧ GRE.2.length = 40 := by decide +kernel
end Go.VN


namespace Go.VS.YtekfjbjdlenhoaaGreatDoor
open Go Go.VL Go.VN Go.RowKit Go.Proofs
set_option maxRecDepth 100000
set_option linter.unusedVariables false
set_option linter.unusedSimpArgs false

theorem f_fixed (s : List UInt8) : Spc X 40 [.one (.str s)] (.agg (eO (prsO s).1)) := by
  refine Spc.start Tryz.func40 rfl (h := fun hs R hR => ?_)
  unfold Tryz.f40
  simp only [entryE, PA.av]
  have k1 := f_OParse s
  generalize prsO s = P at *
  obtain ⟨⟨nm, l⟩, z, e⟩ := P
  simp only [orR, eO] at *
  refine walk (hQ := ?_)
  refine R_call k1 (hK := ?_)
  refine walk (hQ := ?_)
  exact hR _ (ret1 (hp := rfl))
theorem f_Latin : Spc X 23 [] (.agg (eO LAT)) := by
  refine Spc.start Tryz.func23 rfl (h := fun hs R hR => ?_)
  unfold Tryz.f23
  simp only [entryE]
  have k1 : Spc X 40 [.one (.str latB)] (.agg (eO LAT)) := f_fixed latB
  generalize LAT = o at *
  obtain ⟨nm, l⟩ := o
  simp only [eO] at *
  refine walk (hQ := ?_)
  refine R_call (args := [.one (.str latB)]) k1 (hv := .cons (.cs rfl) (VA.one (.pv rfl)) .nil) (hK := ?_)
  refine walk (hQ := ?_)
  exact hR _ (ret1 (hp := rfl))
theorem g_Latin : Spc X 26 [] (.agg (eO LAT)) := by
  refine Spc.start Tryz.func26 rfl (h := fun hs R hR => ?_)
  unfold Tryz.f26
  simp only [entryE]
  have k1 := g_OParse latB
  rw [prs_same] at k1
  unfold LAT at hR
  generalize prsO latB = P at *
  obtain ⟨⟨nm, l⟩, z, e⟩ := P
  simp only [orR, eO] at *
  refine walk (hQ := ?_)
  refine R_call (args := [.one (.str latB)]) k1 (hv := .cons (.cs rfl) (VA.one (.pv rfl)) .nil) (hK := ?_)
  refine walk (hQ := ?_)
  exact hR _ (ret1 (hp := rfl))
theorem f_Greek : Spc X 24 [] (.agg (eO GRE)) := by
  refine Spc.start Tryz.func24 rfl (h := fun hs R hR => ?_)
  unfold Tryz.f24
  simp only [entryE]
  have k1 : Spc X 40 [.one (.str greB)] (.agg (eO GRE)) := f_fixed greB
  generalize GRE = o at *
  obtain ⟨nm, l⟩ := o
  simp only [eO] at *
  refine walk (hQ := ?_)
  refine R_call (args := [.one (.str greB)]) k1 (hv := .cons (.cs rfl) (VA.one (.pv rfl)) .nil) (hK := ?_)
  refine walk (hQ := ?_)
  exact hR _ (ret1 (hp := rfl))
theorem g_Greek : Spc X 27 [] (.agg (eO GRE)) := by
  refine Spc.start Tryz.func27 rfl (h := fun hs R hR => ?_)
  unfold Tryz.f27
  simp only [entryE]
  have k1 := g_OParse greB
  rw [prs_same] at k1
  unfold GRE at hR
  generalize prsO greB = P at *
  obtain ⟨⟨nm, l⟩, z, e⟩ := P
  simp only [orR, eO] at *
  refine walk (hQ := ?_)
  refine R_call (args := [.one (.str greB)]) k1 (hv := .cons (.cs rfl) (VA.one (.pv rfl)) .nil) (hK := ?_)
  refine walk (hQ := ?_)
  exact hR _ (ret1 (hp := rfl))
end Go.VS.YtekfjbjdlenhoaaGreatDoor


namespace Go.VL
open Go.Sort
set_option linter.unusedVariables false
set_option linter.unusedSimpArgs false

def ltU (x y : UInt8) : Bool := decide ((x.toNat : Int) < (y.toNat : Int))
/-- Two elements exchanged. -/
def swL (l : List UInt8) (i j : Nat) : List UInt8 := (l.set i (l.getD j default)).set j (l.getD i default)
theorem swL_len (l : List UInt8) (i j : Nat) : (swL l i j).length = l.length := by simp [swL]
theorem ta_get (l : List UInt8) (j : Nat) : l.toArray[j]! = l.getD j default := by simp [List.getD_eq_getElem?_getD]
theorem ta_swp (l : List UInt8) (i j : Nat) : swp l.toArray i j = (swL l i j).toArray := by
  unfold swp swL; rw [ta_get, ta_get]; simp
theorem ins_stop {a j : Nat} {l : List UInt8} (h : ¬ (a < j ∧ ltU (l.getD j default) (l.getD (j - 1) default) = true)) : insInner ltU a j l.toArray = l.toArray := by
  cases j with
  | zero => rfl
  | succ j =>
    rw [insInner, if_neg]
    rw [ta_get, ta_get]
    simp only [Bool.and_eq_true, decide_eq_true_eq]
    simpa using h
theorem ins_go {a j : Nat} {l : List UInt8} (h : a < j) (hl : ltU (l.getD j default) (l.getD (j - 1) default) = true) : insInner ltU a j l.toArray = insInner ltU a (j - 1) (swL l j (j - 1)).toArray := by
  cases j with
  | zero => omega
  | succ j =>
    rw [insInner, if_pos, ta_swp]; rfl
    rw [ta_get, ta_get]
    simp only [Bool.and_eq_true, decide_eq_true_eq]
    exact ⟨h, by simpa using hl⟩
def insL (a b : Nat) (l : List UInt8) : List UInt8 := (insertionSort ltU l.toArray a b).toList
theorem swp_sz {α : Type} [Inhabited α] (d : Array α) (i j : Nat) : (swp d i j).size = d.size := by simp [swp]
theorem insInner_sz (a : Nat) : ∀ (j : Nat) (d : Array UInt8), (insInner ltU a j d).size = d.size
  | 0, d => rfl
  | j + 1, d => by
    rw [insInner]; split
    · rw [insInner_sz a j, swp_sz]
    · rfl
theorem insOuter_sz (a b : Nat) : ∀ (k i : Nat) (d : Array UInt8), b - i ≤ k → (insOuter ltU a b i d).size = d.size
  | 0, i, d, h => by rw [insOuter, if_neg (by omega)]
  | k + 1, i, d, h => by
    rw [insOuter]; split
    · rw [insOuter_sz a b k (i + 1) _ (by omega), insInner_sz]
    · rfl
theorem insL_len (a b : Nat) (l : List UInt8) : (insL a b l).length = l.length := by
  unfold insL insertionSort
  have := insOuter_sz a b (b - (a + 1)) (a + 1) l.toArray (Nat.le_refl _)
  simpa using this
end Go.VL


namespace Go.VS.YtekfjbjdlenhoaaGreatDoor
open Go Go.VL Go.VN Go.RowKit Go.Proofs
set_option maxRecDepth 100000
set_option linter.unusedVariables false
set_option linter.unusedSimpArgs false

theorem s_isNaN (x : UInt8) : Spc X 124 [.one (.int .u8 x.toNat)] (.one (.bool false)) := by
  refine Spc.start Tryz.func124 rfl (h := fun hs R hR => ?_)
  unfold Tryz.f124
  simp only [entryE, PA.av]
  rw [show false = decide (¬ ((x.toNat : Int) = x.toNat)) by simp] at hR
  refine walk (hQ := ?_)
  exact hR _ (ret1 (hp := rfl))
theorem s_Less (x y : UInt8) : Spc X 92 [.one (.int .u8 x.toNat), .one (.int .u8 y.toNat)] (.one (.bool (ltU x y))) := by
  refine Spc.start Tryz.func92 rfl (h := fun hs R hR => ?_)
  unfold Tryz.f92
  simp only [entryE, PA.av]
  unfold ltU at hR
  refine walk (hQ := ?_)
  refine R_call (s_isNaN x) (hK := ?_)
  refine walk (hQ := ?_)
  exact hR _ (ret1 (hp := rfl))
theorem s_Ins (l : List UInt8) (a b : Nat) (hb : b ≤ l.length) (ha : a ≤ l.length) (hl : l.length ≤ 1000000000000) : SpcS X 86 [.one (.own 1000 1 l.length), vI a, vI b] [(1000, (.pu 5 (l.flatMap eU), false))] (.tup []) [(1000, (.pu 5 ((insL a b l).flatMap eU), false))] := by
  refine SpcS.start 0 Tryz.func86 rfl (h := fun hs hs2 R hR => ?_)
  unfold Tryz.f86
  simp only [entryV]
  generalize hD : Go.Sort.insOuter ltU a b (a + 1) l.toArray = D
  have hfin : insL a b l = D.toList := by unfold insL Go.Sort.insertionSort; rw [hD]
  generalize hn : l.length = n at *
  refine walk (hQ := ?_)
  refine Lp.intro2 (fun (i : Nat) (cur : List UInt8) => ⟨[(0, .one (.own 1000 1 n)), (1, vI a), (2, vI b), (6, vI i)], [(1000, (.pu 5 (cur.flatMap eU), false))], 0⟩)
    (fun i cur => i ≤ n + 1 ∧ a < i ∧ cur.length = n ∧ Go.Sort.insOuter ltU a b i cur.toArray = D) (fun i _ => b - i) (a + 1) l
    ⟨by omega, by omega, hn, hD⟩ (h0 := le_auto) (hr := fun i cur K ⟨hi, hai, hc, hp⟩ hK => ?_)
  rw [Go.Sort.insOuter] at hp
  refine walk (hQ := ?_)
  refine W_if (ht := fun h1 => ?_) (hf := fun h1 => ?_)
  · have hib : i < b := by omega
    rw [if_pos hib] at hp
    refine walk (hQ := ?_)
    refine Lp.intro2 (fun (j : Nat) (c : List UInt8) => ⟨[(0, .one (.own 1000 1 n)), (1, vI a), (2, vI b), (6, vI i), (7, vI j)], [(1000, (.pu 5 (c.flatMap eU), false))], 0⟩)
      (fun j c => j ≤ i ∧ c.length = n ∧ Go.Sort.insInner ltU a j c.toArray = Go.Sort.insInner ltU a i cur.toArray) (fun j _ => j) i cur
      ⟨Nat.le_refl _, hc, rfl⟩ (h0 := le_auto) (hr := fun j c K' ⟨hj, hcl, hq⟩ hK' => ?_)
    refine walk (hQ := ?_)
    refine R_g_if (h1 := fun h2 => ?_) (h2 := fun h2 => ?_) <;> simp only [Bool.false_eq_true, if_false, if_true, Decidable.not_not] at h2
    · have haj : a < j := by omega
      have ej : ((j : Int) - 1) = ((j - 1 : Nat) : Int) := by omega
      have k1 := s_Less (c.getD j default) (c.getD (j - 1) default)
      refine walk (hQ := ?_)
      rw [ej]
      generalize hj1 : j - 1 = j1 at *
      refine walk (hQ := ?_)
      refine R_call k1 (hK := ?_)
      refine walk (hQ := ?_)
      refine W_ifb (ht := fun h3 => ?_) (hf := fun h3 => ?_)
      · have hgo := ins_go haj (by rw [hj1]; exact h3)
        rw [hj1] at hgo
        refine walk (hQ := ?_)
        rw [ej]
        refine walk (hQ := ?_)
        exact hK' _ j1 (swL c j j1) ⟨by omega, by rw [swL_len]; exact hcl, by rw [← hgo]; exact hq⟩ (by omega) le_auto
      · rw [ins_stop (by rw [hj1, h3]; simp)] at hq
        rw [← hq] at hp
        refine walk (hQ := ?_)
        exact hK _ (i + 1) c ⟨by omega, by omega, hcl, hp⟩ (by omega) le_auto
    · rw [ins_stop (fun h => h2 (by omega))] at hq
      rw [← hq] at hp
      refine walk (hQ := ?_)
      exact hK _ (i + 1) c ⟨by omega, by omega, hcl, hp⟩ (by omega) le_auto
  · rw [if_neg (by omega)] at hp
    refine walk (hQ := ?_)
    refine hR _ (retS0 (hle := ⟨?_, trivial⟩))
    rw [hfin, ← hp]; rfl
end Go.VS.YtekfjbjdlenhoaaGreatDoor


namespace Go.VS.YtekfjbjdlenhoaaGreatDoor
open Go Go.VL Go.VN Go.RowKit Go.Proofs
set_option maxRecDepth 100000
set_option linter.unusedVariables false
set_option linter.unusedSimpArgs false

def lenTab : List UInt8 := [0] ++ [1] ++ List.replicate 2 2 ++ List.replicate 4 3 ++ List.replicate 8 4 ++ List.replicate 16 5 ++ List.replicate 32 6 ++ List.replicate 64 7 ++ List.replicate 128 8
def lenF (x : Nat) : Int := if 256 ≤ x then 8 + (lenTab.getD (x / 256) 0).toNat else (lenTab.getD x 0).toNat
theorem s_Len64 (x : Nat) (hx : x < 65536) : Spc X 96 [.one (.int .u64 x)] (.one (.int .i64 (lenF x))) := by
  refine Spc.start Tryz.func96 rfl (h := fun hs R hR => ?_)
  unfold Tryz.f96
  simp only [entryE, PA.av]
  unfold lenF at hR
  refine walk (hQ := ?_)
  refine W_if (ht := fun h1 => ?_) (hf := fun h1 => ?_)
  · omega
  refine walk (hQ := ?_)
  refine W_if (ht := fun h2 => ?_) (hf := fun h2 => ?_)
  · omega
  refine walk (hQ := ?_)
  refine W_if (ht := fun h3 => ?_) (hf := fun h3 => ?_)
  · rw [if_pos (by omega)] at hR
    refine walk (hQ := ?_)
    refine R_bin (v := .one (.pv (.int .u64 ((x / 256 : Nat) : Int)))) ⟨rfl⟩ ⟨rfl⟩ (fun K hK => ⟨by decide, by
      rw [show (x : Int).fdiv (2 ^ (min (Int.toNat 8) (IntKind.bits .u64))) = ((x / 256 : Nat) : Int) by rw [Int.fdiv_eq_ediv_of_nonneg _ (by decide)]; rfl]
      exact hK⟩) (hfl := .seq) (hK := ?_)
    generalize hy : x / 256 = y at *
    have hy2 : y < 256 := by omega
    refine walk (hQ := ?_)
    refine R_sidx (l := lenTab) (h0 := ⟨by omega, by rw [show lenTab.length = 256 from rfl]; omega⟩) (hK := ?_)
    have hc := UInt8.toNat_lt (lenTab.getD y 0)
    generalize lenTab.getD y 0 = c at *
    refine walk (hQ := ?_)
    exact hR _ (ret1 (hp := rfl))
  rw [if_neg (by omega)] at hR
  refine walk (hQ := ?_)
  refine R_sidx (l := lenTab) (h0 := ⟨by omega, by rw [show lenTab.length = 256 from rfl]; omega⟩) (hK := ?_)
  have hc := UInt8.toNat_lt (lenTab.getD x 0)
  generalize lenTab.getD x 0 = c at *
  rw [show (c.toNat : Int) = 0 + c.toNat by omega] at hR
  refine walk (hQ := ?_)
  exact hR _ (ret1 (hp := rfl))
theorem s_Len (x : Nat) (hx : x < 65536) : Spc X 59 [.one (.int .u64 x)] (.one (.int .i64 (lenF x))) := by
  refine Spc.start Tryz.func59 rfl (h := fun hs R hR => ?_)
  unfold Tryz.f59
  simp only [entryE, PA.av]
  refine walk (hQ := ?_)
  refine R_call (s_Len64 x hx) (hK := ?_)
  refine walk (hQ := ?_)
  exact hR _ (ret1 (hp := rfl))
theorem s_Pdq12 (l : List UInt8) (m : Int) (hl : l.length ≤ 12) : SpcS X 58 [.one (.own 1000 1 l.length), vI 0, vI l.length, vI m] [(1000, (.pu 5 (l.flatMap eU), false))] (.tup []) [(1000, (.pu 5 ((insL 0 l.length l).flatMap eU), false))] := by
  refine SpcS.start 0 Tryz.func58 rfl (h := fun hs hs2 R hR => ?_)
  unfold Tryz.f58
  simp only [entryV]
  have k1 := s_Ins l 0 l.length (Nat.le_refl _) (Nat.zero_le _) (by omega)
  refine walk (hQ := ?_)
  refine Lp.intro (fun (i : Nat) => ⟨[(0, .one (.own 1000 1 l.length)), (1, vI 0), (2, vI l.length), (3, vI m)], [(1000, (.pu 5 (l.flatMap eU), false))], 0⟩) (fun i => True) (fun i => i) 0 trivial (h0 := le_auto) (hr := fun i K _ hK => ?_)
  refine walk (hQ := ?_)
  refine W_if (ht := fun h1 => ?_) (hf := fun h1 => ?_)
  · refine walk (hQ := ?_)
    refine R_callM k1 (hK := ?_)
    refine walk (hQ := ?_)
    refine hR _ (retS0 (hle := ⟨rfl, trivial⟩))
  · omega
theorem s_Sort12 (l : List UInt8) (hl : l.length ≤ 12) : SpcS X 36 [.one (.own 1000 1 l.length)] [(1000, (.pu 5 (l.flatMap eU), false))] (.tup []) [(1000, (.pu 5 ((insL 0 l.length l).flatMap eU), false))] := by
  refine SpcS.start 0 Tryz.func36 rfl (h := fun hs hs2 R hR => ?_)
  unfold Tryz.f36
  simp only [entryV]
  refine walk (hQ := ?_)
  refine R_call (s_Len l.length (by omega)) (hK := ?_)
  refine walk (hQ := ?_)
  refine R_callM (s_Pdq12 l _ hl) (hK := ?_)
  refine walk (hQ := ?_)
  refine hR _ (retS0 (hle := ⟨rfl, trivial⟩))
theorem s_Compact0 (l : List UInt8) (hl : l.length ≤ 1000000000000) (hd : ∀ i, i + 1 < l.length → l.getD (i + 1) default ≠ l.getD i default) : SpcS X 37 [.one (.own 1000 1 l.length)] [(1000, (.pu 5 (l.flatMap eU), false))] (.one (.own 1000 1 l.length)) [(1000, (.pu 5 (l.flatMap eU), false))] := by
  refine SpcS.start 0 Tryz.func37 rfl (h := fun hs hs2 R hR => ?_)
  unfold Tryz.f37
  simp only [entryV]
  refine walk (hQ := ?_)
  refine W_if (ht := fun h1 => ?_) (hf := fun h1 => ?_)
  · refine walk (hQ := ?_)
    refine hR _ (retS1 (hy := rfl) (hle := ⟨rfl, trivial⟩))
  refine walk (hQ := ?_)
  refine Lp.intro (fun (i : Nat) => ⟨[(0, .one (.own 1000 1 l.length)), (3, vI i)], [(1000, (.pu 5 (l.flatMap eU), false))], 0⟩) (fun i => i ≤ l.length ∧ 1 ≤ i) (fun i => l.length - i) 1 ⟨by omega, by omega⟩ (h0 := le_auto) (hr := fun i K ⟨hi, hi1⟩ hK => ?_)
  refine walk (hQ := ?_)
  refine W_if (ht := fun h2 => ?_) (hf := fun h2 => ?_)
  · have ej : ((i : Int) - 1) = ((i - 1 : Nat) : Int) := by omega
    have hne := hd (i - 1) (by omega)
    rw [show i - 1 + 1 = i by omega] at hne
    refine walk (hQ := ?_)
    rw [ej]
    generalize hj : i - 1 = j at *
    refine walk (hQ := ?_)
    refine W_if (ht := fun h3 => ?_) (hf := fun h3 => ?_)
    · simp only [Int.toNat_natCast] at h3
      exact absurd (UInt8.toNat_inj.1 (by omega)) hne
    · refine walk (hQ := ?_)
      exact hK _ (i + 1) ⟨by omega, by omega⟩ (by omega) le_auto
  · refine walk (hQ := ?_)
    refine hR _ (retS1 (hy := rfl) (hle := ⟨rfl, trivial⟩))
end Go.VS.YtekfjbjdlenhoaaGreatDoor


namespace Go.VS.YtekfjbjdlenhoaaGreatDoor
open Go Go.VL Go.VN Go.RowKit Go.Proofs
set_option maxRecDepth 100000
set_option linter.unusedVariables false
set_option linter.unusedSimpArgs false

def txO (l : List Sgn) : List UInt8 := l.flatMap (·.1)
theorem txO_next {l : List Sgn} {i : Nat} {x : Sgn} (h : l[i]? = some x) : txO (l.take (i + 1)) = txO (l.take i) ++ x.1 := by
  obtain ⟨hi, rfl⟩ := List.getElem?_eq_some_iff.1 h
  unfold txO
  rw [List.take_succ_eq_append_getElem hi, List.flatMap_append]; simp
theorem txO_le (l : List Sgn) (i : Nat) : (txO (l.take i)).length ≤ (txO l).length := by
  conv => rhs; rw [← List.take_append_drop i l]
  unfold txO
  rw [List.flatMap_append, List.length_append]; omega
theorem f_Alphabet (o : Ort) (S : List UInt8) (hb : (txO o.2).length ≤ 12) (hS : insL 0 (txO o.2).length (txO o.2) = S) (hd : ∀ i, i + 1 < S.length → S.getD (i + 1) default ≠ S.getD i default) : Spc X 18 [orA o] (.one (.str S)) := by
  obtain ⟨nme, l⟩ := o
  refine Spc.start Tryz.func18 rfl (h := fun hs R hR => ?_)
  unfold Tryz.f18
  simp only [entryE, PA.av, eO, List.map_cons, List.map_nil]
  simp only at hb hS
  have hll : l.length ≤ 9223372036854775807 := (sane_slc (hs.1 (slc eSg l) (by simp [eO]))).1
  have hSl : S.length = (txO l).length := by rw [← hS, insL_len]
  refine walk (hQ := ?_)
  refine Lp.intro2 (fun (out : List UInt8) (i : Nat) => ⟨[(1, .one (.ptr 0 0)), (3, .one (.own 1 1 out.length)), (7, vP (slc eSg l)), (8, vI l.length), (9, vI i)], [(0, (.mx [.pv (.str nme), .pv (slc eSg l)], false)), (1, (.pu 5 (out.flatMap eU), false))], 2⟩) (fun out i => i ≤ l.length ∧ out = txO (l.take i)) (fun out i => l.length - i) [] 0 ⟨Nat.zero_le _, by simp [txO]⟩ (h0 := le_ghost1 1 5 (hle := le_auto)) (hr := fun out i K ⟨hi, ho⟩ hK => ?_)
  have hol : out.length ≤ 12 := by rw [ho]; exact Nat.le_trans (txO_le l i) hb
  refine walk (hQ := ?_)
  refine W_if (ht := fun h4 => ?_) (hf := fun h4 => ?_)
  · have hil : i < l.length := by omega
    have e0 := getD_some hil
    have hn := txO_next e0
    have hx : (out ++ (l.getD i default).1).length ≤ 12 := by rw [ho, ← hn]; exact Nat.le_trans (txO_le l (i + 1)) hb
    rw [List.length_append] at hx
    rw [← ho] at hn
    refine walk (hQ := ?_)
    generalize l.getD i default = x at *
    obtain ⟨xa, xb, xc, xd⟩ := x
    simp only [eSg, List.map_cons, List.map_nil] at *
    refine walk (hQ := ?_)
    exact hK _ (out ++ xa) (i + 1) ⟨by omega, hn.symm⟩ (by omega) (by rw [List.length_append]; exact le_auto)
  · obtain rfl : i = l.length := by omega
    rw [List.take_length] at ho
    subst ho
    have k1 := s_Sort12 (txO l) hb
    rw [hS] at k1
    have k2 := s_Compact0 S (by omega) hd
    rw [hSl] at k2
    refine walk (hQ := ?_)
    refine R_callM k1 (hK := ?_)
    refine walk (hQ := ?_)
    refine R_callM k2 (hK := ?_)
    refine walk (hQ := ?_)
    exact hR _ (ret1 (hp := rfl))
end Go.VS.YtekfjbjdlenhoaaGreatDoor


namespace Go.VN
open Go.RowKit Go.VL
set_option linter.unusedVariables false
theorem begs_pos {l : List Snd} (h : 0 < l.length) : begs l = nuc (l.getD 0 default) := by
  match l, h with
  | s :: l, _ => rfl
theorem begs_nil {l : List Snd} (h : ¬ 0 < l.length) : begs l = false := by
  match l, h with
  | [], _ => rfl
  | s :: l, h => simp at h
theorem ends_pos {l : List Snd} (h : 0 < l.length) : ends l = nuc (l.getD (l.length - 1) default) := by
  unfold ends
  rw [List.getLast?_eq_getElem?, getD_some (show l.length - 1 < l.length by omega)]
theorem ends_nil {l : List Snd} (h : ¬ 0 < l.length) : ends l = false := by
  match l, h with
  | [], _ => rfl
  | s :: l, h => simp at h
theorem fitW0 (b a : List Snd) : fitW 0 b a = true := rfl
theorem fitW1 (b a : List Snd) : fitW 1 b a = begs a := rfl
theorem fitW2 (b a : List Snd) : fitW 2 b a = (begs a && b.isEmpty) := rfl
theorem fitW3 (b a : List Snd) : fitW 3 b a = (begs a && ends b) := rfl
theorem fitW4 (b a : List Snd) : fitW 4 b a = !begs a := rfl
theorem fitWx {w : Int} (h0 : ¬ w = 0) (h1 : ¬ w = 1) (h2 : ¬ w = 2) (h3 : ¬ w = 3) (h4 : ¬ w = 4) (b a : List Snd) : fitW w b a = false := by
  unfold fitW; rw [if_neg h0, if_neg h1, if_neg h2, if_neg h3, if_neg h4]
theorem empty_dec {α : Type} (l : List α) : l.isEmpty = decide ((l.length : Int) = 0) := by
  cases l with
  | nil => rfl
  | cons x l => rw [List.isEmpty_cons, decide_eq_false]; rw [List.length_cons]; omega
theorem findL_snoc (s : List UInt8) : ∀ (l : List Sgn) (k : Nat) (x : Sgn), findL s k (l ++ [x]) = findL s k l ++ if x.1 = s then [((k + l.length : Nat) : Int)] else []
  | [], k, x => by
    simp only [List.nil_append, findL, List.length_nil, Nat.add_zero]
  | y :: l, k, x => by
    have ih := findL_snoc s l (k + 1) x
    simp only [List.cons_append, findL, ih, List.length_cons]
    rw [show k + 1 + l.length = k + (l.length + 1) by omega]
    by_cases h : y.1 = s <;> simp [h]
theorem findL_next {s : List UInt8} {l : List Sgn} {i : Nat} {x : Sgn} (h : l[i]? = some x) : findL s 0 (l.take (i + 1)) = findL s 0 (l.take i) ++ if x.1 = s then [(i : Int)] else [] := by
  obtain ⟨hi, rfl⟩ := List.getElem?_eq_some_iff.1 h
  rw [List.take_succ_eq_append_getElem hi, findL_snoc, Nat.zero_add, List.length_take, Nat.min_eq_left (by omega)]
theorem findL_len (s : List UInt8) : ∀ (l : List Sgn) (k : Nat), (findL s k l).length ≤ l.length
  | [], k => by simp [findL]
  | y :: l, k => by
    have ih := findL_len s l (k + 1)
    simp only [findL]
    by_cases h : y.1 = s
    · rw [if_pos h]; simp; omega
    · rw [if_neg h, List.length_cons]; omega
end Go.VN


namespace Go.VS.YtekfjbjdlenhoaaGreatDoor
open Go Go.VL Go.VN Go.RowKit Go.Proofs
set_option maxRecDepth 100000
set_option linter.unusedVariables false
set_option linter.unusedSimpArgs false

theorem f_Fits (o : Ort) (i : Int) (b a : List Snd) : Spc X 13 [orA o, .one (.int .i64 i), .one (slc eSd b), .one (slc eSd a)] (.one (.bool (fitsO o i b a))) := by
  obtain ⟨nme, l⟩ := o
  refine Spc.start Tryz.func13 rfl (h := fun hs R hR => ?_)
  unfold Tryz.f13
  simp only [entryE, PA.av, eO, List.map_cons, List.map_nil]
  unfold fitsO at hR
  simp only at hR
  have la := (sane_slc hs.2.2.1).1
  have lb := (sane_slc hs.2.2.2.1).1
  refine walk (hQ := ?_)
  refine R_g_if (h1 := fun h1 => ?_) (h2 := fun h1 => ?_) <;> simp only [Bool.false_eq_true, if_false, if_true, Decidable.not_not] at h1
  · refine walk (hQ := ?_)
    refine W_if (ht := fun h2 => ?_) (hf := fun h2 => ?_)
    · rw [if_pos (by omega)] at hR
      refine walk (hQ := ?_)
      exact hR _ (ret1 (hp := rfl))
    rw [if_neg (by omega)] at hR
    refine walk (hQ := ?_)
    refine R_g_if (h1 := fun h3 => ?_) (h2 := fun h3 => ?_) <;> simp only [Bool.false_eq_true, if_false, if_true, Decidable.not_not] at h3
    · have hbg := begs_pos (l := a) (by omega)
      have k1 := f_Nucleus (a.getD 0 default)
      refine walk (hQ := ?_)
      rw [show a.getD (Int.toNat 0) default = a.getD 0 default from rfl]
      generalize a.getD 0 default = x at *
      rw [← hbg] at k1
      cases hb : begs a with
      | true =>
        rw [hb] at k1
        refine R_call k1 (hK := ?_)
        refine walk (hQ := ?_)
        rw [show l.getD i.toNat default = l.getD i.toNat zSg from rfl]
        generalize (l.getD i.toNat zSg).2.2.2 = w at *
        refine W_if (ht := fun w0 => ?_) (hf := fun w0 => ?_)
        · rw [w0, fitW0] at hR
          refine walk (hQ := ?_)
          exact hR _ (ret1 (hp := rfl))
        refine walk (hQ := ?_)
        refine W_if (ht := fun w1 => ?_) (hf := fun w1 => ?_)
        · rw [w1, fitW1, hb] at hR
          refine walk (hQ := ?_)
          exact hR _ (ret1 (hp := rfl))
        refine walk (hQ := ?_)
        refine W_if (ht := fun w2 => ?_) (hf := fun w2 => ?_)
        · rw [w2, fitW2, hb, empty_dec] at hR
          refine walk (hQ := ?_)
          exact hR _ (ret1 (hp := rfl))
        refine walk (hQ := ?_)
        refine W_if (ht := fun w3 => ?_) (hf := fun w3 => ?_)
        · rw [w3, fitW3, hb] at hR
          refine walk (hQ := ?_)
          refine R_g_if (h1 := fun h7 => ?_) (h2 := fun h7 => ?_) <;> simp only [Bool.false_eq_true, if_false, if_true, Decidable.not_not] at h7
          · have he := ends_pos (l := b) (by omega)
            have k2 := f_Nucleus (b.getD (b.length - 1) default)
            rw [he, Bool.true_and] at hR
            refine walk (hQ := ?_)
            rw [show ((b.length : Int) - 1).toNat = b.length - 1 by omega]
            refine walk (hQ := ?_)
            generalize b.getD (b.length - 1) default = y at *
            refine R_call k2 (hK := ?_)
            refine walk (hQ := ?_)
            exact hR _ (ret1 (hp := rfl))
          · rw [ends_nil (l := b) (by omega)] at hR
            refine walk (hQ := ?_)
            exact hR _ (ret1 (hp := rfl))
        refine walk (hQ := ?_)
        refine W_if (ht := fun w4 => ?_) (hf := fun w4 => ?_)
        · rw [w4, fitW4, hb] at hR
          refine walk (hQ := ?_)
          exact hR _ (ret1 (hp := rfl))
        rw [fitWx w0 w1 w2 w3 w4] at hR
        refine walk (hQ := ?_)
        exact hR _ (ret1 (hp := rfl))
      | false =>
        rw [hb] at k1
        refine R_call k1 (hK := ?_)
        refine walk (hQ := ?_)
        rw [show l.getD i.toNat default = l.getD i.toNat zSg from rfl]
        generalize (l.getD i.toNat zSg).2.2.2 = w at *
        refine W_if (ht := fun w0 => ?_) (hf := fun w0 => ?_)
        · rw [w0, fitW0] at hR
          refine walk (hQ := ?_)
          exact hR _ (ret1 (hp := rfl))
        refine walk (hQ := ?_)
        refine W_if (ht := fun w1 => ?_) (hf := fun w1 => ?_)
        · rw [w1, fitW1, hb] at hR
          refine walk (hQ := ?_)
          exact hR _ (ret1 (hp := rfl))
        refine walk (hQ := ?_)
        refine W_if (ht := fun w2 => ?_) (hf := fun w2 => ?_)
        · rw [w2, fitW2, hb, empty_dec] at hR
          refine walk (hQ := ?_)
          exact hR _ (ret1 (hp := rfl))
        refine walk (hQ := ?_)
        refine W_if (ht := fun w3 => ?_) (hf := fun w3 => ?_)
        · rw [w3, fitW3, hb] at hR
          refine walk (hQ := ?_)
          exact hR _ (ret1 (hp := rfl))
        refine walk (hQ := ?_)
        refine W_if (ht := fun w4 => ?_) (hf := fun w4 => ?_)
        · rw [w4, fitW4, hb] at hR
          refine walk (hQ := ?_)
          exact hR _ (ret1 (hp := rfl))
        rw [fitWx w0 w1 w2 w3 w4] at hR
        refine walk (hQ := ?_)
        exact hR _ (ret1 (hp := rfl))
    · have hb := begs_nil (l := a) (by omega)
      refine walk (hQ := ?_)
      rw [show l.getD i.toNat default = l.getD i.toNat zSg from rfl]
      generalize (l.getD i.toNat zSg).2.2.2 = w at *
      refine W_if (ht := fun w0 => ?_) (hf := fun w0 => ?_)
      · rw [w0, fitW0] at hR
        refine walk (hQ := ?_)
        exact hR _ (ret1 (hp := rfl))
      refine walk (hQ := ?_)
      refine W_if (ht := fun w1 => ?_) (hf := fun w1 => ?_)
      · rw [w1, fitW1, hb] at hR
        refine walk (hQ := ?_)
        exact hR _ (ret1 (hp := rfl))
      refine walk (hQ := ?_)
      refine W_if (ht := fun w2 => ?_) (hf := fun w2 => ?_)
      · rw [w2, fitW2, hb, empty_dec] at hR
        refine walk (hQ := ?_)
        exact hR _ (ret1 (hp := rfl))
      refine walk (hQ := ?_)
      refine W_if (ht := fun w3 => ?_) (hf := fun w3 => ?_)
      · rw [w3, fitW3, hb] at hR
        refine walk (hQ := ?_)
        exact hR _ (ret1 (hp := rfl))
      refine walk (hQ := ?_)
      refine W_if (ht := fun w4 => ?_) (hf := fun w4 => ?_)
      · rw [w4, fitW4, hb] at hR
        refine walk (hQ := ?_)
        exact hR _ (ret1 (hp := rfl))
      rw [fitWx w0 w1 w2 w3 w4] at hR
      refine walk (hQ := ?_)
      exact hR _ (ret1 (hp := rfl))
  · rw [if_pos (by omega)] at hR
    refine walk (hQ := ?_)
    exact hR _ (ret1 (hp := rfl))
theorem g_begins (l : List Snd) : Spc X 34 [.one (slc eSd l)] (.one (.bool (begs l))) := by
  refine Spc.start Tryz.func34 rfl (h := fun hs R hR => ?_)
  unfold Tryz.f34
  simp only [entryE, PA.av]
  have la := (sane_slc hs.1).1
  refine walk (hQ := ?_)
  refine R_g_if (h1 := fun h3 => ?_) (h2 := fun h3 => ?_) <;> simp only [Bool.false_eq_true, if_false, if_true, Decidable.not_not] at h3
  · have hbg := begs_pos (l := l) (by omega)
    have k1 := g_Nucleus (l.getD 0 default)
    rw [hbg] at hR
    refine walk (hQ := ?_)
    rw [show l.getD (Int.toNat 0) default = l.getD 0 default from rfl]
    generalize l.getD 0 default = x at *
    refine R_call k1 (hK := ?_)
    refine walk (hQ := ?_)
    exact hR _ (ret1 (hp := rfl))
  · rw [begs_nil (l := l) (by omega)] at hR
    refine walk (hQ := ?_)
    exact hR _ (ret1 (hp := rfl))
theorem g_ends (l : List Snd) : Spc X 35 [.one (slc eSd l)] (.one (.bool (ends l))) := by
  refine Spc.start Tryz.func35 rfl (h := fun hs R hR => ?_)
  unfold Tryz.f35
  simp only [entryE, PA.av]
  have la := (sane_slc hs.1).1
  refine walk (hQ := ?_)
  refine R_g_if (h1 := fun h3 => ?_) (h2 := fun h3 => ?_) <;> simp only [Bool.false_eq_true, if_false, if_true, Decidable.not_not] at h3
  · have hbg := ends_pos (l := l) (by omega)
    have k1 := g_Nucleus (l.getD (l.length - 1) default)
    rw [hbg] at hR
    refine walk (hQ := ?_)
    rw [show ((l.length : Int) - 1).toNat = l.length - 1 by omega]
    refine walk (hQ := ?_)
    generalize l.getD (l.length - 1) default = x at *
    refine R_call k1 (hK := ?_)
    refine walk (hQ := ?_)
    exact hR _ (ret1 (hp := rfl))
  · rw [ends_nil (l := l) (by omega)] at hR
    refine walk (hQ := ?_)
    exact hR _ (ret1 (hp := rfl))
theorem g_Fits (o : Ort) (i : Int) (b a : List Snd) : Spc X 14 [orA o, .one (.int .i64 i), .one (slc eSd b), .one (slc eSd a)] (.one (.bool (fitsO o i b a))) := by
  obtain ⟨nme, l⟩ := o
  refine Spc.start Tryz.func14 rfl (h := fun hs R hR => ?_)
  unfold Tryz.f14
  simp only [entryE, PA.av, eO, List.map_cons, List.map_nil]
  unfold fitsO at hR
  simp only at hR
  have la := (sane_slc hs.2.2.1).1
  have lb := (sane_slc hs.2.2.2.1).1
  refine walk (hQ := ?_)
  refine R_g_if (h1 := fun h1 => ?_) (h2 := fun h1 => ?_) <;> simp only [Bool.false_eq_true, if_false, if_true, Decidable.not_not] at h1
  · refine walk (hQ := ?_)
    refine W_if (ht := fun h2 => ?_) (hf := fun h2 => ?_)
    · rw [if_pos (by omega)] at hR
      refine walk (hQ := ?_)
      exact hR _ (ret1 (hp := rfl))
    rw [if_neg (by omega)] at hR
    refine walk (hQ := ?_)
    rw [show l.getD i.toNat default = l.getD i.toNat zSg from rfl]
    generalize (l.getD i.toNat zSg).2.2.2 = w at *
    refine W_if (ht := fun w0 => ?_) (hf := fun w0 => ?_)
    · rw [w0, fitW0] at hR
      refine walk (hQ := ?_)
      exact hR _ (ret1 (hp := rfl))
    refine walk (hQ := ?_)
    refine W_if (ht := fun w1 => ?_) (hf := fun w1 => ?_)
    · rw [w1, fitW1] at hR
      refine walk (hQ := ?_)
      refine R_call (g_begins a) (hK := ?_)
      refine walk (hQ := ?_)
      exact hR _ (ret1 (hp := rfl))
    refine walk (hQ := ?_)
    refine W_if (ht := fun w2 => ?_) (hf := fun w2 => ?_)
    · rw [w2, fitW2, Bool.and_comm, empty_dec] at hR
      refine walk (hQ := ?_)
      refine R_g_if (h1 := fun h7 => ?_) (h2 := fun h7 => ?_) <;> simp only [Bool.false_eq_true, if_false, if_true, Decidable.not_not] at h7
      · rw [decide_eq_true h7, Bool.true_and] at hR
        refine walk (hQ := ?_)
        refine R_call (g_begins a) (hK := ?_)
        refine walk (hQ := ?_)
        exact hR _ (ret1 (hp := rfl))
      · rw [decide_eq_false h7, Bool.false_and] at hR
        refine walk (hQ := ?_)
        exact hR _ (ret1 (hp := rfl))
    refine walk (hQ := ?_)
    refine W_if (ht := fun w3 => ?_) (hf := fun w3 => ?_)
    · rw [w3, fitW3, Bool.and_comm] at hR
      refine walk (hQ := ?_)
      have k2 := g_ends b
      cases he : ends b with
      | true =>
        rw [he] at k2
        rw [he, Bool.true_and] at hR
        refine R_call k2 (hK := ?_)
        refine walk (hQ := ?_)
        refine R_call (g_begins a) (hK := ?_)
        refine walk (hQ := ?_)
        exact hR _ (ret1 (hp := rfl))
      | false =>
        rw [he] at k2
        rw [he, Bool.false_and] at hR
        refine R_call k2 (hK := ?_)
        refine walk (hQ := ?_)
        exact hR _ (ret1 (hp := rfl))
    refine walk (hQ := ?_)
    refine W_if (ht := fun w4 => ?_) (hf := fun w4 => ?_)
    · rw [w4, fitW4] at hR
      refine walk (hQ := ?_)
      refine R_call (g_begins a) (hK := ?_)
      refine walk (hQ := ?_)
      exact hR _ (ret1 (hp := rfl))
    rw [fitWx w0 w1 w2 w3 w4] at hR
    refine walk (hQ := ?_)
    exact hR _ (ret1 (hp := rfl))
  · rw [if_pos (by omega)] at hR
    refine walk (hQ := ?_)
    exact hR _ (ret1 (hp := rfl))
theorem f_Find (o : Ort) (s : List UInt8) (la : o.2.length ≤ 1000000000000) : Spc X 16 [orA o, .one (.str s)] (.one (slc eI (findL s 0 o.2))) := by
  obtain ⟨nme, l⟩ := o
  refine Spc.start Tryz.func16 rfl (h := fun hs R hR => ?_)
  unfold Tryz.f16
  simp only [entryE, PA.av, eO, List.map_cons, List.map_nil]
  simp only at la
  refine walk (hQ := ?_)
  refine Lp.intro2 (fun (out : List Int) (i : Nat) => ⟨[(1, vS s), (2, .one (.ptr 0 0)), (5, .one (.own 1 1 out.length)), (9, vP (slc eSg l)), (10, vI l.length), (11, vI i)], [(0, (.mx [.pv (.str nme), .pv (slc eSg l)], false)), (1, (.pu 3 (out.flatMap eI), false))], 2⟩) (fun out i => i ≤ l.length ∧ out = findL s 0 (l.take i)) (fun out i => l.length - i) [] 0 ⟨Nat.zero_le _, by simp [findL]⟩ (h0 := le_ghost1 1 3 (hle := le_auto)) (hr := fun out i K ⟨hi, ho⟩ hK => ?_)
  have hol : out.length ≤ l.length := by
    have := findL_len s (l.take i) 0
    rw [← ho, List.length_take] at this
    omega
  refine walk (hQ := ?_)
  refine W_if (ht := fun h4 => ?_) (hf := fun h4 => ?_)
  · have hil : i < l.length := by omega
    have e0 := getD_some hil
    have hn := findL_next (s := s) e0
    rw [← ho] at hn
    refine walk (hQ := ?_)
    generalize l.getD i default = x at *
    obtain ⟨xa, xb, xc, xd⟩ := x
    simp only [eSg, List.map_cons, List.map_nil] at *
    refine walk (hQ := ?_)
    refine W_if (ht := fun h5 => ?_) (hf := fun h5 => ?_)
    · rw [if_pos h5] at hn
      refine walk (hQ := ?_)
      exact hK _ (out ++ [(i : Int)]) (i + 1) ⟨by omega, hn.symm⟩ (by omega) (by rw [List.length_append]; exact le_auto)
    · rw [if_neg h5, List.append_nil] at hn
      refine walk (hQ := ?_)
      exact hK _ out (i + 1) ⟨by omega, hn.symm⟩ (by omega) le_auto
  · obtain rfl : i = l.length := by omega
    rw [List.take_length] at ho
    rw [← ho] at hR
    refine walk (hQ := ?_)
    exact hR _ (ret1 (hp := rfl))
theorem g_Find (o : Ort) (s : List UInt8) (la : o.2.length ≤ 1000000000000) : Spc X 17 [orA o, .one (.str s)] (.one (slc eI (findL s 0 o.2))) := by
  obtain ⟨nme, l⟩ := o
  refine Spc.start Tryz.func17 rfl (h := fun hs R hR => ?_)
  unfold Tryz.f17
  simp only [entryE, PA.av, eO, List.map_cons, List.map_nil]
  simp only at la
  refine walk (hQ := ?_)
  refine Lp.intro2 (fun (out : List Int) (i : Nat) => ⟨[(1, vS s), (2, .one (.ptr 0 0)), (5, .one (.own 1 1 out.length)), (6, vI i)], [(0, (.mx [.pv (.str nme), .pv (slc eSg l)], false)), (1, (.pu 3 (out.flatMap eI), false))], 2⟩) (fun out i => i ≤ l.length ∧ out = findL s 0 (l.take i)) (fun out i => l.length - i) [] 0 ⟨Nat.zero_le _, by simp [findL]⟩ (h0 := le_ghost1 1 3 (hle := le_auto)) (hr := fun out i K ⟨hi, ho⟩ hK => ?_)
  have hol : out.length ≤ l.length := by
    have := findL_len s (l.take i) 0
    rw [← ho, List.length_take] at this
    omega
  refine walk (hQ := ?_)
  refine W_if (ht := fun h4 => ?_) (hf := fun h4 => ?_)
  · have hil : i < l.length := by omega
    have e0 := getD_some hil
    have hn := findL_next (s := s) e0
    rw [← ho] at hn
    refine walk (hQ := ?_)
    generalize l.getD i default = x at *
    refine W_if (ht := fun h5 => ?_) (hf := fun h5 => ?_)
    · rw [if_pos h5] at hn
      refine walk (hQ := ?_)
      exact hK _ (out ++ [(i : Int)]) (i + 1) ⟨by omega, hn.symm⟩ (by omega) (by rw [List.length_append]; exact le_auto)
    · rw [if_neg h5, List.append_nil] at hn
      refine walk (hQ := ?_)
      exact hK _ out (i + 1) ⟨by omega, hn.symm⟩ (by omega) le_auto
  · obtain rfl : i = l.length := by omega
    rw [List.take_length] at ho
    rw [← ho] at hR
    refine walk (hQ := ?_)
    exact hR _ (ret1 (hp := rfl))
end Go.VS.YtekfjbjdlenhoaaGreatDoor


namespace Go.VN
open Go.RowKit Go.VL
set_option maxRecDepth 100000
theorem lat_f1 : fitsO LAT 28 [] (prsSd [97, 47, 118, 51]).1 = true := by decide +kernel
theorem lat_f2 : fitsO LAT 28 [] (prsSd [116, 47, 109]).1 = false := by decide +kernel
theorem lat_f3 : fitsO LAT 28 (prsSd [97, 47, 118, 51]).1 [] = false := by decide +kernel
theorem alp_4 : insL 0 4 [112, 104, 101, 95] = [95, 101, 104, 112] := by
  simp [insL, Go.Sort.insertionSort, Go.Sort.insOuter, Go.Sort.insInner, Go.Sort.swp, ltU]
end Go.VN


namespace Go.VS.YtekfjbjdlenhoaaGreatDoor
open Go Go.VL Go.VN Go.RowKit Go.Proofs
set_option maxRecDepth 100000
set_option linter.unusedVariables false
set_option linter.unusedSimpArgs false

theorem l_awake : Spc X 10 [] (.one (.bool true)) := by
  refine Spc.start Tryz.func10 rfl (h := fun hs R hR => ?_)
  unfold Tryz.f10
  simp only [entryE]
  have k1 := f_Latin
  have ka := l_sounds [97, 47, 118, 51]
  have kt := l_sounds [116, 47, 109]
  have k2 := f_Find LAT [105] (by rw [lat_len.1]; decide)
  have k3 := f_Find LAT [113, 117] (by rw [lat_len.1]; decide)
  have k4 := f_Fits LAT 28 [] (prsSd [97, 47, 118, 51]).1
  have k5 := f_Fits LAT 28 [] (prsSd [116, 47, 109]).1
  have k6 := f_Fits LAT 28 (prsSd [97, 47, 118, 51]).1 []
  have k7 := s_EqualI [2, 22, 23] [2, 22, 23]
  have k8 := s_EqualI [28] [28]
  rw [lat_i] at k2
  rw [lat_qu] at k3
  rw [lat_f1] at k4
  rw [lat_f2] at k5
  rw [lat_f3] at k6
  rw [decide_eq_true rfl] at k7 k8
  have k9 := f_Alphabet ([], [([112, 104], [], 0, 0), ([101, 95], [], 0, 0)]) [95, 101, 104, 112] (by decide) alp_4 (fun i hi => by match i with | 0 => decide | 1 => decide | 2 => decide | n + 3 => exact absurd (show n + 3 + 1 < 4 from hi) (by omega))
  generalize LAT = L at *
  generalize (prsSd [97, 47, 118, 51]).1 = A at *
  generalize (prsSd [116, 47, 109]).1 = T at *
  refine walk (hQ := ?_)
  refine R_call k1 (hK := ?_)
  refine walk (hQ := ?_)
  refine R_call ka (hK := ?_)
  refine walk (hQ := ?_)
  refine R_call kt (hK := ?_)
  refine walk (hQ := ?_)
  refine R_call k2 (hK := ?_)
  refine walk (hQ := ?_)
  refine R_callP (ids' := []) k7 (hK := ?_)
  refine walk (hQ := ?_)
  refine R_call k3 (hK := ?_)
  refine walk (hQ := ?_)
  refine R_callP (ids' := []) k8 (hK := ?_)
  refine walk (hQ := ?_)
  refine R_call k4 (hK := ?_)
  refine walk (hQ := ?_)
  refine R_call k5 (hK := ?_)
  refine walk (hQ := ?_)
  refine R_call k6 (hK := ?_)
  refine walk (hQ := ?_)
  refine R_bsl eSg (l := [([112, 104], [], 0, 0), ([101, 95], [], 0, 0)]) (hK := ?_)
  refine walk (hQ := ?_)
  refine R_callP (ids' := []) k9 (hK := ?_)
  refine walk (hQ := ?_)
  exact hR _ (ret1 (hp := rfl))
end Go.VS.YtekfjbjdlenhoaaGreatDoor


namespace Go.VS.YtekfjbjdlenhoaaGreatDoor
open Go Go.VL Go.VN Go.RowKit Go.Proofs
set_option maxRecDepth 100000
set_option linter.unusedVariables false
set_option linter.unusedSimpArgs false

def sumT (l : List Sgn) : Int := (l.map fun s => (s.1.length : Int)).sum
def fewO (o : Ort) : Bool := if 60 < o.1.length ∨ 130 < o.2.length then false else if (o.2.all fun s => fewS s.2.1 6) = true then decide (sumT o.2 ≤ 1500) else false
theorem sumT_next {l : List Sgn} {i : Nat} {x : Sgn} (h : l[i]? = some x) : sumT (l.take (i + 1)) = sumT (l.take i) + x.1.length := by
  obtain ⟨hi, rfl⟩ := List.getElem?_eq_some_iff.1 h
  unfold sumT
  rw [List.take_succ_eq_append_getElem hi, List.map_append, List.sum_append]; simp
theorem sumT_bd : ∀ {l : List Sgn}, (∀ s ∈ l, s.1.length ≤ 140737488355328) → 0 ≤ sumT l ∧ sumT l ≤ 140737488355328 * l.length
  | [], _ => by simp [sumT]
  | x :: l, h => by
    have ih := sumT_bd (l := l) fun s hs => h s (by simp [hs])
    have := h x (by simp)
    unfold sumT at ih ⊢
    rw [List.map_cons, List.sum_cons, List.length_cons]
    push_cast
    omega
theorem g_Few (o : Ort) (ht : ∀ s ∈ o.2, s.1.length ≤ 140737488355328) : Spc X 11 [orA o] (.one (.bool (fewO o))) := by
  obtain ⟨nme, l⟩ := o
  refine Spc.start Tryz.func11 rfl (h := fun hs R hR => ?_)
  unfold Tryz.f11
  simp only [entryE, PA.av, eO, List.map_cons, List.map_nil]
  unfold fewO at hR
  simp only at hR ht
  refine walk (hQ := ?_)
  refine R_g_if (h1 := fun h1 => ?_) (h2 := fun h1 => ?_) <;> simp only [Bool.false_eq_true, if_false, if_true, Decidable.not_not] at h1
  · refine walk (hQ := ?_)
    refine W_if (ht := fun h2 => ?_) (hf := fun h2 => ?_)
    · rw [if_pos (by omega)] at hR
      refine walk (hQ := ?_)
      exact hR _ (ret1 (hp := rfl))
    rw [if_neg (by omega)] at hR
    refine walk (hQ := ?_)
    refine Lp.intro (fun (i : Nat) => ⟨[(1, .one (.ptr 0 0)), (3, vI (sumT (l.take i))), (4, vI i)], [(0, (.mx [.pv (.str nme), .pv (slc eSg l)], false))], 1⟩) (fun i => i ≤ l.length ∧ ∀ s ∈ l.take i, fewS s.2.1 6 = true) (fun i => l.length - i) 0 ⟨Nat.zero_le _, by simp⟩ (h0 := le_auto) (hr := fun i K ⟨hi, ho⟩ hK => ?_)
    have hsb := sumT_bd (l := l.take i) fun s hs => ht s (List.mem_of_mem_take hs)
    rw [List.length_take, Nat.min_eq_left hi] at hsb
    refine walk (hQ := ?_)
    refine W_if (ht := fun h3 => ?_) (hf := fun h3 => ?_)
    · have hil : i < l.length := by omega
      have e0 := getD_some hil
      have k1 := g_SFew (l.getD i default).2.1 6
      have hx := ht _ (List.mem_of_getElem? e0)
      have hst := take_succ_all (P := fun s => fewS s.2.1 6 = true) e0 ho
      have hsum := sumT_next e0
      have hbd : fewS (l.getD i default).2.1 6 = false → ¬ (l.all fun s => fewS s.2.1 6) = true := fun h h2 => by
        have := List.all_eq_true.1 h2 _ (List.mem_of_getElem? e0)
        rw [h] at this; cases this
      refine walk (hQ := ?_)
      cases hf : fewS (l.getD i default).2.1 6 with
      | true =>
        rw [hf] at k1
        refine R_call k1 (hK := ?_)
        refine walk (hQ := ?_)
        refine hK _ (i + 1) ⟨by omega, hst hf⟩ (by omega) ?_
        rw [hsum]
        exact le_auto
      | false =>
        rw [hf] at k1
        rw [if_neg (hbd hf)] at hR
        refine R_call k1 (hK := ?_)
        refine walk (hQ := ?_)
        exact hR _ (ret1 (hp := rfl))
    · obtain rfl : i = l.length := by omega
      rw [List.take_length] at ho ⊢
      rw [if_pos (List.all_eq_true.2 ho)] at hR
      refine walk (hQ := ?_)
      exact hR _ (ret1 (hp := rfl))
  · rw [if_pos (by omega)] at hR
    refine walk (hQ := ?_)
    exact hR _ (ret1 (hp := rfl))
end Go.VS.YtekfjbjdlenhoaaGreatDoor


namespace Go.VS.YtekfjbjdlenhoaaGreatDoor
open Go Go.VL Go.VN Go.RowKit Go.Proofs
set_option maxRecDepth 100000
set_option linter.unusedVariables false
set_option linter.unusedSimpArgs false

theorem law_Valid (o : Ort) (ht : ∀ s ∈ o.2, s.1.length ≤ 140737488355328) : Spc X 6 [orA o] (.one (.bool true)) := by
  refine Spc.start Tryz.func6 rfl (h := fun hs R hR => ?_)
  unfold Tryz.f6
  simp only [entryE]
  have k1 := g_Few o ht
  have k2 := f_OValid o
  have k3 := g_OValid o
  generalize fewO o = w at *
  generalize chkO o = c at *
  obtain ⟨nme, l⟩ := o
  simp only [PA.av, eO, List.map_cons, List.map_nil] at *
  refine walk (hQ := ?_)
  refine R_call l_awake (hK := ?_)
  refine walk (hQ := ?_)
  refine R_call k1 (hK := ?_)
  refine walk (hQ := ?_)
  cases w with
  | false =>
    refine walk (hQ := ?_)
    refine R_call l_awake (hK := ?_)
    refine walk (hQ := ?_)
    exact hR _ (ret1 (hp := rfl))
  | true =>
    refine walk (hQ := ?_)
    refine R_call k2 (hK := ?_)
    refine walk (hQ := ?_)
    refine R_call k3 (hK := ?_)
    refine walk (hQ := ?_)
    rw [decide_eq_true (show c.2 = c.2 from rfl)]
    refine walk (hQ := ?_)
    exact hR _ (ret1 (hp := rfl))
theorem law_Fits (o : Ort) (i : Int) (b a : List Snd) (ht : ∀ s ∈ o.2, s.1.length ≤ 140737488355328) : Spc X 3 [orA o, .one (.int .i64 i), .agg [slc eSd b, slc eSd a]] (.one (.bool true)) := by
  refine Spc.start Tryz.func3 rfl (h := fun hs R hR => ?_)
  unfold Tryz.f3
  simp only [entryE]
  have k1 := g_Few o ht
  have k2 := g_SFew b 20
  have k3 := g_SFew a 20
  have k4 := f_Fits o i b a
  have k5 := g_Fits o i b a
  generalize fewO o = w at *
  generalize fewS b 20 = wb at *
  generalize fewS a 20 = wa at *
  generalize fitsO o i b a = c at *
  obtain ⟨nme, l⟩ := o
  simp only [PA.av, eO, List.map_cons, List.map_nil] at *
  refine walk (hQ := ?_)
  refine R_call l_awake (hK := ?_)
  refine walk (hQ := ?_)
  refine R_call k1 (hK := ?_)
  refine walk (hQ := ?_)
  cases w with
  | false =>
    refine walk (hQ := ?_)
    refine R_call l_awake (hK := ?_)
    refine walk (hQ := ?_)
    exact hR _ (ret1 (hp := rfl))
  | true =>
  refine walk (hQ := ?_)
  refine R_call k2 (hK := ?_)
  refine walk (hQ := ?_)
  cases wb with
  | false =>
    refine walk (hQ := ?_)
    refine R_call l_awake (hK := ?_)
    refine walk (hQ := ?_)
    exact hR _ (ret1 (hp := rfl))
  | true =>
  refine walk (hQ := ?_)
  refine R_call k3 (hK := ?_)
  refine walk (hQ := ?_)
  cases wa with
  | false =>
    refine walk (hQ := ?_)
    refine R_call l_awake (hK := ?_)
    refine walk (hQ := ?_)
    exact hR _ (ret1 (hp := rfl))
  | true =>
  refine walk (hQ := ?_)
  refine R_call k4 (hK := ?_)
  refine walk (hQ := ?_)
  refine R_call k5 (hK := ?_)
  refine walk (hQ := ?_)
  rw [decide_eq_true (show c = c from rfl)]
  refine walk (hQ := ?_)
  exact hR _ (ret1 (hp := rfl))
abbrev DSd := (Dec.i64.pair (Dec.i64.pair Dec.str)).map (γ := Snd) (f := eSd) (C := fun s => s.2.2.length ≤ 140737488351232) (fun x h => ⟨x, rfl, h.2.2⟩)
abbrev DSg := (Dec.str.pair ((Dec.sl DSd (b := 32)).pair (Dec.i64.pair Dec.i64))).map (γ := Sgn) (f := eSg) (C := fun s => s.1.length ≤ 140737488351232 ∧ s.2.1.length * 32 ≤ 140737488351232 ∧ ∀ x ∈ s.2.1, x.2.2.length ≤ 140737488351232) (fun x h => ⟨x, rfl, h.1, h.2.1⟩)
abbrev DO := (Dec.str.pair (Dec.sl DSg (b := 56))).map (γ := Ort) (f := eO) (C := fun o => o.1.length ≤ 140737488351232 ∧ o.2.length * 56 ≤ 140737488351232 ∧ ∀ s ∈ o.2, s.1.length ≤ 140737488351232) (fun x h => ⟨x, rfl, h.1, h.2.1, fun s hs => (h.2.2 s hs).1⟩)
end Go.VS.YtekfjbjdlenhoaaGreatDoor


namespace Go.VN
open Go.RowKit Go.VL
set_option linter.unusedVariables false
set_option linter.unusedSimpArgs false
set_option maxRecDepth 100000

theorem wrt_no {c : UInt8} (h : wrt c = true) : c ≠ 32 ∧ c ≠ 10 ∧ c ≠ 47 := by
  refine ⟨?_, ?_, ?_⟩ <;> (intro e; subst e; exact absurd h (by decide))
theorem sdE_ok {s : Snd} (h : sdE s = 0) : 1 ≤ s.1 ∧ s.1 ≤ 9 ∧ qty s = true ∧ s.2.2 ≠ [] ∧ s.2.2.length ≤ 8 ∧ s.2.2.all wrt = true := by
  unfold sdE at h
  by_cases h1 : s.1 < 1 ∨ 9 < s.1
  · rw [if_pos h1] at h; cases h
  rw [if_neg h1] at h
  by_cases h2 : qty s = false
  · rw [if_pos h2] at h; cases h
  rw [if_neg h2] at h
  by_cases h3 : s.2.2 = []
  · rw [if_pos h3] at h; cases h
  rw [if_neg h3] at h
  by_cases h4 : 8 < s.2.2.length
  · rw [if_pos h4] at h; cases h
  rw [if_neg h4] at h
  by_cases h5 : s.2.2.all wrt = true
  · exact ⟨by omega, by omega, by cases hq : qty s <;> simp_all, h3, by omega, h5⟩
  · rw [if_neg h5] at h; cases h
theorem ltrs_facts : ∀ k < 10, 1 ≤ k → ltrs.getD (k - 1) 0 ≠ 32 ∧ ltrs.getD (k - 1) 0 ≠ 10 ∧ Lib.indexByte ltrs (ltrs.getD (k - 1) 0) + 1 = (k : Int) := by decide +kernel
theorem dig_facts : ∀ q < 4, UInt8.ofNat (48 + q) ≠ 32 ∧ UInt8.ofNat (48 + q) ≠ 10 ∧ (UInt8.ofNat (48 + q)).toNat = 48 + q := by decide +kernel
theorem nuc_q {s : Snd} (hq : qty s = true) (hn : nuc s = true) : 1 ≤ s.2.1 ∧ s.2.1 ≤ 3 := by
  unfold nuc at hn
  unfold qty at hq
  simp only [Bool.or_eq_true, decide_eq_true_eq] at hn
  rcases hn with h | h
  · rw [if_pos h] at hq; simpa using hq
  · rw [if_neg (by omega), if_pos h] at hq
    simp only [decide_eq_true_eq] at hq; omega
theorem nuc_no {s : Snd} (hq : qty s = true) (hn : nuc s = false) : s.2.1 = 0 := by
  unfold nuc at hn
  unfold qty at hq
  simp only [Bool.or_eq_false_iff, decide_eq_false_iff_not] at hn
  rw [if_neg hn.1, if_neg hn.2] at hq
  simpa using hq
theorem sdT_form (s : Snd) : sdT s = s.2.2 ++ 47 :: (ltrs.getD (s.1 - 1).toNat 0 :: (if nuc s = true then [UInt8.ofNat (48 + s.2.1.toNat)] else [])) := by
  unfold sdT; simp
theorem sdT_facts {s : Snd} (h : sdE s = 0) : 32 ∉ sdT s ∧ 10 ∉ sdT s ∧ sdT s ≠ [] ∧ (sdT s).length ≤ 11 ∧ rdS (sdT s) = some s := by
  obtain ⟨h1, h2, h3, h4, h5, h6⟩ := sdE_ok h
  have hw : ∀ c ∈ s.2.2, c ≠ 32 ∧ c ≠ 10 ∧ c ≠ 47 := fun c hc => wrt_no (List.all_eq_true.1 h6 c hc)
  obtain ⟨k, hk⟩ : ∃ k : Nat, s.1 = (k : Int) := ⟨s.1.toNat, by omega⟩
  have hk1 : (s.1 - 1).toNat = k - 1 := by omega
  obtain ⟨l1, l2, l3⟩ := ltrs_facts k (by omega) (by omega)
  obtain ⟨q, hq⟩ : ∃ q : Nat, s.2.1 = (q : Int) := by
    by_cases hn : nuc s = true
    · have := nuc_q h3 hn; exact ⟨s.2.1.toNat, by omega⟩
    · have := nuc_no h3 (by simpa using hn); exact ⟨0, by omega⟩
  have hq4 : q < 4 := by
    by_cases hn : nuc s = true
    · have := nuc_q h3 hn; omega
    · have := nuc_no h3 (by simpa using hn); omega
  obtain ⟨d1, d2, d3⟩ := dig_facts q hq4
  rw [sdT_form, hk1, show s.2.1.toNat = q by omega]
  have hr : rdS (s.2.2 ++ 47 :: (ltrs.getD (k - 1) 0 :: (if nuc s = true then [UInt8.ofNat (48 + q)] else []))) = some s := by
    have hc := cutL_app (fun hm => (hw 47 hm).2.2 rfl) (ltrs.getD (k - 1) 0 :: (if nuc s = true then [UInt8.ofNat (48 + q)] else []))
    have hd : (s.2.2 ++ 47 :: (ltrs.getD (k - 1) 0 :: (if nuc s = true then [UInt8.ofNat (48 + q)] else []))).drop (s.2.2.length + 1) = ltrs.getD (k - 1) 0 :: (if nuc s = true then [UInt8.ofNat (48 + q)] else []) := by
      rw [List.drop_append, List.drop_eq_nil_of_le (by omega), List.nil_append, show s.2.2.length + 1 - s.2.2.length = 1 by omega]; rfl
    unfold rdS rdF
    rw [hc, hd, if_pos ⟨by simp, by simp⟩]
    simp only [List.getD_cons_zero, List.getD_cons_succ]
    rw [l3, ← hk]
    by_cases hn : nuc s = true
    · have hn' : nuc (s.1, 0, s.2.2) = true := hn
      have := nuc_q h3 hn
      rw [if_pos hn', if_pos hn]
      simp only [List.getD_cons_zero]
      rw [d3, if_pos ⟨rfl, by omega, by omega⟩]
      rw [show ((48 + q : Nat) : Int) - 48 = s.2.1 by omega, show (s.1, s.2.1, s.2.2) = s from rfl, h]
      rfl
    · have hn' : ¬ nuc (s.1, 0, s.2.2) = true := hn
      rw [if_neg hn', if_neg hn]
      have := nuc_no h3 (by simpa using hn)
      rw [show (s.1, (0 : Int), s.2.2) = s by rw [← this], h]
      rfl
  refine ⟨?_, ?_, by simp, ?_, hr⟩
  · simp only [List.mem_append, List.mem_cons, not_or]
    refine ⟨fun hm => (hw 32 hm).1 rfl, by decide, fun e => l1 e.symm, ?_⟩
    split
    · simp only [List.mem_cons, List.not_mem_nil, or_false]; exact fun e => d1 e.symm
    · simp
  · simp only [List.mem_append, List.mem_cons, not_or]
    refine ⟨fun hm => (hw 10 hm).2.1 rfl, by decide, fun e => l2 e.symm, ?_⟩
    split
    · simp only [List.mem_cons, List.not_mem_nil, or_false]; exact fun e => d2 e.symm
    · simp
  · rw [List.length_append, List.length_cons, List.length_cons]
    split <;> simp <;> omega
theorem firstE_all : ∀ {l : List Snd}, firstE l = 0 → ∀ s ∈ l, sdE s = 0
  | [], _ => by simp
  | x :: l, h => by
    rw [firstE] at h
    by_cases hx : sdE x = 0
    · rw [if_neg (fun e => e hx)] at h
      intro s hs
      rcases List.mem_cons.1 hs with rfl | hs
      · exact hx
      · exact firstE_all h s hs
    · rw [if_pos hx] at h; exact absurd h hx
theorem rdAll_back : ∀ {l : List Snd}, (∀ s ∈ l, sdE s = 0) → rdAll (l.map sdT) = some l
  | [], _ => rfl
  | x :: l, h => by
    rw [List.map_cons, rdAll, (sdT_facts (h x (by simp))).2.2.2.2, rdAll_back fun s hs => h s (by simp [hs])]
theorem joinS_ne {M : List (List UInt8)} (h : M ≠ []) (hn : ∀ w ∈ M, w ≠ []) : joinS M ≠ [] := by
  match M, h with
  | [x], _ => exact hn x (by simp)
  | x :: y :: l, _ => rw [joinS]; simp
theorem prsSd_back {l : List Snd} (h0 : l ≠ []) (h2 : l.length ≤ 2) (h : ∀ s ∈ l, sdE s = 0) : prsSd (joinS (l.map sdT)) = (l, 0) := by
  have hl := joinS_len (B := 11) (l := l.map sdT) fun w hw => by
    obtain ⟨s, hs, rfl⟩ := List.mem_map.1 hw; exact (sdT_facts (h s hs)).2.2.2.1
  rw [List.length_map] at hl
  have hn : joinS (l.map sdT) ≠ [] := joinS_ne (by simpa using h0) fun w hw => by
    obtain ⟨s, hs, rfl⟩ := List.mem_map.1 hw; exact (sdT_facts (h s hs)).2.2.1
  unfold prsSd
  rw [if_neg (by omega), if_neg hn, splitL_join (by simpa using h0) (fun w hw => by
    obtain ⟨s, hs, rfl⟩ := List.mem_map.1 hw; exact (sdT_facts (h s hs)).1), rdAll_back h]
  simp only
  rw [if_neg (by omega)]
theorem cost_facts : ∀ n < 100, 32 ∉ Lib.itoa (n : Nat) ∧ 10 ∉ Lib.itoa (n : Nat) ∧ (Lib.itoa (n : Nat)).length ≤ 2 ∧ numF (Lib.itoa (n : Nat)) = ((n : Int), true) := by decide +kernel
theorem plc_facts : ∀ n < 5, 32 ∉ plc (n : Nat) ∧ 10 ∉ plc (n : Nat) ∧ (plc (n : Nat)).length ≤ 8 ∧ ixP (fun y => decide (plc (n : Nat) = y)) plcs = (n : Int) := by decide +kernel
theorem txE_ok {s : List UInt8} (h : txE s = 0) : s ≠ [] ∧ s.length ≤ 4 ∧ 32 ∉ s ∧ 10 ∉ s := by
  unfold txE at h
  by_cases h1 : s = []
  · rw [if_pos h1] at h; cases h
  rw [if_neg h1] at h
  by_cases h2 : 4 < s.length
  · rw [if_pos h2] at h; cases h
  rw [if_neg h2] at h
  by_cases h3 : (s.all fun c => ltr c && !upr c) = true
  · refine ⟨h1, by omega, fun hm => ?_, fun hm => ?_⟩
    · exact absurd (List.all_eq_true.1 h3 _ hm) (by decide)
    · exact absurd (List.all_eq_true.1 h3 _ hm) (by decide)
  · rw [if_neg h3] at h; cases h
theorem sgE_ok {s : Sgn} (h : sgE s = 0) : txE s.1 = 0 ∧ s.2.1 ≠ [] ∧ s.2.1.length ≤ 2 ∧ firstE s.2.1 = 0 ∧ 0 ≤ s.2.2.1 ∧ s.2.2.1 ≤ 99 ∧ 0 ≤ s.2.2.2 ∧ s.2.2.2 ≤ 4 := by
  unfold sgE at h
  by_cases h1 : txE s.1 ≠ 0
  · rw [if_pos h1] at h; exact absurd h h1
  rw [if_neg h1] at h
  by_cases h2 : s.2.1 = []
  · rw [if_pos h2] at h; cases h
  rw [if_neg h2] at h
  by_cases h3 : 2 < s.2.1.length
  · rw [if_pos h3] at h; cases h
  rw [if_neg h3] at h
  by_cases h4 : firstE s.2.1 ≠ 0
  · rw [if_pos h4] at h; exact absurd h h4
  rw [if_neg h4] at h
  by_cases h5 : s.2.2.1 < 0 ∨ 99 < s.2.2.1 ∨ s.2.2.2 < 0 ∨ 4 < s.2.2.2
  · rw [if_pos h5] at h; cases h
  · exact ⟨by omega, h2, by omega, by omega, by omega, by omega, by omega, by omega⟩
/-- A sign's line, without its end. -/
def sgLn0 (s : Sgn) : List UInt8 := joinS (s.1 :: (s.2.1.map sdT ++ [Lib.itoa s.2.2.1, plc s.2.2.2]))
theorem joinS_app : ∀ (a b : List (List UInt8)), a ≠ [] → b ≠ [] → joinS (a ++ b) = joinS a ++ [32] ++ joinS b
  | [x], y :: b, _, _ => rfl
  | x :: y :: a, b, _, hb => by
    rw [List.cons_append, List.cons_append, joinS, ← List.cons_append, joinS_app (y :: a) b (by simp) hb, joinS]
    simp
theorem sgT_ln {s : Sgn} (h : s.2.1 ≠ []) : sgT s = sgLn0 s ++ [10] := by
  unfold sgT sgLn0 sdsT
  have e := joinS_app [s.1] (s.2.1.map sdT ++ [Lib.itoa s.2.2.1, plc s.2.2.2]) (by simp) (by simp)
  rw [List.singleton_append] at e
  rw [e, joinS_app _ _ (by simpa using h) (by simp)]
  simp [joinS]
theorem sg_back {s : Sgn} (h : sgE s = 0) : sgOf (splitL 32 (sgLn0 s)) = some s ∧ 10 ∉ sgLn0 s ∧ (sgLn0 s).length ≤ 60 := by
  obtain ⟨h1, h2, h3, h4, h5, h6, h7, h8⟩ := sgE_ok h
  obtain ⟨t1, t2, t3, t4⟩ := txE_ok h1
  have hs := firstE_all h4
  obtain ⟨n, hn⟩ : ∃ n : Nat, s.2.2.1 = (n : Int) := ⟨s.2.2.1.toNat, by omega⟩
  obtain ⟨w, hw⟩ : ∃ w : Nat, s.2.2.2 = (w : Int) := ⟨s.2.2.2.toNat, by omega⟩
  obtain ⟨c1, c2, c3, c4⟩ := cost_facts n (by omega)
  obtain ⟨p1, p2, p3, p4⟩ := plc_facts w (by omega)
  have hb := prsSd_back h2 h3 hs
  rw [← hn] at c1 c2 c3 c4
  rw [← hw] at p1 p2 p3 p4
  have hM : ∀ x ∈ s.1 :: (s.2.1.map sdT ++ [Lib.itoa s.2.2.1, plc s.2.2.2]), 32 ∉ x ∧ 10 ∉ x ∧ x.length ≤ 11 := by
    intro x hx
    simp only [List.mem_cons, List.mem_append, List.not_mem_nil, or_false] at hx
    rcases hx with rfl | hx | rfl | rfl
    · exact ⟨t3, t4, by omega⟩
    · obtain ⟨y, hy, rfl⟩ := List.mem_map.1 hx
      have := sdT_facts (hs y hy)
      exact ⟨this.1, this.2.1, this.2.2.2.1⟩
    · exact ⟨c1, c2, by omega⟩
    · exact ⟨p1, p2, by omega⟩
  refine ⟨?_, ?_, ?_⟩
  · unfold sgLn0
    rw [splitL_join (by simp) fun x hx => (hM x hx).1]
    unfold sgOf
    have hL : (s.1 :: (s.2.1.map sdT ++ [Lib.itoa s.2.2.1, plc s.2.2.2])).length = s.2.1.length + 3 := by simp
    have h0 : 0 < s.2.1.length := List.length_pos_iff.2 h2
    rw [hL, if_neg (by simp only [List.head?_cons, Option.some.injEq, not_or]; exact ⟨by omega, t1⟩)]
    have e1 : ((s.1 :: (s.2.1.map sdT ++ [Lib.itoa s.2.2.1, plc s.2.2.2])).drop 1).take (s.2.1.length + 3 - 3) = s.2.1.map sdT := by
      rw [List.drop_succ_cons, List.drop_zero, show s.2.1.length + 3 - 3 = (s.2.1.map sdT).length by simp, List.take_left]
    have e2 : (s.1 :: (s.2.1.map sdT ++ [Lib.itoa s.2.2.1, plc s.2.2.2])).getD (s.2.1.length + 3 - 2) [] = Lib.itoa s.2.2.1 := by
      rw [show s.2.1.length + 3 - 2 = s.2.1.length + 1 by omega, List.getD_cons_succ, List.getD_eq_getElem?_getD, List.getElem?_append_right (by simp)]
      simp
    have e3 : (s.1 :: (s.2.1.map sdT ++ [Lib.itoa s.2.2.1, plc s.2.2.2])).getD (s.2.1.length + 3 - 1) [] = plc s.2.2.2 := by
      rw [show s.2.1.length + 3 - 1 = (s.2.1.length + 1) + 1 by omega, List.getD_cons_succ, List.getD_eq_getElem?_getD, List.getElem?_append_right (by simp)]
      simp
    rw [e1, e2, e3, hb, c4, p4]
    unfold sgMk
    rw [List.getD_cons_zero, if_neg (by simp only [not_or]; exact ⟨by omega, by decide, h2, by decide⟩)]
  · intro hm
    have : ∀ M : List (List UInt8), (∀ x ∈ M, 10 ∉ x) → 10 ∉ joinS M := by
      intro M
      induction M with
      | nil => intro _; simp [joinS]
      | cons x M ih =>
        intro hx
        cases M with
        | nil => rw [joinS]; exact hx x (by simp)
        | cons y M =>
          rw [joinS]
          simp only [List.mem_append, List.mem_singleton, not_or]
          exact ⟨⟨hx x (by simp), by decide⟩, ih fun z hz => hx z (by simp [hz])⟩
    exact this _ (fun x hx => (hM x hx).2.1) hm
  · have := joinS_len (B := 11) fun x hx => (hM x hx).2.2
    unfold sgLn0
    simp only [List.length_cons, List.length_append, List.length_map, List.length_nil] at this
    omega
theorem spT_cons {w : List UInt8} (h : 10 ∉ w) (t : List UInt8) : spK true 10 (w ++ 10 :: t) = (w ++ [10]) :: spK true 10 t := by
  have hm : (10 : UInt8) ∈ w ++ 10 :: t := by simp
  rw [spK_hit true 10 hm, cutL_app h]
  congr 1
  · rw [show true.toNat = 1 from rfl, List.take_append, List.take_of_length_le (by omega), show w.length + 1 - w.length = 1 by omega]; rfl
  · rw [List.drop_append, List.drop_eq_nil_of_le (by omega), List.nil_append, show w.length + 1 - w.length = 1 by omega]; rfl
theorem prs_signs (nm : List UInt8) : ∀ (l : List Sgn) (i : Nat) (acc : List Sgn), (∀ s ∈ l, sgE s = 0) → prsL (i + 1) (nm, acc) (spK true 10 (l.flatMap sgT)) = ((nm, acc ++ l), 0)
  | [], i, acc, _ => by simp [spK, prsL]
  | s :: l, i, acc, h => by
    obtain ⟨b1, b2, b3⟩ := sg_back (h s (by simp))
    rw [List.flatMap_cons, sgT_ln (sgE_ok (h s (by simp))).2.1, List.append_assoc, List.singleton_append, spT_cons b2, prs_step, if_neg (by omega)]
    have e : sgLR (sgLn0 s) = (s, true) := by rw [← sgB_same, sgB, b1]; rfl
    rw [e, if_pos rfl, prs_signs nm l (i + 1) (acc ++ [s]) fun x hx => h x (by simp [hx])]
    simp
theorem nm2_ok : ∀ {s : List UInt8}, nm2 s = s.length → ∀ c ∈ s, c ≠ 32 ∧ c ≠ 10
  | [], _ => by simp
  | [c], h => by
    have hc : (sml c || dgt c) = true := by
      rw [nm2] at h
      by_cases hc : (sml c || dgt c) = true
      · exact hc
      · rw [if_neg hc] at h; cases h
    intro x hx
    rw [List.mem_singleton.1 hx]
    refine ⟨?_, ?_⟩ <;> (intro e; subst e; exact absurd hc (by decide))
  | c :: d :: l, h => by
    rw [nm2] at h
    by_cases hc : (sml c || dgt c) = true
    · rw [if_pos hc] at h
      have ih := nm2_ok (s := d :: l) (by simp only [List.length_cons] at h ⊢; omega)
      intro x hx
      rcases List.mem_cons.1 hx with rfl | hx
      · refine ⟨?_, ?_⟩ <;> (intro e; subst e; exact absurd hc (by decide))
      · exact ih x hx
    · rw [if_neg hc] at h
      by_cases hd : c = 45 ∧ (sml d || dgt d) = true
      · rw [if_pos hd] at h
        have ih := nm2_ok (s := l) (by simp only [List.length_cons] at h ⊢; omega)
        intro x hx
        rcases List.mem_cons.1 hx with rfl | hx
        · rw [hd.1]; decide
        · rcases List.mem_cons.1 hx with rfl | hx
          · refine ⟨?_, ?_⟩ <;> (intro e; subst e; exact absurd hd.2 (by decide))
          · exact ih x hx
      · rw [if_neg hd] at h; simp only [List.length_cons] at h; omega
theorem isNm_ok {s : List UInt8} (h : isNm s = true) : s ≠ [] ∧ s.length ≤ 20 ∧ 32 ∉ s ∧ 10 ∉ s := by
  unfold isNm at h
  simp only [Bool.and_eq_true, decide_eq_true_eq, Bool.not_eq_true', List.isEmpty_eq_false_iff] at h
  have key : ∀ c ∈ s, c ≠ 32 ∧ c ≠ 10 := by
    have h3 := h.2
    unfold nmL at h3
    match s, h3 with
    | [], _ => simp
    | c :: l, h3 =>
      simp only at h3
      by_cases hc : sml c = true
      · rw [if_pos hc] at h3
        have := nm2_ok (s := l) (by simp only [List.length_cons] at h3; omega)
        intro x hx
        rcases List.mem_cons.1 hx with rfl | hx
        · refine ⟨?_, ?_⟩ <;> (intro e; subst e; exact absurd hc (by decide))
        · exact this x hx
      · rw [if_neg hc] at h3; cases h3
  exact ⟨h.1.1, h.1.2, fun hm => (key 32 hm).1 rfl, fun hm => (key 10 hm).2 rfl⟩
theorem chkL_all : ∀ {l p : List Sgn}, (chkL p l).2 = 0 → ∀ s ∈ l, sgE s = 0
  | [], p, _ => by simp
  | x :: l, p, h => by
    rw [chkL] at h
    by_cases h1 : sgE x ≠ 0
    · rw [if_pos h1] at h; exact absurd h h1
    rw [if_neg h1] at h
    by_cases h2 : (p.any fun t => sameSg t x) = true
    · rw [if_pos h2] at h; cases h
    rw [if_neg h2] at h
    intro s hs
    rcases List.mem_cons.1 hs with rfl | hs
    · exact Decidable.not_not.1 h1
    · exact chkL_all h s hs
theorem chkO_ok {o : Ort} (h : (chkO o).2 = 0) : isNm o.1 = true ∧ o.2 ≠ [] ∧ o.2.length ≤ 120 ∧ ∀ s ∈ o.2, sgE s = 0 := by
  unfold chkO at h
  by_cases h1 : isNm o.1 = false
  · rw [if_pos h1] at h; cases h
  rw [if_neg h1] at h
  by_cases h2 : o.2 = []
  · rw [if_pos h2] at h; cases h
  rw [if_neg h2] at h
  by_cases h3 : 120 < o.2.length
  · rw [if_pos h3] at h; cases h
  rw [if_neg h3] at h
  exact ⟨by simpa using h1, h2, by omega, chkL_all h⟩
theorem signs_len : ∀ {l : List Sgn}, (∀ s ∈ l, sgE s = 0) → (l.flatMap sgT).length ≤ l.length * 61
  | [], _ => by simp
  | s :: l, h => by
    have ih := signs_len fun x hx => h x (List.mem_cons_of_mem s hx)
    have := (sg_back (h s (by simp))).2.2
    rw [List.flatMap_cons, List.length_append, sgT_ln (sgE_ok (h s (by simp))).2.1, List.length_append, List.length_singleton, List.length_cons]
    omega
theorem ortT_len {o : Ort} (h : (chkO o).2 = 0) : (ortT o).length ≤ 10000 := by
  obtain ⟨h1, h2, h3, h4⟩ := chkO_ok h
  obtain ⟨n1, n2, n3, n4⟩ := isNm_ok h1
  have := signs_len h4
  unfold ortT
  simp only [List.length_append, List.length_cons, List.length_nil]
  omega
theorem fmt_back {o : Ort} (h : (chkO o).2 = 0) : prsO (ortT o) = (o, 0, 0) := by
  have hl := ortT_len h
  obtain ⟨h1, h2, h3, h4⟩ := chkO_ok h
  obtain ⟨n1, n2, n3, n4⟩ := isNm_ok h1
  have hne : ortT o ≠ [] := by unfold ortT; simp
  unfold prsO
  rw [if_neg (by omega), if_neg hne]
  have e1 : ortT o = (wOrt ++ [32] ++ o.1) ++ 10 :: o.2.flatMap sgT := by unfold ortT; simp
  have hno : (10 : UInt8) ∉ wOrt ++ [32] ++ o.1 := by
    simp only [List.mem_append, not_or]
    exact ⟨⟨by decide, by decide⟩, n4⟩
  rw [e1, spT_cons hno, prs_step, if_pos rfl]
  have hw : wordsF (wOrt ++ [32] ++ o.1) = [wOrt, o.1] := by
    have e2 : splitL 32 (wOrt ++ [32] ++ o.1) = [wOrt, o.1] := splitL_join (M := [wOrt, o.1]) (by simp) (fun w hw => by
      simp only [List.mem_cons, List.not_mem_nil, or_false] at hw
      rcases hw with rfl | rfl
      · decide
      · exact n3)
    unfold wordsF
    rw [e2, if_neg (by simp only [List.mem_cons, List.not_mem_nil, or_false, not_or]; exact ⟨by decide, fun e => n1 e.symm⟩)]
  have hh : hdrR (wOrt ++ [32] ++ o.1) = (o.1, true) := by unfold hdrR; rw [hw]; rfl
  rw [hh, if_pos rfl, prs_signs o.1 o.2 0 [] h4, List.nil_append]
  show endO ((o.1, o.2), 0) = _
  unfold endO
  rw [if_neg (by simp), if_pos h]
end Go.VN


namespace Go.VS.YtekfjbjdlenhoaaGreatDoor
open Go Go.VL Go.VN Go.RowKit Go.Proofs
set_option maxRecDepth 100000
set_option linter.unusedVariables false
set_option linter.unusedSimpArgs false

theorem dig1 : ∀ n < 10, (([48, 49, 50, 51, 52, 53, 54, 55, 56, 57] : List UInt8).drop n).take 1 = Lib.itoa (n : Nat) := by decide +kernel
theorem dig2 : ∀ n < 100, 10 ≤ n → Lib.itoa ((n / 10 : Nat) : Int) ++ Lib.itoa ((n % 10 : Nat) : Int) = Lib.itoa (n : Nat) ∧ (Lib.itoa ((n / 10 : Nat) : Int)).length ≤ 2 ∧ (Lib.itoa ((n % 10 : Nat) : Int)).length ≤ 2 := by decide +kernel
theorem g_Dig1 (n : Nat) (hn : n < 10) : Spc X 49 [.one (.int .i64 n)] (.one (.str (Lib.itoa n))) := by
  refine Spc.start Tryz.func49 rfl (h := fun hs R hR => ?_)
  unfold Tryz.f49
  simp only [entryE, PA.av]
  rw [← dig1 n hn] at hR
  refine walk (hQ := ?_)
  refine W_if (ht := fun h1 => ?_) (hf := fun h1 => ?_)
  · refine walk (hQ := ?_)
    refine R_sboth (l := [48, 49, 50, 51, 52, 53, 54, 55, 56, 57]) (h0 := by simp; omega) (hK := ?_)
    rw [show (n + 1) - n = 1 by omega]
    refine walk (hQ := ?_)
    exact hR _ (ret1 (hp := rfl))
  · omega
theorem g_Digits (n : Nat) (hn : n < 100) : Spc X 49 [.one (.int .i64 n)] (.one (.str (Lib.itoa n))) := by
  by_cases h10 : n < 10
  · exact g_Dig1 n h10
  refine Spc.start Tryz.func49 rfl (h := fun hs R hR => ?_)
  unfold Tryz.f49
  simp only [entryE, PA.av]
  obtain ⟨e1, e2, e3⟩ := dig2 n hn (by omega)
  rw [← e1] at hR
  have k1 := g_Dig1 (n / 10) (by omega)
  have k2 := g_Dig1 (n % 10) (by omega)
  rw [show ((n / 10 : Nat) : Int) = (n : Int) / 10 by omega] at *
  rw [show ((n % 10 : Nat) : Int) = (n : Int) % 10 by omega] at *
  generalize Lib.itoa ((n : Int) / 10) = A at *
  generalize Lib.itoa ((n : Int) % 10) = B at *
  refine walk (hQ := ?_)
  refine W_if (ht := fun h1 => ?_) (hf := fun h1 => ?_)
  · omega
  · refine walk (hQ := ?_)
    refine R_call k1 (hK := ?_)
    refine walk (hQ := ?_)
    refine R_call k2 (hK := ?_)
    refine walk (hQ := ?_)
    exact hR _ (ret1 (hp := rfl))
theorem ltr_at : ∀ k < 10, 1 ≤ k → (([118, 100, 109, 108, 110, 115, 120, 103, 98] : List UInt8).drop (k - 1)).take (k - (k - 1)) = [ltrs.getD (k - 1) 0] := by decide +kernel
theorem lts_at1 : ∀ k < 10, 1 ≤ k → (lts.drop k).take (k + 1 - k) = [ltrs.getD (k - 1) 0] := by decide +kernel
theorem q_at : ∀ q < 4, (([48, 49, 50, 51] : List UInt8).drop q).take (q + 1 - q) = [UInt8.ofNat (48 + q)] := by decide +kernel
theorem sdT_nuc {s : Snd} (h : nuc s = true) : sdT s = s.2.2 ++ [47] ++ [ltrs.getD (s.1 - 1).toNat 0] ++ [UInt8.ofNat (48 + s.2.1.toNat)] := by unfold sdT; rw [if_pos h]
theorem sdT_not {s : Snd} (h : nuc s = false) : sdT s = s.2.2 ++ [47] ++ [ltrs.getD (s.1 - 1).toNat 0] := by unfold sdT; rw [if_neg (by rw [h]; decide), List.append_nil]
theorem f_SFormat (l : List Snd) (hl : l.length ≤ 2) (h0 : l ≠ []) (hv : ∀ s ∈ l, sdE s = 0) : Spc X 44 [.one (slc eSd l)] (.tup [(false, [.str (sdsT l)]), (false, [.int .i64 0])]) := by
  refine Spc.start Tryz.func44 rfl (h := fun hs R hR => ?_)
  unfold Tryz.f44
  simp only [entryE, PA.av]
  have hpos := List.length_pos_iff.2 h0
  refine walk (hQ := ?_)
  refine W_if (ht := fun h1 => ?_) (hf := fun h1 => ?_)
  · omega
  refine walk (hQ := ?_)
  refine Lp.intro2 (fun (out : List (List UInt8)) (i : Nat) => ⟨[(4, .one (.own 0 1 out.length)), (12, vP (slc eSd l)), (13, vI l.length), (14, vI i)], [(0, (.pu 9 (out.flatMap eS), false))], 1⟩) (fun out i => i ≤ l.length ∧ out = (l.take i).map sdT) (fun out i => l.length - i) [] 0 ⟨Nat.zero_le _, by simp⟩ (h0 := le_ghost1 0 9 (hle := le_auto)) (hr := fun out i K ⟨hi, ho⟩ hK => ?_)
  have hol : out.length ≤ 2 := by rw [ho, List.length_map, List.length_take]; omega
  refine walk (hQ := ?_)
  refine W_if (ht := fun h2 => ?_) (hf := fun h2 => ?_)
  · have hil : i < l.length := by omega
    have e0 := getD_some hil
    have hx := hv _ (List.mem_of_getElem? e0)
    have hn : (l.take (i + 1)).map sdT = out ++ [sdT (l.getD i default)] := by
      obtain ⟨h3, h4⟩ := List.getElem?_eq_some_iff.1 e0
      rw [List.take_succ_eq_append_getElem h3, List.map_append, ← ho, h4]; rfl
    refine walk (hQ := ?_)
    generalize l.getD i default = x at *
    obtain ⟨hk1, hk9, hq, ht0, ht8, -⟩ := sdE_ok hx
    have k1 := f_SValid x
    have k2 := f_Nucleus x
    rw [hx] at k1
    obtain ⟨xk, xq, xt⟩ := x
    obtain ⟨k, rfl⟩ : ∃ k : Nat, xk = (k : Int) := ⟨xk.toNat, by simp only at hk1; omega⟩
    simp only [eSd, List.map_cons, List.map_nil] at *
    have hla := ltr_at k (by omega) (by omega)
    refine walk (hQ := ?_)
    refine R_call k1 (hK := ?_)
    refine walk (hQ := ?_)
    rw [show ((k : Int) - 1) = ((k - 1 : Nat) : Int) by omega]
    refine walk (hQ := ?_)
    rw [show List.take (k - (((k - 1 : Nat) : Int)).toNat) (List.drop (((k - 1 : Nat) : Int)).toNat (ByteArray.mk #[118, 100, 109, 108, 110, 115, 120, 103, 98]).data.toList) = [ltrs.getD (k - 1) 0] from hla]
    refine walk (hQ := ?_)
    cases hnc : nuc ((k : Int), xq, xt) with
    | true =>
      rw [hnc] at k2
      have hqb := nuc_q hq hnc
      obtain ⟨q, rfl⟩ : ∃ q : Nat, xq = (q : Int) := ⟨xq.toNat, by simp only at hqb; omega⟩
      simp only at hqb
      have hqa := q_at q (by omega)
      rw [sdT_nuc hnc] at hn
      simp only at hn
      refine R_call k2 (hK := ?_)
      refine walk (hQ := ?_)
      refine R_sboth (l := [48, 49, 50, 51]) (h0 := ⟨by omega, by omega, by simp; omega⟩) (hK := ?_)
      rw [hqa]
      refine walk (hQ := ?_)
      rw [show ((k : Int) - 1).toNat = k - 1 by omega, Int.toNat_natCast] at hn
      exact hK _ _ (i + 1) ⟨by omega, hn.symm⟩ (by omega) (by rw [List.length_append]; exact le_auto)
    | false =>
      rw [hnc] at k2
      rw [sdT_not hnc] at hn
      simp only at hn
      refine R_call k2 (hK := ?_)
      refine walk (hQ := ?_)
      rw [show ((k : Int) - 1).toNat = k - 1 by omega] at hn
      exact hK _ _ (i + 1) ⟨by omega, hn.symm⟩ (by omega) (by rw [List.length_append]; exact le_auto)
  · obtain rfl : i = l.length := by omega
    rw [List.take_length] at ho
    have hjl := joinS_len (B := 11) (l := l.map sdT) fun w hw => by
      obtain ⟨s, hs, rfl⟩ := List.mem_map.1 hw; exact (sdT_facts (hv s hs)).2.2.2.1
    rw [List.length_map] at hjl
    have kj := s_Join (l.map sdT) [32] (by rw [List.length_map]; exact hpos) (by rw [List.length_map]; omega) (by rw [← joinS_join]; omega)
    rw [← joinS_join, ← ho] at kj
    rw [sdsT, ← ho] at hR
    refine walk (hQ := ?_)
    refine R_callP (ids' := []) kj (hK := ?_)
    refine walk (hQ := ?_)
    exact hR _ (ret2 (hp := rfl))
theorem joinS_snoc' (w : List UInt8) {M : List (List UInt8)} (h : M ≠ []) : joinS (M ++ [w]) = joinS M ++ [32] ++ w := joinS_app M [w] h (by simp)
theorem sdsT_next {l : List Snd} {i : Nat} {x : Snd} (h : l[i]? = some x) : sdsT (l.take (i + 1)) = (if 0 < i then sdsT (l.take i) ++ [32] else sdsT (l.take i)) ++ sdT x := by
  obtain ⟨h3, h4⟩ := List.getElem?_eq_some_iff.1 h
  unfold sdsT
  rw [List.take_succ_eq_append_getElem h3, List.map_append, h4]
  by_cases hi : 0 < i
  · rw [if_pos hi]
    exact joinS_snoc' _ (by rw [Ne, List.map_eq_nil_iff, List.take_eq_nil_iff]; intro h5; rcases h5 with h5 | h5; · omega
                            · rw [h5] at h3; simp at h3)
  · rw [if_neg hi, show i = 0 by omega]; simp [joinS]
theorem lts_atZ {z : Int} (h1 : 1 ≤ z) (h2 : z ≤ 9) : (lts.drop z.toNat).take ((z + 1).toNat - z.toNat) = [ltrs.getD (z - 1).toNat 0] := by
  obtain ⟨k, rfl⟩ : ∃ k : Nat, z = (k : Int) := ⟨z.toNat, by omega⟩
  have := lts_at1 k (by omega) (by omega)
  rw [show ((k : Int) + 1).toNat = k + 1 by omega, Int.toNat_natCast, show ((k : Int) - 1).toNat = k - 1 by omega]
  exact this
theorem q_atZ {z : Int} (h1 : 0 ≤ z) (h2 : z ≤ 3) : (([48, 49, 50, 51] : List UInt8).drop z.toNat).take ((z + 1).toNat - z.toNat) = [UInt8.ofNat (48 + z.toNat)] := by
  obtain ⟨k, rfl⟩ : ∃ k : Nat, z = (k : Int) := ⟨z.toNat, by omega⟩
  have := q_at k (by omega)
  rw [show ((k : Int) + 1).toNat = k + 1 by omega, Int.toNat_natCast]
  exact this
theorem g_Text (l : List Snd) (hl : l.length ≤ 2) (hv : ∀ s ∈ l, sdE s = 0) : Spc X 48 [.one (slc eSd l)] (.one (.str (sdsT l))) := by
  refine Spc.start Tryz.func48 rfl (h := fun hs R hR => ?_)
  unfold Tryz.f48
  simp only [entryE, PA.av]
  refine walk (hQ := ?_)
  refine Lp.intro2 (fun (out : List UInt8) (i : Nat) => ⟨[(0, vP (slc eSd l)), (3, vS out), (4, vI i)], [], 0⟩) (fun out i => i ≤ l.length ∧ out = sdsT (l.take i)) (fun out i => l.length - i) [] 0 ⟨Nat.zero_le _, by simp [sdsT, joinS]⟩ (h0 := le_auto) (hr := fun out i K ⟨hi, ho⟩ hK => ?_)
  have hol : out.length ≤ 24 := by
    have := joinS_len (B := 11) (l := (l.take i).map sdT) fun w hw => by
      obtain ⟨s, hs, rfl⟩ := List.mem_map.1 hw; exact (sdT_facts (hv s (List.mem_of_mem_take hs))).2.2.2.1
    rw [List.length_map, List.length_take] at this
    rw [ho, sdsT]; omega
  refine walk (hQ := ?_)
  refine W_if (ht := fun h2 => ?_) (hf := fun h2 => ?_)
  · have hil : i < l.length := by omega
    have e0 := getD_some hil
    have hx := hv _ (List.mem_of_getElem? e0)
    have hn := sdsT_next e0
    rw [← ho] at hn
    obtain ⟨hk1, hk9, hq, ht0, ht8, -⟩ := sdE_ok hx
    have k2 := g_Nucleus (l.getD i default)
    refine walk (hQ := ?_)
    refine W_if (ht := fun h3 => ?_) (hf := fun h3 => ?_)
    all_goals
      first | rw [if_pos (show 0 < i by omega)] at hn | rw [if_neg (show ¬ 0 < i by omega)] at hn
      refine walk (hQ := ?_)
      refine R_call g_lets (hK := ?_)
      refine walk (hQ := ?_)
      refine R_sboth (l := lts) (h0 := ⟨by omega, by omega, by rw [show lts.length = 10 from rfl]; omega⟩) (hK := ?_)
      rw [lts_atZ (by omega) (by omega)]
      refine walk (hQ := ?_)
      cases hnc : nuc (l.getD i default) with
      | true =>
        rw [hnc] at k2
        have hqb := nuc_q hq hnc
        rw [sdT_nuc hnc] at hn
        simp only [← List.append_assoc] at hn
        refine R_call k2 (hK := ?_)
        refine walk (hQ := ?_)
        refine R_sboth (l := [48, 49, 50, 51]) (h0 := ⟨by omega, by omega, by rw [show ([48, 49, 50, 51] : List UInt8).length = 4 from rfl]; omega⟩) (hK := ?_)
        rw [q_atZ (by omega) (by omega)]
        refine walk (hQ := ?_)
        refine hK _ _ (i + 1) ⟨by omega, hn.symm⟩ (by omega) le_auto
      | false =>
        rw [hnc] at k2
        rw [sdT_not hnc] at hn
        simp only [← List.append_assoc] at hn
        refine R_call k2 (hK := ?_)
        refine walk (hQ := ?_)
        refine hK _ _ (i + 1) ⟨by omega, hn.symm⟩ (by omega) le_auto
  · obtain rfl : i = l.length := by omega
    rw [List.take_length] at ho
    rw [← ho] at hR
    refine walk (hQ := ?_)
    exact hR _ (ret1 (hp := rfl))
end Go.VS.YtekfjbjdlenhoaaGreatDoor


namespace Go.VS.YtekfjbjdlenhoaaGreatDoor
open Go Go.VL Go.RowKit Go.Proofs
set_option maxRecDepth 100000
set_option linter.unusedVariables false

def bdR : Go.Shelf.Ren := ⟨fun | 169 => 47 | 240 => 71 | 276 => 105 | n => n, fun | 0 => 0 | 3 => 3 | 4 => 4 | 5 => 5 | 9 => 9 | 20 => 20 | 37 => 38 | 70 => 69 | 72 => 71 | 127 => 101 | 164 => 125 | n => n, fun | n => n⟩
theorem bd240 : Go.Proofs.Lays.n240 Tryz.prog bdR := {
  mixed := by kernel_rfl
  f240 := by kernel_rfl
  f276 := by kernel_rfl
  t0 := by kernel_rfl
  a0 := fun _ => by kernel_rfl
  z0 := fun _ => by kernel_rfl
  v0 := fun _ => by kernel_rfl
  t4 := by kernel_rfl
  a4 := fun _ => by kernel_rfl
  z4 := fun _ => by kernel_rfl
  v4 := fun _ => by kernel_rfl
  t9 := by kernel_rfl
  a9 := fun _ => by kernel_rfl
  z9 := fun _ => by kernel_rfl
  v9 := fun _ => by kernel_rfl
  t20 := by kernel_rfl
  a20 := fun _ => by kernel_rfl
  z20 := fun _ => by kernel_rfl
  v20 := fun _ => by kernel_rfl
  t70 := by kernel_rfl
  a70 := fun _ => by kernel_rfl
  z70 := fun _ => by kernel_rfl
  v70 := fun _ => by kernel_rfl
  t72 := by kernel_rfl
  a72 := fun _ => by kernel_rfl
  z72 := fun _ => by kernel_rfl
  v72 := fun _ => by kernel_rfl
  t164 := by kernel_rfl
  a164 := fun _ => by kernel_rfl
  z164 := fun _ => by kernel_rfl
  v164 := fun _ => by kernel_rfl }
theorem bd169 : Go.Proofs.Lays.n169 Tryz.prog bdR := {
  mixed := by kernel_rfl
  f169 := by kernel_rfl
  t0 := by kernel_rfl
  a0 := fun _ => by kernel_rfl
  z0 := fun _ => by kernel_rfl
  v0 := fun _ => by kernel_rfl
  t3 := by kernel_rfl
  a3 := fun _ => by kernel_rfl
  z3 := fun _ => by kernel_rfl
  v3 := fun _ => by kernel_rfl
  t9 := by kernel_rfl
  a9 := fun _ => by kernel_rfl
  z9 := fun _ => by kernel_rfl
  v9 := fun _ => by kernel_rfl
  t37 := by kernel_rfl
  a37 := fun _ => by kernel_rfl
  z37 := fun _ => by kernel_rfl
  v37 := fun _ => by kernel_rfl
  t70 := by kernel_rfl
  a70 := fun _ => by kernel_rfl
  z70 := fun _ => by kernel_rfl
  v70 := fun _ => by kernel_rfl
  t72 := by kernel_rfl
  a72 := fun _ => by kernel_rfl
  z72 := fun _ => by kernel_rfl
  v72 := fun _ => by kernel_rfl
  t127 := by kernel_rfl
  a127 := fun _ => by kernel_rfl
  z127 := fun _ => by kernel_rfl
  v127 := fun _ => by kernel_rfl }
theorem bdX : Go.Proofs.Builder.Extra Tryz.prog bdR := {
  sizeBuilder := by kernel_rfl
  liesBuilder := by kernel_rfl
  t5 := by kernel_rfl
  a5 := fun _ => by kernel_rfl
  z5 := fun _ => by kernel_rfl
  v5 := fun _ => by kernel_rfl
  infoByte := by kernel_rfl
  cellsByte := by kernel_rfl
  sizeByte := by kernel_rfl
  neB5 := by decide }
theorem s_copyCheck {te : TypeId} {n : Nat} {l : List UInt8} : SpcS X1 71 [.one (.ptr 1000 0)] (bdH 71 te n l) (.tup []) (bdH 71 te n l) := copyCheck_spc (X := X1) bd240 bdX.toX72
theorem s_String (l : List UInt8) : SpcS X1 47 [.one (.ptr 1000 0)] (bdH 71 5 l.length l) (.one (.pv (.str l))) [(1000, (.mx [.any, .any], false))] := string_spc (X := X1) bd169 bdX
theorem s_WriteString (l s : List UInt8) {n : Nat} (hn : n = l.length) (hb : n + s.length ≤ 140737488355328) : SpcS X1 43 [.one (.ptr 1000 0), vS s] (bdH 71 5 n l) (.tup [(false, [.pv (.int .i64 s.length)]), (false, [.pv (.lit .nilIface)])]) (bdH 71 5 (n + s.length) (l ++ s)) := by
  refine SpcS.start 1 Tryz.func43 rfl (h := fun hs hH R hR => ?_)
  unfold Tryz.f43
  simp only [entryV, bdH]
  refine walk (hQ := ?_)
  refine R_callB 0 s_copyCheck (hK := ?_)
  refine walk (hQ := ?_)
  refine hR _ (retS2 (hy := rfl) (hle := ⟨rfl, rfl, trivial⟩))
end Go.VS.YtekfjbjdlenhoaaGreatDoor


set_option linter.unusedVariables false
namespace Go.Proofs
open Go.Shelf
def Tryz.laysM171_ren : Go.Shelf.Ren := ⟨fun | 171 => 45 | 243 => 74 | 246 => 111 | 283 => 136 | 284 => 137 | 285 => 138 | 286 => 139 | 129 => 96 | 317 => 154 | 318 => 155 | 319 => 156 | 320 => 157 | 337 => 162 | 338 => 163 | n => n, fun | 3 => 3 | 9 => 9 | 2 => 2 | 4 => 4 | 171 => 145 | 0 => 0 | 53 => 120 | 37 => 38 | 5 => 5 | 173 => 147 | 212 => 161 | 51 => 118 | 20 => 20 | 213 => 162 | 46 => 92 | 232 => 170 | 233 => 171 | n => n, fun | 17 => 1 | 18 => 4 | 19 => 5 | n => n⟩
theorem Tryz.laysM171 : Go.Proofs.LaysM.n171 Tryz.prog Tryz.laysM171_ren := {
  mixed := by kernel_rfl
  f129 := Tryz.func96.trans (congrArg some (by kernel_rfl))
  f171 := Tryz.func45.trans (congrArg some (by kernel_rfl))
  f243 := Tryz.func74.trans (congrArg some (by kernel_rfl))
  f246 := Tryz.func111.trans (congrArg some (by kernel_rfl))
  f283 := Tryz.func136.trans (congrArg some (by kernel_rfl))
  f284 := Tryz.func137.trans (congrArg some (by kernel_rfl))
  f285 := Tryz.func138.trans (congrArg some (by kernel_rfl))
  f286 := Tryz.func139.trans (congrArg some (by kernel_rfl))
  f317 := Tryz.func154.trans (congrArg some (by kernel_rfl))
  f318 := Tryz.func155.trans (congrArg some (by kernel_rfl))
  f319 := Tryz.func156.trans (congrArg some (by kernel_rfl))
  f320 := Tryz.func157.trans (congrArg some (by kernel_rfl))
  f337 := Tryz.func162.trans (congrArg some (by kernel_rfl))
  f338 := Tryz.func163.trans (congrArg some (by kernel_rfl))
  t0 := Tryz.underlying0
  a0 := Tryz.isAgg0
  z0 := Tryz.sizeOf0
  v0 := Tryz.zeroValue0
  t2 := Tryz.underlying2
  a2 := Tryz.isAgg2
  z2 := Tryz.sizeOf2
  v2 := Tryz.zeroValue2
  t3 := Tryz.underlying3
  a3 := Tryz.isAgg3
  z3 := Tryz.sizeOf3
  v3 := Tryz.zeroValue3
  t4 := Tryz.underlying4
  a4 := Tryz.isAgg4
  z4 := Tryz.sizeOf4
  v4 := Tryz.zeroValue4
  t5 := Tryz.underlying5
  a5 := Tryz.isAgg5
  z5 := Tryz.sizeOf5
  v5 := Tryz.zeroValue5
  t9 := Tryz.underlying9
  a9 := Tryz.isAgg9
  z9 := Tryz.sizeOf9
  v9 := Tryz.zeroValue9
  t20 := Tryz.underlying20
  a20 := Tryz.isAgg20
  z20 := Tryz.sizeOf20
  v20 := Tryz.zeroValue20
  t37 := Tryz.underlying38
  a37 := Tryz.isAgg38
  z37 := Tryz.sizeOf38
  v37 := Tryz.zeroValue38
  t46 := Tryz.underlying92
  a46 := Tryz.isAgg92
  z46 := Tryz.sizeOf92
  v46 := Tryz.zeroValue92
  t51 := Tryz.underlying118
  a51 := Tryz.isAgg118
  z51 := Tryz.sizeOf118
  v51 := Tryz.zeroValue118
  t53 := Tryz.underlying120
  a53 := Tryz.isAgg120
  z53 := Tryz.sizeOf120
  v53 := Tryz.zeroValue120
  t171 := Tryz.underlying145
  a171 := Tryz.isAgg145
  z171 := Tryz.sizeOf145
  v171 := Tryz.zeroValue145
  t173 := Tryz.underlying147
  a173 := Tryz.isAgg147
  z173 := Tryz.sizeOf147
  v173 := Tryz.zeroValue147
  t212 := Tryz.underlying161
  a212 := Tryz.isAgg161
  z212 := Tryz.sizeOf161
  v212 := Tryz.zeroValue161
  t213 := Tryz.underlying162
  a213 := Tryz.isAgg162
  z213 := Tryz.sizeOf162
  t232 := Tryz.underlying170
  a232 := Tryz.isAgg170
  z232 := Tryz.sizeOf170
  v232 := Tryz.zeroValue170
  t233 := Tryz.underlying171
  a233 := Tryz.isAgg171
  z233 := Tryz.sizeOf171
  v233 := Tryz.zeroValue171
  g17 := by kernel_rfl
  g18 := by kernel_rfl
  g19 := by kernel_rfl
  i0 := by kernel_rfl
  i2 := by kernel_rfl
  i3 := by kernel_rfl
  i4 := by kernel_rfl
  i5 := by kernel_rfl
  i9 := by kernel_rfl
  i20 := by kernel_rfl
  i37 := by kernel_rfl
  i46 := by kernel_rfl
  i51 := by kernel_rfl
  i53 := by kernel_rfl
  i171 := by kernel_rfl
  i173 := by kernel_rfl
  i212 := by kernel_rfl
  i232 := by kernel_rfl
  i233 := by kernel_rfl
  m17 := by kernel_rfl
  m18 := by kernel_rfl
  m19 := by kernel_rfl }
open Go.RowKit Go.Sort Go.Lib in
/-- strconv.Itoa: "Itoa is equivalent to FormatInt(int64(i), 10).": i's DECIMAL NUMERAL ('Lib.itoa': a '-' where i is negative, then the digits), FOR EVERY int. The world behind the call: the world before it, new blocks behind the heap (the library's 'var a [24]byte'), draws. (LAID: no walk: one application.) -/
theorem Tryz.strconv_Itoa (n : Int) (h0 : -9223372036854775808 ≤ n) (h1 : n ≤ 9223372036854775807) (w : World) (htab : Lib.TabIs Tryz.prog w "internal/strconv.uint64pow10" .u64 Lib.pow10Tab) :
    Calls Tryz.prog 45 #[.int .i64 n] w fun e w' => e = .returned (.string ⟨(Lib.itoa n).toArray⟩) ∧ ∃ k os, w' = grow (w.drewN k) os := Any.strconv_Itoa Tryz.laysM171 n h0 h1 w htab
end Go.Proofs


namespace Go.VS.YtekfjbjdlenhoaaGreatDoor
open Go Go.VL Go.VN Go.RowKit Go.Proofs
set_option maxRecDepth 100000
set_option linter.unusedVariables false
set_option linter.unusedSimpArgs false

theorem s_Itoa (z : Int) : Spc X1 45 [.one (.int .i64 z)] (.one (.str (Lib.itoa z))) :=
  spc_int (ent_of2 (P := X1.P) Tryz.func45 (by kernel_rfl) (by kernel_rfl)) fun w hG h0 h1 => (Tryz.strconv_Itoa z h0 h1 w hG.2).mono fun e w' ⟨he, k, os, hw⟩ => ⟨_, he, .str _ (Nat.le_trans (Lib.itoa_length_le z h0 h1) (by decide)), by rw [hw]; exact Lib.below_grow _ w (Nat.le_refl _) k os⟩
theorem sgs_next {l : List Sgn} {i : Nat} {x : Sgn} (h : l[i]? = some x) : (l.take (i + 1)).flatMap sgT = (l.take i).flatMap sgT ++ sgT x := by
  obtain ⟨hi, rfl⟩ := List.getElem?_eq_some_iff.1 h
  rw [List.take_succ_eq_append_getElem hi, List.flatMap_append]; simp
def hdT (nm : List UInt8) : List UInt8 := wOrt ++ [32] ++ nm ++ [10]
theorem f_OFormat (o : Ort) : Spc X1 29 [orA o] (.tup [(false, [.str (fmtO o).1]), (false, [.int .i64 (fmtO o).2])]) := by
  have k1 := up (f_OValid o)
  unfold fmtO
  by_cases hc : (chkO o).2 ≠ 0
  · rw [if_pos hc]
    generalize (chkO o).2 = c at *
    obtain ⟨nme, l⟩ := o
    refine Spc.start Tryz.func29 rfl (h := fun hs R hR => ?_)
    unfold Tryz.f29
    simp only [entryE, PA.av, eO, List.map_cons, List.map_nil] at *
    refine walk (hQ := ?_)
    refine R_call k1 (hK := ?_)
    refine walk (hQ := ?_)
    refine W_if (ht := fun h1 => ?_) (hf := fun h1 => ?_)
    · refine walk (hQ := ?_)
      exact hR _ (ret2 (hp := rfl))
    · exact absurd hc h1
  rw [if_neg hc]
  have hc0 : (chkO o).2 = 0 := Decidable.not_not.1 hc
  obtain ⟨v1, v2, v3, v4⟩ := chkO_ok hc0
  obtain ⟨n1, n2, n3, n4⟩ := isNm_ok v1
  rw [hc0] at k1
  clear hc hc0
  obtain ⟨nme, l⟩ := o
  refine Spc.start Tryz.func29 rfl (h := fun hs R hR => ?_)
  unfold Tryz.f29
  simp only [entryE, PA.av, eO, List.map_cons, List.map_nil] at *
  have hfin : ortT (nme, l) = hdT nme ++ l.flatMap sgT := by unfold ortT hdT; simp
  rw [hfin] at hR
  have hhd : (hdT nme).length ≤ 40 := by unfold hdT; simp only [List.length_append, List.length_cons, List.length_nil]; omega
  refine walk (hQ := ?_)
  refine R_call k1 (hK := ?_)
  refine walk (hQ := ?_)
  refine R_callB 2 (s_WriteString [] (hdT nme) (n := 0) rfl (by omega)) (hK := ?_)
  refine walk (hQ := ?_)
  refine Lp.intro (fun (i : Nat) => ⟨[(1, .one (.ptr 0 0)), (5, .one (.ptr 1 0)), (21, vP (slc eSg l)), (22, vI l.length), (23, vI i)], [(0, (.mx [.pv (.str nme), .pv (slc eSg l)], false)), (1, (.mx [.adr 1 71 2, .own 2 1 (hdT nme ++ (l.take i).flatMap sgT).length], false)), (2, (.pu 5 ((hdT nme ++ (l.take i).flatMap sgT).flatMap eU), false))], 3⟩) (fun i => i ≤ l.length) (fun i => l.length - i) 0 (Nat.zero_le _) (h0 := ?_) (hr := fun i K hi hK => ?_)
  · simp only [List.take_zero, List.flatMap_nil, List.append_nil, Nat.zero_add, List.nil_append]
    exact le_auto (hh := ⟨rfl, rfl, rfl, trivial⟩)
  have hsl := signs_len (l := l.take i) fun s hs => v4 s (List.mem_of_mem_take hs)
  rw [List.length_take] at hsl
  have hsum : (hdT nme ++ (l.take i).flatMap sgT).length ≤ 40 + 120 * 61 := by rw [List.length_append]; have := Nat.mul_le_mul_right 61 (show min i l.length ≤ 120 by omega); omega
  generalize hT : hdT nme ++ (l.take i).flatMap sgT = T at *
  refine walk (hQ := ?_)
  refine W_if (ht := fun h2 => ?_) (hf := fun h2 => ?_)
  · have hil : i < l.length := by omega
    have e0 := getD_some hil
    have hx := v4 _ (List.mem_of_getElem? e0)
    have hn := sgs_next e0
    obtain ⟨g1, g2, g3, g4, g5, g6, g7, g8⟩ := sgE_ok hx
    obtain ⟨t1, t2, t3, t4⟩ := txE_ok g1
    have kf := up (f_SFormat _ g3 g2 (firstE_all g4))
    have hj := joinS_len (B := 11) (l := (l.getD i default).2.1.map sdT) fun w hw => by
      obtain ⟨s, hs, rfl⟩ := List.mem_map.1 hw; exact (sdT_facts (firstE_all g4 s hs)).2.2.2.1
    rw [List.length_map] at hj
    have hj2 : (sdsT (l.getD i default).2.1).length ≤ 24 := by unfold sdsT; omega
    clear hj
    refine walk (hQ := ?_)
    generalize l.getD i default = x at *
    obtain ⟨xt, xs, xc, xw⟩ := x
    simp only [eSg, List.map_cons, List.map_nil] at *
    obtain ⟨c, rfl⟩ : ∃ c : Nat, xc = (c : Int) := ⟨xc.toNat, by omega⟩
    obtain ⟨w, rfl⟩ : ∃ w : Nat, xw = (w : Int) := ⟨xw.toNat, by omega⟩
    have hcl := (cost_facts c (by omega)).2.2.1
    have hpl := (plc_facts w (by omega)).2.2.1
    unfold plc at hpl
    simp only [Int.toNat_natCast] at hpl
    have hsg : sgT (xt, xs, (c : Int), (w : Int)) = xt ++ [32] ++ sdsT xs ++ [32] ++ Lib.itoa c ++ [32] ++ plcs.getD w [] ++ [10] := rfl
    rw [hsg] at hn
    have ki := s_Itoa c
    generalize Lib.itoa c = ci at *
    generalize sdsT xs = sx at *
    refine walk (hQ := ?_)
    refine R_call kf (hK := ?_)
    refine walk (hQ := ?_)
    refine R_call ki (hK := ?_)
    refine walk (hQ := ?_)
    refine R_call (up f_places) (hK := ?_)
    refine walk (hQ := ?_)
    have hplc : plcs.length = 5 := rfl
    generalize plcs = PL at *
    refine walk (hQ := ?_)
    generalize PL.getD w [] = pw at *
    have hlast : (xt ++ [32] ++ sx ++ [32] ++ ci ++ [32] ++ pw ++ [10]).length ≤ 48 := by simp only [List.length_append, List.length_cons, List.length_nil]; omega
    refine R_callB 2 (s_WriteString T (xt ++ [32] ++ sx ++ [32] ++ ci ++ [32] ++ pw ++ [10]) rfl (by omega)) (hK := ?_)
    refine walk (hQ := ?_)
    refine hK _ (i + 1) (by omega) (by omega) ?_
    have hT2 : hdT nme ++ (l.take (i + 1)).flatMap sgT = T ++ (xt ++ [32] ++ sx ++ [32] ++ ci ++ [32] ++ pw ++ [10]) := by rw [hn, ← List.append_assoc, hT]
    rw [hT2, @List.length_append _ T (xt ++ [32] ++ sx ++ [32] ++ ci ++ [32] ++ pw ++ [10])]
    exact le_auto (hh := ⟨rfl, rfl, rfl, trivial⟩)
  · obtain rfl : i = l.length := by omega
    rw [List.take_length] at hT
    rw [hT] at hR
    refine walk (hQ := ?_)
    refine R_callBC 2 (s_String T) (hK := ?_)
    refine walk (hQ := ?_)
    exact hR _ (ret2 (hp := rfl))
theorem g_OFormat (o : Ort) : Spc X 30 [orA o] (.tup [(false, [.str (fmtO o).1]), (false, [.int .i64 (fmtO o).2])]) := by
  have k1 := g_OValid o
  unfold fmtO
  by_cases hc : (chkO o).2 ≠ 0
  · rw [if_pos hc]
    generalize (chkO o).2 = c at *
    obtain ⟨nme, l⟩ := o
    refine Spc.start Tryz.func30 rfl (h := fun hs R hR => ?_)
    unfold Tryz.f30
    simp only [entryE, PA.av, eO, List.map_cons, List.map_nil] at *
    refine walk (hQ := ?_)
    refine R_call k1 (hK := ?_)
    refine walk (hQ := ?_)
    refine W_if (ht := fun h1 => ?_) (hf := fun h1 => ?_)
    · refine walk (hQ := ?_)
      exact hR _ (ret2 (hp := rfl))
    · exact absurd hc h1
  rw [if_neg hc]
  have hc0 : (chkO o).2 = 0 := Decidable.not_not.1 hc
  obtain ⟨v1, v2, v3, v4⟩ := chkO_ok hc0
  obtain ⟨n1, n2, n3, n4⟩ := isNm_ok v1
  rw [hc0] at k1
  clear hc hc0
  obtain ⟨nme, l⟩ := o
  refine Spc.start Tryz.func30 rfl (h := fun hs R hR => ?_)
  unfold Tryz.f30
  simp only [entryE, PA.av, eO, List.map_cons, List.map_nil] at *
  have hfin : ortT (nme, l) = hdT nme ++ l.flatMap sgT := by unfold ortT hdT; simp
  rw [hfin] at hR
  have hhd : (hdT nme).length ≤ 40 := by unfold hdT; simp only [List.length_append, List.length_cons, List.length_nil]; omega
  refine walk (hQ := ?_)
  refine R_call k1 (hK := ?_)
  refine walk (hQ := ?_)
  refine Lp.intro2 (fun (T : List UInt8) (i : Nat) => ⟨[(1, .one (.ptr 0 0)), (5, vS T), (6, vI i)], [(0, (.mx [.pv (.str nme), .pv (slc eSg l)], false))], 1⟩) (fun T i => i ≤ l.length ∧ T = hdT nme ++ (l.take i).flatMap sgT) (fun T i => l.length - i) (hdT nme) 0 ⟨Nat.zero_le _, by simp⟩ (h0 := le_auto) (hr := fun T i K ⟨hi, hT⟩ hK => ?_)
  have hsl := signs_len (l := l.take i) fun s hs => v4 s (List.mem_of_mem_take hs)
  rw [List.length_take] at hsl
  have hsum : T.length ≤ 40 + 120 * 61 := by rw [hT, List.length_append]; have := Nat.mul_le_mul_right 61 (show min i l.length ≤ 120 by omega); omega
  refine walk (hQ := ?_)
  refine W_if (ht := fun h2 => ?_) (hf := fun h2 => ?_)
  · have hil : i < l.length := by omega
    have e0 := getD_some hil
    have hx := v4 _ (List.mem_of_getElem? e0)
    have hn := sgs_next e0
    obtain ⟨g1, g2, g3, g4, g5, g6, g7, g8⟩ := sgE_ok hx
    obtain ⟨t1, t2, t3, t4⟩ := txE_ok g1
    have kf := g_Text _ g3 (firstE_all g4)
    have hj := joinS_len (B := 11) (l := (l.getD i default).2.1.map sdT) fun w hw => by
      obtain ⟨s, hs, rfl⟩ := List.mem_map.1 hw; exact (sdT_facts (firstE_all g4 s hs)).2.2.2.1
    rw [List.length_map] at hj
    have hj2 : (sdsT (l.getD i default).2.1).length ≤ 24 := by unfold sdsT; omega
    clear hj
    refine walk (hQ := ?_)
    generalize l.getD i default = x at *
    obtain ⟨xt, xs, xc, xw⟩ := x
    simp only [eSg, List.map_cons, List.map_nil] at *
    obtain ⟨c, rfl⟩ : ∃ c : Nat, xc = (c : Int) := ⟨xc.toNat, by omega⟩
    obtain ⟨w, rfl⟩ : ∃ w : Nat, xw = (w : Int) := ⟨xw.toNat, by omega⟩
    have hcl := (cost_facts c (by omega)).2.2.1
    have hpl := (plc_facts w (by omega)).2.2.1
    unfold plc at hpl
    simp only [Int.toNat_natCast] at hpl
    have hsg : sgT (xt, xs, (c : Int), (w : Int)) = xt ++ [32] ++ sdsT xs ++ [32] ++ Lib.itoa c ++ [32] ++ plcs.getD w [] ++ [10] := rfl
    rw [hsg] at hn
    have ki := g_Digits c (by omega)
    have kw := g_where w (by omega)
    generalize Lib.itoa c = ci at *
    generalize sdsT xs = sx at *
    generalize plcs.getD w [] = pw at *
    refine walk (hQ := ?_)
    refine R_call kf (hK := ?_)
    refine walk (hQ := ?_)
    refine R_call ki (hK := ?_)
    refine walk (hQ := ?_)
    refine R_call kw (hK := ?_)
    refine walk (hQ := ?_)
    have hT2 : hdT nme ++ (l.take (i + 1)).flatMap sgT = T ++ xt ++ [32] ++ sx ++ [32] ++ ci ++ [32] ++ pw ++ [10] := by rw [hn, ← List.append_assoc, ← hT]; simp only [List.append_assoc]
    exact hK _ _ (i + 1) ⟨by omega, hT2.symm⟩ (by omega) le_auto
  · obtain rfl : i = l.length := by omega
    rw [List.take_length] at hT
    rw [← hT] at hR
    refine walk (hQ := ?_)
    exact hR _ (ret2 (hp := rfl))
end Go.VS.YtekfjbjdlenhoaaGreatDoor

