/- Contracts over whole values, and what they lean on: part n. Each holds under the conditions that it states. -/
import Derived.Test.YtlmioegjeocaaaaGreatDoorZm
set_option linter.unusedVariables false
set_option linter.unusedSimpArgs false

namespace Go.VS.YtlmioegjeocaaaaGreatDoor
open Go Go.VL Go.VN Go.RowKit Go.Proofs
set_option maxRecDepth 100000
set_option linter.unusedVariables false
set_option linter.unusedSimpArgs false
def insRev (c : Int → Int → Int) (x : Int) : List Int → List Int
  | [] => [x]
  | y :: r => if c x y < 0 then y :: insRev c x r else x :: y :: r
def sortRev (c : Int → Int → Int) (l : List Int) : List Int := l.foldl (fun r x => insRev c x r) []
theorem insRev_len (c : Int → Int → Int) (x : Int) : ∀ r, (insRev c x r).length = r.length + 1
  | [] => rfl
  | y :: r => by
    rw [insRev]
    split
    · simp [insRev_len c x r]
    · simp
theorem insRev_mem (c : Int → Int → Int) (x : Int) : ∀ (r : List Int) (z : Int), z ∈ insRev c x r ↔ z = x ∨ z ∈ r
  | [], z => by simp [insRev]
  | y :: r, z => by
    rw [insRev]
    split
    · rw [List.mem_cons, insRev_mem c x r z, List.mem_cons]
      constructor
      · rintro (h | h | h)
        · exact .inr (.inl h)
        · exact .inl h
        · exact .inr (.inr h)
      · rintro (h | h | h)
        · exact .inr (.inl h)
        · exact .inl h
        · exact .inr (.inr h)
    · simp
theorem sortRev_snoc (c : Int → Int → Int) (l : List Int) (x : Int) : sortRev c (l ++ [x]) = insRev c x (sortRev c l) := by
  unfold sortRev; rw [List.foldl_append]; rfl
theorem sortRev_len (c : Int → Int → Int) : ∀ l, (sortRev c l).length = l.length := fun l => by
  have key : ∀ (l r : List Int), (l.foldl (fun r x => insRev c x r) r).length = l.length + r.length := fun l => by
    induction l with
    | nil => intro r; simp
    | cons x l ih => intro r; rw [List.foldl_cons, ih, insRev_len, List.length_cons]; omega
  rw [sortRev, key]; rfl
theorem sortRev_mem (c : Int → Int → Int) (l : List Int) (z : Int) : z ∈ sortRev c l ↔ z ∈ l := by
  have key : ∀ (l r : List Int), z ∈ (l.foldl (fun r x => insRev c x r) r) ↔ z ∈ l ∨ z ∈ r := fun l => by
    induction l with
    | nil => intro r; simp
    | cons x l ih =>
      intro r
      rw [List.foldl_cons, ih, insRev_mem, List.mem_cons]
      constructor
      · rintro (h | h | h)
        · exact .inl (.inr h)
        · exact .inl (.inl h)
        · exact .inr h
      · rintro ((h | h) | h)
        · exact .inr (.inl h)
        · exact .inl h
        · exact .inr (.inr h)
  rw [sortRev, key]; simp
def insB (c : Int → Int → Int) (a b : Nat) (l : List Int) : List Int := l.take a ++ (sortRev c ((l.drop a).take (b - a))).reverse ++ l.drop b
theorem swap_ops {P M : List Int} {x y : Int} {j : Nat} (hj : j = P.length + 1) : (P ++ y :: x :: M).getD j 0 = x ∧ (P ++ y :: x :: M).getD (j - 1) 0 = y ∧ ((P ++ y :: x :: M).set j y).set (j - 1) x = P ++ x :: y :: M := by
  subst hj
  refine ⟨?_, ?_, ?_⟩
  · rw [List.getD_eq_getElem?_getD, List.getElem?_append_right (by omega), show P.length + 1 - P.length = 1 by omega]; rfl
  · rw [Nat.add_sub_cancel, List.getD_eq_getElem?_getD, List.getElem?_append_right (by omega), Nat.sub_self]; rfl
  · rw [Nat.add_sub_cancel, List.set_append_right _ _ (by omega), show P.length + 1 - P.length = 1 by omega, List.set_append_right _ _ (by omega), Nat.sub_self]; rfl
set_option maxHeartbeats 4000000 in
theorem s_InsC (f : FuncId) (caps : List PV) (c : Int → Int → Int) (D : Int → Prop) (hp : ∀ x y, D x → D y → Spc X f ([.one (.int .i64 x), .one (.int .i64 y)] ++ caps.map PA.one) (.one (.int .i64 (c x y)))) (l : List Int) (a b : Nat) (hab : a ≤ b) (hb : b ≤ l.length) (hl : l.length ≤ 1000000) (hD : ∀ x ∈ l, D x) :
    SpcS X 109 [.one (.own 1000 1 l.length), vI a, vI b, vP (.clo f caps)] [(1000, (.pu 3 (l.flatMap eI), false))] (.tup []) [(1000, (.pu 3 ((insB c a b l).flatMap eI), false))] := by
  refine SpcS.start 0 Tryz.func109 rfl (h := fun hs hs2 R hR => ?_)
  unfold Tryz.f109
  simp only [entryV]
  refine walk (hQ := ?_)
  refine Lp.intro2 (fun (cur : List Int) (i : Nat) => ⟨[(0, .one (.own 1000 1 l.length)), (1, vI a), (2, vI b), (3, vP (.clo f caps)), (8, vI i)], [(1000, (.pu 3 (cur.flatMap eI), false))], 0⟩) (fun cur i => a + 1 ≤ i ∧ (a < b → i ≤ b) ∧ (a = b → cur = l) ∧ cur = l.take a ++ (sortRev c ((l.drop a).take (i - a))).reverse ++ l.drop i) (fun cur i => b - i) l (a + 1) ⟨by omega, by omega, fun _ => rfl, ?_⟩ (h0 := le_auto) (hr := fun cur i K ⟨hi, hib, hie, hc⟩ hK => ?_)
  · rcases Nat.lt_or_ge a l.length with h | h
    · rw [show a + 1 - a = 1 by omega, List.drop_eq_getElem_cons h]
      show l = l.take a ++ [l[a]] ++ l.drop (a + 1)
      rw [List.append_assoc]
      conv => lhs; rw [← List.take_append_drop a l, List.drop_eq_getElem_cons h]
      rfl
    · rw [List.drop_eq_nil_of_le h, List.drop_eq_nil_of_le (by omega), List.take_of_length_le h]; simp [sortRev]
  have hcl : cur.length = l.length := by
    rw [hc]
    simp only [List.length_append, List.length_reverse, sortRev_len, List.length_take, List.length_drop]; omega
  refine walk (hQ := ?_)
  refine W_if (ht := fun h1 => ?_) (hf := fun h1 => ?_)
  · have hil : i < l.length := by omega
    have hseg : (l.drop a).take (i + 1 - a) = (l.drop a).take (i - a) ++ [l[i]] := by
      rw [show i + 1 - a = (i - a) + 1 by omega, List.take_succ_eq_append_getElem (by rw [List.length_drop]; omega)]
      congr 2
      rw [List.getElem_drop]
      congr 1; omega
    have hrl : (sortRev c ((l.drop a).take (i - a))).length = i - a := by rw [sortRev_len, List.length_take, List.length_drop]; omega
    have hDr : ∀ z ∈ sortRev c ((l.drop a).take (i - a)), D z := fun z hz => by
      rw [sortRev_mem] at hz
      exact hD z (List.mem_of_mem_drop (List.mem_of_mem_take hz))
    have hDx : D l[i] := hD _ (List.getElem_mem hil)
    have hnext : sortRev c ((l.drop a).take (i + 1 - a)) = insRev c l[i] (sortRev c ((l.drop a).take (i - a))) := by rw [hseg, sortRev_snoc]
    have hdrop : l.drop i = l[i] :: l.drop (i + 1) := List.drop_eq_getElem_cons hil
    rw [hdrop] at hc
    generalize sortRev c ((l.drop a).take (i - a)) = r at *
    generalize l[i] = x at *
    have hTA : (l.take a).length = a := by rw [List.length_take]; omega
    refine walk (hQ := ?_)
    refine Lp.intro4 (fun (cu : List Int) (rem mv : List Int) (j : Nat) => ⟨[(0, .one (.own 1000 1 l.length)), (1, vI a), (2, vI b), (3, vP (.clo f caps)), (8, vI i), (9, vI j)], [(1000, (.pu 3 (cu.flatMap eI), false))], 0⟩) (fun cu rem mv j => j = a + rem.length ∧ j ≤ i ∧ cu = l.take a ++ rem.reverse ++ x :: mv ++ l.drop (i + 1) ∧ insRev c x r = mv.reverse ++ insRev c x rem ∧ (∀ z ∈ rem, D z) ∧ rem.length + mv.length = i - a) (fun cu rem mv j => j) cur r [] i ⟨by omega, by omega, by rw [hc]; simp, by simp, hDr, by simp [hrl]⟩ (h0 := le_auto) (hr := fun cu rem mv j K2 ⟨hj, hji, hcu, hins, hDm, hlen⟩ hK2 => ?_)
    have hcul : cu.length = l.length := by
      rw [hcu]
      simp only [List.length_append, List.length_reverse, List.length_cons, List.length_drop, hTA]; omega
    cases rem with
    | nil =>
      simp only [List.length_nil, Nat.add_zero] at hj
      refine walk (hQ := ?_)
      refine R_g_if (h1 := fun h2 => ?_) (h2 := fun h2 => ?_) <;> simp only [Bool.false_eq_true, if_false, if_true, Decidable.not_not] at h2
      · exfalso; omega
      refine walk (hQ := ?_)
      refine hK _ cu (i + 1) ⟨by omega, by omega, (fun _ => by omega), ?_⟩ (by omega) le_auto
      rw [hcu, hnext, hins]; simp [insRev]
    | cons y rem =>
      simp only [List.length_cons] at hj hlen
      have hP : l.take a ++ (y :: rem).reverse ++ x :: mv ++ l.drop (i + 1) = (l.take a ++ rem.reverse) ++ y :: x :: (mv ++ l.drop (i + 1)) := by simp
      rw [hP] at hcu
      obtain ⟨o1, o2, o3⟩ := swap_ops (P := l.take a ++ rem.reverse) (M := mv ++ l.drop (i + 1)) (x := x) (y := y) (j := j) (by rw [List.length_append, hTA, List.length_reverse]; omega)
      rw [← hcu] at o1 o2 o3
      have k1 := hp x y hDx (hDm y (by simp))
      have e1 : ((j : Int) - 1).toNat = j - 1 := by omega
      refine walk (hQ := ?_)
      refine R_g_if (h1 := fun h2 => ?_) (h2 := fun h2 => ?_) <;> simp only [Bool.false_eq_true, if_false, if_true, Decidable.not_not] at h2
      · refine walk (hQ := ?_)
        rw [e1, o1, o2]
        refine R_call k1 (caps := caps) (hK := ?_)
        refine walk (hQ := ?_)
        refine W_if (ht := fun h3 => ?_) (hf := fun h3 => ?_)
        · have hins2 : insRev c x (y :: rem) = y :: insRev c x rem := by rw [insRev, if_pos h3]
          refine walk (hQ := ?_)
          rw [o1, e1, o2]
          refine walk (hQ := ?_)
          rw [o3]
          refine hK2 _ (l.take a ++ rem.reverse ++ x :: y :: (mv ++ l.drop (i + 1))) rem (y :: mv) (j - 1) ⟨by omega, by omega, by simp, by rw [hins, hins2]; simp, fun z hz => hDm z (by simp [hz]), by rw [List.length_cons]; omega⟩ (by omega) le_auto
        · have hins2 : insRev c x (y :: rem) = x :: y :: rem := by rw [insRev, if_neg h3]
          refine walk (hQ := ?_)
          refine hK _ cu (i + 1) ⟨by omega, by omega, (fun _ => by omega), ?_⟩ (by omega) le_auto
          rw [hcu, hnext, hins, hins2]; simp
      · exfalso; omega
  · have hfin : cur = insB c a b l := by
      rcases Nat.lt_or_ge a b with h | h
      · have := hib h
        obtain rfl : i = b := by omega
        exact hc
      · obtain rfl : a = b := by omega
        rw [hie rfl]
        unfold insB
        rw [Nat.sub_self, List.take_zero]
        exact (by simp [sortRev])
    rw [← hfin] at hR
    refine walk (hQ := ?_)
    exact hR _ (retS0 (hle := ⟨rfl, trivial⟩))
set_option maxHeartbeats 4000000 in
theorem s_StabS (f : FuncId) (caps : List PV) (c : Int → Int → Int) (D : Int → Prop) (hp : ∀ x y, D x → D y → Spc X f ([.one (.int .i64 x), .one (.int .i64 y)] ++ caps.map PA.one) (.one (.int .i64 (c x y)))) (l : List Int) (hl : l.length < 20) (hD : ∀ x ∈ l, D x) :
    SpcS X 79 [.one (.own 1000 1 l.length), vI l.length, vP (.clo f caps)] [(1000, (.pu 3 (l.flatMap eI), false))] (.tup []) [(1000, (.pu 3 (((sortRev c l).reverse).flatMap eI), false))] := by
  have hfin : insB c 0 l.length l = (sortRev c l).reverse := by
    unfold insB; simp
  have k1 := s_InsC f caps c D hp l 0 l.length (Nat.zero_le _) (Nat.le_refl _) (by omega) hD
  rw [hfin] at k1
  have hlr : ((sortRev c l).reverse).length = l.length := by rw [List.length_reverse, sortRev_len]
  generalize (sortRev c l).reverse = r at *
  refine SpcS.start 0 Tryz.func79 rfl (h := fun hs hs2 R hR => ?_)
  unfold Tryz.f79
  simp only [entryV]
  refine walk (hQ := ?_)
  refine Lp.intro (fun (i : Nat) => ⟨[(0, .one (.own 1000 1 l.length)), (1, vI l.length), (2, vP (.clo f caps)), (6, vI 20), (7, vI 0), (8, vI 20)], [(1000, (.pu 3 (l.flatMap eI), false))], 0⟩) (fun i => True) (fun i => 0) 0 trivial (h0 := le_auto) (hr := fun i K _ hK => ?_)
  refine walk (hQ := ?_)
  refine W_if (ht := fun h1 => ?_) (hf := fun h1 => ?_)
  · exfalso; omega
  clear hK
  refine walk (hQ := ?_)
  refine R_callM k1 (hK := ?_)
  refine walk (hQ := ?_)
  refine Lp.intro (fun (i : Nat) => ⟨[(0, .one (.own 1000 1 l.length)), (1, vI l.length), (2, vP (.clo f caps)), (6, vI 20)], [(1000, (.pu 3 (r.flatMap eI), false))], 0⟩) (fun i => True) (fun i => 0) 0 trivial (h0 := le_auto) (hr := fun i K _ hK => ?_)
  refine walk (hQ := ?_)
  refine W_if (ht := fun h2 => ?_) (hf := fun h2 => ?_)
  · exfalso; omega
  refine walk (hQ := ?_)
  exact hR _ (retS0 (hle := ⟨rfl, trivial⟩))
theorem s_SortStS (f : FuncId) (caps : List PV) (c : Int → Int → Int) (D : Int → Prop) (hp : ∀ x y, D x → D y → Spc X f ([.one (.int .i64 x), .one (.int .i64 y)] ++ caps.map PA.one) (.one (.int .i64 (c x y)))) (l : List Int) (hl : l.length < 20) (hD : ∀ x ∈ l, D x) :
    SpcS X 54 [.one (.own 1000 1 l.length), vP (.clo f caps)] [(1000, (.pu 3 (l.flatMap eI), false))] (.tup []) [(1000, (.pu 3 (((sortRev c l).reverse).flatMap eI), false))] := by
  have k1 := s_StabS f caps c D hp l hl hD
  generalize (sortRev c l).reverse = r at *
  refine SpcS.start 0 Tryz.func54 rfl (h := fun hs hs2 R hR => ?_)
  unfold Tryz.f54
  simp only [entryV]
  refine walk (hQ := ?_)
  refine R_callM k1 (hK := ?_)
  refine walk (hQ := ?_)
  exact hR _ (retS0 (hle := ⟨rfl, trivial⟩))
theorem s_isNaNi (x : Int) : Spc X 80 [.one (.int .i64 x)] (.one (.bool false)) := by
  refine Spc.start Tryz.func80 rfl (h := fun hs R hR => ?_)
  unfold Tryz.f80
  simp only [entryE, PA.av]
  rw [show false = decide (¬ x = x) by simp] at hR
  refine walk (hQ := ?_)
  exact hR _ (ret1 (hp := rfl))
def cmpI (x y : Int) : Int := if x < y then -1 else if y < x then 1 else 0
theorem s_Compare (x y : Int) : Spc X 56 [.one (.int .i64 x), .one (.int .i64 y)] (.one (.int .i64 (cmpI x y))) := by
  refine Spc.start Tryz.func56 rfl (h := fun hs R hR => ?_)
  unfold Tryz.f56
  simp only [entryE, PA.av]
  unfold cmpI at hR
  repeat' (first | refine R_call (s_isNaNi x) (hK := ?_) | refine R_call (s_isNaNi y) (hK := ?_) | refine walkP (hQ := ?_) | refine W_if (ht := fun h => ?_) (hf := fun h => ?_) | refine W_ifb (ht := fun h => ?_) (hf := fun h => ?_) | (refine R_g_if (h1 := fun h => ?_) (h2 := fun h => ?_) <;> simp only [Bool.false_eq_true, if_false, if_true, Decidable.not_not] at h))
  all_goals refine hR _ (ret1 (hp := ?_))
  all_goals (congr 2; grind)
theorem t_Top1 (ks : List (List UInt8)) (cs : List Int) (i j : Int) (hi : 0 ≤ i ∧ i < cs.length) (hj : 0 ≤ j ∧ j < cs.length) : Spc X 55 ([.one (.int .i64 i), .one (.int .i64 j)] ++ [PV.pt [slc eS ks, slc eI cs] 0].map PA.one) (.one (.int .i64 (cmpI (cs.getD j.toNat 0) (cs.getD i.toNat 0)))) := by
  refine Spc.start Tryz.func55 rfl (h := fun hs R hR => ?_)
  unfold Tryz.f55
  simp only [entryE, PA.av]
  obtain ⟨a, rfl⟩ := Int.eq_ofNat_of_zero_le hi.1
  obtain ⟨b, rfl⟩ := Int.eq_ofNat_of_zero_le hj.1
  rw [Int.toNat_natCast, Int.toNat_natCast] at hR
  have k1 := s_Compare (cs.getD b 0) (cs.getD a 0)
  simp only [List.map_cons, List.map_nil, List.cons_append, List.nil_append]
  refine walk (hQ := ?_)
  refine R_ldPt (p := slc eI cs) (hK := ?_)
  refine walk (hQ := ?_)
  refine R_ldPt (p := slc eI cs) (hK := ?_)
  refine walk (hQ := ?_)
  refine R_call k1 (hK := ?_)
  refine walk (hQ := ?_)
  exact hR _ (ret1 (hp := rfl))
/-- The order of the counts, the greatest one first. -/
def cmpC (cs : List Int) (i j : Int) : Int := cmpI (cs.getD j.toNat 0) (cs.getD i.toNat 0)
def idxI (n : Nat) : List Int := (List.range n).map fun (i : Nat) => (i : Int)
def topP (t : Tal) (k : Int) : List (List UInt8) := (((sortRev (cmpC t.cs) (idxI t.ks.length)).reverse).take (max 0 (min k t.ks.length)).toNat).map fun i => t.ks.getD i.toNat []
theorem idxI_len (n : Nat) : (idxI n).length = n := by simp [idxI]
theorem t_TopS (t : Tal) (k : Int) (hl : t.ks.length = t.cs.length) (hn : t.ks.length < 20) : Spc X 22 [.agg (eTl t), .one (.int .i64 k)] (.one (slc eS (topP t k))) := by
  refine Spc.start Tryz.func22 rfl (h := fun hs R hR => ?_)
  unfold Tryz.f22
  simp only [entryE, PA.av]
  unfold topP at hR
  obtain ⟨ks, cs⟩ := t
  simp only [eTl] at *
  have hDI : ∀ x ∈ idxI ks.length, 0 ≤ x ∧ x < cs.length := fun x hx => by
    obtain ⟨m, hm, rfl⟩ := List.mem_map.1 hx
    have := List.mem_range.1 hm
    omega
  have k1 := s_SortStS 55 [.pt [slc eS ks, slc eI cs] 0] (cmpC cs) (fun x => 0 ≤ x ∧ x < cs.length) (fun x y hx hy => t_Top1 ks cs x y hx hy) (idxI ks.length) (by rw [idxI_len]; exact hn) hDI
  rw [idxI_len] at k1
  have hsl : ((sortRev (cmpC cs) (idxI ks.length)).reverse).length = ks.length := by rw [List.length_reverse, sortRev_len, idxI_len]
  have hsm : ∀ x ∈ ((sortRev (cmpC cs) (idxI ks.length)).reverse), 0 ≤ x ∧ x < cs.length := fun x hx => by
    rw [List.mem_reverse, sortRev_mem] at hx; exact hDI x hx
  generalize (sortRev (cmpC cs) (idxI ks.length)).reverse = SO at *
  refine walk (hQ := ?_)
  refine Lp.intro2 (fun (L : List Int) (i : Nat) => ⟨[(1, vI k), (2, .one (.ptr 0 0)), (5, .one (.own 1 1 ks.length)), (15, vI ks.length), (16, vI i)], [(0, (.mx [.pv (slc eS ks), .pv (slc eI cs)], false)), (1, (.pu 3 (L.flatMap eI), false))], 2⟩) (fun L i => i ≤ ks.length ∧ L.length = ks.length ∧ ∀ j, j < i → L.getD j 0 = (j : Int)) (fun L i => ks.length - i) (List.replicate ks.length 0) 0 ⟨Nat.zero_le _, by simp, fun j hj => by omega⟩ (h0 := le_auto) (hr := fun L i K ⟨hi, hL, ho⟩ hK => ?_)
  refine walk (hQ := ?_)
  refine W_if (ht := fun h1 => ?_) (hf := fun h1 => ?_)
  · have hil : i < ks.length := by omega
    refine walk (hQ := ?_)
    exact hK _ (L.set i (i : Int)) (i + 1) ⟨by omega, by rw [List.length_set]; exact hL, fun j hj => by
      rw [List.getD_eq_getElem?_getD, List.getElem?_set]
      by_cases h : i = j
      · subst h; rw [if_pos rfl, if_pos (by omega)]; rfl
      · rw [if_neg h, ← List.getD_eq_getElem?_getD]; exact ho j (by omega)⟩ (by omega) le_auto
  · have hLi : L = idxI ks.length := listI_ext (by rw [hL, idxI_len]) fun j hj => by
      rw [ho j (by omega)]
      unfold idxI
      rw [List.getD_eq_getElem?_getD, List.getElem?_map, List.getElem?_range (by omega)]; rfl
    subst hLi
    clear hK ho
    refine walk (hQ := ?_)
    refine R_callM k1 (hv := .cons (.tmp rfl) (VA.clo1 (id := 0) rfl (VL.pvs (ps := [slc eS ks, slc eI cs]) rfl)) .nil) (hK := ?_)
    refine walk (hQ := ?_)
    have hm : (max 0 (min k (ks.length : Int))).toNat ≤ ks.length := by omega
    generalize (max 0 (min k (ks.length : Int))).toNat = m at *
    refine Lp.intro2 (fun (out : List (List UInt8)) (i : Nat) => ⟨[(2, .one (.ptr 0 0)), (7, .one (.own 2 1 out.length)), (33, .one (.own 1 1 m)), (34, vI m), (35, vI i)], [(0, (.mx [.pv (slc eS ks), .pv (slc eI cs)], true)), (1, (.pu 3 (SO.flatMap eI), false)), (2, (.pu 9 (out.flatMap eS), false))], 3⟩) (fun out i => i ≤ m ∧ out = (SO.take i).map fun i => ks.getD i.toNat []) (fun out i => m - i) [] 0 ⟨Nat.zero_le _, rfl⟩ (h0 := le_ghost1 2 9 (hle := le_auto)) (hr := fun out i K ⟨hi, ho⟩ hK => ?_)
    have hol : out.length = i := by rw [ho, List.length_map, List.length_take]; omega
    refine walk (hQ := ?_)
    refine W_if (ht := fun h2 => ?_) (hf := fun h2 => ?_)
    · have hil : i < SO.length := by omega
      have hx := hsm (SO.getD i 0) (by rw [List.getD_eq_getElem?_getD, List.getElem?_eq_getElem hil]; exact List.getElem_mem hil)
      have hnx : (SO.take (i + 1)).map (fun i => ks.getD i.toNat []) = (SO.take i).map (fun i => ks.getD i.toNat []) ++ [ks.getD (SO.getD i 0).toNat []] := by
        rw [List.take_succ_eq_append_getElem hil, List.map_append, List.getD_eq_getElem?_getD (l := SO), List.getElem?_eq_getElem hil]; rfl
      refine walk (hQ := ?_)
      refine hK _ (out ++ [ks.getD (SO.getD i 0).toNat []]) (i + 1) ⟨by omega, by rw [hnx, ho]⟩ (by omega) le_autoL
    · obtain rfl : i = m := by omega
      rw [← ho] at hR
      refine walk (hQ := ?_)
      exact hR _ (ret1 (hp := rfl))
end Go.VS.YtlmioegjeocaaaaGreatDoor


namespace Go.VS.YtlmioegjeocaaaaGreatDoor
open Go Go.VL Go.VN Go.RowKit Go.Proofs
set_option maxRecDepth 100000
set_option linter.unusedVariables false
set_option linter.unusedSimpArgs false
theorem s_EqualS (a b : List (List UInt8)) : Spc X 21 [.one (slc eS a), .one (slc eS b)] (.one (.bool (decide (a = b)))) := by
  refine Spc.start Tryz.func21 rfl (h := fun hs R hR => ?_)
  unfold Tryz.f21
  simp only [entryE, PA.av]
  have la := (sane_slc hs.1).1
  have lb := (sane_slc hs.2.1).1
  refine walk (hQ := ?_)
  refine W_if (ht := fun h1 => ?_) (hf := fun h1 => ?_)
  · rw [decide_eq_false (fun h => h1 (by rw [h]))] at hR
    refine walk (hQ := ?_)
    exact hR _ (ret1 (hp := rfl))
  have hll : a.length = b.length := by omega
  refine walk (hQ := ?_)
  refine Lp.intro (fun (i : Nat) => ⟨[(0, vP (slc eS a)), (1, vP (slc eS b)), (12, vI a.length), (13, vI i)], [], 0⟩) (fun i => i ≤ a.length ∧ ∀ j, j < i → a.getD j [] = b.getD j []) (fun i => a.length - i) 0 ⟨Nat.zero_le _, fun j hj => by omega⟩ (h0 := le_auto) (hr := fun i K ⟨hi, ho⟩ hK => ?_)
  refine walk (hQ := ?_)
  refine W_if (ht := fun h2 => ?_) (hf := fun h2 => ?_)
  · have hia : i < a.length := by omega
    refine walk (hQ := ?_)
    refine W_if (ht := fun h3 => ?_) (hf := fun h3 => ?_)
    · rw [decide_eq_false (fun h => h3 (by rw [h]))] at hR
      refine walk (hQ := ?_)
      exact hR _ (ret1 (hp := rfl))
    · refine walk (hQ := ?_)
      exact hK _ (i + 1) ⟨by omega, fun j hj => by
        rcases Nat.lt_or_ge j i with h | h
        · exact ho j h
        · obtain rfl : j = i := by omega
          simpa using h3⟩ (by omega) le_auto
  · rw [decide_eq_true (listS_ext hll fun j hj => ho j (by omega))] at hR
    refine walk (hQ := ?_)
    exact hR _ (ret1 (hp := rfl))
def aT1 : Tal := ⟨[[97, 47, 98]], [2]⟩
def aT2 : Tal := ⟨[[97], [97, 47, 98]], [1, 2]⟩
def aT3 : Tal := ⟨[[97], [97, 47, 98], [97, 47, 99]], [1, 2, 3]⟩
def aT4 : Tal := ⟨[[97]], [6]⟩
theorem aw1 : addR zT [97, 47, 98] 2 = (aT1, 0) := by decide +kernel
theorem aw2 : addR aT1 [97] 1 = (aT2, 0) := by decide +kernel
theorem aw3 : addR aT2 [97, 47, 99] 3 = (aT3, 0) := by decide +kernel
theorem aw4 : prjR aT3 1 = (aT4, 0) := by decide +kernel
theorem aw5 : fmtR aT3 = ([97, 32, 49, 10, 97, 47, 98, 32, 50, 10, 97, 47, 99, 32, 51, 10], 0) := by decide +kernel
theorem aw6 : totL (underB [97]) (toL aT3) = 6 := by decide +kernel
theorem aw7 : topP aT3 2 = [[97, 47, 99], [97, 47, 98]] := by decide +kernel
theorem l_awake : Spc X 11 [] (.one (.bool true)) := by
  refine Spc.start Tryz.func11 rfl (h := fun hs R hR => ?_)
  unfold Tryz.f11
  simp only [entryE]
  have k1 := t_Add zT [97, 47, 98] 2
  have k2 := t_Add aT1 [97] 1
  have k3 := t_Add aT2 [97, 47, 99] 3
  have k4 := t_Project aT3 1
  have k5 := t_Format aT3
  have k6 := r_Same aT3 aT3
  have k7 := t_Total (toL aT3) [97] (by decide) (by decide) (by decide)
  have k8 := t_TopS aT3 2 rfl (by decide)
  have k9 := s_EqualS [[97, 47, 99], [97, 47, 98]] [[97, 47, 99], [97, 47, 98]]
  have k10 := r_Same aT4 aT4
  rw [aw1] at k1
  rw [aw2] at k2
  rw [aw3] at k3
  rw [aw4] at k4
  rw [aw5] at k5
  rw [aw6, show tlT (toL aT3) = aT3 from rfl] at k7
  rw [aw7] at k8
  rw [decide_eq_true rfl] at k6 k9 k10
  refine walk (hQ := ?_)
  refine R_call k1 (hK := ?_)
  refine walk (hQ := ?_)
  refine R_call k2 (hK := ?_)
  refine walk (hQ := ?_)
  refine R_call k3 (hK := ?_)
  refine walk (hQ := ?_)
  refine R_call k4 (hK := ?_)
  refine walk (hQ := ?_)
  refine R_call k5 (hK := ?_)
  refine walk (hQ := ?_)
  refine R_callP (ids' := [2, 3]) k6 (hK := ?_)
  refine walk (hQ := ?_)
  refine R_call k7 (hK := ?_)
  refine walk (hQ := ?_)
  refine R_call k8 (hK := ?_)
  refine walk (hQ := ?_)
  refine R_callP (ids' := [4]) k9 (hK := ?_)
  refine walk (hQ := ?_)
  refine R_callP (ids' := [5, 6]) k10 (hK := ?_)
  refine walk (hQ := ?_)
  exact hR _ (ret1 (hp := rfl))
end Go.VS.YtlmioegjeocaaaaGreatDoor


namespace Go.VS.YtlmioegjeocaaaaGreatDoor
open Go Go.VL Go.VN Go.RowKit Go.Proofs
set_option maxRecDepth 100000
set_option linter.unusedVariables false
set_option linter.unusedSimpArgs false
abbrev DTl := ((Dec.sl Dec.str (b := 16)).pair (Dec.sl Dec.i64 (b := 8))).map (γ := Tal) (f := eTl) (C := fun t => ∀ s ∈ t.ks, s.length ≤ 140737488355328) (fun x h => ⟨⟨x.1, x.2⟩, rfl, fun s hs => by have := h.1.2 s hs; omega⟩)
theorem few_len {t : Tal} (h : fewT t = true) : t.ks.length ≤ 2010 ∧ t.cs.length ≤ 2020 := by
  unfold fewT at h
  split at h
  · cases h
  · rename_i h1; omega
theorem addR_ok {t : Tal} {k : List UInt8} {n : Int} (h : (addR t k n).2 = 0) : ∃ l, t = tlT l ∧ VT l ∧ keyE k = 0 ∧ 0 ≤ n ∧ n ≤ 1000000 ∧ gt l k + n ≤ 1000000 ∧ (setT l k (gt l k + n)).length ≤ 2000 ∧ addR t k n = (tlT (setT l k (gt l k + n)), 0) := by
  unfold addR at *
  split at h
  · contradiction
  · rename_i h1
    obtain ⟨⟨l, rfl, hv⟩, hk, h0, h2⟩ := givE_0 (by simpa using h1)
    rw [toL_tlT] at *
    split at h
    · cases h
    · rename_i h3
      exact ⟨l, rfl, hv, hk, h0, h2, by omega, by omega, by rw [if_neg h1, if_neg h3]⟩
theorem remR_ok {t : Tal} {k : List UInt8} {n : Int} (h : (remR t k n).2 = 0) : ∃ l, t = tlT l ∧ VT l ∧ keyE k = 0 ∧ 0 ≤ n ∧ n ≤ gt l k ∧ remR t k n = (tlT (setT l k (gt l k - n)), 0) := by
  unfold remR at *
  split at h
  · contradiction
  · rename_i h1
    obtain ⟨⟨l, rfl, hv⟩, hk, h0, h2⟩ := givE_0 (by simpa using h1)
    rw [toL_tlT] at *
    split at h
    · cases h
    · rename_i h3
      exact ⟨l, rfl, hv, hk, h0, by omega, by rw [if_neg h1, if_neg h3]⟩
set_option maxHeartbeats 4000000 in
theorem law_Counts (t : Tal) (key : List UInt8) (n : Int) (hb : ∀ s ∈ t.ks, s.length ≤ 140737488355328) : Spc X 5 [.agg (eTl t), .one (.str key), .one (.int .i64 n)] (.one (.bool true)) := by
  refine Spc.start Tryz.func5 rfl (h := fun hs R hR => ?_)
  unfold Tryz.f5
  simp only [entryE, PA.av]
  have k0 := l_awake
  have k1 := r_Few t hb
  cases hf : fewT t with
  | false =>
    rw [hf] at k1
    obtain ⟨ks, cs⟩ := t
    simp only [eTl] at *
    refine walk (hQ := ?_)
    refine R_call k0 (hK := ?_)
    refine walk (hQ := ?_)
    refine R_call k1 (hK := ?_)
    refine walk (hQ := ?_)
    refine R_call k0 (hK := ?_)
    refine walk (hQ := ?_)
    exact hR _ (ret1 (hp := rfl))
  | true =>
    rw [hf] at k1
    obtain ⟨hl1, hl2⟩ := few_len hf
    have k2 := l_copied t (by omega) (by omega)
    have k3 := t_Add t key n
    have k4 := r_Add t key n
    have k5 := t_Remove t key n
    have k6 := r_Remove t key n
    have k7 := t_Valid t
    have k8 := r_Valid t
    have k9 := r_Same (addR t key n).1 (addR t key n).1
    have k10 := r_Same (remR t key n).1 (remR t key n).1
    rw [decide_eq_true rfl] at k9 k10
    have g1 : (addR t key n).2 = 0 → ∃ g : Int, -20000000000 ≤ g ∧ g ≤ 20000000000 ∧ Spc X 24 [.agg (eTl (addR t key n).1), .one (.str key)] (.one (.int .i64 (g + n))) ∧ Spc X 25 [.agg (eTl t), .one (.str key)] (.one (.int .i64 g)) := fun h => by
      obtain ⟨l, rfl, hv, hk, h0, h1, h2, h3, h4⟩ := addR_ok h
      have hgn := gt_nn hv.pos key
      have q := t_Get (setT l key (gt l key + n)) key (set_SK hv.2.1 _ _) (by omega)
      rw [set_gt hv.2.1, if_pos rfl] at q
      exact ⟨gt l key, by omega, by omega, by rw [h4]; exact q, r_Get l key⟩
    have g2 : (remR t key n).2 = 0 → ∃ g : Int, -20000000000 ≤ g ∧ g ≤ 20000000000 ∧ Spc X 24 [.agg (eTl (remR t key n).1), .one (.str key)] (.one (.int .i64 (g - n))) ∧ Spc X 25 [.agg (eTl t), .one (.str key)] (.one (.int .i64 g)) := fun h => by
      obtain ⟨l, rfl, hv, hk, h0, h1, h4⟩ := remR_ok h
      have hgn := gt_nn hv.pos key
      have hgb := gt_le (l := l) (b := 1000000) (by omega) hv.le key
      have hvl := hv.1
      have hsl := set_len hv.2.1 key (gt l key - n)
      have q := t_Get (setT l key (gt l key - n)) key (set_SK hv.2.1 _ _) (by omega)
      rw [set_gt hv.2.1, if_pos rfl] at q
      exact ⟨gt l key, by omega, by omega, by rw [h4]; exact q, r_Get l key⟩
    have nb : (addR t key n).2 = 0 ∨ (remR t key n).2 = 0 → 0 ≤ n ∧ n ≤ 1000000 := fun h => by
      rcases h with h | h
      · obtain ⟨l, rfl, hv, hk, h0, h1, _⟩ := addR_ok h; exact ⟨h0, h1⟩
      · obtain ⟨l, rfl, hv, hk, h0, h1, _⟩ := remR_ok h
        have hgb := gt_le (l := l) (b := 1000000) (by omega) hv.le key
        exact ⟨h0, by omega⟩
    generalize addR t key n = A at *
    generalize remR t key n = B at *
    generalize validE t = V at *
    obtain ⟨⟨aks, acs⟩, ae⟩ := A
    obtain ⟨⟨bks, bcs⟩, be⟩ := B
    obtain ⟨ks, cs⟩ := t
    simp only [eTl, taR] at *
    refine walk (hQ := ?_)
    refine R_call k0 (hK := ?_)
    refine walk (hQ := ?_)
    refine R_call k1 (hK := ?_)
    refine walk (hQ := ?_)
    refine W_if (ht := fun h1 => ?_) (hf := fun h1 => ?_)
    · refine walk (hQ := ?_)
      refine R_call k0 (hK := ?_)
      refine walk (hQ := ?_)
      exact hR _ (ret1 (hp := rfl))
    refine walk (hQ := ?_)
    refine R_call k2 (hK := ?_)
    refine walk (hQ := ?_)
    refine R_call k3 (hK := ?_)
    refine walk (hQ := ?_)
    refine R_call k4 (hK := ?_)
    refine walk (hQ := ?_)
    refine R_call k2 (hK := ?_)
    refine walk (hQ := ?_)
    refine R_call k5 (hK := ?_)
    refine walk (hQ := ?_)
    refine R_call k6 (hK := ?_)
    refine walk (hQ := ?_)
    refine R_call k2 (hK := ?_)
    refine walk (hQ := ?_)
    refine R_call k7 (hK := ?_)
    refine walk (hQ := ?_)
    refine R_call k8 (hK := ?_)
    repeat' (first | refine R_call k9 (hK := ?_) | refine R_call k10 (hK := ?_) | refine walkP (hQ := ?_) | refine W_if (ht := fun h => ?_) (hf := fun h => ?_) | refine W_ifb (ht := fun h => ?_) (hf := fun h => ?_) | (refine R_g_if (h1 := fun h => ?_) (h2 := fun h => ?_) <;> simp only [Bool.false_eq_true, if_false, if_true, Decidable.not_not] at h))
    all_goals try (exfalso; first | omega | exact (by assumption : ¬ True) trivial)
    · obtain ⟨g, gl, gh, q1, q2⟩ := g1 h
      have hn := nb (.inl h)
      refine R_call q1 (hK := ?_)
      refine walk (hQ := ?_)
      refine R_call q2 (hK := ?_)
      repeat' (first | refine walkP (hQ := ?_) | refine W_if (ht := fun h => ?_) (hf := fun h => ?_) | refine W_ifb (ht := fun h => ?_) (hf := fun h => ?_) | (refine R_g_if (h1 := fun h => ?_) (h2 := fun h => ?_) <;> simp only [Bool.false_eq_true, if_false, if_true, Decidable.not_not] at h))
      all_goals try (exfalso; first | omega | exact (by assumption : ¬ True) trivial)
      · rename_i h'
        obtain ⟨g, gl, gh, q1, q2⟩ := g2 h
        refine R_call q1 (hK := ?_)
        refine walk (hQ := ?_)
        refine R_call q2 (hK := ?_)
        repeat' (first | refine walkP (hQ := ?_) | refine W_if (ht := fun h => ?_) (hf := fun h => ?_) | refine W_ifb (ht := fun h => ?_) (hf := fun h => ?_) | (refine R_g_if (h1 := fun h => ?_) (h2 := fun h => ?_) <;> simp only [Bool.false_eq_true, if_false, if_true, Decidable.not_not] at h))
        all_goals try (exfalso; first | omega | exact (by assumption : ¬ True) trivial)
        refine hR _ (ret1 (hp := ?_))
        simp
      · refine hR _ (ret1 (hp := ?_))
        simp
    · obtain ⟨g, gl, gh, q1, q2⟩ := g2 h
      have hn := nb (.inr h)
      refine R_call q1 (hK := ?_)
      refine walk (hQ := ?_)
      refine R_call q2 (hK := ?_)
      repeat' (first | refine walkP (hQ := ?_) | refine W_if (ht := fun h => ?_) (hf := fun h => ?_) | refine W_ifb (ht := fun h => ?_) (hf := fun h => ?_) | (refine R_g_if (h1 := fun h => ?_) (h2 := fun h => ?_) <;> simp only [Bool.false_eq_true, if_false, if_true, Decidable.not_not] at h))
      all_goals try (exfalso; first | omega | exact (by assumption : ¬ True) trivial)
      refine hR _ (ret1 (hp := ?_))
      simp
    · refine hR _ (ret1 (hp := ?_))
      simp
end Go.VS.YtlmioegjeocaaaaGreatDoor


namespace Go.VL
open Go.VN
set_option linter.unusedVariables false
set_option linter.unusedSimpArgs false
theorem VT_mrg {A B : TL} (hA : VT A) (hB : VT B) (hl : largeL (mrg A B) = false) : VT (mrg A B) := by
  unfold largeL at hl
  rw [Bool.or_eq_false_iff] at hl
  refine ⟨by have := of_decide_eq_false hl.1; omega, mrg_SK A B hA.2.1 hB.2.1, fun x hx => ⟨?_, mrg_Pos A B hA.pos hB.pos x hx, ?_⟩⟩
  · rcases mrg_mem A B x hx with h | h
    · obtain ⟨y, hy, e⟩ := List.mem_map.1 h
      rw [← e]; exact (hA.2.2 y hy).1
    · obtain ⟨y, hy, e⟩ := List.mem_map.1 h
      rw [← e]; exact (hB.2.2 y hy).1
  · have := List.any_eq_false.1 hl.2 x hx
    simp only [decide_eq_true_eq] at this
    omega
theorem mrg_comm {A B : TL} (hA : VT A) (hB : VT B) : mrg B A = mrg A B :=
  tl_ext (mrg_SK B A hB.2.1 hA.2.1) (mrg_SK A B hA.2.1 hB.2.1) (mrg_Pos B A hB.pos hA.pos) (mrg_Pos A B hA.pos hB.pos) fun k => by
    rw [mrg_gt B A hB.2.1 hA.2.1, mrg_gt A B hA.2.1 hB.2.1]; omega
theorem min_mrg {A B : TL} (hA : VT A) (hB : VT B) : minL (mrg A B) B = A := by
  have hM := mrg_SK A B hA.2.1 hB.2.1
  have hP := mrg_Pos A B hA.pos hB.pos
  refine tl_ext (minL_SK hM) hA.2.1 (minL_Pos _ _) hA.pos fun k => ?_
  rw [minL_gt hM hP hB.pos (fun k => by rw [mrg_gt A B hA.2.1 hB.2.1]; have := gt_nn hA.pos k; omega), mrg_gt A B hA.2.1 hB.2.1]; omega
theorem mrgR_ok {a b : Tal} (h : (mrgR a b).2 = 0) : ∃ A B, a = tlT A ∧ b = tlT B ∧ VT A ∧ VT B ∧ VT (mrg A B) ∧ mrgR a b = (tlT (mrg A B), 0) := by
  unfold mrgR at *
  split at h
  · contradiction
  · rename_i h1
    split at h
    · contradiction
    · rename_i h2
      obtain ⟨A, rfl, hA⟩ := valid_of (show validE a = 0 by simpa using h1)
      obtain ⟨B, rfl, hB⟩ := valid_of (show validE b = 0 by simpa using h2)
      rw [toL_tlT, toL_tlT] at *
      split at h
      · cases h
      · rename_i h3
        exact ⟨A, B, rfl, rfl, hA, hB, VT_mrg hA hB (by simpa using h3), by rw [if_neg h1, if_neg h2, if_neg h3]⟩
theorem mrgR_of {A B : TL} (hA : VT A) (hB : VT B) (hM : VT (mrg A B)) : mrgR (tlT A) (tlT B) = (tlT (mrg A B), 0) := by
  unfold mrgR
  rw [if_neg (by rw [validE_VT.2 hA]; simp), if_neg (by rw [validE_VT.2 hB]; simp), toL_tlT, toL_tlT, if_neg]
  intro h
  unfold largeL at h
  rw [Bool.or_eq_true, decide_eq_true_eq, List.any_eq_true] at h
  rcases h with h | ⟨x, hx, h⟩
  · have := hM.1; omega
  · have := hM.le x hx
    simp only [decide_eq_true_eq] at h; omega
theorem minR_back {A B : TL} (hA : VT A) (hB : VT B) (hM : VT (mrg A B)) : minR (tlT (mrg A B)) (tlT B) = (tlT A, 0) := by
  unfold minR
  rw [if_neg (by rw [validE_VT.2 hM]; simp), if_neg (by rw [validE_VT.2 hB]; simp), toL_tlT, toL_tlT, if_neg, min_mrg hA hB]
  intro h
  obtain ⟨x, hx, h⟩ := List.any_eq_true.1 h
  simp only [decide_eq_true_eq] at h
  rw [mrg_gt A B hA.2.1 hB.2.1, gt_mem hB.2.1 hx] at h
  have := gt_nn hA.pos x.1
  omega
/-! ### Keys cut -/
theorem split_cut : ∀ (s : List UInt8) (p : Nat), 1 ≤ p → splitL 47 (cutP p s) = (splitL 47 s).take p
  | [], p, hp => by
    obtain ⟨q, rfl⟩ : ∃ q, p = q + 1 := ⟨p - 1, by omega⟩
    show [[]] = (([] : List UInt8) :: ([] : List (List UInt8)).take q)
    rw [List.take_nil]
  | x :: s, p, hp => by
    obtain ⟨q, rfl⟩ : ∃ q, p = q + 1 := ⟨p - 1, by omega⟩
    have ih := split_cut s
    obtain ⟨h, t, e, _⟩ := hasE_split s
    unfold splitL at *
    rw [cutP]
    by_cases hx : x = 47
    · subst hx
      rw [if_pos rfl]
      by_cases hq : q + 1 ≤ 1
      · obtain rfl : q = 0 := by omega
        rw [if_pos (by omega)]
        conv => rhs; rw [spK, if_pos rfl]
        rfl
      · rw [if_neg hq, Nat.add_sub_cancel]
        conv => lhs; rw [spK, if_pos rfl]
        conv => rhs; rw [spK, if_pos rfl]
        rw [ih q (by omega), List.take_succ_cons]
    · rw [if_neg hx]
      conv => lhs; rw [spK, if_neg hx]
      conv => rhs; rw [spK, if_neg hx]
      rw [ih (q + 1) (by omega), e, List.take_succ_cons]; rfl
theorem cut_take : ∀ (s : List UInt8) (p : Nat), ∃ n, cutP p s = s.take n
  | [], p => ⟨0, by simp [cutP]⟩
  | x :: s, p => by
    rw [cutP]
    split
    · split
      · exact ⟨0, rfl⟩
      · obtain ⟨n, h⟩ := cut_take s (p - 1)
        exact ⟨n + 1, by rw [h]; rfl⟩
    · obtain ⟨n, h⟩ := cut_take s p
      exact ⟨n + 1, by rw [h]; rfl⟩
theorem keyE_cut {s : List UInt8} {p : Nat} (hp : 1 ≤ p) (h : keyE s = 0) : keyE (cutP p s) = 0 := by
  unfold keyE at *
  split at h
  · cases h
  · split at h
    · cases h
    · split at h
      · cases h
      · rename_i h1 h2 h3
        have hl := cutP_len s p
        obtain ⟨n, hn⟩ := cut_take s p
        rw [if_neg (by omega), if_neg, if_neg]
        · rw [split_cut s p hp]
          intro hc
          exact h3 (List.contains_iff_mem.2 (List.mem_of_mem_take (List.contains_iff_mem.1 hc)))
        · rw [hn]
          intro hc
          obtain ⟨c, hc1, hc2⟩ := List.any_eq_true.1 hc
          exact h2 (List.any_eq_true.2 ⟨c, List.mem_of_mem_take hc1, hc2⟩)
theorem accR_key {c : List UInt8 → List UInt8} {P : List UInt8 → Prop} : ∀ (l T : TL), SK T → (∀ x ∈ T, P x.1) → (∀ x ∈ l, P (c x.1)) → ∀ x ∈ l.foldl (accR c) T, P x.1
  | [], T, _, hT, _ => hT
  | y :: l, T, hs, hT, hl => accR_key l _ (set_SK hs _ _) (fun x hx => by
      rcases set_mem hs hx with ⟨rfl, _⟩ | hx
      · exact hl y (by simp)
      · exact hT x hx) fun x hx => hl x (by simp [hx])
theorem accR_tot {c : List UInt8 → List UInt8} {f : List UInt8 → Bool} (hf : ∀ k, f k = true) : ∀ (l T : TL), SK T → totL f (l.foldl (accR c) T) = totL f T + totL f l
  | [], T, _ => by simp [totL]
  | (a, n) :: l, T, hs => by
    rw [List.foldl_cons, accR_tot hf l (accR c T (a, n)) (set_SK hs _ _), accR, totL_set f hs, if_pos (hf _), totL, if_pos (hf _)]; omega
theorem prjR_ok {t : Tal} {p : Int} (h : (prjR t p).2 = 0) : ∃ l, t = tlT l ∧ VT l ∧ VT (l.foldl (accR (cutP p.toNat)) []) ∧ prjR t p = (tlT (l.foldl (accR (cutP p.toNat)) []), 0) := by
  unfold prjR at *
  split at h
  · contradiction
  · rename_i h1
    split at h
    · cases h
    · rename_i h2
      obtain ⟨l, rfl, hl⟩ := valid_of (show validE t = 0 by simpa using h1)
      rw [toL_tlT] at *
      split at h
      · cases h
      · rename_i h3
        have hlen := accR_len (cutP p.toNat) l [] List.Pairwise.nil
        have hl1 := hl.1
        refine ⟨l, rfl, hl, ⟨by simp only [List.length_nil] at hlen; omega, accR_SK _ l [] List.Pairwise.nil, fun x hx => ⟨?_, accR_Pos _ l [] List.Pairwise.nil (fun x hx => by cases hx) hl.pos x hx, ?_⟩⟩, by rw [if_neg h1, if_neg h2, if_neg h3]⟩
        · exact accR_key (P := fun k => keyE k = 0) l [] List.Pairwise.nil (fun x hx => by cases hx) (fun y hy => keyE_cut (by omega) (hl.2.2 y hy).1) x hx
        · have h4 : (l.foldl (accR (cutP p.toNat)) []).any (fun x => decide (1000000 < x.2)) = false := by simpa using h3
          have := List.any_eq_false.1 h4 x hx
          simp only [decide_eq_true_eq] at this; omega
end Go.VL


namespace Go.VS.YtlmioegjeocaaaaGreatDoor
open Go Go.VL Go.VN Go.RowKit Go.Proofs
set_option maxRecDepth 100000
set_option linter.unusedVariables false
set_option linter.unusedSimpArgs false
set_option maxHeartbeats 4000000 in
theorem law_Merges (a b : Tal) (ha : ∀ s ∈ a.ks, s.length ≤ 140737488355328) (hb : ∀ s ∈ b.ks, s.length ≤ 140737488355328) : Spc X 8 [.agg (eTl a), .agg (eTl b)] (.one (.bool true)) := by
  refine Spc.start Tryz.func8 rfl (h := fun hs R hR => ?_)
  unfold Tryz.f8
  simp only [entryE, PA.av]
  have k0 := l_awake
  have k1 := r_Few a ha
  have k2 := r_Few b hb
  by_cases hf : fewT a = true ∧ fewT b = true
  · obtain ⟨f1, f2⟩ := hf
    rw [f1] at k1
    rw [f2] at k2
    obtain ⟨l1, l2⟩ := few_len f1
    obtain ⟨l3, l4⟩ := few_len f2
    have k3 := l_copied a (by omega) (by omega)
    have k4 := l_copied b (by omega) (by omega)
    have k5 := t_Merge a b
    have k6 := r_Merge a b
    have k7 := t_Minus a b
    have k8 := r_Minus a b
    have k9 := r_Same (mrgR a b).1 (mrgR a b).1
    have k10 := r_Same (minR a b).1 (minR a b).1
    have k11 := r_Same a a
    rw [decide_eq_true rfl] at k9 k10 k11
    have g : (mrgR a b).2 = 0 → Spc X 36 [.agg (eTl (mrgR a b).1), .agg (eTl b)] (taR (a, 0)) ∧ Spc X 34 [.agg (eTl b), .agg (eTl a)] (taR ((mrgR a b).1, 0)) := fun h => by
      obtain ⟨A, B, rfl, rfl, hA, hB, hM, e⟩ := mrgR_ok h
      have q1 := t_Minus (tlT (mrg A B)) (tlT B)
      have q2 := t_Merge (tlT B) (tlT A)
      rw [minR_back hA hB hM] at q1
      rw [mrgR_of hB hA (by rw [mrg_comm hA hB]; exact hM), mrg_comm hA hB] at q2
      rw [e]
      exact ⟨q1, q2⟩
    generalize mrgR a b = M at *
    generalize minR a b = N at *
    obtain ⟨⟨mks, mcs⟩, me⟩ := M
    obtain ⟨⟨nks, ncs⟩, ne⟩ := N
    obtain ⟨aks, acs⟩ := a
    obtain ⟨bks, bcs⟩ := b
    simp only [eTl, taR] at *
    refine walk (hQ := ?_)
    refine R_call k0 (hK := ?_)
    refine walk (hQ := ?_)
    refine R_call k1 (hK := ?_)
    refine walk (hQ := ?_)
    refine R_call k2 (hK := ?_)
    refine walk (hQ := ?_)
    refine R_call k3 (hK := ?_)
    refine walk (hQ := ?_)
    refine R_call k4 (hK := ?_)
    refine walk (hQ := ?_)
    refine R_call k5 (hK := ?_)
    refine walk (hQ := ?_)
    refine R_call k6 (hK := ?_)
    refine walk (hQ := ?_)
    refine R_call k3 (hK := ?_)
    refine walk (hQ := ?_)
    refine R_call k4 (hK := ?_)
    refine walk (hQ := ?_)
    refine R_call k7 (hK := ?_)
    refine walk (hQ := ?_)
    refine R_call k8 (hK := ?_)
    repeat' (first | refine R_call k9 (hK := ?_) | refine R_call k10 (hK := ?_) | refine walkP (hQ := ?_) | refine W_if (ht := fun h => ?_) (hf := fun h => ?_) | refine W_ifb (ht := fun h => ?_) (hf := fun h => ?_) | (refine R_g_if (h1 := fun h => ?_) (h2 := fun h => ?_) <;> simp only [Bool.false_eq_true, if_false, if_true, Decidable.not_not] at h))
    all_goals try (exfalso; first | omega | exact (by assumption : ¬ True) trivial)
    · refine hR _ (ret1 (hp := ?_))
      simp
    · obtain ⟨q1, q2⟩ := g (by simpa using h)
      refine R_call q1 (hK := ?_)
      refine walk (hQ := ?_)
      refine R_call q2 (hK := ?_)
      repeat' (first | refine R_call k11 (hK := ?_) | refine R_call k9 (hK := ?_) | refine walkP (hQ := ?_) | refine W_if (ht := fun h => ?_) (hf := fun h => ?_) | refine W_ifb (ht := fun h => ?_) (hf := fun h => ?_) | (refine R_g_if (h1 := fun h => ?_) (h2 := fun h => ?_) <;> simp only [Bool.false_eq_true, if_false, if_true, Decidable.not_not] at h))
      all_goals try (exfalso; first | omega | exact (by assumption : ¬ True) trivial)
      refine hR _ (ret1 (hp := ?_))
      simp
  · have hc : fewT a = false ∨ (fewT a = true ∧ fewT b = false) := by
      cases h1 : fewT a <;> cases h2 : fewT b <;> simp_all
    rcases hc with hc | ⟨hc, hd⟩
    · rw [hc] at k1
      obtain ⟨aks, acs⟩ := a
      obtain ⟨bks, bcs⟩ := b
      simp only [eTl] at *
      refine walk (hQ := ?_)
      refine R_call k0 (hK := ?_)
      refine walk (hQ := ?_)
      refine R_call k1 (hK := ?_)
      refine walk (hQ := ?_)
      refine R_call k0 (hK := ?_)
      refine walk (hQ := ?_)
      exact hR _ (ret1 (hp := rfl))
    · rw [hc] at k1
      rw [hd] at k2
      obtain ⟨aks, acs⟩ := a
      obtain ⟨bks, bcs⟩ := b
      simp only [eTl] at *
      refine walk (hQ := ?_)
      refine R_call k0 (hK := ?_)
      refine walk (hQ := ?_)
      refine R_call k1 (hK := ?_)
      refine walk (hQ := ?_)
      refine R_call k2 (hK := ?_)
      refine walk (hQ := ?_)
      refine R_call k0 (hK := ?_)
      refine walk (hQ := ?_)
      exact hR _ (ret1 (hp := rfl))
set_option maxHeartbeats 4000000 in
theorem law_Projects (t : Tal) (p : Int) (hb : ∀ s ∈ t.ks, s.length ≤ 140737488355328) : Spc X 3 [.agg (eTl t), .one (.int .i64 p)] (.one (.bool true)) := by
  refine Spc.start Tryz.func3 rfl (h := fun hs R hR => ?_)
  unfold Tryz.f3
  simp only [entryE, PA.av]
  have k0 := l_awake
  have k1 := r_Few t hb
  cases hf : fewT t with
  | false =>
    rw [hf] at k1
    obtain ⟨ks, cs⟩ := t
    simp only [eTl] at *
    refine walk (hQ := ?_)
    refine R_call k0 (hK := ?_)
    refine walk (hQ := ?_)
    refine R_call k1 (hK := ?_)
    refine walk (hQ := ?_)
    refine R_call k0 (hK := ?_)
    refine walk (hQ := ?_)
    exact hR _ (ret1 (hp := rfl))
  | true =>
    rw [hf] at k1
    obtain ⟨hl1, hl2⟩ := few_len hf
    have k2 := l_copied t (by omega) (by omega)
    have k3 := t_Project t p
    have k4 := r_Project t p
    have k9 := r_Same (prjR t p).1 (prjR t p).1
    rw [decide_eq_true rfl] at k9
    have g : (prjR t p).2 = 0 → Spc X 17 [.agg (eTl (prjR t p).1)] (.one (.int .i64 0)) ∧ ∃ s : Int, Spc X 18 [.agg (eTl (prjR t p).1), .one (.str [])] (.one (.int .i64 s)) ∧ Spc X 18 [.agg (eTl t), .one (.str [])] (.one (.int .i64 s)) := fun h => by
      obtain ⟨l, rfl, hl, hF, e⟩ := prjR_ok h
      rw [e]
      have q1 := t_Valid (tlT (l.foldl (accR (cutP p.toNat)) []))
      rw [validE_VT.2 hF] at q1
      have q2 := t_Total (l.foldl (accR (cutP p.toNat)) []) [] (by have := hF.1; omega) (by simp) (fun x hx => by have := (hF.2.2 x hx).2; omega)
      have q3 := t_Total l [] (by have := hl.1; omega) (by simp) (fun x hx => by have := (hl.2.2 x hx).2; omega)
      rw [accR_tot (f := underB []) (fun k => rfl) l [] List.Pairwise.nil, show totL (underB []) [] = 0 from rfl, Int.zero_add] at q2
      exact ⟨q1, _, q2, q3⟩
    generalize prjR t p = M at *
    obtain ⟨⟨mks, mcs⟩, me⟩ := M
    obtain ⟨ks, cs⟩ := t
    simp only [eTl, taR] at *
    refine walk (hQ := ?_)
    refine R_call k0 (hK := ?_)
    refine walk (hQ := ?_)
    refine R_call k1 (hK := ?_)
    refine walk (hQ := ?_)
    refine R_call k2 (hK := ?_)
    refine walk (hQ := ?_)
    refine R_call k3 (hK := ?_)
    refine walk (hQ := ?_)
    refine R_call k4 (hK := ?_)
    repeat' (first | refine R_call k9 (hK := ?_) | refine walkP (hQ := ?_) | refine W_if (ht := fun h => ?_) (hf := fun h => ?_) | refine W_ifb (ht := fun h => ?_) (hf := fun h => ?_) | (refine R_g_if (h1 := fun h => ?_) (h2 := fun h => ?_) <;> simp only [Bool.false_eq_true, if_false, if_true, Decidable.not_not] at h))
    all_goals try (exfalso; first | omega | exact (by assumption : ¬ True) trivial)
    · obtain ⟨q1, x, q2, q3⟩ := g h
      refine R_call q1 (hK := ?_)
      refine walk (hQ := ?_)
      refine R_call q2 (hK := ?_)
      refine walk (hQ := ?_)
      refine R_call q3 (hK := ?_)
      repeat' (first | refine walkP (hQ := ?_) | refine W_if (ht := fun h => ?_) (hf := fun h => ?_) | refine W_ifb (ht := fun h => ?_) (hf := fun h => ?_) | (refine R_g_if (h1 := fun h => ?_) (h2 := fun h => ?_) <;> simp only [Bool.false_eq_true, if_false, if_true, Decidable.not_not] at h))
      all_goals try (exfalso; first | omega | exact (by assumption : ¬ True) trivial)
      refine hR _ (ret1 (hp := ?_))
      simp
    · refine hR _ (ret1 (hp := ?_))
      simp
end Go.VS.YtlmioegjeocaaaaGreatDoor

