/- Contracts over whole values, and what they lean on: part i. Each holds under the conditions that it states. -/
import Derived.Test.YtiaijoomngefnaaGreatDoorYh
set_option linter.unusedVariables false
set_option linter.unusedSimpArgs false

namespace Go.VS.YtiaijoomngefnaaGreatDoor
open Go Go.VL Go.VN Go.RowKit Go.Proofs
set_option maxRecDepth 100000
set_option linter.unusedVariables false

/-- A number and an error, handed back. -/
abbrev nr (r : List Int × Int) : PA := .tup [(true, [slc eI r.1]), (false, [.int .i64 r.2])]
theorem valid_digs {l : List Int} (h : validB l = true) : l = digs (val l).toNat ∧ l.length ≤ 200 ∧ Dig l := by
  obtain ⟨h1, h2, h3⟩ := validB_parts h
  exact ⟨norm_digs h2 h3, h1, h2⟩
theorem s_fitsD (n : Nat) : Spc X 109 [.one (slc eI (digs n))] (nr (fit n)) := by
  have h := s_fits (digs n)
  unfold fit
  by_cases h0 : (digs n).length > 200
  · rw [if_pos h0] at h ⊢; exact h
  · rw [if_neg h0] at h ⊢; rw [tr_digs_id] at h; exact h
theorem s_Mul (a b : List Int) : Spc X 100 [nt a, nt b] (nr (mulR a b)) := by
  refine Spc.start Tryz.func100 rfl (h := fun hs R hR => ?_)
  unfold Tryz.f100
  simp only [entryE, PA.av, List.map_cons, List.map_nil]
  refine walk (hQ := ?_)
  have va := s_Valid a
  have vb := s_Valid b
  unfold mulR at hR
  cases ha : validB a with
  | false =>
    rw [ha] at va
    rw [ha, if_neg (by simp)] at hR
    refine R_call va (hK := ?_)
    refine walk (hQ := ?_)
    exact hR _ (ret2 (hp := rfl))
  | true =>
    rw [ha] at va
    refine R_call va (hK := ?_)
    refine walk (hQ := ?_)
    cases hb : validB b with
    | false =>
      rw [hb] at vb
      rw [hb, if_neg (by simp)] at hR
      refine R_call vb (hK := ?_)
      refine walk (hQ := ?_)
      exact hR _ (ret2 (hp := rfl))
    | true =>
      rw [hb] at vb
      rw [ha, hb, if_pos (by simp)] at hR
      obtain ⟨_, la, da⟩ := valid_digs ha
      obtain ⟨_, lb, db⟩ := valid_digs hb
      refine R_call vb (hK := ?_)
      refine walk (hQ := ?_)
      refine R_call (s_mul a b da db (by omega) (by omega)) (hK := ?_)
      refine walk (hQ := ?_)
      refine R_call (s_fitsD _) (hK := ?_)
      refine walk (hQ := ?_)
      exact hR _ (ret2 (hp := rfl))
def addR (a b : List Int) : List Int × Int := if validB a = true ∧ validB b = true then fit ((val a).toNat + (val b).toNat) else ([], 1)
def subR (a b : List Int) : List Int × Int := if validB a = true ∧ validB b = true then (if (val a).toNat < (val b).toNat then ([], 6) else (digs ((val a).toNat - (val b).toNat), 0)) else ([], 1)
theorem s_Add (a b : List Int) : Spc X 73 [nt a, nt b] (nr (addR a b)) := by
  refine Spc.start Tryz.func73 rfl (h := fun hs R hR => ?_)
  unfold Tryz.f73
  simp only [entryE, PA.av, List.map_cons, List.map_nil]
  refine walk (hQ := ?_)
  have va := s_Valid a
  have vb := s_Valid b
  unfold addR at hR
  cases ha : validB a with
  | false =>
    rw [ha] at va
    rw [ha, if_neg (by simp)] at hR
    refine R_call va (hK := ?_)
    refine walk (hQ := ?_)
    exact hR _ (ret2 (hp := rfl))
  | true =>
    rw [ha] at va
    refine R_call va (hK := ?_)
    refine walk (hQ := ?_)
    cases hb : validB b with
    | false =>
      rw [hb] at vb
      rw [hb, if_neg (by simp)] at hR
      refine R_call vb (hK := ?_)
      refine walk (hQ := ?_)
      exact hR _ (ret2 (hp := rfl))
    | true =>
      rw [hb] at vb
      rw [ha, hb, if_pos (by simp)] at hR
      obtain ⟨ea, la, da⟩ := valid_digs ha
      obtain ⟨eb, lb, db⟩ := valid_digs hb
      refine R_call vb (hK := ?_)
      refine walk (hQ := ?_)
      generalize hm : (val a).toNat = m at *
      generalize hn : (val b).toNat = n at *
      subst ea eb
      refine R_call (s_add m n (by omega) (by omega)) (hK := ?_)
      refine walk (hQ := ?_)
      refine R_call (s_fitsD _) (hK := ?_)
      refine walk (hQ := ?_)
      exact hR _ (ret2 (hp := rfl))
theorem s_Sub (a b : List Int) : Spc X 74 [nt a, nt b] (nr (subR a b)) := by
  refine Spc.start Tryz.func74 rfl (h := fun hs R hR => ?_)
  unfold Tryz.f74
  simp only [entryE, PA.av, List.map_cons, List.map_nil]
  refine walk (hQ := ?_)
  have va := s_Valid a
  have vb := s_Valid b
  unfold subR at hR
  cases ha : validB a with
  | false =>
    rw [ha] at va
    rw [ha, if_neg (by simp)] at hR
    refine R_call va (hK := ?_)
    refine walk (hQ := ?_)
    exact hR _ (ret2 (hp := rfl))
  | true =>
    rw [ha] at va
    refine R_call va (hK := ?_)
    refine walk (hQ := ?_)
    cases hb : validB b with
    | false =>
      rw [hb] at vb
      rw [hb, if_neg (by simp)] at hR
      refine R_call vb (hK := ?_)
      refine walk (hQ := ?_)
      exact hR _ (ret2 (hp := rfl))
    | true =>
      rw [hb] at vb
      rw [ha, hb, if_pos (by simp)] at hR
      obtain ⟨ea, la, da⟩ := valid_digs ha
      obtain ⟨eb, lb, db⟩ := valid_digs hb
      refine R_call vb (hK := ?_)
      refine walk (hQ := ?_)
      generalize hm : (val a).toNat = m at *
      generalize hn : (val b).toNat = n at *
      subst ea eb
      refine R_call (s_Cmp _ _) (hK := ?_)
      rw [cmp_digs]
      refine walk (hQ := ?_)
      have hlt : sgn (m : Int) n < 0 ↔ m < n := by
        unfold sgn
        by_cases h1 : (m : Int) < n
        · rw [if_pos h1]; omega
        · rw [if_neg h1]; split <;> omega
      refine W_if (ht := fun h0 => ?_) (hf := fun h0 => ?_)
      · rw [if_pos (hlt.1 h0)] at hR
        refine walk (hQ := ?_)
        exact hR _ (ret2 (hp := rfl))
      · have h1 : ¬ m < n := fun h => h0 (hlt.2 h)
        rw [if_neg h1] at hR
        refine walk (hQ := ?_)
        refine R_call (s_sub m n (by omega) (by omega)) (hK := ?_)
        refine walk (hQ := ?_)
        refine R_call (s_of _) (hK := ?_)
        rw [tr_digs_id]
        refine walk (hQ := ?_)
        exact hR _ (ret2 (hp := rfl))
/-- Two numbers and an error, handed back. -/
abbrev nr2 (r : List Int × List Int × Int) : PA := .tup [(true, [slc eI r.1]), (true, [slc eI r.2.1]), (false, [.int .i64 r.2.2])]
theorem s_Div (a b : List Int) : Spc X 101 [nt a, nt b] (nr2 (divR a b)) := by
  refine Spc.start Tryz.func101 rfl (h := fun hs R hR => ?_)
  unfold Tryz.f101
  simp only [entryE, PA.av, List.map_cons, List.map_nil]
  refine walk (hQ := ?_)
  have va := s_Valid a
  have vb := s_Valid b
  unfold divR at hR
  cases ha : validB a with
  | false =>
    rw [ha] at va
    rw [ha, if_neg (by simp)] at hR
    refine R_call va (hK := ?_)
    refine walk (hQ := ?_)
    exact hR _ (ret3 (hp := rfl))
  | true =>
    rw [ha] at va
    refine R_call va (hK := ?_)
    refine walk (hQ := ?_)
    cases hb : validB b with
    | false =>
      rw [hb] at vb
      rw [hb, if_neg (by simp)] at hR
      refine R_call vb (hK := ?_)
      refine walk (hQ := ?_)
      exact hR _ (ret3 (hp := rfl))
    | true =>
      rw [hb] at vb
      rw [ha, hb, if_pos (by simp)] at hR
      obtain ⟨ea, la, da⟩ := valid_digs ha
      obtain ⟨eb, lb, db⟩ := valid_digs hb
      refine R_call vb (hK := ?_)
      refine walk (hQ := ?_)
      generalize hm : (val a).toNat = m at *
      generalize hn : (val b).toNat = n at *
      subst ea eb
      have hz := len_zero n
      refine W_if (ht := fun h0 => ?_) (hf := fun h0 => ?_)
      · rw [if_pos (hz.1 h0)] at hR
        refine walk (hQ := ?_)
        exact hR _ (ret3 (hp := rfl))
      · have h1 : ¬ n = 0 := fun h => h0 (hz.2 h)
        rw [if_neg h1] at hR
        refine walk (hQ := ?_)
        refine R_call (s_divide m n (by omega) (by omega) (by omega)) (hK := ?_)
        refine walk (hQ := ?_)
        refine R_call (s_of _) (hK := ?_)
        rw [tr_digs_id]
        refine walk (hQ := ?_)
        refine R_call (s_of _) (hK := ?_)
        rw [tr_digs_id]
        refine walk (hQ := ?_)
        exact hR _ (ret3 (hp := rfl))
theorem s_Gcd (a b : List Int) : Spc X 51 [nt a, nt b] (nr (gcdR a b)) := by
  refine Spc.start Tryz.func51 rfl (h := fun hs R hR => ?_)
  unfold Tryz.f51
  simp only [entryE, PA.av, List.map_cons, List.map_nil]
  refine walk (hQ := ?_)
  have va := s_Valid a
  have vb := s_Valid b
  unfold gcdR at hR
  cases ha : validB a with
  | false =>
    rw [ha] at va
    rw [ha, if_neg (by simp)] at hR
    refine R_call va (hK := ?_)
    refine walk (hQ := ?_)
    exact hR _ (ret2 (hp := rfl))
  | true =>
    rw [ha] at va
    refine R_call va (hK := ?_)
    refine walk (hQ := ?_)
    cases hb : validB b with
    | false =>
      rw [hb] at vb
      rw [hb, if_neg (by simp)] at hR
      refine R_call vb (hK := ?_)
      refine walk (hQ := ?_)
      exact hR _ (ret2 (hp := rfl))
    | true =>
      rw [hb] at vb
      rw [ha, hb, if_pos (by simp)] at hR
      obtain ⟨ea, la, da⟩ := valid_digs ha
      obtain ⟨eb, lb, db⟩ := valid_digs hb
      refine R_call vb (hK := ?_)
      refine walk (hQ := ?_)
      generalize hm : (val a).toNat = m at *
      generalize hn : (val b).toNat = n at *
      subst ea eb
      refine R_call (s_cloneI (digs m) (by omega)) (hK := ?_)
      refine walk (hQ := ?_)
      refine R_call (s_cloneI (digs n) (by omega)) (hK := ?_)
      refine walk (hQ := ?_)
      refine Lp.intro2 (fun (p q : Nat) => ⟨[(4, .one (.ptr 2 0)), (6, vP (slc eI (digs p))), (7, vP (slc eI (digs q)))], [(2, (.mx [.pv .nil], false))], 3⟩)
        (fun p q => (digs p).length ≤ 200 ∧ (digs q).length ≤ 200 ∧ Nat.gcd p q = Nat.gcd m n) (fun _ q => q) m n ⟨la, lb, rfl⟩ (h0 := le_auto) (hr := fun p q K ⟨lp, lq, hg⟩ hK => ?_)
      have hz := len_zero q
      refine walk (hQ := ?_)
      refine W_if (ht := fun h0 => ?_) (hf := fun h0 => ?_)
      · have h1 : 0 < q := by
          rcases Nat.eq_zero_or_pos q with h | h
          · have := hz.2 h; omega
          · exact h
        refine walk (hQ := ?_)
        refine R_call (s_divide p q h1 (by omega) (by omega)) (hK := ?_)
        refine walk (hQ := ?_)
        refine hK _ q (p % q) ⟨lq, Nat.le_trans (len_of_lt (Nat.le_of_lt (Nat.mod_lt p h1))) lq, ?_⟩ (Nat.mod_lt p h1) le_auto
        rw [← hg, Nat.gcd_comm p q, Nat.gcd_rec q p, Nat.gcd_comm]
      · have h1 : q = 0 := hz.1 (by omega)
        subst h1
        rw [Nat.gcd_zero_right] at hg
        rw [← hg] at hR
        refine walk (hQ := ?_)
        refine R_call (s_of _) (hK := ?_)
        rw [tr_digs_id]
        refine walk (hQ := ?_)
        exact hR _ (ret2 (hp := rfl))
end Go.VS.YtiaijoomngefnaaGreatDoor


namespace Go.VS.YtiaijoomngefnaaGreatDoor
open Go Go.VL Go.VN Go.RowKit Go.Proofs
set_option maxRecDepth 100000
set_option linter.unusedVariables false

theorem r_trim (l : List Int) : Spc X 99 [.one (slc eI l)] (.one (slc eI (tr l))) := by
  refine Spc.start Tryz.func99 rfl (h := fun hs R hR => ?_)
  have hlen := (sane_I hs.1).1
  unfold Tryz.f99
  simp only [entryE, PA.av]
  refine walk (hQ := ?_)
  refine Lp.intro (fun m : Nat => ⟨[(0, vP (slc eI (l.take m)))], [], 0⟩) (fun m => m ≤ l.length ∧ tr (l.take m) = tr l) (fun m => m) l.length ⟨Nat.le_refl _, by simp⟩ (h0 := le_auto (he := ⟨⟨_, rfl, avLe_slc (by simp)⟩, trivial⟩)) (hr := fun m K ⟨hm, he⟩ hK => ?_)
  have hl : (l.take m).length = m := by simp [hm]
  refine walk (hQ := ?_)
  refine R_g_if (h1 := fun hp => ?_) (h2 := fun hp => ?_)
  · simp only [if_true, hl] at hp
    refine walk (hQ := ?_)
    obtain ⟨q, rfl⟩ : ∃ q, m = q + 1 := ⟨m - 1, by omega⟩
    have e1 : ((l.take (q + 1)).length - 1 : Int).toNat = q := by omega
    rw [e1, gd_take (by omega)]
    refine W_if (ht := fun h0 => ?_) (hf := fun h0 => ?_)
    · refine walk (hQ := ?_)
      refine hK _ q ⟨by omega, ?_⟩ (by omega) ?_
      · rw [← he, take_snoc (by omega), h0, tr_zero]
      · exact le_auto (he := ⟨⟨_, rfl, avLe_slc (by rw [e1, List.take_take, Nat.min_eq_left (by omega)])⟩, trivial⟩)
    · refine walk (hQ := ?_)
      refine hR _ (ret1 (hp := ?_))
      rw [← he, take_snoc (by omega), tr_last _ _ h0]
  · simp only [if_true, hl] at hp
    refine walk (hQ := ?_)
    refine hR _ (ret1 (hp := ?_))
    rw [← he]
    obtain rfl : m = 0 := by omega
    simp [tr]
theorem r_digit (l : List Int) (i : Nat) : Spc X 118 [.one (slc eI l), .one (.int .i64 i)] (.one (.int .i64 (l.getD i 0))) := by
  refine Spc.start Tryz.func118 rfl (h := fun hs R hR => ?_)
  unfold Tryz.f118
  simp only [entryE, PA.av]
  refine walk (hQ := ?_)
  refine W_if (ht := fun h0 => ?_) (hf := fun h0 => ?_)
  · refine walk (hQ := ?_)
    exact hR _ (ret1 (hp := rfl))
  · refine walk (hQ := ?_)
    refine hR _ (ret1 (hp := ?_))
    have : l.getD i 0 = 0 := rd_out l i (by omega)
    rw [this]
theorem r_cmp (a b : List Int) : Spc X 92 [.one (slc eI a), .one (slc eI b)] (.one (.int .i64 (cmpL a b))) := by
  refine Spc.start Tryz.func92 rfl (h := fun hs R hR => ?_)
  have ha := sane_I hs.1
  have hb := sane_I hs.2.1
  unfold Tryz.f92
  simp only [entryE, PA.av]
  refine walk (hQ := ?_)
  refine W_if (ht := fun h0 => ?_) (hf := fun h0 => ?_)
  · refine walk (hQ := ?_)
    refine hR _ (ret1 (hp := ?_))
    unfold cmpL
    rw [if_pos (by omega)]
  · refine walk (hQ := ?_)
    refine W_if (ht := fun h1 => ?_) (hf := fun h1 => ?_)
    · refine walk (hQ := ?_)
      refine hR _ (ret1 (hp := ?_))
      unfold cmpL
      rw [if_neg (by omega), if_pos (by omega)]
    · refine walk (hQ := ?_)
      refine Lp.intro (fun i : Nat => ⟨[(0, vP (slc eI a)), (1, vP (slc eI b)), (5, vI ((i : Int) - 1))], [], 0⟩) (fun i => i ≤ a.length ∧ cmpFrom a b i = cmpFrom a b a.length) (fun i => i) a.length ⟨Nat.le_refl _, rfl⟩ (h0 := le_auto) (hr := fun i K ⟨hi, he⟩ hK => ?_)
      have hc : cmpL a b = cmpFrom a b a.length := by unfold cmpL; rw [if_neg (by omega), if_neg (by omega)]
      refine walk (hQ := ?_)
      refine W_if (ht := fun h2 => ?_) (hf := fun h2 => ?_)
      · obtain ⟨j, rfl⟩ : ∃ j, i = j + 1 := ⟨i - 1, by omega⟩
        have e : (((j + 1 : Nat) : Int) - 1) = (j : Int) := by omega
        rw [e]
        rw [cmpFrom] at he
        have ea : rd a (j : Int) = a.getD j 0 := rfl
        have eb : rd b (j : Int) = b.getD j 0 := rfl
        rw [ea, eb] at he
        refine walk (hQ := ?_)
        refine W_if (ht := fun h3 => ?_) (hf := fun h3 => ?_)
        · refine walk (hQ := ?_)
          refine hR _ (ret1 (hp := ?_))
          rw [hc, ← he, if_pos h3]
        · refine walk (hQ := ?_)
          refine W_if (ht := fun h4 => ?_) (hf := fun h4 => ?_)
          · refine walk (hQ := ?_)
            refine hR _ (ret1 (hp := ?_))
            rw [hc, ← he, if_neg h3, if_pos (by omega)]
          · refine walk (hQ := ?_)
            refine hK _ j ⟨by omega, ?_⟩ (by omega) le_auto
            rw [← he, if_neg (by omega), if_neg (by omega)]
      · refine walk (hQ := ?_)
        refine hR _ (ret1 (hp := ?_))
        obtain rfl : i = 0 := by omega
        rw [hc, ← he]
        rfl
theorem r_Cmp (a b : List Int) : Spc X 76 [nt a, nt b] (.one (.int .i64 (cmpL a b))) := by
  refine Spc.start Tryz.func76 rfl (h := fun hs R hR => ?_)
  unfold Tryz.f76
  simp only [entryE, PA.av, List.map_cons, List.map_nil]
  refine walk (hQ := ?_)
  refine R_call (r_cmp a b) (hK := ?_)
  refine walk (hQ := ?_)
  exact hR _ (ret1 (hp := rfl))
theorem r_Same (a b : List Int) : Spc X 47 [nt a, nt b] (.one (.bool (decide (a = b)))) := by
  refine Spc.start Tryz.func47 rfl (h := fun hs R hR => ?_)
  unfold Tryz.f47
  simp only [entryE, PA.av, List.map_cons, List.map_nil]
  refine walk (hQ := ?_)
  refine R_call (r_Cmp a b) (hK := ?_)
  refine walk (hQ := ?_)
  refine hR _ (ret1 (hp := ?_))
  by_cases h : a = b
  · subst h; rw [cmpL_self]; simp
  · have : ¬ cmpL a b = 0 := fun e => h (cmpL_zero e)
    simp [h, this]
theorem r_within (n : Nat) : Spc X 106 [.one (slc eI (digs n))] (nr (fit n)) := by
  refine Spc.start Tryz.func106 rfl (h := fun hs R hR => ?_)
  unfold Tryz.f106
  simp only [entryE, PA.av]
  unfold fit at hR
  refine walk (hQ := ?_)
  refine W_if (ht := fun h0 => ?_) (hf := fun h0 => ?_)
  · rw [if_pos (by omega)] at hR
    refine walk (hQ := ?_)
    exact hR _ (ret2 (hp := rfl))
  · rw [if_neg (by omega)] at hR
    refine walk (hQ := ?_)
    exact hR _ (ret2 (hp := rfl))
end Go.VS.YtiaijoomngefnaaGreatDoor


namespace Go.VS.YtiaijoomngefnaaGreatDoor
open Go Go.VL Go.VN Go.RowKit Go.Proofs
set_option maxRecDepth 100000
set_option linter.unusedVariables false

theorem all_good {l : List Int} : (l.all fun d => decide (0 ≤ d) && decide (d < 10000)) = decide (∀ j, j < l.length → 0 ≤ l.getD j 0 ∧ l.getD j 0 < 10000) := by
  by_cases h : ∀ j, j < l.length → 0 ≤ l.getD j 0 ∧ l.getD j 0 < 10000
  · rw [decide_eq_true h, List.all_eq_true]
    intro d hd
    obtain ⟨j, hj, rfl⟩ := List.getElem_of_mem hd
    have := h j hj
    rw [List.getD_eq_getElem?_getD, List.getElem?_eq_getElem hj] at this
    simpa using this
  · rw [decide_eq_false h]
    cases ha : (l.all fun d => decide (0 ≤ d) && decide (d < 10000)) with
    | false => rfl
    | true =>
      refine absurd (fun j hj => ?_) h
      have := List.all_eq_true.1 ha _ (List.getElem_mem hj)
      rw [List.getD_eq_getElem?_getD, List.getElem?_eq_getElem hj]
      simpa using this
theorem r_Valid (l : List Int) : Spc X 54 [nt l] (.one (.bool (validB l))) := by
  refine Spc.start Tryz.func54 rfl (h := fun hs R hR => ?_)
  unfold Tryz.f54
  simp only [entryE, PA.av, List.map_cons, List.map_nil]
  refine walk (hQ := ?_)
  by_cases h0 : 200 < (l.length : Int)
  · refine R_g_if (h1 := fun h1 => ?_) (h2 := fun h1 => ?_)
    · simp only [Bool.false_eq_true, if_false] at h1; exact absurd h0 h1
    · refine walk (hQ := ?_)
      refine hR _ (ret1 (hp := ?_))
      unfold validB
      rw [decide_eq_false (by omega)]; rfl
  · refine R_g_if (h1 := fun h1 => ?_) (h2 := fun h1 => ?_)
    · clear h1
      refine walk (hQ := ?_)
      have ej : 0 < l.length → ((l.length : Int) - 1).toNat = l.length - 1 := fun h => by omega
      have hg : 0 < l.length → l.getLast? = some (l.getD (l.length - 1) 0) := fun h => by
        rw [List.getLast?_eq_getElem?, List.getD_eq_getElem?_getD, List.getElem?_eq_getElem (by omega)]; rfl
      refine R_g_if (h1 := fun h1 => ?_) (h2 := fun h1 => ?_)
      case' refine_1 =>
        simp only [if_true] at h1
        refine walk (hQ := ?_)
        rw [ej (by omega)]
        refine W_if (ht := fun h2 => ?_) (hf := fun h2 => ?_)
        case' refine_1 =>
          refine walk (hQ := ?_)
          refine hR _ (ret1 (hp := ?_))
          unfold validB
          rw [hg (by omega), h2]; simp
        case' refine_2 =>
          have hv : validB l = (l.all fun d => decide (0 ≤ d) && decide (d < 10000)) := by
            unfold validB
            rw [decide_eq_true (by omega), hg (by omega)]
            have h3 : (some (l.getD (l.length - 1) 0) == some 0) = false := by simpa using h2
            rw [h3]; rfl
      case' refine_2 =>
        simp only [if_true] at h1
        have hv : validB l = (l.all fun d => decide (0 ≤ d) && decide (d < 10000)) := by
          have h2 : l = [] := List.eq_nil_of_length_eq_zero (by omega)
          subst h2
          rfl
      all_goals
        refine walk (hQ := ?_)
        rw [hv, all_good] at hR
        refine Lp.intro (fun i : Nat => ⟨[(1, .one (.ptr 0 0)), (3, vI l.length), (4, vI i)], [(0, (.mx [.pv (slc eI l)], false))], 1⟩) (fun i => i ≤ l.length ∧ ∀ j, j < i → 0 ≤ l.getD j 0 ∧ l.getD j 0 < 10000) (fun i => l.length - i) 0 ⟨Nat.zero_le _, fun j hj => by omega⟩ (h0 := le_auto) (hr := fun i K ⟨hi, hb⟩ hK => ?_)
        refine walk (hQ := ?_)
        refine W_if (ht := fun h3 => ?_) (hf := fun h3 => ?_)
        · refine walk (hQ := ?_)
          refine R_g_if (h1 := fun h4 => ?_) (h2 := fun h4 => ?_)
          · simp only [Bool.false_eq_true, if_false] at h4
            refine walk (hQ := ?_)
            refine W_if (ht := fun h5 => ?_) (hf := fun h5 => ?_)
            · refine walk (hQ := ?_)
              refine hR _ (ret1 (hp := ?_))
              rw [decide_eq_false fun h => by have := (h i (by omega)).2; omega]
            · refine walk (hQ := ?_)
              refine hK _ (i + 1) ⟨by omega, fun j hj => ?_⟩ (by omega) le_auto
              rcases Nat.lt_or_ge j i with h | h
              · exact hb j h
              · obtain rfl : j = i := by omega
                omega
          · simp only [Bool.false_eq_true, if_false] at h4
            refine walk (hQ := ?_)
            refine hR _ (ret1 (hp := ?_))
            rw [decide_eq_false fun h => by have := (h i (by omega)).1; omega]
        · refine walk (hQ := ?_)
          refine hR _ (ret1 (hp := ?_))
          rw [decide_eq_true fun j hj => hb j (by omega)]
    · simp only [Bool.false_eq_true, if_false] at h1; exact absurd h1 h0
end Go.VS.YtiaijoomngefnaaGreatDoor


namespace Go.VS.YtiaijoomngefnaaGreatDoor
open Go Go.VL Go.VN Go.RowKit Go.Proofs
set_option maxRecDepth 100000
set_option linter.unusedVariables false

theorem r_less (m n : Nat) (hmn : n ≤ m) (lm : (digs m).length ≤ 1000000) : Spc X 93 [.one (slc eI (digs m)), .one (slc eI (digs n))] (.one (slc eI (digs (m - n)))) := by
  refine Spc.start Tryz.func93 rfl (h := fun hs R hR => ?_)
  have ha := dig_digs m
  have hb := dig_digs n
  have hv : val (digs n) ≤ val (digs m) := by rw [val_digs, val_digs]; omega
  have lb : (digs n).length ≤ (digs m).length := len_of_lt hmn
  have er : digs (m - n) = digs (val (digs m) - val (digs n)).toNat := by rw [val_digs, val_digs]; congr 1; omega
  unfold Tryz.f93
  simp only [entryE, PA.av]
  rw [er] at hR
  clear hs
  generalize digs m = a at *
  generalize digs n = b at *
  refine walk (hQ := ?_)
  refine Lp.intro3 (fun (i : Nat) (out : List Int) (c : Int) => ⟨[(0, vP (slc eI a)), (1, vP (slc eI b)), (5, .one (.own 0 1 out.length)), (6, vI c), (7, vI i)], [(0, (.pu 3 (out.flatMap eI), false))], 1⟩)
    (fun i out c => i ≤ a.length ∧ out.length = i ∧ Dig out ∧ 0 ≤ c ∧ c ≤ 1 ∧ val out - c * 10000 ^ i = val (a.take i) - val (b.take i)) (fun i _ _ => a.length - i) 0 [] 0 ⟨Nat.zero_le _, rfl, Dig.nil, by omega, by omega, by simp [val]⟩
    (h0 := le_ghost1 0 3 (hle := le_auto)) (hr := fun i out c K ⟨hi, hl, hd, c0, c1, he⟩ hK => ?_)
  refine walk (hQ := ?_)
  refine W_if (ht := fun h1 => ?_) (hf := fun h1 => ?_)
  · have hx : 0 ≤ a.getD i 0 ∧ a.getD i 0 < 10000 := dig_rd ha i
    have hy : 0 ≤ b.getD i 0 ∧ b.getD i 0 < 10000 := dig_rd hb i
    have stp : ∀ (z q : Int), (a.getD i 0 - b.getD i 0 - c < 0 ∧ z = a.getD i 0 - b.getD i 0 - c + 10000 ∧ q = 1) ∨ (¬ a.getD i 0 - b.getD i 0 - c < 0 ∧ z = a.getD i 0 - b.getD i 0 - c ∧ q = 0) →
        Dig (out ++ [z]) ∧ val (out ++ [z]) - q * 10000 ^ (i + 1) = val (a.take (i + 1)) - val (b.take (i + 1)) := fun z q hzq => by
      refine ⟨hd.join (Dig.one (by omega) (by omega)), ?_⟩
      have hpow : (10000 : Int) ^ (i + 1) = 10000 ^ i * 10000 := Int.pow_succ ..
      have e1 : rd a i = a.getD i 0 := rfl
      have e2 : rd b i = b.getD i 0 := rfl
      rw [val_snoc, hl, vt_succ, vt_succ, hpow, e1, e2]
      generalize a.getD i 0 = x at *
      generalize b.getD i 0 = y at *
      generalize (10000 : Int) ^ i = P at *
      generalize val (b.take i) = B at *
      generalize val (a.take i) = A at *
      generalize val out = U at *
      clear hd hK hR hl hi e1 e2
      grind
    refine walk (hQ := ?_)
    refine R_call (r_digit b i) (hK := ?_)
    refine walk (hQ := ?_)
    refine W_if (ht := fun h3 => ?_) (hf := fun h3 => ?_)
    · have s := stp _ _ (.inl ⟨h3, rfl, rfl⟩)
      refine walk (hQ := ?_)
      exact hK _ (i + 1) _ 1 ⟨by omega, by rw [List.length_append, hl]; rfl, s.1, by omega, by omega, s.2⟩ (by omega) le_auto
    · have s := stp _ _ (.inr ⟨h3, rfl, rfl⟩)
      refine walk (hQ := ?_)
      exact hK _ (i + 1) _ 0 ⟨by omega, by rw [List.length_append, hl]; rfl, s.1, by omega, by omega, s.2⟩ (by omega) le_auto
  · obtain rfl : i = a.length := by omega
    refine walk (hQ := ?_)
    refine R_callF (r_trim out) (hK := ?_)
    refine walk (hQ := ?_)
    refine hR _ (ret1 (hp := ?_))
    rw [List.take_length, List.take_of_length_le (l := b) (by omega)] at he
    have h2 := val_lt hd
    rw [hl] at h2
    have hc : c = 0 := by
      rcases (by omega : c = 0 ∨ c = 1) with h | h
      · exact h
      · subst h; omega
    subst hc
    rw [tr_digs hd]
    congr 3
    omega
end Go.VS.YtiaijoomngefnaaGreatDoor


namespace Go.VS.YtiaijoomngefnaaGreatDoor
open Go Go.VL Go.VN Go.RowKit Go.Proofs
set_option maxRecDepth 100000
set_option linter.unusedVariables false

theorem r_sum (a b : List Int) (ha : Dig a) (hb : Dig b) (la : a.length ≤ 1000000) (lb : b.length ≤ 1000000) : Spc X 94 [.one (slc eI a), .one (slc eI b)] (.one (slc eI (digs (val a + val b).toNat))) := by
  refine Spc.start Tryz.func94 rfl (h := fun hs R hR => ?_)
  unfold Tryz.f94
  simp only [entryE, PA.av]
  refine walk (hQ := ?_)
  refine Lp.intro3 (fun (i : Nat) (out : List Int) (c : Int) => ⟨[(0, vP (slc eI a)), (1, vP (slc eI b)), (5, .one (.own 0 1 out.length)), (6, vI c), (7, vI i)], [(0, (.pu 3 (out.flatMap eI), false))], 1⟩)
    (fun i out c => i ≤ max a.length b.length ∧ VN.Sum a b out i c) (fun i _ _ => max a.length b.length - i) 0 [] 0 ⟨Nat.zero_le _, Sum.start a b⟩
    (h0 := le_ghost1 0 3 (hle := le_auto)) (hr := fun i out c K ⟨hi, hS⟩ hK => ?_)
  have hlen := hS.len
  have c0 := hS.c0
  have c1 := hS.c1
  have hx : 0 ≤ a.getD i 0 ∧ a.getD i 0 < 10000 := dig_rd ha i
  have hy : 0 ≤ b.getD i 0 ∧ b.getD i 0 < 10000 := dig_rd hb i
  refine walk (hQ := ?_)
  refine R_g_if (h1 := fun h1 => ?_) (h2 := fun h1 => ?_)
  case' refine_1 =>
    simp only [Bool.false_eq_true, if_false] at h1
    refine walk (hQ := ?_)
    refine W_if (ht := fun h2 => ?_) (hf := fun h2 => ?_)
    case' refine_1 => have hlt : i < max a.length b.length := by omega
    case' refine_2 =>
      refine walk (hQ := ?_)
      refine R_callF (r_trim (out ++ [c])) (hK := ?_)
      refine walk (hQ := ?_)
      refine hR _ (ret1 (hp := ?_))
      have h3 := hS.eq
      rw [List.take_of_length_le (by omega), List.take_of_length_le (by omega)] at h3
      rw [tr_digs (hS.dig.join (Dig.one c0 (by omega))), val_snoc, hlen, ← h3]
      congr 3
      rw [Int.mul_comm]
  case' refine_2 =>
    simp only [Bool.false_eq_true, if_false] at h1
    have hlt : i < max a.length b.length := by omega
  all_goals
    refine walk (hQ := ?_)
    refine R_call (r_digit a i) (hK := ?_)
    refine walk (hQ := ?_)
    refine R_call (r_digit b i) (hK := ?_)
    refine walk (hQ := ?_)
    have e : a.getD i 0 + b.getD i 0 + c = c + a.getD i 0 + b.getD i 0 := by omega
    rw [e]
    refine hK _ (i + 1) _ _ ⟨by omega, hS.next (q := (c + a.getD i 0 + b.getD i 0) / 10000) (r := (c + a.getD i 0 + b.getD i 0) % 10000) (by omega) (by omega) (by omega) (by omega) ?_⟩ (by omega) ?_
    · exact (Int.mul_ediv_add_emod _ 10000).symm
    · exact le_auto
end Go.VS.YtiaijoomngefnaaGreatDoor


namespace Go.VS.YtiaijoomngefnaaGreatDoor
open Go Go.VL Go.VN Go.RowKit Go.Proofs
set_option maxRecDepth 100000
set_option linter.unusedVariables false

theorem r_times (a b : List Int) (ha : Dig a) (hb : Dig b) (la : a.length ≤ 1000000) (lb : b.length ≤ 1000000) : Spc X 107 [.one (slc eI a), .one (slc eI b)] (.one (slc eI (digs (val a * val b).toNat))) := by
  refine Spc.start Tryz.func107 rfl (h := fun hs R hR => ?_)
  unfold Tryz.f107
  simp only [entryE, PA.av]
  refine walk (hQ := ?_)
  have eL : ((a.length : Int) + b.length + 1).toNat = a.length + b.length + 1 := by omega
  rw [eL]
  refine Lp.intro2 (fun (i : Nat) (out : List Int) => ⟨[(0, vP (slc eI a)), (1, vP (slc eI b)), (5, .one (.own 0 1 (a.length + b.length + 1))), (6, vI i)], [(0, (.pu 3 (out.flatMap eI), false))], 1⟩)
    (fun i out => Outer a b out (a.length + b.length + 1) i ∧ i ≤ a.length) (fun i _ => a.length - i) 0 _ ⟨Outer.start a b _, Nat.zero_le _⟩ (h0 := le_auto) (hr := fun i out0 K ⟨hO, hi⟩ hK => ?_)
  have hlen := hO.len
  have hx : 0 ≤ a.getD i 0 ∧ a.getD i 0 < 10000 := dig_rd ha i
  refine walk (hQ := ?_)
  refine W_if (ht := fun h1 => ?_) (hf := fun h1 => ?_)
  · refine walk (hQ := ?_)
    refine Lp.intro3 (fun (j : Nat) (out : List Int) (c : Int) => ⟨[(0, vP (slc eI a)), (1, vP (slc eI b)), (5, .one (.own 0 1 (a.length + b.length + 1))), (6, vI i), (7, vI c), (8, vI j)], [(0, (.pu 3 (out.flatMap eI), false))], 1⟩)
      (fun j out c => (j ≤ b.length ∧ Inner a b out0 out i j c) ∨ (j = b.length + 1 ∧ c = 0 ∧ Outer a b out (a.length + b.length + 1) (i + 1))) (fun j _ _ => b.length + 1 - j) 0 _ 0 (.inl ⟨Nat.zero_le _, Inner.start hO.dig hO.top⟩) (h0 := le_auto) (hr := fun j out c K' hI hK' => ?_)
    have hj : j ≤ b.length + 1 := by rcases hI with h | h <;> omega
    have hlen' : out.length = a.length + b.length + 1 := by
      rcases hI with h | h
      · rw [h.2.len, hlen]
      · exact h.2.2.len
    have hc0 : 0 ≤ c := by
      rcases hI with h | h
      · exact h.2.c0
      · omega
    have hc1 : c < 10000 := by
      rcases hI with h | h
      · exact h.2.c1
      · omega
    have hd : Dig out := by
      rcases hI with h | h
      · exact h.2.dig
      · exact h.2.2.dig
    have hy : 0 ≤ b.getD j 0 ∧ b.getD j 0 < 10000 := dig_rd hb j
    have ho : 0 ≤ out.getD (i + j) 0 ∧ out.getD (i + j) 0 < 10000 := dig_rd hd (i + j : Nat)
    have hxy := mul_le_ hx.1 hx.2 hy.1 hy.2
    refine walk (hQ := ?_)
    refine R_g_if (h1 := fun h2 => ?_) (h2 := fun h2 => ?_)
    case' refine_1 =>
      simp only [Bool.false_eq_true, if_false] at h2
      refine walk (hQ := ?_)
      refine W_if (ht := fun h3 => ?_) (hf := fun h3 => ?_)
      case' refine_1 => have go : j < b.length ∨ j = b.length ∧ 0 < c := by rcases hI with h | h <;> omega
      case' refine_2 =>
        have hO' : Outer a b out (a.length + b.length + 1) (i + 1) := by
          rcases hI with h | h
          · obtain rfl : j = b.length := by omega
            obtain rfl : c = 0 := by omega
            have h4 := hO.next h.2 (by omega) (by omega)
            have h5 : rd out (i + b.length : Nat) = 0 := h.2.top (i + b.length) (Nat.le_refl _)
            have e6 : out.set (i + b.length) 0 = out := by
              apply List.ext_getElem
              · rw [List.length_set]
              · intro p hp hq
                rw [List.getElem_set]
                split
                · rename_i hpe
                  subst hpe
                  rw [← rd_at out _ hq, h5]
                · rfl
            rw [e6] at h4
            exact h4
          · exact h.2.2
        refine walk (hQ := ?_)
        exact hK _ (i + 1) _ ⟨hO', by omega⟩ (by omega) le_auto
    case' refine_2 =>
      simp only [Bool.false_eq_true, if_false] at h2
      have go : j < b.length ∨ j = b.length ∧ 0 < c := by omega
    all_goals
      refine walk (hQ := ?_)
      refine R_call (r_digit b j) (hK := ?_)
      refine walk (hQ := ?_)
      have e : out.getD (i + j) 0 + a.getD i 0 * b.getD j 0 + c = c + (out.getD (i + j) 0 + a.getD i 0 * b.getD j 0) := by omega
      rw [e]
      refine hK' _ (j + 1) (out.set (i + j) ((c + (out.getD (i + j) 0 + a.getD i 0 * b.getD j 0)) % 10000)) ((c + (out.getD (i + j) 0 + a.getD i 0 * b.getD j 0)) / 10000) ?_ (by omega) le_auto
      rcases go with g | ⟨g, gc⟩
      · have hI' : Inner a b out0 out i j c := by
          rcases hI with h | h
          · exact h.2
          · omega
        refine .inl ⟨by omega, hI'.next (by omega) (by omega) (by omega) (by omega) (by omega) (by omega) ?_⟩
        exact (Int.mul_ediv_add_emod _ 10000).symm
      · subst g
        have hI' : Inner a b out0 out i b.length c := by
          rcases hI with h | h
          · exact h.2
          · omega
        have z1 : out.getD (i + b.length) 0 = 0 := hI'.top (i + b.length) (Nat.le_refl _)
        have z2 : b.getD b.length 0 = 0 := rd_out b b.length (Nat.le_refl _)
        rw [z1, z2, Int.mul_zero, Int.add_zero, Int.add_zero, Int.emod_eq_of_lt hc0 hc1, Int.ediv_eq_zero_of_lt hc0 hc1]
        exact .inr ⟨rfl, rfl, hO.next hI' (by omega) (by omega)⟩
  · obtain rfl : i = a.length := by omega
    refine walk (hQ := ?_)
    refine R_callF (r_trim out0) (hK := ?_)
    refine walk (hQ := ?_)
    refine hR _ (ret1 (hp := ?_))
    rw [hO.done]
end Go.VS.YtiaijoomngefnaaGreatDoor


namespace Go.VS.YtiaijoomngefnaaGreatDoor
open Go Go.VL Go.VN Go.RowKit Go.Proofs
set_option maxRecDepth 100000
set_option linter.unusedVariables false

theorem r_Mul (a b : List Int) : Spc X 63 [nt a, nt b] (nr (mulR a b)) := by
  refine Spc.start Tryz.func63 rfl (h := fun hs R hR => ?_)
  unfold Tryz.f63
  simp only [entryE, PA.av, List.map_cons, List.map_nil]
  refine walk (hQ := ?_)
  have va := r_Valid a
  have vb := r_Valid b
  unfold mulR at hR
  cases ha : validB a with
  | false =>
    rw [ha] at va
    rw [ha, if_neg (by simp)] at hR
    refine R_call va (hK := ?_)
    refine walk (hQ := ?_)
    exact hR _ (ret2 (hp := rfl))
  | true =>
    rw [ha] at va
    refine R_call va (hK := ?_)
    refine walk (hQ := ?_)
    cases hb : validB b with
    | false =>
      rw [hb] at vb
      rw [hb, if_neg (by simp)] at hR
      refine R_call vb (hK := ?_)
      refine walk (hQ := ?_)
      exact hR _ (ret2 (hp := rfl))
    | true =>
      rw [hb] at vb
      rw [ha, hb, if_pos (by simp)] at hR
      obtain ⟨ea, la, da⟩ := valid_digs ha
      obtain ⟨eb, lb, db⟩ := valid_digs hb
      refine R_call vb (hK := ?_)
      refine walk (hQ := ?_)
      refine R_call (r_times a b da db (by omega) (by omega)) (hK := ?_)
      refine walk (hQ := ?_)
      refine R_call (r_within _) (hK := ?_)
      refine walk (hQ := ?_)
      exact hR _ (ret2 (hp := rfl))
theorem r_Add (a b : List Int) : Spc X 64 [nt a, nt b] (nr (addR a b)) := by
  refine Spc.start Tryz.func64 rfl (h := fun hs R hR => ?_)
  unfold Tryz.f64
  simp only [entryE, PA.av, List.map_cons, List.map_nil]
  refine walk (hQ := ?_)
  have va := r_Valid a
  have vb := r_Valid b
  unfold addR at hR
  cases ha : validB a with
  | false =>
    rw [ha] at va
    rw [ha, if_neg (by simp)] at hR
    refine R_call va (hK := ?_)
    refine walk (hQ := ?_)
    exact hR _ (ret2 (hp := rfl))
  | true =>
    rw [ha] at va
    refine R_call va (hK := ?_)
    refine walk (hQ := ?_)
    cases hb : validB b with
    | false =>
      rw [hb] at vb
      rw [hb, if_neg (by simp)] at hR
      refine R_call vb (hK := ?_)
      refine walk (hQ := ?_)
      exact hR _ (ret2 (hp := rfl))
    | true =>
      rw [hb] at vb
      rw [ha, hb, if_pos (by simp)] at hR
      obtain ⟨ea, la, da⟩ := valid_digs ha
      obtain ⟨eb, lb, db⟩ := valid_digs hb
      refine R_call vb (hK := ?_)
      refine walk (hQ := ?_)
      have es : (val a + val b).toNat = (val a).toNat + (val b).toNat := by
        have := val_nonneg da
        have := val_nonneg db
        omega
      refine R_call (r_sum a b da db (by omega) (by omega)) (hK := ?_)
      rw [es]
      refine walk (hQ := ?_)
      refine R_call (r_within _) (hK := ?_)
      refine walk (hQ := ?_)
      exact hR _ (ret2 (hp := rfl))
theorem r_Sub (a b : List Int) : Spc X 77 [nt a, nt b] (nr (subR a b)) := by
  refine Spc.start Tryz.func77 rfl (h := fun hs R hR => ?_)
  unfold Tryz.f77
  simp only [entryE, PA.av, List.map_cons, List.map_nil]
  refine walk (hQ := ?_)
  have va := r_Valid a
  have vb := r_Valid b
  unfold subR at hR
  cases ha : validB a with
  | false =>
    rw [ha] at va
    rw [ha, if_neg (by simp)] at hR
    refine R_call va (hK := ?_)
    refine walk (hQ := ?_)
    exact hR _ (ret2 (hp := rfl))
  | true =>
    rw [ha] at va
    refine R_call va (hK := ?_)
    refine walk (hQ := ?_)
    cases hb : validB b with
    | false =>
      rw [hb] at vb
      rw [hb, if_neg (by simp)] at hR
      refine R_call vb (hK := ?_)
      refine walk (hQ := ?_)
      exact hR _ (ret2 (hp := rfl))
    | true =>
      rw [hb] at vb
      rw [ha, hb, if_pos (by simp)] at hR
      obtain ⟨ea, la, da⟩ := valid_digs ha
      obtain ⟨eb, lb, db⟩ := valid_digs hb
      refine R_call vb (hK := ?_)
      refine walk (hQ := ?_)
      generalize hm : (val a).toNat = m at *
      generalize hn : (val b).toNat = n at *
      subst ea eb
      refine R_call (r_Cmp _ _) (hK := ?_)
      rw [cmp_digs]
      refine walk (hQ := ?_)
      have hlt : sgn (m : Int) n < 0 ↔ m < n := by
        unfold sgn
        by_cases h1 : (m : Int) < n
        · rw [if_pos h1]; omega
        · rw [if_neg h1]; split <;> omega
      refine W_if (ht := fun h0 => ?_) (hf := fun h0 => ?_)
      · rw [if_pos (hlt.1 h0)] at hR
        refine walk (hQ := ?_)
        exact hR _ (ret2 (hp := rfl))
      · have h1 : ¬ m < n := fun h => h0 (hlt.2 h)
        rw [if_neg h1] at hR
        refine walk (hQ := ?_)
        refine R_call (r_less m n (by omega) (by omega)) (hK := ?_)
        refine walk (hQ := ?_)
        exact hR _ (ret2 (hp := rfl))
end Go.VS.YtiaijoomngefnaaGreatDoor


namespace Go.VS.YtiaijoomngefnaaGreatDoor
open Go Go.VL Go.VN Go.RowKit Go.Proofs
set_option maxRecDepth 100000
set_option linter.unusedVariables false

theorem r_times1 (n M : Nat) (hM : M < 10000) (ln : (digs n).length ≤ 1000000) : Spc X 107 [.one (slc eI (digs n)), .one (slc eI [(M : Int)])] (.one (slc eI (digs (n * M)))) := by
  have h := r_times (digs n) [(M : Int)] (dig_digs n) (dig1 M hM) ln (by simp)
  have e : (val (digs n) * val [(M : Int)]).toNat = n * M := by rw [val_digs, val1, ← Int.natCast_mul]; rfl
  rw [e] at h
  exact h
theorem r_divide (m n : Nat) (hn : 0 < n) (lm : (digs m).length ≤ 100000) (ln : (digs n).length ≤ 100000) : Spc X 108 [.one (slc eI (digs m)), .one (slc eI (digs n))] (.tup [(false, [slc eI (digs (m / n))]), (false, [slc eI (digs (m % n))])]) := by
  refine Spc.start Tryz.func108 rfl (h := fun hs R hR => ?_)
  unfold Tryz.f108
  simp only [entryE, PA.av]
  have ha := dig_digs m
  have ev : m = (val (digs m)).toNat := by rw [val_digs]; rfl
  have hb := dig_digs n
  refine walk (hQ := ?_)
  rw [ev] at hR
  clear ev hs
  generalize digs m = a at *
  refine Lp.intro2 (fun (i : Nat) (q : List Int) => ⟨[(0, vP (slc eI a)), (1, vP (slc eI (digs n))), (6, .one (.own 0 1 a.length)), (7, vP (slc eI (digs (top a i % n)))), (8, vI ((i : Int) - 1))], [(0, (.pu 3 (q.flatMap eI), false))], 1⟩)
    (fun i q => i ≤ a.length ∧ q.length = a.length ∧ Dig q ∧ (∀ p : Nat, p < i → rd q p = 0) ∧ val q = 10000 ^ i * ((top a i / n : Nat) : Int)) (fun i _ => i) a.length (List.replicate a.length 0)
    ⟨Nat.le_refl _, by simp, dig_zeros _, fun p _ => rd_zeros _ p, by rw [top_len, val_zeros]; simp⟩ (h0 := le_auto (he := ⟨⟨_, rfl, avLe_refl _⟩, ⟨_, rfl, avLe_refl _⟩, ⟨_, rfl, avLe_refl _⟩, ⟨_, rfl, ?_⟩, ⟨_, rfl, avLe_refl _⟩, trivial⟩)) (hr := fun i q K ⟨hi, hq, hd, hz, hv⟩ hK => ?_)
  · rw [top_len, Nat.zero_mod, digs_zero]; exact avLe_nil
  refine walk (hQ := ?_)
  refine W_if (ht := fun h1 => ?_) (hf := fun h1 => ?_)
  · obtain ⟨j, rfl⟩ : ∃ j, i = j + 1 := ⟨i - 1, by omega⟩
    have e0 : ((j + 1 : Nat) : Int) - 1 = (j : Int) := by omega
    rw [e0]
    have hx : 0 ≤ a.getD j 0 ∧ a.getD j 0 < 10000 := dig_rd ha j
    obtain ⟨d, hdx⟩ := Int.eq_ofNat_of_zero_le hx.1
    have hd4 : d < 10000 := by omega
    have ht := top_step ha (i := j) (by omega)
    have hrd : rd a j = (d : Int) := hdx
    rw [hrd, Int.toNat_natCast] at ht
    obtain ⟨s1, s2⟩ := div_step n (top a (j + 1)) d hn
    have s3 := div_small n (top a (j + 1)) d hn hd4
    rw [← ht] at s1 s2
    have hRl : (digs (top a (j + 1) % n)).length ≤ 100000 := Nat.le_trans (len_of_lt (Nat.mod_le _ _)) (Nat.le_trans (top_digs_len ha _) lm)
    refine walk (hQ := ?_)
    have eR : tr ([a.getD j 0] ++ digs (top a (j + 1) % n)) = digs (d + 10000 * (top a (j + 1) % n)) := by rw [hdx]; exact digs_app d _ hd4
    have hR1 : (digs (d + 10000 * (top a (j + 1) % n))).length ≤ 100001 := by
      rw [← eR]
      have := len_tr ([a.getD j 0] ++ digs (top a (j + 1) % n))
      rw [List.length_append, List.length_singleton] at this
      omega
    refine R_callF (r_trim _) (hK := ?_)
    rw [eR]
    generalize hRR : d + 10000 * (top a (j + 1) % n) = T at *
    refine walk (hQ := ?_)
    refine Lp.intro2 (fun (lo hi : Nat) => ⟨[(0, vP (slc eI a)), (1, vP (slc eI (digs n))), (6, .one (.own 0 1 a.length)), (7, vP (slc eI (digs T))), (8, vI j), (9, vI lo), (10, vI hi)], [(0, (.pu 3 (q.flatMap eI), false))], 1⟩)
      (fun lo hi => lo ≤ hi ∧ hi ≤ 9999 ∧ n * lo ≤ T ∧ T < n * (hi + 1)) (fun lo hi => hi - lo) 0 9999 ⟨by omega, by omega, by omega, ?_⟩ (h0 := le_auto) (hr := fun lo hi K' ⟨g1, g2, g3, g4⟩ hK' => ?_)
    · have := (Nat.div_lt_iff_lt_mul hn).1 s3
      rw [Nat.mul_comm]
      exact this
    refine walk (hQ := ?_)
    refine W_if (ht := fun h2 => ?_) (hf := fun h2 => ?_)
    · have eM : ((lo : Int) + hi + 1) / 2 = (((lo + hi + 1) / 2 : Nat) : Int) := by omega
      have hM1 : (lo + hi + 1) / 2 < 10000 := by omega
      refine walk (hQ := ?_)
      rw [eM]
      generalize hM : (lo + hi + 1) / 2 = M at *
      refine R_callF (r_times1 n M hM1 (by omega)) (hK := ?_)
      refine walk (hQ := ?_)
      refine R_call (r_cmp _ _) (hK := ?_)
      refine walk (hQ := ?_)
      rw [cmp_digs]
      refine W_if (ht := fun h3 => ?_) (hf := fun h3 => ?_)
      · have hc := (sgn_le _ _).1 h3
        refine walk (hQ := ?_)
        exact hK' _ M hi ⟨by omega, g2, hc, g4⟩ (by omega) le_auto
      · have hc : ¬ n * M ≤ T := fun h => h3 ((sgn_le _ _).2 h)
        refine walk (hQ := ?_)
        exact hK' _ lo (M - 1) ⟨by omega, by omega, g3, by rw [show M - 1 + 1 = M by omega]; omega⟩ (by omega) le_auto
    · obtain rfl : lo = hi := by omega
      have hdone : lo = T / n := by
        symm
        apply Nat.div_eq_of_lt_le
        · rw [Nat.mul_comm]; exact g3
        · rw [Nat.mul_comm]; exact g4
      have hle : n * lo ≤ T := by rw [hdone]; exact Nat.mul_div_le T n
      have hm : T - n * lo = T % n := by
        have := Nat.div_add_mod T n
        rw [hdone]
        omega
      have hP : j ≤ a.length ∧ (q.set j (lo : Int)).length = a.length ∧ Dig (q.set j (lo : Int)) ∧ (∀ p : Nat, p < j → rd (q.set j (lo : Int)) p = 0) ∧ val (q.set j (lo : Int)) = 10000 ^ j * ((top a j / n : Nat) : Int) := by
        refine ⟨by omega, by rw [List.length_set]; exact hq, hd.set _ (by omega) (by omega), fun p hp => ?_, ?_⟩
        · rw [rd_set _ _ _ _ (by omega), if_neg (by omega)]; exact hz p (by omega)
        · rw [half_val (by omega) (hz j (by omega)) rfl hv, s1, hdone]
      have hqa : q.length ≤ 100000 := by omega
      refine walk (hQ := ?_)
      refine R_callF (r_times1 n lo (by omega) (by omega)) (hK := ?_)
      refine walk (hQ := ?_)
      refine R_call (r_less T (n * lo) hle (by omega)) (hK := ?_)
      rw [hm, ← s2]
      refine walk (hQ := ?_)
      exact hK _ j _ hP (by omega) le_auto
  · obtain rfl : i = 0 := by omega
    refine walk (hQ := ?_)
    refine R_callF (r_trim q) (hK := ?_)
    refine walk (hQ := ?_)
    refine hR _ (ret2 (hp := ?_))
    rw [tr_digs hd, hv, top_zero, Int.pow_zero, Int.one_mul]; rfl
theorem r_Div (a b : List Int) : Spc X 65 [nt a, nt b] (nr2 (divR a b)) := by
  refine Spc.start Tryz.func65 rfl (h := fun hs R hR => ?_)
  unfold Tryz.f65
  simp only [entryE, PA.av, List.map_cons, List.map_nil]
  refine walk (hQ := ?_)
  have va := r_Valid a
  have vb := r_Valid b
  unfold divR at hR
  cases ha : validB a with
  | false =>
    rw [ha] at va
    rw [ha, if_neg (by simp)] at hR
    refine R_call va (hK := ?_)
    refine walk (hQ := ?_)
    exact hR _ (ret3 (hp := rfl))
  | true =>
    rw [ha] at va
    refine R_call va (hK := ?_)
    refine walk (hQ := ?_)
    cases hb : validB b with
    | false =>
      rw [hb] at vb
      rw [hb, if_neg (by simp)] at hR
      refine R_call vb (hK := ?_)
      refine walk (hQ := ?_)
      exact hR _ (ret3 (hp := rfl))
    | true =>
      rw [hb] at vb
      rw [ha, hb, if_pos (by simp)] at hR
      obtain ⟨ea, la, da⟩ := valid_digs ha
      obtain ⟨eb, lb, db⟩ := valid_digs hb
      refine R_call vb (hK := ?_)
      refine walk (hQ := ?_)
      generalize hm : (val a).toNat = m at *
      generalize hn : (val b).toNat = n at *
      subst ea eb
      have hz := len_zero n
      refine W_if (ht := fun h0 => ?_) (hf := fun h0 => ?_)
      · rw [if_pos (hz.1 h0)] at hR
        refine walk (hQ := ?_)
        exact hR _ (ret3 (hp := rfl))
      · have h1 : ¬ n = 0 := fun h => h0 (hz.2 h)
        rw [if_neg h1] at hR
        refine walk (hQ := ?_)
        refine R_call (r_divide m n (by omega) (by omega) (by omega)) (hK := ?_)
        refine walk (hQ := ?_)
        exact hR _ (ret3 (hp := rfl))
end Go.VS.YtiaijoomngefnaaGreatDoor


namespace Go.VS.YtiaijoomngefnaaGreatDoor
open Go Go.VL Go.VN Go.RowKit Go.Proofs
set_option maxRecDepth 100000
set_option linter.unusedVariables false

theorem r_even (n : Nat) : Spc X 90 [.one (slc eI (digs n))] (.one (.bool (decide (n % 2 = 0)))) := by
  refine Spc.start Tryz.func90 rfl (h := fun hs R hR => ?_)
  unfold Tryz.f90
  simp only [entryE, PA.av]
  have hz := len_zero n
  have hx : 0 ≤ (digs n).getD 0 0 ∧ (digs n).getD 0 0 < 10000 := dig_rd (dig_digs n) 0
  have hx2 : 0 ≤ (digs n).getD (Int.toNat 0) 0 := hx.1
  refine walk (hQ := ?_)
  refine R_g_if (h1 := fun h0 => ?_) (h2 := fun h0 => ?_)
  · simp only [Bool.false_eq_true, if_false] at h0
    have hn : ¬ n = 0 := fun h => h0 (hz.2 h)
    have e0 : (digs n).getD 0 0 = ((n % 10000 : Nat) : Int) := by rw [digs_pos n hn]; rfl
    refine walk (hQ := ?_)
    refine hR _ (ret1 (hp := ?_))
    have e1 : (decide ((digs n).getD (Int.toNat 0) 0 % 2 = 0)) = decide (n % 2 = 0) := by
      rw [show Int.toNat 0 = 0 from rfl, e0]
      congr 1
      apply propext
      omega
    rw [e1]
  · simp only [Bool.false_eq_true, if_false] at h0
    have hn : n = 0 := hz.1 h0
    subst hn
    refine walk (hQ := ?_)
    exact hR _ (ret1 (hp := rfl))
end Go.VS.YtiaijoomngefnaaGreatDoor


namespace Go.VS.YtiaijoomngefnaaGreatDoor
open Go Go.VL Go.VN Go.RowKit Go.Proofs
set_option maxRecDepth 100000
set_option linter.unusedVariables false

theorem r_half (n : Nat) (ln : (digs n).length ≤ 100000) : Spc X 91 [.one (slc eI (digs n))] (.one (slc eI (digs (n / 2)))) := by
  refine Spc.start Tryz.func91 rfl (h := fun hs R hR => ?_)
  unfold Tryz.f91
  simp only [entryE, PA.av]
  have ha := dig_digs n
  have ev : n = (val (digs n)).toNat := by rw [val_digs]; rfl
  refine walk (hQ := ?_)
  rw [ev] at hR
  clear ev hs
  generalize digs n = a at *
  refine Lp.intro2 (fun (i : Nat) (q : List Int) => ⟨[(0, vP (slc eI a)), (3, .one (.own 0 1 a.length)), (4, vI ((top a i % 2 : Nat) : Int)), (5, vI ((i : Int) - 1))], [(0, (.pu 3 (q.flatMap eI), false))], 1⟩)
    (fun i q => i ≤ a.length ∧ q.length = a.length ∧ Dig q ∧ (∀ p : Nat, p < i → rd q p = 0) ∧ val q = 10000 ^ i * ((top a i / 2 : Nat) : Int)) (fun i _ => i) a.length (List.replicate a.length 0)
    ⟨Nat.le_refl _, by simp, dig_zeros _, fun p _ => rd_zeros _ p, by rw [top_len, val_zeros]; simp⟩ (h0 := le_auto (he := ⟨⟨_, rfl, avLe_refl _⟩, ⟨_, rfl, avLe_refl _⟩, ⟨_, rfl, avLe_i (by rw [top_len]; rfl)⟩, ⟨_, rfl, avLe_refl _⟩, trivial⟩)) (hr := fun i q K ⟨hi, hq, hd, hz, hv⟩ hK => ?_)
  refine walk (hQ := ?_)
  refine W_if (ht := fun h1 => ?_) (hf := fun h1 => ?_)
  · obtain ⟨j, rfl⟩ : ∃ j, i = j + 1 := ⟨i - 1, by omega⟩
    have e0 : ((j + 1 : Nat) : Int) - 1 = (j : Int) := by omega
    rw [e0]
    have hx : 0 ≤ a.getD j 0 ∧ a.getD j 0 < 10000 := dig_rd ha j
    obtain ⟨d, hdx⟩ := Int.eq_ofNat_of_zero_le hx.1
    have hd4 : d < 10000 := by omega
    have ht := top_step ha (i := j) (by omega)
    have hrd : rd a j = (d : Int) := hdx
    rw [hrd, Int.toNat_natCast] at ht
    have hT : top a j / 2 = 10000 * (top a (j + 1) / 2) + (d + 10000 * (top a (j + 1) % 2)) / 2 := by omega
    have hM : top a j % 2 = (d + 10000 * (top a (j + 1) % 2)) % 2 := by omega
    generalize hc : top a (j + 1) % 2 = c at *
    have hc2 : c ≤ 1 := by omega
    refine walk (hQ := ?_)
    have e1 : ((c : Int) * 10000 + a.getD j 0) / 2 = (((d + 10000 * c) / 2 : Nat) : Int) := by omega
    have e2 : ((c : Int) * 10000 + a.getD j 0) % 2 = ((top a j % 2 : Nat) : Int) := by omega
    rw [e1, e2]
    have hdd : Dig (q.set j (((d + 10000 * c) / 2 : Nat) : Int)) := hd.set _ (by omega) (by omega)
    refine hK _ j _ ⟨by omega, by rw [List.length_set]; exact hq, hdd, fun p hp => ?_, ?_⟩ (by omega) le_auto
    · rw [rd_set _ _ _ _ (by omega), if_neg (by omega)]; exact hz p (by omega)
    · rw [half_val (by omega) (hz j (by omega)) rfl hv, hT]
  · obtain rfl : i = 0 := by omega
    refine walk (hQ := ?_)
    refine R_callF (r_trim q) (hK := ?_)
    refine walk (hQ := ?_)
    refine hR _ (ret1 (hp := ?_))
    rw [tr_digs hd, hv, top_zero, Int.pow_zero, Int.one_mul]; rfl
end Go.VS.YtiaijoomngefnaaGreatDoor


namespace Go.VS.YtiaijoomngefnaaGreatDoor
open Go Go.VL Go.VN Go.RowKit Go.Proofs
set_option maxRecDepth 100000
set_option linter.unusedVariables false

/-- A row of numbers. -/
def eN (l : List Int) : List PV := [slc eI l]
theorem r_Few (l : List (List Int)) (most : Int) (hl : l.length ≤ 1000) (hb : ∀ a ∈ l, a.length ≤ 1000000000000000) : Spc X 23 [.one (slc eN l), .one (.int .i64 most)] (.one (.bool (decide (((l.map fun a => (a.length : Int)).sum) ≤ most)))) := by
  refine Spc.start Tryz.func23 rfl (h := fun hs R hR => ?_)
  unfold Tryz.f23
  simp only [entryE, PA.av]
  refine walk (hQ := ?_)
  refine Lp.intro2 (fun (i : Nat) (n : Int) => ⟨[(0, vP (slc eN l)), (1, vP (.int .i64 most)), (5, vI n), (6, vI i)], [], 0⟩) (fun i n => i ≤ l.length ∧ n = ((l.take i).map fun a => (a.length : Int)).sum ∧ 0 ≤ n ∧ n ≤ i * 1000000000000000) (fun i _ => l.length - i) 0 0 ⟨Nat.zero_le _, by simp, by omega, by omega⟩ (h0 := le_auto) (hr := fun i n K ⟨hi, hn, n0, n1⟩ hK => ?_)
  refine walk (hQ := ?_)
  refine W_if (ht := fun h1 => ?_) (hf := fun h1 => ?_)
  · have hm : (l.getD i default).length ≤ 1000000000000000 := by
      rw [List.getD_eq_getElem?_getD, List.getElem?_eq_getElem (show i < l.length by omega)]
      exact hb _ (List.getElem_mem _)
    refine walk (hQ := ?_)
    refine hK _ (i + 1) (n + ((l.getD i default).length : Int)) ⟨by omega, ?_, by omega, by omega⟩ (by omega) le_auto
    have hil : i < l.length := by omega
    have e : l.getD i default = l[i] := by rw [List.getD_eq_getElem?_getD, List.getElem?_eq_getElem hil]; rfl
    rw [List.take_succ_eq_append_getElem hil, List.map_append, List.sum_append, ← hn, e]
    simp
  · obtain rfl : i = l.length := by omega
    rw [List.take_length] at hn
    refine walk (hQ := ?_)
    exact hR _ (ret1 (hp := by rw [hn]))
end Go.VS.YtiaijoomngefnaaGreatDoor


namespace Go.VS.YtiaijoomngefnaaGreatDoor
open Go Go.VL Go.VN Go.RowKit Go.Proofs
set_option maxRecDepth 100000
set_option linter.unusedVariables false

theorem r_evenT {x : Nat} (h : x % 2 = 0) : Spc X 90 [.one (slc eI (digs x))] (.one (.bool true)) := by
  have := r_even x
  rwa [decide_eq_true h] at this
theorem r_evenF {x : Nat} (h : ¬ x % 2 = 0) : Spc X 90 [.one (slc eI (digs x))] (.one (.bool false)) := by
  have := r_even x
  rwa [decide_eq_false h] at this
theorem r_double (x : Nat) (h : (digs x).length ≤ 1000000) : Spc X 94 [.one (slc eI (digs x)), .one (slc eI (digs x))] (.one (slc eI (digs (x + x)))) := by
  have := r_sum (digs x) (digs x) (dig_digs x) (dig_digs x) h h
  rw [val_digs] at this
  have e : ((x : Int) + (x : Int)).toNat = x + x := by omega
  rwa [e] at this
theorem r_Gcd (a b : List Int) : Spc X 56 [nt a, nt b] (nr (gcdR a b)) := by
  refine Spc.start Tryz.func56 rfl (h := fun hs R hR => ?_)
  unfold Tryz.f56
  simp only [entryE, PA.av, List.map_cons, List.map_nil]
  refine walk (hQ := ?_)
  have va := r_Valid a
  have vb := r_Valid b
  unfold gcdR at hR
  cases ha : validB a with
  | false =>
    rw [ha] at va
    rw [ha, if_neg (by simp)] at hR
    refine R_call va (hK := ?_)
    refine walk (hQ := ?_)
    exact hR _ (ret2 (hp := rfl))
  | true =>
    rw [ha] at va
    refine R_call va (hK := ?_)
    refine walk (hQ := ?_)
    cases hb : validB b with
    | false =>
      rw [hb] at vb
      rw [hb, if_neg (by simp)] at hR
      refine R_call vb (hK := ?_)
      refine walk (hQ := ?_)
      exact hR _ (ret2 (hp := rfl))
    | true =>
      rw [hb] at vb
      rw [ha, hb, if_pos (by simp)] at hR
      obtain ⟨ea, la, da⟩ := valid_digs ha
      obtain ⟨eb, lb, db⟩ := valid_digs hb
      refine R_call vb (hK := ?_)
      refine walk (hQ := ?_)
      generalize hm : (val a).toNat = m at *
      generalize hn : (val b).toNat = n at *
      subst ea eb
      have hz := len_zero m
      refine W_if (ht := fun h0 => ?_) (hf := fun h0 => ?_)
      · have h1 : m = 0 := hz.1 h0
        subst h1
        rw [Nat.gcd_zero_left] at hR
        refine walk (hQ := ?_)
        exact hR _ (ret2 (hp := rfl))
      · have hm0 : 0 < m := by
          rcases Nat.eq_zero_or_pos m with h | h
          · exact absurd (hz.2 h) h0
          · exact h
        refine walk (hQ := ?_)
        have lB : (digs (m + n)).length ≤ 400 := by
          have := add_len' m n 200 la lb
          omega
        refine Lp.intro3 (fun (x y t : Nat) => ⟨[(4, .one (.ptr 2 0)), (6, vP (slc eI (digs x))), (7, vP (slc eI (digs y))), (8, vI t)], [(2, (.mx [.pv .nil], false))], 3⟩)
          (fun x y t => 0 < x ∧ x * 2 ^ t ≤ m + n ∧ y * 2 ^ t ≤ m + n ∧ Nat.gcd x y * 2 ^ t = Nat.gcd m n) (fun x y _ => x + y) m n 0 ⟨hm0, by omega, by omega, by omega⟩ (h0 := le_auto) (hr := fun x y t K ⟨hx, hxB, hyB, hg⟩ hK => ?_)
        have hp : 0 < 2 ^ t := Nat.pow_pos (by decide)
        have lx := len_of_lt (Nat.le_trans (Nat.le_mul_of_pos_right x hp) hxB)
        have ly := len_of_lt (Nat.le_trans (Nat.le_mul_of_pos_right y hp) hyB)
        have ht : t ≤ 6000 := by
          rcases Nat.lt_or_ge 6000 t with h | h
          · exact (big_pow (m + n) t lB h (Nat.le_trans (Nat.le_mul_of_pos_left _ hx) hxB)).elim
          · exact h
        have hzy := len_zero y
        refine walk (hQ := ?_)
        refine W_if (ht := fun h0 => ?_) (hf := fun h0 => ?_)
        · have hy : 0 < y := by
            rcases Nat.eq_zero_or_pos y with h | h
            · have := hzy.2 h; omega
            · exact h
          refine walk (hQ := ?_)
          by_cases ex : x % 2 = 0
          · refine R_call (r_evenT ex) (hK := ?_)
            refine walk (hQ := ?_)
            by_cases ey : y % 2 = 0
            · refine R_call (r_evenT ey) (hK := ?_)
              refine walk (hQ := ?_)
              refine R_call (r_half x (by omega)) (hK := ?_)
              refine walk (hQ := ?_)
              refine R_call (r_half y (by omega)) (hK := ?_)
              refine walk (hQ := ?_)
              have e2 : ∀ z, z % 2 = 0 → z / 2 * 2 ^ (t + 1) = z * 2 ^ t := fun z hz => by
                obtain ⟨u, rfl⟩ : ∃ u, z = 2 * u := ⟨z / 2, by omega⟩
                rw [Nat.mul_div_cancel_left _ (by decide), Nat.pow_succ]
                grind
              refine hK _ (x / 2) (y / 2) (t + 1) ⟨by omega, by rw [e2 x ex]; exact hxB, by rw [e2 y ey]; exact hyB, ?_⟩ (by omega) le_auto
              rw [← hg, gcd_two ex ey, Nat.pow_succ]
              grind
            · refine R_call (r_evenF ey) (hK := ?_)
              refine walk (hQ := ?_)
              refine R_call (r_evenT ex) (hK := ?_)
              refine walk (hQ := ?_)
              refine R_call (r_half x (by omega)) (hK := ?_)
              refine walk (hQ := ?_)
              refine hK _ (x / 2) y t ⟨by omega, Nat.le_trans (Nat.mul_le_mul_right _ (Nat.div_le_self x 2)) hxB, hyB, ?_⟩ (by omega) le_auto
              rw [← hg, gcd_half_l ex ey]
          · refine R_call (r_evenF ex) (hK := ?_)
            refine walk (hQ := ?_)
            refine R_call (r_evenF ex) (hK := ?_)
            refine walk (hQ := ?_)
            by_cases ey : y % 2 = 0
            · refine R_call (r_evenT ey) (hK := ?_)
              refine walk (hQ := ?_)
              refine R_call (r_half y (by omega)) (hK := ?_)
              refine walk (hQ := ?_)
              refine hK _ x (y / 2) t ⟨hx, hxB, Nat.le_trans (Nat.mul_le_mul_right _ (Nat.div_le_self y 2)) hyB, ?_⟩ (by omega) le_auto
              rw [← hg, gcd_half_r ex ey]
            · refine R_call (r_evenF ey) (hK := ?_)
              refine walk (hQ := ?_)
              refine R_call (r_cmp _ _) (hK := ?_)
              rw [cmp_digs]
              refine walk (hQ := ?_)
              have hsg := sgn_pos x y
              refine W_if (ht := fun h1 => ?_) (hf := fun h1 => ?_)
              · have hlt : y < x := hsg h1
                refine walk (hQ := ?_)
                refine R_call (r_less x y (by omega) (by omega)) (hK := ?_)
                refine walk (hQ := ?_)
                refine hK _ y (x - y) t ⟨by omega, hyB, Nat.le_trans (Nat.mul_le_mul_right _ (Nat.sub_le x y)) hxB, ?_⟩ (by omega) le_auto
                rw [← hg, gcd_sub_ (show y ≤ x by omega)]
              · have hle : ¬ y < x := fun h => h1 (by unfold sgn; rw [if_neg (by omega), if_pos (by omega)]; decide)
                refine walk (hQ := ?_)
                refine R_call (r_less y x (by omega) (by omega)) (hK := ?_)
                refine walk (hQ := ?_)
                refine hK _ x (y - x) t ⟨hx, hxB, Nat.le_trans (Nat.mul_le_mul_right _ (Nat.sub_le y x)) hyB, ?_⟩ (by omega) le_auto
                rw [← hg, Nat.gcd_comm x y, gcd_sub_ (show x ≤ y by omega)]
        · have hy : y = 0 := hzy.1 (by omega)
          subst hy
          rw [Nat.gcd_zero_right] at hg
          refine walk (hQ := ?_)
          refine Lp.intro2 (fun (i z : Nat) => ⟨[(4, .one (.ptr 2 0)), (8, vI t), (9, vP (slc eI (digs z))), (10, vI i)], [(2, (.mx [.pv .nil], false))], 4⟩)
            (fun i z => i ≤ t ∧ z * 2 ^ (t - i) = Nat.gcd m n) (fun i _ => t - i) 0 x ⟨by omega, by rw [Nat.sub_zero]; exact hg⟩ (h0 := le_autoV) (hr := fun i z K' ⟨hi, hgz⟩ hK' => ?_)
          have hlz : (digs z).length ≤ 400 := by
            have h1 : z ≤ Nat.gcd m n := by rw [← hgz]; exact Nat.le_mul_of_pos_right _ (Nat.pow_pos (by decide))
            have h2 : Nat.gcd m n ≤ m + n := Nat.le_trans (Nat.gcd_le_left n hm0) (by omega)
            exact Nat.le_trans (len_of_lt (Nat.le_trans h1 h2)) lB
          refine walk (hQ := ?_)
          refine W_if (ht := fun h1 => ?_) (hf := fun h1 => ?_)
          · refine walk (hQ := ?_)
            refine R_call (r_double z (by omega)) (hK := ?_)
            refine walk (hQ := ?_)
            refine hK' _ (i + 1) (z + z) ⟨by omega, ?_⟩ (by omega) le_auto
            rw [← hgz, show t - i = (t - (i + 1)) + 1 by omega, Nat.pow_succ]
            grind
          · have hit : i = t := by omega
            subst hit
            rw [Nat.sub_self, Nat.pow_zero, Nat.mul_one] at hgz
            subst hgz
            refine walk (hQ := ?_)
            exact hR _ (ret2 (hp := rfl))
end Go.VS.YtiaijoomngefnaaGreatDoor


namespace Go.VS.YtiaijoomngefnaaGreatDoor
open Go Go.VL Go.RowKit Go.Proofs
set_option maxRecDepth 100000
set_option linter.unusedVariables false

def bdR : Go.Shelf.Ren := ⟨fun | 169 => 81 | 240 => 112 | 276 => 133 | n => n, fun | 0 => 0 | 3 => 3 | 4 => 4 | 5 => 5 | 9 => 9 | 20 => 20 | 37 => 54 | 70 => 86 | 72 => 88 | 127 => 113 | 164 => 132 | n => n, fun | n => n⟩
theorem bd240 : Go.Proofs.Lays.n240 Tryz.prog bdR := {
  mixed := by kernel_rfl
  f240 := by kernel_rfl
  f276 := by kernel_rfl
  t0 := by kernel_rfl
  a0 := fun _ => by kernel_rfl
  z0 := fun _ => by kernel_rfl
  v0 := fun _ => by kernel_rfl
  t4 := by kernel_rfl
  a4 := fun _ => by kernel_rfl
  z4 := fun _ => by kernel_rfl
  v4 := fun _ => by kernel_rfl
  t9 := by kernel_rfl
  a9 := fun _ => by kernel_rfl
  z9 := fun _ => by kernel_rfl
  v9 := fun _ => by kernel_rfl
  t20 := by kernel_rfl
  a20 := fun _ => by kernel_rfl
  z20 := fun _ => by kernel_rfl
  v20 := fun _ => by kernel_rfl
  t70 := by kernel_rfl
  a70 := fun _ => by kernel_rfl
  z70 := fun _ => by kernel_rfl
  v70 := fun _ => by kernel_rfl
  t72 := by kernel_rfl
  a72 := fun _ => by kernel_rfl
  z72 := fun _ => by kernel_rfl
  v72 := fun _ => by kernel_rfl
  t164 := by kernel_rfl
  a164 := fun _ => by kernel_rfl
  z164 := fun _ => by kernel_rfl
  v164 := fun _ => by kernel_rfl }
theorem bd169 : Go.Proofs.Lays.n169 Tryz.prog bdR := {
  mixed := by kernel_rfl
  f169 := by kernel_rfl
  t0 := by kernel_rfl
  a0 := fun _ => by kernel_rfl
  z0 := fun _ => by kernel_rfl
  v0 := fun _ => by kernel_rfl
  t3 := by kernel_rfl
  a3 := fun _ => by kernel_rfl
  z3 := fun _ => by kernel_rfl
  v3 := fun _ => by kernel_rfl
  t9 := by kernel_rfl
  a9 := fun _ => by kernel_rfl
  z9 := fun _ => by kernel_rfl
  v9 := fun _ => by kernel_rfl
  t37 := by kernel_rfl
  a37 := fun _ => by kernel_rfl
  z37 := fun _ => by kernel_rfl
  v37 := fun _ => by kernel_rfl
  t70 := by kernel_rfl
  a70 := fun _ => by kernel_rfl
  z70 := fun _ => by kernel_rfl
  v70 := fun _ => by kernel_rfl
  t72 := by kernel_rfl
  a72 := fun _ => by kernel_rfl
  z72 := fun _ => by kernel_rfl
  v72 := fun _ => by kernel_rfl
  t127 := by kernel_rfl
  a127 := fun _ => by kernel_rfl
  z127 := fun _ => by kernel_rfl
  v127 := fun _ => by kernel_rfl }
theorem bdX : Go.Proofs.Builder.Extra Tryz.prog bdR := {
  sizeBuilder := by kernel_rfl
  liesBuilder := by kernel_rfl
  t5 := by kernel_rfl
  a5 := fun _ => by kernel_rfl
  z5 := fun _ => by kernel_rfl
  v5 := fun _ => by kernel_rfl
  infoByte := by kernel_rfl
  cellsByte := by kernel_rfl
  sizeByte := by kernel_rfl
  neB5 := by decide }
theorem s_copyCheck {te : TypeId} {n : Nat} {l : List UInt8} : SpcS X 112 [.one (.ptr 1000 0)] (bdH 88 te n l) (.tup []) (bdH 88 te n l) := copyCheck_spc (X := X) bd240 bdX.toX72
theorem s_String (l : List UInt8) : SpcS X 81 [.one (.ptr 1000 0)] (bdH 88 5 l.length l) (.one (.pv (.str l))) [(1000, (.mx [.any, .any], false))] := string_spc (X := X) bd169 bdX
theorem s_WriteString (l s : List UInt8) {n : Nat} (hn : n = l.length) (hb : n + s.length ≤ 140737488355328) : SpcS X 79 [.one (.ptr 1000 0), vS s] (bdH 88 5 n l) (.tup [(false, [.pv (.int .i64 s.length)]), (false, [.pv (.lit .nilIface)])]) (bdH 88 5 (n + s.length) (l ++ s)) := by
  refine SpcS.start 1 Tryz.func79 rfl (h := fun hs hH R hR => ?_)
  unfold Tryz.f79
  simp only [entryV, bdH]
  refine walk (hQ := ?_)
  refine R_callB 0 s_copyCheck (hK := ?_)
  refine walk (hQ := ?_)
  refine hR _ (retS2 (hy := rfl) (hle := ⟨rfl, rfl, trivial⟩))
end Go.VS.YtiaijoomngefnaaGreatDoor


namespace Go.VS.YtiaijoomngefnaaGreatDoor
open Go Go.VL Go.RowKit Go.Proofs
set_option maxRecDepth 100000
set_option linter.unusedVariables false

theorem s_Itoa (z : Int) : Spc X 80 [.one (.int .i64 z)] (.one (.str (Lib.itoa z))) :=
  spc_int (ent_of2 (P := X.P) Tryz.func80 (by kernel_rfl) (by kernel_rfl)) fun w hG h0 h1 => (Tryz.strconv_Itoa z h0 h1 w hG.2).mono fun e w' ⟨he, k, os, hw⟩ => ⟨_, he, .str _ (Nat.le_trans (Lib.itoa_length_le z h0 h1) (by decide)), by rw [hw]; exact Lib.below_grow _ w (Nat.le_refl _) k os⟩
theorem s_Atoi (s : List UInt8) (v : Int) (hs : s.length ≤ 9223372036854775806) (h : Lib.atoiAll s = .ok v) (hv : -9223372036854775808 ≤ v ∧ v ≤ 9223372036854775807) : Spc X 98 [.one (.str s)] (.tup [(false, [.int .i64 v]), (false, [.lit .nilIface])]) :=
  spc_str (ent_of2 (P := X.P) Tryz.func98 (by kernel_rfl) (by kernel_rfl)) fun w hG h0 => (Tryz.strconv_Atoi_ok ⟨s.toArray⟩ (by simpa [ByteArray.size] using hs) v h w).mono fun e w' ⟨he, hw⟩ => ⟨_, he, ⟨#[.int .i64 v, .nilIface], rfl, rfl, fun j x hj => by
    match j, hj with
    | 0, hj => cases hj; exact ⟨_, rfl, _, rfl, .int _ _ ((Go.VL.range_i64 v).2 hv)⟩
    | 1, hj => cases hj; exact ⟨_, rfl, _, rfl, .lit _ rfl⟩⟩, by
      rcases hw with rfl | ⟨t, rfl⟩
      · exact Below.refl _ _
      · exact Go.Joins.below_bytesWorld _ _ _ _ (Nat.le_refl _)⟩
theorem s_Trim (s c : List UInt8) (hc : c.length < 4294967281) (ha : (c.all fun b => decide (b.toNat < 128)) = true) : Spc X 97 [.one (.str s), .one (.str c)] (.one (.str (Lib.trimS s c))) :=
  spc_str2 (ent_of2 (P := X.P) Tryz.func97 (by kernel_rfl) (by kernel_rfl)) fun w hG h0 _ => (Any.strings_Trim_laid Tryz.lays160 (by kernel_rfl) ⟨s.toArray⟩ ⟨c.toArray⟩ w (by simpa [ByteArray.size] using h0) (by simpa [ByteArray.size] using hc) (fun j b hb => by
      have := List.all_eq_true.1 ha b (List.mem_of_getElem? hb)
      simpa using this)).mono fun e w' ⟨he, hw⟩ => ⟨_, he, .str _ (Nat.le_trans (trimS_len s c) h0), hw⟩
end Go.VS.YtiaijoomngefnaaGreatDoor


namespace Go.VS.YtiaijoomngefnaaGreatDoor
open Go Go.VL Go.VN Go.RowKit Go.Proofs
set_option maxRecDepth 100000
set_option linter.unusedVariables false

def ofR (z : Int) : List Int × Int := if z < 0 then ([], 6) else (digs z.toNat, 0)
theorem s_Of (z : Int) : Spc X 89 [.one (.int .i64 z)] (nr (ofR z)) := by
  refine Spc.start Tryz.func89 rfl (h := fun hs R hR => ?_)
  unfold Tryz.f89
  simp only [entryE, PA.av]
  unfold ofR at hR
  have hz := sane_i64 hs.1
  refine walk (hQ := ?_)
  refine W_if (ht := fun h0 => ?_) (hf := fun h0 => ?_)
  · rw [if_pos h0] at hR
    refine walk (hQ := ?_)
    exact hR _ (ret2 (hp := rfl))
  · rw [if_neg h0] at hR
    obtain ⟨m, rfl⟩ := Int.eq_ofNat_of_zero_le (show 0 ≤ z by omega)
    rw [Int.toNat_natCast] at hR
    refine walk (hQ := ?_)
    refine Lp.intro2 (fun (acc : List Int) (n : Nat) => ⟨[(0, vI n), (2, .one (.ptr 0 0)), (4, .one (.own 1 1 acc.length))], [(0, (.mx [.pv .nil], false)), (1, (.pu 3 (acc.flatMap eI), false))], 2⟩) (fun acc n => acc ++ digs n = digs m ∧ n ≤ m) (fun _ n => n) [] m ⟨rfl, Nat.le_refl _⟩ (h0 := le_ghost1 1 3 (hle := le_auto)) (hr := fun acc n K ⟨he, hn⟩ hK => ?_)
    have hl : acc.length ≤ 5 := by
      have h1 := digs_len m (by omega)
      rw [← he, List.length_append] at h1
      omega
    refine walk (hQ := ?_)
    refine W_if (ht := fun h1 => ?_) (hf := fun h1 => ?_)
    · refine walk (hQ := ?_)
      have e1 : (n : Int) / 10000 = ((n / 10000 : Nat) : Int) := by omega
      have e2 : (n : Int) % 10000 = ((n % 10000 : Nat) : Int) := by omega
      rw [e1, e2]
      refine hK _ (acc ++ [((n % 10000 : Nat) : Int)]) (n / 10000) ⟨?_, by omega⟩ (by omega) le_auto
      rw [← he, digs_pos n (by omega), List.append_assoc]; rfl
    · have h2 : n = 0 := by omega
      subst h2
      rw [digs_zero, List.append_nil] at he
      refine walk (hQ := ?_)
      refine R_callF (s_of acc) (hK := ?_)
      rw [he, tr_digs_id]
      refine walk (hQ := ?_)
      exact hR _ (ret2 (hp := rfl))
end Go.VS.YtiaijoomngefnaaGreatDoor


namespace Go.VS.YtiaijoomngefnaaGreatDoor
open Go Go.VL Go.VN Go.RowKit Go.Proofs
set_option maxRecDepth 100000
set_option linter.unusedVariables false

theorem s_Format (a : List Int) : Spc X 45 [nt a] (sr (fmtR a)) := by
  refine Spc.start Tryz.func45 rfl (h := fun hs R hR => ?_)
  unfold Tryz.f45
  simp only [entryE, PA.av, List.map_cons, List.map_nil]
  refine walk (hQ := ?_)
  have va := s_Valid a
  unfold fmtR at hR
  cases ha : validB a with
  | false =>
    rw [ha] at va
    rw [ha, if_neg (by simp)] at hR
    refine R_call va (hK := ?_)
    refine walk (hQ := ?_)
    exact hR _ (ret2 (hp := rfl))
  | true =>
    rw [ha] at va
    rw [ha, if_pos rfl] at hR
    obtain ⟨la, da⟩ := valid_bounds ha
    refine R_call va (hK := ?_)
    refine walk (hQ := ?_)
    refine W_if (ht := fun h0 => ?_) (hf := fun h0 => ?_)
    · obtain rfl : a = [] := List.eq_nil_of_length_eq_zero (by omega)
      refine walk (hQ := ?_)
      exact hR _ (ret2 (hp := rfl))
    · refine walk (hQ := ?_)
      have ej : ((a.length : Int) - 1).toNat = a.length - 1 := by omega
      rw [ej]
      have hd := da (a.length - 1)
      refine R_call (s_Itoa _) (hK := ?_)
      refine walk (hQ := ?_)
      have hl := itoa4 hd.1 hd.2
      refine R_callB 2 (s_WriteString [] (Lib.itoa (a.getD (a.length - 1) 0)) (n := 0) rfl (by omega)) (hK := ?_)
      refine walk (hQ := ?_)
      refine Lp.intro (fun (i : Nat) => ⟨[(1, .one (.ptr 0 0)), (4, .one (.ptr 1 0)), (6, vI ((i : Int) - 1))], [(0, (.mx [.pv (slc eI a)], false)), (1, (.mx [.adr 1 88 2, .own 2 1 (fmtL (a.drop i)).length], false)), (2, (.pu 5 ((fmtL (a.drop i)).flatMap eU), false))], 3⟩) (fun i => i < a.length) (fun i => i) (a.length - 1) (by omega) (h0 := ?_) (hr := fun i K hi hK => ?_)
      · rw [fmtL_last (by omega)]
        simp only [Nat.zero_add, List.nil_append]
        exact le_auto (hh := ⟨rfl, rfl, rfl, trivial⟩)
      refine walk (hQ := ?_)
      refine W_if (ht := fun h1 => ?_) (hf := fun h1 => ?_)
      · obtain ⟨j, rfl⟩ : ∃ j, i = j + 1 := ⟨i - 1, by omega⟩
        have e0 : ((j + 1 : Nat) : Int) - 1 = (j : Int) := by omega
        rw [e0]
        have hd := da j
        have hl := itoa4 hd.1 hd.2
        refine walk (hQ := ?_)
        refine R_call (s_Itoa _) (hK := ?_)
        refine walk (hQ := ?_)
        refine R_sadd (hr := pad4_sum hd.1 hd.2) (hK := ?_)
        refine walk (hQ := ?_)
        have hlen := fmtL_len da (a.length - 1 - (j + 1)) (by omega)
        rw [show a.length - 1 - (a.length - 1 - (j + 1)) = j + 1 by omega] at hlen
        have hp := pad4_len hd.1 hd.2
        refine R_callB 2 (s_WriteString (fmtL (a.drop (j + 1))) (pad4 (a.getD j 0)) rfl (by omega)) (hK := ?_)
        refine walk (hQ := ?_)
        refine hK _ j (by omega) (by omega) ?_
        rw [fmtL_drop (show j + 1 < a.length by omega), List.length_append]
        exact le_auto (hh := ⟨rfl, rfl, rfl, trivial⟩)
      · obtain rfl : i = 0 := by omega
        refine walk (hQ := ?_)
        rw [List.drop_zero]
        refine R_callBC 2 (s_String (fmtL a)) (hK := ?_)
        refine walk (hQ := ?_)
        exact hR _ (ret2 (hp := rfl))
end Go.VS.YtiaijoomngefnaaGreatDoor


namespace Go.VS.YtiaijoomngefnaaGreatDoor
open Go Go.VL Go.VN Go.RowKit Go.Proofs
set_option maxRecDepth 100000
set_option linter.unusedVariables false

theorem s_Parse (s : List UInt8) : Spc X 59 [.one (.str s)] (nr (parseL s)) := by
  refine Spc.start Tryz.func59 rfl (h := fun hs R hR => ?_)
  unfold Tryz.f59
  simp only [entryE, PA.av]
  refine walk (hQ := ?_)
  refine R_g_if (h1 := fun h0 => ?_) (h2 := fun h0 => ?_)
  · simp only [Bool.false_eq_true, if_false] at h0
    refine walk (hQ := ?_)
    refine R_g_if (h1 := fun h1 => ?_) (h2 := fun h1 => ?_)
    · simp only [if_true] at h1
      have h2 : 0 < s.length := List.length_pos_iff.2 h0
      refine walk (hQ := ?_)
      refine R_g_if (h1 := fun h3 => ?_) (h2 := fun h3 => ?_)
      · simp only [Bool.false_eq_true, if_false] at h3
        have h4 : s = [48] ∨ s.getD 0 0 ≠ 48 := .inr fun e => h3 (by show ((s.getD 0 0).toNat : Int) = 48; rw [e]; rfl)
        refine walk (hQ := ?_)
        refine R_call (s_Trim s decSet (by decide) (by decide)) (hK := ?_)
        refine walk (hQ := ?_)
        have hb := bad_ok h0 h4
        refine W_if (ht := fun h5 => ?_) (hf := fun h5 => ?_)
        · have h6 : bad s = true := hb.2 fun hd => h5 ((trimS_dec s).2 hd)
          refine walk (hQ := ?_)
          refine hR _ (ret2 (hp := ?_))
          unfold parseL
          rw [if_pos h6]; rfl
        · have hd : Dec s := (trimS_dec s).1 (by simpa using h5)
          have h6 : ¬ bad s = true := fun e => hb.1 e hd
          unfold parseL at hR
          rw [if_neg h6] at hR
          refine walk (hQ := ?_)
          refine W_if (ht := fun h7 => ?_) (hf := fun h7 => ?_)
          · rw [if_pos (show s.length > 800 by omega)] at hR
            refine walk (hQ := ?_)
            exact hR _ (ret2 (hp := rfl))
          · rw [if_neg (show ¬ s.length > 800 by omega)] at hR
            refine walk (hQ := ?_)
            refine Lp.intro2 (fun (acc : List Int) (c : List UInt8) => ⟨[(0, vS c), (2, .one (.ptr 0 0)), (4, .one (.own 1 1 acc.length))], [(0, (.mx [.pv .nil], false)), (1, (.pu 3 (acc.flatMap eI), false))], 2⟩) (fun acc c => acc ++ nums c = nums s ∧ Dec c ∧ c.length ≤ 800) (fun _ c => c.length) [] s ⟨rfl, hd, by omega⟩ (h0 := le_ghost1 1 3 (hle := le_auto)) (hr := fun acc c K ⟨he, hdc, hlc⟩ hK => ?_)
            have hla : acc.length ≤ 1000 := by
              have h8 := congrArg List.length he
              have h9 := nums_len s
              rw [List.length_append] at h8
              omega
            refine walk (hQ := ?_)
            refine W_if (ht := fun h8 => ?_) (hf := fun h8 => ?_)
            · have hne : c ≠ [] := fun e => by rw [e] at h8; simp at h8
              refine walk (hQ := ?_)
              have e1 : max ((c.length : Int) - 4) 0 = ((c.length - 4 : Nat) : Int) := by omega
              rw [e1, Int.toNat_natCast]
              have hdd : Dec (c.drop (c.length - 4)) := hdc.drop _
              have hdl : (c.drop (c.length - 4)).length ≤ 4 := by rw [List.length_drop]; omega
              have hdn : c.drop (c.length - 4) ≠ [] := fun e => by have := congrArg List.length e; rw [List.length_drop, List.length_nil] at this; omega
              have hdv := dv_lt hdd
              have hdv2 : 10 ^ (c.drop (c.length - 4)).length ≤ 10 ^ 4 := Nat.pow_le_pow_right (by decide) hdl
              refine R_call (s_Atoi (c.drop (c.length - 4)) _ (by omega) (atoi_dec hdd hdn (by omega)) (by omega)) (hK := ?_)
              refine walk (hQ := ?_)
              refine hK _ (acc ++ [(dv (c.drop (c.length - 4)) : Int)]) (c.take (c.length - 4)) ⟨?_, hdc.take _, by rw [List.length_take]; omega⟩ (by rw [List.length_take]; omega) le_auto
              rw [← he, nums_cons c hne, List.append_assoc]; rfl
            · have hc : c = [] := List.eq_nil_of_length_eq_zero (by omega)
              rw [hc, nums_nil, List.append_nil] at he
              refine walk (hQ := ?_)
              refine R_callF (s_of acc) (hK := ?_)
              rw [he]
              refine walk (hQ := ?_)
              exact hR _ (ret2 (hp := rfl))
      · simp only [Bool.false_eq_true, if_false] at h3
        have h4 : s.getD 0 0 = 48 := by
          have h5 : ((s.getD 0 0).toNat : Int) = 48 := h3
          exact UInt8.toNat_inj.1 (by show (s.getD 0 0).toNat = 48; omega)
        refine walk (hQ := ?_)
        refine hR _ (ret2 (hp := ?_))
        unfold parseL
        rw [if_pos (bad_zero h0 h1 h4)]
        rfl
    · simp only [if_true, Decidable.not_not] at h1
      have h4 : s = [48] ∨ s.getD 0 0 ≠ 48 := .inl h1
      refine walk (hQ := ?_)
      refine R_call (s_Trim s decSet (by decide) (by decide)) (hK := ?_)
      refine walk (hQ := ?_)
      have hb := bad_ok h0 h4
      refine W_if (ht := fun h5 => ?_) (hf := fun h5 => ?_)
      · have h6 : bad s = true := hb.2 fun hd => h5 ((trimS_dec s).2 hd)
        refine walk (hQ := ?_)
        refine hR _ (ret2 (hp := ?_))
        unfold parseL
        rw [if_pos h6]; rfl
      · have hd : Dec s := (trimS_dec s).1 (by simpa using h5)
        have h6 : ¬ bad s = true := fun e => hb.1 e hd
        unfold parseL at hR
        rw [if_neg h6] at hR
        refine walk (hQ := ?_)
        refine W_if (ht := fun h7 => ?_) (hf := fun h7 => ?_)
        · rw [if_pos (show s.length > 800 by omega)] at hR
          refine walk (hQ := ?_)
          exact hR _ (ret2 (hp := rfl))
        · rw [if_neg (show ¬ s.length > 800 by omega)] at hR
          refine walk (hQ := ?_)
          refine Lp.intro2 (fun (acc : List Int) (c : List UInt8) => ⟨[(0, vS c), (2, .one (.ptr 0 0)), (4, .one (.own 1 1 acc.length))], [(0, (.mx [.pv .nil], false)), (1, (.pu 3 (acc.flatMap eI), false))], 2⟩) (fun acc c => acc ++ nums c = nums s ∧ Dec c ∧ c.length ≤ 800) (fun _ c => c.length) [] s ⟨rfl, hd, by omega⟩ (h0 := le_ghost1 1 3 (hle := le_auto)) (hr := fun acc c K ⟨he, hdc, hlc⟩ hK => ?_)
          have hla : acc.length ≤ 1000 := by
            have h8 := congrArg List.length he
            have h9 := nums_len s
            rw [List.length_append] at h8
            omega
          refine walk (hQ := ?_)
          refine W_if (ht := fun h8 => ?_) (hf := fun h8 => ?_)
          · have hne : c ≠ [] := fun e => by rw [e] at h8; simp at h8
            refine walk (hQ := ?_)
            have e1 : max ((c.length : Int) - 4) 0 = ((c.length - 4 : Nat) : Int) := by omega
            rw [e1, Int.toNat_natCast]
            have hdd : Dec (c.drop (c.length - 4)) := hdc.drop _
            have hdl : (c.drop (c.length - 4)).length ≤ 4 := by rw [List.length_drop]; omega
            have hdn : c.drop (c.length - 4) ≠ [] := fun e => by have := congrArg List.length e; rw [List.length_drop, List.length_nil] at this; omega
            have hdv := dv_lt hdd
            have hdv2 : 10 ^ (c.drop (c.length - 4)).length ≤ 10 ^ 4 := Nat.pow_le_pow_right (by decide) hdl
            refine R_call (s_Atoi (c.drop (c.length - 4)) _ (by omega) (atoi_dec hdd hdn (by omega)) (by omega)) (hK := ?_)
            refine walk (hQ := ?_)
            refine hK _ (acc ++ [(dv (c.drop (c.length - 4)) : Int)]) (c.take (c.length - 4)) ⟨?_, hdc.take _, by rw [List.length_take]; omega⟩ (by rw [List.length_take]; omega) le_auto
            rw [← he, nums_cons c hne, List.append_assoc]; rfl
          · have hc : c = [] := List.eq_nil_of_length_eq_zero (by omega)
            rw [hc, nums_nil, List.append_nil] at he
            refine walk (hQ := ?_)
            refine R_callF (s_of acc) (hK := ?_)
            rw [he]
            refine walk (hQ := ?_)
            exact hR _ (ret2 (hp := rfl))
  · simp only [Bool.false_eq_true, if_false] at h0
    refine walk (hQ := ?_)
    refine hR _ (ret2 (hp := ?_))
    rw [show s = [] from h0]; rfl
end Go.VS.YtiaijoomngefnaaGreatDoor


namespace Go.VS.YtiaijoomngefnaaGreatDoor
open Go Go.VL Go.VN Go.RowKit Go.Proofs
set_option maxRecDepth 100000
set_option linter.unusedVariables false

theorem s_Index1 (s : List UInt8) (c : UInt8) (hl : s.length ≤ 140737488355328) : Spc X 120 [.one (.str s), .one (.str [c])] (.one (.int .i64 (Lib.indexByte s c))) :=
  spc_str2 (ent_of2 (P := X.P) Tryz.func120 (by kernel_rfl) (by kernel_rfl)) fun w hG h0 _ => (Tryz.stringslite_Index_one ⟨s.toArray⟩ c w).mono fun e w' ⟨he, hw⟩ => ⟨_, he, .int _ _ ((Go.VL.range_i64 _).2 (by
    have h1 := Lib.indexByte_ge s c
    have h2 : Lib.indexByte s c ≤ 140737488355328 := by
      by_cases hm : c ∈ s
      · obtain ⟨h3, h4⟩ := (indexByte_cut c s).1 hm
        have h5 := congrArg List.length h4
        rw [List.length_append, List.length_cons] at h5
        omega
      · rw [((indexByte_cut c s).2 hm).1]; omega
    constructor <;> omega)), by rw [hw]; exact Below.refl _ _⟩
theorem s_cut1 (s : List UInt8) (c : UInt8) (hl : s.length ≤ 140737488355328) : Spc X 96 [.one (.str s), .one (.str [c])] (.tup [(false, [.str (cutL c s)]), (false, [.str (if c ∈ s then s.drop ((cutL c s).length + 1) else [])]), (false, [.bool (decide (c ∈ s))])]) := by
  refine Spc.start Tryz.func96 rfl (h := fun hs R hR => ?_)
  unfold Tryz.f96
  simp only [entryE, PA.av]
  refine walk (hQ := ?_)
  refine R_call (s_Index1 s c hl) (hK := ?_)
  by_cases hm : c ∈ s
  · obtain ⟨h3, h4⟩ := (indexByte_cut c s).1 hm
    have h5 := congrArg List.length h4
    rw [List.length_append, List.length_cons] at h5
    have h6 : (cutL c s).length + 1 ≤ s.length := by omega
    have h7 : s.take (cutL c s).length = cutL c s := (congrArg (List.take (cutL c s).length) h4).trans (List.take_left' rfl)
    rw [h3]
    simp only [hm, decide_true, if_true] at hR
    refine walk (hQ := ?_)
    rw [h7]
    exact hR _ (ret3 (hp := rfl))
  · obtain ⟨h3, h4⟩ := (indexByte_cut c s).2 hm
    rw [h3]
    simp only [hm, decide_false, if_false] at hR
    rw [h4] at hR
    refine walk (hQ := ?_)
    exact hR _ (ret3 (hp := rfl))
theorem s_Cut1 (s : List UInt8) (c : UInt8) (hl : s.length ≤ 140737488355328) : Spc X 58 [.one (.str s), .one (.str [c])] (.tup [(false, [.str (cutL c s)]), (false, [.str (if c ∈ s then s.drop ((cutL c s).length + 1) else [])]), (false, [.bool (decide (c ∈ s))])]) := by
  refine Spc.start Tryz.func58 rfl (h := fun hs R hR => ?_)
  unfold Tryz.f58
  simp only [entryE, PA.av]
  refine walk (hQ := ?_)
  refine R_call (s_cut1 s c hl) (hK := ?_)
  refine walk (hQ := ?_)
  exact hR _ (ret3 (hp := rfl))
theorem s_hasPrefix (s p : List UInt8) : Spc X 119 [.one (.str s), .one (.str p)] (.one (.bool (decide (s.take p.length = p)))) := by
  refine Spc.start Tryz.func119 rfl (h := fun hs R hR => ?_)
  unfold Tryz.f119
  simp only [entryE, PA.av]
  refine walk (hQ := ?_)
  refine R_g_if (h1 := fun h1 => ?_) (h2 := fun h1 => ?_)
  · simp only [if_true] at h1
    refine walk (hQ := ?_)
    exact hR _ (ret1 (hp := rfl))
  · simp only [if_true] at h1
    have e : decide (s.take p.length = p) = false := decide_eq_false fun e => by
      have := congrArg List.length e
      rw [List.length_take] at this
      omega
    rw [e] at hR
    refine walk (hQ := ?_)
    exact hR _ (ret1 (hp := rfl))
theorem s_cutPrefix (s p : List UInt8) : Spc X 95 [.one (.str s), .one (.str p)] (.tup [(false, [.str (if s.take p.length = p then s.drop p.length else s)]), (false, [.bool (decide (s.take p.length = p))])]) := by
  refine Spc.start Tryz.func95 rfl (h := fun hs R hR => ?_)
  unfold Tryz.f95
  simp only [entryE, PA.av]
  have hp := s_hasPrefix s p
  refine walk (hQ := ?_)
  by_cases h : s.take p.length = p
  · simp only [h, decide_true, if_true] at hp hR
    have hl : p.length ≤ s.length := by
      have := congrArg List.length h
      rw [List.length_take] at this
      omega
    refine R_call hp (hK := ?_)
    refine walk (hQ := ?_)
    exact hR _ (ret2 (hp := rfl))
  · simp only [h, decide_false, if_false] at hp hR
    refine R_call hp (hK := ?_)
    refine walk (hQ := ?_)
    exact hR _ (ret2 (hp := rfl))
theorem s_CutPrefix (s p : List UInt8) : Spc X 57 [.one (.str s), .one (.str p)] (.tup [(false, [.str (if s.take p.length = p then s.drop p.length else s)]), (false, [.bool (decide (s.take p.length = p))])]) := by
  refine Spc.start Tryz.func57 rfl (h := fun hs R hR => ?_)
  unfold Tryz.f57
  simp only [entryE, PA.av]
  refine walk (hQ := ?_)
  refine R_call (s_cutPrefix s p) (hK := ?_)
  refine walk (hQ := ?_)
  exact hR _ (ret2 (hp := rfl))
theorem s_Repeat (s : List UInt8) (n : Nat) (hl : s.length * n ≤ 140737488355328) (hn : n ≤ 1000000000000) : Spc X 62 [.one (.str s), .one (.int .i64 n)] (.one (.str (Lib.repeatL s n))) :=
  spc_strInt (ent_of2 (P := X.P) Tryz.func62 (by kernel_rfl) (by kernel_rfl)) fun w hG h0 _ _ => (Tryz.strings_Repeat ⟨s.toArray⟩ n w (by omega) (by simpa [ByteArray.size] using hl)).mono fun e w' ⟨he, hw⟩ => ⟨_, he, .str _ (Nat.le_trans (by rw [Lib.repeatL_length, Nat.mul_comm]; exact hl) (by decide)), hw⟩
end Go.VS.YtiaijoomngefnaaGreatDoor


namespace Go.VS.YtiaijoomngefnaaGreatDoor
open Go Go.VL Go.VN Go.RowKit Go.Proofs
set_option maxRecDepth 100000
set_option linter.unusedVariables false

theorem valid_N (n : Nat) (h : (digs n).length ≤ 200) : validB (digs n) = true := by
  have := valid_tr (dig_digs n) (by rw [tr_digs_id]; exact h)
  rwa [tr_digs_id] at this
theorem s_MulN (m n : Nat) (h : (digs m).length + (digs n).length ≤ 200) : Spc X 100 [nt (digs m), nt (digs n)] (nr (digs (m * n), 0)) := by
  have h1 := s_Mul (digs m) (digs n)
  have hl := mul_len m n
  unfold mulR at h1
  rw [if_pos ⟨valid_N m (by omega), valid_N n (by omega)⟩, val_digs, val_digs, ← Int.natCast_mul, Int.toNat_natCast, fit_ok _ (by omega)] at h1
  exact h1
theorem r_MulN (m n : Nat) (h : (digs m).length + (digs n).length ≤ 200) : Spc X 63 [nt (digs m), nt (digs n)] (nr (digs (m * n), 0)) := by
  have h1 := r_Mul (digs m) (digs n)
  have hl := mul_len m n
  unfold mulR at h1
  rw [if_pos ⟨valid_N m (by omega), valid_N n (by omega)⟩, val_digs, val_digs, ← Int.natCast_mul, Int.toNat_natCast, fit_ok _ (by omega)] at h1
  exact h1
theorem s_AddN (m n : Nat) (hm : (digs m).length ≤ 200) (hn : (digs n).length ≤ 200) (h : (digs (m + n)).length ≤ 200) : Spc X 73 [nt (digs m), nt (digs n)] (nr (digs (m + n), 0)) := by
  have h1 := s_Add (digs m) (digs n)
  unfold addR at h1
  rw [if_pos ⟨valid_N m hm, valid_N n hn⟩, val_digs, val_digs, Int.toNat_natCast, Int.toNat_natCast, fit_ok _ h] at h1
  exact h1
theorem s_DivN (m n : Nat) (hm : (digs m).length ≤ 200) (hn : (digs n).length ≤ 200) (h0 : n ≠ 0) : Spc X 101 [nt (digs m), nt (digs n)] (nr2 (digs (m / n), digs (m % n), 0)) := by
  have h := s_Div (digs m) (digs n)
  unfold divR at h
  rw [if_pos ⟨valid_N m hm, valid_N n hn⟩, val_digs, val_digs, Int.toNat_natCast, Int.toNat_natCast, if_neg h0] at h
  exact h
theorem s_GcdN (m n : Nat) (hm : (digs m).length ≤ 200) (hn : (digs n).length ≤ 200) : Spc X 51 [nt (digs m), nt (digs n)] (nr (digs (Nat.gcd m n), 0)) := by
  have h := s_Gcd (digs m) (digs n)
  unfold gcdR at h
  rw [if_pos ⟨valid_N m hm, valid_N n hn⟩, val_digs, val_digs, Int.toNat_natCast, Int.toNat_natCast] at h
  exact h
theorem r_SameT (a : List Int) : Spc X 47 [nt a, nt a] (.one (.bool true)) := by
  have := r_Same a a
  rwa [decide_eq_true rfl] at this
theorem r_Few2 (a b : List Int) (most : Int) (la : a.length ≤ 1000000000000000) (lb : b.length ≤ 1000000000000000) : Spc X 23 [.one (slc eN [a, b]), .one (.int .i64 most)] (.one (.bool (decide ((a.length : Int) + b.length ≤ most)))) := by
  have := r_Few [a, b] most (by simp) (by simp [la, lb])
  simpa using this
theorem sgn_neg (m n : Nat) : sgn m n < 0 ↔ m < n := by
  unfold sgn
  by_cases h1 : (m : Int) < n
  · rw [if_pos h1]; omega
  · by_cases h2 : (m : Int) > n
    · rw [if_neg h1, if_pos h2]; omega
    · rw [if_neg h1, if_neg h2]; omega
end Go.VS.YtiaijoomngefnaaGreatDoor


namespace Go.VS.YtiaijoomngefnaaGreatDoor
open Go Go.VL Go.VN Go.RowKit Go.Proofs
set_option maxRecDepth 100000
set_option linter.unusedVariables false

theorem r_Of (z : Int) : Spc X 33 [.one (.int .i64 z)] (nr (ofR z)) := by
  refine Spc.start Tryz.func33 rfl (h := fun hs R hR => ?_)
  unfold Tryz.f33
  simp only [entryE, PA.av]
  unfold ofR at hR
  have hz := sane_i64 hs.1
  refine walk (hQ := ?_)
  refine W_if (ht := fun h0 => ?_) (hf := fun h0 => ?_)
  · rw [if_pos h0] at hR
    refine walk (hQ := ?_)
    exact hR _ (ret2 (hp := rfl))
  · rw [if_neg h0] at hR
    obtain ⟨m, rfl⟩ := Int.eq_ofNat_of_zero_le (show 0 ≤ z by omega)
    rw [Int.toNat_natCast] at hR
    refine walk (hQ := ?_)
    refine Lp.intro2 (fun (acc : List Int) (n : Nat) => ⟨[(0, vI n), (2, .one (.ptr 0 0)), (4, .one (.own 1 1 acc.length))], [(0, (.mx [.pv .nil], false)), (1, (.pu 3 (acc.flatMap eI), false))], 2⟩) (fun acc n => acc ++ digs n = digs m ∧ n ≤ m) (fun _ n => n) [] m ⟨rfl, Nat.le_refl _⟩ (h0 := le_ghost1 1 3 (hle := le_auto)) (hr := fun acc n K ⟨he, hn⟩ hK => ?_)
    have hl : acc.length ≤ 5 := by
      have h1 := digs_len m (by omega)
      rw [← he, List.length_append] at h1
      omega
    refine walk (hQ := ?_)
    refine W_if (ht := fun h1 => ?_) (hf := fun h1 => ?_)
    · refine walk (hQ := ?_)
      have e1 : (n : Int) / 10000 = ((n / 10000 : Nat) : Int) := by omega
      have e2 : (n : Int) % 10000 = ((n % 10000 : Nat) : Int) := by omega
      rw [e1, e2]
      refine hK _ (acc ++ [((n % 10000 : Nat) : Int)]) (n / 10000) ⟨?_, by omega⟩ (by omega) le_auto
      rw [← he, digs_pos n (by omega), List.append_assoc]; rfl
    · have h2 : n = 0 := by omega
      subst h2
      rw [digs_zero, List.append_nil] at he
      subst he
      refine walk (hQ := ?_)
      exact hR _ (ret2 (hp := rfl))
theorem r_small (n : Nat) : Spc X 82 [.one (.int .i64 n)] (nt (digs n)) := by
  refine Spc.start Tryz.func82 rfl (h := fun hs R hR => ?_)
  unfold Tryz.f82
  simp only [entryE, PA.av]
  have h1 := r_Of (n : Int)
  unfold ofR at h1
  rw [if_neg (by omega), Int.toNat_natCast] at h1
  refine walk (hQ := ?_)
  refine R_call h1 (hK := ?_)
  refine walk (hQ := ?_)
  exact hR _ (ret1 (hp := rfl))
theorem r_Small (n : Nat) : Spc X 48 [.one (.int .i64 n)] (nt (digs n)) := by
  refine Spc.start Tryz.func48 rfl (h := fun hs R hR => ?_)
  unfold Tryz.f48
  simp only [entryE, PA.av]
  refine walk (hQ := ?_)
  have e : max (n : Int) 0 = (n : Int) := by omega
  rw [e]
  refine R_call (r_small n) (hK := ?_)
  refine walk (hQ := ?_)
  exact hR _ (ret1 (hp := rfl))
end Go.VS.YtiaijoomngefnaaGreatDoor


namespace Go.VS.YtiaijoomngefnaaGreatDoor
open Go Go.VL Go.VN Go.RowKit Go.Proofs
set_option maxRecDepth 100000
set_option linter.unusedVariables false

theorem r_Format (a : List Int) : Spc X 46 [nt a] (sr (fmtR a)) := by
  refine Spc.start Tryz.func46 rfl (h := fun hs R hR => ?_)
  unfold Tryz.f46
  simp only [entryE, PA.av, List.map_cons, List.map_nil]
  refine walk (hQ := ?_)
  have va := r_Valid a
  unfold fmtR at hR
  cases ha : validB a with
  | false =>
    rw [ha] at va
    rw [ha, if_neg (by simp)] at hR
    refine R_call va (hK := ?_)
    refine walk (hQ := ?_)
    exact hR _ (ret2 (hp := rfl))
  | true =>
    rw [ha] at va
    rw [ha, if_pos rfl] at hR
    obtain ⟨la, dig, nz⟩ := validB_parts ha
    obtain ⟨_, da⟩ := valid_bounds ha
    refine R_call va (hK := ?_)
    refine walk (hQ := ?_)
    refine Lp.intro (fun (i : Nat) => ⟨[(1, .one (.ptr 0 0)), (4, vS ((a.take i).reverse.flatMap pad4)), (5, vI i)], [(0, (.mx [.pv (slc eI a)], false))], 1⟩) (fun i => i ≤ a.length) (fun i => a.length - i) 0 (Nat.zero_le _) (h0 := le_auto) (hr := fun i K hi hK => ?_)
    refine walk (hQ := ?_)
    refine W_if (ht := fun h1 => ?_) (hf := fun h1 => ?_)
    · have hil : i < a.length := by omega
      obtain ⟨d, hd⟩ := Int.eq_ofNat_of_zero_le (da i).1
      have hd4 : d < 10000 := by have := (da i).2; omega
      have hlen : ((a.take i).reverse.flatMap pad4).length = 4 * i := by
        rw [flat_pad4_len (fun x hx => dig x (List.mem_of_mem_take (List.mem_reverse.1 hx))), List.length_reverse, List.length_take, Nat.min_eq_left hi]
      have e1 : (a.take (i + 1)).reverse.flatMap pad4 = p4 d ++ (a.take i).reverse.flatMap pad4 := by
        rw [List.take_succ_eq_append_getElem hil, List.reverse_append, List.reverse_singleton, List.singleton_append, List.flatMap_cons]
        have e2 : a[i] = (d : Int) := by rw [← hd]; simp [List.getD_eq_getElem?_getD, hil]
        rw [e2, p4_pad4 d hd4]
      generalize hs0 : (a.take i).reverse.flatMap pad4 = s0 at *
      refine walk (hQ := ?_)
      rw [hd]
      refine Lp.intro (fun (j : Nat) => ⟨[(1, .one (.ptr 0 0)), (4, vS ((p4 d).drop (4 - j) ++ s0)), (5, vI i), (6, vI (d / 10 ^ j : Nat)), (7, vI j)], [(0, (.mx [.pv (slc eI a)], false))], 1⟩) (fun j => j ≤ 4) (fun j => 4 - j) 0 (Nat.zero_le _) (h0 := ?_) (hr := fun j K' hj hK' => ?_)
      · rw [Nat.pow_zero, Nat.div_one, Nat.sub_zero, show (p4 d).drop 4 = [] from rfl, List.nil_append]
        exact le_auto
      have hpl : ((p4 d).drop (4 - j)).length = j := by rw [List.length_drop, show (p4 d).length = 4 from rfl]; omega
      have hdj : d / 10 ^ j ≤ d := Nat.div_le_self _ _
      have hstep : d / 10 ^ j / 10 = d / 10 ^ (j + 1) := by rw [Nat.div_div_eq_div_mul, Nat.pow_succ]
      have hdig : j < 4 → UInt8.ofNat (48 + d / 10 ^ j % 10) :: (p4 d).drop (4 - j) = (p4 d).drop (4 - (j + 1)) := fun h => p4_step h hd4
      generalize d / 10 ^ j = x at *
      refine walk (hQ := ?_)
      refine W_if (ht := fun h2 => ?_) (hf := fun h2 => ?_)
      · have hdg := hdig (by omega)
        generalize (p4 d).drop (4 - j) = t at *
        have hts : (t ++ s0).length ≤ 1000 := by rw [List.length_append]; omega
        refine walk (hQ := ?_)
        have e : (48 + (x : Int) % 10) = ((UInt8.ofNat (48 + x % 10)).toNat : Int) := by rw [ofNat_toNat _ (by omega)]; omega
        rw [e]
        refine R_bsl eU (l := [UInt8.ofNat (48 + x % 10)]) (hK := ?_)
        refine walk (hQ := ?_)
        have e3 : (x : Int) / 10 = ((x / 10 : Nat) : Int) := by omega
        refine hK' _ (j + 1) (by omega) (by omega) ?_
        rw [← hdg, ← hstep, e3]
        exact le_auto
      · obtain rfl : j = 4 := by omega
        rw [Nat.sub_self, List.drop_zero]
        refine walk (hQ := ?_)
        refine hK _ (i + 1) (by omega) (by omega) ?_
        rw [e1]
        exact le_auto
    · obtain rfl : i = a.length := by omega
      rw [List.take_length]
      obtain ⟨sf1, sf2⟩ := strip_fmt ha
      have hlen : (a.reverse.flatMap pad4).length ≤ 1000 := by
        rw [flat_pad4_len (fun x hx => dig x (List.mem_reverse.1 hx)), List.length_reverse]; omega
      generalize a.reverse.flatMap pad4 = s0 at *
      refine walk (hQ := ?_)
      refine Lp.intro (fun (c : List UInt8) => ⟨[(4, vS c)], [(0, (.mx [.pv (slc eI a)], false))], 1⟩) (fun c => stripZ c = stripZ s0 ∧ c.length ≤ 1000) (fun c => c.length) s0 ⟨rfl, hlen⟩ (h0 := le_auto) (hr := fun c K ⟨hc, hl⟩ hK => ?_)
      refine walk (hQ := ?_)
      have key : (c.length ≤ 1 ∨ c.getD 0 0 ≠ 48) → (c = [] → fmtL a = [48]) ∧ (c ≠ [] → fmtL a = c) := fun h => by
        have h5 := stripZ_stop h
        rw [hc] at h5
        refine ⟨fun e0 => ?_, fun e0 => ?_⟩
        · by_cases ha0 : a = []
          · subst ha0; rfl
          · have := sf2 ha0
            rw [h5, e0] at this
            exact absurd this.1.symm this.2
        · by_cases ha0 : a = []
          · rw [sf1 ha0] at h5; exact absurd h5.symm e0
          · rw [← (sf2 ha0).1, h5]
      refine R_g_if (h1 := fun h2 => ?_) (h2 := fun h2 => ?_)
      · simp only [if_true] at h2
        refine walk (hQ := ?_)
        refine W_if (ht := fun h3 => ?_) (hf := fun h3 => ?_)
        · refine walk (hQ := ?_)
          have h4 : c.getD 0 0 = 48 := UInt8.toNat_inj.1 (by have h3' : ((c.getD 0 0).toNat : Int) = 48 := h3; show (c.getD 0 0).toNat = 48; omega)
          refine hK _ (c.drop 1) ⟨?_, by rw [List.length_drop]; omega⟩ (by rw [List.length_drop]; omega) le_auto
          rw [← hc]
          match c, h2, h4 with
          | [_], h2, _ => simp at h2
          | x :: y :: l, _, h4 =>
            simp at h4
            subst h4
            rw [stripZ_cons 48 (by simp)]
            rfl
        · have k := key (.inr fun e => h3 (by show ((c.getD 0 0).toNat : Int) = 48; rw [e]; rfl))
          refine walk (hQ := ?_)
          refine W_if (ht := fun h6 => ?_) (hf := fun h6 => ?_)
          · rw [k.1 h6] at hR
            refine walk (hQ := ?_)
            exact hR _ (ret2 (hp := rfl))
          · rw [k.2 h6] at hR
            refine walk (hQ := ?_)
            exact hR _ (ret2 (hp := rfl))
      · simp only [if_true] at h2
        have k := key (.inl (by omega))
        refine walk (hQ := ?_)
        refine W_if (ht := fun h6 => ?_) (hf := fun h6 => ?_)
        · rw [k.1 h6] at hR
          refine walk (hQ := ?_)
          exact hR _ (ret2 (hp := rfl))
        · rw [k.2 h6] at hR
          refine walk (hQ := ?_)
          exact hR _ (ret2 (hp := rfl))
end Go.VS.YtiaijoomngefnaaGreatDoor


namespace Go.VS.YtiaijoomngefnaaGreatDoor
open Go Go.VL Go.VN Go.RowKit Go.Proofs
set_option maxRecDepth 100000
set_option linter.unusedVariables false

theorem r_Parse (s : List UInt8) (hlen : s.length ≤ 1000000) : Spc X 60 [.one (.str s)] (nr (parseL s)) := by
  refine Spc.start Tryz.func60 rfl (h := fun hs R hR => ?_)
  unfold Tryz.f60
  simp only [entryE, PA.av]
  refine walk (hQ := ?_)
  refine R_g_if (h1 := fun h0 => ?_) (h2 := fun h0 => ?_)
  case refine_2 =>
    simp only [Bool.false_eq_true, if_false] at h0
    have h1 : s = [] := h0
    subst h1
    refine walk (hQ := ?_)
    exact hR _ (ret2 (hp := rfl))
  simp only [Bool.false_eq_true, if_false] at h0
  have hne : s ≠ [] := h0
  have hpos : 0 < s.length := List.length_pos_iff.2 hne
  refine walk (hQ := ?_)
  refine R_g_if (h1 := fun h1 => ?_) (h2 := fun h1 => ?_)
  case' refine_1.refine_1 =>
    simp only [if_true] at h1
    refine walk (hQ := ?_)
    refine W_if (ht := fun h2 => ?_) (hf := fun h2 => ?_)
  case refine_1.refine_1.refine_1 =>
    have h4 : s.getD 0 0 = 48 := UInt8.toNat_inj.1 (by have h3' : ((s.getD 0 0).toNat : Int) = 48 := h2; show (s.getD 0 0).toNat = 48; omega)
    have hb : bad s = true := by
      match s, h1, h4 with
      | [_], h1, _ => simp at h1
      | x :: y :: l, _, h4 => simp at h4; subst h4; simp [bad]
    unfold parseL at hR
    rw [if_pos hb] at hR
    refine walk (hQ := ?_)
    exact hR _ (ret2 (hp := rfl))
  case' refine_1.refine_1.refine_2 =>
    have hh : s = [48] ∨ s.getD 0 0 ≠ 48 := .inr fun e => h2 (by show ((s.getD 0 0).toNat : Int) = 48; rw [e]; rfl)
  case' refine_1.refine_2 =>
    simp only [if_true] at h1
    have hh : s = [48] ∨ s.getD 0 0 ≠ 48 := by
      match s, hne, h1 with
      | [c], _, _ =>
        by_cases hc : c = 48
        · exact .inl (by rw [hc])
        · exact .inr (by simpa using hc)
      | _ :: _ :: l, _, h1 => simp at h1; omega
  all_goals
    have hbad := bad_ok hne hh
    refine walk (hQ := ?_)
    refine Lp.intro (fun (i : Nat) => ⟨[(0, vS s), (2, .one (.ptr 0 0)), (4, vI i)], [(0, (.mx [.pv .nil], false))], 1⟩) (fun i => i ≤ s.length ∧ Dec (s.take i)) (fun i => s.length - i) 0 ⟨Nat.zero_le _, by intro c hc; simp at hc⟩ (h0 := le_auto) (hr := fun i K ⟨hi, hd⟩ hK => ?_)
    refine walk (hQ := ?_)
    refine W_if (ht := fun h3 => ?_) (hf := fun h3 => ?_)
    · have hil : i < s.length := by omega
      have hsi : s.getD i 0 = s[i] := by simp [List.getD_eq_getElem?_getD, hil]
      have hbd := UInt8.toNat_lt (s.getD i 0)
      have fail : ¬ (48 ≤ (s.getD i 0).toNat ∧ (s.getD i 0).toNat ≤ 57) → parseL s = ([], 2) := fun h => by
        unfold parseL
        rw [if_pos (hbad.2 fun hD => h (by rw [hsi]; exact hD _ (List.getElem_mem hil)))]
      refine walk (hQ := ?_)
      refine R_g_if (h1 := fun h4 => ?_) (h2 := fun h4 => ?_)
      · simp only [Bool.false_eq_true, if_false] at h4
        refine walk (hQ := ?_)
        refine W_if (ht := fun h5 => ?_) (hf := fun h5 => ?_)
        · rw [fail (by omega)] at hR
          refine walk (hQ := ?_)
          exact hR _ (ret2 (hp := rfl))
        · refine walk (hQ := ?_)
          refine hK _ (i + 1) ⟨by omega, ?_⟩ (by omega) le_auto
          rw [List.take_succ_eq_append_getElem hil]
          intro c hc
          rcases List.mem_append.1 hc with h | h
          · exact hd c h
          · rw [List.mem_singleton.1 h, ← hsi]; omega
      · simp only [Bool.false_eq_true, if_false, Decidable.not_not] at h4
        rw [fail (by omega)] at hR
        refine walk (hQ := ?_)
        exact hR _ (ret2 (hp := rfl))
    · obtain rfl : i = s.length := by omega
      rw [List.take_length] at hd
      have h6 : ¬ bad s = true := fun e => hbad.1 e hd
      unfold parseL at hR
      rw [if_neg h6] at hR
      refine walk (hQ := ?_)
      refine W_if (ht := fun h7 => ?_) (hf := fun h7 => ?_)
      · rw [if_pos (show s.length > 800 by omega)] at hR
        refine walk (hQ := ?_)
        exact hR _ (ret2 (hp := rfl))
      · rw [if_neg (show ¬ s.length > 800 by omega)] at hR
        refine walk (hQ := ?_)
        refine Lp.intro2 (fun (acc : List Int) (z : Int) => ⟨[(0, vS s), (2, .one (.ptr 0 0)), (5, .one (.own 1 1 acc.length)), (6, vI z)], [(0, (.mx [.pv .nil], false)), (1, (.pu 3 (acc.flatMap eI), false))], 2⟩) (fun acc z => acc ++ nums (s.take z.toNat) = nums s ∧ z ≤ s.length ∧ -4 < z) (fun _ z => z.toNat) [] (s.length : Int) ⟨by simp, by omega, by omega⟩ (h0 := le_ghost1 1 3 (hle := le_auto)) (hr := fun acc z K ⟨he, hz, hz4⟩ hK => ?_)
        have hla : acc.length ≤ 1000 := by
          have h8 := congrArg List.length he
          have h9 := nums_len s
          rw [List.length_append] at h8
          omega
        refine walk (hQ := ?_)
        refine W_if (ht := fun h8 => ?_) (hf := fun h8 => ?_)
        · obtain ⟨e, rfl⟩ := Int.eq_ofNat_of_zero_le (show 0 ≤ z by omega)
          rw [Int.toNat_natCast] at he
          have hel : e ≤ s.length := by omega
          have htl : (s.take e).length = e := by rw [List.length_take]; omega
          refine walk (hQ := ?_)
          have e1 : max ((e : Int) - 4) 0 = ((e - 4 : Nat) : Int) := by omega
          rw [e1]
          refine Lp.intro (fun (i : Nat) => ⟨[(0, vS s), (2, .one (.ptr 0 0)), (5, .one (.own 1 1 acc.length)), (6, vI e), (7, vI (dv ((s.take i).drop (e - 4)) : Nat)), (8, vI i)], [(0, (.mx [.pv .nil], false)), (1, (.pu 3 (acc.flatMap eI), false))], 2⟩) (fun i => e - 4 ≤ i ∧ i ≤ e) (fun i => e - i) (e - 4) ⟨Nat.le_refl _, by omega⟩ (h0 := ?_) (hr := fun i K' ⟨hi1, hi2⟩ hK' => ?_)
          · rw [show dv ((s.take (e - 4)).drop (e - 4)) = 0 by rw [List.drop_of_length_le (by rw [List.length_take]; omega)]; rfl]
            exact le_auto
          have hDt : Dec ((s.take i).drop (e - 4)) := (hd.take i).drop _
          have hdl : ((s.take i).drop (e - 4)).length = i - (e - 4) := by rw [List.length_drop, List.length_take]; omega
          have hdv := dv_lt hDt
          rw [hdl] at hdv
          have hdv2 : 10 ^ (i - (e - 4)) ≤ 10 ^ 4 := Nat.pow_le_pow_right (by decide) (by omega)
          have hdv3 : dv ((s.take i).drop (e - 4)) ≤ 10000 := by omega
          refine walk (hQ := ?_)
          refine W_if (ht := fun h9 => ?_) (hf := fun h9 => ?_)
          · have hil : i < s.length := by omega
            have hsi : s.getD i 0 = s[i] := by simp [List.getD_eq_getElem?_getD, hil]
            have hdg := hd _ (List.getElem_mem hil)
            rw [← hsi] at hdg
            have hstep : dv ((s.take (i + 1)).drop (e - 4)) = dv ((s.take i).drop (e - 4)) * 10 + ((s.getD i 0).toNat - 48) := by
              rw [List.take_succ_eq_append_getElem hil, List.drop_append_of_le_length (by rw [List.length_take]; omega), dv_snoc, hsi]
            refine walk (hQ := ?_)
            refine R_subw (hK := ?_)
            rw [wrap_u8 (by omega) (by omega)]
            refine walk (hQ := ?_)
            have e4 : (dv ((s.take i).drop (e - 4)) : Int) * 10 + (((s.getD i 0).toNat : Int) - 48) = ((dv ((s.take (i + 1)).drop (e - 4)) : Nat) : Int) := by rw [hstep]; omega
            rw [e4]
            exact hK' _ (i + 1) ⟨by omega, by omega⟩ (by omega) le_auto
          · obtain rfl : i = e := by omega
            refine walk (hQ := ?_)
            refine hK _ (acc ++ [(dv ((s.take i).drop (i - 4)) : Int)]) ((i : Int) - 4) ⟨?_, by omega, by omega⟩ (by omega) le_auto
            have h10 := nums_cons (s.take i) (fun e0 => by rw [e0] at htl; simp at htl; omega)
            rw [htl, List.take_take, Nat.min_eq_left (by omega)] at h10
            rw [← he, h10, List.append_assoc, show ((i : Int) - 4).toNat = i - 4 by omega]
            rfl
        · have hc : z.toNat = 0 := by omega
          rw [hc, List.take_zero, nums_nil, List.append_nil] at he
          refine walk (hQ := ?_)
          refine R_callF (r_trim acc) (hK := ?_)
          rw [he]
          refine walk (hQ := ?_)
          exact hR _ (ret2 (hp := rfl))
end Go.VS.YtiaijoomngefnaaGreatDoor


namespace Go.VS.YtiaijoomngefnaaGreatDoor
open Go Go.VL Go.VN Go.RowKit Go.Proofs
set_option maxRecDepth 100000
set_option linter.unusedVariables false

theorem f_zero (a : List Int) : Spc X 50 [nt a] (.one (.bool a.isEmpty)) := by
  refine Spc.start Tryz.func50 rfl (h := fun hs R hR => ?_)
  unfold Tryz.f50
  simp only [entryE, PA.av, List.map_cons, List.map_nil]
  refine walk (hQ := ?_)
  have e : decide ((a.length : Int) = 0) = a.isEmpty := by
    cases a with
    | nil => rfl
    | cons x l => simp; omega
  exact hR _ (ret1 (hp := by rw [← e]))
theorem f_number (n : Nat) (h : n ≤ 1000000000000000) : Spc X 53 [.one (.int .i64 n)] (nt (digs n)) := by
  refine Spc.start Tryz.func53 rfl (h := fun hs R hR => ?_)
  unfold Tryz.f53
  simp only [entryE, PA.av, List.map_cons, List.map_nil]
  have h1 := s_Of (n : Int)
  unfold ofR at h1
  rw [if_neg (by omega), Int.toNat_natCast] at h1
  refine walk (hQ := ?_)
  refine R_call h1 (hK := ?_)
  refine walk (hQ := ?_)
  exact hR _ (ret1 (hp := rfl))
theorem f_reduce (b : Bool) (p q : Nat) (h0 : 0 < q) (lp : (digs p).length ≤ 200) (lq : (digs q).length ≤ 200) : Spc X 66 [.one (.bool b), nt (digs p), nt (digs q)] (ft (redN b p q)) := by
  refine Spc.start Tryz.func66 rfl (h := fun hs R hR => ?_)
  unfold Tryz.f66
  simp only [entryE, PA.av, List.map_cons, List.map_nil]
  have hg : 0 < Nat.gcd p q := Nat.gcd_pos_of_pos_right p h0
  have lg : (digs (Nat.gcd p q)).length ≤ 200 := Nat.le_trans (len_of_lt (Nat.gcd_le_right p h0)) lq
  refine walk (hQ := ?_)
  refine R_call (s_GcdN p q lp lq) (hK := ?_)
  refine walk (hQ := ?_)
  refine R_call (s_DivN p _ lp lg (by omega)) (hK := ?_)
  refine walk (hQ := ?_)
  refine R_call (s_DivN q _ lq lg (by omega)) (hK := ?_)
  refine walk (hQ := ?_)
  have hz := f_zero (digs (p / Nat.gcd p q))
  rw [digs_empty] at hz
  unfold redN at hR
  cases b with
  | false =>
    refine walk (hQ := ?_)
    exact hR _ (ret1 (hp := rfl))
  | true =>
    refine walk (hQ := ?_)
    by_cases h1 : p / Nat.gcd p q = 0
    · simp only [h1, decide_true] at hz hR
      simp only [h1]
      refine R_call hz (hK := ?_)
      refine walk (hQ := ?_)
      exact hR _ (ret1 (hp := rfl))
    · simp only [h1, decide_false] at hz hR
      refine R_call hz (hK := ?_)
      refine walk (hQ := ?_)
      exact hR _ (ret1 (hp := rfl))
theorem f_Valid (f : FrN) : Spc X 16 [ft f] (.one (.bool (validF f))) := by
  obtain ⟨n, a, b⟩ := f
  refine Spc.start Tryz.func16 rfl (h := fun hs R hR => ?_)
  unfold Tryz.f16
  simp only [entryE, PA.av, List.map_cons, List.map_nil]
  have va := s_Valid a
  have vb := s_Valid b
  have za := f_zero a
  have zb := f_zero b
  refine walk (hQ := ?_)
  cases ha : validB a with
  | false =>
    rw [ha] at va
    have e : validF (n, a, b) = false := by unfold validF; simp [ha]
    rw [e] at hR
    refine R_call va (hK := ?_)
    refine walk (hQ := ?_)
    exact hR _ (ret1 (hp := rfl))
  | true =>
  rw [ha] at va
  refine R_call va (hK := ?_)
  refine walk (hQ := ?_)
  cases hb : validB b with
  | false =>
    rw [hb] at vb
    have e : validF (n, a, b) = false := by unfold validF; simp [hb]
    rw [e] at hR
    refine R_call vb (hK := ?_)
    refine walk (hQ := ?_)
    exact hR _ (ret1 (hp := rfl))
  | true =>
  rw [hb] at vb
  refine R_call vb (hK := ?_)
  refine walk (hQ := ?_)
  cases hc : b.isEmpty with
  | true =>
    rw [hc] at zb
    have e : validF (n, a, b) = false := by unfold validF; simp [hc]
    rw [e] at hR
    refine R_call zb (hK := ?_)
    refine walk (hQ := ?_)
    exact hR _ (ret1 (hp := rfl))
  | false =>
  rw [hc] at zb
  refine R_call zb (hK := ?_)
  refine walk (hQ := ?_)
  have key : (a.isEmpty && n) = false → validF (n, a, b) = decide (Nat.gcd (val a).toNat (val b).toNat = 1) := fun h => validF_gcd ha hb hc h
  have fin : ∀ (g : Nat), Spc X 52 [nt (digs g), nt (digs 1)] (.one (.int .i64 (cmpL (digs g) (digs 1)))) := fun g => s_Cmp _ _
  obtain ⟨ea, la, da⟩ := valid_digs ha
  obtain ⟨eb, lb, db⟩ := valid_digs hb
  cases hd : a.isEmpty with
  | true =>
    rw [hd] at za
    refine R_call za (hK := ?_)
    cases n with
    | true =>
      have e : validF (true, a, b) = false := by unfold validF; simp [hd]
      rw [e] at hR
      refine walk (hQ := ?_)
      exact hR _ (ret1 (hp := rfl))
    | false =>
      rw [key (by simp)] at hR
      generalize (val a).toNat = p at *
      generalize (val b).toNat = q at *
      subst ea eb
      refine walk (hQ := ?_)
      refine R_call (s_GcdN p q la lb) (hK := ?_)
      refine walk (hQ := ?_)
      refine R_call (f_number 1 (by omega)) (hK := ?_)
      refine walk (hQ := ?_)
      refine R_call (s_Cmp _ _) (hK := ?_)
      refine walk (hQ := ?_)
      rw [← cmp_one] at hR
      exact hR _ (ret1 (hp := rfl))
  | false =>
    rw [hd] at za
    refine R_call za (hK := ?_)
    rw [key (by simp [hd])] at hR
    generalize (val a).toNat = p at *
    generalize (val b).toNat = q at *
    subst ea eb
    refine walk (hQ := ?_)
    refine R_call (s_GcdN p q la lb) (hK := ?_)
    refine walk (hQ := ?_)
    refine R_call (f_number 1 (by omega)) (hK := ?_)
    refine walk (hQ := ?_)
    refine R_call (s_Cmp _ _) (hK := ?_)
    refine walk (hQ := ?_)
    rw [← cmp_one] at hR
    exact hR _ (ret1 (hp := rfl))
end Go.VS.YtiaijoomngefnaaGreatDoor


namespace Go.VS.YtiaijoomngefnaaGreatDoor
open Go Go.VL Go.VN Go.RowKit Go.Proofs
set_option maxRecDepth 100000
set_option linter.unusedVariables false

abbrev ps (r : List (List Int) × Int) : PA := .tup [(false, [slc eN r.1]), (false, [.int .i64 r.2])]
theorem f_products (l : List (List Int × List Int)) (hl : l.length ≤ 100) : Spc X 72 [.one (slc eP l)] (ps (prodR l)) := by
  refine Spc.start Tryz.func72 rfl (h := fun hs R hR => ?_)
  unfold Tryz.f72
  simp only [entryE, PA.av, List.map_cons, List.map_nil]
  refine walk (hQ := ?_)
  refine Lp.intro (fun (i : Nat) => ⟨[(0, vP (slc eP l)), (4, .one (.own 0 1 ((l.take i).map fun p => (mulR p.1 p.2).1).length)), (9, vP (slc eP l)), (10, vI l.length), (11, vI i)], [(0, (.pu 24 (((l.take i).map fun p => (mulR p.1 p.2).1).flatMap eN), false))], 1⟩) (fun i => i ≤ l.length ∧ ∀ q ∈ l.take i, (mulR q.1 q.2).2 = 0) (fun i => l.length - i) 0 ⟨Nat.zero_le _, by simp⟩ (h0 := le_ghost1 0 24 (hle := le_auto)) (hr := fun i K ⟨hi, ho⟩ hK => ?_)
  refine walk (hQ := ?_)
  refine W_if (ht := fun h1 => ?_) (hf := fun h1 => ?_)
  · have hil : i < l.length := by omega
    have hm := s_Mul (l.getD i default).1 (l.getD i default).2
    have e0 : l[i]? = some (l.getD i default) := by
      rw [List.getD_eq_getElem?_getD, List.getElem?_eq_getElem hil]; rfl
    refine walk (hQ := ?_)
    generalize l.getD i default = p at *
    refine R_call hm (hK := ?_)
    refine walk (hQ := ?_)
    refine W_if (ht := fun h2 => ?_) (hf := fun h2 => ?_)
    · refine walk (hQ := ?_)
      rw [prodR_bad e0 ho h2] at hR
      exact hR _ (ret2 (hp := rfl))
    · have h3 : (mulR p.1 p.2).2 = 0 := Decidable.not_not.1 h2
      refine walk (hQ := ?_)
      refine R_bsl eN (l := [(mulR p.1 p.2).1]) (hK := ?_)
      refine walk (hQ := ?_)
      refine hK _ (i + 1) ⟨by omega, fun q hq => ?_⟩ (by omega) ?_
      · rw [List.take_succ_eq_append_getElem hil] at hq
        rcases List.mem_append.1 hq with h | h
        · exact ho q h
        · rw [List.getElem?_eq_getElem hil, Option.some.injEq] at e0
          rw [List.mem_singleton.1 h, e0]; exact h3
      · rw [List.getElem?_eq_getElem hil, Option.some.injEq] at e0
        rw [List.take_succ_eq_append_getElem hil, List.map_append, e0, List.map_singleton]
        exact le_auto
  · obtain rfl : i = l.length := by omega
    rw [List.take_length] at ho ⊢
    rw [prodR_ok ho] at hR
    refine walk (hQ := ?_)
    exact hR _ (ret2 (hp := rfl))
theorem addR_N {m n : Nat} (hm : (digs m).length ≤ 200) (hn : (digs n).length ≤ 200) : addR (digs m) (digs n) = if fits (m + n) = true then (digs (m + n), 0) else ([], 3) := by
  unfold addR
  rw [if_pos ⟨valid_N' m hm, valid_N' n hn⟩, val_digs, val_digs, Int.toNat_natCast, Int.toNat_natCast]
  by_cases h : fits (m + n) = true
  · rw [if_pos h, fit_fits h]
  · rw [if_neg h, fit_not h]
theorem subR_N {m n : Nat} (hm : (digs m).length ≤ 200) (hn : (digs n).length ≤ 200) (h : n ≤ m) : subR (digs m) (digs n) = (digs (m - n), 0) := by
  unfold subR
  rw [if_pos ⟨valid_N' m hm, valid_N' n hn⟩, val_digs, val_digs, Int.toNat_natCast, Int.toNat_natCast]
  rw [if_neg (by omega)]
end Go.VS.YtiaijoomngefnaaGreatDoor


namespace Go.VS.YtiaijoomngefnaaGreatDoor
open Go Go.VL Go.VN Go.RowKit Go.Proofs
set_option maxRecDepth 100000
set_option linter.unusedVariables false

theorem f_ValidT {f : FrN} (h : VF f) : Spc X 16 [ft f] (.one (.bool true)) := by
  have := f_Valid f
  rwa [h.valid] at this
theorem f_ValidF {f : FrN} (h : validF f = false) : Spc X 16 [ft f] (.one (.bool false)) := by
  have := f_Valid f
  rwa [h] at this
theorem f_AddN (s : Bool) (m n : Nat) (t : Bool) (p q : Nat) (hf : VF (s, digs m, digs n)) (hg : VF (t, digs p, digs q)) : Spc X 37 [ft (s, digs m, digs n), ft (t, digs p, digs q)] (fr (addN s m n t p q)) := by
  refine Spc.start Tryz.func37 rfl (h := fun hs R hR => ?_)
  unfold Tryz.f37
  simp only [entryE, PA.av, List.map_cons, List.map_nil]
  unfold addN at hR
  have la := hf.ln
  have lb := hf.ld
  have lc := hg.ln
  have ld := hg.ld
  have pb := hf.pos
  have pd := hg.pos
  rw [nm_mk] at la lc
  rw [dn_mk] at lb ld pb pd
  have pn : 0 < n * q := Nat.mul_pos pb pd
  refine walk (hQ := ?_)
  refine R_call (f_ValidT hf) (hK := ?_)
  refine walk (hQ := ?_)
  refine R_call (f_ValidT hg) (hK := ?_)
  have hp := f_products [(digs m, digs q), (digs p, digs n), (digs n, digs q)] (by simp)
  rw [prod3 la ld lc lb lb ld] at hp
  refine walk (hQ := ?_)
  refine R_bsl eP (l := [(digs m, digs q), (digs p, digs n), (digs n, digs q)]) (hK := ?_)
  refine walk (hQ := ?_)
  by_cases h1 : fits (m * q) = true ∧ fits (p * n) = true ∧ fits (n * q) = true
  · rw [if_pos h1] at hp hR
    have l1 := fits_le h1.1
    have l2 := fits_le h1.2.1
    have l3 := fits_le h1.2.2
    refine R_callF hp (hK := ?_)
    refine walk (hQ := ?_)
    refine W_ifb (ht := fun h2 => ?_) (hf := fun h2 => ?_)
    · have e : s = t := by simpa using h2
      subst e
      rw [if_pos rfl] at hR
      have hA := s_Add (digs (m * q)) (digs (p * n))
      rw [addR_N l1 l2] at hA
      refine walk (hQ := ?_)
      by_cases h3 : fits (m * q + p * n) = true
      · rw [if_pos h3] at hA hR
        refine R_call hA (hK := ?_)
        refine walk (hQ := ?_)
        refine R_call (f_reduce s _ _ pn (fits_le h3) l3) (hK := ?_)
        refine walk (hQ := ?_)
        exact hR _ (ret2 (hp := rfl))
      · rw [if_neg h3] at hA hR
        refine R_call hA (hK := ?_)
        refine walk (hQ := ?_)
        exact hR _ (ret2 (hp := rfl))
    · have e : ¬ s = t := by simpa using h2
      rw [if_neg e] at hR
      refine walk (hQ := ?_)
      refine R_call (s_Cmp _ _) (hK := ?_)
      refine walk (hQ := ?_)
      refine W_if (ht := fun h3 => ?_) (hf := fun h3 => ?_)
      · have h4 : m * q < p * n := (cmp_lt _ _).1 h3
        rw [if_pos h4] at hR
        have hS := s_Sub (digs (p * n)) (digs (m * q))
        rw [subR_N l2 l1 (by omega)] at hS
        refine walk (hQ := ?_)
        refine R_call hS (hK := ?_)
        refine walk (hQ := ?_)
        refine R_call (f_reduce t _ _ pn (Nat.le_trans (len_of_lt (Nat.sub_le _ _)) l2) l3) (hK := ?_)
        refine walk (hQ := ?_)
        exact hR _ (ret2 (hp := rfl))
      · have h4 : ¬ m * q < p * n := fun h => h3 ((cmp_lt _ _).2 h)
        rw [if_neg h4] at hR
        have hS := s_Sub (digs (m * q)) (digs (p * n))
        rw [subR_N l1 l2 (by omega)] at hS
        refine walk (hQ := ?_)
        refine R_call hS (hK := ?_)
        refine walk (hQ := ?_)
        refine R_call (f_reduce s _ _ pn (Nat.le_trans (len_of_lt (Nat.sub_le _ _)) l1) l3) (hK := ?_)
        refine walk (hQ := ?_)
        exact hR _ (ret2 (hp := rfl))
  · rw [if_neg h1] at hp hR
    refine R_callF hp (hK := ?_)
    refine walk (hQ := ?_)
    exact hR _ (ret2 (hp := rfl))
theorem f_Add (f g : FrN) : Spc X 37 [ft f, ft g] (fr (addF f g)) := by
  unfold addF
  by_cases hv : validF f = true
  · by_cases hw : validF g = true
    · rw [if_pos ⟨hv, hw⟩]
      have hf := validF_VF hv
      have hg := validF_VF hw
      have h1 := f_AddN f.1 (nm f) (dn f) g.1 (nm g) (dn g) (by rw [← hf.eta]; exact hf) (by rw [← hg.eta]; exact hg)
      rw [← hf.eta, ← hg.eta] at h1
      exact h1
    · rw [if_neg (fun h => hw h.2)]
      refine Spc.start Tryz.func37 rfl (h := fun hs R hR => ?_)
      unfold Tryz.f37
      simp only [entryE, PA.av, List.map_cons, List.map_nil]
      refine walk (hQ := ?_)
      refine R_call (f_ValidT (validF_VF hv)) (hK := ?_)
      refine walk (hQ := ?_)
      refine R_call (f_ValidF (Bool.eq_false_iff.2 hw)) (hK := ?_)
      refine walk (hQ := ?_)
      exact hR _ (ret2 (hp := rfl))
  · rw [if_neg (fun h => hv h.1)]
    refine Spc.start Tryz.func37 rfl (h := fun hs R hR => ?_)
    unfold Tryz.f37
    simp only [entryE, PA.av, List.map_cons, List.map_nil]
    refine walk (hQ := ?_)
    refine R_call (f_ValidF (Bool.eq_false_iff.2 hv)) (hK := ?_)
    refine walk (hQ := ?_)
    exact hR _ (ret2 (hp := rfl))
end Go.VS.YtiaijoomngefnaaGreatDoor

