/- Contracts over whole values, and what they lean on: part j. Each holds under the conditions that it states. -/
import Derived.Test.YtekfjbjdlenhoaaGreatDoorZi
import Derived.Lib.Strings
import Derived.Sort.LotA
set_option linter.unusedVariables false
set_option linter.unusedSimpArgs false

namespace Go.VS.YtekfjbjdlenhoaaGreatDoor
open Go Go.VL Go.VN Go.RowKit Go.Proofs
set_option maxRecDepth 100000
set_option linter.unusedVariables false
set_option linter.unusedSimpArgs false

theorem g_Letter (c : UInt8) : Spc X 131 [.one (.int .u8 c.toNat)] (.one (.bool (ltr c))) := by
  refine Spc.start Tryz.func131 rfl (h := fun hs R hR => ?_)
  unfold Tryz.f131
  simp only [entryE, PA.av]
  unfold ltr at hR
  refine walk (hQ := ?_)
  refine R_g_if (h1 := fun h1 => ?_) (h2 := fun h1 => ?_) <;> simp only [Bool.false_eq_true, if_false, if_true, Decidable.not_not] at h1
  · rw [decide_eq_true (show 32 ≤ c.toNat by omega), Bool.true_and] at hR
    refine walk (hQ := ?_)
    refine W_if (ht := fun h2 => ?_) (hf := fun h2 => ?_)
    · rw [decide_eq_false (show ¬ c.toNat ≤ 126 by omega), Bool.false_and] at hR
      refine walk (hQ := ?_)
      exact hR _ (ret1 (hp := rfl))
    · rw [decide_eq_true (show c.toNat ≤ 126 by omega), Bool.true_and] at hR
      refine walk (hQ := ?_)
      refine Lp.intro (fun (i : Nat) => ⟨[(0, .one (.pv (.int .u8 c.toNat))), (3, vI i)], [], 0⟩) (fun i => i ≤ 15 ∧ ∀ y ∈ ([32, 46, 44, 59, 58, 33, 63, 34, 45, 91, 93, 60, 62, 123, 125] : List UInt8).take i, y ≠ c) (fun i => 15 - i) 0 ⟨Nat.zero_le _, by simp⟩ (h0 := le_auto) (hr := fun i K ⟨hi, ho⟩ hK => ?_)
      refine walk (hQ := ?_)
      refine W_if (ht := fun h3 => ?_) (hf := fun h3 => ?_)
      · have hil : i < ([32, 46, 44, 59, 58, 33, 63, 34, 45, 91, 93, 60, 62, 123, 125] : List UInt8).length := by simp only [List.length_cons, List.length_nil]; omega
        have e0 : ([32, 46, 44, 59, 58, 33, 63, 34, 45, 91, 93, 60, 62, 123, 125] : List UInt8)[i]? = some (([32, 46, 44, 59, 58, 33, 63, 34, 45, 91, 93, 60, 62, 123, 125] : List UInt8).getD i 0) := by
          rw [List.getD_eq_getElem?_getD, List.getElem?_eq_getElem hil]; rfl
        refine walk (hQ := ?_)
        have hst : ∀ y, y = (([32, 46, 44, 59, 58, 33, 63, 34, 45, 91, 93, 60, 62, 123, 125] : List UInt8).getD i 0) → y ≠ c → ∀ y ∈ ([32, 46, 44, 59, 58, 33, 63, 34, 45, 91, 93, 60, 62, 123, 125] : List UInt8).take (i + 1), y ≠ c := fun y hy hne => take_succ_all e0 ho (hy ▸ hne)
        have hme : ([32, 46, 44, 59, 58, 33, 63, 34, 45, 91, 93, 60, 62, 123, 125] : List UInt8).getD i 0 ∈ ([32, 46, 44, 59, 58, 33, 63, 34, 45, 91, 93, 60, 62, 123, 125] : List UInt8) := List.mem_of_getElem? e0
        generalize ([32, 46, 44, 59, 58, 33, 63, 34, 45, 91, 93, 60, 62, 123, 125] : List UInt8).getD i 0 = d at *
        refine W_if (ht := fun h4 => ?_) (hf := fun h4 => ?_)
        · have hdc : d = c := UInt8.toNat_inj.1 (by omega)
          subst hdc
          rw [List.contains_iff_mem.2 hme] at hR
          refine walk (hQ := ?_)
          exact hR _ (ret1 (hp := rfl))
        · refine walk (hQ := ?_)
          exact hK _ (i + 1) ⟨by omega, hst d rfl fun e => h4 (by rw [e])⟩ (by omega) le_auto
      · obtain rfl : i = 15 := by omega
        have hno : ([32, 46, 44, 59, 58, 33, 63, 34, 45, 91, 93, 60, 62, 123, 125] : List UInt8).contains c = false := Bool.eq_false_iff.2 fun h => ho c (show c ∈ List.take 15 _ from List.contains_iff_mem.1 h) rfl
        rw [hno] at hR
        refine walk (hQ := ?_)
        exact hR _ (ret1 (hp := rfl))
  · rw [decide_eq_false (show ¬ 32 ≤ c.toNat by omega), Bool.false_and, Bool.false_and] at hR
    refine walk (hQ := ?_)
    exact hR _ (ret1 (hp := rfl))
theorem f_letters (s : List UInt8) : Spc X 98 [.one (.str s)] (.one (.int .i64 (txE s))) := by
  refine Spc.start Tryz.func98 rfl (h := fun hs R hR => ?_)
  unfold Tryz.f98
  simp only [entryE, PA.av]
  rw [tx_spec] at hR
  have k1 := f_Fold s
  have k2 := f_Words s
  have hb := wdsF_bd s
  generalize wdsF s = P at *
  refine walk (hQ := ?_)
  refine W_if (ht := fun h1 => ?_) (hf := fun h1 => ?_)
  · rw [if_pos h1] at hR
    refine walk (hQ := ?_)
    exact hR _ (ret1 (hp := rfl))
  rw [if_neg h1] at hR
  refine walk (hQ := ?_)
  refine W_if (ht := fun h2 => ?_) (hf := fun h2 => ?_)
  · rw [if_pos (by omega)] at hR
    refine walk (hQ := ?_)
    exact hR _ (ret1 (hp := rfl))
  rw [if_neg (by omega)] at hR
  refine walk (hQ := ?_)
  refine R_call k1 (hK := ?_)
  refine walk (hQ := ?_)
  refine W_if (ht := fun h3 => ?_) (hf := fun h3 => ?_)
  · rw [if_pos h3] at hR
    refine walk (hQ := ?_)
    exact hR _ (ret1 (hp := rfl))
  rw [if_neg h3] at hR
  refine walk (hQ := ?_)
  refine R_call k2 (hK := ?_)
  refine walk (hQ := ?_)
  refine R_g_if (h1 := fun h4 => ?_) (h2 := fun h4 => ?_) <;> simp only [Bool.false_eq_true, if_false, if_true, Decidable.not_not] at h4
  · refine walk (hQ := ?_)
    refine R_g_if (h1 := fun h5 => ?_) (h2 := fun h5 => ?_) <;> simp only [Bool.false_eq_true, if_false, if_true, Decidable.not_not] at h5
    · have h5' : P.1.length = 1 := by omega
      obtain ⟨q, hq⟩ := List.length_eq_one_iff.1 h5'
      have hbq := hb q (by rw [hq]; simp)
      rw [hq] at hR ⊢
      refine walk (hQ := ?_)
      rw [show [q].getD (Int.toNat 0) default = q from rfl]
      refine walk (hQ := ?_)
      refine W_if (ht := fun h6 => ?_) (hf := fun h6 => ?_)
      · rw [if_pos (.inr (.inr h6))] at hR
        refine walk (hQ := ?_)
        exact hR _ (ret1 (hp := rfl))
      · rw [if_neg (by rintro (h | h | h); exact h h4; exact h rfl; exact h6 h)] at hR
        refine walk (hQ := ?_)
        exact hR _ (ret1 (hp := rfl))
    · rw [if_pos (.inr (.inl (by omega)))] at hR
      refine walk (hQ := ?_)
      exact hR _ (ret1 (hp := rfl))
  · rw [if_pos (.inl h4)] at hR
    refine walk (hQ := ?_)
    exact hR _ (ret1 (hp := rfl))
theorem g_text (s : List UInt8) : Spc X 101 [.one (.str s)] (.one (.int .i64 (txE s))) := by
  refine Spc.start Tryz.func101 rfl (h := fun hs R hR => ?_)
  unfold Tryz.f101
  simp only [entryE, PA.av]
  unfold txE at hR
  refine walk (hQ := ?_)
  refine W_if (ht := fun h1 => ?_) (hf := fun h1 => ?_)
  · rw [if_pos h1] at hR
    refine walk (hQ := ?_)
    exact hR _ (ret1 (hp := rfl))
  rw [if_neg h1] at hR
  refine walk (hQ := ?_)
  refine W_if (ht := fun h2 => ?_) (hf := fun h2 => ?_)
  · rw [if_pos (by omega)] at hR
    refine walk (hQ := ?_)
    exact hR _ (ret1 (hp := rfl))
  rw [if_neg (by omega)] at hR
  refine walk (hQ := ?_)
  refine Lp.intro (fun (i : Nat) => ⟨[(0, vS s), (3, vI i)], [], 0⟩) (fun i => i ≤ s.length ∧ ∀ c ∈ s.take i, (ltr c && !upr c) = true) (fun i => s.length - i) 0 ⟨Nat.zero_le _, by simp⟩ (h0 := le_auto) (hr := fun i K ⟨hi, ho⟩ hK => ?_)
  refine walk (hQ := ?_)
  refine W_if (ht := fun h3 => ?_) (hf := fun h3 => ?_)
  · have hil : i < s.length := by omega
    have e0 : s[i]? = some (s.getD i 0) := by
      rw [List.getD_eq_getElem?_getD, List.getElem?_eq_getElem hil]; rfl
    have k1 := g_Letter (s.getD i 0)
    have hst : (ltr (s.getD i 0) && !upr (s.getD i 0)) = true → ∀ c ∈ s.take (i + 1), (ltr c && !upr c) = true := fun h => take_succ_all e0 ho h
    have hbad : (ltr (s.getD i 0) && !upr (s.getD i 0)) = false → ¬ (s.all fun c => ltr c && !upr c) = true := fun h h2 => by
      have := List.all_eq_true.1 h2 _ (List.mem_of_getElem? e0)
      rw [h] at this; cases this
    refine walk (hQ := ?_)
    generalize hc : s.getD i 0 = c at *
    refine R_call k1 (hK := ?_)
    refine walk (hQ := ?_)
    cases hl : ltr c with
    | false =>
      rw [if_neg (hbad (by rw [hl]; rfl))] at hR
      refine walk (hQ := ?_)
      exact hR _ (ret1 (hp := rfl))
    | true =>
      refine walk (hQ := ?_)
      rw [hc]
      refine R_g_if (h1 := fun h4 => ?_) (h2 := fun h4 => ?_) <;> simp only [Bool.false_eq_true, if_false, if_true, Decidable.not_not] at h4
      · refine walk (hQ := ?_)
        rw [hc]
        refine W_if (ht := fun h5 => ?_) (hf := fun h5 => ?_)
        · rw [if_neg (hbad (by rw [hl]; unfold upr; simp; omega))] at hR
          refine walk (hQ := ?_)
          exact hR _ (ret1 (hp := rfl))
        · refine walk (hQ := ?_)
          exact hK _ (i + 1) ⟨by omega, hst (by rw [hl]; unfold upr; simp; omega)⟩ (by omega) le_auto
      · refine walk (hQ := ?_)
        exact hK _ (i + 1) ⟨by omega, hst (by rw [hl]; unfold upr; simp; omega)⟩ (by omega) le_auto
  · obtain rfl : i = s.length := by omega
    rw [List.take_length] at ho
    rw [if_pos (List.all_eq_true.2 ho)] at hR
    refine walk (hQ := ?_)
    exact hR _ (ret1 (hp := rfl))
abbrev sgA (s : Sgn) : PA := .agg (eSg s)
theorem f_alone (s : Sgn) : Spc X 61 [sgA s] (.one (.int .i64 (sgE s))) := by
  obtain ⟨t, l, co, wh⟩ := s
  refine Spc.start Tryz.func61 rfl (h := fun hs R hR => ?_)
  unfold Tryz.f61
  simp only [entryE, PA.av, eSg, List.map_cons, List.map_nil]
  unfold sgE at hR
  simp only at hR
  have k1 := f_letters t
  refine walk (hQ := ?_)
  generalize txE t = v at *
  refine R_call k1 (hK := ?_)
  refine walk (hQ := ?_)
  refine W_if (ht := fun h1 => ?_) (hf := fun h1 => ?_)
  · rw [if_pos h1] at hR
    refine walk (hQ := ?_)
    exact hR _ (ret1 (hp := rfl))
  rw [if_neg h1] at hR
  refine walk (hQ := ?_)
  refine W_if (ht := fun h2 => ?_) (hf := fun h2 => ?_)
  · rw [if_pos (List.eq_nil_of_length_eq_zero (by omega))] at hR
    refine walk (hQ := ?_)
    exact hR _ (ret1 (hp := rfl))
  rw [if_neg (fun h => h2 (by rw [h]; rfl))] at hR
  refine walk (hQ := ?_)
  refine W_if (ht := fun h3 => ?_) (hf := fun h3 => ?_)
  · rw [if_pos (by omega)] at hR
    refine walk (hQ := ?_)
    exact hR _ (ret1 (hp := rfl))
  rw [if_neg (by omega)] at hR
  refine walk (hQ := ?_)
  refine Lp.intro (fun (i : Nat) => ⟨[(1, .one (.ptr 0 0)), (22, vP (slc eSd l)), (23, vI l.length), (24, vI i)], [(0, (.mx [.pv (.str t), .pv (slc eSd l), .pv (.int .i64 co), .pv (.int .i64 wh)], false))], 1⟩) (fun i => i ≤ l.length ∧ ∀ y ∈ l.take i, sdE y = 0) (fun i => l.length - i) 0 ⟨Nat.zero_le _, by simp⟩ (h0 := le_auto) (hr := fun i K ⟨hi, ho⟩ hK => ?_)
  refine walk (hQ := ?_)
  refine W_if (ht := fun h4 => ?_) (hf := fun h4 => ?_)
  · have hil : i < l.length := by omega
    have e0 := getD_some hil
    have k2 := f_SValid (l.getD i default)
    have hst := take_succ_all (P := fun y => sdE y = 0) e0 ho
    have hbd := firstE_bad e0 ho
    refine walk (hQ := ?_)
    generalize l.getD i default = x at *
    obtain ⟨xa, xb, xc⟩ := x
    simp only [eSd, List.map_cons, List.map_nil] at *
    generalize sdE (xa, xb, xc) = u at *
    refine walk (hQ := ?_)
    refine R_call k2 (hK := ?_)
    refine walk (hQ := ?_)
    refine W_if (ht := fun h5 => ?_) (hf := fun h5 => ?_)
    · rw [hbd h5, if_pos h5] at hR
      refine walk (hQ := ?_)
      exact hR _ (ret1 (hp := rfl))
    · refine walk (hQ := ?_)
      exact hK _ (i + 1) ⟨by omega, hst (Decidable.not_not.1 h5)⟩ (by omega) le_auto
  · obtain rfl : i = l.length := by omega
    rw [List.take_length] at ho
    rw [firstE_ok ho, if_neg (by simp)] at hR
    refine walk (hQ := ?_)
    refine R_g_if (h1 := fun h6 => ?_) (h2 := fun h6 => ?_) <;> simp only [Bool.false_eq_true, if_false, if_true, Decidable.not_not] at h6
    · refine walk (hQ := ?_)
      refine R_g_if (h1 := fun h7 => ?_) (h2 := fun h7 => ?_) <;> simp only [Bool.false_eq_true, if_false, if_true, Decidable.not_not] at h7
      · refine walk (hQ := ?_)
        refine R_g_if (h1 := fun h8 => ?_) (h2 := fun h8 => ?_) <;> simp only [Bool.false_eq_true, if_false, if_true, Decidable.not_not] at h8
        · refine walk (hQ := ?_)
          refine W_if (ht := fun h9 => ?_) (hf := fun h9 => ?_)
          · rw [if_pos (by omega)] at hR
            refine walk (hQ := ?_)
            exact hR _ (ret1 (hp := rfl))
          · rw [if_neg (by omega)] at hR
            refine walk (hQ := ?_)
            exact hR _ (ret1 (hp := rfl))
        · rw [if_pos (by omega)] at hR
          refine walk (hQ := ?_)
          exact hR _ (ret1 (hp := rfl))
      · rw [if_pos (by omega)] at hR
        refine walk (hQ := ?_)
        exact hR _ (ret1 (hp := rfl))
    · rw [if_pos (by omega)] at hR
      refine walk (hQ := ?_)
      exact hR _ (ret1 (hp := rfl))
theorem g_sign (s : Sgn) : Spc X 66 [sgA s] (.one (.int .i64 (sgE s))) := by
  obtain ⟨t, l, co, wh⟩ := s
  refine Spc.start Tryz.func66 rfl (h := fun hs R hR => ?_)
  unfold Tryz.f66
  simp only [entryE, PA.av, eSg, List.map_cons, List.map_nil]
  unfold sgE at hR
  simp only at hR
  have k1 := g_text t
  refine walk (hQ := ?_)
  generalize txE t = v at *
  refine R_call k1 (hK := ?_)
  refine walk (hQ := ?_)
  refine W_if (ht := fun h1 => ?_) (hf := fun h1 => ?_)
  · rw [if_pos h1] at hR
    refine walk (hQ := ?_)
    exact hR _ (ret1 (hp := rfl))
  rw [if_neg h1] at hR
  refine walk (hQ := ?_)
  refine W_if (ht := fun h2 => ?_) (hf := fun h2 => ?_)
  · rw [if_pos (List.eq_nil_of_length_eq_zero (by omega))] at hR
    refine walk (hQ := ?_)
    exact hR _ (ret1 (hp := rfl))
  rw [if_neg (fun h => h2 (by rw [h]; rfl))] at hR
  refine walk (hQ := ?_)
  refine W_if (ht := fun h3 => ?_) (hf := fun h3 => ?_)
  · rw [if_pos (by omega)] at hR
    refine walk (hQ := ?_)
    exact hR _ (ret1 (hp := rfl))
  rw [if_neg (by omega)] at hR
  refine walk (hQ := ?_)
  refine Lp.intro (fun (i : Nat) => ⟨[(1, .one (.ptr 0 0)), (4, vI i)], [(0, (.mx [.pv (.str t), .pv (slc eSd l), .pv (.int .i64 co), .pv (.int .i64 wh)], false))], 1⟩) (fun i => i ≤ l.length ∧ ∀ y ∈ l.take i, sdE y = 0) (fun i => l.length - i) 0 ⟨Nat.zero_le _, by simp⟩ (h0 := le_auto) (hr := fun i K ⟨hi, ho⟩ hK => ?_)
  refine walk (hQ := ?_)
  refine W_if (ht := fun h4 => ?_) (hf := fun h4 => ?_)
  · have hil : i < l.length := by omega
    have e0 := getD_some hil
    have k2 := g_SValid (l.getD i default)
    have hst := take_succ_all (P := fun y => sdE y = 0) e0 ho
    have hbd := firstE_bad e0 ho
    refine walk (hQ := ?_)
    generalize l.getD i default = x at *
    obtain ⟨xa, xb, xc⟩ := x
    simp only [eSd, List.map_cons, List.map_nil] at *
    generalize sdE (xa, xb, xc) = u at *
    refine R_call k2 (hK := ?_)
    refine walk (hQ := ?_)
    refine W_if (ht := fun h5 => ?_) (hf := fun h5 => ?_)
    · rw [hbd h5, if_pos h5] at hR
      refine walk (hQ := ?_)
      exact hR _ (ret1 (hp := rfl))
    · refine walk (hQ := ?_)
      exact hK _ (i + 1) ⟨by omega, hst (Decidable.not_not.1 h5)⟩ (by omega) le_auto
  · obtain rfl : i = l.length := by omega
    rw [List.take_length] at ho
    rw [firstE_ok ho, if_neg (by simp)] at hR
    refine walk (hQ := ?_)
    refine R_g_if (h1 := fun h6 => ?_) (h2 := fun h6 => ?_) <;> simp only [Bool.false_eq_true, if_false, if_true, Decidable.not_not] at h6
    · refine walk (hQ := ?_)
      refine R_g_if (h1 := fun h7 => ?_) (h2 := fun h7 => ?_) <;> simp only [Bool.false_eq_true, if_false, if_true, Decidable.not_not] at h7
      · refine walk (hQ := ?_)
        refine R_g_if (h1 := fun h8 => ?_) (h2 := fun h8 => ?_) <;> simp only [Bool.false_eq_true, if_false, if_true, Decidable.not_not] at h8
        · refine walk (hQ := ?_)
          refine W_if (ht := fun h9 => ?_) (hf := fun h9 => ?_)
          · rw [if_pos (by omega)] at hR
            refine walk (hQ := ?_)
            exact hR _ (ret1 (hp := rfl))
          · rw [if_neg (by omega)] at hR
            refine walk (hQ := ?_)
            exact hR _ (ret1 (hp := rfl))
        · rw [if_pos (by omega)] at hR
          refine walk (hQ := ?_)
          exact hR _ (ret1 (hp := rfl))
      · rw [if_pos (by omega)] at hR
        refine walk (hQ := ?_)
        exact hR _ (ret1 (hp := rfl))
    · rw [if_pos (by omega)] at hR
      refine walk (hQ := ?_)
      exact hR _ (ret1 (hp := rfl))
end Go.VS.YtekfjbjdlenhoaaGreatDoor


namespace Go.VS.YtekfjbjdlenhoaaGreatDoor
open Go Go.VL Go.VN Go.RowKit Go.Proofs
set_option maxRecDepth 100000
set_option linter.unusedVariables false
set_option linter.unusedSimpArgs false

theorem plF_sd (a b : Snd) : plF X (match tinf X.P 51 with | some ⟨.struct fs, _, _, _⟩ => fs.toList | _ => []) 0 (eSd a) (eSd b) := by
  rw [TInf.h (X := X) (t := 51)]
  refine ⟨rfl, by decide, ?_, rfl, by decide, ?_, rfl, by decide, ?_, trivial⟩ <;> simp only [TInf.h] <;> first | exact rfl | exact trivial
theorem s_EqualSd (a b : List Snd) : Spc X 64 [.one (slc eSd a), .one (slc eSd b)] (.one (.bool (decide (a = b)))) := by
  refine Spc.start Tryz.func64 rfl (h := fun hs R hR => ?_)
  unfold Tryz.f64
  simp only [entryE, PA.av]
  have la := (sane_slc hs.1).1
  have lb := (sane_slc hs.2.1).1
  refine walk (hQ := ?_)
  refine W_if (ht := fun h1 => ?_) (hf := fun h1 => ?_)
  · rw [decide_eq_false (fun h => h1 (by rw [h]))] at hR
    refine walk (hQ := ?_)
    exact hR _ (ret1 (hp := rfl))
  have hll : a.length = b.length := by omega
  refine walk (hQ := ?_)
  refine Lp.intro (fun (i : Nat) => ⟨[(0, vP (slc eSd a)), (1, vP (slc eSd b)), (12, vI a.length), (13, vI i)], [], 0⟩) (fun i => i ≤ a.length ∧ a.take i = b.take i) (fun i => a.length - i) 0 ⟨Nat.zero_le _, by simp⟩ (h0 := le_auto) (hr := fun i K ⟨hi, ho⟩ hK => ?_)
  refine walk (hQ := ?_)
  refine W_if (ht := fun h2 => ?_) (hf := fun h2 => ?_)
  · have hia : i < a.length := by omega
    have hib : i < b.length := by omega
    have ea : a[i] = a.getD i default := by rw [List.getD_eq_getElem?_getD, List.getElem?_eq_getElem hia]; rfl
    have eb : b[i] = b.getD i default := by rw [List.getD_eq_getElem?_getD, List.getElem?_eq_getElem hib]; rfl
    have hpl := plF_sd (a.getD i default) (b.getD i default)
    rw [TInf.h (X := X) (t := 51)] at hpl
    refine walk (hQ := ?_)
    refine R_stneq eSd (a.getD i default) (b.getD i default) (eqPs_sd _ _) hpl (hK := ?_)
    refine walk (hQ := ?_)
    refine W_if (ht := fun h3 => ?_) (hf := fun h3 => ?_)
    · rw [decide_eq_false (fun h => h3 (by rw [h]))] at hR
      refine walk (hQ := ?_)
      exact hR _ (ret1 (hp := rfl))
    · refine walk (hQ := ?_)
      exact hK _ (i + 1) ⟨by omega, eq_take hia hib ho (by rw [ea, eb]; exact Decidable.not_not.1 h3)⟩ (by omega) le_auto
  · obtain rfl : i = a.length := by omega
    rw [List.take_length, hll, List.take_length] at ho
    rw [decide_eq_true ho] at hR
    refine walk (hQ := ?_)
    exact hR _ (ret1 (hp := rfl))
theorem f_check1 (t s : Sgn) : Spc X 63 [.agg (eSg t), .one (.pt (eSg s) 0)] (.one (.bool (sameSg t s))) := by
  obtain ⟨t1, t2, t3, t4⟩ := t
  obtain ⟨s1, s2, s3, s4⟩ := s
  refine Spc.start Tryz.func63 rfl (h := fun hs R hR => ?_)
  unfold Tryz.f63
  simp only [entryE, PA.av, eSg, List.map_cons, List.map_nil]
  have k1 := s_EqualSd t2 s2
  unfold sameSg at hR
  simp only at hR
  refine walk (hQ := ?_)
  refine R_ldPt (hK := ?_)
  refine walk (hQ := ?_)
  refine R_g_if (h1 := fun h1 => ?_) (h2 := fun h1 => ?_) <;> simp only [Bool.false_eq_true, if_false, if_true, Decidable.not_not] at h1
  · rw [decide_eq_true h1, Bool.true_and] at hR
    refine walk (hQ := ?_)
    refine R_ldPt (hK := ?_)
    refine walk (hQ := ?_)
    refine R_g_if (h1 := fun h2 => ?_) (h2 := fun h2 => ?_) <;> simp only [Bool.false_eq_true, if_false, if_true, Decidable.not_not] at h2
    · rw [decide_eq_true h2, Bool.true_and] at hR
      refine walk (hQ := ?_)
      refine R_ldPt (hK := ?_)
      refine walk (hQ := ?_)
      refine R_call k1 (hK := ?_)
      refine walk (hQ := ?_)
      exact hR _ (ret1 (hp := rfl))
    · rw [decide_eq_false h2, Bool.false_and] at hR
      refine walk (hQ := ?_)
      exact hR _ (ret1 (hp := rfl))
  · rw [decide_eq_false h1, Bool.false_and, Bool.false_and] at hR
    refine walk (hQ := ?_)
    exact hR _ (ret1 (hp := rfl))
theorem s_IndexSg (s : Sgn) (l : List Sgn) : Spc X 99 [.one (slc eSg l), .one (.clo 63 [.pt (eSg s) 0])] (.one (.int .i64 (ixP (fun t => sameSg t s) l))) := by
  refine Spc.start Tryz.func99 rfl (h := fun hs R hR => ?_)
  unfold Tryz.f99
  simp only [entryE, PA.av]
  have la := (sane_slc hs.1).1
  refine walk (hQ := ?_)
  refine Lp.intro (fun (i : Nat) => ⟨[(0, vP (slc eSg l)), (1, vP (.clo 63 [.pt (eSg s) 0])), (7, vI l.length), (8, vI i)], [], 0⟩) (fun i => i ≤ l.length ∧ ∀ y ∈ l.take i, sameSg y s = false) (fun i => l.length - i) 0 ⟨Nat.zero_le _, by simp⟩ (h0 := le_auto) (hr := fun i K ⟨hi, ho⟩ hK => ?_)
  refine walk (hQ := ?_)
  refine W_if (ht := fun h1 => ?_) (hf := fun h1 => ?_)
  · have hil : i < l.length := by omega
    have e0 := getD_some hil
    have k1 := f_check1 (l.getD i default) s
    have hst := take_succ_all (P := fun y => sameSg y s = false) e0 ho
    have hbd := ixP_at (p := fun t => sameSg t s) e0 ho
    refine walk (hQ := ?_)
    generalize l.getD i default = x at *
    refine R_call k1 (hK := ?_)
    refine walk (hQ := ?_)
    refine W_ifb (ht := fun h2 => ?_) (hf := fun h2 => ?_)
    · rw [hbd h2] at hR
      refine walk (hQ := ?_)
      exact hR _ (ret1 (hp := rfl))
    · refine walk (hQ := ?_)
      exact hK _ (i + 1) ⟨by omega, hst h2⟩ (by omega) le_auto
  · obtain rfl : i = l.length := by omega
    rw [List.take_length] at ho
    rw [ixP_no ho] at hR
    refine walk (hQ := ?_)
    exact hR _ (ret1 (hp := rfl))
theorem s_ContainsSg (s : Sgn) (l : List Sgn) : Spc X 62 [.one (slc eSg l), .one (.clo 63 [.pt (eSg s) 0])] (.one (.bool (l.any fun t => sameSg t s))) := by
  refine Spc.start Tryz.func62 rfl (h := fun hs R hR => ?_)
  unfold Tryz.f62
  simp only [entryE, PA.av]
  refine walk (hQ := ?_)
  refine R_call (s_IndexSg s l) (hK := ?_)
  refine walk (hQ := ?_)
  refine hR _ (ret1 (hp := ?_))
  rw [ixP_any]
abbrev orA (o : Ort) : PA := .agg (eO o)
theorem f_check (o : Ort) : Spc X 38 [orA o] (.tup [(false, [.int .i64 (chkO o).1]), (false, [.int .i64 (chkO o).2])]) := by
  obtain ⟨nme, l⟩ := o
  refine Spc.start Tryz.func38 rfl (h := fun hs R hR => ?_)
  unfold Tryz.f38
  simp only [entryE, PA.av, eO, List.map_cons, List.map_nil]
  unfold chkO at hR
  simp only at hR
  have k1 := f_IsName nme
  refine walk (hQ := ?_)
  cases hn : isNm nme with
  | false =>
    rw [hn] at k1
    rw [hn, if_pos rfl] at hR
    refine R_call k1 (hK := ?_)
    refine walk (hQ := ?_)
    exact hR _ (ret2 (hp := rfl))
  | true =>
  rw [hn] at k1
  rw [hn, if_neg (by decide)] at hR
  refine R_call k1 (hK := ?_)
  refine walk (hQ := ?_)
  refine W_if (ht := fun h1 => ?_) (hf := fun h1 => ?_)
  · rw [if_pos (List.eq_nil_of_length_eq_zero (by omega))] at hR
    refine walk (hQ := ?_)
    exact hR _ (ret2 (hp := rfl))
  rw [if_neg (fun h => h1 (by rw [h]; rfl))] at hR
  refine walk (hQ := ?_)
  refine W_if (ht := fun h2 => ?_) (hf := fun h2 => ?_)
  · rw [if_pos (by omega)] at hR
    refine walk (hQ := ?_)
    exact hR _ (ret2 (hp := rfl))
  rw [if_neg (by omega)] at hR
  refine walk (hQ := ?_)
  refine Lp.intro (fun (i : Nat) => ⟨[(1, .one (.ptr 0 0)), (24, vP (slc eSg l)), (25, vI l.length), (26, vI i)], [(0, (.mx [.pv (.str nme), .pv (slc eSg l)], false))], 1⟩) (fun i => i ≤ l.length ∧ chkL (l.take i) (l.drop i) = chkL [] l) (fun i => l.length - i) 0 ⟨Nat.zero_le _, by simp⟩ (h0 := le_auto) (hr := fun i K ⟨hi, ho⟩ hK => ?_)
  refine walk (hQ := ?_)
  refine W_if (ht := fun h4 => ?_) (hf := fun h4 => ?_)
  · have hil : i < l.length := by omega
    have e0 := getD_some hil
    have k2 := f_alone (l.getD i default)
    have k3 := s_ContainsSg (l.getD i default) (l.take i)
    have hst := chkL_step e0
    rw [ho] at hst
    refine walk (hQ := ?_)
    generalize l.getD i default = x at *
    obtain ⟨xa, xb, xc, xd⟩ := x
    simp only [eSg, sgA, List.map_cons, List.map_nil] at *
    refine walk (hQ := ?_)
    generalize sgE (xa, xb, xc, xd) = u at *
    refine R_call k2 (hK := ?_)
    refine walk (hQ := ?_)
    refine W_if (ht := fun h5 => ?_) (hf := fun h5 => ?_)
    · rw [hst, if_pos h5] at hR
      refine walk (hQ := ?_)
      exact hR _ (ret2 (hp := rfl))
    · rw [if_neg h5] at hst
      refine walk (hQ := ?_)
      cases ha : ((l.take i).any fun t => sameSg t (xa, xb, xc, xd)) with
      | true =>
        rw [ha] at k3
        rw [ha, if_pos rfl] at hst
        rw [hst] at hR
        refine R_callP (ids' := [1]) k3 (hv := .cons (.tmp rfl) (VA.one (.pv rfl)) (.cons (.tmp rfl) (VA.clo1 (id := 1) rfl (VL.pvs (ps := eSg (xa, xb, xc, xd)) rfl)) .nil)) (hK := ?_)
        refine walk (hQ := ?_)
        exact hR _ (ret2 (hp := rfl))
      | false =>
        rw [ha] at k3
        rw [ha, if_neg (by decide)] at hst
        refine R_callP (ids' := [1]) k3 (hv := .cons (.tmp rfl) (VA.one (.pv rfl)) (.cons (.tmp rfl) (VA.clo1 (id := 1) rfl (VL.pvs (ps := eSg (xa, xb, xc, xd)) rfl)) .nil)) (hK := ?_)
        refine walk (hQ := ?_)
        exact hK _ (i + 1) ⟨by omega, hst.symm⟩ (by omega) le_auto
  · obtain rfl : i = l.length := by omega
    rw [List.take_length, List.drop_length] at ho
    rw [← ho] at hR
    unfold chkL at hR
    refine walk (hQ := ?_)
    exact hR _ (ret2 (hp := rfl))
theorem f_OValid (o : Ort) : Spc X 21 [orA o] (.one (.int .i64 (chkO o).2)) := by
  refine Spc.start Tryz.func21 rfl (h := fun hs R hR => ?_)
  unfold Tryz.f21
  simp only [entryE, PA.av, eO, List.map_cons, List.map_nil]
  have k1 := f_check o
  obtain ⟨nme, l⟩ := o
  simp only [orA, eO] at *
  generalize chkO (nme, l) = u at *
  refine walk (hQ := ?_)
  refine R_call k1 (hK := ?_)
  refine walk (hQ := ?_)
  exact hR _ (ret1 (hp := rfl))
theorem g_first (o : Ort) : Spc X 39 [orA o] (.tup [(false, [.int .i64 (chkO o).1]), (false, [.int .i64 (chkO o).2])]) := by
  obtain ⟨nme, l⟩ := o
  refine Spc.start Tryz.func39 rfl (h := fun hs R hR => ?_)
  unfold Tryz.f39
  simp only [entryE, PA.av, eO, List.map_cons, List.map_nil]
  unfold chkO at hR
  simp only at hR
  have k1 := g_IsName nme
  refine walk (hQ := ?_)
  cases hn : isNm nme with
  | false =>
    rw [hn] at k1
    rw [hn, if_pos rfl] at hR
    refine R_call k1 (hK := ?_)
    refine walk (hQ := ?_)
    exact hR _ (ret2 (hp := rfl))
  | true =>
  rw [hn] at k1
  rw [hn, if_neg (by decide)] at hR
  refine R_call k1 (hK := ?_)
  refine walk (hQ := ?_)
  refine W_if (ht := fun h1 => ?_) (hf := fun h1 => ?_)
  · rw [if_pos (List.eq_nil_of_length_eq_zero (by omega))] at hR
    refine walk (hQ := ?_)
    exact hR _ (ret2 (hp := rfl))
  rw [if_neg (fun h => h1 (by rw [h]; rfl))] at hR
  refine walk (hQ := ?_)
  refine W_if (ht := fun h2 => ?_) (hf := fun h2 => ?_)
  · rw [if_pos (by omega)] at hR
    refine walk (hQ := ?_)
    exact hR _ (ret2 (hp := rfl))
  rw [if_neg (by omega)] at hR
  refine walk (hQ := ?_)
  refine Lp.intro (fun (i : Nat) => ⟨[(1, .one (.ptr 0 0)), (4, vI i)], [(0, (.mx [.pv (.str nme), .pv (slc eSg l)], false))], 1⟩) (fun i => i ≤ l.length ∧ chkL (l.take i) (l.drop i) = chkL [] l) (fun i => l.length - i) 0 ⟨Nat.zero_le _, by simp⟩ (h0 := le_auto) (hr := fun i K ⟨hi, ho⟩ hK => ?_)
  refine walk (hQ := ?_)
  refine W_if (ht := fun h4 => ?_) (hf := fun h4 => ?_)
  · have hil : i < l.length := by omega
    have e0 := getD_some hil
    have k2 := g_sign (l.getD i default)
    have hst := chkL_step e0
    rw [ho] at hst
    refine walk (hQ := ?_)
    generalize hgx : l.getD i default = x at *
    obtain ⟨xa, xb, xc, xd⟩ := x
    simp only [eSg, sgA, List.map_cons, List.map_nil] at *
    generalize sgE (xa, xb, xc, xd) = u at *
    refine R_call k2 (hK := ?_)
    refine walk (hQ := ?_)
    refine W_if (ht := fun h5 => ?_) (hf := fun h5 => ?_)
    · rw [hst, if_pos h5] at hR
      refine walk (hQ := ?_)
      exact hR _ (ret2 (hp := rfl))
    · rw [if_neg h5] at hst
      refine walk (hQ := ?_)
      refine Lp.intro (fun (k : Nat) => ⟨[(1, .one (.ptr 0 0)), (4, vI i), (6, vI k)], [(0, (.mx [.pv (.str nme), .pv (slc eSg l)], false))], 1⟩) (fun k => k ≤ i ∧ ∀ y ∈ l.take k, sameSg y (xa, xb, xc, xd) = false) (fun k => i - k) 0 ⟨Nat.zero_le _, by simp⟩ (h0 := le_auto) (hr := fun k K2 ⟨hk, ho2⟩ hK2 => ?_)
      refine walk (hQ := ?_)
      refine W_if (ht := fun h6 => ?_) (hf := fun h6 => ?_)
      · have hkl : k < l.length := by omega
        have f0 := getD_some hkl
        have hst2 := take_succ_all (P := fun y => sameSg y (xa, xb, xc, xd) = false) f0 ho2
        have hmm : l.getD k default ∈ l.take i := by
          have : (l.take i)[k]? = some (l.getD k default) := by rw [List.getElem?_take, if_pos (by omega)]; exact f0
          exact List.mem_of_getElem? this
        have hany : sameSg (l.getD k default) (xa, xb, xc, xd) = true → ((l.take i).any fun t => sameSg t (xa, xb, xc, xd)) = true := fun h => List.any_eq_true.2 ⟨_, hmm, h⟩
        have k4 := fun yb => g_SSame xb yb
        have hsm : ∀ y : Sgn, sameSg y (xa, xb, xc, xd) = (decide (xa = y.1) && decide (xd = y.2.2.2) && decide (xb = y.2.1)) := fun y => by
          rw [sameSg_comm]; rfl
        refine walk (hQ := ?_)
        rw [hgx]
        generalize l.getD k default = y at *
        obtain ⟨ya, yb, yc, yd⟩ := y
        have k5 := k4 yb
        have hs5 := hsm (ya, yb, yc, yd)
        simp only [eSg, List.map_cons, List.map_nil] at *
        refine R_g_if (h1 := fun h7 => ?_) (h2 := fun h7 => ?_) <;> simp only [Bool.false_eq_true, if_false, if_true, Decidable.not_not] at h7
        · rw [decide_eq_true h7, Bool.true_and] at hs5
          refine walk (hQ := ?_)
          refine R_g_if (h1 := fun h8 => ?_) (h2 := fun h8 => ?_) <;> simp only [Bool.false_eq_true, if_false, if_true, Decidable.not_not] at h8
          · rw [decide_eq_true h8, Bool.true_and] at hs5
            refine walk (hQ := ?_)
            refine R_call k5 (hK := ?_)
            refine walk (hQ := ?_)
            refine W_if (ht := fun h9 => ?_) (hf := fun h9 => ?_)
            · rw [decide_eq_true h9] at hs5
              rw [hany hs5, if_pos rfl] at hst
              rw [hst] at hR
              refine walk (hQ := ?_)
              exact hR _ (ret2 (hp := rfl))
            · rw [decide_eq_false h9] at hs5
              refine walk (hQ := ?_)
              exact hK2 _ (k + 1) ⟨by omega, hst2 hs5⟩ (by omega) le_auto
          · rw [decide_eq_false h8, Bool.false_and] at hs5
            refine walk (hQ := ?_)
            exact hK2 _ (k + 1) ⟨by omega, hst2 hs5⟩ (by omega) le_auto
        · rw [decide_eq_false h7, Bool.false_and, Bool.false_and] at hs5
          refine walk (hQ := ?_)
          exact hK2 _ (k + 1) ⟨by omega, hst2 hs5⟩ (by omega) le_auto
      · obtain rfl : k = i := by omega
        have ha : ((l.take k).any fun t => sameSg t (xa, xb, xc, xd)) = false := by
          rw [List.any_eq_false]
          intro y hy
          rw [ho2 y hy]; decide
        rw [ha, if_neg (by decide)] at hst
        refine walk (hQ := ?_)
        exact hK _ (k + 1) ⟨by omega, hst.symm⟩ (by omega) le_auto
  · obtain rfl : i = l.length := by omega
    rw [List.take_length, List.drop_length] at ho
    rw [← ho] at hR
    unfold chkL at hR
    refine walk (hQ := ?_)
    exact hR _ (ret2 (hp := rfl))
theorem g_OValid (o : Ort) : Spc X 22 [orA o] (.one (.int .i64 (chkO o).2)) := by
  refine Spc.start Tryz.func22 rfl (h := fun hs R hR => ?_)
  unfold Tryz.f22
  simp only [entryE, PA.av, eO, List.map_cons, List.map_nil]
  have k1 := g_first o
  obtain ⟨nme, l⟩ := o
  simp only [orA, eO] at *
  generalize chkO (nme, l) = u at *
  refine walk (hQ := ?_)
  refine R_call k1 (hK := ?_)
  refine walk (hQ := ?_)
  exact hR _ (ret1 (hp := rfl))
end Go.VS.YtekfjbjdlenhoaaGreatDoor


namespace Go.VN
open Go.RowKit Go.VL
set_option linter.unusedVariables false
abbrev wPre : List UInt8 := [111, 114, 116, 104, 111, 103, 114, 97, 112, 104, 121, 32]
def hdrB (b : List UInt8) : List UInt8 × Bool := (Lib.trimPrefix b wPre, Lib.hasPrefix b wPre && !(Lib.trimPrefix b wPre).isEmpty && !(Lib.trimPrefix b wPre).contains 32)
def hdrF (w : List UInt8) : List UInt8 × Bool := ((hdrB (Lib.trimSuffix w [10])).1, Lib.hasSuffix w [10] && (hdrB (Lib.trimSuffix w [10])).2)
def sgB (b : List UInt8) : Sgn × Bool := oO zSg (sgOf (splitL 32 b))
def sgLn (w : List UInt8) : Sgn × Bool := ((sgB (Lib.trimSuffix w [10])).1, Lib.hasSuffix w [10] && (sgB (Lib.trimSuffix w [10])).2)
def prsL : Nat → Ort → List (List UInt8) → Ort × Nat
  | _, o, [] => (o, 0)
  | i, o, w :: l =>
    if w = [] then (o, 0)
    else if i = 0 then (if (hdrF w).2 = true then prsL 1 ((hdrF w).1, o.2) l else (zO, 1))
    else (if (sgLn w).2 = true then prsL (i + 1) (o.1, o.2 ++ [(sgLn w).1]) l else (zO, i + 1))
def endO (p : Ort × Nat) : Ort × Int × Int := if p.2 ≠ 0 then (zO, (p.2 : Int), 2) else if (chkO p.1).2 = 0 then (p.1, 0, 0) else if (chkO p.1).1 < 0 then (zO, 1, (chkO p.1).2) else (zO, (chkO p.1).1 + 2, (chkO p.1).2)
def prsO (s : List UInt8) : Ort × Int × Int := if 20000 < s.length then (zO, 0, 3) else if s = [] then (zO, 1, 2) else endO (prsL 0 zO (spK true 10 s))
theorem prsL_at {L : List (List UInt8)} {i : Nat} {w : List UInt8} (h : L[i]? = some w) (o : Ort) : prsL i o (L.drop i) =
    if w = [] then (o, 0)
    else if i = 0 then (if (hdrF w).2 = true then prsL 1 ((hdrF w).1, o.2) (L.drop (i + 1)) else (zO, 1))
    else (if (sgLn w).2 = true then prsL (i + 1) (o.1, o.2 ++ [(sgLn w).1]) (L.drop (i + 1)) else (zO, i + 1)) := by
  obtain ⟨hi, rfl⟩ := List.getElem?_eq_some_iff.1 h
  rw [List.drop_eq_getElem_cons hi, prsL]
theorem trimSuffix_len (w t : List UInt8) : (Lib.trimSuffix w t).length ≤ w.length := by unfold Lib.trimSuffix; split <;> simp
theorem chkL_lo : ∀ (l p : List Sgn), -1 ≤ (chkL p l).1 ∧ (chkL p l).1 ≤ p.length + l.length
  | [], p => by simp [chkL]
  | s :: l, p => by
    have ih := chkL_lo l (p ++ [s])
    rw [List.length_append, List.length_singleton] at ih
    rw [chkL, List.length_cons]
    split
    · simp only; omega
    · split
      · simp only; omega
      · push_cast at ih ⊢; omega
theorem chkO_lo (o : Ort) : -1 ≤ (chkO o).1 := by
  unfold chkO
  split
  · simp
  · split
    · simp
    · split
      · simp
      · exact (chkL_lo _ _).1
theorem chkO_hi (o : Ort) : (chkO o).1 ≤ o.2.length := by
  unfold chkO
  split
  · simp
  · split
    · simp
    · split
      · simp
      · have := (chkL_lo o.2 []).2; simpa using this
theorem endO_bad {k : Nat} (o : Ort) (h : k ≠ 0) : endO (o, k) = (zO, (k : Int), 2) := by unfold endO; rw [if_pos h]
end Go.VN


namespace Go.VL
open Go.RowKit
set_option linter.unusedVariables false
def csLe : List AC → List AC → Prop
  | [], [] => True
  | c :: l, d :: k => avLe (.one c) (.one d) ∧ csLe l k
  | _, _ => False
theorem csLe_get : ∀ {l k : List AC}, csLe l k → ∀ (j : Nat) d, k[j]? = some d → ∃ c, l[j]? = some c ∧ avLe (.one c) (.one d)
  | c :: l, e :: k, h, 0, d, hj => by
    simp only [List.getElem?_cons_zero, Option.some.injEq] at hj
    subst hj
    exact ⟨c, rfl, h.1⟩
  | c :: l, e :: k, h, j + 1, d, hj => csLe_get h.2 j d (by simpa using hj)
  | [], [], h, j, d, hj => by simp at hj
  | _ :: _, [], h, _, _, _ => h.elim
  | [], _ :: _, h, _, _, _ => h.elim
theorem csLe_nil {k : List AC} (h : csLe [] k) : k = [] := by
  cases k with
  | nil => rfl
  | cons d k => exact h.elim
theorem le_retell {X : Ctx} {N : Nat} {env : List (Nat × AV)} {h h' : Hp} {n : Nat} {υ : AS} (id : Nat) {cs cs' : List AC} {z : Bool} (hl : look h id = some (.mx cs, z)) (hc : csLe cs cs') (hw : (acRefs cs').all (fun i => (look h i).isSome) = true) (hp : PutR h id (.mx cs', z) h') (hle : (AS.mk env h' n).Le X N υ) : (AS.mk env h n).Le X N υ := by
  refine AS.Le.trans ?_ hle
  rw [← hp.eq]
  intro F a w ⟨β, r⟩
  obtain ⟨hr, hok⟩ := r.h.retell (bx' := .mx cs') hl (fun hb => by
    have h2 := r.h.box id _ _ hl
    unfold BoxRep at h2
    rw [hb] at h2
    have h3 : cs = [] := h2
    subst h3
    exact csLe_nil hc) (fun g arr e hg harr => ⟨fun e' l he => (by cases he), fun j d hj => by
      obtain ⟨c, hc1, hc2⟩ := csLe_get hc j d hj
      have h2 := r.h.box id _ _ hl
      unfold BoxRep at h2
      rw [hg] at h2
      obtain ⟨_, arr', e', harr', _, hcells⟩ := h2
      obtain ⟨u, hu, hru⟩ := hcells j c hc1
      obtain ⟨fz, h4, _⟩ := harr
      obtain ⟨fz', h5, _⟩ := harr'
      rw [h4] at h5
      simp only [Option.some.injEq, Obj.cells.injEq] at h5
      obtain ⟨rfl, _, _⟩ := h5
      exact ⟨u, hu, avLe_rep (x := .one c) (y := .one d) hc2 hru⟩⟩) (fun i hi => List.all_eq_true.1 hw i hi)
  have k : Keeps (fun _ => True) w (F.ok w h β) β w (F.ok w (put h id (.mx cs', z)) β) β := ⟨fun b hb => ⟨(hok b).1 hb, rfl⟩, fun _ _ => ⟨rfl, fun _ _ => rfl⟩⟩
  refine ⟨β, hr, r.defers, r.size, fun t v hl2 => ?_⟩
  obtain ⟨⟨u, hu, hru⟩, hw2⟩ := r.env t v hl2
  exact ⟨⟨u, hu, k.repV (fun _ _ => trivial) hru⟩, fun i hi => by
    have := hw2 i hi
    show (look (put h id (.mx cs', z)) i).isSome = true
    rw [look_put]; split <;> simp_all⟩
end Go.VL


namespace Go.VS.YtekfjbjdlenhoaaGreatDoor
open Go Go.VL Go.VN Go.RowKit Go.Proofs
set_option maxRecDepth 100000
set_option linter.unusedVariables false
set_option linter.unusedSimpArgs false

abbrev orR (p : Ort × Int × Int) : PA := .tup [(true, eO p.1), (false, [.int .i64 p.2.1]), (false, [.int .i64 p.2.2])]
theorem f_OParse (s : List UInt8) : Spc X 31 [.one (.str s)] (orR (prsO s)) := by
  refine Spc.start Tryz.func31 rfl (h := fun hs R hR => ?_)
  unfold Tryz.f31
  simp only [entryE, PA.av]
  unfold prsO at hR
  refine walk (hQ := ?_)
  refine W_if (ht := fun h1 => ?_) (hf := fun h1 => ?_)
  · rw [if_pos (by omega)] at hR
    refine walk (hQ := ?_)
    exact hR _ (ret3 (hp := rfl))
  rw [if_neg (by omega)] at hR
  refine walk (hQ := ?_)
  refine W_if (ht := fun h2 => ?_) (hf := fun h2 => ?_)
  · rw [if_pos h2] at hR
    refine walk (hQ := ?_)
    exact hR _ (ret3 (hp := rfl))
  rw [if_neg h2] at hR
  have k1 := s_SplitAfter 10 s (by omega)
  have hlw := spK_mem true 10 s
  have hll : (spK true 10 s).length ≤ 20001 := by
    have := spK_len true 10 s.length s (Nat.le_refl _)
    have := List.count_le_length (a := 10) (l := s)
    omega
  generalize spK true 10 s = L at *
  refine walk (hQ := ?_)
  refine R_call k1 (hK := ?_)
  refine walk (hQ := ?_)
  refine Lp.intro3 (fun (nm : List UInt8) (out : List Sgn) (i : Nat) => ⟨[(2, .one (.ptr 0 0)), (5, .one (.ptr 1 0)), (24, vP (slc eS L)), (25, vI L.length), (26, vI i)], [(0, (.mx [.pv (.str []), .pv .nil], false)), (1, (.mx [.pv (.str nm), .own 2 4 out.length], false)), (2, (.pu 44 (out.flatMap eSg), false))], 3⟩) (fun nm out i => i ≤ L.length ∧ prsL i (nm, out) (L.drop i) = prsL 0 zO L ∧ out.length ≤ i) (fun nm out i => L.length - i) [] [] 0 ⟨Nat.zero_le _, rfl, Nat.le_refl _⟩ (h0 := le_ghost1 2 44 (hle := le_retell 1 (cs := [.pv (.str []), .pv .nil]) (cs' := [.pv (.str []), .own 2 4 0]) rfl ⟨avLe_refl _, rfl, trivial⟩ rfl (by repeat (first | exact .hit | (apply PutR.miss; rfl))) le_auto)) (hr := fun nm out i K ⟨hi, ho, hol⟩ hK => ?_)
  refine walk (hQ := ?_)
  refine W_if (ht := fun h3 => ?_) (hf := fun h3 => ?_)
  · have hil : i < L.length := by omega
    have e0 := getD_some hil
    have hst := prsL_at e0 (nm, out)
    have hwl := hlw _ (List.mem_of_getElem? e0)
    rw [ho] at hst
    simp only at hst
    refine walk (hQ := ?_)
    generalize L.getD i default = w at *
    refine W_if (ht := fun h4 => ?_) (hf := fun h4 => ?_)
    · rw [if_pos h4] at hst
      rw [hst] at hR
      unfold endO at hR
      simp only [ne_eq, not_true_eq_false, if_false] at hR
      refine walk (hQ := ?_)
      refine R_callP (ids' := [2]) (f_check (nm, out)) (hK := ?_)
      have hcl := chkO_lo (nm, out)
      have hch := chkO_hi (nm, out)
      generalize chkO (nm, out) = c at *
      refine walk (hQ := ?_)
      refine W_if (ht := fun hc1 => ?_) (hf := fun hc1 => ?_)
      · rw [if_pos hc1] at hR
        refine walk (hQ := ?_)
        exact hR _ (ret3 (hp := rfl))
      · rw [if_neg hc1] at hR
        refine walk (hQ := ?_)
        refine W_if (ht := fun hc2 => ?_) (hf := fun hc2 => ?_)
        · rw [if_pos hc2] at hR
          refine walk (hQ := ?_)
          exact hR _ (ret3 (hp := rfl))
        · rw [if_neg hc2] at hR
          simp only at hch
          refine walk (hQ := ?_)
          exact hR _ (ret3 (hp := rfl))
    · rw [if_neg h4] at hst
      have k2 := s_CutSuffix w [10]
      have hbl := trimSuffix_len w [10]
      unfold hdrF sgLn at hst
      generalize Lib.trimSuffix w [10] = b at *
      generalize Lib.hasSuffix w [10] = sf at *
      refine walk (hQ := ?_)
      refine R_call k2 (hK := ?_)
      refine walk (hQ := ?_)
      refine W_if (ht := fun h5 => ?_) (hf := fun h5 => ?_)
      · have hi0 : i = 0 := by omega
        subst hi0
        have hout : out = [] := List.eq_nil_of_length_eq_zero (Nat.le_zero.1 hol)
        rw [if_pos rfl] at hst
        have k3 := s_CutPrefix b wPre
        unfold hdrB at hst
        have k4 := s_Contains1 (Lib.trimPrefix b wPre) 32
        generalize Lib.trimPrefix b wPre = nn at *
        generalize Lib.hasPrefix b wPre = pf at *
        refine walk (hQ := ?_)
        refine R_call k3 (hK := ?_)
        cases sf with
        | false =>
          rw [if_neg (by simp)] at hst
          rw [hst, endO_bad _ (by omega)] at hR
          refine walk (hQ := ?_)
          exact hR _ (ret3 (hp := rfl))
        | true =>
          cases pf with
          | false =>
            rw [if_neg (by simp)] at hst
            rw [hst, endO_bad _ (by omega)] at hR
            refine walk (hQ := ?_)
            exact hR _ (ret3 (hp := rfl))
          | true =>
            refine walk (hQ := ?_)
            refine R_g_if (h1 := fun h6 => ?_) (h2 := fun h6 => ?_) <;> simp only [Bool.false_eq_true, if_false, if_true, Decidable.not_not] at h6
            · refine walk (hQ := ?_)
              cases hc : nn.contains 32 with
              | true =>
                rw [hc] at k4
                rw [if_neg (by simp only [hc, Bool.not_true, Bool.and_false]; decide)] at hst
                refine R_call k4 (hK := ?_)
                rw [hst, endO_bad _ (by omega)] at hR
                refine walk (hQ := ?_)
                exact hR _ (ret3 (hp := rfl))
              | false =>
                rw [hc] at k4
                have hne : nn.isEmpty = false := by cases nn with | nil => exact absurd rfl h6 | cons a l => rfl
                rw [if_pos (by simp only [hc, hne, Bool.not_false, Bool.and_true])] at hst
                refine R_call k4 (hK := ?_)
                refine walk (hQ := ?_)
                exact hK _ nn out (0 + 1) ⟨by omega, hst.symm, by omega⟩ (by omega) le_auto
            · rw [if_neg (by simp [h6])] at hst
              rw [hst, endO_bad _ (by omega)] at hR
              refine walk (hQ := ?_)
              exact hR _ (ret3 (hp := rfl))
      · rw [if_neg (by omega)] at hst
        have k3 := f_sign b (by omega)
        unfold sgB at hst
        generalize oO zSg (sgOf (splitL 32 b)) = P at *
        refine walk (hQ := ?_)
        refine R_call k3 (hK := ?_)
        obtain ⟨⟨xa, xb, xc, xd⟩, ok⟩ := P
        simp only [sgR, eSg] at *
        refine walk (hQ := ?_)
        cases sf with
        | false =>
          rw [if_neg (by simp)] at hst
          refine walk (hQ := ?_)
          refine R_bsl eSg (l := [(xa, xb, xc, xd)]) (hK := ?_)
          rw [hst, endO_bad _ (by omega)] at hR
          refine walk (hQ := ?_)
          exact hR _ (ret3 (hp := rfl))
        | true =>
          cases ok with
          | false =>
            rw [if_neg (by simp)] at hst
            refine walk (hQ := ?_)
            refine R_bsl eSg (l := [(xa, xb, xc, xd)]) (hK := ?_)
            rw [hst, endO_bad _ (by omega)] at hR
            refine walk (hQ := ?_)
            exact hR _ (ret3 (hp := rfl))
          | true =>
            rw [if_pos (by simp)] at hst
            refine walk (hQ := ?_)
            refine R_bsl eSg (l := [(xa, xb, xc, xd)]) (hK := ?_)
            refine walk (hQ := ?_)
            refine hK _ nm (out ++ [(xa, xb, xc, xd)]) (i + 1) ⟨by omega, hst.symm, by rw [List.length_append, List.length_singleton]; omega⟩ (by omega) ?_
            rw [List.length_append]
            exact le_auto
  · obtain rfl : i = L.length := by omega
    rw [List.drop_length, prsL] at ho
    rw [← ho] at hR
    unfold endO at hR
    simp only [ne_eq, not_true_eq_false, if_false] at hR
    refine walk (hQ := ?_)
    refine R_callP (ids' := [2]) (f_check (nm, out)) (hK := ?_)
    have hcl := chkO_lo (nm, out)
    have hch := chkO_hi (nm, out)
    generalize chkO (nm, out) = c at *
    refine walk (hQ := ?_)
    refine W_if (ht := fun hc1 => ?_) (hf := fun hc1 => ?_)
    · rw [if_pos hc1] at hR
      refine walk (hQ := ?_)
      exact hR _ (ret3 (hp := rfl))
    · rw [if_neg hc1] at hR
      refine walk (hQ := ?_)
      refine W_if (ht := fun hc2 => ?_) (hf := fun hc2 => ?_)
      · rw [if_pos hc2] at hR
        refine walk (hQ := ?_)
        exact hR _ (ret3 (hp := rfl))
      · rw [if_neg hc2] at hR
        simp only at hch
        refine walk (hQ := ?_)
        exact hR _ (ret3 (hp := rfl))
end Go.VS.YtekfjbjdlenhoaaGreatDoor


namespace Go.VN
open Go.RowKit Go.VL
set_option linter.unusedVariables false
def linesF (s : List UInt8) : List (List UInt8) := if (splitL 10 s).getLast? = some [] then (splitL 10 s).dropLast else splitL 10 s
def wordsF (s : List UInt8) : List (List UInt8) := if [] ∈ splitL 32 s then [] else splitL 32 s
theorem linesF_end {out : List (List UInt8)} {t s : List UInt8} (h : out ++ [t] = splitL 10 s) : linesF s = if t = [] then out else out ++ [t] := by
  unfold linesF
  rw [← h, List.getLast?_append]
  by_cases ht : t = []
  · rw [if_pos ht, ht]; simp
  · rw [if_neg ht, if_neg (by simpa using ht)]
/-- At the sign that ends a piece. -/
theorem piece_at {c : UInt8} {s : List UInt8} {fr i : Nat} (hf : fr ≤ i) (hi : i < s.length) (hn : c ∉ (s.drop fr).take (i - fr)) (hc : s[i]? = some c) : splitL c (s.drop fr) = (s.drop fr).take (i - fr) :: splitL c (s.drop (i + 1)) := by
  have h0 : i - fr ≤ (s.drop fr).length := by rw [List.length_drop]; omega
  have h1 : (s.drop fr)[i - fr]? = some c := by rw [List.getElem?_drop, show fr + (i - fr) = i by omega]; exact hc
  obtain ⟨c1, c2, c3⟩ := cut_at h0 hn (.inr h1)
  have hm : c ∈ s.drop fr := c3.2 (by rw [List.length_drop]; omega)
  unfold splitL
  rw [spK_hit false c hm, c2, List.drop_drop]
  simp only [Bool.toNat_false, Nat.add_zero]
  rw [show fr + (i - fr + 1) = i + 1 by omega]
theorem piece_end {c : UInt8} {s : List UInt8} {fr : Nat} (hf : fr ≤ s.length) (hn : c ∉ (s.drop fr).take (s.length - fr)) : splitL c (s.drop fr) = [s.drop fr] := by
  rw [List.take_of_length_le (by rw [List.length_drop]; omega)] at hn
  exact spK_miss false c hn
theorem piece_next {c : UInt8} {s : List UInt8} {fr i : Nat} (hf : fr ≤ i) (hi : i < s.length) (hn : c ∉ (s.drop fr).take (i - fr)) {x : UInt8} (hx : s[i]? = some x) (hne : x ≠ c) : c ∉ (s.drop fr).take (i + 1 - fr) := by
  have h1 : (s.drop fr)[i - fr]? = some x := by rw [List.getElem?_drop, show fr + (i - fr) = i by omega]; exact hx
  obtain ⟨h2, h3⟩ := List.getElem?_eq_some_iff.1 h1
  rw [show i + 1 - fr = (i - fr) + 1 by omega, List.take_succ_eq_append_getElem h2, h3, List.mem_append, List.mem_singleton, not_or]
  exact ⟨hn, fun e => hne e.symm⟩
end Go.VN
namespace Go.VN
open Go.RowKit Go.VL
def sgMk2 (t : List UInt8) (sd : List Snd × Int) (nu : Int × Bool) (z : Int) : Option Sgn := if sd.2 ≠ 0 ∨ nu.2 = false ∨ z < 0 then none else some (t, sd.1, nu.1, z)
/-- The sign with a line's words, as the reference takes it. -/
def lineR (l : List (List UInt8)) : Option Sgn :=
  if l.length < 4 then none
  else sgMk2 (l.getD 0 []) (prsSd (joinS ((l.drop 1).take (l.length - 3)))) (numF (l.getD (l.length - 2) [])) (ixP (fun y => decide (l.getD (l.length - 1) [] = y)) plcs)
theorem joinS_snoc (x : List UInt8) : ∀ {l : List (List UInt8)}, l ≠ [] → joinS (l ++ [x]) = joinS l ++ [32] ++ x
  | [y], _ => by simp [joinS]
  | y :: z :: l, _ => by
    have ih := joinS_snoc x (l := z :: l) (by simp)
    rw [List.cons_append, List.cons_append, joinS, ← List.cons_append, ih, joinS]
    simp
end Go.VN


namespace Go.VS.YtekfjbjdlenhoaaGreatDoor
open Go Go.VL Go.VN Go.RowKit Go.Proofs
set_option maxRecDepth 100000
set_option linter.unusedVariables false
set_option linter.unusedSimpArgs false

theorem g_Lines (s : List UInt8) (hl : s.length ≤ 20000) : Spc X 68 [.one (.str s)] (.one (slc eS (linesF s))) := by
  refine Spc.start Tryz.func68 rfl (h := fun hs R hR => ?_)
  unfold Tryz.f68
  simp only [entryE, PA.av]
  refine walk (hQ := ?_)
  refine Lp.intro3 (fun (out : List (List UInt8)) (fr i : Nat) => ⟨[(0, vS s), (3, .one (.own 0 1 out.length)), (4, vI fr), (5, vI i)], [(0, (.pu 9 (out.flatMap eS), false))], 1⟩) (fun out fr i => out.length ≤ i ∧ ((i ≤ s.length ∧ fr ≤ i ∧ out ++ splitL 10 (s.drop fr) = splitL 10 s ∧ 10 ∉ (s.drop fr).take (i - fr)) ∨ (i = s.length + 1 ∧ out = linesF s))) (fun out fr i => s.length + 1 - i) [] 0 0 ⟨Nat.zero_le _, .inl ⟨Nat.zero_le _, Nat.le_refl _, rfl, by simp⟩⟩ (h0 := le_ghost1 0 9 (hle := le_auto)) (hr := fun out fr i K ⟨hol, hI⟩ hK => ?_)
  have hib : i ≤ s.length + 1 := by omega
  refine walk (hQ := ?_)
  refine W_if (ht := fun h1 => ?_) (hf := fun h1 => ?_)
  · obtain ⟨hi, hf, ho, hn⟩ : i ≤ s.length ∧ fr ≤ i ∧ out ++ splitL 10 (s.drop fr) = splitL 10 s ∧ 10 ∉ (s.drop fr).take (i - fr) := by
      rcases hI with h | h
      · exact h
      · omega
    refine walk (hQ := ?_)
    refine R_g_if (h1 := fun h2 => ?_) (h2 := fun h2 => ?_) <;> simp only [Bool.false_eq_true, if_false, if_true, Decidable.not_not] at h2
    · obtain rfl : i = s.length := by omega
      rw [piece_end hf hn] at ho
      have hend := linesF_end ho
      refine walk (hQ := ?_)
      refine W_if (ht := fun h3 => ?_) (hf := fun h3 => ?_)
      · rw [if_pos (List.drop_eq_nil_of_le (by omega))] at hend
        rw [hend] at hR
        refine walk (hQ := ?_)
        exact hR _ (ret1 (hp := rfl))
      · rw [if_neg (fun e => by have := congrArg List.length e; rw [List.length_drop] at this; simp only [List.length_nil] at this; omega)] at hend
        refine walk (hQ := ?_)
        rw [decide_eq_true (show (s.length : Int) = s.length from rfl)]
        refine walk (hQ := ?_)
        rw [List.take_of_length_le (show (s.drop fr).length ≤ s.length - fr by rw [List.length_drop]; omega)]
        refine hK _ (out ++ [s.drop fr]) (s.length + 1) (s.length + 1) ⟨by rw [List.length_append, List.length_singleton]; omega, .inr ⟨rfl, hend.symm⟩⟩ (by omega) ?_
        rw [List.length_append]
        exact le_auto
    · have hil : i < s.length := by omega
      have e0 : s[i]? = some (s.getD i 0) := by rw [List.getD_eq_getElem?_getD, List.getElem?_eq_getElem hil]; rfl
      rw [decide_eq_false h2]
      refine walk (hQ := ?_)
      rw [decide_eq_false h2]
      refine walk (hQ := ?_)
      generalize s.getD i 0 = c at *
      refine W_if (ht := fun h3 => ?_) (hf := fun h3 => ?_)
      · have hc : c = 10 := UInt8.toNat_inj.1 (show c.toNat = 10 by omega)
        rw [hc] at e0
        have hpc := piece_at hf hil hn e0
        rw [hpc] at ho
        refine walk (hQ := ?_)
        refine hK _ (out ++ [(s.drop fr).take (i - fr)]) (i + 1) (i + 1) ⟨by rw [List.length_append, List.length_singleton]; omega, .inl ⟨by omega, Nat.le_refl _, by rw [List.append_assoc]; exact ho, by simp⟩⟩ (by omega) ?_
        rw [List.length_append]
        exact le_auto
      · have hc : c ≠ 10 := fun e => h3 (by rw [e]; rfl)
        refine walk (hQ := ?_)
        exact hK _ out fr (i + 1) ⟨by omega, .inl ⟨by omega, by omega, ho, piece_next hf hil hn e0 hc⟩⟩ (by omega) le_auto
  · have hout : out = linesF s := by
      rcases hI with h | h
      · omega
      · exact h.2
    rw [← hout] at hR
    refine walk (hQ := ?_)
    exact hR _ (ret1 (hp := rfl))
theorem g_words (s : List UInt8) (hl : s.length ≤ 20000) : Spc X 69 [.one (.str s)] (.one (slc eS (wordsF s))) := by
  refine Spc.start Tryz.func69 rfl (h := fun hs R hR => ?_)
  unfold Tryz.f69
  simp only [entryE, PA.av]
  refine walk (hQ := ?_)
  refine Lp.intro3 (fun (out : List (List UInt8)) (fr i : Nat) => ⟨[(0, vS s), (3, .one (.own 0 1 out.length)), (4, vI fr), (5, vI i)], [(0, (.pu 9 (out.flatMap eS), false))], 1⟩) (fun out fr i => out.length ≤ i ∧ ((i ≤ s.length ∧ fr ≤ i ∧ out ++ splitL 32 (s.drop fr) = splitL 32 s ∧ 32 ∉ (s.drop fr).take (i - fr) ∧ [] ∉ out) ∨ (i = s.length + 1 ∧ out = wordsF s))) (fun out fr i => s.length + 1 - i) [] 0 0 ⟨Nat.zero_le _, .inl ⟨Nat.zero_le _, Nat.le_refl _, rfl, by simp, by simp⟩⟩ (h0 := le_ghost1 0 9 (hle := le_auto)) (hr := fun out fr i K ⟨hol, hI⟩ hK => ?_)
  have hib : i ≤ s.length + 1 := by omega
  refine walk (hQ := ?_)
  refine W_if (ht := fun h1 => ?_) (hf := fun h1 => ?_)
  · obtain ⟨hi, hf, ho, hn, hne⟩ : i ≤ s.length ∧ fr ≤ i ∧ out ++ splitL 32 (s.drop fr) = splitL 32 s ∧ 32 ∉ (s.drop fr).take (i - fr) ∧ [] ∉ out := by
      rcases hI with h | h
      · exact h
      · omega
    refine walk (hQ := ?_)
    refine R_g_if (h1 := fun h2 => ?_) (h2 := fun h2 => ?_) <;> simp only [Bool.false_eq_true, if_false, if_true, Decidable.not_not] at h2
    · have hil : i < s.length := by omega
      have e0 : s[i]? = some (s.getD i 0) := by rw [List.getD_eq_getElem?_getD, List.getElem?_eq_getElem hil]; rfl
      refine walk (hQ := ?_)
      generalize s.getD i 0 = c at *
      refine W_if (ht := fun h3 => ?_) (hf := fun h3 => ?_)
      · have hc : c = 32 := UInt8.toNat_inj.1 (show c.toNat = 32 by omega)
        rw [hc] at e0
        have hpc := piece_at hf hil hn e0
        rw [hpc] at ho
        refine walk (hQ := ?_)
        refine W_if (ht := fun h4 => ?_) (hf := fun h4 => ?_)
        · have hem : [] ∈ splitL 32 s := by
            rw [← ho, show i - fr = 0 by omega, List.take_zero]; simp
          unfold wordsF at hR
          rw [if_pos hem] at hR
          refine walk (hQ := ?_)
          exact hR _ (ret1 (hp := rfl))
        · refine walk (hQ := ?_)
          have hpl : ((s.drop fr).take (i - fr)).length = i - fr := by rw [List.length_take, List.length_drop]; omega
          refine hK _ (out ++ [(s.drop fr).take (i - fr)]) (i + 1) (i + 1) ⟨by rw [List.length_append, List.length_singleton]; omega, .inl ⟨by omega, Nat.le_refl _, by rw [List.append_assoc]; exact ho, by simp, fun hm => ?_⟩⟩ (by omega) ?_
          · rcases List.mem_append.1 hm with hm | hm
            · exact hne hm
            · have := congrArg List.length (List.mem_singleton.1 hm)
              rw [hpl] at this; simp only [List.length_nil] at this; omega
          · rw [List.length_append]
            exact le_auto
      · have hc : c ≠ 32 := fun e => h3 (by rw [e]; rfl)
        refine walk (hQ := ?_)
        exact hK _ out fr (i + 1) ⟨by omega, .inl ⟨by omega, by omega, ho, piece_next hf hil hn e0 hc, hne⟩⟩ (by omega) le_auto
    · obtain rfl : i = s.length := by omega
      rw [piece_end hf hn] at ho
      refine walk (hQ := ?_)
      refine W_if (ht := fun h4 => ?_) (hf := fun h4 => ?_)
      · have hem : [] ∈ splitL 32 s := by
          rw [← ho, List.drop_eq_nil_of_le (by omega)]; simp
        unfold wordsF at hR
        rw [if_pos hem] at hR
        refine walk (hQ := ?_)
        exact hR _ (ret1 (hp := rfl))
      · have hnn : s.drop fr ≠ [] := fun e => by have := congrArg List.length e; rw [List.length_drop] at this; simp only [List.length_nil] at this; omega
        have hw : wordsF s = out ++ [s.drop fr] := by
          unfold wordsF
          rw [← ho, if_neg (fun hm => ?_)]
          rcases List.mem_append.1 hm with hm | hm
          · exact hne hm
          · exact hnn (List.mem_singleton.1 hm).symm
        refine walk (hQ := ?_)
        rw [List.take_of_length_le (show (s.drop fr).length ≤ s.length - fr by rw [List.length_drop]; omega)]
        refine hK _ (out ++ [s.drop fr]) (s.length + 1) (s.length + 1) ⟨by rw [List.length_append, List.length_singleton]; omega, .inr ⟨rfl, hw.symm⟩⟩ (by omega) ?_
        rw [List.length_append]
        exact le_auto
  · have hout : out = wordsF s := by
      rcases hI with h | h
      · omega
      · exact h.2
    rw [← hout] at hR
    refine walk (hQ := ?_)
    exact hR _ (ret1 (hp := rfl))
end Go.VS.YtekfjbjdlenhoaaGreatDoor


namespace Go.VS.YtekfjbjdlenhoaaGreatDoor
open Go Go.VL Go.VN Go.RowKit Go.Proofs
set_option maxRecDepth 100000
set_option linter.unusedVariables false
set_option linter.unusedSimpArgs false

theorem g_where (n : Nat) (hn : n < 5) : Spc X 50 [.one (.int .i64 n)] (.one (.str (plcs.getD n []))) := by
  refine Spc.start Tryz.func50 rfl (h := fun hs R hR => ?_)
  unfold Tryz.f50
  simp only [entryE, PA.av]
  have hn' : n < plcs.length := by simp only [plcs, List.length_cons, List.length_nil]; omega
  refine walk (hQ := ?_)
  exact hR _ (ret1 (hp := rfl))
theorem g_line (s : List UInt8) (hl : s.length ≤ 20000) : Spc X 70 [.one (.str s)] (sgR (oO zSg (lineR (wordsF s)))) := by
  refine Spc.start Tryz.func70 rfl (h := fun hs R hR => ?_)
  unfold Tryz.f70
  simp only [entryE, PA.av]
  have k1 := g_words s hl
  have hlw : ∀ w ∈ wordsF s, w.length ≤ s.length := fun w hw => by
    unfold wordsF at hw
    split at hw
    · cases hw
    · exact spK_mem false 32 s w hw
  have hll : (wordsF s).length ≤ 20001 := by
    have h1 : (splitL 32 s).length = s.count 32 + 1 := spK_len false 32 s.length s (Nat.le_refl _)
    have h2 := List.count_le_length (a := 32) (l := s)
    unfold wordsF
    split
    · simp
    · omega
  unfold lineR at hR
  generalize wordsF s = L at *
  refine walk (hQ := ?_)
  refine R_call k1 (hK := ?_)
  refine walk (hQ := ?_)
  refine W_if (ht := fun h1 => ?_) (hf := fun h1 => ?_)
  · rw [if_pos (by omega)] at hR
    refine walk (hQ := ?_)
    exact hR _ (ret2 (hp := rfl))
  rw [if_neg (by omega)] at hR
  refine walk (hQ := ?_)
  have hl4 : 4 ≤ L.length := by omega
  have e2 : joinS ((L.drop 1).take (2 - 1)) = L.getD (Int.toNat 1) [] := by
    match L, hl4 with
    | a :: b :: L, _ => rfl
  have hM : ∀ k, ∀ w ∈ (L.drop 1).take k, w.length ≤ s.length := fun k w hw => hlw w (List.mem_of_mem_drop (List.mem_of_mem_take hw))
  have hjl : ∀ k, k ≤ 20001 → (joinS ((L.drop 1).take k)).length ≤ 20001 * 20001 := fun k hk => by
    have h1 := joinS_len (hM k)
    have h2 : ((L.drop 1).take k).length * (s.length + 1) ≤ 20001 * 20001 := Nat.mul_le_mul (by rw [List.length_take]; omega) (by omega)
    omega
  refine Lp.intro (fun (i : Nat) => ⟨[(2, .one (.ptr 0 0)), (4, vP (slc eS L)), (5, vS (joinS ((L.drop 1).take (i - 1)))), (6, vI i)], [(0, (.mx [.pv (.str []), .pv .nil, .pv (.int .i64 0), .pv (.int .i64 0)], false))], 1⟩) (fun i => 2 ≤ i ∧ i ≤ L.length - 2) (fun i => L.length - i) 2 ⟨Nat.le_refl _, by omega⟩ (h0 := by rw [e2]; exact le_auto) (hr := fun i K hI hK => ?_)
  have hji := hjl (i - 1) (by omega)
  refine walk (hQ := ?_)
  refine W_if (ht := fun h2 => ?_) (hf := fun h2 => ?_)
  · have hil : i < L.length := by omega
    have e0 : L[i]? = some (L.getD i []) := by rw [List.getD_eq_getElem?_getD, List.getElem?_eq_getElem hil]; rfl
    have hwl := hlw _ (List.mem_of_getElem? e0)
    have hst : joinS ((L.drop 1).take (i + 1 - 1)) = joinS ((L.drop 1).take (i - 1)) ++ [32] ++ L.getD i [] := by
      have h4 : (L.drop 1)[i - 1]? = some (L.getD i []) := by rw [List.getElem?_drop, show 1 + (i - 1) = i by omega]; exact e0
      obtain ⟨h5, h6⟩ := List.getElem?_eq_some_iff.1 h4
      rw [show i + 1 - 1 = (i - 1) + 1 by omega, List.take_succ_eq_append_getElem h5, h6, joinS_snoc]
      intro e
      have := congrArg List.length e
      rw [List.length_take, List.length_drop] at this
      simp only [List.length_nil] at this
      omega
    refine walk (hQ := ?_)
    refine hK _ (i + 1) ⟨by omega, by omega⟩ (by omega) ?_
    rw [hst]
    exact le_auto
  · have hie : i - 1 = L.length - 3 := by omega
    rw [hie] at hji ⊢
    have k3 := g_SParse (joinS ((L.drop 1).take (L.length - 3)))
    have k4 := g_Number (L.getD (L.length - 2) [])
    generalize prsSd (joinS ((L.drop 1).take (L.length - 3))) = sd at *
    generalize numF (L.getD (L.length - 2) []) = nu at *
    refine walk (hQ := ?_)
    refine R_call k3 (hK := ?_)
    refine walk (hQ := ?_)
    rw [show ((L.length : Int) - 2).toNat = L.length - 2 by omega]
    refine R_call k4 (hK := ?_)
    refine walk (hQ := ?_)
    unfold sgMk2 at hR
    refine R_g_if (h1 := fun h3 => ?_) (h2 := fun h3 => ?_) <;> simp only [Bool.false_eq_true, if_false, if_true, Decidable.not_not] at h3
    · cases hb : nu.2 with
      | false =>
        rw [if_pos (.inr (.inl hb))] at hR
        refine walk (hQ := ?_)
        exact hR _ (ret2 (hp := rfl))
      | true =>
        refine walk (hQ := ?_)
        refine Lp.intro (fun (k : Nat) => ⟨[(2, .one (.ptr 0 0)), (4, vP (slc eS L)), (7, vP (slc eSd sd.1)), (9, vI nu.1), (11, vI k)], [(0, (.mx [.pv (.str []), .pv .nil, .pv (.int .i64 0), .pv (.int .i64 0)], false))], 1⟩) (fun k => k ≤ 5 ∧ ∀ y ∈ plcs.take k, decide (L.getD (L.length - 1) [] = y) = false) (fun k => 5 - k) 0 ⟨Nat.zero_le _, by simp⟩ (h0 := le_auto) (hr := fun k K2 ⟨hk, ho⟩ hK2 => ?_)
        refine walk (hQ := ?_)
        refine W_if (ht := fun h5 => ?_) (hf := fun h5 => ?_)
        · have hkl : k < plcs.length := by simp only [plcs, List.length_cons, List.length_nil]; omega
          have f0 : plcs[k]? = some (plcs.getD k []) := by rw [List.getD_eq_getElem?_getD, List.getElem?_eq_getElem hkl]; rfl
          have hst := take_succ_all (P := fun y => decide (L.getD (L.length - 1) [] = y) = false) f0 ho
          have hat := ixP_at (p := fun y => decide (L.getD (L.length - 1) [] = y)) f0 ho
          refine walk (hQ := ?_)
          refine R_call (g_where k (by omega)) (hK := ?_)
          refine walk (hQ := ?_)
          rw [show ((L.length : Int) - 1).toNat = L.length - 1 by omega]
          refine W_if (ht := fun h6 => ?_) (hf := fun h6 => ?_)
          · rw [hat (decide_eq_true h6), if_neg (by rintro (h | h | h); exact h h3; rw [hb] at h; cases h; omega)] at hR
            refine walk (hQ := ?_)
            exact hR _ (ret2 (hp := rfl))
          · refine walk (hQ := ?_)
            exact hK2 _ (k + 1) ⟨by omega, hst (decide_eq_false h6)⟩ (by omega) le_auto
        · obtain rfl : k = 5 := by omega
          rw [ixP_no (p := fun y => decide (L.getD (L.length - 1) [] = y)) (l := plcs) ho, if_pos (.inr (.inr (by omega)))] at hR
          refine walk (hQ := ?_)
          exact hR _ (ret2 (hp := rfl))
    · rw [if_pos (.inl h3)] at hR
      refine walk (hQ := ?_)
      exact hR _ (ret2 (hp := rfl))
end Go.VS.YtekfjbjdlenhoaaGreatDoor


namespace Go.VN
open Go.RowKit Go.VL
set_option linter.unusedVariables false
def hdrR (w : List UInt8) : List UInt8 × Bool := ((wordsF w).getD 1 [], decide ((wordsF w).length = 2) && decide ((wordsF w).getD 0 [] = wOrt))
def sgLR (w : List UInt8) : Sgn × Bool := oO zSg (lineR (wordsF w))
def refL (bad : Bool) : Nat → Ort → List (List UInt8) → Ort × Nat
  | _, o, [] => (o, 0)
  | i, o, w :: l =>
    if (l.isEmpty && bad) = true then (zO, i + 1)
    else if i = 0 then (if (hdrR w).2 = true then refL bad 1 ((hdrR w).1, o.2) l else (zO, 1))
    else (if (sgLR w).2 = true then refL bad (i + 1) (o.1, o.2 ++ [(sgLR w).1]) l else (zO, i + 1))
def badE (s : List UInt8) : Bool := decide (¬ s.getD (s.length - 1) 0 = 10)
def prsR (s : List UInt8) : Ort × Int × Int := if 20000 < s.length then (zO, 0, 3) else if linesF s = [] then (zO, 1, 2) else endO (refL (badE s) 0 zO (linesF s))
theorem refL_at {L : List (List UInt8)} {i : Nat} {w : List UInt8} (h : L[i]? = some w) (bad : Bool) (o : Ort) : refL bad i o (L.drop i) =
    if (decide (i + 1 = L.length) && bad) = true then (zO, i + 1)
    else if i = 0 then (if (hdrR w).2 = true then refL bad 1 ((hdrR w).1, o.2) (L.drop (i + 1)) else (zO, 1))
    else (if (sgLR w).2 = true then refL bad (i + 1) (o.1, o.2 ++ [(sgLR w).1]) (L.drop (i + 1)) else (zO, i + 1)) := by
  obtain ⟨hi, rfl⟩ := List.getElem?_eq_some_iff.1 h
  have e : (L.drop (i + 1)).isEmpty = decide (i + 1 = L.length) := by
    rw [Bool.eq_iff_iff, List.isEmpty_iff, decide_eq_true_eq, List.drop_eq_nil_iff]
    omega
  rw [List.drop_eq_getElem_cons hi, refL, e]
theorem linesF_len (s : List UInt8) : (linesF s).length ≤ s.length + 1 ∧ ∀ w ∈ linesF s, w.length ≤ s.length := by
  have h1 : (splitL 10 s).length = s.count 10 + 1 := spK_len false 10 s.length s (Nat.le_refl _)
  have h2 := List.count_le_length (a := 10) (l := s)
  have h3 : ∀ w ∈ splitL 10 s, w.length ≤ s.length := spK_mem false 10 s
  unfold linesF
  split
  · exact ⟨by rw [List.length_dropLast]; omega, fun w hw => h3 w (List.dropLast_subset _ hw)⟩
  · exact ⟨by omega, h3⟩
theorem linesF_ne {s : List UInt8} (h : linesF s ≠ []) : 0 < s.length := by
  rcases Nat.eq_zero_or_pos s.length with h0 | h0
  · obtain rfl := List.eq_nil_of_length_eq_zero h0
    exact absurd rfl h
  · exact h0
end Go.VN


namespace Go.VS.YtekfjbjdlenhoaaGreatDoor
open Go Go.VL Go.VN Go.RowKit Go.Proofs
set_option maxRecDepth 100000
set_option linter.unusedVariables false
set_option linter.unusedSimpArgs false

theorem g_OParse (s : List UInt8) : Spc X 42 [.one (.str s)] (orR (prsR s)) := by
  refine Spc.start Tryz.func42 rfl (h := fun hs R hR => ?_)
  unfold Tryz.f42
  simp only [entryE, PA.av]
  unfold prsR at hR
  refine walk (hQ := ?_)
  refine W_if (ht := fun h1 => ?_) (hf := fun h1 => ?_)
  · rw [if_pos (by omega)] at hR
    refine walk (hQ := ?_)
    exact hR _ (ret3 (hp := rfl))
  rw [if_neg (by omega)] at hR
  have k1 := g_Lines s (by omega)
  obtain ⟨hll, hlw⟩ := linesF_len s
  have hne := linesF_ne (s := s)
  have hbad : badE s = decide (¬ s.getD (s.length - 1) 0 = 10) := rfl
  generalize linesF s = L at *
  generalize badE s = bad at *
  refine walk (hQ := ?_)
  refine R_call k1 (hK := ?_)
  refine walk (hQ := ?_)
  refine W_if (ht := fun h2 => ?_) (hf := fun h2 => ?_)
  · rw [if_pos (List.eq_nil_of_length_eq_zero (by omega))] at hR
    refine walk (hQ := ?_)
    exact hR _ (ret3 (hp := rfl))
  have hLn : L ≠ [] := fun e => h2 (by rw [e]; rfl)
  have hs0 := hne hLn
  rw [if_neg hLn] at hR
  refine walk (hQ := ?_)
  refine Lp.intro3 (fun (nm : List UInt8) (out : List Sgn) (i : Nat) => ⟨[(0, vS s), (2, .one (.ptr 0 0)), (5, vP (slc eS L)), (6, .one (.ptr 1 0)), (7, vI i)], [(0, (.mx [.pv (.str []), .pv .nil], false)), (1, (.mx [.pv (.str nm), .own 2 4 out.length], false)), (2, (.pu 44 (out.flatMap eSg), false))], 3⟩) (fun nm out i => i ≤ L.length ∧ refL bad i (nm, out) (L.drop i) = refL bad 0 zO L ∧ out.length ≤ i) (fun nm out i => L.length - i) [] [] 0 ⟨Nat.zero_le _, rfl, Nat.le_refl _⟩ (h0 := le_ghost1 2 44 (hle := le_retell 1 (cs := [.pv (.str []), .pv .nil]) (cs' := [.pv (.str []), .own 2 4 0]) rfl ⟨avLe_refl _, rfl, trivial⟩ rfl (by repeat (first | exact .hit | (apply PutR.miss; rfl))) le_auto)) (hr := fun nm out i K ⟨hi, ho, hol⟩ hK => ?_)
  refine walk (hQ := ?_)
  refine W_if (ht := fun h3 => ?_) (hf := fun h3 => ?_)
  · have hil : i < L.length := by omega
    have e0 : L[i]? = some (L.getD i []) := by rw [List.getD_eq_getElem?_getD, List.getElem?_eq_getElem hil]; rfl
    have hst := refL_at e0 bad (nm, out)
    have hwl := hlw _ (List.mem_of_getElem? e0)
    rw [ho] at hst
    have k2 := g_words (L.getD i []) (by omega)
    have k3 := g_line (L.getD i []) (by omega)
    unfold hdrR sgLR at hst
    refine walk (hQ := ?_)
    refine R_g_if (h1 := fun h4 => ?_) (h2 := fun h4 => ?_) <;> simp only [Bool.false_eq_true, if_false, if_true, Decidable.not_not] at h4
    · have hbe : decide (¬ ((s.getD (s.length - 1) 0).toNat : Int) = 10) = bad := by
        rw [hbad]
        by_cases h : s.getD (s.length - 1) 0 = 10
        · rw [h]; rfl
        · have h' : ¬ ((s.getD (s.length - 1) 0).toNat : Int) = 10 := fun e => h (UInt8.toNat_inj.1 (show (s.getD (s.length - 1) 0).toNat = 10 by omega))
          rw [decide_eq_true h', decide_eq_true h]
      rw [decide_eq_true (show i + 1 = L.length by omega), Bool.true_and] at hst
      refine walk (hQ := ?_)
      rw [show ((s.length : Int) - 1).toNat = s.length - 1 by omega, hbe]
      cases bad with
      | true =>
        rw [if_pos rfl] at hst
        refine walk (hQ := ?_)
        generalize hw : L.getD i [] = w at *
        generalize oO zSg (lineR (wordsF w)) = P at *
        generalize wordsF w = W at *
        refine R_call k2 (hK := ?_)
        refine walk (hQ := ?_)
        rw [hw]
        refine R_call k3 (hK := ?_)
        obtain ⟨⟨xa, xb, xc, xd⟩, ok⟩ := P
        simp only [sgR, eSg] at *
        refine walk (hQ := ?_)
        refine W_if (ht := fun h5 => ?_) (hf := fun h5 => ?_)
        · refine walk (hQ := ?_)
          refine R_g_if (h1 := fun h6 => ?_) (h2 := fun h6 => ?_) <;> simp only [Bool.false_eq_true, if_false, if_true, Decidable.not_not] at h6
          · refine walk (hQ := ?_)
            rw [hst, endO_bad _ (by omega)] at hR
            refine walk (hQ := ?_)
            exact hR _ (ret3 (hp := rfl))
          ·
            rw [hst, endO_bad _ (by omega)] at hR
            refine walk (hQ := ?_)
            exact hR _ (ret3 (hp := rfl))
        · refine walk (hQ := ?_)
          rw [hst, endO_bad _ (by omega)] at hR
          refine walk (hQ := ?_)
          exact hR _ (ret3 (hp := rfl))
      | false =>
        rw [if_neg (by decide)] at hst
        refine walk (hQ := ?_)
        generalize hw : L.getD i [] = w at *
        generalize oO zSg (lineR (wordsF w)) = P at *
        generalize wordsF w = W at *
        refine R_call k2 (hK := ?_)
        refine walk (hQ := ?_)
        rw [hw]
        refine R_call k3 (hK := ?_)
        obtain ⟨⟨xa, xb, xc, xd⟩, ok⟩ := P
        simp only [sgR, eSg] at *
        refine walk (hQ := ?_)
        refine W_if (ht := fun h5 => ?_) (hf := fun h5 => ?_)
        · have hi0 : i = 0 := by omega
          subst hi0
          rw [if_pos rfl] at hst
          refine walk (hQ := ?_)
          refine R_g_if (h1 := fun h6 => ?_) (h2 := fun h6 => ?_) <;> simp only [Bool.false_eq_true, if_false, if_true, Decidable.not_not] at h6
          · have h6' : W.length = 2 := by omega
            refine walk (hQ := ?_)
            rw [show W.getD (Int.toNat 0) [] = W.getD 0 [] from rfl]
            refine W_if (ht := fun hB => ?_) (hf := fun hB => ?_)
            · rw [if_neg (by simp only [show ¬ W.getD 0 [] = wOrt from hB, decide_false, Bool.and_false]; decide)] at hst
              rw [hst, endO_bad _ (by omega)] at hR
              refine walk (hQ := ?_)
              exact hR _ (ret3 (hp := rfl))
            · rw [if_pos (by simp only [h6', show W.getD 0 [] = wOrt from Decidable.not_not.1 hB, decide_true, Bool.and_true])] at hst
              refine walk (hQ := ?_)
              refine hK _ (W.getD 1 []) out (0 + 1) ⟨by omega, hst.symm, by omega⟩ (by omega) le_auto
          · rw [if_neg (by simp only [show ¬ W.length = 2 by omega, decide_false, Bool.false_and]; decide)] at hst
            rw [hst, endO_bad _ (by omega)] at hR
            refine walk (hQ := ?_)
            exact hR _ (ret3 (hp := rfl))
        · rw [if_neg (by omega)] at hst
          cases ok with
          | false =>
            rw [if_neg (by simp)] at hst
            rw [hst, endO_bad _ (by omega)] at hR
            refine walk (hQ := ?_)
            exact hR _ (ret3 (hp := rfl))
          | true =>
            rw [if_pos (by simp)] at hst
            refine walk (hQ := ?_)
            refine W_if (ht := fun h => absurd h h5) (hf := fun _ => ?_)
            refine walk (hQ := ?_)
            refine R_bsl eSg (l := [(xa, xb, xc, xd)]) (hK := ?_)
            refine walk (hQ := ?_)
            refine hK _ nm (out ++ [(xa, xb, xc, xd)]) (i + 1) ⟨by omega, hst.symm, by rw [List.length_append, List.length_singleton]; omega⟩ (by omega) ?_
            rw [List.length_append]
            exact le_auto
    · rw [decide_eq_false (show ¬ i + 1 = L.length by omega), Bool.false_and, if_neg (by decide)] at hst
      refine walk (hQ := ?_)
      generalize hw : L.getD i [] = w at *
      generalize oO zSg (lineR (wordsF w)) = P at *
      generalize wordsF w = W at *
      refine R_call k2 (hK := ?_)
      refine walk (hQ := ?_)
      rw [hw]
      refine R_call k3 (hK := ?_)
      obtain ⟨⟨xa, xb, xc, xd⟩, ok⟩ := P
      simp only [sgR, eSg] at *
      refine walk (hQ := ?_)
      refine W_if (ht := fun h5 => ?_) (hf := fun h5 => ?_)
      · have hi0 : i = 0 := by omega
        subst hi0
        rw [if_pos rfl] at hst
        refine walk (hQ := ?_)
        refine R_g_if (h1 := fun h6 => ?_) (h2 := fun h6 => ?_) <;> simp only [Bool.false_eq_true, if_false, if_true, Decidable.not_not] at h6
        · have h6' : W.length = 2 := by omega
          refine walk (hQ := ?_)
          rw [show W.getD (Int.toNat 0) [] = W.getD 0 [] from rfl]
          refine W_if (ht := fun hB => ?_) (hf := fun hB => ?_)
          · rw [if_neg (by simp only [show ¬ W.getD 0 [] = wOrt from hB, decide_false, Bool.and_false]; decide)] at hst
            rw [hst, endO_bad _ (by omega)] at hR
            refine walk (hQ := ?_)
            exact hR _ (ret3 (hp := rfl))
          · rw [if_pos (by simp only [h6', show W.getD 0 [] = wOrt from Decidable.not_not.1 hB, decide_true, Bool.and_true])] at hst
            refine walk (hQ := ?_)
            refine hK _ (W.getD 1 []) out (0 + 1) ⟨by omega, hst.symm, by omega⟩ (by omega) le_auto
        · rw [if_neg (by simp only [show ¬ W.length = 2 by omega, decide_false, Bool.false_and]; decide)] at hst
          rw [hst, endO_bad _ (by omega)] at hR
          refine walk (hQ := ?_)
          exact hR _ (ret3 (hp := rfl))
      · rw [if_neg (by omega)] at hst
        cases ok with
        | false =>
          rw [if_neg (by simp)] at hst
          rw [hst, endO_bad _ (by omega)] at hR
          refine walk (hQ := ?_)
          exact hR _ (ret3 (hp := rfl))
        | true =>
          rw [if_pos (by simp)] at hst
          refine walk (hQ := ?_)
          refine W_if (ht := fun h => absurd h h5) (hf := fun _ => ?_)
          refine walk (hQ := ?_)
          refine R_bsl eSg (l := [(xa, xb, xc, xd)]) (hK := ?_)
          refine walk (hQ := ?_)
          refine hK _ nm (out ++ [(xa, xb, xc, xd)]) (i + 1) ⟨by omega, hst.symm, by rw [List.length_append, List.length_singleton]; omega⟩ (by omega) ?_
          rw [List.length_append]
          exact le_auto
  · obtain rfl : i = L.length := by omega
    rw [List.drop_length, refL] at ho
    rw [← ho] at hR
    unfold endO at hR
    simp only [ne_eq, not_true_eq_false, if_false] at hR
    refine walk (hQ := ?_)
    refine R_callP (ids' := [2]) (g_first (nm, out)) (hK := ?_)
    have hcl := chkO_lo (nm, out)
    have hch := chkO_hi (nm, out)
    generalize chkO (nm, out) = c at *
    refine walk (hQ := ?_)
    refine W_if (ht := fun hc1 => ?_) (hf := fun hc1 => ?_)
    · rw [if_neg hc1] at hR
      refine walk (hQ := ?_)
      refine W_if (ht := fun hc2 => ?_) (hf := fun hc2 => ?_)
      · rw [if_neg (by omega)] at hR
        simp only at hch
        refine walk (hQ := ?_)
        exact hR _ (ret3 (hp := rfl))
      · rw [if_pos (by omega)] at hR
        refine walk (hQ := ?_)
        exact hR _ (ret3 (hp := rfl))
    · rw [if_pos (Decidable.not_not.1 hc1)] at hR
      refine walk (hQ := ?_)
      exact hR _ (ret3 (hp := rfl))
end Go.VS.YtekfjbjdlenhoaaGreatDoor


namespace Go.VN
open Go.RowKit Go.VL
set_option linter.unusedVariables false
theorem spK_no (c : UInt8) : ∀ s : List UInt8, ∀ w ∈ splitL c s, c ∉ w
  | [], w, h => by
    simp only [splitL, spK, List.mem_singleton] at h
    rw [h]; simp
  | x :: s, w, h => by
    have ih := spK_no c s
    unfold splitL at h ih
    rw [spK] at h
    by_cases hx : x = c
    · rw [if_pos hx] at h
      rcases List.mem_cons.1 h with h | h
      · rw [h]; simp
      · exact ih w h
    · rw [if_neg hx] at h
      have hne := spK_ne false c s
      match hl : spK false c s, hne with
      | y :: l, _ =>
        rw [hl] at h ih
        simp only [consH] at h
        rcases List.mem_cons.1 h with h | h
        · rw [h, List.mem_cons, not_or]
          exact ⟨fun e => hx e.symm, ih y (by simp)⟩
        · exact ih w (by simp [h])
theorem splitL_one {c : UInt8} {w : List UInt8} (h : c ∉ w) : splitL c w = [w] := spK_miss false c h
theorem splitL_cons {c : UInt8} {w : List UInt8} (h : c ∉ w) (t : List UInt8) : splitL c (w ++ c :: t) = w :: splitL c t := by
  have hm : c ∈ w ++ c :: t := by simp
  unfold splitL
  rw [spK_hit false c hm, cutL_app h]
  simp [List.drop_append]
  rw [List.drop_eq_nil_of_le (by omega), List.nil_append]
theorem splitL_join : ∀ {M : List (List UInt8)}, M ≠ [] → (∀ w ∈ M, 32 ∉ w) → splitL 32 (joinS M) = M
  | [x], _, h => by rw [joinS]; exact splitL_one (h x (by simp))
  | x :: y :: l, _, h => by
    have ih := splitL_join (M := y :: l) (by simp) fun w hw => h w (by simp [hw])
    rw [joinS, List.append_assoc, List.singleton_append, splitL_cons (h x (by simp)), ih]
theorem rdAll_none : ∀ {M : List (List UInt8)} {w : List UInt8}, w ∈ M → rdS w = none → rdAll M = none
  | x :: M, w, h, hw => by
    rw [rdAll]
    rcases List.mem_cons.1 h with h | h
    · rw [← h, hw]
    · rw [rdAll_none h hw]
      cases rdS x <;> rfl
theorem rdS_nil : rdS [] = none := rfl
theorem prs_join {M : List (List UInt8)} (hM : M ≠ []) (hno : ∀ w ∈ M, 32 ∉ w) : ([] ∈ M → (prsSd (joinS M)).2 ≠ 0 ∨ (prsSd (joinS M)).1 = []) ∧ ([] ∉ M → (prsSd (joinS M)).2 = 0 → (prsSd (joinS M)).1 ≠ []) := by
  have hs := splitL_join hM hno
  unfold prsSd
  by_cases h1 : 4000 < (joinS M).length
  · rw [if_pos h1]
    exact ⟨fun _ => .inl (by simp), fun _ h => by simp at h⟩
  rw [if_neg h1]
  by_cases h2 : joinS M = []
  · rw [if_pos h2]
    refine ⟨fun _ => .inr rfl, fun hn _ => ?_⟩
    rw [h2] at hs
    exact absurd (by rw [← hs]; simp [splitL, spK]) hn
  rw [if_neg h2, hs]
  constructor
  · intro hm
    rw [rdAll_none hm rdS_nil]
    exact .inl (by simp)
  · intro hn
    cases hr : rdAll M with
    | none => intro h; simp at h
    | some l =>
      simp only
      split
      · intro h; simp at h
      · intro _ e
        have := rdAll_len hr
        simp only at e
        rw [e] at this
        exact hM (List.eq_nil_of_length_eq_zero this.symm)
theorem getD_mem {l : List (List UInt8)} {i : Nat} (h : i < l.length) : l.getD i [] ∈ l := by
  rw [List.getD_eq_getElem?_getD, List.getElem?_eq_getElem h]
  exact List.getElem_mem _
theorem numF_nil : numF [] = (0, false) := rfl
theorem ixP_nil : ixP (fun y => decide (([] : List UInt8) = y)) plcs = -1 := rfl
/-- The same sign of a line. -/
theorem sg_same (b : List UInt8) : sgOf (splitL 32 b) = lineR (wordsF b) := by
  have hno := spK_no 32 b
  unfold wordsF
  generalize splitL 32 b = L at *
  have hM : ∀ w ∈ (L.drop 1).take (L.length - 3), 32 ∉ w := fun w hw => hno w (List.mem_of_mem_drop (List.mem_of_mem_take hw))
  have hMn : 4 ≤ L.length → (L.drop 1).take (L.length - 3) ≠ [] := fun h e => by
    have := congrArg List.length e
    rw [List.length_take, List.length_drop] at this
    simp only [List.length_nil] at this
    omega
  by_cases hm : [] ∈ L
  · rw [if_pos hm, show lineR [] = none from rfl]
    unfold sgOf
    by_cases h1 : L.length < 4 ∨ L.head? = some []
    · rw [if_pos h1]
    rw [if_neg h1]
    rw [not_or] at h1
    obtain ⟨h1, h2⟩ := h1
    have hp := (prs_join (hMn (by omega)) hM).1
    obtain ⟨i, hi, he⟩ := List.getElem_of_mem hm
    have hg : ∀ j, j = i → L.getD j [] = [] := fun j hj => by rw [hj, List.getD_eq_getElem?_getD, List.getElem?_eq_getElem hi]; exact he
    unfold sgMk
    by_cases h3 : i = L.length - 1
    · rw [hg _ h3.symm, ixP_nil, if_pos (.inl (by omega))]
    by_cases h4 : i = L.length - 2
    · rw [hg _ h4.symm, numF_nil, if_pos (.inr (.inr (.inr rfl)))]
    by_cases h5 : i = 0
    · refine absurd ?_ h2
      subst h5
      rw [List.head?_eq_getElem?, List.getElem?_eq_getElem hi, he]
    · have hmm : [] ∈ (L.drop 1).take (L.length - 3) := by
        have : ((L.drop 1).take (L.length - 3))[i - 1]? = some [] := by
          rw [List.getElem?_take, if_pos (by omega), List.getElem?_drop, show 1 + (i - 1) = i by omega, List.getElem?_eq_getElem hi, he]
        exact List.mem_of_getElem? this
      rw [if_pos (hp hmm |>.elim (fun h => .inr (.inl h)) (fun h => .inr (.inr (.inl h))))]
  · rw [if_neg hm]
    unfold sgOf lineR
    by_cases h1 : L.length < 4
    · rw [if_pos (.inl h1), if_pos h1]
    have hhd : ¬ (L.length < 4 ∨ L.head? = some []) := by
      rintro (h | h)
      · exact h1 h
      · exact hm (List.mem_of_mem_head? (by rw [h]; rfl))
    rw [if_neg hhd, if_neg h1]
    have hp := (prs_join (hMn (by omega)) hM).2 (fun h => hm (List.mem_of_mem_drop (List.mem_of_mem_take h)))
    unfold sgMk sgMk2
    generalize prsSd (joinS ((L.drop 1).take (L.length - 3))) = sd at *
    generalize numF (L.getD (L.length - 2) []) = nu at *
    generalize ixP (fun y => decide (L.getD (L.length - 1) [] = y)) plcs = z at *
    by_cases hz : z < 0
    · rw [if_pos (.inl hz), if_pos (.inr (.inr hz))]
    by_cases hs : sd.2 = 0
    · by_cases hn : nu.2 = false
      · rw [if_pos (.inr (.inr (.inr hn))), if_pos (.inr (.inl hn))]
      · rw [if_neg (by rintro (h | h | h | h); exact hz h; exact h hs; exact hp hs h; exact hn h), if_neg (by rintro (h | h | h); exact h hs; exact hn h; exact hz h)]
    · rw [if_pos (.inr (.inl hs)), if_pos (.inl hs)]
theorem joinS_consH {x : UInt8} {l : List (List UInt8)} (h : 0 < l.length) : joinS (consH x l) = x :: joinS l := by
  match l, h with
  | [y], _ => rfl
  | y :: z :: l, _ => rfl
theorem joinS_split : ∀ s : List UInt8, joinS (splitL 32 s) = s
  | [] => rfl
  | x :: s => by
    have ih := joinS_split s
    have hne := spK_ne false 32 s
    unfold splitL at ih ⊢
    rw [spK]
    by_cases hx : x = 32
    · rw [if_pos hx]
      match hl : spK false 32 s, hne with
      | y :: l, _ =>
        rw [hl] at ih
        rw [joinS, ih, hx]; rfl
    · rw [if_neg hx, joinS_consH hne, ih]
theorem pre_has (t : List UInt8) : Lib.hasPrefix (wPre ++ t) wPre = true := by
  unfold Lib.hasPrefix
  rw [List.isPrefixOf_iff_prefix]
  exact List.prefix_append _ _
theorem hdr_same (b : List UInt8) : (hdrB b).2 = (hdrR b).2 ∧ ((hdrB b).2 = true → (hdrB b).1 = (hdrR b).1) := by
  have key : ∀ nm : List UInt8, nm ≠ [] → 32 ∉ nm → b = wPre ++ nm → hdrB b = (nm, true) ∧ hdrR b = (nm, true) := fun nm h1 h2 hb => by
    have ht : Lib.trimPrefix b wPre = nm := by
      unfold Lib.trimPrefix
      rw [hb, pre_has, if_pos rfl, List.drop_left' rfl]
    constructor
    · unfold hdrB
      rw [ht, hb, pre_has]
      have h3 : nm.isEmpty = false := by cases nm with | nil => exact absurd rfl h1 | cons a l => rfl
      have h4 : nm.contains 32 = false := Bool.eq_false_iff.2 fun h => h2 (List.contains_iff_mem.1 h)
      rw [h3, h4]; rfl
    · have hs : splitL 32 b = [wOrt, nm] := by
        rw [hb, show wPre ++ nm = wOrt ++ 32 :: nm by simp, splitL_cons (by decide), splitL_one h2]
      unfold hdrR wordsF
      rw [hs, if_neg (by
        intro hm
        rcases List.mem_cons.1 hm with hm | hm
        · exact absurd hm (by decide)
        · exact h1 (List.mem_singleton.1 hm).symm)]
      rfl
  by_cases h : (hdrR b).2 = true
  · have h0 := h
    unfold hdrR at h0
    simp only [Bool.and_eq_true, decide_eq_true_eq] at h0
    obtain ⟨h1, h2⟩ := h0
    have hno := spK_no 32 b
    have hj := joinS_split b
    unfold wordsF at h1 h2
    by_cases hm : [] ∈ splitL 32 b
    · rw [if_pos hm] at h1; simp at h1
    rw [if_neg hm] at h1 h2
    generalize splitL 32 b = L at *
    match L, h1 with
    | [a, nm], _ =>
      have ha : a = wOrt := h2
      subst ha
      have hb : b = wPre ++ nm := by rw [← hj]; simp [joinS]
      obtain ⟨k1, k2⟩ := key nm (fun e => hm (by rw [e]; simp)) (hno nm (by simp)) hb
      rw [k1, k2]
      exact ⟨rfl, fun _ => rfl⟩
  · have hf : (hdrR b).2 = false := Bool.eq_false_iff.2 h
    by_cases h3 : (hdrB b).2 = true
    · exfalso
      unfold hdrB at h3
      simp only [Bool.and_eq_true, Bool.not_eq_true'] at h3
      obtain ⟨⟨h4, h5⟩, h6⟩ := h3
      have hp := h4
      unfold Lib.hasPrefix at hp
      rw [List.isPrefixOf_iff_prefix] at hp
      obtain ⟨t, ht⟩ := hp
      have htr : Lib.trimPrefix b wPre = t := by
        unfold Lib.trimPrefix
        rw [h4, if_pos rfl, ← ht, List.drop_left' rfl]
      rw [htr] at h5 h6
      obtain ⟨_, k2⟩ := key t (fun e => by rw [e] at h5; simp at h5) (fun hm => by rw [List.contains_iff_mem.2 hm] at h6; cases h6) ht.symm
      rw [k2] at h
      exact h rfl
    · rw [Bool.eq_false_iff.2 h3, hf]
      exact ⟨rfl, fun h => by cases h⟩
def appN (c : UInt8) : List (List UInt8) → List (List UInt8)
  | [] => []
  | [x] => [x]
  | x :: y :: l => (x ++ [c]) :: appN c (y :: l)
theorem appN_cons {c : UInt8} {x : List UInt8} {l : List (List UInt8)} (h : 0 < l.length) : appN c (x :: l) = (x ++ [c]) :: appN c l := by
  match l, h with
  | y :: l, _ => rfl
theorem appN_consH {c x : UInt8} {l : List (List UInt8)} (h : 0 < l.length) : appN c (consH x l) = consH x (appN c l) := by
  match l, h with
  | [y], _ => rfl
  | y :: z :: l, _ => rfl
theorem spK_app (c : UInt8) : ∀ s : List UInt8, spK true c s = appN c (splitL c s)
  | [] => rfl
  | x :: s => by
    have ih := spK_app c s
    have hne := spK_ne false c s
    unfold splitL at ih ⊢
    rw [spK, spK, ih]
    by_cases hx : x = c
    · rw [if_pos hx, if_pos hx, appN_cons hne, if_pos rfl]; rfl
    · rw [if_neg hx, if_neg hx, appN_consH hne]
theorem suf_nl (w : List UInt8) : Lib.hasSuffix (w ++ [10]) [10] = true ∧ Lib.trimSuffix (w ++ [10]) [10] = w := by
  have h : Lib.hasSuffix (w ++ [10]) [10] = true := by
    unfold Lib.hasSuffix
    rw [List.isSuffixOf_iff_suffix]
    exact List.suffix_append _ _
  refine ⟨h, ?_⟩
  unfold Lib.trimSuffix
  rw [h, if_pos rfl]
  simp
theorem suf_no {t : List UInt8} (h : 10 ∉ t) : Lib.hasSuffix t [10] = false := by
  rw [Bool.eq_false_iff]
  intro hs
  unfold Lib.hasSuffix at hs
  rw [List.isSuffixOf_iff_suffix] at hs
  obtain ⟨a, ha⟩ := hs
  exact h (by rw [← ha]; simp)
theorem sgB_same (b : List UInt8) : sgB b = sgLR b := by unfold sgB sgLR; rw [sg_same]
theorem prs_step (i : Nat) (o : Ort) (w : List UInt8) (l : List (List UInt8)) : prsL i o ((w ++ [10]) :: l) = if i = 0 then (if (hdrR w).2 = true then prsL 1 ((hdrR w).1, o.2) l else (zO, 1)) else (if (sgLR w).2 = true then prsL (i + 1) (o.1, o.2 ++ [(sgLR w).1]) l else (zO, i + 1)) := by
  obtain ⟨h1, h2⟩ := suf_nl w
  obtain ⟨h3, h4⟩ := hdr_same w
  rw [prsL, if_neg (by simp)]
  unfold hdrF sgLn
  rw [h1, h2, sgB_same]
  simp only [Bool.true_and]
  rw [h3]
  by_cases h5 : (hdrR w).2 = true
  · rw [if_pos h5, if_pos h5, h4 (by rw [h3]; exact h5)]
  · rw [if_neg h5, if_neg h5]
theorem prs_ref0 : ∀ (M : List (List UInt8)) (i : Nat) (o : Ort), prsL i o (appN 10 (M ++ [[]])) = refL false i o M
  | [], i, o => by simp [appN, prsL, refL]
  | w :: M, i, o => by
    have ih := prs_ref0 M
    rw [List.cons_append, appN_cons (by simp), prs_step, refL, ih, ih]
    simp
theorem prs_ref1 {t : List UInt8} (h0 : t ≠ []) (hn : 10 ∉ t) : ∀ (M : List (List UInt8)) (i : Nat) (o : Ort), prsL i o (appN 10 (M ++ [t])) = refL true i o (M ++ [t])
  | [], i, o => by
    rw [List.nil_append, appN, prsL, refL, if_neg h0]
    unfold hdrF sgLn
    rw [suf_no hn]
    by_cases hi : i = 0 <;> simp [hi]
  | w :: M, i, o => by
    have ih := prs_ref1 h0 hn M
    rw [List.cons_append, appN_cons (by simp), prs_step, refL, ih, ih]
    simp
theorem flat_consH {x : UInt8} {l : List (List UInt8)} (h : 0 < l.length) : (consH x l).flatten = x :: l.flatten := by
  match l, h with
  | y :: l, _ => rfl
theorem spK_flat (c : UInt8) : ∀ s : List UInt8, (spK true c s).flatten = s
  | [] => rfl
  | x :: s => by
    have ih := spK_flat c s
    rw [spK]
    by_cases hx : x = c
    · rw [if_pos hx, if_pos rfl, List.flatten_cons, ih, hx]; rfl
    · rw [if_neg hx, flat_consH (spK_ne true c s), ih]
theorem appN_map (c : UInt8) (t : List UInt8) : ∀ M : List (List UInt8), appN c (M ++ [t]) = M.map (fun w => w ++ [c]) ++ [t]
  | [] => rfl
  | w :: M => by rw [List.cons_append, appN_cons (by simp), appN_map c t M]; rfl
theorem lastD (a : List UInt8) (x : UInt8) : (a ++ [x]).getD ((a ++ [x]).length - 1) 0 = x := by
  rw [List.getD_eq_getElem?_getD]; simp
/-- Both read the same. -/
theorem prs_same (s : List UInt8) : prsR s = prsO s := by
  unfold prsR prsO
  by_cases h1 : 20000 < s.length
  · rw [if_pos h1, if_pos h1]
  rw [if_neg h1, if_neg h1]
  by_cases h2 : s = []
  · subst h2; rfl
  rw [if_neg h2]
  have hne := spK_ne false 10 s
  have hLn : splitL 10 s ≠ [] := fun e => by unfold splitL at e; rw [e] at hne; simp at hne
  obtain ⟨M, t, hL⟩ : ∃ M t, M ++ [t] = splitL 10 s := ⟨_, _, List.dropLast_concat_getLast hLn⟩
  have ht : 10 ∉ t := spK_no 10 s t (by rw [← hL]; simp)
  have hfl := spK_flat 10 s
  rw [spK_app, ← hL, appN_map, List.flatten_append] at hfl
  simp only [List.flatten_cons, List.flatten_nil, List.append_nil] at hfl
  rw [spK_app, ← hL, linesF_end hL]
  by_cases h3 : t = []
  · subst h3
    rw [if_pos rfl, prs_ref0]
    have hM : M ≠ [] := fun e => by rw [e] at hfl; exact h2 (by rw [← hfl]; rfl)
    rw [if_neg hM]
    have hb : badE s = false := by
      have hMl : M.dropLast ++ [M.getLast hM] = M := List.dropLast_concat_getLast hM
      rw [← hMl, List.map_append, List.flatten_append, List.append_nil] at hfl
      simp only [List.map_cons, List.map_nil, List.flatten_cons, List.flatten_nil, List.append_nil] at hfl
      rw [← List.append_assoc] at hfl
      unfold badE
      rw [← hfl, lastD]; simp
    rw [hb]
  · rw [if_neg h3, prs_ref1 h3 ht, if_neg (by simp)]
    have hb : badE s = true := by
      have htl : t.dropLast ++ [t.getLast h3] = t := List.dropLast_concat_getLast h3
      have hx : t.getLast h3 ≠ 10 := fun e => ht (by rw [← e]; exact List.getLast_mem h3)
      rw [← htl, ← List.append_assoc] at hfl
      unfold badE
      rw [← hfl, lastD]; simpa using hx
    rw [hb]
end Go.VN


namespace Go.VN
open Go.RowKit Go.VL
set_option linter.unusedVariables false
set_option maxRecDepth 100000
def latB : List UInt8 :=
  ([111, 114, 116, 104, 111, 103, 114, 97, 112, 104, 121, 32, 108, 97, 116, 105, 110, 10, 97, 32, 97, 47, 118, 51, 32, 49, 32, 97, 110, 121, 119, 104, 101, 114, 101, 10, 101, 32, 101, 47, 118, 51, 32, 49, 32, 97, 110, 121] : List UInt8) ++
  ([119, 104, 101, 114, 101, 10, 105, 32, 105, 47, 118, 51, 32, 49, 32, 97, 110, 121, 119, 104, 101, 114, 101, 10, 111, 32, 111, 47, 118, 51, 32, 49, 32, 97, 110, 121, 119, 104, 101, 114, 101, 10, 117, 32, 117, 47, 118, 51] : List UInt8) ++
  ([32, 49, 32, 97, 110, 121, 119, 104, 101, 114, 101, 10, 121, 32, 121, 47, 118, 51, 32, 49, 32, 97, 110, 121, 119, 104, 101, 114, 101, 10, 97, 95, 32, 97, 95, 47, 118, 50, 32, 49, 32, 97, 110, 121, 119, 104, 101, 114] : List UInt8) ++
  ([101, 10, 101, 95, 32, 101, 95, 47, 118, 50, 32, 49, 32, 97, 110, 121, 119, 104, 101, 114, 101, 10, 105, 95, 32, 105, 95, 47, 118, 50, 32, 49, 32, 97, 110, 121, 119, 104, 101, 114, 101, 10, 111, 95, 32, 111, 95, 47] : List UInt8) ++
  ([118, 50, 32, 49, 32, 97, 110, 121, 119, 104, 101, 114, 101, 10, 117, 95, 32, 117, 95, 47, 118, 50, 32, 49, 32, 97, 110, 121, 119, 104, 101, 114, 101, 10, 121, 95, 32, 121, 95, 47, 118, 50, 32, 49, 32, 97, 110, 121] : List UInt8) ++
  ([119, 104, 101, 114, 101, 10, 97, 94, 32, 97, 94, 47, 118, 49, 32, 49, 32, 97, 110, 121, 119, 104, 101, 114, 101, 10, 101, 94, 32, 101, 94, 47, 118, 49, 32, 49, 32, 97, 110, 121, 119, 104, 101, 114, 101, 10, 105, 94] : List UInt8) ++
  ([32, 105, 94, 47, 118, 49, 32, 49, 32, 97, 110, 121, 119, 104, 101, 114, 101, 10, 111, 94, 32, 111, 94, 47, 118, 49, 32, 49, 32, 97, 110, 121, 119, 104, 101, 114, 101, 10, 117, 94, 32, 117, 94, 47, 118, 49, 32, 49] : List UInt8) ++
  ([32, 97, 110, 121, 119, 104, 101, 114, 101, 10, 121, 94, 32, 121, 94, 47, 118, 49, 32, 49, 32, 97, 110, 121, 119, 104, 101, 114, 101, 10, 97, 101, 32, 97, 101, 47, 100, 50, 32, 49, 32, 97, 110, 121, 119, 104, 101, 114] : List UInt8) ++
  ([101, 10, 97, 117, 32, 97, 117, 47, 100, 50, 32, 49, 32, 97, 110, 121, 119, 104, 101, 114, 101, 10, 111, 101, 32, 111, 101, 47, 100, 50, 32, 49, 32, 97, 110, 121, 119, 104, 101, 114, 101, 10, 101, 117, 32, 101, 117, 47] : List UInt8) ++
  ([100, 50, 32, 51, 32, 97, 110, 121, 119, 104, 101, 114, 101, 10, 105, 32, 105, 47, 103, 32, 48, 32, 115, 116, 97, 114, 116, 10, 105, 32, 105, 47, 103, 32, 105, 47, 103, 32, 48, 32, 98, 101, 116, 119, 101, 101, 110, 10] : List UInt8) ++
  ([117, 32, 117, 47, 103, 32, 48, 32, 115, 116, 97, 114, 116, 10, 117, 32, 117, 47, 103, 32, 48, 32, 98, 101, 116, 119, 101, 101, 110, 10, 106, 32, 106, 47, 103, 32, 48, 32, 97, 110, 121, 119, 104, 101, 114, 101, 10, 118] : List UInt8) ++
  ([32, 118, 47, 103, 32, 48, 32, 97, 110, 121, 119, 104, 101, 114, 101, 10, 113, 117, 32, 113, 117, 47, 109, 32, 48, 32, 98, 101, 102, 111, 114, 101, 10, 103, 117, 32, 103, 117, 47, 109, 32, 50, 32, 98, 101, 102, 111, 114] : List UInt8) ++
  ([101, 10, 115, 117, 32, 115, 47, 115, 32, 117, 47, 103, 32, 51, 32, 98, 101, 102, 111, 114, 101, 10, 98, 32, 98, 47, 109, 32, 48, 32, 97, 110, 121, 119, 104, 101, 114, 101, 10, 99, 32, 99, 47, 109, 32, 48, 32, 97] : List UInt8) ++
  ([110, 121, 119, 104, 101, 114, 101, 10, 100, 32, 100, 47, 109, 32, 48, 32, 97, 110, 121, 119, 104, 101, 114, 101, 10, 102, 32, 102, 47, 109, 32, 48, 32, 97, 110, 121, 119, 104, 101, 114, 101, 10, 103, 32, 103, 47, 109, 32] : List UInt8) ++
  ([48, 32, 97, 110, 121, 119, 104, 101, 114, 101, 10, 107, 32, 107, 47, 109, 32, 48, 32, 97, 110, 121, 119, 104, 101, 114, 101, 10, 112, 32, 112, 47, 109, 32, 48, 32, 97, 110, 121, 119, 104, 101, 114, 101, 10, 116, 32, 116] : List UInt8) ++
  ([47, 109, 32, 48, 32, 97, 110, 121, 119, 104, 101, 114, 101, 10, 108, 32, 108, 47, 108, 32, 48, 32, 97, 110, 121, 119, 104, 101, 114, 101, 10, 114, 32, 114, 47, 108, 32, 48, 32, 97, 110, 121, 119, 104, 101, 114, 101, 10] : List UInt8) ++
  ([109, 32, 109, 47, 110, 32, 48, 32, 97, 110, 121, 119, 104, 101, 114, 101, 10, 110, 32, 110, 47, 110, 32, 48, 32, 97, 110, 121, 119, 104, 101, 114, 101, 10, 115, 32, 115, 47, 115, 32, 48, 32, 97, 110, 121, 119, 104, 101] : List UInt8) ++
  ([114, 101, 10, 120, 32, 120, 47, 120, 32, 48, 32, 97, 110, 121, 119, 104, 101, 114, 101, 10, 122, 32, 122, 47, 120, 32, 48, 32, 97, 110, 121, 119, 104, 101, 114, 101, 10, 104, 32, 104, 47, 98, 32, 48, 32, 97, 110, 121] : List UInt8) ++
  ([119, 104, 101, 114, 101, 10] : List UInt8)
def greB : List UInt8 :=
  ([111, 114, 116, 104, 111, 103, 114, 97, 112, 104, 121, 32, 103, 114, 101, 101, 107, 10, 97, 32, 97, 47, 118, 51, 32, 49, 32, 97, 110, 121, 119, 104, 101, 114, 101, 10, 105, 32, 105, 47, 118, 51, 32, 49, 32, 97, 110, 121] : List UInt8) ++
  ([119, 104, 101, 114, 101, 10, 117, 32, 117, 47, 118, 51, 32, 49, 32, 97, 110, 121, 119, 104, 101, 114, 101, 10, 97, 95, 32, 97, 95, 47, 118, 50, 32, 49, 32, 97, 110, 121, 119, 104, 101, 114, 101, 10, 105, 95, 32, 105] : List UInt8) ++
  ([95, 47, 118, 50, 32, 49, 32, 97, 110, 121, 119, 104, 101, 114, 101, 10, 117, 95, 32, 117, 95, 47, 118, 50, 32, 49, 32, 97, 110, 121, 119, 104, 101, 114, 101, 10, 97, 94, 32, 97, 94, 47, 118, 49, 32, 49, 32, 97] : List UInt8) ++
  ([110, 121, 119, 104, 101, 114, 101, 10, 105, 94, 32, 105, 94, 47, 118, 49, 32, 49, 32, 97, 110, 121, 119, 104, 101, 114, 101, 10, 117, 94, 32, 117, 94, 47, 118, 49, 32, 49, 32, 97, 110, 121, 119, 104, 101, 114, 101, 10] : List UInt8) ++
  ([101, 32, 101, 47, 118, 49, 32, 49, 32, 97, 110, 121, 119, 104, 101, 114, 101, 10, 111, 32, 111, 47, 118, 49, 32, 49, 32, 97, 110, 121, 119, 104, 101, 114, 101, 10, 101, 95, 32, 101, 95, 47, 118, 50, 32, 49, 32, 97] : List UInt8) ++
  ([110, 121, 119, 104, 101, 114, 101, 10, 111, 95, 32, 111, 95, 47, 118, 50, 32, 49, 32, 97, 110, 121, 119, 104, 101, 114, 101, 10, 97, 105, 32, 97, 105, 47, 100, 50, 32, 49, 32, 97, 110, 121, 119, 104, 101, 114, 101, 10] : List UInt8) ++
  ([97, 117, 32, 97, 117, 47, 100, 50, 32, 49, 32, 97, 110, 121, 119, 104, 101, 114, 101, 10, 101, 105, 32, 101, 105, 47, 100, 50, 32, 49, 32, 97, 110, 121, 119, 104, 101, 114, 101, 10, 101, 117, 32, 101, 117, 47, 100, 50] : List UInt8) ++
  ([32, 49, 32, 97, 110, 121, 119, 104, 101, 114, 101, 10, 111, 105, 32, 111, 105, 47, 100, 50, 32, 49, 32, 97, 110, 121, 119, 104, 101, 114, 101, 10, 111, 117, 32, 111, 117, 47, 100, 50, 32, 49, 32, 97, 110, 121, 119, 104] : List UInt8) ++
  ([101, 114, 101, 10, 117, 105, 32, 117, 105, 47, 100, 50, 32, 49, 32, 97, 110, 121, 119, 104, 101, 114, 101, 10, 112, 104, 32, 112, 104, 47, 109, 32, 48, 32, 97, 110, 121, 119, 104, 101, 114, 101, 10, 116, 104, 32, 116, 104] : List UInt8) ++
  ([47, 109, 32, 48, 32, 97, 110, 121, 119, 104, 101, 114, 101, 10, 107, 104, 32, 107, 104, 47, 109, 32, 48, 32, 97, 110, 121, 119, 104, 101, 114, 101, 10, 112, 32, 112, 47, 109, 32, 48, 32, 97, 110, 121, 119, 104, 101, 114] : List UInt8) ++
  ([101, 10, 116, 32, 116, 47, 109, 32, 48, 32, 97, 110, 121, 119, 104, 101, 114, 101, 10, 107, 32, 107, 47, 109, 32, 48, 32, 97, 110, 121, 119, 104, 101, 114, 101, 10, 98, 32, 98, 47, 109, 32, 48, 32, 97, 110, 121, 119] : List UInt8) ++
  ([104, 101, 114, 101, 10, 100, 32, 100, 47, 109, 32, 48, 32, 97, 110, 121, 119, 104, 101, 114, 101, 10, 103, 32, 103, 47, 109, 32, 48, 32, 97, 110, 121, 119, 104, 101, 114, 101, 10, 114, 104, 32, 114, 104, 47, 108, 32, 48] : List UInt8) ++
  ([32, 97, 110, 121, 119, 104, 101, 114, 101, 10, 108, 32, 108, 47, 108, 32, 48, 32, 97, 110, 121, 119, 104, 101, 114, 101, 10, 114, 32, 114, 47, 108, 32, 48, 32, 97, 110, 121, 119, 104, 101, 114, 101, 10, 109, 32, 109, 47] : List UInt8) ++
  ([110, 32, 48, 32, 97, 110, 121, 119, 104, 101, 114, 101, 10, 110, 32, 110, 47, 110, 32, 48, 32, 97, 110, 121, 119, 104, 101, 114, 101, 10, 115, 32, 115, 47, 115, 32, 48, 32, 97, 110, 121, 119, 104, 101, 114, 101, 10, 112] : List UInt8) ++
  ([115, 32, 112, 115, 47, 120, 32, 48, 32, 97, 110, 121, 119, 104, 101, 114, 101, 10, 107, 115, 32, 107, 115, 47, 120, 32, 48, 32, 97, 110, 121, 119, 104, 101, 114, 101, 10, 120, 32, 120, 47, 120, 32, 48, 32, 97, 110, 121] : List UInt8) ++
  ([119, 104, 101, 114, 101, 10, 122, 32, 122, 47, 120, 32, 48, 32, 97, 110, 121, 119, 104, 101, 114, 101, 10, 104, 32, 104, 47, 98, 32, 48, 32, 115, 116, 97, 114, 116, 10] : List UInt8)
abbrev LAT : Ort := (prsO latB).1
abbrev GRE : Ort := (prsO greB).1
theorem lat_ok : (prsO latB).2 = (0, 0) := by decide +kernel
theorem gre_ok : (prsO greB).2 = (0, 0) := by decide +kernel
theorem lat_i : findL [105] 0 LAT.2 = [2, 22, 23] := by decide +kernel
theorem lat_qu : findL [113, 117] 0 LAT.2 = [28] := by decide +kernel
theorem lat_len : LAT.2.length = 47 ∧ GRE.2.length = 40 := by decide +kernel
end Go.VN


namespace Go.VS.YtekfjbjdlenhoaaGreatDoor
open Go Go.VL Go.VN Go.RowKit Go.Proofs
set_option maxRecDepth 100000
set_option linter.unusedVariables false
set_option linter.unusedSimpArgs false

theorem f_fixed (s : List UInt8) : Spc X 40 [.one (.str s)] (.agg (eO (prsO s).1)) := by
  refine Spc.start Tryz.func40 rfl (h := fun hs R hR => ?_)
  unfold Tryz.f40
  simp only [entryE, PA.av]
  have k1 := f_OParse s
  generalize prsO s = P at *
  obtain ⟨⟨nm, l⟩, z, e⟩ := P
  simp only [orR, eO] at *
  refine walk (hQ := ?_)
  refine R_call k1 (hK := ?_)
  refine walk (hQ := ?_)
  exact hR _ (ret1 (hp := rfl))
theorem f_Latin : Spc X 23 [] (.agg (eO LAT)) := by
  refine Spc.start Tryz.func23 rfl (h := fun hs R hR => ?_)
  unfold Tryz.f23
  simp only [entryE]
  have k1 : Spc X 40 [.one (.str latB)] (.agg (eO LAT)) := f_fixed latB
  generalize LAT = o at *
  obtain ⟨nm, l⟩ := o
  simp only [eO] at *
  refine walk (hQ := ?_)
  refine R_call (args := [.one (.str latB)]) k1 (hv := .cons (.cs rfl) (VA.one (.pv rfl)) .nil) (hK := ?_)
  refine walk (hQ := ?_)
  exact hR _ (ret1 (hp := rfl))
theorem g_Latin : Spc X 26 [] (.agg (eO LAT)) := by
  refine Spc.start Tryz.func26 rfl (h := fun hs R hR => ?_)
  unfold Tryz.f26
  simp only [entryE]
  have k1 := g_OParse latB
  rw [prs_same] at k1
  unfold LAT at hR
  generalize prsO latB = P at *
  obtain ⟨⟨nm, l⟩, z, e⟩ := P
  simp only [orR, eO] at *
  refine walk (hQ := ?_)
  refine R_call (args := [.one (.str latB)]) k1 (hv := .cons (.cs rfl) (VA.one (.pv rfl)) .nil) (hK := ?_)
  refine walk (hQ := ?_)
  exact hR _ (ret1 (hp := rfl))
theorem f_Greek : Spc X 24 [] (.agg (eO GRE)) := by
  refine Spc.start Tryz.func24 rfl (h := fun hs R hR => ?_)
  unfold Tryz.f24
  simp only [entryE]
  have k1 : Spc X 40 [.one (.str greB)] (.agg (eO GRE)) := f_fixed greB
  generalize GRE = o at *
  obtain ⟨nm, l⟩ := o
  simp only [eO] at *
  refine walk (hQ := ?_)
  refine R_call (args := [.one (.str greB)]) k1 (hv := .cons (.cs rfl) (VA.one (.pv rfl)) .nil) (hK := ?_)
  refine walk (hQ := ?_)
  exact hR _ (ret1 (hp := rfl))
theorem g_Greek : Spc X 27 [] (.agg (eO GRE)) := by
  refine Spc.start Tryz.func27 rfl (h := fun hs R hR => ?_)
  unfold Tryz.f27
  simp only [entryE]
  have k1 := g_OParse greB
  rw [prs_same] at k1
  unfold GRE at hR
  generalize prsO greB = P at *
  obtain ⟨⟨nm, l⟩, z, e⟩ := P
  simp only [orR, eO] at *
  refine walk (hQ := ?_)
  refine R_call (args := [.one (.str greB)]) k1 (hv := .cons (.cs rfl) (VA.one (.pv rfl)) .nil) (hK := ?_)
  refine walk (hQ := ?_)
  exact hR _ (ret1 (hp := rfl))
end Go.VS.YtekfjbjdlenhoaaGreatDoor


namespace Go.VL
open Go.Sort
set_option linter.unusedVariables false
set_option linter.unusedSimpArgs false

def ltU (x y : UInt8) : Bool := decide ((x.toNat : Int) < (y.toNat : Int))
/-- Two elements exchanged. -/
def swL (l : List UInt8) (i j : Nat) : List UInt8 := (l.set i (l.getD j default)).set j (l.getD i default)
theorem swL_len (l : List UInt8) (i j : Nat) : (swL l i j).length = l.length := by simp [swL]
theorem ta_get (l : List UInt8) (j : Nat) : l.toArray[j]! = l.getD j default := by simp [List.getD_eq_getElem?_getD]
theorem ta_swp (l : List UInt8) (i j : Nat) : swp l.toArray i j = (swL l i j).toArray := by
  unfold swp swL; rw [ta_get, ta_get]; simp
theorem ins_stop {a j : Nat} {l : List UInt8} (h : ¬ (a < j ∧ ltU (l.getD j default) (l.getD (j - 1) default) = true)) : insInner ltU a j l.toArray = l.toArray := by
  cases j with
  | zero => rfl
  | succ j =>
    rw [insInner, if_neg]
    rw [ta_get, ta_get]
    simp only [Bool.and_eq_true, decide_eq_true_eq]
    simpa using h
theorem ins_go {a j : Nat} {l : List UInt8} (h : a < j) (hl : ltU (l.getD j default) (l.getD (j - 1) default) = true) : insInner ltU a j l.toArray = insInner ltU a (j - 1) (swL l j (j - 1)).toArray := by
  cases j with
  | zero => omega
  | succ j =>
    rw [insInner, if_pos, ta_swp]; rfl
    rw [ta_get, ta_get]
    simp only [Bool.and_eq_true, decide_eq_true_eq]
    exact ⟨h, by simpa using hl⟩
def insL (a b : Nat) (l : List UInt8) : List UInt8 := (insertionSort ltU l.toArray a b).toList
theorem swp_sz {α : Type} [Inhabited α] (d : Array α) (i j : Nat) : (swp d i j).size = d.size := by simp [swp]
theorem insInner_sz (a : Nat) : ∀ (j : Nat) (d : Array UInt8), (insInner ltU a j d).size = d.size
  | 0, d => rfl
  | j + 1, d => by
    rw [insInner]; split
    · rw [insInner_sz a j, swp_sz]
    · rfl
theorem insOuter_sz (a b : Nat) : ∀ (k i : Nat) (d : Array UInt8), b - i ≤ k → (insOuter ltU a b i d).size = d.size
  | 0, i, d, h => by rw [insOuter, if_neg (by omega)]
  | k + 1, i, d, h => by
    rw [insOuter]; split
    · rw [insOuter_sz a b k (i + 1) _ (by omega), insInner_sz]
    · rfl
theorem insL_len (a b : Nat) (l : List UInt8) : (insL a b l).length = l.length := by
  unfold insL insertionSort
  have := insOuter_sz a b (b - (a + 1)) (a + 1) l.toArray (Nat.le_refl _)
  simpa using this
end Go.VL


namespace Go.VS.YtekfjbjdlenhoaaGreatDoor
open Go Go.VL Go.VN Go.RowKit Go.Proofs
set_option maxRecDepth 100000
set_option linter.unusedVariables false
set_option linter.unusedSimpArgs false

theorem s_isNaN (x : UInt8) : Spc X 124 [.one (.int .u8 x.toNat)] (.one (.bool false)) := by
  refine Spc.start Tryz.func124 rfl (h := fun hs R hR => ?_)
  unfold Tryz.f124
  simp only [entryE, PA.av]
  rw [show false = decide (¬ ((x.toNat : Int) = x.toNat)) by simp] at hR
  refine walk (hQ := ?_)
  exact hR _ (ret1 (hp := rfl))
theorem s_Less (x y : UInt8) : Spc X 92 [.one (.int .u8 x.toNat), .one (.int .u8 y.toNat)] (.one (.bool (ltU x y))) := by
  refine Spc.start Tryz.func92 rfl (h := fun hs R hR => ?_)
  unfold Tryz.f92
  simp only [entryE, PA.av]
  unfold ltU at hR
  refine walk (hQ := ?_)
  refine R_call (s_isNaN x) (hK := ?_)
  refine walk (hQ := ?_)
  exact hR _ (ret1 (hp := rfl))
theorem s_Ins (l : List UInt8) (a b : Nat) (hb : b ≤ l.length) (ha : a ≤ l.length) (hl : l.length ≤ 1000000000000) : SpcS X 86 [.one (.own 1000 1 l.length), vI a, vI b] [(1000, (.pu 5 (l.flatMap eU), false))] (.tup []) [(1000, (.pu 5 ((insL a b l).flatMap eU), false))] := by
  refine SpcS.start 0 Tryz.func86 rfl (h := fun hs hs2 R hR => ?_)
  unfold Tryz.f86
  simp only [entryV]
  generalize hD : Go.Sort.insOuter ltU a b (a + 1) l.toArray = D
  have hfin : insL a b l = D.toList := by unfold insL Go.Sort.insertionSort; rw [hD]
  generalize hn : l.length = n at *
  refine walk (hQ := ?_)
  refine Lp.intro2 (fun (i : Nat) (cur : List UInt8) => ⟨[(0, .one (.own 1000 1 n)), (1, vI a), (2, vI b), (6, vI i)], [(1000, (.pu 5 (cur.flatMap eU), false))], 0⟩)
    (fun i cur => i ≤ n + 1 ∧ a < i ∧ cur.length = n ∧ Go.Sort.insOuter ltU a b i cur.toArray = D) (fun i _ => b - i) (a + 1) l
    ⟨by omega, by omega, hn, hD⟩ (h0 := le_auto) (hr := fun i cur K ⟨hi, hai, hc, hp⟩ hK => ?_)
  rw [Go.Sort.insOuter] at hp
  refine walk (hQ := ?_)
  refine W_if (ht := fun h1 => ?_) (hf := fun h1 => ?_)
  · have hib : i < b := by omega
    rw [if_pos hib] at hp
    refine walk (hQ := ?_)
    refine Lp.intro2 (fun (j : Nat) (c : List UInt8) => ⟨[(0, .one (.own 1000 1 n)), (1, vI a), (2, vI b), (6, vI i), (7, vI j)], [(1000, (.pu 5 (c.flatMap eU), false))], 0⟩)
      (fun j c => j ≤ i ∧ c.length = n ∧ Go.Sort.insInner ltU a j c.toArray = Go.Sort.insInner ltU a i cur.toArray) (fun j _ => j) i cur
      ⟨Nat.le_refl _, hc, rfl⟩ (h0 := le_auto) (hr := fun j c K' ⟨hj, hcl, hq⟩ hK' => ?_)
    refine walk (hQ := ?_)
    refine R_g_if (h1 := fun h2 => ?_) (h2 := fun h2 => ?_) <;> simp only [Bool.false_eq_true, if_false, if_true, Decidable.not_not] at h2
    · have haj : a < j := by omega
      have ej : ((j : Int) - 1) = ((j - 1 : Nat) : Int) := by omega
      have k1 := s_Less (c.getD j default) (c.getD (j - 1) default)
      refine walk (hQ := ?_)
      rw [ej]
      generalize hj1 : j - 1 = j1 at *
      refine walk (hQ := ?_)
      refine R_call k1 (hK := ?_)
      refine walk (hQ := ?_)
      refine W_ifb (ht := fun h3 => ?_) (hf := fun h3 => ?_)
      · have hgo := ins_go haj (by rw [hj1]; exact h3)
        rw [hj1] at hgo
        refine walk (hQ := ?_)
        rw [ej]
        refine walk (hQ := ?_)
        exact hK' _ j1 (swL c j j1) ⟨by omega, by rw [swL_len]; exact hcl, by rw [← hgo]; exact hq⟩ (by omega) le_auto
      · rw [ins_stop (by rw [hj1, h3]; simp)] at hq
        rw [← hq] at hp
        refine walk (hQ := ?_)
        exact hK _ (i + 1) c ⟨by omega, by omega, hcl, hp⟩ (by omega) le_auto
    · rw [ins_stop (fun h => h2 (by omega))] at hq
      rw [← hq] at hp
      refine walk (hQ := ?_)
      exact hK _ (i + 1) c ⟨by omega, by omega, hcl, hp⟩ (by omega) le_auto
  · rw [if_neg (by omega)] at hp
    refine walk (hQ := ?_)
    refine hR _ (retS0 (hle := ⟨?_, trivial⟩))
    rw [hfin, ← hp]; rfl
end Go.VS.YtekfjbjdlenhoaaGreatDoor


namespace Go.VS.YtekfjbjdlenhoaaGreatDoor
open Go Go.VL Go.VN Go.RowKit Go.Proofs
set_option maxRecDepth 100000
set_option linter.unusedVariables false
set_option linter.unusedSimpArgs false

def lenTab : List UInt8 := [0] ++ [1] ++ List.replicate 2 2 ++ List.replicate 4 3 ++ List.replicate 8 4 ++ List.replicate 16 5 ++ List.replicate 32 6 ++ List.replicate 64 7 ++ List.replicate 128 8
def lenF (x : Nat) : Int := if 256 ≤ x then 8 + (lenTab.getD (x / 256) 0).toNat else (lenTab.getD x 0).toNat
theorem s_Len64 (x : Nat) (hx : x < 65536) : Spc X 96 [.one (.int .u64 x)] (.one (.int .i64 (lenF x))) := by
  refine Spc.start Tryz.func96 rfl (h := fun hs R hR => ?_)
  unfold Tryz.f96
  simp only [entryE, PA.av]
  unfold lenF at hR
  refine walk (hQ := ?_)
  refine W_if (ht := fun h1 => ?_) (hf := fun h1 => ?_)
  · omega
  refine walk (hQ := ?_)
  refine W_if (ht := fun h2 => ?_) (hf := fun h2 => ?_)
  · omega
  refine walk (hQ := ?_)
  refine W_if (ht := fun h3 => ?_) (hf := fun h3 => ?_)
  · rw [if_pos (by omega)] at hR
    refine walk (hQ := ?_)
    refine R_bin (v := .one (.pv (.int .u64 ((x / 256 : Nat) : Int)))) ⟨rfl⟩ ⟨rfl⟩ (fun K hK => ⟨by decide, by
      rw [show (x : Int).fdiv (2 ^ (min (Int.toNat 8) (IntKind.bits .u64))) = ((x / 256 : Nat) : Int) by rw [Int.fdiv_eq_ediv_of_nonneg _ (by decide)]; rfl]
      exact hK⟩) (hfl := .seq) (hK := ?_)
    generalize hy : x / 256 = y at *
    have hy2 : y < 256 := by omega
    refine walk (hQ := ?_)
    refine R_sidx (l := lenTab) (h0 := ⟨by omega, by rw [show lenTab.length = 256 from rfl]; omega⟩) (hK := ?_)
    have hc := UInt8.toNat_lt (lenTab.getD y 0)
    generalize lenTab.getD y 0 = c at *
    refine walk (hQ := ?_)
    exact hR _ (ret1 (hp := rfl))
  rw [if_neg (by omega)] at hR
  refine walk (hQ := ?_)
  refine R_sidx (l := lenTab) (h0 := ⟨by omega, by rw [show lenTab.length = 256 from rfl]; omega⟩) (hK := ?_)
  have hc := UInt8.toNat_lt (lenTab.getD x 0)
  generalize lenTab.getD x 0 = c at *
  rw [show (c.toNat : Int) = 0 + c.toNat by omega] at hR
  refine walk (hQ := ?_)
  exact hR _ (ret1 (hp := rfl))
theorem s_Len (x : Nat) (hx : x < 65536) : Spc X 59 [.one (.int .u64 x)] (.one (.int .i64 (lenF x))) := by
  refine Spc.start Tryz.func59 rfl (h := fun hs R hR => ?_)
  unfold Tryz.f59
  simp only [entryE, PA.av]
  refine walk (hQ := ?_)
  refine R_call (s_Len64 x hx) (hK := ?_)
  refine walk (hQ := ?_)
  exact hR _ (ret1 (hp := rfl))
theorem s_Pdq12 (l : List UInt8) (m : Int) (hl : l.length ≤ 12) : SpcS X 58 [.one (.own 1000 1 l.length), vI 0, vI l.length, vI m] [(1000, (.pu 5 (l.flatMap eU), false))] (.tup []) [(1000, (.pu 5 ((insL 0 l.length l).flatMap eU), false))] := by
  refine SpcS.start 0 Tryz.func58 rfl (h := fun hs hs2 R hR => ?_)
  unfold Tryz.f58
  simp only [entryV]
  have k1 := s_Ins l 0 l.length (Nat.le_refl _) (Nat.zero_le _) (by omega)
  refine walk (hQ := ?_)
  refine Lp.intro (fun (i : Nat) => ⟨[(0, .one (.own 1000 1 l.length)), (1, vI 0), (2, vI l.length), (3, vI m)], [(1000, (.pu 5 (l.flatMap eU), false))], 0⟩) (fun i => True) (fun i => i) 0 trivial (h0 := le_auto) (hr := fun i K _ hK => ?_)
  refine walk (hQ := ?_)
  refine W_if (ht := fun h1 => ?_) (hf := fun h1 => ?_)
  · refine walk (hQ := ?_)
    refine R_callM k1 (hK := ?_)
    refine walk (hQ := ?_)
    refine hR _ (retS0 (hle := ⟨rfl, trivial⟩))
  · omega
theorem s_Sort12 (l : List UInt8) (hl : l.length ≤ 12) : SpcS X 36 [.one (.own 1000 1 l.length)] [(1000, (.pu 5 (l.flatMap eU), false))] (.tup []) [(1000, (.pu 5 ((insL 0 l.length l).flatMap eU), false))] := by
  refine SpcS.start 0 Tryz.func36 rfl (h := fun hs hs2 R hR => ?_)
  unfold Tryz.f36
  simp only [entryV]
  refine walk (hQ := ?_)
  refine R_call (s_Len l.length (by omega)) (hK := ?_)
  refine walk (hQ := ?_)
  refine R_callM (s_Pdq12 l _ hl) (hK := ?_)
  refine walk (hQ := ?_)
  refine hR _ (retS0 (hle := ⟨rfl, trivial⟩))
theorem s_Compact0 (l : List UInt8) (hl : l.length ≤ 1000000000000) (hd : ∀ i, i + 1 < l.length → l.getD (i + 1) default ≠ l.getD i default) : SpcS X 37 [.one (.own 1000 1 l.length)] [(1000, (.pu 5 (l.flatMap eU), false))] (.one (.own 1000 1 l.length)) [(1000, (.pu 5 (l.flatMap eU), false))] := by
  refine SpcS.start 0 Tryz.func37 rfl (h := fun hs hs2 R hR => ?_)
  unfold Tryz.f37
  simp only [entryV]
  refine walk (hQ := ?_)
  refine W_if (ht := fun h1 => ?_) (hf := fun h1 => ?_)
  · refine walk (hQ := ?_)
    refine hR _ (retS1 (hy := rfl) (hle := ⟨rfl, trivial⟩))
  refine walk (hQ := ?_)
  refine Lp.intro (fun (i : Nat) => ⟨[(0, .one (.own 1000 1 l.length)), (3, vI i)], [(1000, (.pu 5 (l.flatMap eU), false))], 0⟩) (fun i => i ≤ l.length ∧ 1 ≤ i) (fun i => l.length - i) 1 ⟨by omega, by omega⟩ (h0 := le_auto) (hr := fun i K ⟨hi, hi1⟩ hK => ?_)
  refine walk (hQ := ?_)
  refine W_if (ht := fun h2 => ?_) (hf := fun h2 => ?_)
  · have ej : ((i : Int) - 1) = ((i - 1 : Nat) : Int) := by omega
    have hne := hd (i - 1) (by omega)
    rw [show i - 1 + 1 = i by omega] at hne
    refine walk (hQ := ?_)
    rw [ej]
    generalize hj : i - 1 = j at *
    refine walk (hQ := ?_)
    refine W_if (ht := fun h3 => ?_) (hf := fun h3 => ?_)
    · simp only [Int.toNat_natCast] at h3
      exact absurd (UInt8.toNat_inj.1 (by omega)) hne
    · refine walk (hQ := ?_)
      exact hK _ (i + 1) ⟨by omega, by omega⟩ (by omega) le_auto
  · refine walk (hQ := ?_)
    refine hR _ (retS1 (hy := rfl) (hle := ⟨rfl, trivial⟩))
end Go.VS.YtekfjbjdlenhoaaGreatDoor


namespace Go.VS.YtekfjbjdlenhoaaGreatDoor
open Go Go.VL Go.VN Go.RowKit Go.Proofs
set_option maxRecDepth 100000
set_option linter.unusedVariables false
set_option linter.unusedSimpArgs false

def txO (l : List Sgn) : List UInt8 := l.flatMap (·.1)
theorem txO_next {l : List Sgn} {i : Nat} {x : Sgn} (h : l[i]? = some x) : txO (l.take (i + 1)) = txO (l.take i) ++ x.1 := by
  obtain ⟨hi, rfl⟩ := List.getElem?_eq_some_iff.1 h
  unfold txO
  rw [List.take_succ_eq_append_getElem hi, List.flatMap_append]; simp
theorem txO_le (l : List Sgn) (i : Nat) : (txO (l.take i)).length ≤ (txO l).length := by
  conv => rhs; rw [← List.take_append_drop i l]
  unfold txO
  rw [List.flatMap_append, List.length_append]; omega
theorem f_Alphabet (o : Ort) (S : List UInt8) (hb : (txO o.2).length ≤ 12) (hS : insL 0 (txO o.2).length (txO o.2) = S) (hd : ∀ i, i + 1 < S.length → S.getD (i + 1) default ≠ S.getD i default) : Spc X 18 [orA o] (.one (.str S)) := by
  obtain ⟨nme, l⟩ := o
  refine Spc.start Tryz.func18 rfl (h := fun hs R hR => ?_)
  unfold Tryz.f18
  simp only [entryE, PA.av, eO, List.map_cons, List.map_nil]
  simp only at hb hS
  have hll : l.length ≤ 9223372036854775807 := (sane_slc (hs.1 (slc eSg l) (by simp [eO]))).1
  have hSl : S.length = (txO l).length := by rw [← hS, insL_len]
  refine walk (hQ := ?_)
  refine Lp.intro2 (fun (out : List UInt8) (i : Nat) => ⟨[(1, .one (.ptr 0 0)), (3, .one (.own 1 1 out.length)), (7, vP (slc eSg l)), (8, vI l.length), (9, vI i)], [(0, (.mx [.pv (.str nme), .pv (slc eSg l)], false)), (1, (.pu 5 (out.flatMap eU), false))], 2⟩) (fun out i => i ≤ l.length ∧ out = txO (l.take i)) (fun out i => l.length - i) [] 0 ⟨Nat.zero_le _, by simp [txO]⟩ (h0 := le_ghost1 1 5 (hle := le_auto)) (hr := fun out i K ⟨hi, ho⟩ hK => ?_)
  have hol : out.length ≤ 12 := by rw [ho]; exact Nat.le_trans (txO_le l i) hb
  refine walk (hQ := ?_)
  refine W_if (ht := fun h4 => ?_) (hf := fun h4 => ?_)
  · have hil : i < l.length := by omega
    have e0 := getD_some hil
    have hn := txO_next e0
    have hx : (out ++ (l.getD i default).1).length ≤ 12 := by rw [ho, ← hn]; exact Nat.le_trans (txO_le l (i + 1)) hb
    rw [List.length_append] at hx
    rw [← ho] at hn
    refine walk (hQ := ?_)
    generalize l.getD i default = x at *
    obtain ⟨xa, xb, xc, xd⟩ := x
    simp only [eSg, List.map_cons, List.map_nil] at *
    refine walk (hQ := ?_)
    exact hK _ (out ++ xa) (i + 1) ⟨by omega, hn.symm⟩ (by omega) (by rw [List.length_append]; exact le_auto)
  · obtain rfl : i = l.length := by omega
    rw [List.take_length] at ho
    subst ho
    have k1 := s_Sort12 (txO l) hb
    rw [hS] at k1
    have k2 := s_Compact0 S (by omega) hd
    rw [hSl] at k2
    refine walk (hQ := ?_)
    refine R_callM k1 (hK := ?_)
    refine walk (hQ := ?_)
    refine R_callM k2 (hK := ?_)
    refine walk (hQ := ?_)
    exact hR _ (ret1 (hp := rfl))
end Go.VS.YtekfjbjdlenhoaaGreatDoor


namespace Go.VN
open Go.RowKit Go.VL
set_option linter.unusedVariables false
theorem begs_pos {l : List Snd} (h : 0 < l.length) : begs l = nuc (l.getD 0 default) := by
  match l, h with
  | s :: l, _ => rfl
theorem begs_nil {l : List Snd} (h : ¬ 0 < l.length) : begs l = false := by
  match l, h with
  | [], _ => rfl
  | s :: l, h => simp at h
theorem ends_pos {l : List Snd} (h : 0 < l.length) : ends l = nuc (l.getD (l.length - 1) default) := by
  unfold ends
  rw [List.getLast?_eq_getElem?, getD_some (show l.length - 1 < l.length by omega)]
theorem ends_nil {l : List Snd} (h : ¬ 0 < l.length) : ends l = false := by
  match l, h with
  | [], _ => rfl
  | s :: l, h => simp at h
theorem fitW0 (b a : List Snd) : fitW 0 b a = true := rfl
theorem fitW1 (b a : List Snd) : fitW 1 b a = begs a := rfl
theorem fitW2 (b a : List Snd) : fitW 2 b a = (begs a && b.isEmpty) := rfl
theorem fitW3 (b a : List Snd) : fitW 3 b a = (begs a && ends b) := rfl
theorem fitW4 (b a : List Snd) : fitW 4 b a = !begs a := rfl
theorem fitWx {w : Int} (h0 : ¬ w = 0) (h1 : ¬ w = 1) (h2 : ¬ w = 2) (h3 : ¬ w = 3) (h4 : ¬ w = 4) (b a : List Snd) : fitW w b a = false := by
  unfold fitW; rw [if_neg h0, if_neg h1, if_neg h2, if_neg h3, if_neg h4]
theorem empty_dec {α : Type} (l : List α) : l.isEmpty = decide ((l.length : Int) = 0) := by
  cases l with
  | nil => rfl
  | cons x l => rw [List.isEmpty_cons, decide_eq_false]; rw [List.length_cons]; omega
theorem findL_snoc (s : List UInt8) : ∀ (l : List Sgn) (k : Nat) (x : Sgn), findL s k (l ++ [x]) = findL s k l ++ if x.1 = s then [((k + l.length : Nat) : Int)] else []
  | [], k, x => by
    simp only [List.nil_append, findL, List.length_nil, Nat.add_zero]
  | y :: l, k, x => by
    have ih := findL_snoc s l (k + 1) x
    simp only [List.cons_append, findL, ih, List.length_cons]
    rw [show k + 1 + l.length = k + (l.length + 1) by omega]
    by_cases h : y.1 = s <;> simp [h]
theorem findL_next {s : List UInt8} {l : List Sgn} {i : Nat} {x : Sgn} (h : l[i]? = some x) : findL s 0 (l.take (i + 1)) = findL s 0 (l.take i) ++ if x.1 = s then [(i : Int)] else [] := by
  obtain ⟨hi, rfl⟩ := List.getElem?_eq_some_iff.1 h
  rw [List.take_succ_eq_append_getElem hi, findL_snoc, Nat.zero_add, List.length_take, Nat.min_eq_left (by omega)]
theorem findL_len (s : List UInt8) : ∀ (l : List Sgn) (k : Nat), (findL s k l).length ≤ l.length
  | [], k => by simp [findL]
  | y :: l, k => by
    have ih := findL_len s l (k + 1)
    simp only [findL]
    by_cases h : y.1 = s
    · rw [if_pos h]; simp; omega
    · rw [if_neg h, List.length_cons]; omega
end Go.VN

