/- Contracts over whole values, and what they lean on: part j. Each holds under the conditions that it states. -/
import Derived.Test.YtekfjbjdlenhoaaGreatDoorYi
import Derived.Lib.Strings
set_option linter.unusedVariables false
set_option linter.unusedSimpArgs false

namespace Go.VS.YtekfjbjdlenhoaaGreatDoor
open Go Go.VL Go.VN Go.RowKit Go.Proofs
set_option maxRecDepth 100000
set_option linter.unusedVariables false

theorem s_IndexB (s : List UInt8) (c : UInt8) (hl : s.length ≤ 140737488355328) : Spc X 148 [.one (.str s), .one (.int .u8 (c.toNat : Int))] (.one (.int .i64 (Lib.indexByte s c))) :=
  spc_strU8 (ent_of2 (P := X.P) Tryz.func148 (by kernel_rfl) (by kernel_rfl)) fun w hG h0 => (Tryz.strings_IndexByte ⟨s.toArray⟩ c.toNat w).mono fun e w' ⟨he, hw⟩ => ⟨_, by rw [he, show ((c.toNat : Int).toNat.toUInt8) = c by simp], .int _ _ ((Go.VL.range_i64 _).2 (by
    have h1 := Lib.indexByte_ge s c
    have h2 : Lib.indexByte s c ≤ 140737488355328 := by
      by_cases hm : c ∈ s
      · obtain ⟨h3, h4⟩ := (indexByte_cut c s).1 hm
        have h5 := congrArg List.length h4
        rw [List.length_append, List.length_cons] at h5
        omega
      · rw [((indexByte_cut c s).2 hm).1]; omega
    constructor <;> omega)), by rw [hw]; exact Below.refl _ _⟩
theorem f_letter (c : UInt8) : Spc X 151 [.one (.int .u8 c.toNat)] (.one (.bool (ltr c))) := by
  refine Spc.start Tryz.func151 rfl (h := fun hs R hR => ?_)
  unfold Tryz.f151
  simp only [entryE, PA.av]
  have k1 := s_IndexB [32, 46, 44, 59, 58, 33, 63, 34, 45, 91, 93, 60, 62, 123, 125] c (by simp)
  have k2 : decide (Lib.indexByte [32, 46, 44, 59, 58, 33, 63, 34, 45, 91, 93, 60, 62, 123, 125] c < 0) = !([32, 46, 44, 59, 58, 33, 63, 34, 45, 91, 93, 60, 62, 123, 125] : List UInt8).contains c := by
    by_cases hm : c ∈ ([32, 46, 44, 59, 58, 33, 63, 34, 45, 91, 93, 60, 62, 123, 125] : List UInt8)
    · rw [((indexByte_cut c _).1 hm).1, List.contains_iff_mem.2 hm]
      simp
    · rw [((indexByte_cut c _).2 hm).1]
      have : ([32, 46, 44, 59, 58, 33, 63, 34, 45, 91, 93, 60, 62, 123, 125] : List UInt8).contains c = false := by
        rw [Bool.eq_false_iff]; exact fun h => hm (List.contains_iff_mem.1 h)
      rw [this]; rfl
  have h9 : ltr c = (decide (32 ≤ c.toNat) && decide (c.toNat ≤ 126) && decide (Lib.indexByte [32, 46, 44, 59, 58, 33, 63, 34, 45, 91, 93, 60, 62, 123, 125] c < 0)) := by rw [k2]; rfl
  rw [h9] at hR
  refine walk (hQ := ?_)
  refine R_g_if (h1 := fun h1 => ?_) (h2 := fun h1 => ?_) <;> simp only [if_true] at h1
  · rw [decide_eq_true (show 32 ≤ c.toNat by omega), Bool.true_and] at hR
    refine walk (hQ := ?_)
    refine R_g_if (h1 := fun h2 => ?_) (h2 := fun h2 => ?_) <;> simp only [if_true] at h2
    · rw [decide_eq_true (show c.toNat ≤ 126 by omega), Bool.true_and] at hR
      refine walk (hQ := ?_)
      refine R_call k1 (hK := ?_)
      refine walk (hQ := ?_)
      exact hR _ (ret1 (hp := rfl))
    · rw [decide_eq_false (show ¬ c.toNat ≤ 126 by omega), Bool.false_and] at hR
      refine walk (hQ := ?_)
      exact hR _ (ret1 (hp := rfl))
  · rw [decide_eq_false (show ¬ 32 ≤ c.toNat by omega), Bool.false_and, Bool.false_and] at hR
    refine walk (hQ := ?_)
    exact hR _ (ret1 (hp := rfl))
theorem f_TValid (s : List UInt8) : Spc X 150 [.one (.str s)] (.one (.int .i64 (tvE s))) := by
  refine Spc.start Tryz.func150 rfl (h := fun hs R hR => ?_)
  unfold Tryz.f150
  simp only [entryE, PA.av]
  unfold tvE at hR
  refine walk (hQ := ?_)
  refine W_if (ht := fun h1 => ?_) (hf := fun h1 => ?_)
  · rw [if_pos (by omega)] at hR
    refine walk (hQ := ?_)
    exact hR _ (ret1 (hp := rfl))
  rw [if_neg (by omega)] at hR
  refine walk (hQ := ?_)
  refine Lp.intro (fun (i : Nat) => ⟨[(0, vS s), (9, vP (slc eU s)), (10, vI s.length), (11, vI i)], [], 0⟩) (fun i => i ≤ s.length ∧ (s.take i).all vis = true) (fun i => s.length - i) 0 ⟨Nat.zero_le _, by simp⟩ (h0 := le_auto) (hr := fun i K ⟨hi, ho⟩ hK => ?_)
  refine walk (hQ := ?_)
  refine W_if (ht := fun h2 => ?_) (hf := fun h2 => ?_)
  · have hil : i < s.length := by omega
    have e0 : s[i] = s.getD i default := by rw [List.getD_eq_getElem?_getD, List.getElem?_eq_getElem hil]; rfl
    have e1 := List.take_succ_eq_append_getElem hil
    rw [e0] at e1
    have hm : s.getD i default ∈ s := e0 ▸ List.getElem_mem hil
    refine walk (hQ := ?_)
    generalize s.getD i default = c at *
    refine R_g_if (h1 := fun h3 => ?_) (h2 := fun h3 => ?_) <;> simp only [Bool.false_eq_true, if_false, if_true, Decidable.not_not] at h3
    · refine walk (hQ := ?_)
      refine W_if (ht := fun h4 => ?_) (hf := fun h4 => ?_)
      · rw [if_neg (fun h => by have := List.all_eq_true.1 h c hm; unfold vis at this; simp at this; omega)] at hR
        refine walk (hQ := ?_)
        exact hR _ (ret1 (hp := rfl))
      · refine walk (hQ := ?_)
        exact hK _ (i + 1) ⟨by omega, by rw [e1, List.all_append, ho]; unfold vis; simp; omega⟩ (by omega) le_auto
    · rw [if_neg (fun h => by have := List.all_eq_true.1 h c hm; unfold vis at this; simp at this; omega)] at hR
      refine walk (hQ := ?_)
      exact hR _ (ret1 (hp := rfl))
  · obtain rfl : i = s.length := by omega
    rw [List.take_length] at ho
    rw [if_pos ho] at hR
    refine walk (hQ := ?_)
    exact hR _ (ret1 (hp := rfl))
theorem f_Fold (s : List UInt8) : Spc X 127 [.one (.str s)] (.one (.str (foldS s))) := by
  refine Spc.start Tryz.func127 rfl (h := fun hs R hR => ?_)
  unfold Tryz.f127
  simp only [entryE, PA.av]
  have ls := sane_str hs.1
  refine W_seq ?_
  refine W_reg ?_
  refine R_assign (hK := ?_)
  refine Rn.nil ?_
  refine N_code ?_
  refine W_seq ?_
  refine W_reg ?_
  refine R_move (hK := ?_)
  refine R_cvSBo 500 (hK := ?_)
  refine walk (hQ := ?_)
  refine Lp.intro2 (fun (cur : List UInt8) (i : Nat) => ⟨[(0, vS s), (3, .one (.own 500 1 s.length)), (8, .one (.own 500 1 s.length)), (9, vI s.length), (10, vI i)], [(500, (.pu 5 (cur.flatMap eU), false))], 1⟩) (fun cur i => i ≤ s.length ∧ cur = foldS (s.take i) ++ s.drop i) (fun cur i => s.length - i) s 0 ⟨Nat.zero_le _, by simp [foldS]⟩ (h0 := le_auto) (hr := fun cur i K ⟨hi, ho⟩ hK => ?_)
  have hlen : cur.length = s.length := by rw [ho, List.length_append, foldS_len, List.length_take, List.length_drop]; omega
  refine walk (hQ := ?_)
  refine W_if (ht := fun h2 => ?_) (hf := fun h2 => ?_)
  · have hil : i < s.length := by omega
    have hat : cur[i]? = some s[i] := by rw [ho]; exact fold_at hil
    have e0 : cur.getD i default = s[i] := by rw [List.getD_eq_getElem?_getD, hat]; rfl
    have hnx := fold_next hil
    rw [← ho, ← e0] at hnx
    refine walk (hQ := ?_)
    rw [← e0] at hat
    generalize cur.getD i default = c at *
    refine R_g_if (h1 := fun h3 => ?_) (h2 := fun h3 => ?_) <;> simp only [if_true] at h3
    · refine walk (hQ := ?_)
      refine W_if (ht := fun h4 => ?_) (hf := fun h4 => ?_)
      · refine walk (hQ := ?_)
        refine R_subw (hK := ?_)
        rw [wrap_u8 (by omega) (by omega)]
        refine R_addw (hK := ?_)
        rw [wrap_u8 (by omega) (by omega), show (c.toNat : Int) - 65 + 97 = ((lowB c).toNat : Int) by rw [lowB_up (by omega)]; omega]
        refine walk (hQ := ?_)
        exact hK _ _ (i + 1) ⟨by omega, hnx⟩ (by omega) le_auto
      · refine walk (hQ := ?_)
        have e5 : cur = foldS (s.take (i + 1)) ++ s.drop (i + 1) := by
          rw [lowB_no (by omega)] at hnx
          rw [← hnx, set_self? hat]
        exact hK _ cur (i + 1) ⟨by omega, e5⟩ (by omega) le_auto
    · refine walk (hQ := ?_)
      have e5 : cur = foldS (s.take (i + 1)) ++ s.drop (i + 1) := by
        rw [lowB_no (by omega)] at hnx
        rw [← hnx, set_self? hat]
      exact hK _ cur (i + 1) ⟨by omega, e5⟩ (by omega) le_auto
  · obtain rfl : i = s.length := by omega
    rw [List.take_length, List.drop_length, List.append_nil] at ho
    subst ho
    refine walk (hQ := ?_)
    exact hR _ (ret1 (hp := rfl))
theorem f_Words (s : List UInt8) : Spc X 128 [.one (.str s)] (.tup [(false, [slc eSp (wdsF s).1]), (false, [.int .i64 (wdsF s).2])]) := by
  refine Spc.start Tryz.func128 rfl (h := fun hs R hR => ?_)
  unfold Tryz.f128
  simp only [entryE, PA.av]
  have ls := sane_str hs.1
  have k1 := f_TValid s
  have hlv : tvE s = 0 → s.length ≤ 120 := fun h => by
    unfold tvE at h
    by_cases h1 : 120 < s.length
    · rw [if_pos h1] at h; cases h
    · omega
  unfold wdsF at hR
  refine walk (hQ := ?_)
  generalize tvE s = v at *
  refine R_call k1 (hK := ?_)
  refine walk (hQ := ?_)
  refine W_if (ht := fun h1 => ?_) (hf := fun h1 => ?_)
  · rw [if_pos h1] at hR
    refine walk (hQ := ?_)
    exact hR _ (ret2 (hp := rfl))
  rw [if_neg h1] at hR
  have hlv := hlv (Decidable.not_not.1 h1)
  refine walk (hQ := ?_)
  refine Lp.intro2 (fun (out : List Spn) (i : Nat) => ⟨[(0, vS s), (5, .one (.own 0 2 out.length)), (15, vP (slc eU s)), (16, vI s.length), (17, vI i)], [(0, (.pu 143 (out.flatMap eSp), false))], 1⟩) (fun out i => i ≤ s.length ∧ wdsL i (s.drop i) out = wdsL 0 s [] ∧ out.length ≤ i ∧ ∀ p ∈ out, 0 ≤ p.1 ∧ 0 ≤ p.2 ∧ p.2 ≤ i) (fun out i => s.length - i) [] 0 ⟨Nat.zero_le _, by simp, by simp, by simp⟩ (h0 := le_ghost1 0 143 (hle := le_auto)) (hr := fun out i K ⟨hi, ho, hol, hob⟩ hK => ?_)
  refine walk (hQ := ?_)
  refine W_if (ht := fun h2 => ?_) (hf := fun h2 => ?_)
  · have hil : i < s.length := by omega
    have e0 : s[i] = s.getD i default := by rw [List.getD_eq_getElem?_getD, List.getElem?_eq_getElem hil]; rfl
    rw [List.drop_eq_getElem_cons hil, e0, wdsL] at ho
    have k2 := f_letter (s.getD i default)
    refine walk (hQ := ?_)
    generalize s.getD i default = c at *
    refine R_call k2 (hK := ?_)
    refine walk (hQ := ?_)
    unfold wStep at ho
    cases hl : ltr c with
    | false =>
      rw [if_pos hl] at ho
      refine walk (hQ := ?_)
      exact hK _ out (i + 1) ⟨by omega, ho, by omega, fun p hp => by have := hob p hp; omega⟩ (by omega) le_auto
    | true =>
      rw [if_neg (by rw [hl]; decide)] at ho
      refine walk (hQ := ?_)
      refine R_g_if (h1 := fun h3 => ?_) (h2 := fun h3 => ?_) <;> simp only [if_true] at h3
      · have h0 : 0 < out.length := by omega
        have hla : out[out.length - 1]? = some (out.getD (out.length - 1) (0, 0)) := by
          rw [List.getD_eq_getElem?_getD, List.getElem?_eq_getElem (by omega)]; rfl
        have hmm : out.getD (out.length - 1) (0, 0) ∈ out := List.mem_of_getElem? hla
        have hbd := hob _ hmm
        generalize out.getD (out.length - 1) (0, 0) = q at *
        refine walk (hQ := ?_)
        rw [show ((out.length : Int) - 1).toNat = out.length - 1 by omega]
        refine walk (hQ := ?_)
        refine R_ldOF (e := eSp) hla (hK := ?_)
        refine walk (hQ := ?_)
        refine W_if (ht := fun h4 => ?_) (hf := fun h4 => ?_)
        · rw [if_pos ⟨h0, h4⟩, ← h4] at ho
          refine walk (hQ := ?_)
          rw [show ((out.length : Int) - 1).toNat = out.length - 1 by omega]
          refine walk (hQ := ?_)
          refine R_ldOF (e := eSp) hla (hK := ?_)
          refine walk (hQ := ?_)
          rw [show ((out.length : Int) - 1).toNat = out.length - 1 by omega]
          refine walk (hQ := ?_)
          refine R_stOF (e := eSp) (b := (q.1, q.2 + 1)) (p := .int .i64 (q.2 + 1)) hla rfl (hK := ?_)
          refine walk (hQ := ?_)
          refine hK _ (out.set (out.length - 1) (q.1, q.2 + 1)) (i + 1) ⟨by omega, ho, by rw [List.length_set]; omega, fun p hp => ?_⟩ (by omega) (by rw [List.length_set]; exact le_auto)
          rcases List.mem_or_eq_of_mem_set hp with hp | hp
          · have := hob p hp; omega
          · rw [hp]; simp only; omega
        · rw [if_neg (fun h => h4 h.2)] at ho
          refine walk (hQ := ?_)
          refine R_bsl eSp (l := [((i : Int), (i : Int) + 1)]) (hK := ?_)
          refine walk (hQ := ?_)
          refine hK _ (out ++ [((i : Int), (i : Int) + 1)]) (i + 1) ⟨by omega, ho, by rw [List.length_append, List.length_singleton]; omega, fun p hp => ?_⟩ (by omega) (by rw [List.length_append]; exact le_auto)
          rcases List.mem_append.1 hp with hp | hp
          · have := hob p hp; omega
          · rw [List.mem_singleton.1 hp]; simp only; omega
      · rw [if_neg (by omega)] at ho
        refine walk (hQ := ?_)
        refine R_bsl eSp (l := [((i : Int), (i : Int) + 1)]) (hK := ?_)
        refine walk (hQ := ?_)
        refine hK _ (out ++ [((i : Int), (i : Int) + 1)]) (i + 1) ⟨by omega, ho, by rw [List.length_append, List.length_singleton]; omega, fun p hp => ?_⟩ (by omega) (by rw [List.length_append]; exact le_auto)
        rcases List.mem_append.1 hp with hp | hp
        · have := hob p hp; omega
        · rw [List.mem_singleton.1 hp]; simp only; omega
  · obtain rfl : i = s.length := by omega
    rw [List.drop_length, wdsL] at ho
    rw [← ho] at hR
    refine walk (hQ := ?_)
    exact hR _ (ret2 (hp := rfl))
end Go.VS.YtekfjbjdlenhoaaGreatDoor


namespace Go.VS.YtekfjbjdlenhoaaGreatDoor
open Go Go.VL Go.VN Go.RowKit Go.Proofs
set_option maxRecDepth 100000
set_option linter.unusedVariables false
set_option linter.unusedSimpArgs false

abbrev sdR (p : Snd × Bool) : PA := .tup [(true, eSd p.1), (false, [.bool p.2])]
theorem f_read (w : List UInt8) (hl : w.length ≤ 1000000) : Spc X 117 [.one (.str w)] (sdR (rdF w)) := by
  refine Spc.start Tryz.func117 rfl (h := fun hs R hR => ?_)
  unfold Tryz.f117
  simp only [entryE, PA.av]
  have k1 := s_Cut1 w 47 (by omega)
  unfold rdF at hR
  refine walk (hQ := ?_)
  by_cases hm : 47 ∈ w
  · simp only [hm, true_and, decide_true, if_true] at hR k1
    generalize w.drop ((cutL 47 w).length + 1) = t at *
    generalize cutL 47 w = hd at *
    refine R_call k1 (hK := ?_)
    refine walk (hQ := ?_)
    refine W_if (ht := fun h1 => ?_) (hf := fun h1 => ?_)
    · rw [if_neg (fun h => h h1)] at hR
      refine walk (hQ := ?_)
      exact hR _ (ret2 (hp := rfl))
    · rw [if_pos h1] at hR
      have htl : 0 < t.length := by
        rcases Nat.eq_zero_or_pos t.length with h | h
        · exact absurd (List.eq_nil_of_length_eq_zero h) h1
        · exact h
      have k2 := s_IndexB ltrs (t.getD 0 0) (by simp)
      have hz1 := Lib.indexByte_ge ltrs (t.getD 0 0)
      have hz2 : Lib.indexByte ltrs (t.getD 0 0) ≤ 9 := by
        by_cases hm : t.getD 0 0 ∈ ltrs
        · rw [((indexByte_cut _ ltrs).1 hm).1]
          have := cut_len (t.getD 0 0) hm
          simp only [List.length_cons, List.length_nil] at this
          omega
        · rw [((indexByte_cut _ ltrs).2 hm).1]; omega
      refine walk (hQ := ?_)
      rw [show t.getD (Int.toNat 0) 0 = t.getD 0 0 from rfl]
      generalize Lib.indexByte ltrs (t.getD 0 0) = z at *
      refine R_call k2 (hK := ?_)
      have k3 := f_Nucleus (z + 1, 0, hd)
      refine walk (hQ := ?_)
      cases hn : nuc (z + 1, 0, hd) with
      | true =>
        rw [hn] at k3
        rw [hn, if_pos rfl] at hR
        refine R_call k3 (hK := ?_)
        refine walk (hQ := ?_)
        refine R_g_if (h1 := fun h2 => ?_) (h2 := fun h2 => ?_) <;> simp only [Bool.false_eq_true, if_false, if_true, Decidable.not_not] at h2
        · have h2' : t.length = 2 := by omega
          refine walk (hQ := ?_)
          rw [show t.getD (Int.toNat 1) 0 = t.getD 1 0 from rfl]
          generalize hqe : t.getD 1 0 = q at *
          refine R_g_if (h1 := fun h3 => ?_) (h2 := fun h3 => ?_) <;> simp only [Bool.false_eq_true, if_false, if_true, Decidable.not_not] at h3
          · refine walk (hQ := ?_)
            rw [show t.getD (Int.toNat 1) 0 = q from hqe]
            refine W_if (ht := fun h4 => ?_) (hf := fun h4 => ?_)
            · rw [if_neg (by omega)] at hR
              refine walk (hQ := ?_)
              exact hR _ (ret2 (hp := rfl))
            · rw [if_pos (by omega)] at hR
              have k4 := f_SValid (z + 1, (q.toNat : Int) - 48, hd)
              refine walk (hQ := ?_)
              rw [show t.getD (Int.toNat 1) 0 = q from hqe]
              refine R_subw (hK := ?_)
              rw [wrap_u8 (by omega) (by omega)]
              refine walk (hQ := ?_)
              generalize sdE (z + 1, (q.toNat : Int) - 48, hd) = v at *
              refine R_call k4 (hK := ?_)
              refine walk (hQ := ?_)
              exact hR _ (ret2 (hp := rfl))
          · rw [if_neg (by omega)] at hR
            refine walk (hQ := ?_)
            exact hR _ (ret2 (hp := rfl))
        · rw [if_neg (by omega)] at hR
          refine walk (hQ := ?_)
          exact hR _ (ret2 (hp := rfl))
      | false =>
        rw [hn] at k3
        rw [hn, if_neg (by decide)] at hR
        refine R_call k3 (hK := ?_)
        refine walk (hQ := ?_)
        refine W_if (ht := fun h2 => ?_) (hf := fun h2 => ?_)
        · rw [if_neg (by omega)] at hR
          refine walk (hQ := ?_)
          exact hR _ (ret2 (hp := rfl))
        · rw [if_pos (by omega)] at hR
          have k4 := f_SValid (z + 1, 0, hd)
          refine walk (hQ := ?_)
          generalize sdE (z + 1, 0, hd) = v at *
          refine R_call k4 (hK := ?_)
          refine walk (hQ := ?_)
          exact hR _ (ret2 (hp := rfl))
  · simp only [hm, false_and, decide_false, if_false] at hR k1
    refine R_call k1 (hK := ?_)
    refine walk (hQ := ?_)
    exact hR _ (ret2 (hp := rfl))
abbrev sdP (p : List Snd × Int) : PA := .tup [(false, [slc eSd p.1]), (false, [.int .i64 p.2])]
theorem f_SParse (s : List UInt8) : Spc X 81 [.one (.str s)] (sdP (prsSd s)) := by
  refine Spc.start Tryz.func81 rfl (h := fun hs R hR => ?_)
  unfold Tryz.f81
  simp only [entryE, PA.av]
  unfold prsSd at hR
  refine walk (hQ := ?_)
  refine W_if (ht := fun h1 => ?_) (hf := fun h1 => ?_)
  · rw [if_pos (by omega)] at hR
    refine walk (hQ := ?_)
    exact hR _ (ret2 (hp := rfl))
  rw [if_neg (by omega)] at hR
  refine walk (hQ := ?_)
  refine W_if (ht := fun h2 => ?_) (hf := fun h2 => ?_)
  · rw [if_pos h2] at hR
    refine walk (hQ := ?_)
    exact hR _ (ret2 (hp := rfl))
  rw [if_neg h2] at hR
  have k1 := s_Split 32 s (by omega)
  have hlw : ∀ w ∈ splitL 32 s, w.length ≤ s.length := spK_mem false 32 s
  have hll : (splitL 32 s).length ≤ 4001 := by
    have : (splitL 32 s).length = s.count 32 + 1 := spK_len false 32 s.length s (Nat.le_refl _)
    have := List.count_le_length (a := 32) (l := s)
    omega
  refine walk (hQ := ?_)
  generalize splitL 32 s = L at *
  refine R_call k1 (hK := ?_)
  refine walk (hQ := ?_)
  refine Lp.intro2 (fun (out : List Snd) (i : Nat) => ⟨[(4, .one (.own 0 3 out.length)), (15, vP (slc eS L)), (16, vI L.length), (17, vI i)], [(0, (.pu 51 (out.flatMap eSd), false))], 1⟩) (fun out i => i ≤ L.length ∧ rdAll (L.take i) = some out) (fun out i => L.length - i) [] 0 ⟨Nat.zero_le _, rfl⟩ (h0 := le_ghost1 0 51 (hle := le_auto)) (hr := fun out i K ⟨hi, ho⟩ hK => ?_)
  have hol := rdAll_len ho
  rw [List.length_take] at hol
  refine walk (hQ := ?_)
  refine W_if (ht := fun h4 => ?_) (hf := fun h4 => ?_)
  · have hil : i < L.length := by omega
    have e0 := getD_some hil
    have hn := rdAll_next e0 ho
    have k2 := f_read (L.getD i default) (by have := hlw _ (List.mem_of_getElem? e0); omega)
    refine walk (hQ := ?_)
    unfold rdS toO at hn
    generalize L.getD i default = w at *
    generalize rdF w = P at *
    obtain ⟨⟨x1, x2, x3⟩, ok⟩ := P
    simp only [sdR, eSd] at *
    refine R_call k2 (hK := ?_)
    refine walk (hQ := ?_)
    cases ok with
    | false =>
      rw [hn.1 (by simp)] at hR
      refine walk (hQ := ?_)
      exact hR _ (ret2 (hp := rfl))
    | true =>
      refine walk (hQ := ?_)
      refine R_bsl eSd (l := [(x1, x2, x3)]) (hK := ?_)
      refine walk (hQ := ?_)
      refine hK _ (out ++ [(x1, x2, x3)]) (i + 1) ⟨by omega, hn.2 (x1, x2, x3) (by simp)⟩ (by omega) ?_
      rw [List.length_append]
      exact le_auto
  · obtain rfl : i = L.length := by omega
    rw [List.take_length] at ho
    rw [ho] at hR
    simp only at hR
    refine walk (hQ := ?_)
    refine W_if (ht := fun h5 => ?_) (hf := fun h5 => ?_)
    · rw [if_pos (by omega)] at hR
      refine walk (hQ := ?_)
      exact hR _ (ret2 (hp := rfl))
    · rw [if_neg (by omega)] at hR
      refine walk (hQ := ?_)
      exact hR _ (ret2 (hp := rfl))
end Go.VS.YtekfjbjdlenhoaaGreatDoor


namespace Go.VS.YtekfjbjdlenhoaaGreatDoor
open Go Go.VL Go.VN Go.RowKit Go.Proofs
set_option maxRecDepth 100000
set_option linter.unusedVariables false
set_option linter.unusedSimpArgs false

theorem g_split (s : List UInt8) (hl : s.length ≤ 1000000) : Spc X 84 [.one (.str s)] (.one (slc eS (splitL 32 s))) := by
  refine Spc.start Tryz.func84 rfl (h := fun hs R hR => ?_)
  unfold Tryz.f84
  simp only [entryE, PA.av]
  refine walk (hQ := ?_)
  refine Lp.intro2 (fun (out : List (List UInt8)) (i : Nat) => ⟨[(0, vS s), (3, .one (.own 0 1 out.length)), (4, vI i)], [(0, (.pu 9 (out.flatMap eS), false))], 1⟩) (fun out i => i ≤ s.length ∧ out = splitL 32 (s.take i)) (fun out i => s.length - i) [[]] 0 ⟨Nat.zero_le _, rfl⟩ (h0 := le_auto) (hr := fun out i K ⟨hi, ho⟩ hK => ?_)
  have hol : out.length ≤ i + 1 ∧ 0 < out.length := by
    have h1 : (splitL 32 (s.take i)).length = (s.take i).count 32 + 1 := spK_len false 32 _ _ (Nat.le_refl _)
    have h2 := List.count_le_length (a := 32) (l := s.take i)
    rw [List.length_take] at h2
    rw [ho]; omega
  refine walk (hQ := ?_)
  refine W_if (ht := fun h4 => ?_) (hf := fun h4 => ?_)
  · have hil : i < s.length := by omega
    have e0 : s[i]? = some (s.getD i 0) := by rw [List.getD_eq_getElem?_getD, List.getElem?_eq_getElem hil]; rfl
    have e2 : (s.drop i).take 1 = [s.getD i 0] := by
      rw [List.drop_eq_getElem_cons hil]
      rw [List.getElem?_eq_getElem hil, Option.some.injEq] at e0
      rw [e0]; rfl
    have e1 : splitL 32 (s.take (i + 1)) = if s.getD i 0 = 32 then out ++ [[]] else lastAdd out (s.getD i 0) := by
      rw [List.getElem?_eq_getElem hil, Option.some.injEq] at e0
      rw [List.take_succ_eq_append_getElem hil, e0, splitL_snoc, ho]
    refine walk (hQ := ?_)
    generalize hc : s.getD i 0 = c at *
    refine W_if (ht := fun h5 => ?_) (hf := fun h5 => ?_)
    · have h5' : c = 32 := UInt8.toNat_inj.1 (show c.toNat = 32 by omega)
      rw [if_pos h5'] at e1
      refine walk (hQ := ?_)
      refine hK _ (out ++ [[]]) (i + 1) ⟨by omega, e1.symm⟩ (by omega) ?_
      rw [List.length_append]
      exact le_auto
    · have h5' : ¬ c = 32 := fun e => h5 (by rw [e]; rfl)
      rw [if_neg h5'] at e1
      refine walk (hQ := ?_)
      have hx : (out.getD (out.length - 1) []).length ≤ s.length := by
        have hm : out.getD (out.length - 1) [] ∈ splitL 32 (s.take i) := by
          rw [← ho, List.getD_eq_getElem?_getD, List.getElem?_eq_getElem (by omega)]
          exact List.getElem_mem _
        have := spK_mem false 32 _ _ hm
        rw [List.length_take] at this
        omega
      rw [show i + 1 - i = 1 by omega, e2, show ((out.length : Int) - 1).toNat = out.length - 1 by omega]
      refine walk (hQ := ?_)
      rw [show ((out.length : Int) - 1).toNat = out.length - 1 by omega]
      refine hK _ (lastAdd out c) (i + 1) ⟨by omega, e1.symm⟩ (by omega) ?_
      unfold lastAdd
      rw [List.length_set]
      exact le_auto
  · obtain rfl : i = s.length := by omega
    rw [List.take_length] at ho
    rw [← ho] at hR
    refine walk (hQ := ?_)
    exact hR _ (ret1 (hp := rfl))
theorem g_lets : Spc X 75 [] (.one (.str lts)) := by
  refine Spc.start Tryz.func75 rfl (h := fun hs R hR => ?_)
  unfold Tryz.f75
  simp only [entryE]
  refine walk (hQ := ?_)
  exact hR _ (ret1 (hp := rfl))
theorem g_one (w : List UInt8) (hl : w.length ≤ 1000000) : Spc X 85 [.one (.str w)] (sdR (rdG w)) := by
  refine Spc.start Tryz.func85 rfl (h := fun hs R hR => ?_)
  unfold Tryz.f85
  simp only [entryE, PA.av]
  unfold rdG at hR
  refine walk (hQ := ?_)
  refine Lp.intro (fun (i : Nat) => ⟨[(0, vS w), (2, .one (.ptr 0 0)), (4, vI i)], [(0, (.mx [.pv (.int .i64 0), .pv (.int .i64 0), .pv (.str [])], false))], 1⟩) (fun i => i ≤ w.length ∧ 47 ∉ w.take i) (fun i => w.length - i) 0 ⟨Nat.zero_le _, by simp⟩ (h0 := le_auto) (hr := fun i K ⟨hi, ho⟩ hK => ?_)
  refine walk (hQ := ?_)
  refine R_g_if (h1 := fun h1 => ?_) (h2 := fun h1 => ?_) <;> simp only [Bool.false_eq_true, if_false, if_true, Decidable.not_not] at h1
  · have hil : i < w.length := by omega
    have e0 : w[i]? = some (w.getD i 0) := by rw [List.getD_eq_getElem?_getD, List.getElem?_eq_getElem hil]; rfl
    have hst : ¬ w.getD i 0 = 47 → 47 ∉ w.take (i + 1) := fun h hm => by
      rw [List.getElem?_eq_getElem hil, Option.some.injEq] at e0
      rw [List.take_succ_eq_append_getElem hil, e0, List.mem_append, List.mem_singleton] at hm
      rcases hm with hm | hm
      · exact ho hm
      · exact h hm.symm
    refine walk (hQ := ?_)
    generalize w.getD i 0 = c at *
    refine W_if (ht := fun h2 => ?_) (hf := fun h2 => ?_)
    · refine walk (hQ := ?_)
      exact hK _ (i + 1) ⟨by omega, hst fun e => h2 (by rw [e]; rfl)⟩ (by omega) le_auto
    · have hc : c = 47 := UInt8.toNat_inj.1 (show c.toNat = 47 by omega)
      rw [hc] at e0
      obtain ⟨c1, c2, c3⟩ := cut_at hi ho (.inr e0)
      have hm : 47 ∈ w := c3.2 hil
      simp only [hm, true_and, c2] at hR
      rw [← c1] at hR
      refine walk (hQ := ?_)
      refine W_if (ht := fun _ => ?_) (hf := fun h9 => absurd h1 h9)
      refine walk (hQ := ?_)
      have htl2 : (w.drop (i + 1)).length ≤ w.length := by rw [List.length_drop]; omega
      generalize w.drop (i + 1) = t at *
      generalize hhd : w.take i = hd at *
      refine W_if (ht := fun h3 => ?_) (hf := fun h3 => ?_)
      · rw [if_neg (fun h => h h3)] at hR
        refine walk (hQ := ?_)
        exact hR _ (ret2 (hp := rfl))
      rw [if_pos h3] at hR
      have htl : 0 < t.length := by
        rcases Nat.eq_zero_or_pos t.length with h | h
        · exact absurd (List.eq_nil_of_length_eq_zero h) h3
        · exact h
      have hz1 := Lib.indexByte_ge ltrs (t.getD 0 0)
      have hz2 := ltrs_le (t.getD 0 0)
      have hat := fun k (h1 : 1 ≤ k) (h2 : k < 10) => lts_at (t.getD 0 0) h1 h2
      generalize hze : Lib.indexByte ltrs (t.getD 0 0) = z at *
      refine walk (hQ := ?_)
      rw [hhd]
      refine Lp.intro (fun (k : Nat) => ⟨[(0, vS w), (2, .one (.ptr 0 0)), (5, vS t), (6, .one (.ptr 1 0)), (7, vI k)], [(0, (.mx [.pv (.int .i64 0), .pv (.int .i64 0), .pv (.str [])], false)), (1, (.mx [.pv (.int .i64 (if z + 1 < k then z + 1 else 0)), .pv (.int .i64 0), .pv (.str hd)], false))], 2⟩) (fun k => 1 ≤ k ∧ k ≤ 10) (fun k => 10 - k) 1 (by omega) (h0 := by rw [show (if z + 1 < ((1 : Nat) : Int) then z + 1 else 0) = 0 by split <;> omega]; exact le_auto) (hr := fun k K2 hk hK2 => ?_)
      refine walk (hQ := ?_)
      refine R_call g_lets (hK := ?_)
      refine walk (hQ := ?_)
      refine W_if (ht := fun h4 => ?_) (hf := fun h4 => ?_)
      · simp only [List.length_cons, List.length_nil] at h4
        refine walk (hQ := ?_)
        refine R_call g_lets (hK := ?_)
        have hil : k < lts.length := by simp only [List.length_cons, List.length_nil]; omega
        have hkz := hat k hk.1 (by omega)
        refine walk (hQ := ?_)
        rw [show t.getD (Int.toNat 0) 0 = t.getD 0 0 from rfl]
        refine W_if (ht := fun h5 => ?_) (hf := fun h5 => ?_)
        · have hz := hkz.1 (UInt8.toNat_inj.1 (by omega))
          refine walk (hQ := ?_)
          refine hK2 _ (k + 1) ⟨by omega, by omega⟩ (by omega) ?_
          rw [show (if z + 1 < ((k + 1 : Nat) : Int) then z + 1 else 0) = (k : Int) by rw [if_pos (by omega)]; omega]
          exact le_auto
        · have hz : ¬ z + 1 = (k : Int) := fun h => h5 (by rw [hkz.2 h])
          refine walk (hQ := ?_)
          refine hK2 _ (k + 1) ⟨by omega, by omega⟩ (by omega) ?_
          rw [show (if z + 1 < ((k + 1 : Nat) : Int) then z + 1 else 0) = (if z + 1 < (k : Int) then z + 1 else 0) by split <;> split <;> omega]
          exact le_auto
      · simp only [List.length_cons, List.length_nil] at h4
        obtain rfl : k = 10 := by omega
        rw [show (if z + 1 < ((10 : Nat) : Int) then z + 1 else 0) = z + 1 by rw [if_pos (by omega)]]
        have hu1 : (t.drop 1).length = t.length - 1 := List.length_drop ..
        have hu2 : (t.drop 1).getD 0 0 = t.getD 1 0 := by rw [List.getD_eq_getElem?_getD, List.getD_eq_getElem?_getD, List.getElem?_drop]
        refine walk (hQ := ?_)
        rw [show t.drop (Int.toNat 1) = t.drop 1 from rfl]
        generalize t.drop 1 = u at *
        have k3 := g_Nucleus (z + 1, 0, hd)
        have k4 := g_SValid (z + 1, 0, hd)
        cases hn : nuc (z + 1, 0, hd) with
        | true =>
          rw [hn] at k3
          simp only [hn, true_and] at hR
          refine R_call k3 (hK := ?_)
          refine walk (hQ := ?_)
          refine R_g_if (h1 := fun h5 => ?_) (h2 := fun h5 => ?_) <;> simp only [Bool.false_eq_true, if_false, if_true, Decidable.not_not] at h5
          · refine walk (hQ := ?_)
            rw [show u.getD (Int.toNat 0) 0 = t.getD 1 0 from hu2]
            generalize hqe : t.getD 1 0 = q at *
            refine R_g_if (h1 := fun h6 => ?_) (h2 := fun h6 => ?_) <;> simp only [Bool.false_eq_true, if_false, if_true, Decidable.not_not] at h6
            · refine walk (hQ := ?_)
              rw [show u.getD (Int.toNat 0) 0 = q from hu2]
              refine W_if (ht := fun h7 => ?_) (hf := fun h7 => ?_)
              · rw [if_pos (by omega)] at hR
                have k5 := g_SValid (z + 1, (q.toNat : Int) - 48, hd)
                refine walk (hQ := ?_)
                rw [show u.getD (Int.toNat 0) 0 = q from hu2]
                refine walk (hQ := ?_)
                generalize sdE (z + 1, (q.toNat : Int) - 48, hd) = v at *
                refine R_call k5 (hK := ?_)
                refine walk (hQ := ?_)
                exact hR _ (ret2 (hp := rfl))
              · rw [if_neg (by omega)] at hR
                refine walk (hQ := ?_)
                refine R_g_if (h1 := fun h9 => ?_) (h2 := fun h9 => ?_) <;> simp only [Bool.false_eq_true, if_false, if_true, Decidable.not_not] at h9
                · have hl1 : t.length = 1 := by have := congrArg List.length h9; simp only [List.length_nil] at this; omega
                  rw [decide_eq_true hl1, Bool.true_and] at hR
                  refine walk (hQ := ?_)
                  generalize sdE (z + 1, 0, hd) = v at *
                  refine R_call k4 (hK := ?_)
                  refine walk (hQ := ?_)
                  exact hR _ (ret2 (hp := rfl))
                · have hl1 : ¬ t.length = 1 := fun h => h9 (List.eq_nil_of_length_eq_zero (by omega))
                  rw [decide_eq_false hl1, Bool.false_and] at hR
                  refine walk (hQ := ?_)
                  exact hR _ (ret2 (hp := rfl))
            · rw [if_neg (by omega)] at hR
              refine walk (hQ := ?_)
              refine R_g_if (h1 := fun h9 => ?_) (h2 := fun h9 => ?_) <;> simp only [Bool.false_eq_true, if_false, if_true, Decidable.not_not] at h9
              · have hl1 : t.length = 1 := by have := congrArg List.length h9; simp only [List.length_nil] at this; omega
                rw [decide_eq_true hl1, Bool.true_and] at hR
                refine walk (hQ := ?_)
                generalize sdE (z + 1, 0, hd) = v at *
                refine R_call k4 (hK := ?_)
                refine walk (hQ := ?_)
                exact hR _ (ret2 (hp := rfl))
              · have hl1 : ¬ t.length = 1 := fun h => h9 (List.eq_nil_of_length_eq_zero (by omega))
                rw [decide_eq_false hl1, Bool.false_and] at hR
                refine walk (hQ := ?_)
                exact hR _ (ret2 (hp := rfl))
          · rw [if_neg (by omega)] at hR
            refine walk (hQ := ?_)
            refine R_g_if (h1 := fun h9 => ?_) (h2 := fun h9 => ?_) <;> simp only [Bool.false_eq_true, if_false, if_true, Decidable.not_not] at h9
            · have hl1 : t.length = 1 := by have := congrArg List.length h9; simp only [List.length_nil] at this; omega
              rw [decide_eq_true hl1, Bool.true_and] at hR
              refine walk (hQ := ?_)
              generalize sdE (z + 1, 0, hd) = v at *
              refine R_call k4 (hK := ?_)
              refine walk (hQ := ?_)
              exact hR _ (ret2 (hp := rfl))
            · have hl1 : ¬ t.length = 1 := fun h => h9 (List.eq_nil_of_length_eq_zero (by omega))
              rw [decide_eq_false hl1, Bool.false_and] at hR
              refine walk (hQ := ?_)
              exact hR _ (ret2 (hp := rfl))
        | false =>
          rw [hn] at k3
          simp only [hn, Bool.false_eq_true, false_and, if_false] at hR
          refine R_call k3 (hK := ?_)
          refine walk (hQ := ?_)
          refine R_g_if (h1 := fun h9 => ?_) (h2 := fun h9 => ?_) <;> simp only [Bool.false_eq_true, if_false, if_true, Decidable.not_not] at h9
          · have hl1 : t.length = 1 := by have := congrArg List.length h9; simp only [List.length_nil] at this; omega
            rw [decide_eq_true hl1, Bool.true_and] at hR
            refine walk (hQ := ?_)
            generalize sdE (z + 1, 0, hd) = v at *
            refine R_call k4 (hK := ?_)
            refine walk (hQ := ?_)
            exact hR _ (ret2 (hp := rfl))
          · have hl1 : ¬ t.length = 1 := fun h => h9 (List.eq_nil_of_length_eq_zero (by omega))
            rw [decide_eq_false hl1, Bool.false_and] at hR
            refine walk (hQ := ?_)
            exact hR _ (ret2 (hp := rfl))
  · obtain ⟨c1, c2, c3⟩ := cut_at hi ho (.inl (by omega))
    have hm : ¬ 47 ∈ w := fun h => by have := c3.1 h; omega
    rw [if_neg (fun h => hm h.1)] at hR
    refine walk (hQ := ?_)
    refine W_if (ht := fun h9 => absurd h9 (by omega)) (hf := fun _ => ?_)
    refine walk (hQ := ?_)
    exact hR _ (ret2 (hp := rfl))
theorem g_SParse (s : List UInt8) : Spc X 56 [.one (.str s)] (sdP (prsSd s)) := by
  refine Spc.start Tryz.func56 rfl (h := fun hs R hR => ?_)
  unfold Tryz.f56
  simp only [entryE, PA.av]
  unfold prsSd at hR
  refine walk (hQ := ?_)
  refine W_if (ht := fun h1 => ?_) (hf := fun h1 => ?_)
  · rw [if_pos (by omega)] at hR
    refine walk (hQ := ?_)
    exact hR _ (ret2 (hp := rfl))
  rw [if_neg (by omega)] at hR
  refine walk (hQ := ?_)
  refine W_if (ht := fun h2 => ?_) (hf := fun h2 => ?_)
  · rw [if_pos h2] at hR
    refine walk (hQ := ?_)
    exact hR _ (ret2 (hp := rfl))
  rw [if_neg h2] at hR
  have k1 := g_split s (by omega)
  have hlw : ∀ w ∈ splitL 32 s, w.length ≤ s.length := spK_mem false 32 s
  have hll : (splitL 32 s).length ≤ 4001 := by
    have : (splitL 32 s).length = s.count 32 + 1 := spK_len false 32 s.length s (Nat.le_refl _)
    have := List.count_le_length (a := 32) (l := s)
    omega
  refine walk (hQ := ?_)
  generalize splitL 32 s = L at *
  refine R_call k1 (hK := ?_)
  refine walk (hQ := ?_)
  refine Lp.intro2 (fun (out : List Snd) (i : Nat) => ⟨[(4, .one (.own 0 3 out.length)), (5, vP (slc eS L)), (6, vI i)], [(0, (.pu 51 (out.flatMap eSd), false))], 1⟩) (fun out i => i ≤ L.length ∧ rdAll (L.take i) = some out) (fun out i => L.length - i) [] 0 ⟨Nat.zero_le _, rfl⟩ (h0 := le_ghost1 0 51 (hle := le_auto)) (hr := fun out i K ⟨hi, ho⟩ hK => ?_)
  have hol := rdAll_len ho
  rw [List.length_take] at hol
  refine walk (hQ := ?_)
  refine W_if (ht := fun h4 => ?_) (hf := fun h4 => ?_)
  · have hil : i < L.length := by omega
    have e0 := getD_some hil
    have hn := rdAll_next e0 ho
    have k2 := g_one (L.getD i default) (by have := hlw _ (List.mem_of_getElem? e0); omega)
    refine walk (hQ := ?_)
    rw [← rdG_rdS] at hn
    unfold toO at hn
    generalize L.getD i default = w at *
    generalize rdG w = P at *
    obtain ⟨⟨x1, x2, x3⟩, ok⟩ := P
    simp only [sdR, eSd] at *
    refine R_call k2 (hK := ?_)
    refine walk (hQ := ?_)
    cases ok with
    | false =>
      rw [hn.1 (by simp)] at hR
      refine walk (hQ := ?_)
      exact hR _ (ret2 (hp := rfl))
    | true =>
      refine walk (hQ := ?_)
      refine R_bsl eSd (l := [(x1, x2, x3)]) (hK := ?_)
      refine walk (hQ := ?_)
      refine hK _ (out ++ [(x1, x2, x3)]) (i + 1) ⟨by omega, hn.2 (x1, x2, x3) (by simp)⟩ (by omega) ?_
      rw [List.length_append]
      exact le_auto
  · obtain rfl : i = L.length := by omega
    rw [List.take_length] at ho
    rw [ho] at hR
    simp only at hR
    refine walk (hQ := ?_)
    refine W_if (ht := fun h5 => ?_) (hf := fun h5 => ?_)
    · rw [if_pos (by omega)] at hR
      refine walk (hQ := ?_)
      exact hR _ (ret2 (hp := rfl))
    · rw [if_neg (by omega)] at hR
      refine walk (hQ := ?_)
      exact hR _ (ret2 (hp := rfl))
end Go.VS.YtekfjbjdlenhoaaGreatDoor


namespace Go.VS.YtekfjbjdlenhoaaGreatDoor
open Go Go.VL Go.VN Go.RowKit Go.Proofs
set_option maxRecDepth 100000
set_option linter.unusedVariables false
set_option linter.unusedSimpArgs false

theorem l_sounds (s : List UInt8) : Spc X 32 [.one (.str s)] (.one (slc eSd (prsSd s).1)) := by
  refine Spc.start Tryz.func32 rfl (h := fun hs R hR => ?_)
  unfold Tryz.f32
  simp only [entryE, PA.av]
  have k1 := g_SParse s
  generalize prsSd s = P at *
  refine walk (hQ := ?_)
  refine R_call k1 (hK := ?_)
  refine walk (hQ := ?_)
  exact hR _ (ret1 (hp := rfl))
theorem s_EqualI (a b : List Int) : Spc X 15 [.one (slc eI a), .one (slc eI b)] (.one (.bool (decide (a = b)))) := by
  refine Spc.start Tryz.func15 rfl (h := fun hs R hR => ?_)
  unfold Tryz.f15
  simp only [entryE, PA.av]
  have la := (sane_slc hs.1).1
  have lb := (sane_slc hs.2.1).1
  refine walk (hQ := ?_)
  refine W_if (ht := fun h1 => ?_) (hf := fun h1 => ?_)
  · rw [decide_eq_false (fun h => h1 (by rw [h]))] at hR
    refine walk (hQ := ?_)
    exact hR _ (ret1 (hp := rfl))
  have hll : a.length = b.length := by omega
  refine walk (hQ := ?_)
  refine Lp.intro (fun (i : Nat) => ⟨[(0, vP (slc eI a)), (1, vP (slc eI b)), (12, vI a.length), (13, vI i)], [], 0⟩) (fun i => i ≤ a.length ∧ a.take i = b.take i) (fun i => a.length - i) 0 ⟨Nat.zero_le _, by simp⟩ (h0 := le_auto) (hr := fun i K ⟨hi, ho⟩ hK => ?_)
  refine walk (hQ := ?_)
  refine W_if (ht := fun h2 => ?_) (hf := fun h2 => ?_)
  · have hia : i < a.length := by omega
    have hib : i < b.length := by omega
    have ea : a[i] = a.getD i 0 := by rw [List.getD_eq_getElem?_getD, List.getElem?_eq_getElem hia]; rfl
    have eb : b[i] = b.getD i 0 := by rw [List.getD_eq_getElem?_getD, List.getElem?_eq_getElem hib]; rfl
    refine walk (hQ := ?_)
    refine W_if (ht := fun h3 => ?_) (hf := fun h3 => ?_)
    · rw [decide_eq_false (fun h => h3 (by rw [h]))] at hR
      refine walk (hQ := ?_)
      exact hR _ (ret1 (hp := rfl))
    · refine walk (hQ := ?_)
      exact hK _ (i + 1) ⟨by omega, eq_take hia hib ho (by rw [ea, eb]; exact Decidable.not_not.1 h3)⟩ (by omega) le_auto
  · obtain rfl : i = a.length := by omega
    rw [List.take_length, hll, List.take_length] at ho
    rw [decide_eq_true ho] at hR
    refine walk (hQ := ?_)
    exact hR _ (ret1 (hp := rfl))
end Go.VS.YtekfjbjdlenhoaaGreatDoor


namespace Go.VS.YtekfjbjdlenhoaaGreatDoor
open Go Go.VL Go.VN Go.RowKit Go.Proofs
set_option maxRecDepth 100000
set_option linter.unusedVariables false
set_option linter.unusedSimpArgs false

theorem f_places : Spc X 46 [] (.one (slc eS plcs)) := by
  refine Spc.start Tryz.func46 rfl (h := fun hs R hR => ?_)
  unfold Tryz.f46
  simp only [entryE]
  refine walk (hQ := ?_)
  exact hR _ (ret1 (hp := rfl))
abbrev sgR (p : Sgn × Bool) : PA := .tup [(true, eSg p.1), (false, [.bool p.2])]
theorem f_sign (s : List UInt8) (hl : s.length ≤ 20000) : Spc X 55 [.one (.str s)] (sgR (oO zSg (sgOf (splitL 32 s)))) := by
  refine Spc.start Tryz.func55 rfl (h := fun hs R hR => ?_)
  unfold Tryz.f55
  simp only [entryE, PA.av]
  have k1 := s_Split 32 s (by omega)
  have hlw : ∀ w ∈ splitL 32 s, w.length ≤ s.length := spK_mem false 32 s
  have hll : (splitL 32 s).length ≤ 20001 := by
    have : (splitL 32 s).length = s.count 32 + 1 := spK_len false 32 s.length s (Nat.le_refl _)
    have := List.count_le_length (a := 32) (l := s)
    omega
  unfold sgOf at hR
  generalize splitL 32 s = L at *
  refine walk (hQ := ?_)
  refine R_call k1 (hK := ?_)
  refine walk (hQ := ?_)
  refine R_g_if (h1 := fun h1 => ?_) (h2 := fun h1 => ?_) <;> simp only [Bool.false_eq_true, if_false, if_true, Decidable.not_not] at h1
  · have hL0 : 3 < L.length := by omega
    have hhd : L.head? = some (L.getD 0 []) := by
      match L, hL0 with
      | a :: L, _ => rfl
    refine walk (hQ := ?_)
    rw [show L.getD (Int.toNat 0) [] = L.getD 0 [] from rfl]
    refine W_if (ht := fun h2 => ?_) (hf := fun h2 => ?_)
    · rw [if_pos (.inr (by rw [hhd, h2]))] at hR
      refine walk (hQ := ?_)
      exact hR _ (ret2 (hp := rfl))
    · rw [if_neg (by rintro (h | h); omega; rw [hhd] at h; exact h2 (Option.some.inj h))] at hR
      have hM : ∀ w ∈ (L.drop 1).take (L.length - 3), w.length ≤ s.length := fun w hw => hlw w (List.mem_of_mem_drop (List.mem_of_mem_take hw))
      have hMl : ((L.drop 1).take (L.length - 3)).length = L.length - 3 := by rw [List.length_take, List.length_drop]; omega
      have hjl := joinS_len hM
      have hmul : ((L.drop 1).take (L.length - 3)).length * (s.length + 1) ≤ 20001 * 20001 := Nat.mul_le_mul (by omega) (by omega)
      have k2 := s_Join ((L.drop 1).take (L.length - 3)) [32] (by omega) (by omega) (by rw [← joinS_join]; omega)
      rw [← joinS_join] at k2
      have k3 := f_SParse (joinS ((L.drop 1).take (L.length - 3)))
      have k4 := f_Number (L.getD (L.length - 2) [])
      have k5 := s_IndexStr plcs (L.getD (L.length - 1) [])
      generalize prsSd (joinS ((L.drop 1).take (L.length - 3))) = sd at *
      generalize numF (L.getD (L.length - 2) []) = nu at *
      refine walk (hQ := ?_)
      rw [show ((L.length : Int) - 2).toNat - Int.toNat 1 = L.length - 3 by omega, show L.drop (Int.toNat 1) = L.drop 1 from rfl]
      refine R_call k2 (hK := ?_)
      refine walk (hQ := ?_)
      refine R_call k3 (hK := ?_)
      refine walk (hQ := ?_)
      rw [show ((L.length : Int) - 2).toNat = L.length - 2 by omega]
      refine R_call k4 (hK := ?_)
      refine walk (hQ := ?_)
      refine R_call f_places (hK := ?_)
      refine walk (hQ := ?_)
      rw [show ((L.length : Int) - 1).toNat = L.length - 1 by omega]
      generalize ixP (fun y => decide (L.getD (L.length - 1) [] = y)) plcs = z at *
      refine R_call k5 (hK := ?_)
      refine walk (hQ := ?_)
      unfold sgMk at hR
      refine R_g_if (h1 := fun h3 => ?_) (h2 := fun h3 => ?_) <;> simp only [Bool.false_eq_true, if_false, if_true, Decidable.not_not] at h3
      · refine walk (hQ := ?_)
        refine R_g_if (h1 := fun h4 => ?_) (h2 := fun h4 => ?_) <;> simp only [Bool.false_eq_true, if_false, if_true, Decidable.not_not] at h4
        · refine walk (hQ := ?_)
          cases hb : nu.2 with
          | true =>
            refine walk (hQ := ?_)
            refine W_if (ht := fun h5 => ?_) (hf := fun h5 => ?_)
            · rw [if_pos (.inl h5)] at hR
              refine walk (hQ := ?_)
              exact hR _ (ret2 (hp := rfl))
            · rw [if_neg (by rintro (h | h | h | h); exact h5 h; exact h h3; exact h4 (by rw [h]; rfl); rw [hb] at h; cases h)] at hR
              refine walk (hQ := ?_)
              trace_state
              exact hR _ (ret2 (hp := rfl))
          | false =>
            rw [if_pos (.inr (.inr (.inr hb)))] at hR
            refine walk (hQ := ?_)
            exact hR _ (ret2 (hp := rfl))
        · rw [if_pos (.inr (.inr (.inl (List.eq_nil_of_length_eq_zero (by omega)))))] at hR
          refine walk (hQ := ?_)
          cases hb : nu.2 <;> refine walk (hQ := ?_) <;> exact hR _ (ret2 (hp := rfl))
      · rw [if_pos (.inr (.inl h3))] at hR
        refine walk (hQ := ?_)
        cases hb : nu.2 <;> refine walk (hQ := ?_) <;> exact hR _ (ret2 (hp := rfl))
  · rw [if_pos (.inl (by omega))] at hR
    refine walk (hQ := ?_)
    exact hR _ (ret2 (hp := rfl))
end Go.VS.YtekfjbjdlenhoaaGreatDoor


namespace Go.VS.YtekfjbjdlenhoaaGreatDoor
open Go Go.VL Go.VN Go.RowKit Go.Proofs
set_option maxRecDepth 100000
set_option linter.unusedVariables false
set_option linter.unusedSimpArgs false

theorem g_Letter (c : UInt8) : Spc X 131 [.one (.int .u8 c.toNat)] (.one (.bool (ltr c))) := by
  refine Spc.start Tryz.func131 rfl (h := fun hs R hR => ?_)
  unfold Tryz.f131
  simp only [entryE, PA.av]
  unfold ltr at hR
  refine walk (hQ := ?_)
  refine R_g_if (h1 := fun h1 => ?_) (h2 := fun h1 => ?_) <;> simp only [Bool.false_eq_true, if_false, if_true, Decidable.not_not] at h1
  · rw [decide_eq_true (show 32 ≤ c.toNat by omega), Bool.true_and] at hR
    refine walk (hQ := ?_)
    refine W_if (ht := fun h2 => ?_) (hf := fun h2 => ?_)
    · rw [decide_eq_false (show ¬ c.toNat ≤ 126 by omega), Bool.false_and] at hR
      refine walk (hQ := ?_)
      exact hR _ (ret1 (hp := rfl))
    · rw [decide_eq_true (show c.toNat ≤ 126 by omega), Bool.true_and] at hR
      refine walk (hQ := ?_)
      refine Lp.intro (fun (i : Nat) => ⟨[(0, .one (.pv (.int .u8 c.toNat))), (3, vI i)], [], 0⟩) (fun i => i ≤ 15 ∧ ∀ y ∈ ([32, 46, 44, 59, 58, 33, 63, 34, 45, 91, 93, 60, 62, 123, 125] : List UInt8).take i, y ≠ c) (fun i => 15 - i) 0 ⟨Nat.zero_le _, by simp⟩ (h0 := le_auto) (hr := fun i K ⟨hi, ho⟩ hK => ?_)
      refine walk (hQ := ?_)
      refine W_if (ht := fun h3 => ?_) (hf := fun h3 => ?_)
      · have hil : i < ([32, 46, 44, 59, 58, 33, 63, 34, 45, 91, 93, 60, 62, 123, 125] : List UInt8).length := by simp only [List.length_cons, List.length_nil]; omega
        have e0 : ([32, 46, 44, 59, 58, 33, 63, 34, 45, 91, 93, 60, 62, 123, 125] : List UInt8)[i]? = some (([32, 46, 44, 59, 58, 33, 63, 34, 45, 91, 93, 60, 62, 123, 125] : List UInt8).getD i 0) := by
          rw [List.getD_eq_getElem?_getD, List.getElem?_eq_getElem hil]; rfl
        refine walk (hQ := ?_)
        have hst : ∀ y, y = (([32, 46, 44, 59, 58, 33, 63, 34, 45, 91, 93, 60, 62, 123, 125] : List UInt8).getD i 0) → y ≠ c → ∀ y ∈ ([32, 46, 44, 59, 58, 33, 63, 34, 45, 91, 93, 60, 62, 123, 125] : List UInt8).take (i + 1), y ≠ c := fun y hy hne => take_succ_all e0 ho (hy ▸ hne)
        have hme : ([32, 46, 44, 59, 58, 33, 63, 34, 45, 91, 93, 60, 62, 123, 125] : List UInt8).getD i 0 ∈ ([32, 46, 44, 59, 58, 33, 63, 34, 45, 91, 93, 60, 62, 123, 125] : List UInt8) := List.mem_of_getElem? e0
        generalize ([32, 46, 44, 59, 58, 33, 63, 34, 45, 91, 93, 60, 62, 123, 125] : List UInt8).getD i 0 = d at *
        refine W_if (ht := fun h4 => ?_) (hf := fun h4 => ?_)
        · have hdc : d = c := UInt8.toNat_inj.1 (by omega)
          subst hdc
          rw [List.contains_iff_mem.2 hme] at hR
          refine walk (hQ := ?_)
          exact hR _ (ret1 (hp := rfl))
        · refine walk (hQ := ?_)
          exact hK _ (i + 1) ⟨by omega, hst d rfl fun e => h4 (by rw [e])⟩ (by omega) le_auto
      · obtain rfl : i = 15 := by omega
        have hno : ([32, 46, 44, 59, 58, 33, 63, 34, 45, 91, 93, 60, 62, 123, 125] : List UInt8).contains c = false := Bool.eq_false_iff.2 fun h => ho c (show c ∈ List.take 15 _ from List.contains_iff_mem.1 h) rfl
        rw [hno] at hR
        refine walk (hQ := ?_)
        exact hR _ (ret1 (hp := rfl))
  · rw [decide_eq_false (show ¬ 32 ≤ c.toNat by omega), Bool.false_and, Bool.false_and] at hR
    refine walk (hQ := ?_)
    exact hR _ (ret1 (hp := rfl))
theorem f_letters (s : List UInt8) : Spc X 98 [.one (.str s)] (.one (.int .i64 (txE s))) := by
  refine Spc.start Tryz.func98 rfl (h := fun hs R hR => ?_)
  unfold Tryz.f98
  simp only [entryE, PA.av]
  rw [tx_spec] at hR
  have k1 := f_Fold s
  have k2 := f_Words s
  have hb := wdsF_bd s
  generalize wdsF s = P at *
  refine walk (hQ := ?_)
  refine W_if (ht := fun h1 => ?_) (hf := fun h1 => ?_)
  · rw [if_pos h1] at hR
    refine walk (hQ := ?_)
    exact hR _ (ret1 (hp := rfl))
  rw [if_neg h1] at hR
  refine walk (hQ := ?_)
  refine W_if (ht := fun h2 => ?_) (hf := fun h2 => ?_)
  · rw [if_pos (by omega)] at hR
    refine walk (hQ := ?_)
    exact hR _ (ret1 (hp := rfl))
  rw [if_neg (by omega)] at hR
  refine walk (hQ := ?_)
  refine R_call k1 (hK := ?_)
  refine walk (hQ := ?_)
  refine W_if (ht := fun h3 => ?_) (hf := fun h3 => ?_)
  · rw [if_pos h3] at hR
    refine walk (hQ := ?_)
    exact hR _ (ret1 (hp := rfl))
  rw [if_neg h3] at hR
  refine walk (hQ := ?_)
  refine R_call k2 (hK := ?_)
  refine walk (hQ := ?_)
  refine R_g_if (h1 := fun h4 => ?_) (h2 := fun h4 => ?_) <;> simp only [Bool.false_eq_true, if_false, if_true, Decidable.not_not] at h4
  · refine walk (hQ := ?_)
    refine R_g_if (h1 := fun h5 => ?_) (h2 := fun h5 => ?_) <;> simp only [Bool.false_eq_true, if_false, if_true, Decidable.not_not] at h5
    · have h5' : P.1.length = 1 := by omega
      obtain ⟨q, hq⟩ := List.length_eq_one_iff.1 h5'
      have hbq := hb q (by rw [hq]; simp)
      rw [hq] at hR ⊢
      refine walk (hQ := ?_)
      rw [show [q].getD (Int.toNat 0) default = q from rfl]
      refine walk (hQ := ?_)
      refine W_if (ht := fun h6 => ?_) (hf := fun h6 => ?_)
      · rw [if_pos (.inr (.inr h6))] at hR
        refine walk (hQ := ?_)
        exact hR _ (ret1 (hp := rfl))
      · rw [if_neg (by rintro (h | h | h); exact h h4; exact h rfl; exact h6 h)] at hR
        refine walk (hQ := ?_)
        exact hR _ (ret1 (hp := rfl))
    · rw [if_pos (.inr (.inl (by omega)))] at hR
      refine walk (hQ := ?_)
      exact hR _ (ret1 (hp := rfl))
  · rw [if_pos (.inl h4)] at hR
    refine walk (hQ := ?_)
    exact hR _ (ret1 (hp := rfl))
theorem g_text (s : List UInt8) : Spc X 101 [.one (.str s)] (.one (.int .i64 (txE s))) := by
  refine Spc.start Tryz.func101 rfl (h := fun hs R hR => ?_)
  unfold Tryz.f101
  simp only [entryE, PA.av]
  unfold txE at hR
  refine walk (hQ := ?_)
  refine W_if (ht := fun h1 => ?_) (hf := fun h1 => ?_)
  · rw [if_pos h1] at hR
    refine walk (hQ := ?_)
    exact hR _ (ret1 (hp := rfl))
  rw [if_neg h1] at hR
  refine walk (hQ := ?_)
  refine W_if (ht := fun h2 => ?_) (hf := fun h2 => ?_)
  · rw [if_pos (by omega)] at hR
    refine walk (hQ := ?_)
    exact hR _ (ret1 (hp := rfl))
  rw [if_neg (by omega)] at hR
  refine walk (hQ := ?_)
  refine Lp.intro (fun (i : Nat) => ⟨[(0, vS s), (3, vI i)], [], 0⟩) (fun i => i ≤ s.length ∧ ∀ c ∈ s.take i, (ltr c && !upr c) = true) (fun i => s.length - i) 0 ⟨Nat.zero_le _, by simp⟩ (h0 := le_auto) (hr := fun i K ⟨hi, ho⟩ hK => ?_)
  refine walk (hQ := ?_)
  refine W_if (ht := fun h3 => ?_) (hf := fun h3 => ?_)
  · have hil : i < s.length := by omega
    have e0 : s[i]? = some (s.getD i 0) := by
      rw [List.getD_eq_getElem?_getD, List.getElem?_eq_getElem hil]; rfl
    have k1 := g_Letter (s.getD i 0)
    have hst : (ltr (s.getD i 0) && !upr (s.getD i 0)) = true → ∀ c ∈ s.take (i + 1), (ltr c && !upr c) = true := fun h => take_succ_all e0 ho h
    have hbad : (ltr (s.getD i 0) && !upr (s.getD i 0)) = false → ¬ (s.all fun c => ltr c && !upr c) = true := fun h h2 => by
      have := List.all_eq_true.1 h2 _ (List.mem_of_getElem? e0)
      rw [h] at this; cases this
    refine walk (hQ := ?_)
    generalize hc : s.getD i 0 = c at *
    refine R_call k1 (hK := ?_)
    refine walk (hQ := ?_)
    cases hl : ltr c with
    | false =>
      rw [if_neg (hbad (by rw [hl]; rfl))] at hR
      refine walk (hQ := ?_)
      exact hR _ (ret1 (hp := rfl))
    | true =>
      refine walk (hQ := ?_)
      rw [hc]
      refine R_g_if (h1 := fun h4 => ?_) (h2 := fun h4 => ?_) <;> simp only [Bool.false_eq_true, if_false, if_true, Decidable.not_not] at h4
      · refine walk (hQ := ?_)
        rw [hc]
        refine W_if (ht := fun h5 => ?_) (hf := fun h5 => ?_)
        · rw [if_neg (hbad (by rw [hl]; unfold upr; simp; omega))] at hR
          refine walk (hQ := ?_)
          exact hR _ (ret1 (hp := rfl))
        · refine walk (hQ := ?_)
          exact hK _ (i + 1) ⟨by omega, hst (by rw [hl]; unfold upr; simp; omega)⟩ (by omega) le_auto
      · refine walk (hQ := ?_)
        exact hK _ (i + 1) ⟨by omega, hst (by rw [hl]; unfold upr; simp; omega)⟩ (by omega) le_auto
  · obtain rfl : i = s.length := by omega
    rw [List.take_length] at ho
    rw [if_pos (List.all_eq_true.2 ho)] at hR
    refine walk (hQ := ?_)
    exact hR _ (ret1 (hp := rfl))
abbrev sgA (s : Sgn) : PA := .agg (eSg s)
theorem f_alone (s : Sgn) : Spc X 61 [sgA s] (.one (.int .i64 (sgE s))) := by
  obtain ⟨t, l, co, wh⟩ := s
  refine Spc.start Tryz.func61 rfl (h := fun hs R hR => ?_)
  unfold Tryz.f61
  simp only [entryE, PA.av, eSg, List.map_cons, List.map_nil]
  unfold sgE at hR
  simp only at hR
  have k1 := f_letters t
  refine walk (hQ := ?_)
  generalize txE t = v at *
  refine R_call k1 (hK := ?_)
  refine walk (hQ := ?_)
  refine W_if (ht := fun h1 => ?_) (hf := fun h1 => ?_)
  · rw [if_pos h1] at hR
    refine walk (hQ := ?_)
    exact hR _ (ret1 (hp := rfl))
  rw [if_neg h1] at hR
  refine walk (hQ := ?_)
  refine W_if (ht := fun h2 => ?_) (hf := fun h2 => ?_)
  · rw [if_pos (List.eq_nil_of_length_eq_zero (by omega))] at hR
    refine walk (hQ := ?_)
    exact hR _ (ret1 (hp := rfl))
  rw [if_neg (fun h => h2 (by rw [h]; rfl))] at hR
  refine walk (hQ := ?_)
  refine W_if (ht := fun h3 => ?_) (hf := fun h3 => ?_)
  · rw [if_pos (by omega)] at hR
    refine walk (hQ := ?_)
    exact hR _ (ret1 (hp := rfl))
  rw [if_neg (by omega)] at hR
  refine walk (hQ := ?_)
  refine Lp.intro (fun (i : Nat) => ⟨[(1, .one (.ptr 0 0)), (22, vP (slc eSd l)), (23, vI l.length), (24, vI i)], [(0, (.mx [.pv (.str t), .pv (slc eSd l), .pv (.int .i64 co), .pv (.int .i64 wh)], false))], 1⟩) (fun i => i ≤ l.length ∧ ∀ y ∈ l.take i, sdE y = 0) (fun i => l.length - i) 0 ⟨Nat.zero_le _, by simp⟩ (h0 := le_auto) (hr := fun i K ⟨hi, ho⟩ hK => ?_)
  refine walk (hQ := ?_)
  refine W_if (ht := fun h4 => ?_) (hf := fun h4 => ?_)
  · have hil : i < l.length := by omega
    have e0 := getD_some hil
    have k2 := f_SValid (l.getD i default)
    have hst := take_succ_all (P := fun y => sdE y = 0) e0 ho
    have hbd := firstE_bad e0 ho
    refine walk (hQ := ?_)
    generalize l.getD i default = x at *
    obtain ⟨xa, xb, xc⟩ := x
    simp only [eSd, List.map_cons, List.map_nil] at *
    generalize sdE (xa, xb, xc) = u at *
    refine walk (hQ := ?_)
    refine R_call k2 (hK := ?_)
    refine walk (hQ := ?_)
    refine W_if (ht := fun h5 => ?_) (hf := fun h5 => ?_)
    · rw [hbd h5, if_pos h5] at hR
      refine walk (hQ := ?_)
      exact hR _ (ret1 (hp := rfl))
    · refine walk (hQ := ?_)
      exact hK _ (i + 1) ⟨by omega, hst (Decidable.not_not.1 h5)⟩ (by omega) le_auto
  · obtain rfl : i = l.length := by omega
    rw [List.take_length] at ho
    rw [firstE_ok ho, if_neg (by simp)] at hR
    refine walk (hQ := ?_)
    refine R_g_if (h1 := fun h6 => ?_) (h2 := fun h6 => ?_) <;> simp only [Bool.false_eq_true, if_false, if_true, Decidable.not_not] at h6
    · refine walk (hQ := ?_)
      refine R_g_if (h1 := fun h7 => ?_) (h2 := fun h7 => ?_) <;> simp only [Bool.false_eq_true, if_false, if_true, Decidable.not_not] at h7
      · refine walk (hQ := ?_)
        refine R_g_if (h1 := fun h8 => ?_) (h2 := fun h8 => ?_) <;> simp only [Bool.false_eq_true, if_false, if_true, Decidable.not_not] at h8
        · refine walk (hQ := ?_)
          refine W_if (ht := fun h9 => ?_) (hf := fun h9 => ?_)
          · rw [if_pos (by omega)] at hR
            refine walk (hQ := ?_)
            exact hR _ (ret1 (hp := rfl))
          · rw [if_neg (by omega)] at hR
            refine walk (hQ := ?_)
            exact hR _ (ret1 (hp := rfl))
        · rw [if_pos (by omega)] at hR
          refine walk (hQ := ?_)
          exact hR _ (ret1 (hp := rfl))
      · rw [if_pos (by omega)] at hR
        refine walk (hQ := ?_)
        exact hR _ (ret1 (hp := rfl))
    · rw [if_pos (by omega)] at hR
      refine walk (hQ := ?_)
      exact hR _ (ret1 (hp := rfl))
theorem g_sign (s : Sgn) : Spc X 66 [sgA s] (.one (.int .i64 (sgE s))) := by
  obtain ⟨t, l, co, wh⟩ := s
  refine Spc.start Tryz.func66 rfl (h := fun hs R hR => ?_)
  unfold Tryz.f66
  simp only [entryE, PA.av, eSg, List.map_cons, List.map_nil]
  unfold sgE at hR
  simp only at hR
  have k1 := g_text t
  refine walk (hQ := ?_)
  generalize txE t = v at *
  refine R_call k1 (hK := ?_)
  refine walk (hQ := ?_)
  refine W_if (ht := fun h1 => ?_) (hf := fun h1 => ?_)
  · rw [if_pos h1] at hR
    refine walk (hQ := ?_)
    exact hR _ (ret1 (hp := rfl))
  rw [if_neg h1] at hR
  refine walk (hQ := ?_)
  refine W_if (ht := fun h2 => ?_) (hf := fun h2 => ?_)
  · rw [if_pos (List.eq_nil_of_length_eq_zero (by omega))] at hR
    refine walk (hQ := ?_)
    exact hR _ (ret1 (hp := rfl))
  rw [if_neg (fun h => h2 (by rw [h]; rfl))] at hR
  refine walk (hQ := ?_)
  refine W_if (ht := fun h3 => ?_) (hf := fun h3 => ?_)
  · rw [if_pos (by omega)] at hR
    refine walk (hQ := ?_)
    exact hR _ (ret1 (hp := rfl))
  rw [if_neg (by omega)] at hR
  refine walk (hQ := ?_)
  refine Lp.intro (fun (i : Nat) => ⟨[(1, .one (.ptr 0 0)), (4, vI i)], [(0, (.mx [.pv (.str t), .pv (slc eSd l), .pv (.int .i64 co), .pv (.int .i64 wh)], false))], 1⟩) (fun i => i ≤ l.length ∧ ∀ y ∈ l.take i, sdE y = 0) (fun i => l.length - i) 0 ⟨Nat.zero_le _, by simp⟩ (h0 := le_auto) (hr := fun i K ⟨hi, ho⟩ hK => ?_)
  refine walk (hQ := ?_)
  refine W_if (ht := fun h4 => ?_) (hf := fun h4 => ?_)
  · have hil : i < l.length := by omega
    have e0 := getD_some hil
    have k2 := g_SValid (l.getD i default)
    have hst := take_succ_all (P := fun y => sdE y = 0) e0 ho
    have hbd := firstE_bad e0 ho
    refine walk (hQ := ?_)
    generalize l.getD i default = x at *
    obtain ⟨xa, xb, xc⟩ := x
    simp only [eSd, List.map_cons, List.map_nil] at *
    generalize sdE (xa, xb, xc) = u at *
    refine R_call k2 (hK := ?_)
    refine walk (hQ := ?_)
    refine W_if (ht := fun h5 => ?_) (hf := fun h5 => ?_)
    · rw [hbd h5, if_pos h5] at hR
      refine walk (hQ := ?_)
      exact hR _ (ret1 (hp := rfl))
    · refine walk (hQ := ?_)
      exact hK _ (i + 1) ⟨by omega, hst (Decidable.not_not.1 h5)⟩ (by omega) le_auto
  · obtain rfl : i = l.length := by omega
    rw [List.take_length] at ho
    rw [firstE_ok ho, if_neg (by simp)] at hR
    refine walk (hQ := ?_)
    refine R_g_if (h1 := fun h6 => ?_) (h2 := fun h6 => ?_) <;> simp only [Bool.false_eq_true, if_false, if_true, Decidable.not_not] at h6
    · refine walk (hQ := ?_)
      refine R_g_if (h1 := fun h7 => ?_) (h2 := fun h7 => ?_) <;> simp only [Bool.false_eq_true, if_false, if_true, Decidable.not_not] at h7
      · refine walk (hQ := ?_)
        refine R_g_if (h1 := fun h8 => ?_) (h2 := fun h8 => ?_) <;> simp only [Bool.false_eq_true, if_false, if_true, Decidable.not_not] at h8
        · refine walk (hQ := ?_)
          refine W_if (ht := fun h9 => ?_) (hf := fun h9 => ?_)
          · rw [if_pos (by omega)] at hR
            refine walk (hQ := ?_)
            exact hR _ (ret1 (hp := rfl))
          · rw [if_neg (by omega)] at hR
            refine walk (hQ := ?_)
            exact hR _ (ret1 (hp := rfl))
        · rw [if_pos (by omega)] at hR
          refine walk (hQ := ?_)
          exact hR _ (ret1 (hp := rfl))
      · rw [if_pos (by omega)] at hR
        refine walk (hQ := ?_)
        exact hR _ (ret1 (hp := rfl))
    · rw [if_pos (by omega)] at hR
      refine walk (hQ := ?_)
      exact hR _ (ret1 (hp := rfl))
end Go.VS.YtekfjbjdlenhoaaGreatDoor


namespace Go.VS.YtekfjbjdlenhoaaGreatDoor
open Go Go.VL Go.VN Go.RowKit Go.Proofs
set_option maxRecDepth 100000
set_option linter.unusedVariables false
set_option linter.unusedSimpArgs false

theorem plF_sd (a b : Snd) : plF X (match tinf X.P 51 with | some ⟨.struct fs, _, _, _⟩ => fs.toList | _ => []) 0 (eSd a) (eSd b) := by
  rw [TInf.h (X := X) (t := 51)]
  refine ⟨rfl, by decide, ?_, rfl, by decide, ?_, rfl, by decide, ?_, trivial⟩ <;> simp only [TInf.h] <;> first | exact rfl | exact trivial
theorem s_EqualSd (a b : List Snd) : Spc X 64 [.one (slc eSd a), .one (slc eSd b)] (.one (.bool (decide (a = b)))) := by
  refine Spc.start Tryz.func64 rfl (h := fun hs R hR => ?_)
  unfold Tryz.f64
  simp only [entryE, PA.av]
  have la := (sane_slc hs.1).1
  have lb := (sane_slc hs.2.1).1
  refine walk (hQ := ?_)
  refine W_if (ht := fun h1 => ?_) (hf := fun h1 => ?_)
  · rw [decide_eq_false (fun h => h1 (by rw [h]))] at hR
    refine walk (hQ := ?_)
    exact hR _ (ret1 (hp := rfl))
  have hll : a.length = b.length := by omega
  refine walk (hQ := ?_)
  refine Lp.intro (fun (i : Nat) => ⟨[(0, vP (slc eSd a)), (1, vP (slc eSd b)), (12, vI a.length), (13, vI i)], [], 0⟩) (fun i => i ≤ a.length ∧ a.take i = b.take i) (fun i => a.length - i) 0 ⟨Nat.zero_le _, by simp⟩ (h0 := le_auto) (hr := fun i K ⟨hi, ho⟩ hK => ?_)
  refine walk (hQ := ?_)
  refine W_if (ht := fun h2 => ?_) (hf := fun h2 => ?_)
  · have hia : i < a.length := by omega
    have hib : i < b.length := by omega
    have ea : a[i] = a.getD i default := by rw [List.getD_eq_getElem?_getD, List.getElem?_eq_getElem hia]; rfl
    have eb : b[i] = b.getD i default := by rw [List.getD_eq_getElem?_getD, List.getElem?_eq_getElem hib]; rfl
    have hpl := plF_sd (a.getD i default) (b.getD i default)
    rw [TInf.h (X := X) (t := 51)] at hpl
    refine walk (hQ := ?_)
    refine R_stneq eSd (a.getD i default) (b.getD i default) (eqPs_sd _ _) hpl (hK := ?_)
    refine walk (hQ := ?_)
    refine W_if (ht := fun h3 => ?_) (hf := fun h3 => ?_)
    · rw [decide_eq_false (fun h => h3 (by rw [h]))] at hR
      refine walk (hQ := ?_)
      exact hR _ (ret1 (hp := rfl))
    · refine walk (hQ := ?_)
      exact hK _ (i + 1) ⟨by omega, eq_take hia hib ho (by rw [ea, eb]; exact Decidable.not_not.1 h3)⟩ (by omega) le_auto
  · obtain rfl : i = a.length := by omega
    rw [List.take_length, hll, List.take_length] at ho
    rw [decide_eq_true ho] at hR
    refine walk (hQ := ?_)
    exact hR _ (ret1 (hp := rfl))
theorem f_check1 (t s : Sgn) : Spc X 63 [.agg (eSg t), .one (.pt (eSg s) 0)] (.one (.bool (sameSg t s))) := by
  obtain ⟨t1, t2, t3, t4⟩ := t
  obtain ⟨s1, s2, s3, s4⟩ := s
  refine Spc.start Tryz.func63 rfl (h := fun hs R hR => ?_)
  unfold Tryz.f63
  simp only [entryE, PA.av, eSg, List.map_cons, List.map_nil]
  have k1 := s_EqualSd t2 s2
  unfold sameSg at hR
  simp only at hR
  refine walk (hQ := ?_)
  refine R_ldPt (hK := ?_)
  refine walk (hQ := ?_)
  refine R_g_if (h1 := fun h1 => ?_) (h2 := fun h1 => ?_) <;> simp only [Bool.false_eq_true, if_false, if_true, Decidable.not_not] at h1
  · rw [decide_eq_true h1, Bool.true_and] at hR
    refine walk (hQ := ?_)
    refine R_ldPt (hK := ?_)
    refine walk (hQ := ?_)
    refine R_g_if (h1 := fun h2 => ?_) (h2 := fun h2 => ?_) <;> simp only [Bool.false_eq_true, if_false, if_true, Decidable.not_not] at h2
    · rw [decide_eq_true h2, Bool.true_and] at hR
      refine walk (hQ := ?_)
      refine R_ldPt (hK := ?_)
      refine walk (hQ := ?_)
      refine R_call k1 (hK := ?_)
      refine walk (hQ := ?_)
      exact hR _ (ret1 (hp := rfl))
    · rw [decide_eq_false h2, Bool.false_and] at hR
      refine walk (hQ := ?_)
      exact hR _ (ret1 (hp := rfl))
  · rw [decide_eq_false h1, Bool.false_and, Bool.false_and] at hR
    refine walk (hQ := ?_)
    exact hR _ (ret1 (hp := rfl))
theorem s_IndexSg (s : Sgn) (l : List Sgn) : Spc X 99 [.one (slc eSg l), .one (.clo 63 [.pt (eSg s) 0])] (.one (.int .i64 (ixP (fun t => sameSg t s) l))) := by
  refine Spc.start Tryz.func99 rfl (h := fun hs R hR => ?_)
  unfold Tryz.f99
  simp only [entryE, PA.av]
  have la := (sane_slc hs.1).1
  refine walk (hQ := ?_)
  refine Lp.intro (fun (i : Nat) => ⟨[(0, vP (slc eSg l)), (1, vP (.clo 63 [.pt (eSg s) 0])), (7, vI l.length), (8, vI i)], [], 0⟩) (fun i => i ≤ l.length ∧ ∀ y ∈ l.take i, sameSg y s = false) (fun i => l.length - i) 0 ⟨Nat.zero_le _, by simp⟩ (h0 := le_auto) (hr := fun i K ⟨hi, ho⟩ hK => ?_)
  refine walk (hQ := ?_)
  refine W_if (ht := fun h1 => ?_) (hf := fun h1 => ?_)
  · have hil : i < l.length := by omega
    have e0 := getD_some hil
    have k1 := f_check1 (l.getD i default) s
    have hst := take_succ_all (P := fun y => sameSg y s = false) e0 ho
    have hbd := ixP_at (p := fun t => sameSg t s) e0 ho
    refine walk (hQ := ?_)
    generalize l.getD i default = x at *
    refine R_call k1 (hK := ?_)
    refine walk (hQ := ?_)
    refine W_ifb (ht := fun h2 => ?_) (hf := fun h2 => ?_)
    · rw [hbd h2] at hR
      refine walk (hQ := ?_)
      exact hR _ (ret1 (hp := rfl))
    · refine walk (hQ := ?_)
      exact hK _ (i + 1) ⟨by omega, hst h2⟩ (by omega) le_auto
  · obtain rfl : i = l.length := by omega
    rw [List.take_length] at ho
    rw [ixP_no ho] at hR
    refine walk (hQ := ?_)
    exact hR _ (ret1 (hp := rfl))
theorem s_ContainsSg (s : Sgn) (l : List Sgn) : Spc X 62 [.one (slc eSg l), .one (.clo 63 [.pt (eSg s) 0])] (.one (.bool (l.any fun t => sameSg t s))) := by
  refine Spc.start Tryz.func62 rfl (h := fun hs R hR => ?_)
  unfold Tryz.f62
  simp only [entryE, PA.av]
  refine walk (hQ := ?_)
  refine R_call (s_IndexSg s l) (hK := ?_)
  refine walk (hQ := ?_)
  refine hR _ (ret1 (hp := ?_))
  rw [ixP_any]
abbrev orA (o : Ort) : PA := .agg (eO o)
theorem f_check (o : Ort) : Spc X 38 [orA o] (.tup [(false, [.int .i64 (chkO o).1]), (false, [.int .i64 (chkO o).2])]) := by
  obtain ⟨nme, l⟩ := o
  refine Spc.start Tryz.func38 rfl (h := fun hs R hR => ?_)
  unfold Tryz.f38
  simp only [entryE, PA.av, eO, List.map_cons, List.map_nil]
  unfold chkO at hR
  simp only at hR
  have k1 := f_IsName nme
  refine walk (hQ := ?_)
  cases hn : isNm nme with
  | false =>
    rw [hn] at k1
    rw [hn, if_pos rfl] at hR
    refine R_call k1 (hK := ?_)
    refine walk (hQ := ?_)
    exact hR _ (ret2 (hp := rfl))
  | true =>
  rw [hn] at k1
  rw [hn, if_neg (by decide)] at hR
  refine R_call k1 (hK := ?_)
  refine walk (hQ := ?_)
  refine W_if (ht := fun h1 => ?_) (hf := fun h1 => ?_)
  · rw [if_pos (List.eq_nil_of_length_eq_zero (by omega))] at hR
    refine walk (hQ := ?_)
    exact hR _ (ret2 (hp := rfl))
  rw [if_neg (fun h => h1 (by rw [h]; rfl))] at hR
  refine walk (hQ := ?_)
  refine W_if (ht := fun h2 => ?_) (hf := fun h2 => ?_)
  · rw [if_pos (by omega)] at hR
    refine walk (hQ := ?_)
    exact hR _ (ret2 (hp := rfl))
  rw [if_neg (by omega)] at hR
  refine walk (hQ := ?_)
  refine Lp.intro (fun (i : Nat) => ⟨[(1, .one (.ptr 0 0)), (24, vP (slc eSg l)), (25, vI l.length), (26, vI i)], [(0, (.mx [.pv (.str nme), .pv (slc eSg l)], false))], 1⟩) (fun i => i ≤ l.length ∧ chkL (l.take i) (l.drop i) = chkL [] l) (fun i => l.length - i) 0 ⟨Nat.zero_le _, by simp⟩ (h0 := le_auto) (hr := fun i K ⟨hi, ho⟩ hK => ?_)
  refine walk (hQ := ?_)
  refine W_if (ht := fun h4 => ?_) (hf := fun h4 => ?_)
  · have hil : i < l.length := by omega
    have e0 := getD_some hil
    have k2 := f_alone (l.getD i default)
    have k3 := s_ContainsSg (l.getD i default) (l.take i)
    have hst := chkL_step e0
    rw [ho] at hst
    refine walk (hQ := ?_)
    generalize l.getD i default = x at *
    obtain ⟨xa, xb, xc, xd⟩ := x
    simp only [eSg, sgA, List.map_cons, List.map_nil] at *
    refine walk (hQ := ?_)
    generalize sgE (xa, xb, xc, xd) = u at *
    refine R_call k2 (hK := ?_)
    refine walk (hQ := ?_)
    refine W_if (ht := fun h5 => ?_) (hf := fun h5 => ?_)
    · rw [hst, if_pos h5] at hR
      refine walk (hQ := ?_)
      exact hR _ (ret2 (hp := rfl))
    · rw [if_neg h5] at hst
      refine walk (hQ := ?_)
      cases ha : ((l.take i).any fun t => sameSg t (xa, xb, xc, xd)) with
      | true =>
        rw [ha] at k3
        rw [ha, if_pos rfl] at hst
        rw [hst] at hR
        refine R_callP (ids' := [1]) k3 (hv := .cons (.tmp rfl) (VA.one (.pv rfl)) (.cons (.tmp rfl) (VA.clo1 (id := 1) rfl (VL.pvs (ps := eSg (xa, xb, xc, xd)) rfl)) .nil)) (hK := ?_)
        refine walk (hQ := ?_)
        exact hR _ (ret2 (hp := rfl))
      | false =>
        rw [ha] at k3
        rw [ha, if_neg (by decide)] at hst
        refine R_callP (ids' := [1]) k3 (hv := .cons (.tmp rfl) (VA.one (.pv rfl)) (.cons (.tmp rfl) (VA.clo1 (id := 1) rfl (VL.pvs (ps := eSg (xa, xb, xc, xd)) rfl)) .nil)) (hK := ?_)
        refine walk (hQ := ?_)
        exact hK _ (i + 1) ⟨by omega, hst.symm⟩ (by omega) le_auto
  · obtain rfl : i = l.length := by omega
    rw [List.take_length, List.drop_length] at ho
    rw [← ho] at hR
    unfold chkL at hR
    refine walk (hQ := ?_)
    exact hR _ (ret2 (hp := rfl))
theorem f_OValid (o : Ort) : Spc X 21 [orA o] (.one (.int .i64 (chkO o).2)) := by
  refine Spc.start Tryz.func21 rfl (h := fun hs R hR => ?_)
  unfold Tryz.f21
  simp only [entryE, PA.av, eO, List.map_cons, List.map_nil]
  have k1 := f_check o
  obtain ⟨nme, l⟩ := o
  simp only [orA, eO] at *
  generalize chkO (nme, l) = u at *
  refine walk (hQ := ?_)
  refine R_call k1 (hK := ?_)
  refine walk (hQ := ?_)
  exact hR _ (ret1 (hp := rfl))
theorem g_first (o : Ort) : Spc X 39 [orA o] (.tup [(false, [.int .i64 (chkO o).1]), (false, [.int .i64 (chkO o).2])]) := by
  obtain ⟨nme, l⟩ := o
  refine Spc.start Tryz.func39 rfl (h := fun hs R hR => ?_)
  unfold Tryz.f39
  simp only [entryE, PA.av, eO, List.map_cons, List.map_nil]
  unfold chkO at hR
  simp only at hR
  have k1 := g_IsName nme
  refine walk (hQ := ?_)
  cases hn : isNm nme with
  | false =>
    rw [hn] at k1
    rw [hn, if_pos rfl] at hR
    refine R_call k1 (hK := ?_)
    refine walk (hQ := ?_)
    exact hR _ (ret2 (hp := rfl))
  | true =>
  rw [hn] at k1
  rw [hn, if_neg (by decide)] at hR
  refine R_call k1 (hK := ?_)
  refine walk (hQ := ?_)
  refine W_if (ht := fun h1 => ?_) (hf := fun h1 => ?_)
  · rw [if_pos (List.eq_nil_of_length_eq_zero (by omega))] at hR
    refine walk (hQ := ?_)
    exact hR _ (ret2 (hp := rfl))
  rw [if_neg (fun h => h1 (by rw [h]; rfl))] at hR
  refine walk (hQ := ?_)
  refine W_if (ht := fun h2 => ?_) (hf := fun h2 => ?_)
  · rw [if_pos (by omega)] at hR
    refine walk (hQ := ?_)
    exact hR _ (ret2 (hp := rfl))
  rw [if_neg (by omega)] at hR
  refine walk (hQ := ?_)
  refine Lp.intro (fun (i : Nat) => ⟨[(1, .one (.ptr 0 0)), (4, vI i)], [(0, (.mx [.pv (.str nme), .pv (slc eSg l)], false))], 1⟩) (fun i => i ≤ l.length ∧ chkL (l.take i) (l.drop i) = chkL [] l) (fun i => l.length - i) 0 ⟨Nat.zero_le _, by simp⟩ (h0 := le_auto) (hr := fun i K ⟨hi, ho⟩ hK => ?_)
  refine walk (hQ := ?_)
  refine W_if (ht := fun h4 => ?_) (hf := fun h4 => ?_)
  · have hil : i < l.length := by omega
    have e0 := getD_some hil
    have k2 := g_sign (l.getD i default)
    have hst := chkL_step e0
    rw [ho] at hst
    refine walk (hQ := ?_)
    generalize hgx : l.getD i default = x at *
    obtain ⟨xa, xb, xc, xd⟩ := x
    simp only [eSg, sgA, List.map_cons, List.map_nil] at *
    generalize sgE (xa, xb, xc, xd) = u at *
    refine R_call k2 (hK := ?_)
    refine walk (hQ := ?_)
    refine W_if (ht := fun h5 => ?_) (hf := fun h5 => ?_)
    · rw [hst, if_pos h5] at hR
      refine walk (hQ := ?_)
      exact hR _ (ret2 (hp := rfl))
    · rw [if_neg h5] at hst
      refine walk (hQ := ?_)
      refine Lp.intro (fun (k : Nat) => ⟨[(1, .one (.ptr 0 0)), (4, vI i), (6, vI k)], [(0, (.mx [.pv (.str nme), .pv (slc eSg l)], false))], 1⟩) (fun k => k ≤ i ∧ ∀ y ∈ l.take k, sameSg y (xa, xb, xc, xd) = false) (fun k => i - k) 0 ⟨Nat.zero_le _, by simp⟩ (h0 := le_auto) (hr := fun k K2 ⟨hk, ho2⟩ hK2 => ?_)
      refine walk (hQ := ?_)
      refine W_if (ht := fun h6 => ?_) (hf := fun h6 => ?_)
      · have hkl : k < l.length := by omega
        have f0 := getD_some hkl
        have hst2 := take_succ_all (P := fun y => sameSg y (xa, xb, xc, xd) = false) f0 ho2
        have hmm : l.getD k default ∈ l.take i := by
          have : (l.take i)[k]? = some (l.getD k default) := by rw [List.getElem?_take, if_pos (by omega)]; exact f0
          exact List.mem_of_getElem? this
        have hany : sameSg (l.getD k default) (xa, xb, xc, xd) = true → ((l.take i).any fun t => sameSg t (xa, xb, xc, xd)) = true := fun h => List.any_eq_true.2 ⟨_, hmm, h⟩
        have k4 := fun yb => g_SSame xb yb
        have hsm : ∀ y : Sgn, sameSg y (xa, xb, xc, xd) = (decide (xa = y.1) && decide (xd = y.2.2.2) && decide (xb = y.2.1)) := fun y => by
          rw [sameSg_comm]; rfl
        refine walk (hQ := ?_)
        rw [hgx]
        generalize l.getD k default = y at *
        obtain ⟨ya, yb, yc, yd⟩ := y
        have k5 := k4 yb
        have hs5 := hsm (ya, yb, yc, yd)
        simp only [eSg, List.map_cons, List.map_nil] at *
        refine R_g_if (h1 := fun h7 => ?_) (h2 := fun h7 => ?_) <;> simp only [Bool.false_eq_true, if_false, if_true, Decidable.not_not] at h7
        · rw [decide_eq_true h7, Bool.true_and] at hs5
          refine walk (hQ := ?_)
          refine R_g_if (h1 := fun h8 => ?_) (h2 := fun h8 => ?_) <;> simp only [Bool.false_eq_true, if_false, if_true, Decidable.not_not] at h8
          · rw [decide_eq_true h8, Bool.true_and] at hs5
            refine walk (hQ := ?_)
            refine R_call k5 (hK := ?_)
            refine walk (hQ := ?_)
            refine W_if (ht := fun h9 => ?_) (hf := fun h9 => ?_)
            · rw [decide_eq_true h9] at hs5
              rw [hany hs5, if_pos rfl] at hst
              rw [hst] at hR
              refine walk (hQ := ?_)
              exact hR _ (ret2 (hp := rfl))
            · rw [decide_eq_false h9] at hs5
              refine walk (hQ := ?_)
              exact hK2 _ (k + 1) ⟨by omega, hst2 hs5⟩ (by omega) le_auto
          · rw [decide_eq_false h8, Bool.false_and] at hs5
            refine walk (hQ := ?_)
            exact hK2 _ (k + 1) ⟨by omega, hst2 hs5⟩ (by omega) le_auto
        · rw [decide_eq_false h7, Bool.false_and, Bool.false_and] at hs5
          refine walk (hQ := ?_)
          exact hK2 _ (k + 1) ⟨by omega, hst2 hs5⟩ (by omega) le_auto
      · obtain rfl : k = i := by omega
        have ha : ((l.take k).any fun t => sameSg t (xa, xb, xc, xd)) = false := by
          rw [List.any_eq_false]
          intro y hy
          rw [ho2 y hy]; decide
        rw [ha, if_neg (by decide)] at hst
        refine walk (hQ := ?_)
        exact hK _ (k + 1) ⟨by omega, hst.symm⟩ (by omega) le_auto
  · obtain rfl : i = l.length := by omega
    rw [List.take_length, List.drop_length] at ho
    rw [← ho] at hR
    unfold chkL at hR
    refine walk (hQ := ?_)
    exact hR _ (ret2 (hp := rfl))
theorem g_OValid (o : Ort) : Spc X 22 [orA o] (.one (.int .i64 (chkO o).2)) := by
  refine Spc.start Tryz.func22 rfl (h := fun hs R hR => ?_)
  unfold Tryz.f22
  simp only [entryE, PA.av, eO, List.map_cons, List.map_nil]
  have k1 := g_first o
  obtain ⟨nme, l⟩ := o
  simp only [orA, eO] at *
  generalize chkO (nme, l) = u at *
  refine walk (hQ := ?_)
  refine R_call k1 (hK := ?_)
  refine walk (hQ := ?_)
  exact hR _ (ret1 (hp := rfl))
end Go.VS.YtekfjbjdlenhoaaGreatDoor


namespace Go.VN
open Go.RowKit Go.VL
set_option linter.unusedVariables false
abbrev wPre : List UInt8 := [111, 114, 116, 104, 111, 103, 114, 97, 112, 104, 121, 32]
def hdrB (b : List UInt8) : List UInt8 × Bool := (Lib.trimPrefix b wPre, Lib.hasPrefix b wPre && !(Lib.trimPrefix b wPre).isEmpty && !(Lib.trimPrefix b wPre).contains 32)
def hdrF (w : List UInt8) : List UInt8 × Bool := ((hdrB (Lib.trimSuffix w [10])).1, Lib.hasSuffix w [10] && (hdrB (Lib.trimSuffix w [10])).2)
def sgB (b : List UInt8) : Sgn × Bool := oO zSg (sgOf (splitL 32 b))
def sgLn (w : List UInt8) : Sgn × Bool := ((sgB (Lib.trimSuffix w [10])).1, Lib.hasSuffix w [10] && (sgB (Lib.trimSuffix w [10])).2)
def prsL : Nat → Ort → List (List UInt8) → Ort × Nat
  | _, o, [] => (o, 0)
  | i, o, w :: l =>
    if w = [] then (o, 0)
    else if i = 0 then (if (hdrF w).2 = true then prsL 1 ((hdrF w).1, o.2) l else (zO, 1))
    else (if (sgLn w).2 = true then prsL (i + 1) (o.1, o.2 ++ [(sgLn w).1]) l else (zO, i + 1))
def endO (p : Ort × Nat) : Ort × Int × Int := if p.2 ≠ 0 then (zO, (p.2 : Int), 2) else if (chkO p.1).2 = 0 then (p.1, 0, 0) else if (chkO p.1).1 < 0 then (zO, 1, (chkO p.1).2) else (zO, (chkO p.1).1 + 2, (chkO p.1).2)
def prsO (s : List UInt8) : Ort × Int × Int := if 20000 < s.length then (zO, 0, 3) else if s = [] then (zO, 1, 2) else endO (prsL 0 zO (spK true 10 s))
theorem prsL_at {L : List (List UInt8)} {i : Nat} {w : List UInt8} (h : L[i]? = some w) (o : Ort) : prsL i o (L.drop i) =
    if w = [] then (o, 0)
    else if i = 0 then (if (hdrF w).2 = true then prsL 1 ((hdrF w).1, o.2) (L.drop (i + 1)) else (zO, 1))
    else (if (sgLn w).2 = true then prsL (i + 1) (o.1, o.2 ++ [(sgLn w).1]) (L.drop (i + 1)) else (zO, i + 1)) := by
  obtain ⟨hi, rfl⟩ := List.getElem?_eq_some_iff.1 h
  rw [List.drop_eq_getElem_cons hi, prsL]
theorem trimSuffix_len (w t : List UInt8) : (Lib.trimSuffix w t).length ≤ w.length := by unfold Lib.trimSuffix; split <;> simp
theorem chkL_lo : ∀ (l p : List Sgn), -1 ≤ (chkL p l).1 ∧ (chkL p l).1 ≤ p.length + l.length
  | [], p => by simp [chkL]
  | s :: l, p => by
    have ih := chkL_lo l (p ++ [s])
    rw [List.length_append, List.length_singleton] at ih
    rw [chkL, List.length_cons]
    split
    · simp only; omega
    · split
      · simp only; omega
      · push_cast at ih ⊢; omega
theorem chkO_lo (o : Ort) : -1 ≤ (chkO o).1 := by
  unfold chkO
  split
  · simp
  · split
    · simp
    · split
      · simp
      · exact (chkL_lo _ _).1
theorem chkO_hi (o : Ort) : (chkO o).1 ≤ o.2.length := by
  unfold chkO
  split
  · simp
  · split
    · simp
    · split
      · simp
      · have := (chkL_lo o.2 []).2; simpa using this
theorem endO_bad {k : Nat} (o : Ort) (h : k ≠ 0) : endO (o, k) = (zO, (k : Int), 2) := by unfold endO; rw [if_pos h]
end Go.VN


namespace Go.VL
open Go.RowKit
set_option linter.unusedVariables false
def csLe : List AC → List AC → Prop
  | [], [] => True
  | c :: l, d :: k => avLe (.one c) (.one d) ∧ csLe l k
  | _, _ => False
theorem csLe_get : ∀ {l k : List AC}, csLe l k → ∀ (j : Nat) d, k[j]? = some d → ∃ c, l[j]? = some c ∧ avLe (.one c) (.one d)
  | c :: l, e :: k, h, 0, d, hj => by
    simp only [List.getElem?_cons_zero, Option.some.injEq] at hj
    subst hj
    exact ⟨c, rfl, h.1⟩
  | c :: l, e :: k, h, j + 1, d, hj => csLe_get h.2 j d (by simpa using hj)
  | [], [], h, j, d, hj => by simp at hj
  | _ :: _, [], h, _, _, _ => h.elim
  | [], _ :: _, h, _, _, _ => h.elim
theorem csLe_nil {k : List AC} (h : csLe [] k) : k = [] := by
  cases k with
  | nil => rfl
  | cons d k => exact h.elim
theorem le_retell {X : Ctx} {N : Nat} {env : List (Nat × AV)} {h h' : Hp} {n : Nat} {υ : AS} (id : Nat) {cs cs' : List AC} {z : Bool} (hl : look h id = some (.mx cs, z)) (hc : csLe cs cs') (hw : (acRefs cs').all (fun i => (look h i).isSome) = true) (hp : PutR h id (.mx cs', z) h') (hle : (AS.mk env h' n).Le X N υ) : (AS.mk env h n).Le X N υ := by
  refine AS.Le.trans ?_ hle
  rw [← hp.eq]
  intro F a w ⟨β, r⟩
  obtain ⟨hr, hok⟩ := r.h.retell (bx' := .mx cs') hl (fun hb => by
    have h2 := r.h.box id _ _ hl
    unfold BoxRep at h2
    rw [hb] at h2
    have h3 : cs = [] := h2
    subst h3
    exact csLe_nil hc) (fun g arr e hg harr => ⟨fun e' l he => (by cases he), fun j d hj => by
      obtain ⟨c, hc1, hc2⟩ := csLe_get hc j d hj
      have h2 := r.h.box id _ _ hl
      unfold BoxRep at h2
      rw [hg] at h2
      obtain ⟨_, arr', e', harr', _, hcells⟩ := h2
      obtain ⟨u, hu, hru⟩ := hcells j c hc1
      obtain ⟨fz, h4, _⟩ := harr
      obtain ⟨fz', h5, _⟩ := harr'
      rw [h4] at h5
      simp only [Option.some.injEq, Obj.cells.injEq] at h5
      obtain ⟨rfl, _, _⟩ := h5
      exact ⟨u, hu, avLe_rep (x := .one c) (y := .one d) hc2 hru⟩⟩) (fun i hi => List.all_eq_true.1 hw i hi)
  have k : Keeps (fun _ => True) w (F.ok w h β) β w (F.ok w (put h id (.mx cs', z)) β) β := ⟨fun b hb => ⟨(hok b).1 hb, rfl⟩, fun _ _ => ⟨rfl, fun _ _ => rfl⟩⟩
  refine ⟨β, hr, r.defers, r.size, fun t v hl2 => ?_⟩
  obtain ⟨⟨u, hu, hru⟩, hw2⟩ := r.env t v hl2
  exact ⟨⟨u, hu, k.repV (fun _ _ => trivial) hru⟩, fun i hi => by
    have := hw2 i hi
    show (look (put h id (.mx cs', z)) i).isSome = true
    rw [look_put]; split <;> simp_all⟩
end Go.VL


namespace Go.VS.YtekfjbjdlenhoaaGreatDoor
open Go Go.VL Go.VN Go.RowKit Go.Proofs
set_option maxRecDepth 100000
set_option linter.unusedVariables false
set_option linter.unusedSimpArgs false

abbrev orR (p : Ort × Int × Int) : PA := .tup [(true, eO p.1), (false, [.int .i64 p.2.1]), (false, [.int .i64 p.2.2])]
theorem f_OParse (s : List UInt8) : Spc X 31 [.one (.str s)] (orR (prsO s)) := by
  refine Spc.start Tryz.func31 rfl (h := fun hs R hR => ?_)
  unfold Tryz.f31
  simp only [entryE, PA.av]
  unfold prsO at hR
  refine walk (hQ := ?_)
  refine W_if (ht := fun h1 => ?_) (hf := fun h1 => ?_)
  · rw [if_pos (by omega)] at hR
    refine walk (hQ := ?_)
    exact hR _ (ret3 (hp := rfl))
  rw [if_neg (by omega)] at hR
  refine walk (hQ := ?_)
  refine W_if (ht := fun h2 => ?_) (hf := fun h2 => ?_)
  · rw [if_pos h2] at hR
    refine walk (hQ := ?_)
    exact hR _ (ret3 (hp := rfl))
  rw [if_neg h2] at hR
  have k1 := s_SplitAfter 10 s (by omega)
  have hlw := spK_mem true 10 s
  have hll : (spK true 10 s).length ≤ 20001 := by
    have := spK_len true 10 s.length s (Nat.le_refl _)
    have := List.count_le_length (a := 10) (l := s)
    omega
  generalize spK true 10 s = L at *
  refine walk (hQ := ?_)
  refine R_call k1 (hK := ?_)
  refine walk (hQ := ?_)
  refine Lp.intro3 (fun (nm : List UInt8) (out : List Sgn) (i : Nat) => ⟨[(2, .one (.ptr 0 0)), (5, .one (.ptr 1 0)), (24, vP (slc eS L)), (25, vI L.length), (26, vI i)], [(0, (.mx [.pv (.str []), .pv .nil], false)), (1, (.mx [.pv (.str nm), .own 2 4 out.length], false)), (2, (.pu 44 (out.flatMap eSg), false))], 3⟩) (fun nm out i => i ≤ L.length ∧ prsL i (nm, out) (L.drop i) = prsL 0 zO L ∧ out.length ≤ i) (fun nm out i => L.length - i) [] [] 0 ⟨Nat.zero_le _, rfl, Nat.le_refl _⟩ (h0 := le_ghost1 2 44 (hle := le_retell 1 (cs := [.pv (.str []), .pv .nil]) (cs' := [.pv (.str []), .own 2 4 0]) rfl ⟨avLe_refl _, rfl, trivial⟩ rfl (by repeat (first | exact .hit | (apply PutR.miss; rfl))) le_auto)) (hr := fun nm out i K ⟨hi, ho, hol⟩ hK => ?_)
  refine walk (hQ := ?_)
  refine W_if (ht := fun h3 => ?_) (hf := fun h3 => ?_)
  · have hil : i < L.length := by omega
    have e0 := getD_some hil
    have hst := prsL_at e0 (nm, out)
    have hwl := hlw _ (List.mem_of_getElem? e0)
    rw [ho] at hst
    simp only at hst
    refine walk (hQ := ?_)
    generalize L.getD i default = w at *
    refine W_if (ht := fun h4 => ?_) (hf := fun h4 => ?_)
    · rw [if_pos h4] at hst
      rw [hst] at hR
      unfold endO at hR
      simp only [ne_eq, not_true_eq_false, if_false] at hR
      refine walk (hQ := ?_)
      refine R_callP (ids' := [2]) (f_check (nm, out)) (hK := ?_)
      have hcl := chkO_lo (nm, out)
      have hch := chkO_hi (nm, out)
      generalize chkO (nm, out) = c at *
      refine walk (hQ := ?_)
      refine W_if (ht := fun hc1 => ?_) (hf := fun hc1 => ?_)
      · rw [if_pos hc1] at hR
        refine walk (hQ := ?_)
        exact hR _ (ret3 (hp := rfl))
      · rw [if_neg hc1] at hR
        refine walk (hQ := ?_)
        refine W_if (ht := fun hc2 => ?_) (hf := fun hc2 => ?_)
        · rw [if_pos hc2] at hR
          refine walk (hQ := ?_)
          exact hR _ (ret3 (hp := rfl))
        · rw [if_neg hc2] at hR
          simp only at hch
          refine walk (hQ := ?_)
          exact hR _ (ret3 (hp := rfl))
    · rw [if_neg h4] at hst
      have k2 := s_CutSuffix w [10]
      have hbl := trimSuffix_len w [10]
      unfold hdrF sgLn at hst
      generalize Lib.trimSuffix w [10] = b at *
      generalize Lib.hasSuffix w [10] = sf at *
      refine walk (hQ := ?_)
      refine R_call k2 (hK := ?_)
      refine walk (hQ := ?_)
      refine W_if (ht := fun h5 => ?_) (hf := fun h5 => ?_)
      · have hi0 : i = 0 := by omega
        subst hi0
        have hout : out = [] := List.eq_nil_of_length_eq_zero (Nat.le_zero.1 hol)
        rw [if_pos rfl] at hst
        have k3 := s_CutPrefix b wPre
        unfold hdrB at hst
        have k4 := s_Contains1 (Lib.trimPrefix b wPre) 32
        generalize Lib.trimPrefix b wPre = nn at *
        generalize Lib.hasPrefix b wPre = pf at *
        refine walk (hQ := ?_)
        refine R_call k3 (hK := ?_)
        cases sf with
        | false =>
          rw [if_neg (by simp)] at hst
          rw [hst, endO_bad _ (by omega)] at hR
          refine walk (hQ := ?_)
          exact hR _ (ret3 (hp := rfl))
        | true =>
          cases pf with
          | false =>
            rw [if_neg (by simp)] at hst
            rw [hst, endO_bad _ (by omega)] at hR
            refine walk (hQ := ?_)
            exact hR _ (ret3 (hp := rfl))
          | true =>
            refine walk (hQ := ?_)
            refine R_g_if (h1 := fun h6 => ?_) (h2 := fun h6 => ?_) <;> simp only [Bool.false_eq_true, if_false, if_true, Decidable.not_not] at h6
            · refine walk (hQ := ?_)
              cases hc : nn.contains 32 with
              | true =>
                rw [hc] at k4
                rw [if_neg (by simp only [hc, Bool.not_true, Bool.and_false]; decide)] at hst
                refine R_call k4 (hK := ?_)
                rw [hst, endO_bad _ (by omega)] at hR
                refine walk (hQ := ?_)
                exact hR _ (ret3 (hp := rfl))
              | false =>
                rw [hc] at k4
                have hne : nn.isEmpty = false := by cases nn with | nil => exact absurd rfl h6 | cons a l => rfl
                rw [if_pos (by simp only [hc, hne, Bool.not_false, Bool.and_true])] at hst
                refine R_call k4 (hK := ?_)
                refine walk (hQ := ?_)
                exact hK _ nn out (0 + 1) ⟨by omega, hst.symm, by omega⟩ (by omega) le_auto
            · rw [if_neg (by simp [h6])] at hst
              rw [hst, endO_bad _ (by omega)] at hR
              refine walk (hQ := ?_)
              exact hR _ (ret3 (hp := rfl))
      · rw [if_neg (by omega)] at hst
        have k3 := f_sign b (by omega)
        unfold sgB at hst
        generalize oO zSg (sgOf (splitL 32 b)) = P at *
        refine walk (hQ := ?_)
        refine R_call k3 (hK := ?_)
        obtain ⟨⟨xa, xb, xc, xd⟩, ok⟩ := P
        simp only [sgR, eSg] at *
        refine walk (hQ := ?_)
        cases sf with
        | false =>
          rw [if_neg (by simp)] at hst
          refine walk (hQ := ?_)
          refine R_bsl eSg (l := [(xa, xb, xc, xd)]) (hK := ?_)
          rw [hst, endO_bad _ (by omega)] at hR
          refine walk (hQ := ?_)
          exact hR _ (ret3 (hp := rfl))
        | true =>
          cases ok with
          | false =>
            rw [if_neg (by simp)] at hst
            refine walk (hQ := ?_)
            refine R_bsl eSg (l := [(xa, xb, xc, xd)]) (hK := ?_)
            rw [hst, endO_bad _ (by omega)] at hR
            refine walk (hQ := ?_)
            exact hR _ (ret3 (hp := rfl))
          | true =>
            rw [if_pos (by simp)] at hst
            refine walk (hQ := ?_)
            refine R_bsl eSg (l := [(xa, xb, xc, xd)]) (hK := ?_)
            refine walk (hQ := ?_)
            refine hK _ nm (out ++ [(xa, xb, xc, xd)]) (i + 1) ⟨by omega, hst.symm, by rw [List.length_append, List.length_singleton]; omega⟩ (by omega) ?_
            rw [List.length_append]
            exact le_auto
  · obtain rfl : i = L.length := by omega
    rw [List.drop_length, prsL] at ho
    rw [← ho] at hR
    unfold endO at hR
    simp only [ne_eq, not_true_eq_false, if_false] at hR
    refine walk (hQ := ?_)
    refine R_callP (ids' := [2]) (f_check (nm, out)) (hK := ?_)
    have hcl := chkO_lo (nm, out)
    have hch := chkO_hi (nm, out)
    generalize chkO (nm, out) = c at *
    refine walk (hQ := ?_)
    refine W_if (ht := fun hc1 => ?_) (hf := fun hc1 => ?_)
    · rw [if_pos hc1] at hR
      refine walk (hQ := ?_)
      exact hR _ (ret3 (hp := rfl))
    · rw [if_neg hc1] at hR
      refine walk (hQ := ?_)
      refine W_if (ht := fun hc2 => ?_) (hf := fun hc2 => ?_)
      · rw [if_pos hc2] at hR
        refine walk (hQ := ?_)
        exact hR _ (ret3 (hp := rfl))
      · rw [if_neg hc2] at hR
        simp only at hch
        refine walk (hQ := ?_)
        exact hR _ (ret3 (hp := rfl))
end Go.VS.YtekfjbjdlenhoaaGreatDoor


namespace Go.VN
open Go.RowKit Go.VL
set_option linter.unusedVariables false
def linesF (s : List UInt8) : List (List UInt8) := if (splitL 10 s).getLast? = some [] then (splitL 10 s).dropLast else splitL 10 s
def wordsF (s : List UInt8) : List (List UInt8) := if [] ∈ splitL 32 s then [] else splitL 32 s
theorem linesF_end {out : List (List UInt8)} {t s : List UInt8} (h : out ++ [t] = splitL 10 s) : linesF s = if t = [] then out else out ++ [t] := by
  unfold linesF
  rw [← h, List.getLast?_append]
  by_cases ht : t = []
  · rw [if_pos ht, ht]; simp
  · rw [if_neg ht, if_neg (by simpa using ht)]
/-- At the sign that ends a piece. -/
theorem piece_at {c : UInt8} {s : List UInt8} {fr i : Nat} (hf : fr ≤ i) (hi : i < s.length) (hn : c ∉ (s.drop fr).take (i - fr)) (hc : s[i]? = some c) : splitL c (s.drop fr) = (s.drop fr).take (i - fr) :: splitL c (s.drop (i + 1)) := by
  have h0 : i - fr ≤ (s.drop fr).length := by rw [List.length_drop]; omega
  have h1 : (s.drop fr)[i - fr]? = some c := by rw [List.getElem?_drop, show fr + (i - fr) = i by omega]; exact hc
  obtain ⟨c1, c2, c3⟩ := cut_at h0 hn (.inr h1)
  have hm : c ∈ s.drop fr := c3.2 (by rw [List.length_drop]; omega)
  unfold splitL
  rw [spK_hit false c hm, c2, List.drop_drop]
  simp only [Bool.toNat_false, Nat.add_zero]
  rw [show fr + (i - fr + 1) = i + 1 by omega]
theorem piece_end {c : UInt8} {s : List UInt8} {fr : Nat} (hf : fr ≤ s.length) (hn : c ∉ (s.drop fr).take (s.length - fr)) : splitL c (s.drop fr) = [s.drop fr] := by
  rw [List.take_of_length_le (by rw [List.length_drop]; omega)] at hn
  exact spK_miss false c hn
theorem piece_next {c : UInt8} {s : List UInt8} {fr i : Nat} (hf : fr ≤ i) (hi : i < s.length) (hn : c ∉ (s.drop fr).take (i - fr)) {x : UInt8} (hx : s[i]? = some x) (hne : x ≠ c) : c ∉ (s.drop fr).take (i + 1 - fr) := by
  have h1 : (s.drop fr)[i - fr]? = some x := by rw [List.getElem?_drop, show fr + (i - fr) = i by omega]; exact hx
  obtain ⟨h2, h3⟩ := List.getElem?_eq_some_iff.1 h1
  rw [show i + 1 - fr = (i - fr) + 1 by omega, List.take_succ_eq_append_getElem h2, h3, List.mem_append, List.mem_singleton, not_or]
  exact ⟨hn, fun e => hne e.symm⟩
end Go.VN
namespace Go.VN
open Go.RowKit Go.VL
def sgMk2 (t : List UInt8) (sd : List Snd × Int) (nu : Int × Bool) (z : Int) : Option Sgn := if sd.2 ≠ 0 ∨ nu.2 = false ∨ z < 0 then none else some (t, sd.1, nu.1, z)
/-- The sign with a line's words, as the reference takes it. -/
def lineR (l : List (List UInt8)) : Option Sgn :=
  if l.length < 4 then none
  else sgMk2 (l.getD 0 []) (prsSd (joinS ((l.drop 1).take (l.length - 3)))) (numF (l.getD (l.length - 2) [])) (ixP (fun y => decide (l.getD (l.length - 1) [] = y)) plcs)
theorem joinS_snoc (x : List UInt8) : ∀ {l : List (List UInt8)}, l ≠ [] → joinS (l ++ [x]) = joinS l ++ [32] ++ x
  | [y], _ => by simp [joinS]
  | y :: z :: l, _ => by
    have ih := joinS_snoc x (l := z :: l) (by simp)
    rw [List.cons_append, List.cons_append, joinS, ← List.cons_append, ih, joinS]
    simp
end Go.VN


namespace Go.VS.YtekfjbjdlenhoaaGreatDoor
open Go Go.VL Go.VN Go.RowKit Go.Proofs
set_option maxRecDepth 100000
set_option linter.unusedVariables false
set_option linter.unusedSimpArgs false

theorem g_Lines (s : List UInt8) (hl : s.length ≤ 20000) : Spc X 68 [.one (.str s)] (.one (slc eS (linesF s))) := by
  refine Spc.start Tryz.func68 rfl (h := fun hs R hR => ?_)
  unfold Tryz.f68
  simp only [entryE, PA.av]
  refine walk (hQ := ?_)
  refine Lp.intro3 (fun (out : List (List UInt8)) (fr i : Nat) => ⟨[(0, vS s), (3, .one (.own 0 1 out.length)), (4, vI fr), (5, vI i)], [(0, (.pu 9 (out.flatMap eS), false))], 1⟩) (fun out fr i => out.length ≤ i ∧ ((i ≤ s.length ∧ fr ≤ i ∧ out ++ splitL 10 (s.drop fr) = splitL 10 s ∧ 10 ∉ (s.drop fr).take (i - fr)) ∨ (i = s.length + 1 ∧ out = linesF s))) (fun out fr i => s.length + 1 - i) [] 0 0 ⟨Nat.zero_le _, .inl ⟨Nat.zero_le _, Nat.le_refl _, rfl, by simp⟩⟩ (h0 := le_ghost1 0 9 (hle := le_auto)) (hr := fun out fr i K ⟨hol, hI⟩ hK => ?_)
  have hib : i ≤ s.length + 1 := by omega
  refine walk (hQ := ?_)
  refine W_if (ht := fun h1 => ?_) (hf := fun h1 => ?_)
  · obtain ⟨hi, hf, ho, hn⟩ : i ≤ s.length ∧ fr ≤ i ∧ out ++ splitL 10 (s.drop fr) = splitL 10 s ∧ 10 ∉ (s.drop fr).take (i - fr) := by
      rcases hI with h | h
      · exact h
      · omega
    refine walk (hQ := ?_)
    refine R_g_if (h1 := fun h2 => ?_) (h2 := fun h2 => ?_) <;> simp only [Bool.false_eq_true, if_false, if_true, Decidable.not_not] at h2
    · obtain rfl : i = s.length := by omega
      rw [piece_end hf hn] at ho
      have hend := linesF_end ho
      refine walk (hQ := ?_)
      refine W_if (ht := fun h3 => ?_) (hf := fun h3 => ?_)
      · rw [if_pos (List.drop_eq_nil_of_le (by omega))] at hend
        rw [hend] at hR
        refine walk (hQ := ?_)
        exact hR _ (ret1 (hp := rfl))
      · rw [if_neg (fun e => by have := congrArg List.length e; rw [List.length_drop] at this; simp only [List.length_nil] at this; omega)] at hend
        refine walk (hQ := ?_)
        rw [decide_eq_true (show (s.length : Int) = s.length from rfl)]
        refine walk (hQ := ?_)
        rw [List.take_of_length_le (show (s.drop fr).length ≤ s.length - fr by rw [List.length_drop]; omega)]
        refine hK _ (out ++ [s.drop fr]) (s.length + 1) (s.length + 1) ⟨by rw [List.length_append, List.length_singleton]; omega, .inr ⟨rfl, hend.symm⟩⟩ (by omega) ?_
        rw [List.length_append]
        exact le_auto
    · have hil : i < s.length := by omega
      have e0 : s[i]? = some (s.getD i 0) := by rw [List.getD_eq_getElem?_getD, List.getElem?_eq_getElem hil]; rfl
      rw [decide_eq_false h2]
      refine walk (hQ := ?_)
      rw [decide_eq_false h2]
      refine walk (hQ := ?_)
      generalize s.getD i 0 = c at *
      refine W_if (ht := fun h3 => ?_) (hf := fun h3 => ?_)
      · have hc : c = 10 := UInt8.toNat_inj.1 (show c.toNat = 10 by omega)
        rw [hc] at e0
        have hpc := piece_at hf hil hn e0
        rw [hpc] at ho
        refine walk (hQ := ?_)
        refine hK _ (out ++ [(s.drop fr).take (i - fr)]) (i + 1) (i + 1) ⟨by rw [List.length_append, List.length_singleton]; omega, .inl ⟨by omega, Nat.le_refl _, by rw [List.append_assoc]; exact ho, by simp⟩⟩ (by omega) ?_
        rw [List.length_append]
        exact le_auto
      · have hc : c ≠ 10 := fun e => h3 (by rw [e]; rfl)
        refine walk (hQ := ?_)
        exact hK _ out fr (i + 1) ⟨by omega, .inl ⟨by omega, by omega, ho, piece_next hf hil hn e0 hc⟩⟩ (by omega) le_auto
  · have hout : out = linesF s := by
      rcases hI with h | h
      · omega
      · exact h.2
    rw [← hout] at hR
    refine walk (hQ := ?_)
    exact hR _ (ret1 (hp := rfl))
theorem g_words (s : List UInt8) (hl : s.length ≤ 20000) : Spc X 69 [.one (.str s)] (.one (slc eS (wordsF s))) := by
  refine Spc.start Tryz.func69 rfl (h := fun hs R hR => ?_)
  unfold Tryz.f69
  simp only [entryE, PA.av]
  refine walk (hQ := ?_)
  refine Lp.intro3 (fun (out : List (List UInt8)) (fr i : Nat) => ⟨[(0, vS s), (3, .one (.own 0 1 out.length)), (4, vI fr), (5, vI i)], [(0, (.pu 9 (out.flatMap eS), false))], 1⟩) (fun out fr i => out.length ≤ i ∧ ((i ≤ s.length ∧ fr ≤ i ∧ out ++ splitL 32 (s.drop fr) = splitL 32 s ∧ 32 ∉ (s.drop fr).take (i - fr) ∧ [] ∉ out) ∨ (i = s.length + 1 ∧ out = wordsF s))) (fun out fr i => s.length + 1 - i) [] 0 0 ⟨Nat.zero_le _, .inl ⟨Nat.zero_le _, Nat.le_refl _, rfl, by simp, by simp⟩⟩ (h0 := le_ghost1 0 9 (hle := le_auto)) (hr := fun out fr i K ⟨hol, hI⟩ hK => ?_)
  have hib : i ≤ s.length + 1 := by omega
  refine walk (hQ := ?_)
  refine W_if (ht := fun h1 => ?_) (hf := fun h1 => ?_)
  · obtain ⟨hi, hf, ho, hn, hne⟩ : i ≤ s.length ∧ fr ≤ i ∧ out ++ splitL 32 (s.drop fr) = splitL 32 s ∧ 32 ∉ (s.drop fr).take (i - fr) ∧ [] ∉ out := by
      rcases hI with h | h
      · exact h
      · omega
    refine walk (hQ := ?_)
    refine R_g_if (h1 := fun h2 => ?_) (h2 := fun h2 => ?_) <;> simp only [Bool.false_eq_true, if_false, if_true, Decidable.not_not] at h2
    · have hil : i < s.length := by omega
      have e0 : s[i]? = some (s.getD i 0) := by rw [List.getD_eq_getElem?_getD, List.getElem?_eq_getElem hil]; rfl
      refine walk (hQ := ?_)
      generalize s.getD i 0 = c at *
      refine W_if (ht := fun h3 => ?_) (hf := fun h3 => ?_)
      · have hc : c = 32 := UInt8.toNat_inj.1 (show c.toNat = 32 by omega)
        rw [hc] at e0
        have hpc := piece_at hf hil hn e0
        rw [hpc] at ho
        refine walk (hQ := ?_)
        refine W_if (ht := fun h4 => ?_) (hf := fun h4 => ?_)
        · have hem : [] ∈ splitL 32 s := by
            rw [← ho, show i - fr = 0 by omega, List.take_zero]; simp
          unfold wordsF at hR
          rw [if_pos hem] at hR
          refine walk (hQ := ?_)
          exact hR _ (ret1 (hp := rfl))
        · refine walk (hQ := ?_)
          have hpl : ((s.drop fr).take (i - fr)).length = i - fr := by rw [List.length_take, List.length_drop]; omega
          refine hK _ (out ++ [(s.drop fr).take (i - fr)]) (i + 1) (i + 1) ⟨by rw [List.length_append, List.length_singleton]; omega, .inl ⟨by omega, Nat.le_refl _, by rw [List.append_assoc]; exact ho, by simp, fun hm => ?_⟩⟩ (by omega) ?_
          · rcases List.mem_append.1 hm with hm | hm
            · exact hne hm
            · have := congrArg List.length (List.mem_singleton.1 hm)
              rw [hpl] at this; simp only [List.length_nil] at this; omega
          · rw [List.length_append]
            exact le_auto
      · have hc : c ≠ 32 := fun e => h3 (by rw [e]; rfl)
        refine walk (hQ := ?_)
        exact hK _ out fr (i + 1) ⟨by omega, .inl ⟨by omega, by omega, ho, piece_next hf hil hn e0 hc, hne⟩⟩ (by omega) le_auto
    · obtain rfl : i = s.length := by omega
      rw [piece_end hf hn] at ho
      refine walk (hQ := ?_)
      refine W_if (ht := fun h4 => ?_) (hf := fun h4 => ?_)
      · have hem : [] ∈ splitL 32 s := by
          rw [← ho, List.drop_eq_nil_of_le (by omega)]; simp
        unfold wordsF at hR
        rw [if_pos hem] at hR
        refine walk (hQ := ?_)
        exact hR _ (ret1 (hp := rfl))
      · have hnn : s.drop fr ≠ [] := fun e => by have := congrArg List.length e; rw [List.length_drop] at this; simp only [List.length_nil] at this; omega
        have hw : wordsF s = out ++ [s.drop fr] := by
          unfold wordsF
          rw [← ho, if_neg (fun hm => ?_)]
          rcases List.mem_append.1 hm with hm | hm
          · exact hne hm
          · exact hnn (List.mem_singleton.1 hm).symm
        refine walk (hQ := ?_)
        rw [List.take_of_length_le (show (s.drop fr).length ≤ s.length - fr by rw [List.length_drop]; omega)]
        refine hK _ (out ++ [s.drop fr]) (s.length + 1) (s.length + 1) ⟨by rw [List.length_append, List.length_singleton]; omega, .inr ⟨rfl, hw.symm⟩⟩ (by omega) ?_
        rw [List.length_append]
        exact le_auto
  · have hout : out = wordsF s := by
      rcases hI with h | h
      · omega
      · exact h.2
    rw [← hout] at hR
    refine walk (hQ := ?_)
    exact hR _ (ret1 (hp := rfl))
end Go.VS.YtekfjbjdlenhoaaGreatDoor


namespace Go.VS.YtekfjbjdlenhoaaGreatDoor
open Go Go.VL Go.VN Go.RowKit Go.Proofs
set_option maxRecDepth 100000
set_option linter.unusedVariables false
set_option linter.unusedSimpArgs false

theorem g_where (n : Nat) (hn : n < 5) : Spc X 50 [.one (.int .i64 n)] (.one (.str (plcs.getD n []))) := by
  refine Spc.start Tryz.func50 rfl (h := fun hs R hR => ?_)
  unfold Tryz.f50
  simp only [entryE, PA.av]
  have hn' : n < plcs.length := by simp only [plcs, List.length_cons, List.length_nil]; omega
  refine walk (hQ := ?_)
  exact hR _ (ret1 (hp := rfl))
theorem g_line (s : List UInt8) (hl : s.length ≤ 20000) : Spc X 70 [.one (.str s)] (sgR (oO zSg (lineR (wordsF s)))) := by
  refine Spc.start Tryz.func70 rfl (h := fun hs R hR => ?_)
  unfold Tryz.f70
  simp only [entryE, PA.av]
  have k1 := g_words s hl
  have hlw : ∀ w ∈ wordsF s, w.length ≤ s.length := fun w hw => by
    unfold wordsF at hw
    split at hw
    · cases hw
    · exact spK_mem false 32 s w hw
  have hll : (wordsF s).length ≤ 20001 := by
    have h1 : (splitL 32 s).length = s.count 32 + 1 := spK_len false 32 s.length s (Nat.le_refl _)
    have h2 := List.count_le_length (a := 32) (l := s)
    unfold wordsF
    split
    · simp
    · omega
  unfold lineR at hR
  generalize wordsF s = L at *
  refine walk (hQ := ?_)
  refine R_call k1 (hK := ?_)
  refine walk (hQ := ?_)
  refine W_if (ht := fun h1 => ?_) (hf := fun h1 => ?_)
  · rw [if_pos (by omega)] at hR
    refine walk (hQ := ?_)
    exact hR _ (ret2 (hp := rfl))
  rw [if_neg (by omega)] at hR
  refine walk (hQ := ?_)
  have hl4 : 4 ≤ L.length := by omega
  have e2 : joinS ((L.drop 1).take (2 - 1)) = L.getD (Int.toNat 1) [] := by
    match L, hl4 with
    | a :: b :: L, _ => rfl
  have hM : ∀ k, ∀ w ∈ (L.drop 1).take k, w.length ≤ s.length := fun k w hw => hlw w (List.mem_of_mem_drop (List.mem_of_mem_take hw))
  have hjl : ∀ k, k ≤ 20001 → (joinS ((L.drop 1).take k)).length ≤ 20001 * 20001 := fun k hk => by
    have h1 := joinS_len (hM k)
    have h2 : ((L.drop 1).take k).length * (s.length + 1) ≤ 20001 * 20001 := Nat.mul_le_mul (by rw [List.length_take]; omega) (by omega)
    omega
  refine Lp.intro (fun (i : Nat) => ⟨[(2, .one (.ptr 0 0)), (4, vP (slc eS L)), (5, vS (joinS ((L.drop 1).take (i - 1)))), (6, vI i)], [(0, (.mx [.pv (.str []), .pv .nil, .pv (.int .i64 0), .pv (.int .i64 0)], false))], 1⟩) (fun i => 2 ≤ i ∧ i ≤ L.length - 2) (fun i => L.length - i) 2 ⟨Nat.le_refl _, by omega⟩ (h0 := by rw [e2]; exact le_auto) (hr := fun i K hI hK => ?_)
  have hji := hjl (i - 1) (by omega)
  refine walk (hQ := ?_)
  refine W_if (ht := fun h2 => ?_) (hf := fun h2 => ?_)
  · have hil : i < L.length := by omega
    have e0 : L[i]? = some (L.getD i []) := by rw [List.getD_eq_getElem?_getD, List.getElem?_eq_getElem hil]; rfl
    have hwl := hlw _ (List.mem_of_getElem? e0)
    have hst : joinS ((L.drop 1).take (i + 1 - 1)) = joinS ((L.drop 1).take (i - 1)) ++ [32] ++ L.getD i [] := by
      have h4 : (L.drop 1)[i - 1]? = some (L.getD i []) := by rw [List.getElem?_drop, show 1 + (i - 1) = i by omega]; exact e0
      obtain ⟨h5, h6⟩ := List.getElem?_eq_some_iff.1 h4
      rw [show i + 1 - 1 = (i - 1) + 1 by omega, List.take_succ_eq_append_getElem h5, h6, joinS_snoc]
      intro e
      have := congrArg List.length e
      rw [List.length_take, List.length_drop] at this
      simp only [List.length_nil] at this
      omega
    refine walk (hQ := ?_)
    refine hK _ (i + 1) ⟨by omega, by omega⟩ (by omega) ?_
    rw [hst]
    exact le_auto
  · have hie : i - 1 = L.length - 3 := by omega
    rw [hie] at hji ⊢
    have k3 := g_SParse (joinS ((L.drop 1).take (L.length - 3)))
    have k4 := g_Number (L.getD (L.length - 2) [])
    generalize prsSd (joinS ((L.drop 1).take (L.length - 3))) = sd at *
    generalize numF (L.getD (L.length - 2) []) = nu at *
    refine walk (hQ := ?_)
    refine R_call k3 (hK := ?_)
    refine walk (hQ := ?_)
    rw [show ((L.length : Int) - 2).toNat = L.length - 2 by omega]
    refine R_call k4 (hK := ?_)
    refine walk (hQ := ?_)
    unfold sgMk2 at hR
    refine R_g_if (h1 := fun h3 => ?_) (h2 := fun h3 => ?_) <;> simp only [Bool.false_eq_true, if_false, if_true, Decidable.not_not] at h3
    · cases hb : nu.2 with
      | false =>
        rw [if_pos (.inr (.inl hb))] at hR
        refine walk (hQ := ?_)
        exact hR _ (ret2 (hp := rfl))
      | true =>
        refine walk (hQ := ?_)
        refine Lp.intro (fun (k : Nat) => ⟨[(2, .one (.ptr 0 0)), (4, vP (slc eS L)), (7, vP (slc eSd sd.1)), (9, vI nu.1), (11, vI k)], [(0, (.mx [.pv (.str []), .pv .nil, .pv (.int .i64 0), .pv (.int .i64 0)], false))], 1⟩) (fun k => k ≤ 5 ∧ ∀ y ∈ plcs.take k, decide (L.getD (L.length - 1) [] = y) = false) (fun k => 5 - k) 0 ⟨Nat.zero_le _, by simp⟩ (h0 := le_auto) (hr := fun k K2 ⟨hk, ho⟩ hK2 => ?_)
        refine walk (hQ := ?_)
        refine W_if (ht := fun h5 => ?_) (hf := fun h5 => ?_)
        · have hkl : k < plcs.length := by simp only [plcs, List.length_cons, List.length_nil]; omega
          have f0 : plcs[k]? = some (plcs.getD k []) := by rw [List.getD_eq_getElem?_getD, List.getElem?_eq_getElem hkl]; rfl
          have hst := take_succ_all (P := fun y => decide (L.getD (L.length - 1) [] = y) = false) f0 ho
          have hat := ixP_at (p := fun y => decide (L.getD (L.length - 1) [] = y)) f0 ho
          refine walk (hQ := ?_)
          refine R_call (g_where k (by omega)) (hK := ?_)
          refine walk (hQ := ?_)
          rw [show ((L.length : Int) - 1).toNat = L.length - 1 by omega]
          refine W_if (ht := fun h6 => ?_) (hf := fun h6 => ?_)
          · rw [hat (decide_eq_true h6), if_neg (by rintro (h | h | h); exact h h3; rw [hb] at h; cases h; omega)] at hR
            refine walk (hQ := ?_)
            exact hR _ (ret2 (hp := rfl))
          · refine walk (hQ := ?_)
            exact hK2 _ (k + 1) ⟨by omega, hst (decide_eq_false h6)⟩ (by omega) le_auto
        · obtain rfl : k = 5 := by omega
          rw [ixP_no (p := fun y => decide (L.getD (L.length - 1) [] = y)) (l := plcs) ho, if_pos (.inr (.inr (by omega)))] at hR
          refine walk (hQ := ?_)
          exact hR _ (ret2 (hp := rfl))
    · rw [if_pos (.inl h3)] at hR
      refine walk (hQ := ?_)
      exact hR _ (ret2 (hp := rfl))
end Go.VS.YtekfjbjdlenhoaaGreatDoor


namespace Go.VN
open Go.RowKit Go.VL
set_option linter.unusedVariables false
def hdrR (w : List UInt8) : List UInt8 × Bool := ((wordsF w).getD 1 [], decide ((wordsF w).length = 2) && decide ((wordsF w).getD 0 [] = wOrt))
def sgLR (w : List UInt8) : Sgn × Bool := oO zSg (lineR (wordsF w))
def refL (bad : Bool) : Nat → Ort → List (List UInt8) → Ort × Nat
  | _, o, [] => (o, 0)
  | i, o, w :: l =>
    if (l.isEmpty && bad) = true then (zO, i + 1)
    else if i = 0 then (if (hdrR w).2 = true then refL bad 1 ((hdrR w).1, o.2) l else (zO, 1))
    else (if (sgLR w).2 = true then refL bad (i + 1) (o.1, o.2 ++ [(sgLR w).1]) l else (zO, i + 1))
def badE (s : List UInt8) : Bool := decide (¬ s.getD (s.length - 1) 0 = 10)
def prsR (s : List UInt8) : Ort × Int × Int := if 20000 < s.length then (zO, 0, 3) else if linesF s = [] then (zO, 1, 2) else endO (refL (badE s) 0 zO (linesF s))
theorem refL_at {L : List (List UInt8)} {i : Nat} {w : List UInt8} (h : L[i]? = some w) (bad : Bool) (o : Ort) : refL bad i o (L.drop i) =
    if (decide (i + 1 = L.length) && bad) = true then (zO, i + 1)
    else if i = 0 then (if (hdrR w).2 = true then refL bad 1 ((hdrR w).1, o.2) (L.drop (i + 1)) else (zO, 1))
    else (if (sgLR w).2 = true then refL bad (i + 1) (o.1, o.2 ++ [(sgLR w).1]) (L.drop (i + 1)) else (zO, i + 1)) := by
  obtain ⟨hi, rfl⟩ := List.getElem?_eq_some_iff.1 h
  have e : (L.drop (i + 1)).isEmpty = decide (i + 1 = L.length) := by
    rw [Bool.eq_iff_iff, List.isEmpty_iff, decide_eq_true_eq, List.drop_eq_nil_iff]
    omega
  rw [List.drop_eq_getElem_cons hi, refL, e]
theorem linesF_len (s : List UInt8) : (linesF s).length ≤ s.length + 1 ∧ ∀ w ∈ linesF s, w.length ≤ s.length := by
  have h1 : (splitL 10 s).length = s.count 10 + 1 := spK_len false 10 s.length s (Nat.le_refl _)
  have h2 := List.count_le_length (a := 10) (l := s)
  have h3 : ∀ w ∈ splitL 10 s, w.length ≤ s.length := spK_mem false 10 s
  unfold linesF
  split
  · exact ⟨by rw [List.length_dropLast]; omega, fun w hw => h3 w (List.dropLast_subset _ hw)⟩
  · exact ⟨by omega, h3⟩
theorem linesF_ne {s : List UInt8} (h : linesF s ≠ []) : 0 < s.length := by
  rcases Nat.eq_zero_or_pos s.length with h0 | h0
  · obtain rfl := List.eq_nil_of_length_eq_zero h0
    exact absurd rfl h
  · exact h0
end Go.VN


namespace Go.VS.YtekfjbjdlenhoaaGreatDoor
open Go Go.VL Go.VN Go.RowKit Go.Proofs
set_option maxRecDepth 100000
set_option linter.unusedVariables false
set_option linter.unusedSimpArgs false

theorem g_OParse (s : List UInt8) : Spc X 42 [.one (.str s)] (orR (prsR s)) := by
  refine Spc.start Tryz.func42 rfl (h := fun hs R hR => ?_)
  unfold Tryz.f42
  simp only [entryE, PA.av]
  unfold prsR at hR
  refine walk (hQ := ?_)
  refine W_if (ht := fun h1 => ?_) (hf := fun h1 => ?_)
  · rw [if_pos (by omega)] at hR
    refine walk (hQ := ?_)
    exact hR _ (ret3 (hp := rfl))
  rw [if_neg (by omega)] at hR
  have k1 := g_Lines s (by omega)
  obtain ⟨hll, hlw⟩ := linesF_len s
  have hne := linesF_ne (s := s)
  have hbad : badE s = decide (¬ s.getD (s.length - 1) 0 = 10) := rfl
  generalize linesF s = L at *
  generalize badE s = bad at *
  refine walk (hQ := ?_)
  refine R_call k1 (hK := ?_)
  refine walk (hQ := ?_)
  refine W_if (ht := fun h2 => ?_) (hf := fun h2 => ?_)
  · rw [if_pos (List.eq_nil_of_length_eq_zero (by omega))] at hR
    refine walk (hQ := ?_)
    exact hR _ (ret3 (hp := rfl))
  have hLn : L ≠ [] := fun e => h2 (by rw [e]; rfl)
  have hs0 := hne hLn
  rw [if_neg hLn] at hR
  refine walk (hQ := ?_)
  refine Lp.intro3 (fun (nm : List UInt8) (out : List Sgn) (i : Nat) => ⟨[(0, vS s), (2, .one (.ptr 0 0)), (5, vP (slc eS L)), (6, .one (.ptr 1 0)), (7, vI i)], [(0, (.mx [.pv (.str []), .pv .nil], false)), (1, (.mx [.pv (.str nm), .own 2 4 out.length], false)), (2, (.pu 44 (out.flatMap eSg), false))], 3⟩) (fun nm out i => i ≤ L.length ∧ refL bad i (nm, out) (L.drop i) = refL bad 0 zO L ∧ out.length ≤ i) (fun nm out i => L.length - i) [] [] 0 ⟨Nat.zero_le _, rfl, Nat.le_refl _⟩ (h0 := le_ghost1 2 44 (hle := le_retell 1 (cs := [.pv (.str []), .pv .nil]) (cs' := [.pv (.str []), .own 2 4 0]) rfl ⟨avLe_refl _, rfl, trivial⟩ rfl (by repeat (first | exact .hit | (apply PutR.miss; rfl))) le_auto)) (hr := fun nm out i K ⟨hi, ho, hol⟩ hK => ?_)
  refine walk (hQ := ?_)
  refine W_if (ht := fun h3 => ?_) (hf := fun h3 => ?_)
  · have hil : i < L.length := by omega
    have e0 : L[i]? = some (L.getD i []) := by rw [List.getD_eq_getElem?_getD, List.getElem?_eq_getElem hil]; rfl
    have hst := refL_at e0 bad (nm, out)
    have hwl := hlw _ (List.mem_of_getElem? e0)
    rw [ho] at hst
    have k2 := g_words (L.getD i []) (by omega)
    have k3 := g_line (L.getD i []) (by omega)
    unfold hdrR sgLR at hst
    refine walk (hQ := ?_)
    refine R_g_if (h1 := fun h4 => ?_) (h2 := fun h4 => ?_) <;> simp only [Bool.false_eq_true, if_false, if_true, Decidable.not_not] at h4
    · have hbe : decide (¬ ((s.getD (s.length - 1) 0).toNat : Int) = 10) = bad := by
        rw [hbad]
        by_cases h : s.getD (s.length - 1) 0 = 10
        · rw [h]; rfl
        · have h' : ¬ ((s.getD (s.length - 1) 0).toNat : Int) = 10 := fun e => h (UInt8.toNat_inj.1 (show (s.getD (s.length - 1) 0).toNat = 10 by omega))
          rw [decide_eq_true h', decide_eq_true h]
      rw [decide_eq_true (show i + 1 = L.length by omega), Bool.true_and] at hst
      refine walk (hQ := ?_)
      rw [show ((s.length : Int) - 1).toNat = s.length - 1 by omega, hbe]
      cases bad with
      | true =>
        rw [if_pos rfl] at hst
        refine walk (hQ := ?_)
        generalize hw : L.getD i [] = w at *
        generalize oO zSg (lineR (wordsF w)) = P at *
        generalize wordsF w = W at *
        refine R_call k2 (hK := ?_)
        refine walk (hQ := ?_)
        rw [hw]
        refine R_call k3 (hK := ?_)
        obtain ⟨⟨xa, xb, xc, xd⟩, ok⟩ := P
        simp only [sgR, eSg] at *
        refine walk (hQ := ?_)
        refine W_if (ht := fun h5 => ?_) (hf := fun h5 => ?_)
        · refine walk (hQ := ?_)
          refine R_g_if (h1 := fun h6 => ?_) (h2 := fun h6 => ?_) <;> simp only [Bool.false_eq_true, if_false, if_true, Decidable.not_not] at h6
          · refine walk (hQ := ?_)
            rw [hst, endO_bad _ (by omega)] at hR
            refine walk (hQ := ?_)
            exact hR _ (ret3 (hp := rfl))
          ·
            rw [hst, endO_bad _ (by omega)] at hR
            refine walk (hQ := ?_)
            exact hR _ (ret3 (hp := rfl))
        · refine walk (hQ := ?_)
          rw [hst, endO_bad _ (by omega)] at hR
          refine walk (hQ := ?_)
          exact hR _ (ret3 (hp := rfl))
      | false =>
        rw [if_neg (by decide)] at hst
        refine walk (hQ := ?_)
        generalize hw : L.getD i [] = w at *
        generalize oO zSg (lineR (wordsF w)) = P at *
        generalize wordsF w = W at *
        refine R_call k2 (hK := ?_)
        refine walk (hQ := ?_)
        rw [hw]
        refine R_call k3 (hK := ?_)
        obtain ⟨⟨xa, xb, xc, xd⟩, ok⟩ := P
        simp only [sgR, eSg] at *
        refine walk (hQ := ?_)
        refine W_if (ht := fun h5 => ?_) (hf := fun h5 => ?_)
        · have hi0 : i = 0 := by omega
          subst hi0
          rw [if_pos rfl] at hst
          refine walk (hQ := ?_)
          refine R_g_if (h1 := fun h6 => ?_) (h2 := fun h6 => ?_) <;> simp only [Bool.false_eq_true, if_false, if_true, Decidable.not_not] at h6
          · have h6' : W.length = 2 := by omega
            refine walk (hQ := ?_)
            rw [show W.getD (Int.toNat 0) [] = W.getD 0 [] from rfl]
            refine W_if (ht := fun hB => ?_) (hf := fun hB => ?_)
            · rw [if_neg (by simp only [show ¬ W.getD 0 [] = wOrt from hB, decide_false, Bool.and_false]; decide)] at hst
              rw [hst, endO_bad _ (by omega)] at hR
              refine walk (hQ := ?_)
              exact hR _ (ret3 (hp := rfl))
            · rw [if_pos (by simp only [h6', show W.getD 0 [] = wOrt from Decidable.not_not.1 hB, decide_true, Bool.and_true])] at hst
              refine walk (hQ := ?_)
              refine hK _ (W.getD 1 []) out (0 + 1) ⟨by omega, hst.symm, by omega⟩ (by omega) le_auto
          · rw [if_neg (by simp only [show ¬ W.length = 2 by omega, decide_false, Bool.false_and]; decide)] at hst
            rw [hst, endO_bad _ (by omega)] at hR
            refine walk (hQ := ?_)
            exact hR _ (ret3 (hp := rfl))
        · rw [if_neg (by omega)] at hst
          cases ok with
          | false =>
            rw [if_neg (by simp)] at hst
            rw [hst, endO_bad _ (by omega)] at hR
            refine walk (hQ := ?_)
            exact hR _ (ret3 (hp := rfl))
          | true =>
            rw [if_pos (by simp)] at hst
            refine walk (hQ := ?_)
            refine W_if (ht := fun h => absurd h h5) (hf := fun _ => ?_)
            refine walk (hQ := ?_)
            refine R_bsl eSg (l := [(xa, xb, xc, xd)]) (hK := ?_)
            refine walk (hQ := ?_)
            refine hK _ nm (out ++ [(xa, xb, xc, xd)]) (i + 1) ⟨by omega, hst.symm, by rw [List.length_append, List.length_singleton]; omega⟩ (by omega) ?_
            rw [List.length_append]
            exact le_auto
    · rw [decide_eq_false (show ¬ i + 1 = L.length by omega), Bool.false_and, if_neg (by decide)] at hst
      refine walk (hQ := ?_)
      generalize hw : L.getD i [] = w at *
      generalize oO zSg (lineR (wordsF w)) = P at *
      generalize wordsF w = W at *
      refine R_call k2 (hK := ?_)
      refine walk (hQ := ?_)
      rw [hw]
      refine R_call k3 (hK := ?_)
      obtain ⟨⟨xa, xb, xc, xd⟩, ok⟩ := P
      simp only [sgR, eSg] at *
      refine walk (hQ := ?_)
      refine W_if (ht := fun h5 => ?_) (hf := fun h5 => ?_)
      · have hi0 : i = 0 := by omega
        subst hi0
        rw [if_pos rfl] at hst
        refine walk (hQ := ?_)
        refine R_g_if (h1 := fun h6 => ?_) (h2 := fun h6 => ?_) <;> simp only [Bool.false_eq_true, if_false, if_true, Decidable.not_not] at h6
        · have h6' : W.length = 2 := by omega
          refine walk (hQ := ?_)
          rw [show W.getD (Int.toNat 0) [] = W.getD 0 [] from rfl]
          refine W_if (ht := fun hB => ?_) (hf := fun hB => ?_)
          · rw [if_neg (by simp only [show ¬ W.getD 0 [] = wOrt from hB, decide_false, Bool.and_false]; decide)] at hst
            rw [hst, endO_bad _ (by omega)] at hR
            refine walk (hQ := ?_)
            exact hR _ (ret3 (hp := rfl))
          · rw [if_pos (by simp only [h6', show W.getD 0 [] = wOrt from Decidable.not_not.1 hB, decide_true, Bool.and_true])] at hst
            refine walk (hQ := ?_)
            refine hK _ (W.getD 1 []) out (0 + 1) ⟨by omega, hst.symm, by omega⟩ (by omega) le_auto
        · rw [if_neg (by simp only [show ¬ W.length = 2 by omega, decide_false, Bool.false_and]; decide)] at hst
          rw [hst, endO_bad _ (by omega)] at hR
          refine walk (hQ := ?_)
          exact hR _ (ret3 (hp := rfl))
      · rw [if_neg (by omega)] at hst
        cases ok with
        | false =>
          rw [if_neg (by simp)] at hst
          rw [hst, endO_bad _ (by omega)] at hR
          refine walk (hQ := ?_)
          exact hR _ (ret3 (hp := rfl))
        | true =>
          rw [if_pos (by simp)] at hst
          refine walk (hQ := ?_)
          refine W_if (ht := fun h => absurd h h5) (hf := fun _ => ?_)
          refine walk (hQ := ?_)
          refine R_bsl eSg (l := [(xa, xb, xc, xd)]) (hK := ?_)
          refine walk (hQ := ?_)
          refine hK _ nm (out ++ [(xa, xb, xc, xd)]) (i + 1) ⟨by omega, hst.symm, by rw [List.length_append, List.length_singleton]; omega⟩ (by omega) ?_
          rw [List.length_append]
          exact le_auto
  · obtain rfl : i = L.length := by omega
    rw [List.drop_length, refL] at ho
    rw [← ho] at hR
    unfold endO at hR
    simp only [ne_eq, not_true_eq_false, if_false] at hR
    refine walk (hQ := ?_)
    refine R_callP (ids' := [2]) (g_first (nm, out)) (hK := ?_)
    have hcl := chkO_lo (nm, out)
    have hch := chkO_hi (nm, out)
    generalize chkO (nm, out) = c at *
    refine walk (hQ := ?_)
    refine W_if (ht := fun hc1 => ?_) (hf := fun hc1 => ?_)
    · rw [if_neg hc1] at hR
      refine walk (hQ := ?_)
      refine W_if (ht := fun hc2 => ?_) (hf := fun hc2 => ?_)
      · rw [if_neg (by omega)] at hR
        simp only at hch
        refine walk (hQ := ?_)
        exact hR _ (ret3 (hp := rfl))
      · rw [if_pos (by omega)] at hR
        refine walk (hQ := ?_)
        exact hR _ (ret3 (hp := rfl))
    · rw [if_pos (Decidable.not_not.1 hc1)] at hR
      refine walk (hQ := ?_)
      exact hR _ (ret3 (hp := rfl))
end Go.VS.YtekfjbjdlenhoaaGreatDoor

