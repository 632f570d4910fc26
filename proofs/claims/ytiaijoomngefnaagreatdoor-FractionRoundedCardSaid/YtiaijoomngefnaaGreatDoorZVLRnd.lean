/- The decimal text read back as a number, and how near it is to the value: plain laws. No condition. -/
import Derived.Test.YtiaijoomngefnaaGreatDoorZVLField
namespace Go.VN
open Go.RowKit Go.VL
set_option linter.unusedVariables false
/-- A numeral with at most one point, read: the digits' number, and ten to the number of digits behind the point. -/
def scanD : List UInt8 → Bool → Nat → Nat → Bool → Option (Nat × Nat)
  | [], _, n, den, _ => some (n, den)
  | c :: l, f, n, den, b =>
    if 48 ≤ c.toNat ∧ c.toNat ≤ 57 then (if 10 * n + c.toNat - 48 > 100000000000000000 then none else scanD l false (10 * n + c.toNat - 48) (if b = true then den * 10 else den) b)
    else if c.toNat = 46 ∧ b = false then (if n > 100000000000000000 then none else scanD l false n den true)
    else if c.toNat ≠ 45 ∨ f = false then none
    else (if n > 100000000000000000 then none else scanD l false n den b)
theorem scanD_den {n' D : Nat} : ∀ {l : List UInt8} {f : Bool} {n den : Nat} {b : Bool}, scanD l f n den b = some (n', D) → den ≤ D
  | [], f, n, den, b, h => by
    simp only [scanD, Option.some.injEq, Prod.mk.injEq] at h
    omega
  | c :: l, f, n, den, b, h => by
    rw [scanD] at h
    split at h
    · split at h
      · cases h
      · have := scanD_den h
        split at this <;> omega
    · split at h
      · split at h
        · cases h
        · exact scanD_den h
      · split at h
        · cases h
        · split at h
          · cases h
          · exact scanD_den h
theorem dvF_mono (a : Nat) : ∀ l : List UInt8, a ≤ dvF a l
  | [] => Nat.le_refl _
  | c :: l => by
    show a ≤ dvF (a * 10 + (c.toNat - 48)) l
    have := dvF_mono (a * 10 + (c.toNat - 48)) l
    omega
theorem scan_digits : ∀ (l r : List UInt8) (f : Bool) (n den : Nat) (b : Bool), Dec l → dvF n l ≤ 100000000000000000 → l ≠ [] ∨ f = false → scanD (l ++ r) f n den b = scanD r false (dvF n l) (if b = true then den * 10 ^ l.length else den) b
  | [], r, f, n, den, b, _, _, hf => by
    rcases hf with h | h
    · exact absurd rfl h
    · subst h
      simp [dvF]
  | c :: l, r, f, n, den, b, hd, hn, _ => by
    obtain ⟨h1, h2⟩ := hd c (by simp)
    have e : dvF n (c :: l) = dvF (n * 10 + (c.toNat - 48)) l := rfl
    have hm := dvF_mono (n * 10 + (c.toNat - 48)) l
    rw [List.cons_append, scanD, if_pos ⟨h1, h2⟩, if_neg (by omega)]
    rw [show 10 * n + c.toNat - 48 = n * 10 + (c.toNat - 48) by omega, scan_digits l r false _ _ b (fun x hx => hd x (by simp [hx])) (by rw [← e]; exact hn) (.inr rfl), e]
    congr 1
    cases b
    · rfl
    · simp only [if_true, List.length_cons, Nat.pow_succ]
      rw [Nat.mul_assoc, Nat.mul_comm 10]
theorem val_nums : ∀ (k : Nat) (s : List UInt8), s.length ≤ k → val (nums s) = dv s
  | _, [], _ => by rw [nums_nil]; rfl
  | 0, _ :: _, h => by simp at h
  | k + 1, c :: s, h => by
    rw [nums_cons (c :: s) (by simp)]
    have hl : ((c :: s).take ((c :: s).length - 4)).length ≤ k := by
      rw [List.length_take]
      simp only [List.length_cons] at h ⊢
      omega
    show ((dv ((c :: s).drop ((c :: s).length - 4)) : Nat) : Int) + 10000 * val (nums ((c :: s).take ((c :: s).length - 4))) = dv (c :: s)
    rw [val_nums k _ hl]
    have e := dvF_append 0 ((c :: s).take ((c :: s).length - 4)) ((c :: s).drop ((c :: s).length - 4))
    rw [List.take_append_drop, dvF_lin _ (dvF 0 _)] at e
    show _ = ((dvF 0 (c :: s) : Nat) : Int)
    rw [e]
    by_cases h4 : (c :: s).length < 4
    · rw [show (c :: s).length - 4 = 0 by omega]
      simp [dv, dvF]
    · rw [List.length_drop, show (c :: s).length - ((c :: s).length - 4) = 4 by omega]
      show ((dvF 0 _ : Nat) : Int) + 10000 * ((dvF 0 _ : Nat) : Int) = _
      omega
theorem fmt_digs (N : Nat) (h : (digs N).length ≤ 200) : Dec (fmtL (digs N)) ∧ dv (fmtL (digs N)) = N ∧ (fmtL (digs N)) ≠ [] := by
  have hv := valid_N' N h
  obtain ⟨h1, h2, _⟩ := fmtL_dec hv
  refine ⟨h1, ?_, h2⟩
  have hp := parse_fmt hv
  unfold parseL at hp
  split at hp
  · exact absurd (show (_ : Int) = 0 from congrArg Prod.snd hp) (by decide)
  · split at hp
    · exact absurd (show (_ : Int) = 0 from congrArg Prod.snd hp) (by decide)
    · have e : tr (nums (fmtL (digs N))) = digs N := congrArg Prod.fst hp
      rw [tr_digs (nums_dig h1)] at e
      have e2 := digs_inj e
      rw [val_nums _ _ (Nat.le_refl _)] at e2
      exact e2
theorem scan_decT (neg : Bool) (N d : Nat) (h : N ≤ 100000000000000000) : scanD (decT neg N d) true 0 1 false = some (N, 10 ^ d) ∧ ((decT neg N d).head? = some 45 ↔ neg = true ∧ N ≠ 0) ∧ decT neg N d ≠ [] := by
  obtain ⟨h1, h2, h3⟩ := fmt_digs N (by have := digs_len N (by omega); omega)
  have hA : Dec (padZ d (fmtL (digs N))) := fun c hc => by
    unfold padZ at hc
    rcases List.mem_append.1 hc with hc | hc
    · rw [(List.mem_replicate.1 hc).2]; decide
    · exact h1 c hc
  have hdv : dvF 0 (padZ d (fmtL (digs N))) = N := by
    have := dv_zeros (d + 1 - (fmtL (digs N)).length) (fmtL (digs N))
    unfold padZ
    exact this.trans h2
  have hl := padZ_len d (fmtL (digs N))
  have key : ∀ f, scanD (dotS d (padZ d (fmtL (digs N)))) f 0 1 false = some (N, 10 ^ d) := fun f => by
    generalize padZ d (fmtL (digs N)) = A at *
    unfold dotS
    by_cases h0 : d = 0
    · rw [if_pos h0]
      have := scan_digits A [] f 0 1 false hA (by rw [hdv]; exact h) (.inl (fun e => by rw [e] at hl; simp at hl))
      rw [List.append_nil] at this
      rw [this, hdv, h0]
      rfl
    · rw [if_neg h0, List.append_assoc]
      have e1 : dvF (dvF 0 (A.take (A.length - d))) (A.drop (A.length - d)) = N := by rw [← dvF_append, List.take_append_drop, hdv]
      have hm := dvF_mono (dvF 0 (A.take (A.length - d))) (A.drop (A.length - d))
      have ne1 : A.take (A.length - d) ≠ [] := fun e => by
        have := congrArg List.length e
        rw [List.length_take, List.length_nil] at this
        omega
      rw [scan_digits _ _ f 0 1 false (fun c hc => hA c (List.mem_of_mem_take hc)) (by omega) (.inl ne1)]
      rw [List.cons_append, List.nil_append, scanD, if_neg (by decide), if_pos (by decide), if_neg (by omega)]
      have := scan_digits (A.drop (A.length - d)) [] false (dvF 0 (A.take (A.length - d))) 1 true (fun c hc => hA c (List.mem_of_mem_drop hc)) (by rw [e1]; exact h) (.inr rfl)
      rw [List.append_nil] at this
      simp only [Bool.false_eq_true, if_false]
      rw [this, e1, List.length_drop, show A.length - (A.length - d) = d by omega, if_pos rfl, Nat.one_mul]
      rfl
  have hne : dotS d (padZ d (fmtL (digs N))) ≠ [] ∧ (dotS d (padZ d (fmtL (digs N)))).head? ≠ some 45 := by
    generalize padZ d (fmtL (digs N)) = A at *
    have hh : ∀ r, A.take (A.length - d) ++ r ≠ [] ∧ (A.take (A.length - d) ++ r).head? ≠ some 45 := fun r => by
      cases hA2 : A.take (A.length - d) with
      | nil =>
        have := congrArg List.length hA2
        rw [List.length_take, List.length_nil] at this
        omega
      | cons c l =>
        have hc := hA c (List.mem_of_mem_take (by rw [hA2]; simp))
        refine ⟨by simp, fun e => ?_⟩
        simp only [List.cons_append, List.head?_cons, Option.some.injEq] at e
        subst e
        exact absurd hc.1 (by decide)
    unfold dotS
    split
    · rename_i h0
      have := hh []
      rw [h0, List.append_nil, Nat.sub_zero, List.take_length] at this
      exact this
    · rw [List.append_assoc]; exact hh _
  unfold decT
  by_cases hn : (neg && !decide (N = 0)) = true
  · rw [if_pos hn]
    have hn' : neg = true ∧ N ≠ 0 := by simpa using hn
    refine ⟨?_, ⟨fun _ => hn', fun _ => rfl⟩, by simp⟩
    rw [List.cons_append, List.nil_append, scanD, if_neg (by decide), if_neg (by decide), if_neg (by decide), if_neg (by omega)]
    exact key false
  · rw [if_neg hn, List.nil_append]
    exact ⟨key true, ⟨fun e => absurd e hne.2, fun e => absurd (by simpa using e) hn⟩, hne.1⟩
theorem decT_len (neg : Bool) (N d : Nat) (h : N ≤ 100000000000000000) : (decT neg N d).length ≤ d + 24 := by
  have hl := digs_len N (by omega)
  obtain ⟨_, _, h3⟩ := fmtL_dec (valid_N' N (by omega))
  have h4 := padZ_len2 d (fmtL (digs N))
  have h5 : (dotS d (padZ d (fmtL (digs N)))).length ≤ (padZ d (fmtL (digs N))).length + 1 := by
    unfold dotS
    split
    · omega
    · simp only [List.length_append, List.length_take, List.length_drop, List.length_cons, List.length_nil]
      omega
  unfold decT
  rw [List.length_append]
  split <;> simp only [List.length_cons, List.length_nil] <;> omega
/-! ### How near -/
theorem fits_big {n : Nat} (h : n ≤ 10 ^ 50) : fits n = true := by
  unfold fits
  have := digs_le n 200 (Int.lt_of_le_of_lt (Int.ofNat_le.2 h) (by
    have h1 := pow_mono (m := 13) (n := 200) (by decide)
    exact Int.lt_of_lt_of_le (by decide) h1))
  simpa using this
theorem sub_big {f g : FrN} (hf : VF f) (hg : VF g) (h1 : nm f ≤ 10 ^ 20) (h2 : dn f ≤ 10 ^ 20) (h3 : nm g ≤ 10 ^ 20) (h4 : dn g ≤ 10 ^ 20) : (subF f g).2 = 0 := by
  have mm : ∀ {a b : Nat}, a ≤ 10 ^ 20 → b ≤ 10 ^ 20 → a * b ≤ 10 ^ 40 := fun {a b} ha hb => Nat.le_trans (Nat.mul_le_mul ha hb) (by decide)
  obtain ⟨o1, o2, o3⟩ := opp_sg hg
  have hn : nm (oppF g) = nm g := by
    have := congrArg Int.natAbs o1
    rw [sg_eta o3, sg_eta hg, Int.natAbs_neg, sgI_abs, sgI_abs] at this
    exact this
  have m1 := mm h1 h4
  have m2 := mm h3 h2
  have m3 := mm h2 h4
  unfold subF
  rw [if_pos ⟨hf.valid, hg.valid⟩]
  unfold addF
  rw [if_pos ⟨hf.valid, o3.valid⟩]
  unfold addN
  rw [hn, o2, if_pos ⟨fits_big (Nat.le_trans m1 (by decide)), fits_big (Nat.le_trans m2 (by decide)), fits_big (Nat.le_trans m3 (by decide))⟩]
  split
  · rw [if_pos (fits_big (Nat.le_trans (Nat.add_le_add m1 m2) (by decide)))]
  · split <;> rfl
theorem abs_VF {f : FrN} (h : VF f) : VF (false, f.2.1, f.2.2) ∧ sg (false, f.2.1, f.2.2) = nm f ∧ dn (false, f.2.1, f.2.2) = dn f := by
  refine ⟨?_, rfl, rfl⟩
  have e := h.eta
  have hv := h.valid
  refine validF_VF ?_
  unfold validF at hv ⊢
  simp only [Bool.and_eq_true, Bool.not_eq_true', decide_eq_true_eq] at hv ⊢
  exact ⟨⟨⟨⟨hv.1.1.1.1, hv.1.1.1.2⟩, hv.1.1.2⟩, by simp⟩, hv.2⟩
theorem near {x : FrN} (hx : VF x) {d N : Nat} (hN : N = (nm x * 2 * 10 ^ d + dn x) / (dn x * 2)) {dd : FrN} (h : subF x (redN x.1 N (10 ^ d)) = (dd, 0)) (hd : VF dd) (hh : VF (redN false 1 (2 * 10 ^ d))) : cmpF (false, dd.2.1, dd.2.2) (redN false 1 (2 * 10 ^ d)) ≤ 0 := by
  have hP : 0 < 10 ^ d := Nat.pow_pos (by decide)
  have hn := hx.pos
  obtain ⟨a1, a2, a3⟩ := abs_VF hd
  have hyv := red_val (s := x.1) (p := N) hP
  have hval := subF_v h (Vl.self (f := x)) hyv
  refine Int.not_lt.1 ((cmpF_le a1 hh).2 ?_)
  rw [a2, a3]
  have hhv := red_val (s := false) (p := 1) (q := 2 * 10 ^ d) (by omega)
  generalize redN false 1 (2 * 10 ^ d) = H at *
  unfold Vl at hval hhv
  have e1 : (sgI false 1 : Int) = 1 := rfl
  rw [e1, Int.one_mul] at hhv
  rw [sg_eta hx] at hval
  -- |m P - N n| * 2 <= n
  have hq := Nat.div_add_mod (nm x * 2 * 10 ^ d + dn x) (dn x * 2)
  rw [← hN] at hq
  have hr := Nat.mod_lt (nm x * 2 * 10 ^ d + dn x) (show 0 < dn x * 2 by omega)
  generalize (nm x * 2 * 10 ^ d + dn x) % (dn x * 2) = r at hq hr
  generalize hPP : 10 ^ d = P at *
  generalize nm x = m at *
  generalize hnn : dn x = n at *
  have e2 : (sgI x.1 m * P - sgI x.1 N * n : Int).natAbs * 2 ≤ n := by
    have e3 : (sgI x.1 m * P - sgI x.1 N * n : Int).natAbs = ((m * P : Nat) - (N * n : Nat) : Int).natAbs := by
      unfold sgI
      cases x.1
      · simp
      · simp only [if_true]
        rw [show (-(m : Int) * P - -(N : Int) * n) = -((m * P : Nat) - (N * n : Nat) : Int) by rw [Int.neg_mul, Int.neg_mul, Int.natCast_mul, Int.natCast_mul]; omega, Int.natAbs_neg]
    rw [e3]
    have e4 : n * 2 * N = 2 * (N * n) := by rw [Nat.mul_comm n 2, Nat.mul_assoc, Nat.mul_comm n N]
    have e5 : m * 2 * P = 2 * (m * P) := by rw [Nat.mul_comm m 2, Nat.mul_assoc]
    rw [e4, e5] at hq
    omega
  have e6 : (nm dd : Int) * (n * P) = ((sgI x.1 m * P - sgI x.1 N * n : Int).natAbs : Int) * dn dd := by
    have := congrArg Int.natAbs hval
    rw [sg_eta hd] at this
    simp only [Int.natAbs_mul, sgI_abs, Int.natAbs_natCast] at this
    exact_mod_cast this
  generalize (sgI x.1 m * P - sgI x.1 N * n : Int).natAbs = A at *
  have e7 : nm dd * (2 * P) ≤ dn dd := by
    have h1 : nm dd * (n * P) = A * dn dd := by exact_mod_cast e6
    have h2 : A * 2 * dn dd ≤ n * dn dd := Nat.mul_le_mul_right _ e2
    have h3 : n * (nm dd * (2 * P)) ≤ n * dn dd := by
      calc n * (nm dd * (2 * P)) = 2 * (nm dd * (n * P)) := by ac_rfl
        _ = A * 2 * dn dd := by rw [h1]; ac_rfl
        _ ≤ n * dn dd := h2
    exact Nat.le_of_mul_le_mul_left h3 (by omega)
  have hs : (0 : Int) ≤ sg H := by
    have : (0 : Int) ≤ sg H * ((2 * P : Nat) : Int) := by rw [hhv]; omega
    rcases Int.lt_or_le (sg H) 0 with h1 | h1
    · have := Int.mul_neg_of_neg_of_pos h1 (show (0 : Int) < ((2 * P : Nat) : Int) by omega)
      omega
    · exact h1
  calc (nm dd : Int) * dn H = (nm dd : Int) * (sg H * ((2 * P : Nat) : Int)) := by rw [hhv]
    _ = sg H * ((nm dd * (2 * P) : Nat) : Int) := by rw [Int.natCast_mul]; ac_rfl
    _ ≤ sg H * (dn dd : Int) := Int.mul_le_mul_of_nonneg_left (Int.ofNat_le.2 e7) hs
end Go.VN
