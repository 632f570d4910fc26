/- The law on rounded decimals. Its arguments: a small fraction; a number of digits. No condition. -/
import Derived.Test.YtiaijoomngefnaaGreatDoorZVLaw03b
import Derived.Test.YtiaijoomngefnaaGreatDoorZVLRnd
namespace Go.VS.YtiaijoomngefnaaGreatDoor
open Go Go.VL Go.VN Go.RowKit Go.Proofs
set_option maxRecDepth 100000
set_option linter.unusedVariables false

set_option maxHeartbeats 4000000 in
theorem law_Rounded (a b dg : Int) (ha : -32768 ≤ a ∧ a ≤ 32767) (hb : 0 ≤ b ∧ b ≤ 255) (hdg : 0 ≤ dg ∧ dg ≤ 255) : Spc X 8 [.agg [.int .i16 a, .int .u8 b], .one (.int .u8 dg)] (.one (.bool true)) := by
  refine Spc.start Tryz.func8 rfl (h := fun hs R hR => ?_)
  unfold Tryz.f8
  simp only [entryE, PA.av, List.map_cons, List.map_nil]
  obtain ⟨hx, _⟩ := small_bd ha hb
  have hmd := g_Made a b
  generalize (ofF a (1 + b)).1 = x at *
  refine walk (hQ := ?_)
  refine R_call l_awake (hK := ?_)
  refine walk (hQ := ?_)
  refine W_if (ht := fun h0 => ?_) (hf := fun h0 => ?_)
  case refine_1 =>
    refine walk (hQ := ?_)
    refine R_call l_awake (hK := ?_)
    refine walk (hQ := ?_)
    exact hR _ (ret1 (hp := rfl))
  obtain ⟨d, rfl⟩ : ∃ d : Nat, dg = d := ⟨dg.toNat, by omega⟩
  have hd12 : d ≤ 12 := by omega
  have hP : 10 ^ d ≤ 1000000000000 := Nat.pow_le_pow_right (by decide) hd12
  have hP0 : 0 < 10 ^ d := Nat.pow_pos (by decide)
  have hn := hx.v.pos
  have hnm := hx.n
  have hdn := hx.d
  have hmP : nm x * 2 * 10 ^ d ≤ 32768 * 2 * 1000000000000 := Nat.mul_le_mul (by omega) hP
  have hdec := f_Decimal x d
  unfold decF at hdec
  rw [if_pos hx.v.valid, if_neg (by omega)] at hdec
  unfold decN at hdec
  rw [Int.toNat_natCast, if_pos ⟨fits_big (Nat.le_trans (show _ ≤ 100000000000000000 by omega) (by decide)), fits_big (Nat.le_trans (show _ ≤ 100000000000000000 by omega) (by decide))⟩] at hdec
  have hN : (nm x * 2 * 10 ^ d + dn x) / (dn x * 2) ≤ 100000000000000000 := Nat.le_trans (Nat.div_le_self _ _) (by omega)
  have hNe : (nm x * 2 * 10 ^ d + dn x) / (dn x * 2) = (nm x * 2 * 10 ^ d + dn x) / (dn x * 2) := rfl
  have hnear := fun dd => @near x hx.v d _ rfl dd
  generalize (nm x * 2 * 10 ^ d + dn x) / (dn x * 2) = N at *
  obtain ⟨s1, s2, s3⟩ := scan_decT x.1 N d hN
  have hsL := decT_len x.1 N d hN
  generalize decT x.1 N d = s at *
  refine walk (hQ := ?_)
  refine R_call hmd (hK := ?_)
  refine walk (hQ := ?_)
  refine R_call hdec (hK := ?_)
  refine walk (hQ := ?_)
  have hsl := List.length_pos_iff.2 s3
  refine R_g_if (h1 := fun h1 => ?_) (h2 := fun h1 => absurd s3 (by simpa using h1))
  refine walk (hQ := ?_)
  have hneg : decide (((s.getD (Int.toNat 0) 0).toNat : Int) = 45) = (x.1 && !decide (N = 0)) := by
    obtain ⟨c0, s', rfl⟩ := List.exists_cons_of_ne_nil s3
    have e : (((c0 :: s').getD (Int.toNat 0) 0).toNat : Int) = 45 ↔ (c0 :: s').head? = some 45 := by
      show (c0.toNat : Int) = 45 ↔ some c0 = some 45
      rw [Option.some.injEq]
      constructor
      · intro h
        exact UInt8.toNat_inj.1 (show c0.toNat = 45 by omega)
      · intro h; subst h; rfl
    rw [Bool.eq_iff_iff, decide_eq_true_eq, e, s2]
    simp
  rw [hneg]
  generalize hng : (x.1 && !decide (N = 0)) = neg at *
  refine Lp.intro4 (fun (i n den : Nat) (bh : Bool) => ⟨[(5, .one (.ptr 1 0)), (8, vB neg), (9, vI n), (10, vI den), (11, vB bh), (53, vP (slc eU s)), (54, vI s.length), (55, vI i)], [(1, (.mx [.pv (.bool x.1), .pv (slc eI x.2.1), .pv (slc eI x.2.2)], false))], 2⟩) (fun i n den bh => i ≤ s.length ∧ scanD (s.drop i) (decide (i = 0)) n den bh = some (N, 10 ^ d) ∧ n ≤ 100000000000000000) (fun i _ _ _ => s.length - i) 0 0 1 false ⟨Nat.zero_le _, s1, by omega⟩ (h0 := le_auto) (hr := fun i n den bh K ⟨hi, hsc, hnn⟩ hK => ?_)
  have hdd := Nat.le_trans (scanD_den hsc) hP
  refine walk (hQ := ?_)
  refine W_if (ht := fun h1 => ?_) (hf := fun h1 => ?_)
  · have hil : i < s.length := by omega
    have e0 : s.getD i default = s[i] := by rw [List.getD_eq_getElem?_getD, List.getElem?_eq_getElem hil]; rfl
    rw [List.drop_eq_getElem_cons hil, scanD, ← e0] at hsc
    have hc255 : (s.getD i default).toNat < 256 := UInt8.toNat_lt _
    have e1 : decide (i + 1 = 0) = false := by simp
    refine walk (hQ := ?_)
    generalize s.getD i default = c at *
    refine R_g_if (h1 := fun h2 => ?_) (h2 := fun h2 => ?_)
    · simp only [if_true] at h2
      refine walk (hQ := ?_)
      refine W_if (ht := fun h3 => ?_) (hf := fun h3 => ?_)
      · rw [if_pos (by omega)] at hsc
        by_cases h4 : 10 * n + c.toNat - 48 > 100000000000000000
        · rw [if_pos h4] at hsc; cases hsc
        · rw [if_neg h4] at hsc
          refine walk (hQ := ?_)
          refine W_ifb (ht := fun h5 => ?_) (hf := fun h5 => ?_)
          · rw [if_pos h5] at hsc
            refine walk (hQ := ?_)
            refine W_if (ht := fun h6 => absurd h6 (by omega)) (hf := fun h6 => ?_)
            refine walk (hQ := ?_)
            exact hK _ (i + 1) (10 * n + c.toNat - 48) (den * 10) bh ⟨by omega, by rw [e1]; exact hsc, by omega⟩ (by omega) le_auto
          · rw [if_neg (by rw [h5]; decide)] at hsc
            refine walk (hQ := ?_)
            refine W_if (ht := fun h6 => absurd h6 (by omega)) (hf := fun h6 => ?_)
            refine walk (hQ := ?_)
            exact hK _ (i + 1) (10 * n + c.toNat - 48) den bh ⟨by omega, by rw [e1]; exact hsc, by omega⟩ (by omega) le_auto
      · rw [if_neg (by omega), if_neg (by omega), if_pos (.inl (by omega))] at hsc
        cases hsc
    · simp only [if_true] at h2
      rw [if_neg (by omega)] at hsc
      refine walk (hQ := ?_)
      refine R_g_if (h1 := fun h3 => ?_) (h2 := fun h3 => ?_)
      · simp only [if_true] at h3
        refine walk (hQ := ?_)
        cases bh with
        | true =>
          rw [if_neg (by simp), if_pos (.inl (by omega))] at hsc
          cases hsc
        | false =>
          rw [if_pos ⟨by omega, rfl⟩, if_neg (by omega)] at hsc
          refine walk (hQ := ?_)
          refine W_if (ht := fun h6 => absurd h6 (by omega)) (hf := fun h6 => ?_)
          refine walk (hQ := ?_)
          exact hK _ (i + 1) n den true ⟨by omega, by rw [e1]; exact hsc, by omega⟩ (by omega) le_auto
      · simp only [if_true] at h3
        rw [if_neg (by omega)] at hsc
        by_cases h4 : c.toNat ≠ 45 ∨ decide (i = 0) = false
        · rw [if_pos h4] at hsc; cases hsc
        · rw [if_neg h4, if_neg (by omega)] at hsc
          have h5 : c.toNat = 45 ∧ i = 0 := by simpa using h4
          refine walk (hQ := ?_)
          refine R_g_if (h1 := fun h6 => ?_) (h2 := fun h6 => ?_)
          · refine walk (hQ := ?_)
            refine W_if (ht := fun h6 => absurd h6 (by omega)) (hf := fun h6 => ?_)
            refine walk (hQ := ?_)
            refine W_if (ht := fun h6 => absurd h6 (by omega)) (hf := fun h6 => ?_)
            refine walk (hQ := ?_)
            exact hK _ (i + 1) n den bh ⟨by omega, by rw [e1]; exact hsc, by omega⟩ (by omega) le_auto
          · simp only [Bool.false_eq_true, if_false] at h6
            exact absurd h6 (by omega)
  · obtain rfl : i = s.length := by omega
    rw [List.drop_length, scanD, Option.some.injEq, Prod.mk.injEq] at hsc
    obtain ⟨rfl, rfl⟩ := hsc
    clear hK
    have hP := hdd
    have ey : (neg, (redN false n (10 ^ d)).2.1, (redN false n (10 ^ d)).2.2) = redN x.1 n (10 ^ d) := by
      rw [← hng]
      unfold redN
      have hg : 0 < Nat.gcd n (10 ^ d) := Nat.gcd_pos_of_pos_right _ hP0
      have : decide (n / Nat.gcd n (10 ^ d) = 0) = decide (n = 0) := by
        apply decide_eq_decide.2
        constructor
        · intro h
          rcases Nat.div_eq_zero_iff.1 h with h | h
          · omega
          · rcases Nat.eq_zero_or_pos n with h0 | h0
            · exact h0
            · have := Nat.gcd_le_left (10 ^ d) h0
              omega
        · intro h; subst h; simp
      rw [this]
    have lP : (digs (10 ^ d)).length ≤ 200 := by have := digs_len (10 ^ d) (by omega); omega
    have ln : (digs n).length ≤ 200 := by have := digs_len n (by omega); omega
    have hnew := g_New (digs n) (digs (10 ^ d))
    unfold newF at hnew
    rw [if_pos ⟨valid_N' _ ln, valid_N' _ lP⟩, digs_empty, if_neg (by simp <;> omega), val_digs, val_digs, Int.toNat_natCast, Int.toNat_natCast] at hnew
    have hof := r_Of n
    have hoP := r_Of (10 ^ d : Nat)
    have e1 : ofR (n : Int) = (digs n, 0) := by unfold ofR; rw [if_neg (by omega)]; rfl
    have e2 : ofR ((10 ^ d : Nat) : Int) = (digs (10 ^ d), 0) := by unfold ofR; rw [if_neg (by omega)]; rfl
    rw [e1] at hof
    rw [e2] at hoP
    have hhf := g_Of 1 (2 * (10 ^ d : Nat))
    unfold ofF at hhf
    rw [if_neg (by omega), if_neg (by omega), show (2 * ((10 ^ d : Nat) : Int)).natAbs = 2 * 10 ^ d by omega, show (1 : Int).natAbs = 1 from rfl, show (decide ((1 : Int) < 0) != decide (2 * ((10 ^ d : Nat) : Int) < 0)) = false by rw [decide_eq_false (by omega), decide_eq_false (by omega)]; rfl] at hhf
    have hsb := sub_big hx.v (red_VF (b := x.1) hP0 ln lP) (by omega) (by omega) (by unfold redN; rw [nm_mk]; exact Nat.le_trans (Nat.div_le_self _ _) (by omega)) (by unfold redN; rw [dn_mk]; exact Nat.le_trans (Nat.div_le_self _ _) (by omega))
    have hsub := f_Sub x (redN x.1 n (10 ^ d))
    rw [← ey] at hsub
    have hvd := subF_ok hsb
    generalize hT : subF x (redN x.1 n (10 ^ d)) = T at *
    obtain ⟨dd, e0⟩ := T
    dsimp only at hsb hvd
    subst hsb
    rw [ey, hT] at hsub
    rw [← ey] at hsub
    have hVH : VF (redN false 1 (2 * 10 ^ d)) := red_VF (by omega) (by have := digs_len 1 (by omega); omega) (by have := digs_len (2 * 10 ^ d) (by omega); omega)
    have hcp := f_Cmp (false, dd.2.1, dd.2.2) (redN false 1 (2 * 10 ^ d))
    have hle := hnear dd rfl (validF_VF hvd) hVH
    generalize cmpF (false, dd.2.1, dd.2.2) (redN false 1 (2 * 10 ^ d)) = q at *
    generalize redN false 1 (2 * 10 ^ d) = H at *
    generalize redN false n (10 ^ d) = Y at *
    have hnz : neg = true → n ≠ 0 := fun h => by
      rw [h, Bool.and_eq_true] at hng
      simpa using hng.2
    refine walk (hQ := ?_)
    refine W_ifb (ht := fun hg => ?_) (hf := fun hg => ?_)
    case' refine_1 =>
      subst hg
      have hn0 := hnz rfl
      have hlt : decide (-(n : Int) < 0) = true := decide_eq_true (by omega)
      refine walk (hQ := ?_)
      rw [show max (-(n : Int)) (- -(n : Int)) = n by omega]
    case' refine_2 =>
      subst hg
      have hlt : decide ((n : Int) < 0) = false := decide_eq_false (by omega)
      refine walk (hQ := ?_)
      rw [show max (n : Int) (-(n : Int)) = n by omega]
    all_goals
      refine R_call hof (hK := ?_)
      refine walk (hQ := ?_)
      refine R_call hoP (hK := ?_)
      refine walk (hQ := ?_)
      refine R_call hnew (hK := ?_)
      refine walk (hQ := ?_)
      rw [hlt]
      refine R_call hsub (hK := ?_)
      refine walk (hQ := ?_)
      refine R_call hhf (hK := ?_)
      refine walk (hQ := ?_)
      refine R_call hcp (hK := ?_)
      refine walk (hQ := ?_)
      rw [decide_eq_true hle]
      exact hR _ (ret1 (hp := rfl))
end Go.VS.YtiaijoomngefnaaGreatDoor
