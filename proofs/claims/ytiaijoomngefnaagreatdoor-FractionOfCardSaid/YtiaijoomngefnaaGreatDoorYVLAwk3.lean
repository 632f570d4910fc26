/- The examples of layer 3: plain laws. No condition. -/
import Derived.Test.YtiaijoomngefnaaGreatDoorYj
namespace Go.VN
open Go.RowKit Go.VL
set_option linter.unusedVariables false
theorem digs_small (n : Nat) (h0 : n ≠ 0) (h : n < 10000) : digs n = [(n : Int)] := by
  rw [digs_pos n h0, show n / 10000 = 0 by omega, digs_zero, Nat.mod_eq_of_lt h]
theorem ex3_of1 : ofF 6 (-4) = ((true, [3], [2]), 0) := by
  unfold ofF
  rw [if_neg (by decide), if_neg (by decide)]
  unfold redN
  rw [show (6 : Int).natAbs = 6 from rfl, show (-4 : Int).natAbs = 4 from rfl, show Nat.gcd 6 4 = 2 from rfl, show 6 / 2 = 3 from rfl, show 4 / 2 = 2 from rfl, digs_small 3 (by decide) (by decide), digs_small 2 (by decide) (by decide)]
  rfl
theorem ex3_of2 : ofF (-2) 3 = ((true, [2], [3]), 0) := by
  unfold ofF
  rw [if_neg (by decide), if_neg (by decide)]
  unfold redN
  rw [show (-2 : Int).natAbs = 2 from rfl, show (3 : Int).natAbs = 3 from rfl, show Nat.gcd 2 3 = 1 from rfl, show 2 / 1 = 2 from rfl, show 3 / 1 = 3 from rfl, digs_small 3 (by decide) (by decide), digs_small 2 (by decide) (by decide)]
  rfl
theorem ex3_valid1 : validF (true, [3], [2]) = true := by
  rw [validF_gcd (by decide) (by decide) (by decide) (by decide)]
  exact decide_eq_true rfl
theorem ex3_valid2 : validF (true, [2], [3]) = true := by
  rw [validF_gcd (by decide) (by decide) (by decide) (by decide)]
  exact decide_eq_true rfl
theorem ex3_fmt : fmtF (true, [3], [2]) = ([45, 51, 47, 50], 0) := by
  unfold fmtF
  rw [if_pos ex3_valid1]
  unfold fmtB
  simp [fmtL, Lib.itoa, Lib.decDigits]
theorem ex3_dec : decF (true, [2], [3]) 3 = ([45, 48, 46, 54, 54, 55], 0) := by
  unfold decF
  rw [if_pos ex3_valid2, if_neg (by decide)]
  have e1 : nm (true, [2], [3]) = 2 := rfl
  have e2 : dn (true, [2], [3]) = 3 := rfl
  rw [e1, e2, show (3 : Int).toNat = 3 from rfl]
  have f1 : fits (2 * 2 * 10 ^ 3 + 3) = true := by unfold fits; rw [digs_small _ (by decide) (by decide)]; rfl
  have f2 : fits (3 * 2) = true := by unfold fits; rw [digs_small _ (by decide) (by decide)]; rfl
  unfold decN
  rw [if_pos ⟨f1, f2⟩, show (2 * 2 * 10 ^ 3 + 3) / (3 * 2) = 667 from rfl]
  unfold decT
  rw [digs_small 667 (by decide) (by decide)]
  simp [fmtL, Lib.itoa, Lib.decDigits, padZ, dotS]
theorem ex3_parse : parseF [50, 47, 52] = (zF, 2) := by
  have h1 : parseL (fmtL [2]) = ([2], 0) := parse_fmt (by decide)
  have h2 : parseL (fmtL [4]) = ([4], 0) := parse_fmt (by decide)
  have e1 : fmtL [2] = [50] := by simp [fmtL, Lib.itoa, Lib.decDigits]
  have e2 : fmtL [4] = [52] := by simp [fmtL, Lib.itoa, Lib.decDigits]
  rw [e1] at h1
  rw [e2] at h2
  unfold parseF
  have c1 : cutL 47 (restS [50, 47, 52]) = [50] := rfl
  have c2 : denS (restS [50, 47, 52]) = [52] := rfl
  have c3 : outS [50, 47, 52] = (false, [2], [4]) := by
    unfold outS
    rw [c1, c2, h1, h2]; rfl
  have hv : validF (false, [2], [4]) = false := by
    rw [validF_gcd (by decide) (by decide) (by decide) (by decide)]
    exact decide_eq_false (by decide)
  rw [c1, c2, c3, h1, h2]
  unfold fmtF
  rw [hv]
  simp
theorem ex3_cmp : cmpF (true, [3], [2]) (true, [2], [3]) = -1 := by
  unfold cmpF
  rw [if_pos ⟨ex3_valid1, ex3_valid2⟩]
  decide
end Go.VN
