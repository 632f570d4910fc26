/- Contracts over whole values, and what they lean on: part h. Each holds under the conditions that it states. -/
import Derived.Test.YtiaijoomngefnaaGreatDoorYg
import Derived.Lib.Repeat
import Derived.KernelRfl
import Derived.Lib.LaidTab
import Derived.Lib.ItoaNum
import Derived.Test.YtiaijoomngefnaaGreatDoorChecked
import Derived.WalkKit
import Derived.ProofKit
import Derived.OpenShut
import Derived.ShutString
import Derived.ChangeOld
import Derived.Below
import Derived.SizedLaws
import Derived.Lay
import Derived.LaidOnce
import Derived.SevenTiedAt
import Derived.Lib.LaidU8
import Derived.Shelf.Strconv.AtoiAll
import Derived.Shelf.Strconv.Itoa3
import Derived.Shelf.Strings.Repeat
import Derived.Shelf.Strings.Search2
import Derived.Shelf.Strings.Trim
import Derived.Test.YtiaijoomngefnaaGreatDoorProg
import Derived.Shelf.Lays
import Derived.Shelf.LaysM
import Derived.Shelf.LaysC
import Derived.Shelf.Strings.SlTrimAscii
set_option linter.unusedVariables false
set_option linter.unusedSimpArgs false

namespace Go.VN
open Go.RowKit Go.VL
set_option linter.unusedVariables false
def mulS (n : Nat) : List Int × Int := if fits n = true then (digs n, 0) else ([], 3)
theorem fits_mono {a b : Nat} (h : a ≤ b) (hb : fits b = true) : fits a = true := by
  unfold fits at hb ⊢
  simp only [decide_eq_true_eq] at hb ⊢
  exact Nat.le_trans (len_of_lt h) hb
def scN (m n d : Nat) : List Int × Int := if fits (m * 2 * 10 ^ d + n) = true ∧ fits (n * 2) = true then (digs ((m * 2 * 10 ^ d + n) / (n * 2)), 0) else ([], 3)
def padZ (d : Nat) (s : List UInt8) : List UInt8 := List.replicate (d + 1 - s.length) 48 ++ s
def dotS (d : Nat) (s : List UInt8) : List UInt8 := if d = 0 then s else s.take (s.length - d) ++ [46] ++ s.drop (s.length - d)
def decT (neg : Bool) (N d : Nat) : List UInt8 := (if (neg && !decide (N = 0)) = true then [45] else []) ++ dotS d (padZ d (fmtL (digs N)))
def decN (s : Bool) (m n d : Nat) : List UInt8 × Int := if fits (m * 2 * 10 ^ d + n) = true ∧ fits (n * 2) = true then (decT s ((m * 2 * 10 ^ d + n) / (n * 2)) d, 0) else ([], 3)
def decF (f : FrN) (d : Int) : List UInt8 × Int := if validF f = true then (if d < 0 ∨ d > 20 then ([], 6) else decN f.1 (nm f) (dn f) d.toNat) else ([], 1)
theorem repeat_rep (c : UInt8) : ∀ k, Lib.repeatL [c] k = List.replicate k c
  | 0 => rfl
  | k + 1 => by rw [Lib.repeatL, repeat_rep c k]; rfl
theorem padZ_len (d : Nat) (s : List UInt8) : d < (padZ d s).length := by
  unfold padZ
  rw [List.length_append, List.length_replicate]
  omega
theorem padZ_len2 (d : Nat) (s : List UInt8) : (padZ d s).length ≤ d + 1 + s.length := by
  unfold padZ
  rw [List.length_append, List.length_replicate]
  omega
theorem padZ_no {d : Nat} {s : List UInt8} (h : d < s.length) : padZ d s = s := by
  unfold padZ
  rw [show d + 1 - s.length = 0 by omega]
  rfl
/-! ### Orders -/
def sg (f : FrN) : Int := if f.1 = true then -(nm f : Int) else nm f
def cmpF (f g : FrN) : Int := if validF f = true ∧ validF g = true then sgn (sg f * dn g) (sg g * dn f) else 0
theorem sgn_lt {x y : Int} (h : x < y) : sgn x y = -1 := by unfold sgn; rw [if_pos h]
theorem sgn_gt {x y : Int} (h : y < x) : sgn x y = 1 := by unfold sgn; rw [if_neg (by omega), if_pos h]
theorem sgn_eq {x y : Int} (h : x = y) : sgn x y = 0 := by unfold sgn; rw [if_neg (by omega), if_neg (by omega)]
theorem sgn_swap (x y : Int) : sgn y x = - sgn x y := by
  rcases Int.lt_trichotomy x y with h | h | h
  · rw [sgn_lt h, sgn_gt h]; rfl
  · rw [sgn_eq h, sgn_eq h.symm]; rfl
  · rw [sgn_gt h, sgn_lt h]
theorem sgn_neg' (x y : Int) : sgn (-x) (-y) = - sgn x y := by
  rcases Int.lt_trichotomy x y with h | h | h
  · rw [sgn_lt h, sgn_gt (by omega)]; rfl
  · rw [sgn_eq h, sgn_eq (by omega)]; rfl
  · rw [sgn_gt h, sgn_lt (by omega)]
/-- The order of fractions, by their whole parts and then by what remains, turned over. -/
def ordN : Nat → Nat → Nat → Nat → Nat → Int
  | 0, _, _, _, _ => 0
  | k + 1, p, q, r, s => if sgn (p / q : Nat) (r / s : Nat) ≠ 0 then sgn (p / q : Nat) (r / s : Nat) else if p % q = 0 ∨ r % s = 0 then sgn (p % q : Nat) (r % s : Nat) else ordN k s (r % s) q (p % q)
theorem ordN_eq : ∀ (k p q r s : Nat), 0 < q → 0 < s → q + s ≤ k → ordN k p q r s = sgn (p * s : Nat) (r * q : Nat)
  | 0, _, _, _, _, hq, _, hk => by omega
  | k + 1, p, q, r, s, hq, hs, hk => by
    have e1 := Nat.div_add_mod p q
    have e2 := Nat.div_add_mod r s
    have l1 := Nat.mod_lt p hq
    have l2 := Nat.mod_lt r hs
    rw [ordN]
    generalize ha : p / q = a at *
    generalize hx : p % q = x at *
    generalize hb : r / s = b at *
    generalize hy : r % s = y at *
    have hps : p * s = q * s * a + x * s := by rw [← e1, Nat.add_mul]; congr 1; rw [Nat.mul_right_comm]
    have hrq : r * q = q * s * b + y * q := by rw [← e2, Nat.add_mul]; congr 1; rw [Nat.mul_right_comm, Nat.mul_comm s q]
    have hxs : x * s < q * s := Nat.mul_lt_mul_of_pos_right l1 hs
    have hyq : y * q < q * s := by rw [Nat.mul_comm q s]; exact Nat.mul_lt_mul_of_pos_right l2 hq
    rcases Nat.lt_trichotomy a b with h | h | h
    · have h3 : q * s * (a + 1) ≤ q * s * b := Nat.mul_le_mul_left _ h
      rw [Nat.mul_add, Nat.mul_one] at h3
      rw [sgn_lt (show (a : Int) < b by omega), if_pos (by decide), sgn_lt (by omega)]
    · subst h
      rw [sgn_eq rfl, if_neg (by simp)]
      by_cases h0 : x = 0 ∨ y = 0
      · rw [if_pos h0]
        rcases h0 with h0 | h0
        · subst h0
          rcases Nat.eq_zero_or_pos y with h4 | h4
          · subst h4; rw [sgn_eq rfl, sgn_eq (by omega)]
          · have : 0 < y * q := Nat.mul_pos h4 hq
            rw [sgn_lt (by omega), sgn_lt (by omega)]
        · subst h0
          rcases Nat.eq_zero_or_pos x with h4 | h4
          · subst h4; rw [sgn_eq rfl, sgn_eq (by omega)]
          · have : 0 < x * s := Nat.mul_pos h4 hs
            rw [sgn_gt (by omega), sgn_gt (by omega)]
      · rw [if_neg h0, not_or] at *
        rw [ordN_eq k s y q x (by omega) (by omega) (by omega)]
        rcases Nat.lt_trichotomy (s * x) (q * y) with h5 | h5 | h5
        · rw [sgn_lt (by omega), sgn_lt (by rw [hps, hrq, Nat.mul_comm x s, Nat.mul_comm y q]; omega)]
        · rw [sgn_eq (by omega), sgn_eq (by rw [hps, hrq, Nat.mul_comm x s, Nat.mul_comm y q]; omega)]
        · rw [sgn_gt (by omega), sgn_gt (by rw [hps, hrq, Nat.mul_comm x s, Nat.mul_comm y q]; omega)]
    · have h3 : q * s * (b + 1) ≤ q * s * a := Nat.mul_le_mul_left _ h
      rw [Nat.mul_add, Nat.mul_one] at h3
      rw [sgn_gt (show (b : Int) < a by omega), if_pos (by decide), sgn_gt (by omega)]
def sgF (s : Bool) (m : Nat) : Int := if s = true then -1 else if m = 0 then 0 else 1
def sgI (s : Bool) (m : Nat) : Int := if s = true then -(m : Int) else m
theorem cmp_math {s t : Bool} {m n p q : Nat} (hn : 0 < n) (hq : 0 < q) (hs : m = 0 → s = false) (ht : p = 0 → t = false) :
    (sgF s m < sgF t p → sgn (sgI s m * q) (sgI t p * n) = -1) ∧ (sgF t p < sgF s m → sgn (sgI s m * q) (sgI t p * n) = 1) ∧
    (sgF s m = sgF t p → sgn (sgI s m * q) (sgI t p * n) = if s = true then - sgn (m * q : Nat) (p * n : Nat) else sgn (m * q : Nat) (p * n : Nat)) ∧
    (s = true → t = false → sgn (sgI s m * q) (sgI t p * n) = -1) ∧ (s = false → t = true → sgn (sgI s m * q) (sgI t p * n) = 1) ∧
    (s = true → t = true → sgn (sgI s m * q) (sgI t p * n) = sgn (p * n : Nat) (m * q : Nat)) := by
  have hA : m ≠ 0 → 0 < m * q := fun h => Nat.mul_pos (Nat.pos_of_ne_zero h) hq
  have hB : p ≠ 0 → 0 < p * n := fun h => Nat.mul_pos (Nat.pos_of_ne_zero h) hn
  have zA : m = 0 → m * q = 0 := fun h => by rw [h, Nat.zero_mul]
  have zB : p = 0 → p * n = 0 := fun h => by rw [h, Nat.zero_mul]
  have eA : sgI s m * q = if s = true then -((m * q : Nat) : Int) else ((m * q : Nat) : Int) := by
    unfold sgI; cases s <;> simp [Int.neg_mul]
  have eB : sgI t p * n = if t = true then -((p * n : Nat) : Int) else ((p * n : Nat) : Int) := by
    unfold sgI; cases t <;> simp [Int.neg_mul]
  rw [eA, eB]
  generalize m * q = A at *
  generalize p * n = B at *
  have hs' : s = true → 0 < A := fun h => hA fun h0 => by rw [hs h0] at h; cases h
  have ht' : t = true → 0 < B := fun h => hB fun h0 => by rw [ht h0] at h; cases h
  unfold sgF
  cases s <;> cases t
  · simp only [Bool.false_eq_true, if_false, false_implies, true_implies, reduceCtorEq, and_true]
    refine ⟨fun h => ?_, fun h => ?_, fun _ => trivial⟩
    · by_cases h1 : m = 0 <;> by_cases h2 : p = 0 <;> simp [h1, h2] at h
      have := zA h1; have := hB h2
      exact sgn_lt (by omega)
    · by_cases h1 : m = 0 <;> by_cases h2 : p = 0 <;> simp [h1, h2] at h
      have := hA h1; have := zB h2
      exact sgn_gt (by omega)
  · have hb := ht' rfl
    simp only [Bool.false_eq_true, if_false, if_true, false_implies, true_implies, reduceCtorEq, and_true, true_and]
    refine ⟨fun h => ?_, fun h => sgn_gt (by omega), fun h => ?_, sgn_gt (by omega)⟩ <;> by_cases h1 : m = 0 <;> simp [h1] at h
  · have ha := hs' rfl
    simp only [Bool.false_eq_true, if_false, if_true, false_implies, true_implies, reduceCtorEq, and_true, true_and]
    refine ⟨fun h => sgn_lt (by omega), fun h => ?_, fun h => ?_, sgn_lt (by omega)⟩ <;> by_cases h2 : p = 0 <;> simp [h2] at h
  · simp only [if_true, false_implies, true_implies, reduceCtorEq, true_and]
    refine ⟨fun h => absurd h (by decide), fun h => absurd h (by decide), sgn_neg' _ _, ?_⟩
    rw [sgn_neg', ← sgn_swap]
theorem cmpF_N {s t : Bool} {m n p q : Nat} (hf : VF (s, digs m, digs n)) (hg : VF (t, digs p, digs q)) : cmpF (s, digs m, digs n) (t, digs p, digs q) = sgn (sgI s m * q) (sgI t p * n) := by
  unfold cmpF sg sgI
  rw [if_pos ⟨hf.valid, hg.valid⟩, nm_mk, nm_mk, dn_mk, dn_mk]
/-! ### Sums -/
def foldF : FrN → List FrN → FrN × Int
  | out, [] => (out, 0)
  | out, f :: l => if (addF out f).2 ≠ 0 then (zF, (addF out f).2) else foldF (addF out f).1 l
theorem foldF_cons (out : FrN) (l : List FrN) (i : Nat) (h : i < l.length) : foldF out (l.drop i) = if (addF out l[i]).2 ≠ 0 then (zF, (addF out l[i]).2) else foldF (addF out l[i]).1 (l.drop (i + 1)) := by
  rw [List.drop_eq_getElem_cons h, foldF]
def sumF (l : List FrN) : FrN × Int := if (l.all validF) = true then foldF (false, [], [1]) l else (zF, 1)
end Go.VN


namespace Go.VS.YtiaijoomngefnaaGreatDoor
open Go Go.VL Go.RowKit Go.Proofs
set_option maxRecDepth 100000
def GL (w : World) : Prop := 4 ≤ w.heap.size ∧ Lib.TabIs Tryz.prog w "internal/strconv.uint64pow10" .u64 Lib.pow10Tab
theorem gPow : Tryz.prog.globalNamed "internal/strconv.uint64pow10" = some 3 := by kernel_rfl
theorem GL.keep {w w' : World} {m : Nat → Prop} (h : GL w) (hm : ∀ b, m b → 4 ≤ b) (hb : BelowM m w w') : GL w' := by
  obtain ⟨h0, h1⟩ := h
  refine ⟨Nat.le_trans h0 hb.size, ?_⟩
  unfold Lib.TabIs World.var? at *
  simp only [gPow, Option.bind_some] at h1 ⊢
  rw [hb.block 3 (by omega) (fun h => by have := hm _ h; omega)]
  exact h1
noncomputable def X : Ctx := ⟨Tryz.prog, GL, 4, fun _ h => h.1, fun _ _ _ h hm hb => h.keep hm hb, Checked.mixed Tryz.checked⟩
instance t0 : TInf X 0 (.mk (.tuple (.mk [])) 1 0 (.some (.tuple (.mk [])))) := ⟨by kernel_rfl⟩
instance t1 : TInf X 1 (.mk (.func (.mk []) (.mk []) false) 1 8 (.some .nilFunc)) := ⟨by kernel_rfl⟩
instance t2 : TInf X 2 (.mk (.int .i64) 1 8 (.some (.int .i64 (0)))) := ⟨by kernel_rfl⟩
instance t3 : TInf X 3 (.mk (.int .i64) 1 8 (.some (.int .i64 (0)))) := ⟨by kernel_rfl⟩
instance t4 : TInf X 4 (.mk .bool 1 1 (.some (.bool false))) := ⟨by kernel_rfl⟩
instance t5 : TInf X 5 (.mk (.int .u8) 1 1 (.some (.int .u8 (0)))) := ⟨by kernel_rfl⟩
instance t6 : TInf X 6 (.mk (.int .u8) 1 1 (.some (.int .u8 (0)))) := ⟨by kernel_rfl⟩
instance t7 : TInf X 7 (.mk (.struct (.mk [.mk "x" 2 0 false "" "runtime" 0, .mk "y" 3 1 false "" "runtime" 8, .mk "signed" 4 2 false "" "runtime" 16, .mk "code" 6 3 false "" "runtime" 17])) 4 24 (.some (.agg (.mk [.int .i64 (0), .int .i64 (0), .bool false, .int .u8 (0)])))) := ⟨by kernel_rfl⟩
instance t8 : TInf X 8 (.mk (.struct (.mk [.mk "x" 2 0 false "" "runtime" 0, .mk "y" 3 1 false "" "runtime" 8, .mk "signed" 4 2 false "" "runtime" 16, .mk "code" 6 3 false "" "runtime" 17])) 4 24 (.some (.agg (.mk [.int .i64 (0), .int .i64 (0), .bool false, .int .u8 (0)])))) := ⟨by kernel_rfl⟩
instance t9 : TInf X 9 (.mk .string 1 16 (.some (.string (.mk (.mk []))))) := ⟨by kernel_rfl⟩
instance t10 : TInf X 10 (.mk .string 1 16 (.some (.string (.mk (.mk []))))) := ⟨by kernel_rfl⟩
instance t11 : TInf X 11 (.mk .string 1 16 (.some (.string (.mk (.mk []))))) := ⟨by kernel_rfl⟩
instance t12 : TInf X 12 (.mk (.int .u64) 1 8 (.some (.int .u64 (0)))) := ⟨by kernel_rfl⟩
instance t13 : TInf X 13 (.mk (.struct (.mk [.mk "msg" 9 0 false "" "runtime" 0, .mk "addr" 12 1 false "" "runtime" 16])) 2 24 (.some (.agg (.mk [.string (.mk (.mk [])), .int .u64 (0)])))) := ⟨by kernel_rfl⟩
instance t14 : TInf X 14 (.mk (.struct (.mk [.mk "msg" 9 0 false "" "runtime" 0, .mk "addr" 12 1 false "" "runtime" 16])) 2 24 (.some (.agg (.mk [.string (.mk (.mk [])), .int .u64 (0)])))) := ⟨by kernel_rfl⟩
instance t15 : TInf X 15 (.mk (.pointer 178) 1 8 (.some (.pointer .none))) := ⟨by kernel_rfl⟩
instance t16 : TInf X 16 (.mk (.pointer 181) 1 8 (.some (.pointer .none))) := ⟨by kernel_rfl⟩
instance t17 : TInf X 17 (.mk (.pointer 188) 1 8 (.some (.pointer .none))) := ⟨by kernel_rfl⟩
instance t18 : TInf X 18 (.mk (.struct (.mk [.mk "typ" 17 0 false "" "internal/runtime/maps" 0])) 1 8 (.some (.agg (.mk [.pointer .none])))) := ⟨by kernel_rfl⟩
instance t19 : TInf X 19 (.mk (.struct (.mk [.mk "typ" 17 0 false "" "internal/runtime/maps" 0])) 1 8 (.some (.agg (.mk [.pointer .none])))) := ⟨by kernel_rfl⟩
instance t20 : TInf X 20 (.mk (.interface (.mk [])) 1 16 (.some .nilIface)) := ⟨by kernel_rfl⟩
instance t21 : TInf X 21 (.mk (.int .i32) 1 4 (.some (.int .i32 (0)))) := ⟨by kernel_rfl⟩
instance t22 : TInf X 22 (.mk (.slice 3) 1 24 (.some (.slice .none 0 0))) := ⟨by kernel_rfl⟩
instance t23 : TInf X 23 (.mk (.struct (.mk [.mk "Digits" 22 0 false "" "" 0])) 1 24 (.some (.agg (.mk [.slice .none 0 0])))) := ⟨by kernel_rfl⟩
instance t24 : TInf X 24 (.mk (.struct (.mk [.mk "Digits" 22 0 false "" "" 0])) 1 24 (.some (.agg (.mk [.slice .none 0 0])))) := ⟨by kernel_rfl⟩
instance t25 : TInf X 25 (.mk (.struct (.mk [.mk "Negative" 4 0 false "" "" 0, .mk "Num" 24 1 false "" "" 8, .mk "Den" 24 2 false "" "" 32])) 3 56 (.some (.agg (.mk [.bool false, .slice .none 0 0, .slice .none 0 0])))) := ⟨by kernel_rfl⟩
instance t26 : TInf X 26 (.mk (.struct (.mk [.mk "Negative" 4 0 false "" "" 0, .mk "Num" 24 1 false "" "" 8, .mk "Den" 24 2 false "" "" 32])) 3 56 (.some (.agg (.mk [.bool false, .slice .none 0 0, .slice .none 0 0])))) := ⟨by kernel_rfl⟩
instance t27 : TInf X 27 (.mk (.func (.mk []) (.mk [4]) false) 1 8 (.some .nilFunc)) := ⟨by kernel_rfl⟩
instance t28 : TInf X 28 (.mk (.func (.mk [29, 3]) (.mk [4]) false) 1 8 (.some .nilFunc)) := ⟨by kernel_rfl⟩
instance t29 : TInf X 29 (.mk (.slice 26) 1 24 (.some (.slice .none 0 0))) := ⟨by kernel_rfl⟩
instance t30 : TInf X 30 (.mk (.int .i64) 1 8 (.some (.int .i64 (0)))) := ⟨by kernel_rfl⟩
instance t31 : TInf X 31 (.mk (.tuple (.mk [9, 30])) 1 0 (.some (.tuple (.mk [.string (.mk (.mk [])), .int .i64 (0)])))) := ⟨by kernel_rfl⟩
instance t32 : TInf X 32 (.mk (.func (.mk [26]) (.mk [9, 30]) false) 1 8 (.some .nilFunc)) := ⟨by kernel_rfl⟩
instance t33 : TInf X 33 (.mk (.func (.mk [26]) (.mk [4]) false) 1 8 (.some .nilFunc)) := ⟨by kernel_rfl⟩
instance t34 : TInf X 34 (.mk (.tuple (.mk [26, 30])) 1 0 (.some (.tuple (.mk [.agg (.mk [.bool false, .slice .none 0 0, .slice .none 0 0]), .int .i64 (0)])))) := ⟨by kernel_rfl⟩
instance t35 : TInf X 35 (.mk (.func (.mk [9]) (.mk [26, 30]) false) 1 8 (.some .nilFunc)) := ⟨by kernel_rfl⟩
instance t36 : TInf X 36 (.mk (.func (.mk [26, 26]) (.mk [4]) false) 1 8 (.some .nilFunc)) := ⟨by kernel_rfl⟩
instance t37 : TInf X 37 (.mk (.func (.mk [9]) (.mk [4]) false) 1 8 (.some .nilFunc)) := ⟨by kernel_rfl⟩
instance t38 : TInf X 38 (.mk (.func (.mk [26, 3]) (.mk [9, 30]) false) 1 8 (.some .nilFunc)) := ⟨by kernel_rfl⟩
instance t39 : TInf X 39 (.mk (.func (.mk [26, 3]) (.mk [4]) false) 1 8 (.some .nilFunc)) := ⟨by kernel_rfl⟩
instance t40 : TInf X 40 (.mk (.array 2 24) 2 48 (.some (.agg (.mk [.slice .none 0 0, .slice .none 0 0])))) := ⟨by kernel_rfl⟩
instance t41 : TInf X 41 (.mk (.func (.mk [42, 3]) (.mk [4]) false) 1 8 (.some .nilFunc)) := ⟨by kernel_rfl⟩
instance t42 : TInf X 42 (.mk (.slice 24) 1 24 (.some (.slice .none 0 0))) := ⟨by kernel_rfl⟩
instance t43 : TInf X 43 (.mk (.func (.mk [3, 3]) (.mk [26, 30]) false) 1 8 (.some .nilFunc)) := ⟨by kernel_rfl⟩
instance t44 : TInf X 44 (.mk (.func (.mk [24, 24]) (.mk [26, 30]) false) 1 8 (.some .nilFunc)) := ⟨by kernel_rfl⟩
instance t45 : TInf X 45 (.mk (.func (.mk [3, 3, 40]) (.mk [4]) false) 1 8 (.some .nilFunc)) := ⟨by kernel_rfl⟩
instance t46 : TInf X 46 (.mk (.func (.mk [26, 26]) (.mk [3]) false) 1 8 (.some .nilFunc)) := ⟨by kernel_rfl⟩
instance t47 : TInf X 47 (.mk (.func (.mk [26, 26]) (.mk [26, 30]) false) 1 8 (.some .nilFunc)) := ⟨by kernel_rfl⟩
instance t48 : TInf X 48 (.mk (.func (.mk []) (.mk [26]) false) 1 8 (.some .nilFunc)) := ⟨by kernel_rfl⟩
instance t49 : TInf X 49 (.mk (.func (.mk [26, 26, 26]) (.mk [4]) false) 1 8 (.some .nilFunc)) := ⟨by kernel_rfl⟩
instance t50 : TInf X 50 (.mk (.int .i16) 1 2 (.some (.int .i16 (0)))) := ⟨by kernel_rfl⟩
instance t51 : TInf X 51 (.mk (.struct (.mk [.mk "Num" 50 0 false "" "" 0, .mk "Den" 5 1 false "" "" 2])) 2 4 (.some (.agg (.mk [.int .i16 (0), .int .u8 (0)])))) := ⟨by kernel_rfl⟩
instance t52 : TInf X 52 (.mk (.struct (.mk [.mk "Num" 50 0 false "" "" 0, .mk "Den" 5 1 false "" "" 2])) 2 4 (.some (.agg (.mk [.int .i16 (0), .int .u8 (0)])))) := ⟨by kernel_rfl⟩
instance t53 : TInf X 53 (.mk (.func (.mk [50, 5]) (.mk [26]) false) 1 8 (.some .nilFunc)) := ⟨by kernel_rfl⟩
instance t54 : TInf X 54 (.mk (.slice 5) 1 24 (.some (.slice .none 0 0))) := ⟨by kernel_rfl⟩
instance t55 : TInf X 55 (.mk (.tuple (.mk [24, 30])) 1 0 (.some (.tuple (.mk [.agg (.mk [.slice .none 0 0]), .int .i64 (0)])))) := ⟨by kernel_rfl⟩
instance t56 : TInf X 56 (.mk (.func (.mk [3]) (.mk [24, 30]) false) 1 8 (.some .nilFunc)) := ⟨by kernel_rfl⟩
instance t57 : TInf X 57 (.mk (.func (.mk [52, 5]) (.mk [4]) false) 1 8 (.some .nilFunc)) := ⟨by kernel_rfl⟩
instance t58 : TInf X 58 (.mk (.func (.mk [29]) (.mk [26, 30]) false) 1 8 (.some .nilFunc)) := ⟨by kernel_rfl⟩
instance t59 : TInf X 59 (.mk (.func (.mk [29]) (.mk [29]) false) 1 8 (.some .nilFunc)) := ⟨by kernel_rfl⟩
instance t60 : TInf X 60 (.mk (.func (.mk [29, 52]) (.mk [4]) false) 1 8 (.some .nilFunc)) := ⟨by kernel_rfl⟩
instance t61 : TInf X 61 (.mk (.func (.mk [47, 26, 26]) (.mk [26]) false) 1 8 (.some .nilFunc)) := ⟨by kernel_rfl⟩
instance t62 : TInf X 62 (.mk (.func (.mk [52, 52, 52]) (.mk [4]) false) 1 8 (.some .nilFunc)) := ⟨by kernel_rfl⟩
instance t63 : TInf X 63 (.mk (.func (.mk [24]) (.mk [9, 30]) false) 1 8 (.some .nilFunc)) := ⟨by kernel_rfl⟩
instance t64 : TInf X 64 (.mk (.func (.mk [24, 24]) (.mk [4]) false) 1 8 (.some .nilFunc)) := ⟨by kernel_rfl⟩
instance t65 : TInf X 65 (.mk (.func (.mk [3]) (.mk [24]) false) 1 8 (.some .nilFunc)) := ⟨by kernel_rfl⟩
instance t66 : TInf X 66 (.mk (.func (.mk [24]) (.mk [4]) false) 1 8 (.some .nilFunc)) := ⟨by kernel_rfl⟩
instance t67 : TInf X 67 (.mk (.func (.mk [24, 24]) (.mk [24, 30]) false) 1 8 (.some .nilFunc)) := ⟨by kernel_rfl⟩
instance t68 : TInf X 68 (.mk (.func (.mk [24, 24]) (.mk [3]) false) 1 8 (.some .nilFunc)) := ⟨by kernel_rfl⟩
instance t69 : TInf X 69 (.mk (.tuple (.mk [9, 4])) 1 0 (.some (.tuple (.mk [.string (.mk (.mk [])), .bool false])))) := ⟨by kernel_rfl⟩
instance t70 : TInf X 70 (.mk (.func (.mk [9, 9]) (.mk [9, 4]) false) 1 8 (.some .nilFunc)) := ⟨by kernel_rfl⟩
instance t71 : TInf X 71 (.mk (.tuple (.mk [9, 9, 4])) 1 0 (.some (.tuple (.mk [.string (.mk (.mk [])), .string (.mk (.mk [])), .bool false])))) := ⟨by kernel_rfl⟩
instance t72 : TInf X 72 (.mk (.func (.mk [9, 9]) (.mk [9, 9, 4]) false) 1 8 (.some .nilFunc)) := ⟨by kernel_rfl⟩
instance t73 : TInf X 73 (.mk (.func (.mk [9]) (.mk [24, 30]) false) 1 8 (.some .nilFunc)) := ⟨by kernel_rfl⟩
instance t74 : TInf X 74 (.mk (.func (.mk [26, 3]) (.mk [24, 30]) false) 1 8 (.some .nilFunc)) := ⟨by kernel_rfl⟩
instance t75 : TInf X 75 (.mk (.func (.mk [9, 3]) (.mk [9]) false) 1 8 (.some .nilFunc)) := ⟨by kernel_rfl⟩
instance t76 : TInf X 76 (.mk (.tuple (.mk [24, 24, 30])) 1 0 (.some (.tuple (.mk [.agg (.mk [.slice .none 0 0]), .agg (.mk [.slice .none 0 0]), .int .i64 (0)])))) := ⟨by kernel_rfl⟩
instance t77 : TInf X 77 (.mk (.func (.mk [24, 24]) (.mk [24, 24, 30]) false) 1 8 (.some .nilFunc)) := ⟨by kernel_rfl⟩
instance t78 : TInf X 78 (.mk (.func (.mk [4, 24, 24]) (.mk [26]) false) 1 8 (.some .nilFunc)) := ⟨by kernel_rfl⟩
instance t79 : TInf X 79 (.mk (.func (.mk [26]) (.mk [3]) false) 1 8 (.some .nilFunc)) := ⟨by kernel_rfl⟩
instance t80 : TInf X 80 (.mk (.func (.mk [24, 24]) (.mk [24]) false) 1 8 (.some .nilFunc)) := ⟨by kernel_rfl⟩
instance t81 : TInf X 81 (.mk (.func (.mk [24, 24, 24, 24]) (.mk [3]) false) 1 8 (.some .nilFunc)) := ⟨by kernel_rfl⟩
instance t82 : TInf X 82 (.mk (.func (.mk [26]) (.mk [26]) false) 1 8 (.some .nilFunc)) := ⟨by kernel_rfl⟩
instance t83 : TInf X 83 (.mk (.tuple (.mk [42, 30])) 1 0 (.some (.tuple (.mk [.slice .none 0 0, .int .i64 (0)])))) := ⟨by kernel_rfl⟩
instance t84 : TInf X 84 (.mk (.func (.mk [112]) (.mk [42, 30]) true) 1 8 (.some .nilFunc)) := ⟨by kernel_rfl⟩
instance t85 : TInf X 85 (.mk (.func (.mk [24, 24, 24, 24]) (.mk [24, 24, 30]) false) 1 8 (.some .nilFunc)) := ⟨by kernel_rfl⟩
instance t86 : TInf X 86 (.mk (.pointer 88) 1 8 (.some (.pointer .none))) := ⟨by kernel_rfl⟩
instance t87 : TInf X 87 (.mk (.struct (.mk [.mk "addr" 86 0 false "" "strings" 0, .mk "buf" 54 1 false "" "strings" 8])) 2 32 (.some (.agg (.mk [.pointer .none, .slice .none 0 0])))) := ⟨by kernel_rfl⟩
instance t88 : TInf X 88 (.mk (.struct (.mk [.mk "addr" 86 0 false "" "strings" 0, .mk "buf" 54 1 false "" "strings" 8])) 2 32 (.some (.agg (.mk [.pointer .none, .slice .none 0 0])))) := ⟨by kernel_rfl⟩
instance t89 : TInf X 89 (.mk (.interface (.mk [("Error", 94)])) 1 16 (.some .nilIface)) := ⟨by kernel_rfl⟩
instance t90 : TInf X 90 (.mk (.interface (.mk [("Error", 94)])) 1 16 (.some .nilIface)) := ⟨by kernel_rfl⟩
instance t91 : TInf X 91 (.mk (.tuple (.mk [3, 90])) 1 0 (.some (.tuple (.mk [.int .i64 (0), .nilIface])))) := ⟨by kernel_rfl⟩
instance t92 : TInf X 92 (.mk (.func (.mk [9]) (.mk [3, 90]) false) 1 8 (.some .nilFunc)) := ⟨by kernel_rfl⟩
instance t93 : TInf X 93 (.mk (.func (.mk [3]) (.mk [9]) false) 1 8 (.some .nilFunc)) := ⟨by kernel_rfl⟩
instance t94 : TInf X 94 (.mk (.func (.mk []) (.mk [9]) false) 1 8 (.some .nilFunc)) := ⟨by kernel_rfl⟩
instance t95 : TInf X 95 (.mk (.func (.mk [22, 96]) (.mk [4]) false) 1 8 (.some .nilFunc)) := ⟨by kernel_rfl⟩
instance t96 : TInf X 96 (.mk (.func (.mk [3]) (.mk [4]) false) 1 8 (.some .nilFunc)) := ⟨by kernel_rfl⟩
instance t97 : TInf X 97 (.mk (.func (.mk [22]) (.mk [22]) false) 1 8 (.some .nilFunc)) := ⟨by kernel_rfl⟩
instance t98 : TInf X 98 (.mk (.tuple (.mk [22, 22])) 1 0 (.some (.tuple (.mk [.slice .none 0 0, .slice .none 0 0])))) := ⟨by kernel_rfl⟩
instance t99 : TInf X 99 (.mk (.func (.mk [22, 22]) (.mk [22, 22]) false) 1 8 (.some .nilFunc)) := ⟨by kernel_rfl⟩
instance t100 : TInf X 100 (.mk (.func (.mk [22]) (.mk [24]) false) 1 8 (.some .nilFunc)) := ⟨by kernel_rfl⟩
instance t101 : TInf X 101 (.mk (.func (.mk [22, 22]) (.mk [3]) false) 1 8 (.some .nilFunc)) := ⟨by kernel_rfl⟩
instance t102 : TInf X 102 (.mk (.func (.mk [22]) (.mk [4]) false) 1 8 (.some .nilFunc)) := ⟨by kernel_rfl⟩
instance t103 : TInf X 103 (.mk (.func (.mk [22, 22]) (.mk [22]) false) 1 8 (.some .nilFunc)) := ⟨by kernel_rfl⟩
instance t104 : TInf X 104 (.mk (.func (.mk [9, 9]) (.mk [9]) false) 1 8 (.some .nilFunc)) := ⟨by kernel_rfl⟩
instance t105 : TInf X 105 (.mk (.int .u64) 1 8 (.some (.int .u64 (0)))) := ⟨by kernel_rfl⟩
instance t106 : TInf X 106 (.mk (.tuple (.mk [105, 105])) 1 0 (.some (.tuple (.mk [.int .u64 (0), .int .u64 (0)])))) := ⟨by kernel_rfl⟩
instance t107 : TInf X 107 (.mk (.func (.mk [105, 105]) (.mk [105, 105]) false) 1 8 (.some .nilFunc)) := ⟨by kernel_rfl⟩
instance t108 : TInf X 108 (.mk (.func (.mk [9, 9]) (.mk [4]) false) 1 8 (.some .nilFunc)) := ⟨by kernel_rfl⟩
instance t109 : TInf X 109 (.mk (.func (.mk [3]) (.mk []) false) 1 8 (.some .nilFunc)) := ⟨by kernel_rfl⟩
instance t110 : TInf X 110 (.mk (.func (.mk []) (.mk [3]) false) 1 8 (.some .nilFunc)) := ⟨by kernel_rfl⟩
instance t111 : TInf X 111 (.mk (.func (.mk [22]) (.mk [24, 30]) false) 1 8 (.some .nilFunc)) := ⟨by kernel_rfl⟩
instance t112 : TInf X 112 (.mk (.slice 40) 1 24 (.some (.slice .none 0 0))) := ⟨by kernel_rfl⟩
instance t113 : TInf X 113 (.mk (.pointer 5) 1 8 (.some (.pointer .none))) := ⟨by kernel_rfl⟩
instance t114 : TInf X 114 (.mk (.func (.mk [22, 96]) (.mk [3]) false) 1 8 (.some .nilFunc)) := ⟨by kernel_rfl⟩
instance t115 : TInf X 115 (.mk (.func (.mk [22]) (.mk []) false) 1 8 (.some .nilFunc)) := ⟨by kernel_rfl⟩
instance t116 : TInf X 116 (.mk (.func (.mk [22, 3]) (.mk [3]) false) 1 8 (.some .nilFunc)) := ⟨by kernel_rfl⟩
instance t117 : TInf X 117 (.mk (.func (.mk [9, 9]) (.mk [3]) false) 1 8 (.some .nilFunc)) := ⟨by kernel_rfl⟩
instance t118 : TInf X 118 (.mk (.func (.mk [9, 5]) (.mk [9]) false) 1 8 (.some .nilFunc)) := ⟨by kernel_rfl⟩
instance t119 : TInf X 119 (.mk (.array 256 4) 256 256 (.some (.agg (.mk [.bool false, .bool false, .bool false, .bool false, .bool false, .bool false, .bool false, .bool false, .bool false, .bool false, .bool false, .bool false, .bool false, .bool false, .bool false, .bool false, .bool false, .bool false, .bool false, .bool false, .bool false, .bool false, .bool false, .bool false, .bool false, .bool false, .bool false, .bool false, .bool false, .bool false, .bool false, .bool false, .bool false, .bool false, .bool false, .bool false, .bool false, .bool false, .bool false, .bool false, .bool false, .bool false, .bool false, .bool false, .bool false, .bool false, .bool false, .bool false, .bool false, .bool false, .bool false, .bool false, .bool false, .bool false, .bool false, .bool false, .bool false, .bool false, .bool false, .bool false, .bool false, .bool false, .bool false, .bool false, .bool false, .bool false, .bool false, .bool false, .bool false, .bool false, .bool false, .bool false, .bool false, .bool false, .bool false, .bool false, .bool false, .bool false, .bool false, .bool false, .bool false, .bool false, .bool false, .bool false, .bool false, .bool false, .bool false, .bool false, .bool false, .bool false, .bool false, .bool false, .bool false, .bool false, .bool false, .bool false, .bool false, .bool false, .bool false, .bool false, .bool false, .bool false, .bool false, .bool false, .bool false, .bool false, .bool false, .bool false, .bool false, .bool false, .bool false, .bool false, .bool false, .bool false, .bool false, .bool false, .bool false, .bool false, .bool false, .bool false, .bool false, .bool false, .bool false, .bool false, .bool false, .bool false, .bool false, .bool false, .bool false, .bool false, .bool false, .bool false, .bool false, .bool false, .bool false, .bool false, .bool false, .bool false, .bool false, .bool false, .bool false, .bool false, .bool false, .bool false, .bool false, .bool false, .bool false, .bool false, .bool false, .bool false, .bool false, .bool false, .bool false, .bool false, .bool false, .bool false, .bool false, .bool false, .bool false, .bool false, .bool false, .bool false, .bool false, .bool false, .bool false, .bool false, .bool false, .bool false, .bool false, .bool false, .bool false, .bool false, .bool false, .bool false, .bool false, .bool false, .bool false, .bool false, .bool false, .bool false, .bool false, .bool false, .bool false, .bool false, .bool false, .bool false, .bool false, .bool false, .bool false, .bool false, .bool false, .bool false, .bool false, .bool false, .bool false, .bool false, .bool false, .bool false, .bool false, .bool false, .bool false, .bool false, .bool false, .bool false, .bool false, .bool false, .bool false, .bool false, .bool false, .bool false, .bool false, .bool false, .bool false, .bool false, .bool false, .bool false, .bool false, .bool false, .bool false, .bool false, .bool false, .bool false, .bool false, .bool false, .bool false, .bool false, .bool false, .bool false, .bool false, .bool false, .bool false, .bool false, .bool false, .bool false, .bool false, .bool false, .bool false, .bool false, .bool false, .bool false, .bool false, .bool false, .bool false, .bool false, .bool false, .bool false, .bool false, .bool false, .bool false, .bool false, .bool false, .bool false, .bool false, .bool false, .bool false, .bool false])))) := ⟨by kernel_rfl⟩
instance t120 : TInf X 120 (.mk (.array 256 4) 256 256 (.some (.agg (.mk [.bool false, .bool false, .bool false, .bool false, .bool false, .bool false, .bool false, .bool false, .bool false, .bool false, .bool false, .bool false, .bool false, .bool false, .bool false, .bool false, .bool false, .bool false, .bool false, .bool false, .bool false, .bool false, .bool false, .bool false, .bool false, .bool false, .bool false, .bool false, .bool false, .bool false, .bool false, .bool false, .bool false, .bool false, .bool false, .bool false, .bool false, .bool false, .bool false, .bool false, .bool false, .bool false, .bool false, .bool false, .bool false, .bool false, .bool false, .bool false, .bool false, .bool false, .bool false, .bool false, .bool false, .bool false, .bool false, .bool false, .bool false, .bool false, .bool false, .bool false, .bool false, .bool false, .bool false, .bool false, .bool false, .bool false, .bool false, .bool false, .bool false, .bool false, .bool false, .bool false, .bool false, .bool false, .bool false, .bool false, .bool false, .bool false, .bool false, .bool false, .bool false, .bool false, .bool false, .bool false, .bool false, .bool false, .bool false, .bool false, .bool false, .bool false, .bool false, .bool false, .bool false, .bool false, .bool false, .bool false, .bool false, .bool false, .bool false, .bool false, .bool false, .bool false, .bool false, .bool false, .bool false, .bool false, .bool false, .bool false, .bool false, .bool false, .bool false, .bool false, .bool false, .bool false, .bool false, .bool false, .bool false, .bool false, .bool false, .bool false, .bool false, .bool false, .bool false, .bool false, .bool false, .bool false, .bool false, .bool false, .bool false, .bool false, .bool false, .bool false, .bool false, .bool false, .bool false, .bool false, .bool false, .bool false, .bool false, .bool false, .bool false, .bool false, .bool false, .bool false, .bool false, .bool false, .bool false, .bool false, .bool false, .bool false, .bool false, .bool false, .bool false, .bool false, .bool false, .bool false, .bool false, .bool false, .bool false, .bool false, .bool false, .bool false, .bool false, .bool false, .bool false, .bool false, .bool false, .bool false, .bool false, .bool false, .bool false, .bool false, .bool false, .bool false, .bool false, .bool false, .bool false, .bool false, .bool false, .bool false, .bool false, .bool false, .bool false, .bool false, .bool false, .bool false, .bool false, .bool false, .bool false, .bool false, .bool false, .bool false, .bool false, .bool false, .bool false, .bool false, .bool false, .bool false, .bool false, .bool false, .bool false, .bool false, .bool false, .bool false, .bool false, .bool false, .bool false, .bool false, .bool false, .bool false, .bool false, .bool false, .bool false, .bool false, .bool false, .bool false, .bool false, .bool false, .bool false, .bool false, .bool false, .bool false, .bool false, .bool false, .bool false, .bool false, .bool false, .bool false, .bool false, .bool false, .bool false, .bool false, .bool false, .bool false, .bool false, .bool false, .bool false, .bool false, .bool false, .bool false, .bool false, .bool false, .bool false, .bool false, .bool false, .bool false, .bool false, .bool false, .bool false, .bool false, .bool false, .bool false, .bool false, .bool false, .bool false, .bool false])))) := ⟨by kernel_rfl⟩
instance t121 : TInf X 121 (.mk (.tuple (.mk [120, 4])) 1 0 (.some (.tuple (.mk [.agg (.mk [.bool false, .bool false, .bool false, .bool false, .bool false, .bool false, .bool false, .bool false, .bool false, .bool false, .bool false, .bool false, .bool false, .bool false, .bool false, .bool false, .bool false, .bool false, .bool false, .bool false, .bool false, .bool false, .bool false, .bool false, .bool false, .bool false, .bool false, .bool false, .bool false, .bool false, .bool false, .bool false, .bool false, .bool false, .bool false, .bool false, .bool false, .bool false, .bool false, .bool false, .bool false, .bool false, .bool false, .bool false, .bool false, .bool false, .bool false, .bool false, .bool false, .bool false, .bool false, .bool false, .bool false, .bool false, .bool false, .bool false, .bool false, .bool false, .bool false, .bool false, .bool false, .bool false, .bool false, .bool false, .bool false, .bool false, .bool false, .bool false, .bool false, .bool false, .bool false, .bool false, .bool false, .bool false, .bool false, .bool false, .bool false, .bool false, .bool false, .bool false, .bool false, .bool false, .bool false, .bool false, .bool false, .bool false, .bool false, .bool false, .bool false, .bool false, .bool false, .bool false, .bool false, .bool false, .bool false, .bool false, .bool false, .bool false, .bool false, .bool false, .bool false, .bool false, .bool false, .bool false, .bool false, .bool false, .bool false, .bool false, .bool false, .bool false, .bool false, .bool false, .bool false, .bool false, .bool false, .bool false, .bool false, .bool false, .bool false, .bool false, .bool false, .bool false, .bool false, .bool false, .bool false, .bool false, .bool false, .bool false, .bool false, .bool false, .bool false, .bool false, .bool false, .bool false, .bool false, .bool false, .bool false, .bool false, .bool false, .bool false, .bool false, .bool false, .bool false, .bool false, .bool false, .bool false, .bool false, .bool false, .bool false, .bool false, .bool false, .bool false, .bool false, .bool false, .bool false, .bool false, .bool false, .bool false, .bool false, .bool false, .bool false, .bool false, .bool false, .bool false, .bool false, .bool false, .bool false, .bool false, .bool false, .bool false, .bool false, .bool false, .bool false, .bool false, .bool false, .bool false, .bool false, .bool false, .bool false, .bool false, .bool false, .bool false, .bool false, .bool false, .bool false, .bool false, .bool false, .bool false, .bool false, .bool false, .bool false, .bool false, .bool false, .bool false, .bool false, .bool false, .bool false, .bool false, .bool false, .bool false, .bool false, .bool false, .bool false, .bool false, .bool false, .bool false, .bool false, .bool false, .bool false, .bool false, .bool false, .bool false, .bool false, .bool false, .bool false, .bool false, .bool false, .bool false, .bool false, .bool false, .bool false, .bool false, .bool false, .bool false, .bool false, .bool false, .bool false, .bool false, .bool false, .bool false, .bool false, .bool false, .bool false, .bool false, .bool false, .bool false, .bool false, .bool false, .bool false, .bool false, .bool false, .bool false, .bool false, .bool false, .bool false, .bool false, .bool false, .bool false, .bool false, .bool false, .bool false, .bool false, .bool false, .bool false, .bool false, .bool false]), .bool false])))) := ⟨by kernel_rfl⟩
instance t122 : TInf X 122 (.mk (.func (.mk [9]) (.mk [120, 4]) false) 1 8 (.some .nilFunc)) := ⟨by kernel_rfl⟩
instance t123 : TInf X 123 (.mk (.func (.mk [9, 124]) (.mk [9]) false) 1 8 (.some .nilFunc)) := ⟨by kernel_rfl⟩
instance t124 : TInf X 124 (.mk (.pointer 120) 1 8 (.some (.pointer .none))) := ⟨by kernel_rfl⟩
instance t125 : TInf X 125 (.mk (.func (.mk [9, 9, 3, 3, 90]) (.mk [90]) false) 1 8 (.some .nilFunc)) := ⟨by kernel_rfl⟩
instance t126 : TInf X 126 (.mk (.int .u32) 1 4 (.some (.int .u32 (0)))) := ⟨by kernel_rfl⟩
instance t127 : TInf X 127 (.mk (.tuple (.mk [126, 126])) 1 0 (.some (.tuple (.mk [.int .u32 (0), .int .u32 (0)])))) := ⟨by kernel_rfl⟩
instance t128 : TInf X 128 (.mk (.func (.mk [126, 126]) (.mk [126, 126]) false) 1 8 (.some .nilFunc)) := ⟨by kernel_rfl⟩
instance t129 : TInf X 129 (.mk (.int .u64) 1 8 (.some (.int .u64 (0)))) := ⟨by kernel_rfl⟩
instance t130 : TInf X 130 (.mk (.tuple (.mk [129, 129])) 1 0 (.some (.tuple (.mk [.int .u64 (0), .int .u64 (0)])))) := ⟨by kernel_rfl⟩
instance t131 : TInf X 131 (.mk (.func (.mk [129, 129]) (.mk [129, 129]) false) 1 8 (.some .nilFunc)) := ⟨by kernel_rfl⟩
instance t132 : TInf X 132 (.mk .unsafePointer 1 8 (.some (.pointer .none))) := ⟨by kernel_rfl⟩
instance t133 : TInf X 133 (.mk (.func (.mk [132]) (.mk [132]) false) 1 8 (.some .nilFunc)) := ⟨by kernel_rfl⟩
instance t134 : TInf X 134 (.mk (.func (.mk [2, 3]) (.mk [9]) false) 1 8 (.some .nilFunc)) := ⟨by kernel_rfl⟩
instance t135 : TInf X 135 (.mk (.func (.mk [9, 5]) (.mk [3]) false) 1 8 (.some .nilFunc)) := ⟨by kernel_rfl⟩
instance t136 : TInf X 136 (.mk (.func (.mk [3]) (.mk [3]) false) 1 8 (.some .nilFunc)) := ⟨by kernel_rfl⟩
instance t137 : TInf X 137 (.mk (.func (.mk [5]) (.mk [4]) false) 1 8 (.some .nilFunc)) := ⟨by kernel_rfl⟩
instance t138 : TInf X 138 (.mk (.tuple (.mk [21, 3])) 1 0 (.some (.tuple (.mk [.int .i32 (0), .int .i64 (0)])))) := ⟨by kernel_rfl⟩
instance t139 : TInf X 139 (.mk (.func (.mk [9]) (.mk [21, 3]) false) 1 8 (.some .nilFunc)) := ⟨by kernel_rfl⟩
instance t140 : TInf X 140 (.mk (.func (.mk [9, 21]) (.mk [4]) false) 1 8 (.some .nilFunc)) := ⟨by kernel_rfl⟩
instance t141 : TInf X 141 (.mk (.int .i64) 1 8 (.some (.int .i64 (0)))) := ⟨by kernel_rfl⟩
instance t142 : TInf X 142 (.mk (.tuple (.mk [2, 90])) 1 0 (.some (.tuple (.mk [.int .i64 (0), .nilIface])))) := ⟨by kernel_rfl⟩
instance t143 : TInf X 143 (.mk (.func (.mk [9, 3, 3]) (.mk [2, 90]) false) 1 8 (.some .nilFunc)) := ⟨by kernel_rfl⟩
instance t144 : TInf X 144 (.mk (.pointer 159) 1 8 (.some (.pointer .none))) := ⟨by kernel_rfl⟩
instance t145 : TInf X 145 (.mk (.func (.mk [9, 9]) (.mk [144]) false) 1 8 (.some .nilFunc)) := ⟨by kernel_rfl⟩
instance t146 : TInf X 146 (.mk (.func (.mk [9, 9, 3]) (.mk [144]) false) 1 8 (.some .nilFunc)) := ⟨by kernel_rfl⟩
instance t147 : TInf X 147 (.mk (.func (.mk [3]) (.mk [54]) false) 1 8 (.some .nilFunc)) := ⟨by kernel_rfl⟩
instance t148 : TInf X 148 (.mk (.array 24 5) 24 24 (.some (.agg (.mk [.int .u8 (0), .int .u8 (0), .int .u8 (0), .int .u8 (0), .int .u8 (0), .int .u8 (0), .int .u8 (0), .int .u8 (0), .int .u8 (0), .int .u8 (0), .int .u8 (0), .int .u8 (0), .int .u8 (0), .int .u8 (0), .int .u8 (0), .int .u8 (0), .int .u8 (0), .int .u8 (0), .int .u8 (0), .int .u8 (0), .int .u8 (0), .int .u8 (0), .int .u8 (0), .int .u8 (0)])))) := ⟨by kernel_rfl⟩
instance t149 : TInf X 149 (.mk (.func (.mk [129]) (.mk [3]) false) 1 8 (.some .nilFunc)) := ⟨by kernel_rfl⟩
instance t150 : TInf X 150 (.mk (.func (.mk [54, 129]) (.mk []) false) 1 8 (.some .nilFunc)) := ⟨by kernel_rfl⟩
instance t151 : TInf X 151 (.mk (.tuple (.mk [54, 9])) 1 0 (.some (.tuple (.mk [.slice .none 0 0, .string (.mk (.mk []))])))) := ⟨by kernel_rfl⟩
instance t152 : TInf X 152 (.mk (.func (.mk [54, 129, 3, 4, 4]) (.mk [54, 9]) false) 1 8 (.some .nilFunc)) := ⟨by kernel_rfl⟩
instance t153 : TInf X 153 (.mk (.func (.mk [9]) (.mk [126, 126]) false) 1 8 (.some .nilFunc)) := ⟨by kernel_rfl⟩
instance t154 : TInf X 154 (.mk (.func (.mk [9, 21]) (.mk [3]) false) 1 8 (.some .nilFunc)) := ⟨by kernel_rfl⟩
instance t155 : TInf X 155 (.mk (.tuple (.mk [129, 90])) 1 0 (.some (.tuple (.mk [.int .u64 (0), .nilIface])))) := ⟨by kernel_rfl⟩
instance t156 : TInf X 156 (.mk (.func (.mk [9, 3, 3]) (.mk [129, 90]) false) 1 8 (.some .nilFunc)) := ⟨by kernel_rfl⟩
instance t157 : TInf X 157 (.mk (.func (.mk [9]) (.mk [9]) false) 1 8 (.some .nilFunc)) := ⟨by kernel_rfl⟩
instance t158 : TInf X 158 (.mk (.struct (.mk [.mk "Func" 9 0 false "" "" 0, .mk "Num" 9 1 false "" "" 16, .mk "Err" 90 2 false "" "" 32])) 3 48 (.some (.agg (.mk [.string (.mk (.mk [])), .string (.mk (.mk [])), .nilIface])))) := ⟨by kernel_rfl⟩
instance t159 : TInf X 159 (.mk (.struct (.mk [.mk "Func" 9 0 false "" "" 0, .mk "Num" 9 1 false "" "" 16, .mk "Err" 90 2 false "" "" 32])) 3 48 (.some (.agg (.mk [.string (.mk (.mk [])), .string (.mk (.mk [])), .nilIface])))) := ⟨by kernel_rfl⟩
instance t160 : TInf X 160 (.mk (.func (.mk [9]) (.mk [90]) false) 1 8 (.some .nilFunc)) := ⟨by kernel_rfl⟩
instance t161 : TInf X 161 (.mk (.func (.mk [4]) (.mk [3]) false) 1 8 (.some .nilFunc)) := ⟨by kernel_rfl⟩
instance t162 : TInf X 162 (.mk (.array 20 129) 20 160 (.some (.agg (.mk [.int .u64 (0), .int .u64 (0), .int .u64 (0), .int .u64 (0), .int .u64 (0), .int .u64 (0), .int .u64 (0), .int .u64 (0), .int .u64 (0), .int .u64 (0), .int .u64 (0), .int .u64 (0), .int .u64 (0), .int .u64 (0), .int .u64 (0), .int .u64 (0), .int .u64 (0), .int .u64 (0), .int .u64 (0), .int .u64 (0)])))) := ⟨by kernel_rfl⟩
instance t163 : TInf X 163 (.mk (.array 65 5) 65 65 (.some (.agg (.mk [.int .u8 (0), .int .u8 (0), .int .u8 (0), .int .u8 (0), .int .u8 (0), .int .u8 (0), .int .u8 (0), .int .u8 (0), .int .u8 (0), .int .u8 (0), .int .u8 (0), .int .u8 (0), .int .u8 (0), .int .u8 (0), .int .u8 (0), .int .u8 (0), .int .u8 (0), .int .u8 (0), .int .u8 (0), .int .u8 (0), .int .u8 (0), .int .u8 (0), .int .u8 (0), .int .u8 (0), .int .u8 (0), .int .u8 (0), .int .u8 (0), .int .u8 (0), .int .u8 (0), .int .u8 (0), .int .u8 (0), .int .u8 (0), .int .u8 (0), .int .u8 (0), .int .u8 (0), .int .u8 (0), .int .u8 (0), .int .u8 (0), .int .u8 (0), .int .u8 (0), .int .u8 (0), .int .u8 (0), .int .u8 (0), .int .u8 (0), .int .u8 (0), .int .u8 (0), .int .u8 (0), .int .u8 (0), .int .u8 (0), .int .u8 (0), .int .u8 (0), .int .u8 (0), .int .u8 (0), .int .u8 (0), .int .u8 (0), .int .u8 (0), .int .u8 (0), .int .u8 (0), .int .u8 (0), .int .u8 (0), .int .u8 (0), .int .u8 (0), .int .u8 (0), .int .u8 (0), .int .u8 (0)])))) := ⟨by kernel_rfl⟩
instance t164 : TInf X 164 (.mk (.func (.mk [105]) (.mk [3]) false) 1 8 (.some .nilFunc)) := ⟨by kernel_rfl⟩
instance t165 : TInf X 165 (.mk (.array 256 5) 256 256 (.some (.agg (.mk [.int .u8 (0), .int .u8 (0), .int .u8 (0), .int .u8 (0), .int .u8 (0), .int .u8 (0), .int .u8 (0), .int .u8 (0), .int .u8 (0), .int .u8 (0), .int .u8 (0), .int .u8 (0), .int .u8 (0), .int .u8 (0), .int .u8 (0), .int .u8 (0), .int .u8 (0), .int .u8 (0), .int .u8 (0), .int .u8 (0), .int .u8 (0), .int .u8 (0), .int .u8 (0), .int .u8 (0), .int .u8 (0), .int .u8 (0), .int .u8 (0), .int .u8 (0), .int .u8 (0), .int .u8 (0), .int .u8 (0), .int .u8 (0), .int .u8 (0), .int .u8 (0), .int .u8 (0), .int .u8 (0), .int .u8 (0), .int .u8 (0), .int .u8 (0), .int .u8 (0), .int .u8 (0), .int .u8 (0), .int .u8 (0), .int .u8 (0), .int .u8 (0), .int .u8 (0), .int .u8 (0), .int .u8 (0), .int .u8 (0), .int .u8 (0), .int .u8 (0), .int .u8 (0), .int .u8 (0), .int .u8 (0), .int .u8 (0), .int .u8 (0), .int .u8 (0), .int .u8 (0), .int .u8 (0), .int .u8 (0), .int .u8 (0), .int .u8 (0), .int .u8 (0), .int .u8 (0), .int .u8 (0), .int .u8 (0), .int .u8 (0), .int .u8 (0), .int .u8 (0), .int .u8 (0), .int .u8 (0), .int .u8 (0), .int .u8 (0), .int .u8 (0), .int .u8 (0), .int .u8 (0), .int .u8 (0), .int .u8 (0), .int .u8 (0), .int .u8 (0), .int .u8 (0), .int .u8 (0), .int .u8 (0), .int .u8 (0), .int .u8 (0), .int .u8 (0), .int .u8 (0), .int .u8 (0), .int .u8 (0), .int .u8 (0), .int .u8 (0), .int .u8 (0), .int .u8 (0), .int .u8 (0), .int .u8 (0), .int .u8 (0), .int .u8 (0), .int .u8 (0), .int .u8 (0), .int .u8 (0), .int .u8 (0), .int .u8 (0), .int .u8 (0), .int .u8 (0), .int .u8 (0), .int .u8 (0), .int .u8 (0), .int .u8 (0), .int .u8 (0), .int .u8 (0), .int .u8 (0), .int .u8 (0), .int .u8 (0), .int .u8 (0), .int .u8 (0), .int .u8 (0), .int .u8 (0), .int .u8 (0), .int .u8 (0), .int .u8 (0), .int .u8 (0), .int .u8 (0), .int .u8 (0), .int .u8 (0), .int .u8 (0), .int .u8 (0), .int .u8 (0), .int .u8 (0), .int .u8 (0), .int .u8 (0), .int .u8 (0), .int .u8 (0), .int .u8 (0), .int .u8 (0), .int .u8 (0), .int .u8 (0), .int .u8 (0), .int .u8 (0), .int .u8 (0), .int .u8 (0), .int .u8 (0), .int .u8 (0), .int .u8 (0), .int .u8 (0), .int .u8 (0), .int .u8 (0), .int .u8 (0), .int .u8 (0), .int .u8 (0), .int .u8 (0), .int .u8 (0), .int .u8 (0), .int .u8 (0), .int .u8 (0), .int .u8 (0), .int .u8 (0), .int .u8 (0), .int .u8 (0), .int .u8 (0), .int .u8 (0), .int .u8 (0), .int .u8 (0), .int .u8 (0), .int .u8 (0), .int .u8 (0), .int .u8 (0), .int .u8 (0), .int .u8 (0), .int .u8 (0), .int .u8 (0), .int .u8 (0), .int .u8 (0), .int .u8 (0), .int .u8 (0), .int .u8 (0), .int .u8 (0), .int .u8 (0), .int .u8 (0), .int .u8 (0), .int .u8 (0), .int .u8 (0), .int .u8 (0), .int .u8 (0), .int .u8 (0), .int .u8 (0), .int .u8 (0), .int .u8 (0), .int .u8 (0), .int .u8 (0), .int .u8 (0), .int .u8 (0), .int .u8 (0), .int .u8 (0), .int .u8 (0), .int .u8 (0), .int .u8 (0), .int .u8 (0), .int .u8 (0), .int .u8 (0), .int .u8 (0), .int .u8 (0), .int .u8 (0), .int .u8 (0), .int .u8 (0), .int .u8 (0), .int .u8 (0), .int .u8 (0), .int .u8 (0), .int .u8 (0), .int .u8 (0), .int .u8 (0), .int .u8 (0), .int .u8 (0), .int .u8 (0), .int .u8 (0), .int .u8 (0), .int .u8 (0), .int .u8 (0), .int .u8 (0), .int .u8 (0), .int .u8 (0), .int .u8 (0), .int .u8 (0), .int .u8 (0), .int .u8 (0), .int .u8 (0), .int .u8 (0), .int .u8 (0), .int .u8 (0), .int .u8 (0), .int .u8 (0), .int .u8 (0), .int .u8 (0), .int .u8 (0), .int .u8 (0), .int .u8 (0), .int .u8 (0), .int .u8 (0), .int .u8 (0), .int .u8 (0), .int .u8 (0), .int .u8 (0), .int .u8 (0), .int .u8 (0), .int .u8 (0), .int .u8 (0), .int .u8 (0), .int .u8 (0), .int .u8 (0), .int .u8 (0), .int .u8 (0), .int .u8 (0), .int .u8 (0), .int .u8 (0), .int .u8 (0), .int .u8 (0)])))) := ⟨by kernel_rfl⟩
instance t166 : TInf X 166 (.mk (.struct (.mk [.mk "lo" 5 0 false "" "unicode/utf8" 0, .mk "hi" 5 1 false "" "unicode/utf8" 1])) 2 2 (.some (.agg (.mk [.int .u8 (0), .int .u8 (0)])))) := ⟨by kernel_rfl⟩
instance t167 : TInf X 167 (.mk (.struct (.mk [.mk "lo" 5 0 false "" "unicode/utf8" 0, .mk "hi" 5 1 false "" "unicode/utf8" 1])) 2 2 (.some (.agg (.mk [.int .u8 (0), .int .u8 (0)])))) := ⟨by kernel_rfl⟩
instance t168 : TInf X 168 (.mk (.array 16 167) 32 32 (.some (.agg (.mk [.int .u8 (0), .int .u8 (0), .int .u8 (0), .int .u8 (0), .int .u8 (0), .int .u8 (0), .int .u8 (0), .int .u8 (0), .int .u8 (0), .int .u8 (0), .int .u8 (0), .int .u8 (0), .int .u8 (0), .int .u8 (0), .int .u8 (0), .int .u8 (0), .int .u8 (0), .int .u8 (0), .int .u8 (0), .int .u8 (0), .int .u8 (0), .int .u8 (0), .int .u8 (0), .int .u8 (0), .int .u8 (0), .int .u8 (0), .int .u8 (0), .int .u8 (0), .int .u8 (0), .int .u8 (0), .int .u8 (0), .int .u8 (0)])))) := ⟨by kernel_rfl⟩
instance t169 : TInf X 169 (.mk (.func (.mk [21]) (.mk [4]) false) 1 8 (.some .nilFunc)) := ⟨by kernel_rfl⟩
instance t170 : TInf X 170 (.mk (.func (.mk [5]) (.mk [5]) false) 1 8 (.some .nilFunc)) := ⟨by kernel_rfl⟩
instance t171 : TInf X 171 (.mk (.pointer 173) 1 8 (.some (.pointer .none))) := ⟨by kernel_rfl⟩
instance t172 : TInf X 172 (.mk (.struct (.mk [.mk "s" 9 0 false "" "errors" 0])) 1 16 (.some (.agg (.mk [.string (.mk (.mk []))])))) := ⟨by kernel_rfl⟩
instance t173 : TInf X 173 (.mk (.struct (.mk [.mk "s" 9 0 false "" "errors" 0])) 1 16 (.some (.agg (.mk [.string (.mk (.mk []))])))) := ⟨by kernel_rfl⟩
instance t174 : TInf X 174 (.mk (.func (.mk [126]) (.mk [3]) false) 1 8 (.some .nilFunc)) := ⟨by kernel_rfl⟩
instance t175 : TInf X 175 (.mk (.array 32 5) 32 32 (.some (.agg (.mk [.int .u8 (0), .int .u8 (0), .int .u8 (0), .int .u8 (0), .int .u8 (0), .int .u8 (0), .int .u8 (0), .int .u8 (0), .int .u8 (0), .int .u8 (0), .int .u8 (0), .int .u8 (0), .int .u8 (0), .int .u8 (0), .int .u8 (0), .int .u8 (0), .int .u8 (0), .int .u8 (0), .int .u8 (0), .int .u8 (0), .int .u8 (0), .int .u8 (0), .int .u8 (0), .int .u8 (0), .int .u8 (0), .int .u8 (0), .int .u8 (0), .int .u8 (0), .int .u8 (0), .int .u8 (0), .int .u8 (0), .int .u8 (0)])))) := ⟨by kernel_rfl⟩
instance t176 : TInf X 176 (.mk (.array 64 5) 64 64 (.some (.agg (.mk [.int .u8 (0), .int .u8 (0), .int .u8 (0), .int .u8 (0), .int .u8 (0), .int .u8 (0), .int .u8 (0), .int .u8 (0), .int .u8 (0), .int .u8 (0), .int .u8 (0), .int .u8 (0), .int .u8 (0), .int .u8 (0), .int .u8 (0), .int .u8 (0), .int .u8 (0), .int .u8 (0), .int .u8 (0), .int .u8 (0), .int .u8 (0), .int .u8 (0), .int .u8 (0), .int .u8 (0), .int .u8 (0), .int .u8 (0), .int .u8 (0), .int .u8 (0), .int .u8 (0), .int .u8 (0), .int .u8 (0), .int .u8 (0), .int .u8 (0), .int .u8 (0), .int .u8 (0), .int .u8 (0), .int .u8 (0), .int .u8 (0), .int .u8 (0), .int .u8 (0), .int .u8 (0), .int .u8 (0), .int .u8 (0), .int .u8 (0), .int .u8 (0), .int .u8 (0), .int .u8 (0), .int .u8 (0), .int .u8 (0), .int .u8 (0), .int .u8 (0), .int .u8 (0), .int .u8 (0), .int .u8 (0), .int .u8 (0), .int .u8 (0), .int .u8 (0), .int .u8 (0), .int .u8 (0), .int .u8 (0), .int .u8 (0), .int .u8 (0), .int .u8 (0), .int .u8 (0)])))) := ⟨by kernel_rfl⟩
instance t177 : TInf X 177 (.mk (.struct (.mk [.mk "_interface" 17 0 false "" "runtime" 0, .mk "concrete" 17 1 false "" "runtime" 8, .mk "asserted" 17 2 false "" "runtime" 16, .mk "missingMethod" 9 3 false "" "runtime" 24])) 4 40 (.some (.agg (.mk [.pointer .none, .pointer .none, .pointer .none, .string (.mk (.mk []))])))) := ⟨by kernel_rfl⟩
instance t178 : TInf X 178 (.mk (.struct (.mk [.mk "_interface" 17 0 false "" "runtime" 0, .mk "concrete" 17 1 false "" "runtime" 8, .mk "asserted" 17 2 false "" "runtime" 16, .mk "missingMethod" 9 3 false "" "runtime" 24])) 4 40 (.some (.agg (.mk [.pointer .none, .pointer .none, .pointer .none, .string (.mk (.mk []))])))) := ⟨by kernel_rfl⟩
instance t179 : TInf X 179 (.mk (.array 0 16) 0 0 (.some (.agg (.mk [])))) := ⟨by kernel_rfl⟩
instance t180 : TInf X 180 (.mk (.struct (.mk [.mk "_" 179 0 false "" "runtime" 0])) 0 0 (.some (.agg (.mk [])))) := ⟨by kernel_rfl⟩
instance t181 : TInf X 181 (.mk (.struct (.mk [.mk "_" 179 0 false "" "runtime" 0])) 0 0 (.some (.agg (.mk [])))) := ⟨by kernel_rfl⟩
instance t182 : TInf X 182 (.mk (.int .u8) 1 1 (.some (.int .u8 (0)))) := ⟨by kernel_rfl⟩
instance t183 : TInf X 183 (.mk (.int .u8) 1 1 (.some (.int .u8 (0)))) := ⟨by kernel_rfl⟩
instance t184 : TInf X 184 (.mk (.func (.mk [132, 132]) (.mk [4]) false) 1 8 (.some .nilFunc)) := ⟨by kernel_rfl⟩
instance t185 : TInf X 185 (.mk (.int .i32) 1 4 (.some (.int .i32 (0)))) := ⟨by kernel_rfl⟩
instance t186 : TInf X 186 (.mk (.int .i32) 1 4 (.some (.int .i32 (0)))) := ⟨by kernel_rfl⟩
instance t187 : TInf X 187 (.mk (.struct (.mk [.mk "Size_" 12 0 false "" "" 0, .mk "PtrBytes" 12 1 false "" "" 8, .mk "Hash" 126 2 false "" "" 16, .mk "TFlag" 182 3 false "" "" 20, .mk "Align_" 5 4 false "" "" 21, .mk "FieldAlign_" 5 5 false "" "" 22, .mk "Kind_" 183 6 false "" "" 23, .mk "Equal" 184 7 false "" "" 24, .mk "GCData" 113 8 false "" "" 32, .mk "Str" 185 9 false "" "" 40, .mk "PtrToThis" 186 10 false "" "" 44])) 11 48 (.some (.agg (.mk [.int .u64 (0), .int .u64 (0), .int .u32 (0), .int .u8 (0), .int .u8 (0), .int .u8 (0), .int .u8 (0), .nilFunc, .pointer .none, .int .i32 (0), .int .i32 (0)])))) := ⟨by kernel_rfl⟩
instance t188 : TInf X 188 (.mk (.struct (.mk [.mk "Size_" 12 0 false "" "" 0, .mk "PtrBytes" 12 1 false "" "" 8, .mk "Hash" 126 2 false "" "" 16, .mk "TFlag" 182 3 false "" "" 20, .mk "Align_" 5 4 false "" "" 21, .mk "FieldAlign_" 5 5 false "" "" 22, .mk "Kind_" 183 6 false "" "" 23, .mk "Equal" 184 7 false "" "" 24, .mk "GCData" 113 8 false "" "" 32, .mk "Str" 185 9 false "" "" 40, .mk "PtrToThis" 186 10 false "" "" 44])) 11 48 (.some (.agg (.mk [.int .u64 (0), .int .u64 (0), .int .u32 (0), .int .u8 (0), .int .u8 (0), .int .u8 (0), .int .u8 (0), .nilFunc, .pointer .none, .int .i32 (0), .int .i32 (0)])))) := ⟨by kernel_rfl⟩
end Go.VS.YtiaijoomngefnaaGreatDoor


namespace Go.VS.YtiaijoomngefnaaGreatDoor
open Go Go.VL Go.ChangeShapes Go.WideShapes Go.ChangeAt Go.RowKit Go.Proofs
set_option maxRecDepth 100000
theorem ownNone : ownKnob Tryz.prog.godebug = none := by kernel_rfl
theorem laidOut : laidOutB Tryz.prog = true := by kernel_rfl
theorem gPowType : (Tryz.prog.globals[3]?).map (·.type) = some 162 := by kernel_rfl
theorem GL.of_tab {w : World} (h : Lib.TabIs Tryz.prog w "internal/strconv.uint64pow10" .u64 Lib.pow10Tab) : GL w := by
  refine ⟨?_, h⟩
  have h1 : w.var? Tryz.prog "internal/strconv.uint64pow10" = some (Lib.pow10Tab.map fun z => Value.int .u64 z).toArray := h
  rcases Nat.lt_or_ge 3 w.heap.size with h2 | h2
  · exact h2
  · simp [World.var?, gPow, Array.getElem?_eq_none h2] at h1
theorem GL.of_reads {w : World} (h : Lib.VarReads Tryz.prog w "internal/strconv.uint64pow10" (Lib.tabData .u64 Lib.pow10Tab)) : GL w := by
  obtain ⟨g', t', cs, fuel, p, hg', ht', hvar, hd⟩ := h
  obtain rfl := Option.some.inj (gPow.symm.trans hg')
  obtain rfl : 162 = t' := Option.some.inj (gPowType.symm.trans ht')
  refine GL.of_tab ?_
  unfold Lib.TabIs
  rw [hvar, ← Lib.cells_of_tab Tryz.underlying162 Tryz.underlying12 (by kernel_rfl) (by kernel_rfl) hd]
theorem GL.of_laid {w : World} {l : List (String × DataW Unit)} (h : laidMetH Tryz.prog l w) (hp : (l.all fun x => x.2.handleName?.isNone) = true) (hm : ("internal/strconv.uint64pow10", Lib.tabData .u64 Lib.pow10Tab) ∈ l) : GL w := by
  rw [MakeChecks.laidMetH_plain _ _ _ hp] at h
  exact GL.of_reads (Lib.laidMet.reads h hm)
end Go.VS.YtiaijoomngefnaaGreatDoor


set_option linter.unusedVariables false
namespace Go.Proofs
open Go.Shelf
def Tryz.lays160_ren : Go.Shelf.Ren := ⟨fun | 160 => 97 | 232 => 122 | 231 => 121 | 227 => 123 | 234 => 125 | 233 => 124 | 236 => 127 | 235 => 126 | 228 => 139 | 271 => 142 | 151 => 141 | 197 => 140 | 120 => 157 | 152 => 156 | 260 => 155 | 137 => 166 | 119 => 167 | 224 => 137 | 225 => 136 | 217 => 135 | 266 => 153 | n => n, fun | 9 => 9 | 4 => 4 | 3 => 3 | 5 => 5 | 117 => 121 | 116 => 120 | 0 => 0 | 124 => 124 | 21 => 21 | 105 => 138 | 46 => 105 | 119 => 165 | 139 => 168 | 138 => 167 | n => n, fun | 3 => 4 | 4 => 5 | n => n⟩
theorem Tryz.lays160 : Go.Proofs.Lays.n160 Tryz.prog Tryz.lays160_ren := {
  mixed := by kernel_rfl
  f119 := Tryz.func167.trans (congrArg some (by kernel_rfl))
  f120 := Tryz.func157.trans (congrArg some (by kernel_rfl))
  f137 := Tryz.func166.trans (congrArg some (by kernel_rfl))
  f151 := Tryz.func141.trans (congrArg some (by kernel_rfl))
  f152 := Tryz.func156.trans (congrArg some (by kernel_rfl))
  f160 := Tryz.func97.trans (congrArg some (by kernel_rfl))
  f197 := Tryz.func140.trans (congrArg some (by kernel_rfl))
  f217 := Tryz.func135.trans (congrArg some (by kernel_rfl))
  f224 := Tryz.func137.trans (congrArg some (by kernel_rfl))
  f225 := Tryz.func136.trans (congrArg some (by kernel_rfl))
  f227 := Tryz.func123.trans (congrArg some (by kernel_rfl))
  f228 := Tryz.func139.trans (congrArg some (by kernel_rfl))
  f231 := Tryz.func121.trans (congrArg some (by kernel_rfl))
  f232 := Tryz.func122.trans (congrArg some (by kernel_rfl))
  f233 := Tryz.func124.trans (congrArg some (by kernel_rfl))
  f234 := Tryz.func125.trans (congrArg some (by kernel_rfl))
  f235 := Tryz.func126.trans (congrArg some (by kernel_rfl))
  f236 := Tryz.func127.trans (congrArg some (by kernel_rfl))
  f260 := Tryz.func155.trans (congrArg some (by kernel_rfl))
  f266 := Tryz.func153.trans (congrArg some (by kernel_rfl))
  f271 := Tryz.func142.trans (congrArg some (by kernel_rfl))
  t0 := Tryz.underlying0
  a0 := Tryz.isAgg0
  z0 := Tryz.sizeOf0
  v0 := Tryz.zeroValue0
  t3 := Tryz.underlying3
  a3 := Tryz.isAgg3
  z3 := Tryz.sizeOf3
  v3 := Tryz.zeroValue3
  t4 := Tryz.underlying4
  a4 := Tryz.isAgg4
  z4 := Tryz.sizeOf4
  v4 := Tryz.zeroValue4
  t5 := Tryz.underlying5
  a5 := Tryz.isAgg5
  z5 := Tryz.sizeOf5
  v5 := Tryz.zeroValue5
  t9 := Tryz.underlying9
  a9 := Tryz.isAgg9
  z9 := Tryz.sizeOf9
  v9 := Tryz.zeroValue9
  t21 := Tryz.underlying21
  a21 := Tryz.isAgg21
  z21 := Tryz.sizeOf21
  v21 := Tryz.zeroValue21
  t46 := Tryz.underlying105
  a46 := Tryz.isAgg105
  z46 := Tryz.sizeOf105
  v46 := Tryz.zeroValue105
  t105 := Tryz.underlying138
  a105 := Tryz.isAgg138
  z105 := Tryz.sizeOf138
  v105 := Tryz.zeroValue138
  t116 := Tryz.underlying120
  a116 := Tryz.isAgg120
  z116 := Tryz.sizeOf120
  t117 := Tryz.underlying121
  a117 := Tryz.isAgg121
  z117 := Tryz.sizeOf121
  v117 := Tryz.zeroValue121
  t119 := Tryz.underlying165
  a119 := Tryz.isAgg165
  z119 := Tryz.sizeOf165
  t124 := Tryz.underlying124
  a124 := Tryz.isAgg124
  z124 := Tryz.sizeOf124
  v124 := Tryz.zeroValue124
  t138 := Tryz.underlying167
  a138 := Tryz.isAgg167
  z138 := Tryz.sizeOf167
  v138 := Tryz.zeroValue167
  t139 := Tryz.underlying168
  a139 := Tryz.isAgg168
  z139 := Tryz.sizeOf168
  v139 := Tryz.zeroValue168
  g3 := by kernel_rfl
  g4 := by kernel_rfl }
open Go.RowKit in
/-- strings.Trim: "Trim returns a slice of the string s with all leading and trailing Unicode code points contained in cutset removed.": AT A cutset OF ONE ASCII BYTE. THE WORLD BEHIND IT: as it was, or (where s is not empty) with ONE DRAW MORE off the tape: the statement 'return trimLeftByte(trimRightByte(s, c), c)' draws its order of evaluation. (LAID: no walk: one application.) -/
theorem Tryz.strings_Trim_one (s : ByteArray) (c : UInt8) (hc : c.toNat < 128) (w : World) (hs : s.size ≤ 9223372036854775807) :
    Calls Tryz.prog 97 #[.string s, .string ⟨#[c]⟩] w fun e w' => e = .returned (.string ⟨(Lib.trimB s.data.toList c).toArray⟩) ∧ (w' = w ∨ w' = w.drew) := Any.strings_Trim_one Tryz.lays160 s c hc w hs
def Tryz.laysM171_ren : Go.Shelf.Ren := ⟨fun | 171 => 80 | 243 => 113 | 246 => 134 | 283 => 149 | 284 => 150 | 285 => 151 | 286 => 152 | 129 => 162 | 317 => 161 | 318 => 163 | 319 => 164 | 320 => 165 | 337 => 170 | 338 => 171 | n => n, fun | 3 => 3 | 9 => 9 | 2 => 2 | 4 => 4 | 171 => 148 | 0 => 0 | 53 => 129 | 37 => 54 | 5 => 5 | 173 => 151 | 212 => 162 | 51 => 126 | 20 => 20 | 213 => 163 | 46 => 105 | 232 => 175 | 233 => 176 | n => n, fun | 17 => 3 | 18 => 6 | 19 => 7 | n => n⟩
theorem Tryz.laysM171 : Go.Proofs.LaysM.n171 Tryz.prog Tryz.laysM171_ren := {
  mixed := by kernel_rfl
  f129 := Tryz.func162.trans (congrArg some (by kernel_rfl))
  f171 := Tryz.func80.trans (congrArg some (by kernel_rfl))
  f243 := Tryz.func113.trans (congrArg some (by kernel_rfl))
  f246 := Tryz.func134.trans (congrArg some (by kernel_rfl))
  f283 := Tryz.func149.trans (congrArg some (by kernel_rfl))
  f284 := Tryz.func150.trans (congrArg some (by kernel_rfl))
  f285 := Tryz.func151.trans (congrArg some (by kernel_rfl))
  f286 := Tryz.func152.trans (congrArg some (by kernel_rfl))
  f317 := Tryz.func161.trans (congrArg some (by kernel_rfl))
  f318 := Tryz.func163.trans (congrArg some (by kernel_rfl))
  f319 := Tryz.func164.trans (congrArg some (by kernel_rfl))
  f320 := Tryz.func165.trans (congrArg some (by kernel_rfl))
  f337 := Tryz.func170.trans (congrArg some (by kernel_rfl))
  f338 := Tryz.func171.trans (congrArg some (by kernel_rfl))
  t0 := Tryz.underlying0
  a0 := Tryz.isAgg0
  z0 := Tryz.sizeOf0
  v0 := Tryz.zeroValue0
  t2 := Tryz.underlying2
  a2 := Tryz.isAgg2
  z2 := Tryz.sizeOf2
  v2 := Tryz.zeroValue2
  t3 := Tryz.underlying3
  a3 := Tryz.isAgg3
  z3 := Tryz.sizeOf3
  v3 := Tryz.zeroValue3
  t4 := Tryz.underlying4
  a4 := Tryz.isAgg4
  z4 := Tryz.sizeOf4
  v4 := Tryz.zeroValue4
  t5 := Tryz.underlying5
  a5 := Tryz.isAgg5
  z5 := Tryz.sizeOf5
  v5 := Tryz.zeroValue5
  t9 := Tryz.underlying9
  a9 := Tryz.isAgg9
  z9 := Tryz.sizeOf9
  v9 := Tryz.zeroValue9
  t20 := Tryz.underlying20
  a20 := Tryz.isAgg20
  z20 := Tryz.sizeOf20
  v20 := Tryz.zeroValue20
  t37 := Tryz.underlying54
  a37 := Tryz.isAgg54
  z37 := Tryz.sizeOf54
  v37 := Tryz.zeroValue54
  t46 := Tryz.underlying105
  a46 := Tryz.isAgg105
  z46 := Tryz.sizeOf105
  v46 := Tryz.zeroValue105
  t51 := Tryz.underlying126
  a51 := Tryz.isAgg126
  z51 := Tryz.sizeOf126
  v51 := Tryz.zeroValue126
  t53 := Tryz.underlying129
  a53 := Tryz.isAgg129
  z53 := Tryz.sizeOf129
  v53 := Tryz.zeroValue129
  t171 := Tryz.underlying148
  a171 := Tryz.isAgg148
  z171 := Tryz.sizeOf148
  v171 := Tryz.zeroValue148
  t173 := Tryz.underlying151
  a173 := Tryz.isAgg151
  z173 := Tryz.sizeOf151
  v173 := Tryz.zeroValue151
  t212 := Tryz.underlying162
  a212 := Tryz.isAgg162
  z212 := Tryz.sizeOf162
  v212 := Tryz.zeroValue162
  t213 := Tryz.underlying163
  a213 := Tryz.isAgg163
  z213 := Tryz.sizeOf163
  t232 := Tryz.underlying175
  a232 := Tryz.isAgg175
  z232 := Tryz.sizeOf175
  v232 := Tryz.zeroValue175
  t233 := Tryz.underlying176
  a233 := Tryz.isAgg176
  z233 := Tryz.sizeOf176
  v233 := Tryz.zeroValue176
  g17 := by kernel_rfl
  g18 := by kernel_rfl
  g19 := by kernel_rfl
  i0 := by kernel_rfl
  i2 := by kernel_rfl
  i3 := by kernel_rfl
  i4 := by kernel_rfl
  i5 := by kernel_rfl
  i9 := by kernel_rfl
  i20 := by kernel_rfl
  i37 := by kernel_rfl
  i46 := by kernel_rfl
  i51 := by kernel_rfl
  i53 := by kernel_rfl
  i171 := by kernel_rfl
  i173 := by kernel_rfl
  i212 := by kernel_rfl
  i232 := by kernel_rfl
  i233 := by kernel_rfl
  m17 := by kernel_rfl
  m18 := by kernel_rfl
  m19 := by kernel_rfl }
open Go.RowKit Go.Sort Go.Lib in
/-- strconv.Itoa: "Itoa is equivalent to FormatInt(int64(i), 10).": i's DECIMAL NUMERAL ('Lib.itoa': a '-' where i is negative, then the digits), FOR EVERY int. The world behind the call: the world before it, new blocks behind the heap (the library's 'var a [24]byte'), draws. (LAID: no walk: one application.) -/
theorem Tryz.strconv_Itoa (n : Int) (h0 : -9223372036854775808 ≤ n) (h1 : n ≤ 9223372036854775807) (w : World) (htab : Lib.TabIs Tryz.prog w "internal/strconv.uint64pow10" .u64 Lib.pow10Tab) :
    Calls Tryz.prog 80 #[.int .i64 n] w fun e w' => e = .returned (.string ⟨(Lib.itoa n).toArray⟩) ∧ ∃ k os, w' = grow (w.drewN k) os := Any.strconv_Itoa Tryz.laysM171 n h0 h1 w htab
def Tryz.laysC172_ren : Go.Shelf.Ren := ⟨fun | 172 => 98 | 244 => 128 | 245 => 129 | 247 => 143 | 279 => 144 | 280 => 145 | 281 => 146 | 282 => 147 | 287 => 158 | 316 => 159 | 171 => 80 | 205 => 160 | 321 => 168 | 322 => 169 | 243 => 113 | 246 => 134 | 283 => 149 | 284 => 150 | 285 => 151 | 286 => 152 | 129 => 162 | 317 => 161 | 318 => 163 | 319 => 164 | 320 => 165 | 337 => 170 | 338 => 171 | n => n, fun | 9 => 9 | 3 => 3 | 75 => 90 | 76 => 91 | 4 => 4 | 5 => 5 | 167 => 141 | 37 => 54 | 0 => 0 | 85 => 142 | 2 => 2 | 168 => 144 | 53 => 129 | 175 => 155 | 46 => 105 | 210 => 159 | 127 => 113 | 145 => 173 | 143 => 171 | 21 => 21 | 171 => 148 | 173 => 151 | 212 => 162 | 51 => 126 | 20 => 20 | 213 => 163 | 232 => 175 | 233 => 176 | 80 => 94 | n => n, fun | 15 => 1 | 16 => 2 | 17 => 3 | 18 => 6 | 19 => 7 | n => n⟩
theorem Tryz.laysC172 : Go.Proofs.LaysC.n172 Tryz.prog Tryz.laysC172_ren := {
  mixed := by kernel_rfl
  f129 := Tryz.func162.trans (congrArg some (by kernel_rfl))
  f171 := Tryz.func80.trans (congrArg some (by kernel_rfl))
  f172 := Tryz.func98.trans (congrArg some (by kernel_rfl))
  f205 := Tryz.func160.trans (congrArg some (by kernel_rfl))
  f243 := Tryz.func113.trans (congrArg some (by kernel_rfl))
  f244 := Tryz.func128.trans (congrArg some (by kernel_rfl))
  f245 := Tryz.func129.trans (congrArg some (by kernel_rfl))
  f246 := Tryz.func134.trans (congrArg some (by kernel_rfl))
  f247 := Tryz.func143.trans (congrArg some (by kernel_rfl))
  f279 := Tryz.func144.trans (congrArg some (by kernel_rfl))
  f280 := Tryz.func145.trans (congrArg some (by kernel_rfl))
  f281 := Tryz.func146.trans (congrArg some (by kernel_rfl))
  f282 := Tryz.func147.trans (congrArg some (by kernel_rfl))
  f283 := Tryz.func149.trans (congrArg some (by kernel_rfl))
  f284 := Tryz.func150.trans (congrArg some (by kernel_rfl))
  f285 := Tryz.func151.trans (congrArg some (by kernel_rfl))
  f286 := Tryz.func152.trans (congrArg some (by kernel_rfl))
  f287 := Tryz.func158.trans (congrArg some (by kernel_rfl))
  f316 := Tryz.func159.trans (congrArg some (by kernel_rfl))
  f317 := Tryz.func161.trans (congrArg some (by kernel_rfl))
  f318 := Tryz.func163.trans (congrArg some (by kernel_rfl))
  f319 := Tryz.func164.trans (congrArg some (by kernel_rfl))
  f320 := Tryz.func165.trans (congrArg some (by kernel_rfl))
  f321 := Tryz.func168.trans (congrArg some (by kernel_rfl))
  f322 := Tryz.func169.trans (congrArg some (by kernel_rfl))
  f337 := Tryz.func170.trans (congrArg some (by kernel_rfl))
  f338 := Tryz.func171.trans (congrArg some (by kernel_rfl))
  t0 := Tryz.underlying0
  a0 := Tryz.isAgg0
  z0 := Tryz.sizeOf0
  v0 := Tryz.zeroValue0
  t2 := Tryz.underlying2
  a2 := Tryz.isAgg2
  z2 := Tryz.sizeOf2
  v2 := Tryz.zeroValue2
  t3 := Tryz.underlying3
  a3 := Tryz.isAgg3
  z3 := Tryz.sizeOf3
  v3 := Tryz.zeroValue3
  t4 := Tryz.underlying4
  a4 := Tryz.isAgg4
  z4 := Tryz.sizeOf4
  v4 := Tryz.zeroValue4
  t5 := Tryz.underlying5
  a5 := Tryz.isAgg5
  z5 := Tryz.sizeOf5
  v5 := Tryz.zeroValue5
  t9 := Tryz.underlying9
  a9 := Tryz.isAgg9
  z9 := Tryz.sizeOf9
  v9 := Tryz.zeroValue9
  t20 := Tryz.underlying20
  a20 := Tryz.isAgg20
  z20 := Tryz.sizeOf20
  v20 := Tryz.zeroValue20
  t21 := Tryz.underlying21
  a21 := Tryz.isAgg21
  z21 := Tryz.sizeOf21
  v21 := Tryz.zeroValue21
  t37 := Tryz.underlying54
  a37 := Tryz.isAgg54
  z37 := Tryz.sizeOf54
  v37 := Tryz.zeroValue54
  t46 := Tryz.underlying105
  a46 := Tryz.isAgg105
  z46 := Tryz.sizeOf105
  v46 := Tryz.zeroValue105
  t51 := Tryz.underlying126
  a51 := Tryz.isAgg126
  z51 := Tryz.sizeOf126
  v51 := Tryz.zeroValue126
  t53 := Tryz.underlying129
  a53 := Tryz.isAgg129
  z53 := Tryz.sizeOf129
  v53 := Tryz.zeroValue129
  t75 := Tryz.underlying90
  a75 := Tryz.isAgg90
  z75 := Tryz.sizeOf90
  v75 := Tryz.zeroValue90
  t76 := Tryz.underlying91
  a76 := Tryz.isAgg91
  z76 := Tryz.sizeOf91
  v76 := Tryz.zeroValue91
  t85 := Tryz.underlying142
  a85 := Tryz.isAgg142
  z85 := Tryz.sizeOf142
  v85 := Tryz.zeroValue142
  t127 := Tryz.underlying113
  a127 := Tryz.isAgg113
  z127 := Tryz.sizeOf113
  v127 := Tryz.zeroValue113
  t143 := Tryz.underlying171
  a143 := Tryz.isAgg171
  z143 := Tryz.sizeOf171
  v143 := Tryz.zeroValue171
  t145 := Tryz.underlying173
  a145 := Tryz.isAgg173
  z145 := Tryz.sizeOf173
  v145 := Tryz.zeroValue173
  t167 := Tryz.underlying141
  a167 := Tryz.isAgg141
  z167 := Tryz.sizeOf141
  v167 := Tryz.zeroValue141
  t168 := Tryz.underlying144
  a168 := Tryz.isAgg144
  z168 := Tryz.sizeOf144
  v168 := Tryz.zeroValue144
  t171 := Tryz.underlying148
  a171 := Tryz.isAgg148
  z171 := Tryz.sizeOf148
  v171 := Tryz.zeroValue148
  t173 := Tryz.underlying151
  a173 := Tryz.isAgg151
  z173 := Tryz.sizeOf151
  v173 := Tryz.zeroValue151
  t175 := Tryz.underlying155
  a175 := Tryz.isAgg155
  z175 := Tryz.sizeOf155
  v175 := Tryz.zeroValue155
  t210 := Tryz.underlying159
  a210 := Tryz.isAgg159
  z210 := Tryz.sizeOf159
  v210 := Tryz.zeroValue159
  t212 := Tryz.underlying162
  a212 := Tryz.isAgg162
  z212 := Tryz.sizeOf162
  v212 := Tryz.zeroValue162
  t213 := Tryz.underlying163
  a213 := Tryz.isAgg163
  z213 := Tryz.sizeOf163
  t232 := Tryz.underlying175
  a232 := Tryz.isAgg175
  z232 := Tryz.sizeOf175
  v232 := Tryz.zeroValue175
  t233 := Tryz.underlying176
  a233 := Tryz.isAgg176
  z233 := Tryz.sizeOf176
  v233 := Tryz.zeroValue176
  g15 := by kernel_rfl
  g16 := by kernel_rfl
  g17 := by kernel_rfl
  g18 := by kernel_rfl
  g19 := by kernel_rfl
  t80 := Tryz.underlying94
  a80 := Tryz.isAgg94
  z80 := Tryz.sizeOf94
  v80 := Tryz.zeroValue94
  i0 := by kernel_rfl
  i2 := by kernel_rfl
  i3 := by kernel_rfl
  i4 := by kernel_rfl
  i5 := by kernel_rfl
  i9 := by kernel_rfl
  i20 := by kernel_rfl
  i21 := by kernel_rfl
  i37 := by kernel_rfl
  i46 := by kernel_rfl
  i51 := by kernel_rfl
  i53 := by kernel_rfl
  i75 := by kernel_rfl
  i76 := by kernel_rfl
  i80 := by kernel_rfl
  i85 := by kernel_rfl
  i127 := by kernel_rfl
  i143 := by kernel_rfl
  i145 := by kernel_rfl
  i167 := by kernel_rfl
  i168 := by kernel_rfl
  i171 := by kernel_rfl
  i173 := by kernel_rfl
  i175 := by kernel_rfl
  i210 := by kernel_rfl
  i212 := by kernel_rfl
  i232 := by kernel_rfl
  i233 := by kernel_rfl
  m15 := by kernel_rfl
  m16 := by kernel_rfl
  m17 := by kernel_rfl
  m18 := by kernel_rfl
  m19 := by kernel_rfl
  c0 := by kernel_rfl
  c2 := by kernel_rfl
  c3 := by kernel_rfl
  c4 := by kernel_rfl
  c5 := by kernel_rfl
  c9 := by kernel_rfl
  c20 := by kernel_rfl
  c21 := by kernel_rfl
  c37 := by kernel_rfl
  c46 := by kernel_rfl
  c51 := by kernel_rfl
  c53 := by kernel_rfl
  c75 := by kernel_rfl
  c76 := by kernel_rfl
  c80 := by kernel_rfl
  c85 := by kernel_rfl
  c127 := by kernel_rfl
  c143 := by kernel_rfl
  c145 := by kernel_rfl
  c167 := by kernel_rfl
  c168 := by kernel_rfl
  c171 := by kernel_rfl
  c173 := by kernel_rfl
  c175 := by kernel_rfl
  c210 := by kernel_rfl
  c212 := by kernel_rfl
  c213 := by kernel_rfl
  c232 := by kernel_rfl
  c233 := by kernel_rfl }
open Go.RowKit in
/-- strconv.Atoi, AT EVERY STRING THAT SPELLS AN int ('Lib.atoiAll .. = .ok v'; of whatever length: leading zeros count): v, AND NO ERROR. The world: as it was, or with the one new row that '[]byte(..)' lays. (LAID: no walk: one application.) -/
theorem Tryz.strconv_Atoi_ok (s : ByteArray) (hmax : s.size ≤ 9223372036854775806) (v : Int) (h : Lib.atoiAll s.data.toList = .ok v) (w : World) :
    Calls Tryz.prog 98 #[.string s] w fun e w' => e = .returned (.tuple #[.int .i64 v, .nilIface]) ∧ (w' = w ∨ ∃ t, w' = Lib.bytesWorld w 5 t) := Any.strconv_Atoi_ok Tryz.laysC172 s hmax v h w
def Tryz.lays219_ren : Go.Shelf.Ren := ⟨fun | 219 => 120 | 217 => 135 | 225 => 136 | 224 => 137 | 267 => 138 | 266 => 153 | 314 => 154 | n => n, fun | 9 => 9 | 3 => 3 | 4 => 4 | 5 => 5 | 46 => 105 | 146 => 127 | 51 => 126 | n => n, fun | 1 => 0 | n => n⟩
theorem Tryz.lays219 : Go.Proofs.Lays.n219 Tryz.prog Tryz.lays219_ren := {
  mixed := by kernel_rfl
  f217 := Tryz.func135.trans (congrArg some (by kernel_rfl))
  f219 := Tryz.func120.trans (congrArg some (by kernel_rfl))
  f224 := Tryz.func137.trans (congrArg some (by kernel_rfl))
  f225 := Tryz.func136.trans (congrArg some (by kernel_rfl))
  f266 := Tryz.func153.trans (congrArg some (by kernel_rfl))
  f267 := Tryz.func138.trans (congrArg some (by kernel_rfl))
  f314 := Tryz.func154.trans (congrArg some (by kernel_rfl))
  t3 := Tryz.underlying3
  a3 := Tryz.isAgg3
  z3 := Tryz.sizeOf3
  v3 := Tryz.zeroValue3
  t4 := Tryz.underlying4
  a4 := Tryz.isAgg4
  z4 := Tryz.sizeOf4
  v4 := Tryz.zeroValue4
  t5 := Tryz.underlying5
  a5 := Tryz.isAgg5
  z5 := Tryz.sizeOf5
  v5 := Tryz.zeroValue5
  t9 := Tryz.underlying9
  a9 := Tryz.isAgg9
  z9 := Tryz.sizeOf9
  v9 := Tryz.zeroValue9
  t46 := Tryz.underlying105
  a46 := Tryz.isAgg105
  z46 := Tryz.sizeOf105
  v46 := Tryz.zeroValue105
  t51 := Tryz.underlying126
  a51 := Tryz.isAgg126
  z51 := Tryz.sizeOf126
  v51 := Tryz.zeroValue126
  t146 := Tryz.underlying127
  a146 := Tryz.isAgg127
  z146 := Tryz.sizeOf127
  v146 := Tryz.zeroValue127
  g1 := by kernel_rfl }
open Go.RowKit Go.Lib in
/-- internal/stringslite.Index (what strings.Index calls) AT A substr OF ONE BYTE c: IT RETURNS 'Lib.indexByte s c'; the world is as it was. (LAID: no walk: one application.) -/
theorem Tryz.stringslite_Index_one (s : ByteArray) (c : UInt8) (w : World) :
    Calls Tryz.prog 120 #[.string s, .string ⟨#[c]⟩] w fun e w' => e = .returned (.int .i64 (Lib.indexByte s.data.toList c)) ∧ w' = w := Any.stringslite_Index_one Tryz.lays219 s c w
def Tryz.lays105_ren : Go.Shelf.Ren := ⟨fun | 105 => 62 | 212 => 102 | 99 => 103 | 165 => 104 | 166 => 79 | 170 => 105 | 169 => 81 | 263 => 130 | 264 => 131 | 206 => 119 | 240 => 112 | 241 => 132 | 276 => 133 | 277 => 148 | n => n, fun | 9 => 9 | 3 => 3 | 4 => 4 | 20 => 20 | 0 => 0 | 46 => 105 | 109 => 106 | 5 => 5 | 72 => 88 | 76 => 91 | 51 => 126 | 146 => 127 | 53 => 129 | 148 => 130 | 70 => 86 | 37 => 54 | 75 => 90 | 127 => 113 | 164 => 132 | 80 => 94 | n => n, fun | n => n⟩
theorem Tryz.lays105 : Go.Proofs.Lays.n105 Tryz.prog Tryz.lays105_ren := {
  mixed := by kernel_rfl
  f99 := Tryz.func103.trans (congrArg some (by kernel_rfl))
  f105 := Tryz.func62.trans (congrArg some (by kernel_rfl))
  f165 := Tryz.func104.trans (congrArg some (by kernel_rfl))
  f166 := Tryz.func79.trans (congrArg some (by kernel_rfl))
  f169 := Tryz.func81.trans (congrArg some (by kernel_rfl))
  f170 := Tryz.func105.trans (congrArg some (by kernel_rfl))
  f206 := Tryz.func119.trans (congrArg some (by kernel_rfl))
  f212 := Tryz.func102.trans (congrArg some (by kernel_rfl))
  f240 := Tryz.func112.trans (congrArg some (by kernel_rfl))
  f241 := Tryz.func132.trans (congrArg some (by kernel_rfl))
  f263 := Tryz.func130.trans (congrArg some (by kernel_rfl))
  f264 := Tryz.func131.trans (congrArg some (by kernel_rfl))
  f276 := Tryz.func133.trans (congrArg some (by kernel_rfl))
  f277 := Tryz.func148.trans (congrArg some (by kernel_rfl))
  t0 := Tryz.underlying0
  a0 := Tryz.isAgg0
  z0 := Tryz.sizeOf0
  v0 := Tryz.zeroValue0
  t3 := Tryz.underlying3
  a3 := Tryz.isAgg3
  z3 := Tryz.sizeOf3
  v3 := Tryz.zeroValue3
  t4 := Tryz.underlying4
  a4 := Tryz.isAgg4
  z4 := Tryz.sizeOf4
  v4 := Tryz.zeroValue4
  t5 := Tryz.underlying5
  a5 := Tryz.isAgg5
  z5 := Tryz.sizeOf5
  v5 := Tryz.zeroValue5
  t9 := Tryz.underlying9
  a9 := Tryz.isAgg9
  z9 := Tryz.sizeOf9
  v9 := Tryz.zeroValue9
  t20 := Tryz.underlying20
  a20 := Tryz.isAgg20
  z20 := Tryz.sizeOf20
  v20 := Tryz.zeroValue20
  t37 := Tryz.underlying54
  a37 := Tryz.isAgg54
  z37 := Tryz.sizeOf54
  v37 := Tryz.zeroValue54
  t46 := Tryz.underlying105
  a46 := Tryz.isAgg105
  z46 := Tryz.sizeOf105
  v46 := Tryz.zeroValue105
  t51 := Tryz.underlying126
  a51 := Tryz.isAgg126
  z51 := Tryz.sizeOf126
  v51 := Tryz.zeroValue126
  t53 := Tryz.underlying129
  a53 := Tryz.isAgg129
  z53 := Tryz.sizeOf129
  v53 := Tryz.zeroValue129
  t70 := Tryz.underlying86
  a70 := Tryz.isAgg86
  z70 := Tryz.sizeOf86
  v70 := Tryz.zeroValue86
  t72 := Tryz.underlying88
  a72 := Tryz.isAgg88
  z72 := Tryz.sizeOf88
  v72 := Tryz.zeroValue88
  t75 := Tryz.underlying90
  a75 := Tryz.isAgg90
  z75 := Tryz.sizeOf90
  v75 := Tryz.zeroValue90
  t76 := Tryz.underlying91
  a76 := Tryz.isAgg91
  z76 := Tryz.sizeOf91
  v76 := Tryz.zeroValue91
  t109 := Tryz.underlying106
  a109 := Tryz.isAgg106
  z109 := Tryz.sizeOf106
  v109 := Tryz.zeroValue106
  t127 := Tryz.underlying113
  a127 := Tryz.isAgg113
  z127 := Tryz.sizeOf113
  v127 := Tryz.zeroValue113
  t146 := Tryz.underlying127
  a146 := Tryz.isAgg127
  z146 := Tryz.sizeOf127
  v146 := Tryz.zeroValue127
  t148 := Tryz.underlying130
  a148 := Tryz.isAgg130
  z148 := Tryz.sizeOf130
  v148 := Tryz.zeroValue130
  t164 := Tryz.underlying132
  a164 := Tryz.isAgg132
  z164 := Tryz.sizeOf132
  v164 := Tryz.zeroValue132 }
theorem Tryz.Builder_Extra_105 : Builder.Extra Tryz.prog Tryz.lays105_ren := {
  sizeBuilder := by kernel_rfl
  liesBuilder := by kernel_rfl
  t5 := Tryz.underlying5
  a5 := Tryz.isAgg5
  z5 := Tryz.sizeOf5
  v5 := Tryz.zeroValue5
  infoByte := by kernel_rfl
  cellsByte := by kernel_rfl
  sizeByte := by kernel_rfl
  neB5 := by decide }
open Go.RowKit Go.Lib in
/-- **strings.Repeat: count ≥ 0, the result within one allocation: count copies of s.** (LAID: no walk: one application.) -/
theorem Tryz.strings_Repeat (s : ByteArray) (c : Nat) (w : World) (hc : c ≤ 9223372036854775807) (hlen : s.size * c ≤ 140737488355328) :
    Calls Tryz.prog 62 #[.string s, .int .i64 c] w fun e w' => e = .returned (.string ⟨(Lib.repeatL s.data.toList c).toArray⟩) ∧ Below w.heap.size w w' := Any.strings_Repeat Tryz.lays105 Tryz.Builder_Extra_105 s c w hc hlen
end Go.Proofs


namespace Go.VS.YtiaijoomngefnaaGreatDoor
open Go Go.VL Go.VN Go.RowKit Go.Proofs
set_option maxRecDepth 100000
set_option linter.unusedVariables false

theorem gd_take {l : List Int} {m i : Nat} (h : i < m) : (l.take m).getD i 0 = l.getD i 0 := by
  rw [List.getD_eq_getElem?_getD, List.getD_eq_getElem?_getD, List.getElem?_take, if_pos h]
theorem take_snoc {l : List Int} {m : Nat} (h : m < l.length) : l.take (m + 1) = l.take m ++ [l.getD m 0] := by
  rw [List.take_add_one, List.getD_eq_getElem?_getD, List.getElem?_eq_getElem h]; rfl
theorem s_trimmed (l : List Int) : Spc X 115 [.one (slc eI l)] (.one (slc eI (tr l))) := by
  refine Spc.start Tryz.func115 rfl (h := fun hs R hR => ?_)
  have hlen := (sane_I hs.1).1
  unfold Tryz.f115
  simp only [entryE, PA.av]
  refine walk (hQ := ?_)
  refine Lp.intro (fun m : Nat => ⟨[(0, vP (slc eI (l.take m)))], [], 0⟩) (fun m => m ≤ l.length ∧ tr (l.take m) = tr l) (fun m => m) l.length ⟨Nat.le_refl _, by simp⟩ (h0 := le_auto (he := ⟨⟨_, rfl, avLe_slc (by simp)⟩, trivial⟩)) (hr := fun m K ⟨hm, he⟩ hK => ?_)
  have hl : (l.take m).length = m := by simp [hm]
  refine walk (hQ := ?_)
  refine R_g_if (h1 := fun hp => ?_) (h2 := fun hp => ?_)
  · simp only [if_true, hl] at hp
    refine walk (hQ := ?_)
    obtain ⟨q, rfl⟩ : ∃ q, m = q + 1 := ⟨m - 1, by omega⟩
    have e1 : ((l.take (q + 1)).length - 1 : Int).toNat = q := by omega
    rw [e1, gd_take (by omega)]
    refine W_if (ht := fun h0 => ?_) (hf := fun h0 => ?_)
    · refine walk (hQ := ?_)
      refine hK _ q ⟨by omega, ?_⟩ (by omega) ?_
      · rw [← he, take_snoc (by omega), h0, tr_zero]
      · exact le_auto (he := ⟨⟨_, rfl, avLe_slc (by rw [e1, List.take_take, Nat.min_eq_left (by omega)])⟩, trivial⟩)
    · refine walk (hQ := ?_)
      refine hR _ (ret1 (hp := ?_))
      rw [← he, take_snoc (by omega), tr_last _ _ h0]
  · simp only [if_true, hl] at hp
    refine walk (hQ := ?_)
    refine hR _ (ret1 (hp := ?_))
    rw [← he]
    obtain rfl : m = 0 := by omega
    simp [tr]
/-- A number as it is handed on. -/
abbrev nt (l : List Int) : PA := .agg [slc eI l]
theorem s_of (l : List Int) : Spc X 87 [.one (slc eI l)] (nt (tr l)) := by
  refine Spc.start Tryz.func87 rfl (h := fun hs R hR => ?_)
  unfold Tryz.f87
  simp only [entryE, PA.av]
  refine walk (hQ := ?_)
  refine R_call (s_trimmed l) (hK := ?_)
  refine walk (hQ := ?_)
  refine W_if (ht := fun h0 => ?_) (hf := fun h0 => ?_)
  · refine walk (hQ := ?_)
    refine hR _ (ret1 (hp := ?_))
    have h1 : tr l = [] := List.eq_nil_of_length_eq_zero (by omega)
    rw [h1]; rfl
  · refine walk (hQ := ?_)
    refine hR _ (ret1 (hp := ?_))
    rfl
theorem s_compare (a b : List Int) : Spc X 88 [.one (slc eI a), .one (slc eI b)] (.one (.int .i64 (cmpL a b))) := by
  refine Spc.start Tryz.func88 rfl (h := fun hs R hR => ?_)
  have ha := sane_I hs.1
  have hb := sane_I hs.2.1
  unfold Tryz.f88
  simp only [entryE, PA.av]
  refine walk (hQ := ?_)
  refine W_if (ht := fun h0 => ?_) (hf := fun h0 => ?_)
  · refine walk (hQ := ?_)
    refine W_if (ht := fun h1 => ?_) (hf := fun h1 => ?_)
    · refine walk (hQ := ?_)
      refine hR _ (ret1 (hp := ?_))
      unfold cmpL
      rw [if_pos (by omega)]
    · refine walk (hQ := ?_)
      refine hR _ (ret1 (hp := ?_))
      unfold cmpL
      rw [if_neg (by omega), if_pos (by omega)]
  · refine walk (hQ := ?_)
    refine Lp.intro (fun i : Nat => ⟨[(0, vP (slc eI a)), (1, vP (slc eI b)), (5, vI ((i : Int) - 1))], [], 0⟩) (fun i => i ≤ a.length ∧ cmpFrom a b i = cmpFrom a b a.length) (fun i => i) a.length ⟨Nat.le_refl _, rfl⟩ (h0 := le_auto) (hr := fun i K ⟨hi, he⟩ hK => ?_)
    refine walk (hQ := ?_)
    refine W_if (ht := fun h1 => ?_) (hf := fun h1 => ?_)
    · obtain ⟨j, rfl⟩ : ∃ j, i = j + 1 := ⟨i - 1, by omega⟩
      have e : (((j + 1 : Nat) : Int) - 1) = (j : Int) := by omega
      rw [e]
      rw [cmpFrom] at he
      refine walk (hQ := ?_)
      have hc : cmpL a b = cmpFrom a b a.length := by unfold cmpL; rw [if_neg (by omega), if_neg (by omega)]
      have ea : rd a (j : Int) = a.getD j 0 := rfl
      have eb : rd b (j : Int) = b.getD j 0 := rfl
      rw [ea, eb] at he
      refine W_if (ht := fun h2 => ?_) (hf := fun h2 => ?_)
      · refine walk (hQ := ?_)
        refine W_if (ht := fun h3 => ?_) (hf := fun h3 => ?_)
        · refine walk (hQ := ?_)
          refine hR _ (ret1 (hp := ?_))
          rw [hc, ← he, if_pos h3]
        · refine walk (hQ := ?_)
          refine hR _ (ret1 (hp := ?_))
          rw [hc, ← he, if_neg h3, if_pos (by omega)]
      · refine walk (hQ := ?_)
        refine hK _ j ⟨by omega, ?_⟩ (by omega) le_auto
        rw [← he, if_neg (by omega), if_neg (by omega)]
    · refine walk (hQ := ?_)
      refine hR _ (ret1 (hp := ?_))
      obtain rfl : i = 0 := by omega
      unfold cmpL
      rw [if_neg (by omega), if_neg (by omega), ← he]
      rfl
theorem s_Cmp (a b : List Int) : Spc X 52 [nt a, nt b] (.one (.int .i64 (cmpL a b))) := by
  refine Spc.start Tryz.func52 rfl (h := fun hs R hR => ?_)
  unfold Tryz.f52
  simp only [entryE, PA.av, List.map_cons, List.map_nil]
  refine walk (hQ := ?_)
  refine R_call (s_compare a b) (hK := ?_)
  refine walk (hQ := ?_)
  exact hR _ (ret1 (hp := rfl))
theorem s_fits (l : List Int) : Spc X 109 [.one (slc eI l)] (if l.length > 200 then .tup [(true, [slc eI []]), (false, [.int .i64 3])] else .tup [(true, [slc eI (tr l)]), (false, [.int .i64 0])]) := by
  refine Spc.start Tryz.func109 rfl (h := fun hs R hR => ?_)
  unfold Tryz.f109
  simp only [entryE, PA.av]
  refine walk (hQ := ?_)
  refine W_if (ht := fun h0 => ?_) (hf := fun h0 => ?_)
  · rw [if_pos (by omega)] at hR
    refine walk (hQ := ?_)
    exact hR _ (ret2 (hp := rfl))
  · rw [if_neg (by omega)] at hR
    refine walk (hQ := ?_)
    refine R_call (s_of l) (hK := ?_)
    refine walk (hQ := ?_)
    exact hR _ (ret2 (hp := rfl))
theorem s_mul (a b : List Int) (ha : Dig a) (hb : Dig b) (la : a.length ≤ 1000000) (lb : b.length ≤ 1000000) : Spc X 116 [.one (slc eI a), .one (slc eI b)] (.one (slc eI (digs (val a * val b).toNat))) := by
  refine Spc.start Tryz.func116 rfl (h := fun hs R hR => ?_)
  unfold Tryz.f116
  simp only [entryE, PA.av]
  refine walk (hQ := ?_)
  refine Lp.intro2 (fun (i : Nat) (out : List Int) => ⟨[(0, vP (slc eI a)), (1, vP (slc eI b)), (5, .one (.own 0 1 (a.length + b.length))), (17, vP (slc eI a)), (18, vI a.length), (19, vI i)], [(0, (.pu 3 (out.flatMap eI), false))], 1⟩)
    (fun i out => Outer a b out (a.length + b.length) i ∧ i ≤ a.length) (fun i _ => a.length - i) 0 _ ⟨Outer.start a b _, Nat.zero_le _⟩ (h0 := le_auto) (hr := fun i out0 K ⟨hO, hi⟩ hK => ?_)
  have hlen := hO.len
  refine walk (hQ := ?_)
  refine W_if (ht := fun h1 => ?_) (hf := fun h1 => ?_)
  · refine walk (hQ := ?_)
    refine Lp.intro3 (fun (j : Nat) (out : List Int) (c : Int) => ⟨[(0, vP (slc eI a)), (1, vP (slc eI b)), (5, .one (.own 0 1 (a.length + b.length))), (6, vI i), (7, vI (a.getD i 0)), (8, vI c), (17, vP (slc eI a)), (18, vI a.length), (19, vI i), (24, vP (slc eI b)), (25, vI b.length), (26, vI j)], [(0, (.pu 3 (out.flatMap eI), false))], 1⟩)
      (fun j out c => Inner a b out0 out i j c ∧ j ≤ b.length) (fun j _ _ => b.length - j) 0 _ 0 ⟨Inner.start hO.dig hO.top, Nat.zero_le _⟩ (h0 := le_auto) (hr := fun j out c K' ⟨hI, hj⟩ hK' => ?_)
    have hlen' : out.length = a.length + b.length := by rw [hI.len, hlen]
    have hx : 0 ≤ a.getD i 0 ∧ a.getD i 0 < 10000 := dig_rd ha i
    have hc0 := hI.c0
    have hc1 := hI.c1
    refine walk (hQ := ?_)
    refine W_if (ht := fun h2 => ?_) (hf := fun h2 => ?_)
    · have hy : 0 ≤ b.getD j 0 ∧ b.getD j 0 < 10000 := dig_rd hb j
      have ho : 0 ≤ out.getD (i + j) 0 ∧ out.getD (i + j) 0 < 10000 := dig_rd hI.dig (i + j : Nat)
      have hxy := mul_le_ hx.1 hx.2 hy.1 hy.2
      refine walk (hQ := ?_)
      refine hK' _ (j + 1) _ _ ⟨hI.next (q := (c + (out.getD (i + j) 0 + a.getD i 0 * b.getD j 0)) / 10000) (r := (c + (out.getD (i + j) 0 + a.getD i 0 * b.getD j 0)) % 10000) (by omega) (by omega) (by omega) (by omega) (by omega) (by omega) ?_, by omega⟩ (by omega) ?_
      · exact (Int.mul_ediv_add_emod _ 10000).symm
      · exact le_auto
    · obtain rfl : j = b.length := by omega
      have h3 : out.getD (i + b.length) 0 = 0 := hI.top (i + b.length) (Nat.le_refl _)
      refine walk (hQ := ?_)
      refine hK _ (i + 1) _ ⟨hO.next hI (by omega) (by omega), by omega⟩ (by omega) ?_
      rw [h3, Int.zero_add]
      exact le_auto
  · obtain rfl : i = a.length := by omega
    refine walk (hQ := ?_)
    refine R_callF (s_trimmed out0) (hK := ?_)
    refine walk (hQ := ?_)
    refine hR _ (ret1 (hp := ?_))
    rw [hO.done]
end Go.VS.YtiaijoomngefnaaGreatDoor


namespace Go.VS.YtiaijoomngefnaaGreatDoor
open Go Go.VL Go.VN Go.RowKit Go.Proofs
set_option maxRecDepth 100000
set_option linter.unusedVariables false

theorem s_cloneI (a : List Int) (la : a.length ≤ 1000000) : Spc X 85 [.one (slc eI a)] (.one (slc eI a)) := by
  refine Spc.start Tryz.func85 rfl (h := fun hs R hR => ?_)
  unfold Tryz.f85
  simp only [entryE, PA.av]
  by_cases h0 : a = []
  · subst h0
    refine walk (hQ := ?_)
    refine W_ub (ht := ?_) (hf := ?_)
    · refine walk (hQ := ?_)
      exact hR _ (ret1 (hp := rfl))
    · refine walk (hQ := ?_)
      exact hR _ (ret1 (hp := rfl))
  · have h1 := List.length_pos_iff.2 h0
    refine walk (hQ := ?_)
    exact hR _ (ret1 (hp := rfl))
/-- The same, of a list that is not empty: the copy is the caller's. -/
theorem o_cloneI (a : List Int) (la : a.length ≤ 1000000) (h0 : 0 < a.length) : SpcS X 85 [vP (slc eI a)] [] (.one (.own 0 1 a.length)) [(0, (.pu 3 (a.flatMap eI), false))] := by
  refine SpcS.start 0 Tryz.func85 rfl (h := fun hs hs2 R hR => ?_)
  unfold Tryz.f85
  simp only [entryV]
  refine walk (hQ := ?_)
  refine hR _ (retS1 (hy := ?_) (hle := ?_))
  · simp
  · exact ⟨rfl, trivial⟩
theorem gd_set {l : List Int} {i : Nat} {z : Int} (h : i < l.length) : (l.set i z).getD i 0 = z := by
  rw [List.getD_eq_getElem?_getD, List.getElem?_set_self h]; rfl
theorem s_sub (m n : Nat) (hmn : n ≤ m) (lm : (digs m).length ≤ 1000000) : Spc X 111 [.one (slc eI (digs m)), .one (slc eI (digs n))] (.one (slc eI (digs (m - n)))) := by
  refine Spc.start Tryz.func111 rfl (h := fun hs R hR => ?_)
  have la := lm
  have ha := dig_digs m
  have hb := dig_digs n
  have hv : val (digs n) ≤ val (digs m) := by rw [val_digs, val_digs]; omega
  have lb : (digs n).length ≤ (digs m).length := len_of_lt hmn
  have er : digs (m - n) = digs (val (digs m) - val (digs n)).toNat := by rw [val_digs, val_digs]; congr 1; omega
  unfold Tryz.f111
  simp only [entryE, PA.av]
  rw [er] at hR
  generalize digs m = a at *
  generalize digs n = b at *
  rcases Nat.eq_zero_or_pos a.length with h0 | h0
  · obtain rfl := List.eq_nil_of_length_eq_zero h0
    obtain rfl : b = [] := List.eq_nil_of_length_eq_zero (by simpa using lb)
    refine walk (hQ := ?_)
    refine R_call (s_cloneI _ la) (hK := ?_)
    refine walk (hQ := ?_)
    refine Lp.intro (fun _ : Unit => ⟨[(5, vP (slc eI [])), (11, vI 0), (12, vI 0)], [], 0⟩) (fun _ => True) (fun _ => 0) () trivial (h0 := le_auto) (hr := fun _ K _ hK => ?_)
    refine walk (hQ := ?_)
    refine R_call (s_trimmed []) (hK := ?_)
    refine walk (hQ := ?_)
    exact hR _ (ret1 (hp := by simp [tr, val, digs_zero]))
  · refine walk (hQ := ?_)
    refine R_callN (o_cloneI a la h0) (hK := ?_)
    refine walk (hQ := ?_)
    refine Lp.intro3 (fun (i : Nat) (out : List Int) (c : Int) => ⟨[(0, vP (slc eI a)), (1, vP (slc eI b)), (5, .one (.own 0 1 a.length)), (6, vI c), (11, vI a.length), (12, vI i)], [(0, (.pu 3 (out.flatMap eI), false))], 1⟩)
      (fun i out c => i ≤ a.length ∧ out.length = a.length ∧ Dig out ∧ 0 ≤ c ∧ c ≤ 1 ∧ (∀ p : Nat, i ≤ p → rd out p = rd a p) ∧ val out - c * 10000 ^ i = val a - val (b.take i)) (fun i _ _ => a.length - i) 0 a 0 ⟨Nat.zero_le _, rfl, ha, by omega, by omega, fun p _ => rfl, by simp [val]⟩ (h0 := le_auto) (hr := fun i out c K ⟨hi, hl, hd, c0, c1, hp, he⟩ hK => ?_)
    refine walk (hQ := ?_)
    refine W_if (ht := fun h1 => ?_) (hf := fun h1 => ?_)
    · have hx : 0 ≤ a.getD i 0 ∧ a.getD i 0 < 10000 := dig_rd ha i
      have hy : 0 ≤ b.getD i 0 ∧ b.getD i 0 < 10000 := dig_rd hb i
      have hri : out.getD i 0 = a.getD i 0 := hp i (Nat.le_refl _)
      have hil : i < out.length := by omega
      have g1 := gd_set (z := a.getD i 0 - c) hil
      have g2 := gd_set (z := a.getD i 0 - c - b.getD i 0) hil
      refine walk (hQ := ?_)
      rw [hri]
      -- behind both ways the place holds x - c - y
      have stp : ∀ (z q : Int), (a.getD i 0 - c - b.getD i 0 < 0 ∧ z = a.getD i 0 - c - b.getD i 0 + 10000 ∧ q = 1) ∨ (¬ a.getD i 0 - c - b.getD i 0 < 0 ∧ z = a.getD i 0 - c - b.getD i 0 ∧ q = 0) →
          Dig (out.set i z) ∧ (∀ p : Nat, i + 1 ≤ p → rd (out.set i z) p = rd a p) ∧ val (out.set i z) - q * 10000 ^ (i + 1) = val a - val (b.take (i + 1)) := fun z q hzq => by
        refine ⟨hd.set _ (by omega) (by omega), fun p hpp => ?_, ?_⟩
        · rw [rd_set _ _ _ _ hil, if_neg (by omega)]
          exact hp p (by omega)
        · have hpow : (10000 : Int) ^ (i + 1) = 10000 ^ i * 10000 := Int.pow_succ ..
          have e1 : rd out i = a.getD i 0 := hri
          have e2 : rd b i = b.getD i 0 := rfl
          rw [val_set _ _ _ hil, e1, vt_succ, hpow, e2]
          generalize a.getD i 0 = x at *
          generalize b.getD i 0 = y at *
          generalize (10000 : Int) ^ i = P at *
          generalize val (b.take i) = B at *
          generalize val out = U at *
          generalize val a = A at *
          clear hp hd hK hR hl hi e1 e2 g1 g2 hil
          grind
      refine W_if (ht := fun h2 => ?_) (hf := fun h2 => ?_)
      · refine walk (hQ := ?_)
        rw [g1, List.set_set, g2]
        refine W_if (ht := fun h3 => ?_) (hf := fun h3 => ?_)
        · have s := stp _ _ (.inl ⟨h3, rfl, rfl⟩)
          refine walk (hQ := ?_)
          rw [g2, List.set_set]
          exact hK _ (i + 1) _ 1 ⟨by omega, by rw [List.length_set]; exact hl, s.1, by omega, by omega, s.2.1, s.2.2⟩ (by omega) le_auto
        · have s := stp _ _ (.inr ⟨h3, rfl, rfl⟩)
          refine walk (hQ := ?_)
          exact hK _ (i + 1) _ 0 ⟨by omega, by rw [List.length_set]; exact hl, s.1, by omega, by omega, s.2.1, s.2.2⟩ (by omega) le_auto
      · have e0 : b.getD i 0 = 0 := rd_out b i (by omega)
        rw [e0, Int.sub_zero] at stp
        refine walk (hQ := ?_)
        rw [g1]
        refine W_if (ht := fun h3 => ?_) (hf := fun h3 => ?_)
        · have s := stp _ _ (.inl ⟨h3, rfl, rfl⟩)
          refine walk (hQ := ?_)
          rw [g1, List.set_set]
          exact hK _ (i + 1) _ 1 ⟨by omega, by rw [List.length_set]; exact hl, s.1, by omega, by omega, s.2.1, s.2.2⟩ (by omega) le_auto
        · have s := stp _ _ (.inr ⟨h3, rfl, rfl⟩)
          refine walk (hQ := ?_)
          exact hK _ (i + 1) _ 0 ⟨by omega, by rw [List.length_set]; exact hl, s.1, by omega, by omega, s.2.1, s.2.2⟩ (by omega) le_auto
    · refine walk (hQ := ?_)
      refine R_callF (s_trimmed out) (hK := ?_)
      refine walk (hQ := ?_)
      refine hR _ (ret1 (hp := ?_))
      obtain rfl : i = a.length := by omega
      rw [List.take_of_length_le (l := b) (by omega)] at he
      have h2 := val_lt hd
      rw [hl] at h2
      have hc : c = 0 := by
        rcases (by omega : c = 0 ∨ c = 1) with h | h
        · exact h
        · subst h; omega
      subst hc
      rw [tr_digs hd]
      congr 3
      omega
end Go.VS.YtiaijoomngefnaaGreatDoor


namespace Go.VS.YtiaijoomngefnaaGreatDoor
open Go Go.VL Go.VN Go.RowKit Go.Proofs
set_option maxRecDepth 100000
set_option linter.unusedVariables false

structure AddF (a b : List Int) (s : Nat) : Prop where
  ha : Dig a
  hb : Dig b
  la : a.length ≤ 1000000
  lb : b.length ≤ a.length
  sum : val a + val b = s
  top : a ≠ [] → 10000 ^ (a.length - 1) ≤ val a
theorem addF_of (m n : Nat) (lm : (digs m).length ≤ 1000000) (h : (digs n).length ≤ (digs m).length) : AddF (digs m) (digs n) (m + n) :=
  ⟨dig_digs m, dig_digs n, lm, h, by rw [val_digs, val_digs]; omega, fun h0 => by
    rw [val_digs]
    exact len_le m fun e => h0 (by rw [e, digs_zero])⟩
theorem add_done {a b out : List Int} {s : Nat} {c : Int} (F : AddF a b s) (hS : VN.Sum a b out a.length c) : (0 < c → out ++ [c] = digs s) ∧ (¬ 0 < c → out = digs s) := by
  have h1 := hS.eq
  have hlen := hS.len
  have c0 := hS.c0
  have c1 := hS.c1
  have lb := F.lb
  rw [List.take_length, List.take_of_length_le (l := b) (by omega), F.sum] at h1
  constructor
  · intro h
    obtain rfl : c = 1 := by omega
    have hd := hS.dig.join (Dig.one (d := 1) (by decide) (by decide))
    have hv : val (out ++ [1]) = s := by rw [val_snoc, hlen, ← h1]; omega
    rw [full hd (by simp) (by
      have := val_nonneg hS.dig
      rw [val_snoc, hlen, List.length_append, hlen]
      simp only [List.length_cons, List.length_nil, Nat.add_sub_cancel]
      omega), hv]
    congr 1
  · intro h
    obtain rfl : c = 0 := by omega
    by_cases h0 : out = []
    · subst h0
      have : s = 0 := by simp only [val] at h1; omega
      rw [this, digs_zero]
    · have hv : val out = s := by omega
      have ha0 : a ≠ [] := fun e => h0 (List.eq_nil_of_length_eq_zero (by rw [hlen, e]; rfl))
      have := F.top ha0
      have hb := val_nonneg F.hb
      have hs := F.sum
      rw [full hS.dig h0 (by rw [hlen]; omega), hv]
      congr 1
theorem s_add (m n : Nat) (lm : (digs m).length ≤ 1000000) (ln : (digs n).length ≤ 1000000) : Spc X 110 [.one (slc eI (digs m)), .one (slc eI (digs n))] (.one (slc eI (digs (m + n)))) := by
  refine Spc.start Tryz.func110 rfl (h := fun hs R hR => ?_)
  unfold Tryz.f110
  simp only [entryE, PA.av]
  clear hs
  have hm0 := addF_of m n lm
  have hn0 := addF_of n m ln
  rw [Nat.add_comm n m] at hn0
  generalize m + n = s at *
  refine walk (hQ := ?_)
  refine W_if (ht := fun h0 => ?_) (hf := fun h0 => ?_)
  case' refine_1 =>
    have F := hn0 (by omega)
    clear hm0 hn0
    refine walk (hQ := ?_)
    generalize digs n = a at *
    generalize digs m = b at *
  case' refine_2 =>
    have F := hm0 (by omega)
    clear hm0 hn0
    refine walk (hQ := ?_)
    generalize digs m = a at *
    generalize digs n = b at *
  all_goals
    have ha := F.ha
    have hb := F.hb
    have la := F.la
    have lb := F.lb
    refine Lp.intro3 (fun (i : Nat) (out : List Int) (c : Int) => ⟨[(0, vP (slc eI a)), (1, vP (slc eI b)), (5, .one (.own 0 1 out.length)), (6, vI c), (20, vP (slc eI a)), (21, vI a.length), (22, vI i)], [(0, (.pu 3 (out.flatMap eI), false))], 1⟩)
      (fun i out c => i ≤ a.length ∧ Sum a b out i c) (fun i _ _ => a.length - i) 0 [] 0 ⟨Nat.zero_le _, Sum.start a b⟩ (h0 := le_auto) (hr := fun i out c K ⟨hi, hS⟩ hK => ?_)
    have hlen := hS.len
    have c0 := hS.c0
    have c1 := hS.c1
    refine walk (hQ := ?_)
    refine W_if (ht := fun h1 => ?_) (hf := fun h1 => ?_)
    · have hx : 0 ≤ a.getD i 0 ∧ a.getD i 0 < 10000 := dig_rd ha i
      have hy : 0 ≤ b.getD i 0 ∧ b.getD i 0 < 10000 := dig_rd hb i
      refine walk (hQ := ?_)
      refine W_if (ht := fun h2 => ?_) (hf := fun h2 => ?_)
      · refine walk (hQ := ?_)
        refine hK _ (i + 1) _ _ ⟨by omega, hS.next (q := (c + a.getD i 0 + b.getD i 0) / 10000) (r := (c + a.getD i 0 + b.getD i 0) % 10000) (by omega) (by omega) (by omega) (by omega) ?_⟩ (by omega) ?_
        · exact (Int.mul_ediv_add_emod _ 10000).symm
        · exact le_auto
      · have e0 : b.getD i 0 = 0 := rd_out b i (by omega)
        refine walk (hQ := ?_)
        refine hK _ (i + 1) _ _ ⟨by omega, hS.next (q := (c + a.getD i 0 + b.getD i 0) / 10000) (r := (c + a.getD i 0 + b.getD i 0) % 10000) (by omega) (by omega) (by omega) (by omega) ?_⟩ (by omega) ?_
        · exact (Int.mul_ediv_add_emod _ 10000).symm
        · rw [e0, Int.add_zero]
          exact le_auto
    · obtain rfl : i = a.length := by omega
      have fin := add_done F hS
      refine walk (hQ := ?_)
      refine W_if (ht := fun h2 => ?_) (hf := fun h2 => ?_)
      · refine walk (hQ := ?_)
        exact hR _ (ret1 (hp := by rw [fin.1 h2]))
      · refine walk (hQ := ?_)
        exact hR _ (ret1 (hp := by rw [fin.2 h2]))
end Go.VS.YtiaijoomngefnaaGreatDoor


namespace Go.VS.YtiaijoomngefnaaGreatDoor
open Go Go.VL Go.VN Go.RowKit Go.Proofs
set_option maxRecDepth 100000
set_option linter.unusedVariables false

theorem gd_set_ne {l : List Int} {i p : Nat} (z : Int) (h : i < l.length) : (l.set i z).getD p 0 = if p = i then z else l.getD p 0 := rd_set l i p z h
theorem o_reverseI (l : List Int) (hl : l.length ≤ 1000000) : SpcS X 117 [.one (.own 1000 1 l.length)] [(1000, (.pu 3 (l.flatMap eI), false))] (.tup []) [(1000, (.pu 3 (l.reverse.flatMap eI), false))] := by
  refine SpcS.start 0 Tryz.func117 rfl (h := fun hs hs2 R hR => ?_)
  unfold Tryz.f117
  simp only [entryV]
  refine walk (hQ := ?_)
  refine Lp.intro2 (fun (i : Nat) (cur : List Int) => ⟨[(0, .one (.own 1000 1 l.length)), (2, vI i), (3, vI (l.length - 1 - i))], [(1000, (.pu 3 (cur.flatMap eI), false))], 0⟩)
    (fun i cur => i ≤ l.length ∧ 2 * i ≤ l.length + 1 ∧ cur.length = l.length ∧ ∀ p : Nat, p < l.length → cur.getD p 0 = if p < i ∨ l.length ≤ p + i then l.getD (l.length - 1 - p) 0 else l.getD p 0) (fun i _ => l.length - i) 0 l
    ⟨Nat.zero_le _, by omega, rfl, fun p hp => by rw [if_neg (by omega)]⟩ (h0 := le_auto) (hr := fun i cur K ⟨hi, hi2, hc, hp⟩ hK => ?_)
  refine walk (hQ := ?_)
  refine W_if (ht := fun h1 => ?_) (hf := fun h1 => ?_)
  · have ej : ((l.length : Int) - 1 - i) = ((l.length - 1 - i : Nat) : Int) := by omega
    rw [ej]
    generalize hj : l.length - 1 - i = j at *
    refine walk (hQ := ?_)
    refine hK _ (i + 1) ((cur.set i (cur.getD j 0)).set j (cur.getD i 0)) ⟨by omega, by omega, by rw [List.length_set, List.length_set]; exact hc, fun p hpl => ?_⟩ (by omega) le_auto
    rw [gd_set_ne _ (by rw [List.length_set]; omega), gd_set_ne _ (by omega), hp j (by omega), hp i (by omega), hp p hpl]
    by_cases e1 : p = j
    · rw [if_pos e1, if_neg (by omega), if_pos (by omega), show l.length - 1 - p = i by omega]
    · rw [if_neg e1]
      by_cases e2 : p = i
      · rw [if_pos e2, if_neg (by omega), if_pos (by omega), show l.length - 1 - p = j by omega]
      · rw [if_neg e2]
        by_cases e3 : p < i ∨ l.length ≤ p + i
        · rw [if_pos e3, if_pos (by omega)]
        · rw [if_neg e3, if_neg (by omega)]
  · refine walk (hQ := ?_)
    refine hR _ (retS0 (hle := ⟨?_, trivial⟩))
    have e : cur = l.reverse := by
      apply List.ext_getElem (by rw [List.length_reverse]; exact hc)
      intro p h2 h3
      have h4 := hp p (by omega)
      rw [List.getD_eq_getElem?_getD, List.getElem?_eq_getElem h2] at h4
      rw [List.getElem_reverse]
      split at h4
      · rw [List.getD_eq_getElem?_getD, List.getElem?_eq_getElem (by omega)] at h4
        exact h4
      · have : l.length - 1 - p = p := by omega
        rw [List.getD_eq_getElem?_getD, List.getElem?_eq_getElem (by omega)] at h4
        simp only [this]
        exact h4
    rw [e]; rfl
theorem s_mul1 (n M : Nat) (hM : M < 10000) (ln : (digs n).length ≤ 1000000) : Spc X 116 [.one (slc eI (digs n)), .one (slc eI [(M : Int)])] (.one (slc eI (digs (n * M)))) := by
  have h := s_mul (digs n) [(M : Int)] (dig_digs n) (dig1 M hM) ln (by simp)
  have e : (val (digs n) * val [(M : Int)]).toNat = n * M := by rw [val_digs, val1, ← Int.natCast_mul]; rfl
  rw [e] at h
  exact h
theorem s_divide (m n : Nat) (hn : 0 < n) (lm : (digs m).length ≤ 100000) (ln : (digs n).length ≤ 100000) : Spc X 86 [.one (slc eI (digs m)), .one (slc eI (digs n))] (.tup [(false, [slc eI (digs (m / n))]), (false, [slc eI (digs (m % n))])]) := by
  refine Spc.start Tryz.func86 rfl (h := fun hs R hR => ?_)
  unfold Tryz.f86
  simp only [entryE, PA.av]
  have ha := dig_digs m
  have ev : m = (val (digs m)).toNat := by rw [val_digs]; rfl
  have hb := dig_digs n
  refine walk (hQ := ?_)
  rw [ev] at hR
  clear ev hs
  generalize digs m = a at *
  refine Lp.intro2 (fun (i : Nat) (q : List Int) => ⟨[(0, vP (slc eI a)), (1, vP (slc eI (digs n))), (6, .one (.own 0 1 q.length)), (7, vP (slc eI (digs (top a i % n)))), (8, vI ((i : Int) - 1))], [(0, (.pu 3 (q.flatMap eI), false))], 1⟩)
    (fun i q => i ≤ a.length ∧ q.length = a.length - i ∧ Dig q.reverse ∧ val q.reverse = ((top a i / n : Nat) : Int)) (fun i _ => i) a.length []
    ⟨Nat.le_refl _, by simp, Dig.nil, by rw [top_len]; simp [val]⟩ (h0 := le_ghost1 0 3 (hle := le_auto (he := ⟨⟨_, rfl, avLe_refl _⟩, ⟨_, rfl, avLe_refl _⟩, ⟨_, rfl, avLe_nilO⟩, ⟨_, rfl, ?_⟩, ⟨_, rfl, avLe_refl _⟩, trivial⟩))) (hr := fun i q K ⟨hi, hq, hd, hv⟩ hK => ?_)
  · rw [top_len, Nat.zero_mod, digs_zero]; exact avLe_nil
  refine walk (hQ := ?_)
  refine W_if (ht := fun h1 => ?_) (hf := fun h1 => ?_)
  · obtain ⟨j, rfl⟩ : ∃ j, i = j + 1 := ⟨i - 1, by omega⟩
    have e0 : ((j + 1 : Nat) : Int) - 1 = (j : Int) := by omega
    rw [e0]
    have hx : 0 ≤ a.getD j 0 ∧ a.getD j 0 < 10000 := dig_rd ha j
    obtain ⟨d, hdx⟩ := Int.eq_ofNat_of_zero_le hx.1
    have hd4 : d < 10000 := by omega
    have ht := top_step ha (i := j) (by omega)
    have hrd : rd a j = (d : Int) := hdx
    rw [hrd, Int.toNat_natCast] at ht
    obtain ⟨s1, s2⟩ := div_step n (top a (j + 1)) d hn
    have s3 := div_small n (top a (j + 1)) d hn hd4
    rw [← ht] at s1 s2
    have hRl : (digs (top a (j + 1) % n)).length ≤ 100000 := Nat.le_trans (len_of_lt (Nat.mod_le _ _)) (Nat.le_trans (top_digs_len ha _) lm)
    refine walk (hQ := ?_)
    have eR : tr ([a.getD j 0] ++ digs (top a (j + 1) % n)) = digs (d + 10000 * (top a (j + 1) % n)) := by rw [hdx]; exact digs_app d _ hd4
    have hR1 : (digs (d + 10000 * (top a (j + 1) % n))).length ≤ 100001 := by
      rw [← eR]
      have := len_tr ([a.getD j 0] ++ digs (top a (j + 1) % n))
      rw [List.length_append, List.length_singleton] at this
      omega
    refine R_callF (s_trimmed _) (hK := ?_)
    rw [eR]
    generalize hRR : d + 10000 * (top a (j + 1) % n) = T at *
    refine walk (hQ := ?_)
    refine Lp.intro2 (fun (lo hi : Nat) => ⟨[(0, vP (slc eI a)), (1, vP (slc eI (digs n))), (6, .one (.own 0 1 q.length)), (7, vP (slc eI (digs T))), (8, vI j), (9, vI lo), (10, vI hi)], [(0, (.pu 3 (q.flatMap eI), false))], 1⟩)
      (fun lo hi => lo ≤ hi ∧ hi ≤ 9999 ∧ n * lo ≤ T ∧ T < n * (hi + 1)) (fun lo hi => hi - lo) 0 9999 ⟨by omega, by omega, by omega, ?_⟩ (h0 := le_auto) (hr := fun lo hi K' ⟨g1, g2, g3, g4⟩ hK' => ?_)
    · have := (Nat.div_lt_iff_lt_mul hn).1 s3
      rw [Nat.mul_comm]
      exact this
    refine walk (hQ := ?_)
    refine W_if (ht := fun h2 => ?_) (hf := fun h2 => ?_)
    · have eM : ((lo : Int) + hi + 1) / 2 = (((lo + hi + 1) / 2 : Nat) : Int) := by omega
      have hM1 : (lo + hi + 1) / 2 < 10000 := by omega
      refine walk (hQ := ?_)
      rw [eM]
      generalize hM : (lo + hi + 1) / 2 = M at *
      refine R_callF (s_mul1 n M hM1 (by omega)) (hK := ?_)
      refine walk (hQ := ?_)
      refine R_call (s_compare _ _) (hK := ?_)
      refine walk (hQ := ?_)
      rw [cmp_digs]
      refine W_if (ht := fun h3 => ?_) (hf := fun h3 => ?_)
      · have hc := (sgn_le _ _).1 h3
        refine walk (hQ := ?_)
        exact hK' _ M hi ⟨by omega, g2, hc, g4⟩ (by omega) le_auto
      · have hc : ¬ n * M ≤ T := fun h => h3 ((sgn_le _ _).2 h)
        refine walk (hQ := ?_)
        exact hK' _ lo (M - 1) ⟨by omega, by omega, g3, by rw [show M - 1 + 1 = M by omega]; omega⟩ (by omega) le_auto
    · obtain rfl : lo = hi := by omega
      have hdone : lo = T / n := by
        symm
        apply Nat.div_eq_of_lt_le
        · rw [Nat.mul_comm]; exact g3
        · rw [Nat.mul_comm]; exact g4
      have hle : n * lo ≤ T := by rw [hdone]; exact Nat.mul_div_le T n
      have hm : T - n * lo = T % n := by
        have := Nat.div_add_mod T n
        rw [hdone]
        omega
      have hP : j ≤ a.length ∧ (q ++ [(lo : Int)]).length = a.length - j ∧ Dig (q ++ [(lo : Int)]).reverse ∧ val (q ++ [(lo : Int)]).reverse = ((top a j / n : Nat) : Int) := by
        refine ⟨by omega, by rw [List.length_append, List.length_singleton]; omega, ?_, ?_⟩
        · rw [List.reverse_append, List.reverse_singleton]; exact (dig1 lo (by omega)).join hd
        · rw [List.reverse_append, List.reverse_singleton, List.singleton_append, val, hv, s1, hdone]; omega
      have hqa : q.length ≤ 100000 := by omega
      refine walk (hQ := ?_)
      refine W_if (ht := fun h3 => ?_) (hf := fun h3 => ?_)
      · refine walk (hQ := ?_)
        refine R_callF (s_mul1 n lo (by omega) (by omega)) (hK := ?_)
        refine walk (hQ := ?_)
        refine R_call (s_sub T (n * lo) hle (by omega)) (hK := ?_)
        rw [hm, ← s2]
        refine walk (hQ := ?_)
        exact hK _ j _ hP (by omega) le_auto
      · have hz : T = top a j % n := by
          rw [s2]
          have := Nat.div_add_mod T n
          obtain rfl : lo = 0 := by omega
          rw [← hdone] at this
          omega
        rw [hz]
        refine walk (hQ := ?_)
        exact hK _ j _ hP (by omega) le_auto
  · obtain rfl : i = 0 := by omega
    refine walk (hQ := ?_)
    refine R_callM (o_reverseI q (by omega)) (hK := ?_)
    refine walk (hQ := ?_)
    refine R_callF (s_trimmed q.reverse) (hK := ?_)
    refine walk (hQ := ?_)
    refine hR _ (ret2 (hp := ?_))
    rw [tr_digs hd, hv, top_zero]; rfl
end Go.VS.YtiaijoomngefnaaGreatDoor


namespace Go.VS.YtiaijoomngefnaaGreatDoor
open Go Go.VL Go.VN Go.RowKit Go.Proofs
set_option maxRecDepth 100000
set_option linter.unusedVariables false

/-- The test of one digit. -/
theorem s_bad (d : Int) : Spc X 84 [.one (.int .i64 d)] (.one (.bool (decide (d < 0) || decide (10000 ≤ d)))) := by
  refine Spc.start Tryz.func84 rfl (h := fun hs R hR => ?_)
  unfold Tryz.f84
  simp only [entryE, PA.av]
  refine walk (hQ := ?_)
  refine R_g_if (h1 := fun h0 => ?_) (h2 := fun h0 => ?_)
  · simp only [Bool.false_eq_true, if_false] at h0
    refine walk (hQ := ?_)
    refine hR _ (ret1 (hp := ?_))
    simp [h0]
  · simp only [Bool.false_eq_true, if_false] at h0
    refine walk (hQ := ?_)
    refine hR _ (ret1 (hp := ?_))
    simp [h0]
def idxOf (p : Int → Bool) (l : List Int) : Int := if l.any p = true then (l.findIdx p : Int) else -1
theorem idx_hit {p : Int → Bool} {l : List Int} {i : Nat} (hi : i < l.length) (h0 : ∀ j, j < i → p (l.getD j 0) = false) (h1 : p (l.getD i 0) = true) : idxOf p l = i := by
  have e : ∀ j (hj : j < l.length), l.getD j 0 = l[j] := fun j hj => by rw [List.getD_eq_getElem?_getD, List.getElem?_eq_getElem hj]; rfl
  have ha : l.any p = true := List.any_eq_true.2 ⟨l[i], List.getElem_mem hi, by rw [← e i hi]; exact h1⟩
  unfold idxOf
  rw [if_pos ha]
  have := (List.findIdx_eq (p := p) hi).2 ⟨by rw [← e i hi]; exact h1, fun j hj => by rw [← e j (by omega)]; exact h0 j hj⟩
  rw [this]
theorem idx_miss {p : Int → Bool} {l : List Int} (h0 : ∀ j, j < l.length → p (l.getD j 0) = false) : idxOf p l = -1 ∧ l.any p = false := by
  have ha : l.any p = false := by
    rw [List.any_eq_false]
    intro x hx
    obtain ⟨j, hj, rfl⟩ := List.getElem_of_mem hx
    have := h0 j hj
    rw [List.getD_eq_getElem?_getD, List.getElem?_eq_getElem hj] at this
    simpa using this
  unfold idxOf
  rw [ha]
  exact ⟨rfl, rfl⟩
theorem idx_nonneg (p : Int → Bool) (l : List Int) : decide (0 ≤ idxOf p l) = l.any p := by
  unfold idxOf
  by_cases h : l.any p = true
  · rw [if_pos h, h, decide_eq_true_eq]; omega
  · have h' : l.any p = false := by simpa using h
    rw [if_neg h, h']; rfl
theorem s_indexI (f : FuncId) (p : Int → Bool) (hp : ∀ d, Spc X f [.one (.int .i64 d)] (.one (.bool (p d)))) (l : List Int) : Spc X 114 [.one (slc eI l), .one (.clo f [])] (.one (.int .i64 (idxOf p l))) := by
  refine Spc.start Tryz.func114 rfl (h := fun hs R hR => ?_)
  have hlen := (sane_I hs.1).1
  unfold Tryz.f114
  simp only [entryE, PA.av]
  refine walk (hQ := ?_)
  refine Lp.intro (fun (i : Nat) => ⟨[(0, vP (slc eI l)), (1, vP (.clo f [])), (7, vI l.length), (8, vI i)], [], 0⟩) (fun i => i ≤ l.length ∧ ∀ j, j < i → p (l.getD j 0) = false) (fun i => l.length - i) 0 ⟨Nat.zero_le _, fun j hj => by omega⟩ (h0 := le_auto) (hr := fun i K ⟨hi, hb⟩ hK => ?_)
  refine walk (hQ := ?_)
  refine W_if (ht := fun h1 => ?_) (hf := fun h1 => ?_)
  · refine walk (hQ := ?_)
    refine R_call (hp _) (hK := ?_)
    refine walk (hQ := ?_)
    refine W_ifb (ht := fun h2 => ?_) (hf := fun h2 => ?_)
    · refine walk (hQ := ?_)
      exact hR _ (ret1 (hp := by rw [idx_hit (by omega) hb h2]))
    · refine walk (hQ := ?_)
      refine hK _ (i + 1) ⟨by omega, fun j hj => ?_⟩ (by omega) le_auto
      rcases Nat.lt_or_ge j i with h | h
      · exact hb j h
      · obtain rfl : j = i := by omega
        exact h2
  · refine walk (hQ := ?_)
    exact hR _ (ret1 (hp := by rw [(idx_miss fun j hj => hb j (by omega)).1]))
theorem s_containsI (f : FuncId) (p : Int → Bool) (hp : ∀ d, Spc X f [.one (.int .i64 d)] (.one (.bool (p d)))) (l : List Int) : Spc X 83 [.one (slc eI l), .one (.clo f [])] (.one (.bool (l.any p))) := by
  refine Spc.start Tryz.func83 rfl (h := fun hs R hR => ?_)
  unfold Tryz.f83
  simp only [entryE, PA.av]
  refine walk (hQ := ?_)
  refine R_call (s_indexI f p hp l) (hK := ?_)
  refine walk (hQ := ?_)
  refine hR _ (ret1 (hp := ?_))
  rw [idx_nonneg]
theorem any_bad (l : List Int) : (!l.any fun d => decide (d < 0) || decide (10000 ≤ d)) = l.all fun d => decide (0 ≤ d) && decide (d < 10000) := by
  induction l with
  | nil => rfl
  | cons d l ih =>
    rw [List.any_cons, List.all_cons, ← ih, Bool.not_or]
    congr 1
    by_cases h1 : d < 0 <;> by_cases h2 : 10000 ≤ d <;> simp [h1, h2] <;> omega
theorem s_Valid (l : List Int) : Spc X 49 [nt l] (.one (.bool (validB l))) := by
  refine Spc.start Tryz.func49 rfl (h := fun hs R hR => ?_)
  unfold Tryz.f49
  simp only [entryE, PA.av, List.map_cons, List.map_nil]
  refine walk (hQ := ?_)
  refine R_g_if (h1 := fun h0 => ?_) (h2 := fun h0 => ?_)
  · simp only [Bool.false_eq_true, if_false] at h0
    refine walk (hQ := ?_)
    refine R_g_if (h1 := fun h1 => ?_) (h2 := fun h1 => ?_)
    · simp only [if_true] at h1
      refine walk (hQ := ?_)
      have ej : ((l.length : Int) - 1).toNat = l.length - 1 := by omega
      rw [ej]
      have hg : l.getLast? = some (l.getD (l.length - 1) 0) := by
        rw [List.getLast?_eq_getElem?, List.getD_eq_getElem?_getD, List.getElem?_eq_getElem (by omega)]; rfl
      refine W_if (ht := fun h2 => ?_) (hf := fun h2 => ?_)
      · refine walk (hQ := ?_)
        refine hR _ (ret1 (hp := ?_))
        unfold validB
        rw [hg, h2]; simp
      · refine walk (hQ := ?_)
        refine R_call (s_containsI 84 _ s_bad l) (hK := ?_)
        refine walk (hQ := ?_)
        refine hR _ (ret1 (hp := ?_))
        rw [any_bad]
        unfold validB
        rw [decide_eq_true (by omega), hg]
        have h3 : (some (l.getD (l.length - 1) 0) == some 0) = false := by simpa using h2
        rw [h3]; rfl
    · simp only [if_true] at h1
      refine walk (hQ := ?_)
      refine R_call (s_containsI 84 _ s_bad l) (hK := ?_)
      refine walk (hQ := ?_)
      refine hR _ (ret1 (hp := ?_))
      have h2 : l = [] := List.eq_nil_of_length_eq_zero (by omega)
      subst h2
      rfl
  · simp only [Bool.false_eq_true, if_false] at h0
    refine walk (hQ := ?_)
    refine hR _ (ret1 (hp := ?_))
    unfold validB
    rw [decide_eq_false (by omega)]; rfl
end Go.VS.YtiaijoomngefnaaGreatDoor

