/- What all the seat's texts lean on: the fact on the world that strconv's table lies as its text lays it, carried over whatever leaves what was there; make([]T, 0, n) as a row of the call's own. No condition. -/
import Derived.Test.YtlogclmmeikbpaaDoorProg
import Derived.Lib.LaidTab
import Derived.Lib.ItoaNum
import Derived.WalkSmall
import Derived.Test.YtlogclmmeikbpaaDoorriWWords
import Derived.Test.YtlogclmmeikbpaaDoorriWLast
import Derived.Test.YtlogclmmeikbpaaDoorriWTab
import Derived.Test.YtlogclmmeikbpaaDoorriWApart
import Derived.Test.YtlogclmmeikbpaaDoorriWFoot
import Derived.Test.YtlogclmmeikbpaaDoorriWKept
import Derived.Test.YtlogclmmeikbpaaDoorriWShare
import Derived.Test.YtlogclmmeikbpaaDoorriWN
import Derived.Laws.StructEq
import Derived.Test.YtlogclmmeikbpaaDoorriWRepsOne
import Derived.Test.YtlogclmmeikbpaaDoorriWGuard
import Derived.Test.YtlogclmmeikbpaaDoorriWMore
import Derived.Test.YtlogclmmeikbpaaDoorriWSized
set_option linter.unusedVariables false
namespace Go.Proofs.YtlogclmmeikbpaaDoorW.PrintWords.Kd
open Go.RowKit Go.Proofs.YtlogclmmeikbpaaDoorW.PrintWords Go.Proofs.YtlogclmmeikbpaaDoorW.PrintLast Go.Proofs.YtlogclmmeikbpaaDoorW.PrintMore
variable {P : Program} {ops : Array Oper} {rest : List Oper} {o : Oper} {a : Act} {Q : Exit → Act → World → Prop} {α : Type}
theorem R_make0 (d : Kd α) {w0 W : World} (base e : Nat) (hgd : o.guard = none) {N : Tmp} (hd : o.dst = some N) (t : TypeId) (x y : Operand) (ho : o.op = .makeSlice t x y) (n : Int) (hx : a.eval x = .int .i64 0) (hy : a.eval y = .int .i64 n)
    (ht : P.underlying t = some (.slice e)) (z : Value) (bytes : Nat) (hinfo : (P.info? e).map (fun i => (i.zero, i.size, i.bytes)) = some (some z, d.sz, bytes)) (hz : z.cells.size = d.sz) (hb0 : 0 < bytes)
    {ok : Nat → Prop} (hfresh : ok W.heap.size) (h0 : 0 ≤ n) (hl : n.toNat * bytes ≤ 281474976710656) (HB : Below base w0 W) (hbase : base ≤ W.heap.size)
    (h : ∀ v1 w1, d.R e w1 base ok v1 [] → Below base w0 w1 → W.grownBy w1 none → (∃ b, v1.ownBlock = some b ∧ W.heap.size ≤ b) → wpList P ops Q rest (a.put o.dst v1) w1) : wpList P ops Q (o :: rest) a W := by
  obtain ⟨m, rfl⟩ := Int.eq_ofNat_of_zero_le h0
  simp only [Int.toNat_natCast] at hl
  obtain ⟨i0, hi, hzz⟩ := Option.map_eq_some_iff.1 hinfo
  simp only [Prod.mk.injEq] at hzz
  obtain ⟨hz0, hz1, hz2⟩ := hzz
  have hm : m ≤ 281474976710656 := Nat.le_trans (Nat.le_mul_of_pos_right _ hb0) hl
  have hr := run_make (P := P) W t e i0 z ht hi hz0 .i64 .i64 (0 : Int) (m : Int) (by omega) (by omega)
    (by
      have h3 : ((i0.bytes * m : Nat) : Int) ≤ 281474976710656 := by rw [hz2, Nat.mul_comm]; omega
      rwa [Int.natCast_mul] at h3) (by omega)
  simp only [Int.toNat_natCast] at hr
  rw [hz1] at hr
  refine event_run hgd (v := .slice (some ⟨W.heap.size, 0, none⟩) 0 m) (w1 := W.alloc (.cells (madeCells z.cells (m * d.sz)) e)) ?_ (h _ _ ⟨fun k hk => ?_, [], ?_, Reps.none _ _⟩ (HB.alloc hbase _) (World.grownBy_alloc W _ none) ⟨W.heap.size, by simp [Value.ownBlock], Nat.le_refl _⟩)
  · simp [execOp, ho, hx, hy, hr]
  · have : W.heap.size = k := by simpa [Value.ownBlock] using hk
    subst this
    exact hfresh
  · exact World.ownsRow_made W _ m hbase (by simp only [maxLen]; omega) (by simp [size_madeCells])
end Go.Proofs.YtlogclmmeikbpaaDoorW.PrintWords.Kd
namespace Go.Proofs.YtlogclmmeikbpaaDoor
open Go.RowKit
/-- The library's table of powers of ten lies as its text lays it. -/
def GL (w : World) : Prop := Lib.TabIs Tryd.prog w "internal/strconv.uint64pow10" .u64 Lib.pow10Tab
theorem gPow : Tryd.prog.globalNamed "internal/strconv.uint64pow10" = some 2 := by kernel_rfl
theorem GL.below {w W : World} (h : GL w) (hb : Below w.heap.size w W) : GL W := by
  have h1 : w.var? Tryd.prog "internal/strconv.uint64pow10" = some (Lib.pow10Tab.map fun z => Value.int .u64 z).toArray := h
  have hg : 2 < w.heap.size := by
    rcases Nat.lt_or_ge 2 w.heap.size with h2 | h2
    · exact h2
    · simp [World.var?, gPow, Array.getElem?_eq_none h2] at h1
  exact var?_below hb gPow hg h1
theorem isEmpty_bne (l : List UInt8) : l.isEmpty = !(l != []) := by cases l <;> rfl
namespace Given
/-- Nothing: the name of the texts' own room. -/
theorem room : True := trivial
end Given
end Go.Proofs.YtlogclmmeikbpaaDoor

