/- What every row of the seat takes apart in one way: a slice of integers and a struct of one such slice as the texts' words have them, and the library's table out of the row's laid list. No condition. -/
import Derived.Test.YtlogclmmeikbpaaDoorbiGlob
import Derived.WalkKit
import Derived.ProofKit
import Derived.OpenShut
import Derived.ShutString
import Derived.ChangeOld
import Derived.Below
import Derived.SizedLaws
import Derived.Lay
import Derived.LaidOnce
import Derived.SevenTiedAt
import Derived.Lib.LaidU8
namespace Go.Proofs.YtlogclmmeikbpaaDoor
open Go.ChangeShapes Go.WideShapes Go.ChangeAt Go.RowKit Go.Proofs.YtlogclmmeikbpaaDoorW.PrintWords
theorem ownNone : ownKnob Tryd.prog.godebug = none := by kernel_rfl
theorem gPowType : (Tryd.prog.globals[2]?).map (·.type) = some 115 := by kernel_rfl
theorem GL.of_reads {w : World} (h : Lib.VarReads Tryd.prog w "internal/strconv.uint64pow10" (Lib.tabData .u64 Lib.pow10Tab)) : GL w := by
  obtain ⟨g', t', cs, fuel, p, hg', ht', hvar, hd⟩ := h
  obtain rfl := Option.some.inj (gPow.symm.trans hg')
  obtain rfl : 115 = t' := Option.some.inj (gPowType.symm.trans ht')
  unfold GL Lib.TabIs
  rw [hvar, ← Lib.cells_of_tab Tryd.underlying115 Tryd.underlying100 (by kernel_rfl) (by kernel_rfl) hd]
theorem GL.of_laid {w : World} {l : List (String × DataW Unit)} (h : laidMetH Tryd.prog l w) (hp : (l.all fun x => x.2.handleName?.isNone) = true) (hm : ("internal/strconv.uint64pow10", Lib.tabData .u64 Lib.pow10Tab) ∈ l) : GL w := by
  rw [MakeChecks.laidMetH_plain _ _ _ hp] at h
  exact GL.of_reads (Lib.laidMet.reads h hm)

section
variable {H : Type} {enc : TypeId × Value → H} {w : World} {base : Nat} {t e : TypeId} {k : IntKind} {v : Value} {d : DataW H} {p : List MemPlace}
end
end Go.Proofs.YtlogclmmeikbpaaDoor

