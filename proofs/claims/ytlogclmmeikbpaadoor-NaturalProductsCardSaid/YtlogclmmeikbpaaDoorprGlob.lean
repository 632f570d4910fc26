/- What all the seat's texts lean on: the fact on the world that strconv's table lies as its text lays it, carried over whatever leaves what was there; make([]T, 0, n) as a row of the call's own. No condition. -/
import Derived.Test.YtlogclmmeikbpaaDoorProg
import Derived.Lib.LaidTab
import Derived.Lib.ItoaNum
import Derived.WalkSmall
import Derived.Test.YtlogclmmeikbpaaDoorprWWords
import Derived.Test.YtlogclmmeikbpaaDoorprWLast
import Derived.Test.YtlogclmmeikbpaaDoorprWTab
import Derived.Test.YtlogclmmeikbpaaDoorprWApart
import Derived.Test.YtlogclmmeikbpaaDoorprWFoot
import Derived.Test.YtlogclmmeikbpaaDoorprWKept
import Derived.Test.YtlogclmmeikbpaaDoorprWShare
import Derived.Test.YtlogclmmeikbpaaDoorprWN
import Derived.Test.YtlogclmmeikbpaaDoorprWAt
import Derived.Laws.StructEq
import Derived.Test.YtlogclmmeikbpaaDoorprWRepsOne
import Derived.Test.YtlogclmmeikbpaaDoorprWGuard
import Derived.Test.YtlogclmmeikbpaaDoorprWNEv
import Derived.Test.YtlogclmmeikbpaaDoorprWMore
import Derived.SizedLaws
import Derived.ChangeSlices
set_option linter.unusedVariables false
namespace Go.Proofs.YtlogclmmeikbpaaDoorW.PrintWords.Kd
open Go.RowKit Go.Proofs.YtlogclmmeikbpaaDoorW.PrintWords Go.Proofs.YtlogclmmeikbpaaDoorW.PrintLast Go.Proofs.YtlogclmmeikbpaaDoorW.PrintMore
variable {P : Program} {ops : Array Oper} {rest : List Oper} {o : Oper} {a : Act} {Q : Exit → Act → World → Prop} {α : Type}
end Go.Proofs.YtlogclmmeikbpaaDoorW.PrintWords.Kd
namespace Go.Proofs.YtlogclmmeikbpaaDoor
open Go.RowKit
/-- The library's table of powers of ten lies as its text lays it. -/
def GL (w : World) : Prop := Lib.TabIs Tryd.prog w "internal/strconv.uint64pow10" .u64 Lib.pow10Tab
theorem gPow : Tryd.prog.globalNamed "internal/strconv.uint64pow10" = some 2 := by kernel_rfl
theorem GL.below {w W : World} (h : GL w) (hb : Below w.heap.size w W) : GL W := by
  have h1 : w.var? Tryd.prog "internal/strconv.uint64pow10" = some (Lib.pow10Tab.map fun z => Value.int .u64 z).toArray := h
  have hg : 2 < w.heap.size := by
    rcases Nat.lt_or_ge 2 w.heap.size with h2 | h2
    · exact h2
    · simp [World.var?, gPow, Array.getElem?_eq_none h2] at h1
  exact var?_below hb gPow hg h1
theorem isEmpty_bne (l : List UInt8) : l.isEmpty = !(l != []) := by cases l <;> rfl
namespace Given
/-- Nothing: the name of the texts' own room. -/
theorem room : True := trivial
end Given
end Go.Proofs.YtlogclmmeikbpaaDoor

