/- A printed text: for each Go function a Lean function with the same answers, and a proof that the machine's call comes to them. No condition. Written by a program of ours (wip/tools/pp.py) out of the translation. -/
import Derived.Test.YtlogclmmeikbpaaDoorProg
import Derived.Below
import Derived.Deep.Draws
import Derived.Deep.AppendLies
import Derived.Maps.AppendAt
import Derived.OwnWalk
import Derived.Laws.BytesArg
import Derived.Laws.MakeOwn
import Derived.Laws.OwnMore
import Derived.Deep.OwnRows
import Derived.Tactics
import Derived.Lib.ConvBytes
import Derived.Laws.Slices
import Derived.WalkKit
import Derived.KernelRfl
import Derived.RowKit3
import Derived.Deep.LoopGhost
import Derived.Deep.QuietTactic
import Derived.BigQuiet
import Derived.WideLaws
import Derived.Deep.DeepCutAuto
import Derived.Deep.CutBlock
import Derived.Deep.RegionHeld3
import Derived.Laws.Rows
import Derived.Lib.AppendStr
import Derived.ArgAppend
import Derived.Laws.IdiomCopy
import Derived.OrdersHeld
import Derived.Laws.BitsLemmas
import Derived.RowKit
import Derived.Test.YtlogclmmeikbpaaDoorsuGlob
import Derived.Test.YtlogclmmeikbpaaDoorsuWWords
import Derived.Test.YtlogclmmeikbpaaDoorsuWLast
import Derived.Test.YtlogclmmeikbpaaDoorsuWTab
import Derived.Test.YtlogclmmeikbpaaDoorsuWApart
import Derived.Test.YtlogclmmeikbpaaDoorsuWFoot
import Derived.Test.YtlogclmmeikbpaaDoorsuWKept
import Derived.Test.YtlogclmmeikbpaaDoorsuWShare
import Derived.Test.YtlogclmmeikbpaaDoorsuWN
import Derived.Laws.StructEq
import Derived.Test.YtlogclmmeikbpaaDoorsuWRepsOne
import Derived.Test.YtlogclmmeikbpaaDoorsuWGuard
import Derived.Test.YtlogclmmeikbpaaDoorsuWNEv
import Derived.Test.YtlogclmmeikbpaaDoorsuWMore
namespace Go.Proofs.YtlogclmmeikbpaaDoor.P
open Go.RowKit Go.Proofs.YtlogclmmeikbpaaDoor Go.Proofs.YtlogclmmeikbpaaDoor.Given Go.Proofs.YtlogclmmeikbpaaDoorW.PrintWords Go.Proofs.YtlogclmmeikbpaaDoorW.PrintLast Go.Proofs.YtlogclmmeikbpaaDoorW.PrintMore
attribute [local go_sem] max2_int min2_int max_two min_two max_three min_three max_four min_four   -- for this text's walks alone
set_option linter.unusedVariables false
set_option linter.unusedSimpArgs false



def errW : Option Int → Value
  | none => .nilIface
  | some c => .iface 0 (.int .i64 c)
theorem errW_none : errW none = .nilIface := rfl
theorem errW_some (c : Int) : errW (some c) = .iface 0 (.int .i64 c) := rfl

theorem info3 : (Tryd.prog.info? 3).map (fun i => (i.zero, i.size, i.bytes)) = some (some (.int .i64 0), 1, 8) := by kernel_rfl
/-! #### struct type 24 -/
structure S24 where
  f0 : (List Int)
def z24 : S24 := ⟨([] : List Int)⟩
def k24 : Kd S24 := Kd.iso (Kd.slice 3 (Kd.int .i64)) (fun x : S24 => x.f0)
theorem k24_open {w : World} {x : S24} {cs : List Value} (h : k24.K w x cs) : ∃ A0 c0, cs = [.slice A0 x.f0.length c0] ∧ x.f0.length ≤ c0 ∧ (Kd.int .i64).C w A0 x.f0.length x.f0 := by
  obtain ⟨A0, c0, rfl, l0, g0⟩ := h
  exact ⟨A0, c0, rfl, l0, g0⟩
theorem k24_mk (w : World) (x : S24) {A0 : Option Addr} {c0 : Nat} (l0 : x.f0.length ≤ c0) (g0 : (Kd.int .i64).C w A0 x.f0.length x.f0) : k24.K w x [.slice A0 x.f0.length c0] := ⟨A0, c0, rfl, l0, g0⟩
theorem k24_mkF (W : World) (ok : Nat → Prop) (x : S24) {A0 : Option Addr} {c0 : Nat} (l0 : x.f0.length ≤ c0) (g0 : Kd.F (Kd.int .i64) W ok A0 x.f0.length x.f0) : Kd.FK k24 W ok x [.slice A0 x.f0.length c0] := fun W2 hW => k24_mk W2 x l0 (g0 W2 hW)
def rd_T24 (xs : List S24) (i : Int) : S24 := xs.getD i.toNat z24
theorem at_T24 {w : World} {A : Option Addr} {n : Nat} {xs : List S24} (h : Kd.C k24 w A n xs) (i : Int) (h0 : 0 ≤ i) (h1 : i < n) : ∃ ad A0 c0, A = some ad ∧ w.cell? (ad.add i.toNat) = some (.slice A0 (rd_T24 xs i).f0.length c0) ∧ (rd_T24 xs i).f0.length ≤ c0 ∧ (Kd.int .i64).C w A0 (rd_T24 xs i).f0.length (rd_T24 xs i).f0 := by
  obtain ⟨ad, c, e, _, hK, hc0⟩ := Kd.C_get h z24 i h0 h1
  have hc : ∀ j u, c[j]? = some u → w.cell? (ad.add (i.toNat * 1 + j)) = some u := hc0
  obtain ⟨A0, c0, rfl, l0, g0⟩ := k24_open hK
  exact ⟨ad, A0, c0, e, by have hq := hc 0 _ rfl; rwa [Nat.mul_one, Nat.add_zero] at hq, l0, g0⟩

end Go.Proofs.YtlogclmmeikbpaaDoor.P

