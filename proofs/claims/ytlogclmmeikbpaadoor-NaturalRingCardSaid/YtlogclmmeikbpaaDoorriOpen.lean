/- What every row of the seat takes apart in one way: a slice of integers and a struct of one such slice as the texts' words have them, and the library's table out of the row's laid list. No condition. -/
import Derived.Test.YtlogclmmeikbpaaDoorriGlob
import Derived.WalkKit
import Derived.ProofKit
import Derived.OpenShut
import Derived.ShutString
import Derived.ChangeOld
import Derived.Below
import Derived.SizedLaws
import Derived.Lay
import Derived.LaidOnce
import Derived.SevenTiedAt
import Derived.Lib.LaidU8
namespace Go.Proofs.YtlogclmmeikbpaaDoor
open Go.ChangeShapes Go.WideShapes Go.ChangeAt Go.RowKit Go.Proofs.YtlogclmmeikbpaaDoorW.PrintWords
theorem ownNone : ownKnob Tryd.prog.godebug = none := by kernel_rfl
theorem laidOut : laidOutB Tryd.prog = true := by kernel_rfl
theorem gPowType : (Tryd.prog.globals[2]?).map (·.type) = some 115 := by kernel_rfl
theorem GL.of_reads {w : World} (h : Lib.VarReads Tryd.prog w "internal/strconv.uint64pow10" (Lib.tabData .u64 Lib.pow10Tab)) : GL w := by
  obtain ⟨g', t', cs, fuel, p, hg', ht', hvar, hd⟩ := h
  obtain rfl := Option.some.inj (gPow.symm.trans hg')
  obtain rfl : 115 = t' := Option.some.inj (gPowType.symm.trans ht')
  unfold GL Lib.TabIs
  rw [hvar, ← Lib.cells_of_tab Tryd.underlying115 Tryd.underlying100 (by kernel_rfl) (by kernel_rfl) hd]
theorem GL.of_laid {w : World} {l : List (String × DataW Unit)} (h : laidMetH Tryd.prog l w) (hp : (l.all fun x => x.2.handleName?.isNone) = true) (hm : ("internal/strconv.uint64pow10", Lib.tabData .u64 Lib.pow10Tab) ∈ l) : GL w := by
  rw [MakeChecks.laidMetH_plain _ _ _ hp] at h
  exact GL.of_reads (Lib.laidMet.reads h hm)

section
variable {H : Type} {enc : TypeId × Value → H} {w : World} {base : Nat} {t e : TypeId} {k : IntKind} {v : Value} {d : DataW H} {p : List MemPlace}
theorem open_cells (ht : Tryd.prog.underlying t = some (.slice e)) (he : Tryd.prog.underlying e = some (.int k)) (hc : Tryd.prog.cellsOf e = 1) {fuel : Nat} {cs : List Value} {x : DataW H × List MemPlace} {A : Option Addr} {n c : Nat}
    (hcs : cs = [.slice A n c]) (h : DataW.trod enc Tryd.prog w 0 (fun _ => true) true fuel t cs = some x) :
    ∃ l : List Int, l.length = n ∧ n ≤ c ∧ Kd.C (Kd.int k) w A n l ∧ ∀ y ∈ l, (Lit.int k y).wf = true := by
  subst hcs
  rcases open_ints ht he hc h with ⟨hcs, _⟩ | ⟨a, len, cap, zs, hcs, _, hl, hm, hz, _, hcell, hwz⟩
  · simp only [List.cons.injEq, Value.slice.injEq, and_true] at hcs
    obtain ⟨rfl, rfl, rfl⟩ := hcs
    exact ⟨[], rfl, Nat.le_refl _, Kd.C_nil _ _, fun y hy => by cases hy⟩
  · simp only [List.cons.injEq, Value.slice.injEq, and_true] at hcs
    obtain ⟨rfl, rfl, rfl⟩ := hcs
    have hz' : zs.length = c := by simpa using hz
    have hl2 : (zs.take n).length = n := by rw [List.length_take]; omega
    have hm' : c ≤ 9223372036854775807 := hm
    refine ⟨zs.take n, hl2, hl, Kd.C_of_reads (d := 0) ⟨hl2, by omega, fun _ => ⟨a, rfl, fun j hj => ?_⟩⟩, fun y hy => hwz y (List.mem_of_mem_take hy)⟩
    have h1 := hcell j (by omega)
    rw [h1]
    simp [List.getD_eq_getElem?_getD, hj]
set_option maxRecDepth 100000 in
theorem open_C {W : World} {ts : List TypeId} {ds : List (DataW H)} {j B b : Nat} (ht : Tryd.prog.underlying t = some (.slice e)) (he : Tryd.prog.underlying e = some (.int k)) (hc : Tryd.prog.cellsOf e = 1) (hB : Tryd.prog.bytesOf e = B)
    (hok : Value.okWide Tryd.prog W .any b t v) (h : DataW.Trod enc Tryd.prog W 0 (fun _ => true) true t v d p) (hsz : (DataW.weightsEach Tryd.prog ts ds).all (· ≤ reachBytes) = true) (hts : ts[j]? = some t) (hds : ds[j]? = some d) :
    ∃ A c, ∃ l : List Int, v = .slice A l.length c ∧ Kd.C (Kd.int k) W A l.length l ∧ l.length ≤ c ∧ (∀ y ∈ l, (Lit.int k y).wf = true) ∧ l.length * B ≤ 140737488351232 := by
  obtain ⟨A, n, c, rfl⟩ := okWide_slice ht hok
  have hs := sized_ints hsz hts hds ht he hc hB h
  obtain ⟨fuel, hf⟩ := h
  obtain ⟨l, rfl, h2, h3, h4⟩ := open_cells ht he hc (A := A) (n := n) (c := c) (by simp [Value.cells]) hf
  exact ⟨A, c, l, rfl, h3, h2, h4, hs⟩
end
end Go.Proofs.YtlogclmmeikbpaaDoor

