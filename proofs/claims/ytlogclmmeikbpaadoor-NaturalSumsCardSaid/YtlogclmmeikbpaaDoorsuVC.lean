/- A read row of integers as the printed contracts' shared rows have it. No condition. -/
import Derived.Test.YtlogclmmeikbpaaDoorsuOpen
namespace Go.Proofs.YtlogclmmeikbpaaDoor
open Go.RowKit Go.Proofs.YtlogclmmeikbpaaDoorW.PrintWords
theorem V_of_C {k : IntKind} {e : Nat} {w : World} {A : Option Addr} {c : Nat} {l : List Int} (h : Kd.C (Kd.int k) w A l.length l) (hc : l.length ≤ c) : Kd.V (Kd.int k) e w w.heap.size (fun j => j < w.heap.size) (.slice A l.length c) l :=
  Kd.V_mk hc (Kd.C_F (Kd.heap_int k) h)
end Go.Proofs.YtlogclmmeikbpaaDoor

