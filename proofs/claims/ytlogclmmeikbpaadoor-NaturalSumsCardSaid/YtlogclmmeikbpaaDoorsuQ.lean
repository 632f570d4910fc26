/- Facts carried over what leaves them as they were, by the worlds' forms alone: short words for it. No condition. -/
import Derived.Test.YtlogclmmeikbpaaDoorsuPx0
namespace Go.Proofs.YtlogclmmeikbpaaDoor.P
open Go.RowKit Go.Proofs.YtlogclmmeikbpaaDoorW.PrintWords
/-- From W to W' nothing that was there has turned. -/
class Gr (W W' : World) : Prop where
  out : Below W.heap.size W W'
instance gr_refl (W : World) : Gr W W := ⟨Below.refl _ _⟩
instance gr_alloc (W W' : World) (o : Obj) [h : Gr W W'] : Gr W (W'.alloc o) := ⟨below_alloc h.out o⟩
instance gr_drew (W W' : World) [h : Gr W W'] : Gr W W'.drew := ⟨below_drew h.out⟩
instance gr_drewN (W W' : World) (m : Nat) [h : Gr W W'] : Gr W (W'.drewN m) := ⟨pw_below_drewN h.out m⟩
section
variable {W W' : World} [g : Gr W W'] {α : Type} {d : Kd α} {e base : Nat} {ok : Nat → Prop} {v : Value} {xs : List α}
theorem qv (x : Kd.V d e W base ok v xs) : Kd.V d e W' base ok v xs := Kd.V_below x g.out
theorem qn (x : Kd.N d e W base ok v xs) : Kd.N d e W' base ok v xs := Kd.N_below x g.out
theorem qr (x : Kd.R d e W base ok v xs) : Kd.R d e W' base ok v xs := Kd.R_below x g.out
theorem qb {b : Nat} {o : Obj} (x : W.heap[b]? = some o) : W'.heap[b]? = some o := blk_below x g.out
end
def allGe (B : Nat) : List Nat → Prop
  | [] => True
  | g :: L => B ≤ g ∧ allGe B L
class Hx (g : Nat) (L : List Nat) : Prop where
  out : ∀ B, allGe B L → B ≤ g
instance hx_head (g : Nat) (L : List Nat) : Hx g (g :: L) := ⟨fun _ h => h.1⟩
instance hx_tail (g x : Nat) (L : List Nat) [h : Hx g L] : Hx g (x :: L) := ⟨fun B a => h.out B a.2⟩
/-- From W to W' nothing has turned below a size that the blocks L lie above. -/
class Gx (L : List Nat) (W W' : World) : Prop where
  out : ∀ w : World, allGe w.heap.size L → Below w.heap.size w W → Below w.heap.size w W'
instance gx_refl (L : List Nat) (W : World) : Gx L W W := ⟨fun _ _ h => h⟩
instance gx_alloc (L : List Nat) (W W' : World) (o : Obj) [h : Gx L W W'] : Gx L W (W'.alloc o) := ⟨fun w a b => below_alloc (h.out w a b) o⟩
instance gx_drew (L : List Nat) (W W' : World) [h : Gx L W W'] : Gx L W W'.drew := ⟨fun w a b => below_drew1 (h.out w a b)⟩
instance gx_drewN (L : List Nat) (W W' : World) (m : Nat) [h : Gx L W W'] : Gx L W (W'.drewN m) := ⟨fun w a b => pw_below_drewN (h.out w a b) m⟩
instance gx_set (L : List Nat) (W W' : World) (b j : Nat) (v : Value) [h : Gx L W W'] [m : Hx b L] : Gx L W (W'.setCell ⟨b, j, none⟩ v) := ⟨fun w a c => below_set (h.out w a c) (m.out _ a)⟩
theorem gx (L : List Nat) {w W W' : World} [h : Gx L W W'] (a : allGe w.heap.size L) (b : Below w.heap.size w W) : Below w.heap.size w W' := h.out w a b
end Go.Proofs.YtlogclmmeikbpaaDoor.P

