/- Facts carried over what leaves them as they were, by the worlds' forms alone: short words for it. No condition. -/
import Derived.Test.YtlogclmmeikbpaaDoorriPx0
namespace Go.Proofs.YtlogclmmeikbpaaDoor.P
open Go.RowKit Go.Proofs.YtlogclmmeikbpaaDoorW.PrintWords
/-- From W to W' nothing that was there has turned. -/
class Gr (W W' : World) : Prop where
  out : Below W.heap.size W W'
instance gr_refl (W : World) : Gr W W := ⟨Below.refl _ _⟩
instance gr_alloc (W W' : World) (o : Obj) [h : Gr W W'] : Gr W (W'.alloc o) := ⟨below_alloc h.out o⟩
instance gr_drew (W W' : World) [h : Gr W W'] : Gr W W'.drew := ⟨below_drew h.out⟩
instance gr_drewN (W W' : World) (m : Nat) [h : Gr W W'] : Gr W (W'.drewN m) := ⟨pw_below_drewN h.out m⟩
section
variable {W W' : World} [g : Gr W W'] {α : Type} {d : Kd α} {e base : Nat} {ok : Nat → Prop} {v : Value} {xs : List α}
theorem qv (x : Kd.V d e W base ok v xs) : Kd.V d e W' base ok v xs := Kd.V_below x g.out
theorem qr (x : Kd.R d e W base ok v xs) : Kd.R d e W' base ok v xs := Kd.R_below x g.out
theorem qb {b : Nat} {o : Obj} (x : W.heap[b]? = some o) : W'.heap[b]? = some o := blk_below x g.out
end
def allGe (B : Nat) : List Nat → Prop
  | [] => True
  | g :: L => B ≤ g ∧ allGe B L
class Hx (g : Nat) (L : List Nat) : Prop where
  out : ∀ B, allGe B L → B ≤ g
instance hx_head (g : Nat) (L : List Nat) : Hx g (g :: L) := ⟨fun _ h => h.1⟩
instance hx_tail (g x : Nat) (L : List Nat) [h : Hx g L] : Hx g (x :: L) := ⟨fun B a => h.out B a.2⟩
/-- From W to W' nothing has turned below a size that the blocks L lie above. -/
class Gx (L : List Nat) (W W' : World) : Prop where
  out : ∀ w : World, allGe w.heap.size L → Below w.heap.size w W → Below w.heap.size w W'
instance gx_refl (L : List Nat) (W : World) : Gx L W W := ⟨fun _ _ h => h⟩
instance gx_alloc (L : List Nat) (W W' : World) (o : Obj) [h : Gx L W W'] : Gx L W (W'.alloc o) := ⟨fun w a b => below_alloc (h.out w a b) o⟩
instance gx_drew (L : List Nat) (W W' : World) [h : Gx L W W'] : Gx L W W'.drew := ⟨fun w a b => below_drew1 (h.out w a b)⟩
instance gx_drewN (L : List Nat) (W W' : World) (m : Nat) [h : Gx L W W'] : Gx L W (W'.drewN m) := ⟨fun w a b => pw_below_drewN (h.out w a b) m⟩
instance gx_set (L : List Nat) (W W' : World) (b j : Nat) (v : Value) [h : Gx L W W'] [m : Hx b L] : Gx L W (W'.setCell ⟨b, j, none⟩ v) := ⟨fun w a c => below_set (h.out w a c) (m.out _ a)⟩
theorem gx (L : List Nat) {w W W' : World} [h : Gx L W W'] (a : allGe w.heap.size L) (b : Below w.heap.size w W) : Below w.heap.size w W' := h.out w a b
/-- From W to W' nothing that was there has turned but the blocks L. -/
class Fx (L : List Nat) (W W' : World) : Prop where
  size : W.heap.size ≤ W'.heap.size
  out : ∀ k, k < W.heap.size → ¬ k ∈ L → W'.heap[k]? = W.heap[k]?
class Mx (g : Nat) (L : List Nat) : Prop where
  out : g ∈ L
instance mx_head (g : Nat) (L : List Nat) : Mx g (g :: L) := ⟨by simp⟩
instance mx_tail (g x : Nat) (L : List Nat) [h : Mx g L] : Mx g (x :: L) := ⟨List.mem_cons_of_mem _ h.out⟩
instance fx_refl (L : List Nat) (W : World) : Fx L W W := ⟨Nat.le_refl _, fun _ _ _ => rfl⟩
instance fx_alloc (L : List Nat) (W W' : World) (o : Obj) [h : Fx L W W'] : Fx L W (W'.alloc o) := ⟨Nat.le_trans h.size (below_alloc (Below.refl _ _) o).size, fun k hk hn => (Below.heap_alloc W' o k (Nat.lt_of_lt_of_le hk h.size)).trans (h.out k hk hn)⟩
instance fx_drew (L : List Nat) (W W' : World) [h : Fx L W W'] : Fx L W W'.drew := ⟨h.size, h.out⟩
instance fx_drewN (L : List Nat) (W W' : World) (m : Nat) [h : Fx L W W'] : Fx L W (W'.drewN m) := ⟨h.size, h.out⟩
instance fx_set (L : List Nat) (W W' : World) (b j : Nat) (v : Value) [h : Fx L W W'] [m : Mx b L] : Fx L W (W'.setCell ⟨b, j, none⟩ v) := ⟨Nat.le_trans h.size (Nat.le_of_eq (World.size_setCell W' _ v).symm), fun k hk hn => (Below.heap_setCell W' ⟨b, j, none⟩ v k (fun e => hn (e ▸ m.out))).trans (h.out k hk hn)⟩
def NeAll (k : Nat) : List Nat → Prop
  | [] => True
  | g :: L => k ≠ g ∧ NeAll k L
theorem NeAll.out {k : Nat} : ∀ {L : List Nat}, NeAll k L → ¬ k ∈ L
  | [], _, h => by cases h
  | g :: L, a, h => by
    rcases List.mem_cons.1 h with e | e
    · exact a.1 e
    · exact a.2.out e
section
variable {W W' : World} {α : Type} {d : Kd α} {e base : Nat} {ok : Nat → Prop} {v : Value} {xs : List α}
theorem vF (L : List Nat) [h : Fx L W W'] (hn : ∀ k, ok k → NeAll k L) (x : Kd.V d e W base ok v xs) : Kd.V d e W' base ok v xs := Kd.V_step x (fun k hk hl => h.out k hl (hn k hk).out)
theorem bF (L : List Nat) [h : Fx L W W'] {b : Nat} {o : Obj} (hn : NeAll b L) (x : W.heap[b]? = some o) : W'.heap[b]? = some o := (h.out b (blk_lt x) hn.out).trans x
theorem ve {W1 : World} {g : Nat} (hg : g = W.heap.size) (x : Kd.V d e W base ok v xs) (hb : Below W.heap.size W W1) : Kd.V d e W1 base (fun k => ok k ∧ k ≠ g) v xs := Kd.V_below (Kd.V_elderB x g (Nat.le_of_eq hg.symm)) hb
theorem ng {a b : Nat} {o : Obj} (hg : a = W.heap.size) (x : W.heap[b]? = some o) : a ≠ b := by rw [hg]; exact Nat.ne_of_gt (blk_lt x)
theorem nl {a b : Nat} {o : Obj} (hg : a = W.heap.size) (x : W.heap[b]? = some o) : b ≠ a := by rw [hg]; exact Nat.ne_of_lt (blk_lt x)
end
end Go.Proofs.YtlogclmmeikbpaaDoor.P

