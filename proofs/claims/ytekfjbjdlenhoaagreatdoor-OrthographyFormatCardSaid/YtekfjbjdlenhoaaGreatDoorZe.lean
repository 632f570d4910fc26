/- Contracts over whole values, and what they lean on: part e. Each holds under the conditions that it states. -/
import Derived.Test.YtekfjbjdlenhoaaGreatDoorZd
import Derived.KernelRfl
set_option linter.unusedVariables false
set_option linter.unusedSimpArgs false

namespace Go.VL
open Go.RowKit
set_option linter.unusedVariables false

/-! ### Goals, closed to unfolding -/
structure Wp (X : Ctx) (N : Nat) (R : AS → Prop) (k : List KI) (c : Code) (σ : AS) : Prop where
  h : wpc X N c σ (kQ X N R k)
structure Nx (X : Ctx) (N : Nat) (R : AS → Prop) (k : List KI) (σ : AS) : Prop where
  h : kQ X N R k .normal σ
structure Ex (X : Ctx) (N : Nat) (R : AS → Prop) (k : List KI) (id : Nat) (σ : AS) : Prop where
  h : kQ X N R k (.exit id) σ
structure Lp (X : Ctx) (N : Nat) (R : AS → Prop) (k : List KI) (b : Code) (σ : AS) : Prop where
  h : LoopP X N b σ (kQ X N R k)
structure Rn (X : Ctx) (N : Nat) (R : AS → Prop) (k : List KI) (ops : Array Oper) (D : Option (List Fl)) (l : List Oper) (σ : AS) : Prop where
  h : match D with | none => runL X ops l σ (kQ X N R k .normal) | some fls => runDL X ops l fls σ (kQ X N R k .normal)
structure EvR (env : List (Nat × AV)) (x : Operand) (v : AV) : Prop where
  h : evE env x = v
class TInf (X : Ctx) (t : Nat) (T : outParam TI) : Prop where
  h : tinf X.P t = some T
theorem EvR.tmp {env : List (Nat × AV)} {t : Tmp} {v : AV} (h : look env t = some v) : EvR env (.tmp t) v := ⟨by simp only [evE, h]; rfl⟩
theorem EvR.cint {env : List (Nat × AV)} {k : IntKind} {z : Int} (h : k.min ≤ z ∧ z ≤ k.max) : EvR env (.const (.int k z)) (vP (.int k z)) := ⟨by simp [evE, ofVal, ofCell, h]⟩
theorem EvR.of {env : List (Nat × AV)} {x : Operand} {c : AC} (h : evE env x = .one c) : EvR env x (.one c) := ⟨h⟩
theorem EvR.fn {env : List (Nat × AV)} {f : FuncId} : EvR env (.func f) (.one (.pv (.clo f []))) := ⟨rfl⟩

inductive OfL : List Value → List AC → Prop
  | nil : OfL [] []
  | int {k : IntKind} {l : List Value} {cs : List AC} (h : OfL l cs) : OfL (.int k 0 :: l) (.pv (.int k 0) :: cs)
  | bool {b : Bool} {l : List Value} {cs : List AC} (h : OfL l cs) : OfL (.bool b :: l) (.pv (.bool b) :: cs)
  | str {l : List Value} {cs : List AC} (h : OfL l cs) : OfL (.string ⟨⟨[]⟩⟩ :: l) (.pv (.str []) :: cs)
  | nilS {l : List Value} {cs : List AC} (h : OfL l cs) : OfL (.slice none 0 0 :: l) (.pv .nil :: cs)
  | other {v : Value} {l : List Value} {cs : List AC} {c : AC} (h1 : v.oneCell' = true) (h2 : ofCell v = c) (h : OfL l cs) : OfL (v :: l) (c :: cs)
theorem OfL.eq {l : List Value} {cs : List AC} (h : OfL l cs) : l.all Value.oneCell' = true ∧ l.map ofCell = cs := by
  induction h with
  | nil => exact ⟨rfl, rfl⟩
  | @int k l cs _ ih =>
    refine ⟨by simp [ih.1, Value.oneCell'], ?_⟩
    rw [List.map_cons, ih.2]
    have : k.min ≤ 0 ∧ 0 ≤ k.max := by cases k <;> decide
    simp [ofCell, this]
  | bool _ ih => exact ⟨by simp [ih.1, Value.oneCell'], by rw [List.map_cons, ih.2]; rfl⟩
  | str _ ih => exact ⟨by simp [ih.1, Value.oneCell'], by rw [List.map_cons, ih.2]; simp [ofCell]⟩
  | nilS _ ih => exact ⟨by simp [ih.1, Value.oneCell'], by rw [List.map_cons, ih.2]; rfl⟩
  | other h1 h2 _ ih => exact ⟨by simp [ih.1, h1], by rw [List.map_cons, ih.2, h2]⟩
theorem EvR.ci {env : List (Nat × AV)} {k : IntKind} {z : Int} (h : (decide (k.min ≤ z) && decide (z ≤ k.max)) = true) : EvR env (.const (.int k z)) (vP (.int k z)) := by
  simp only [Bool.and_eq_true, decide_eq_true_eq] at h
  exact ⟨by simp [evE, ofVal, ofCell, h]⟩
theorem EvR.cb {env : List (Nat × AV)} {b : Bool} : EvR env (.const (.bool b)) (vB b) := ⟨rfl⟩
theorem EvR.cs {env : List (Nat × AV)} {l : List UInt8} (h : Nat.ble l.length topLen = true) : EvR env (.const (.string ⟨⟨l⟩⟩)) (vS l) := ⟨by
  have := Nat.le_of_ble_eq_true h
  simp [evE, ofVal, ofCell, this]⟩
theorem EvR.cagg {env : List (Nat × AV)} {l : List Value} {cs : List AC} (h : OfL l cs) : EvR env (.const (.agg ⟨l⟩)) (.agg cs) := ⟨by
  have := h.eq
  simp only [evE, ofVal]
  rw [if_pos (by simpa using this.1)]
  simp [this.2]⟩

section
variable {X : Ctx} {N : Nat} {R : AS → Prop} {k : List KI} {σ : AS}
/-! ### Code -/
theorem W_skip (h : Nx X N R k σ) : Wp X N R k .skip σ := ⟨by rw [k_skip]; exact h.h⟩
theorem W_seq {a b : Code} (h : Wp X N R (.code b :: k) a σ) : Wp X N R k (.seq a b) σ := ⟨by rw [k_seq]; exact h.h⟩
theorem W_blk {id : Nat} {b : Code} (h : Wp X N R (.blk id :: k) b σ) : Wp X N R k (.block id b) σ := ⟨by rw [k_blk]; exact h.h⟩
theorem W_exit {id : Nat} (h : Ex X N R k id σ) : Wp X N R k (.exit id) σ := ⟨by rw [k_exit]; exact h.h⟩
theorem W_label {l : Nat} (h : Nx X N R k σ) : Wp X N R k (.label l) σ := ⟨by rw [k_label]; exact h.h⟩
theorem W_ret (h : R σ) : Wp X N R k .ret σ := ⟨by rw [k_ret]; exact h⟩
theorem W_loop {b : Code} (h : Lp X N R k b σ) : Wp X N R k (.loop b) σ := ⟨by rw [k_loop]; exact h.h⟩
theorem W_reg {i : Nat} {l : List Oper} (h : Rn X N R k ⟨l⟩ none l σ) : Wp X N R k (.region i ⟨l⟩ false) σ := ⟨by rw [k_reg]; exact h.h⟩
theorem W_draw {i : Nat} {l : List Oper} (h : Rn X N R k ⟨l⟩ (some []) l σ) : Wp X N R k (.region i ⟨l⟩ true) σ := ⟨by rw [k_draw]; exact h.h⟩
theorem W_cond {c : Operand} {x y : Code} {b : Bool} (hc : EvR σ.env c (vB b)) (ht : b = true → Wp X N R k x σ) (hf : b = false → Wp X N R k y σ) : Wp X N R k (.cond c x y) σ :=
  ⟨by rw [k_cond, hc.h, condP_bool]; exact ⟨fun h => (ht h).h, fun h => (hf h).h⟩⟩
theorem W_cond_t {c : Operand} {x y : Code} (hc : EvR σ.env c (vB true) := by exact ⟨rfl⟩) (ht : Wp X N R k x σ) : Wp X N R k (.cond c x y) σ := W_cond hc (fun _ => ht) (fun h => by cases h)
theorem W_cond_f {c : Operand} {x y : Code} (hc : EvR σ.env c (vB false) := by exact ⟨rfl⟩) (ht : Wp X N R k y σ) : Wp X N R k (.cond c x y) σ := W_cond hc (fun h => by cases h) (fun _ => ht)
theorem W_ub {c : Operand} {x y : Code} (hc : EvR σ.env c (.one .ub) := by exact ⟨rfl⟩) (ht : Wp X N R k x σ) (hf : Wp X N R k y σ) : Wp X N R k (.cond c x y) σ :=
  ⟨by rw [k_cond, hc.h]; exact ⟨ht.h, hf.h⟩⟩
/-- The test, as what it says. -/
theorem W_if {c : Operand} {x y : Code} {p : Prop} [Decidable p] (hc : EvR σ.env c (vB (decide p)) := by exact ⟨rfl⟩) (ht : p → Wp X N R k x σ) (hf : ¬ p → Wp X N R k y σ) : Wp X N R k (.cond c x y) σ :=
  W_cond hc (fun h => ht (of_decide_eq_true h)) (fun h => hf (of_decide_eq_false h))
theorem W_ifb {c : Operand} {x y : Code} {b : Bool} (hc : EvR σ.env c (vB b) := by exact ⟨rfl⟩) (ht : b = true → Wp X N R k x σ) (hf : b = false → Wp X N R k y σ) : Wp X N R k (.cond c x y) σ := W_cond hc ht hf
theorem N_nil (h : R σ) : Nx X N R [] σ := ⟨by rw [n_nil]; exact h⟩
theorem N_code {c : Code} (h : Wp X N R k c σ) : Nx X N R (.code c :: k) σ := ⟨by rw [n_code]; exact h.h⟩
theorem N_blk {id : Nat} (h : Nx X N R k σ) : Nx X N R (.blk id :: k) σ := ⟨by rw [n_blk]; exact h.h⟩
theorem N_stop {K : AS → Prop} (h : K σ) : Nx X N R (.stop K :: k) σ := ⟨by rw [n_stop]; exact h⟩
theorem X_code {c : Code} {id : Nat} (h : Ex X N R k id σ) : Ex X N R (.code c :: k) id σ := ⟨by rw [x_code]; exact h.h⟩
theorem X_stop {K : AS → Prop} {id : Nat} (h : Ex X N R k id σ) : Ex X N R (.stop K :: k) id σ := ⟨by rw [x_stop]; exact h.h⟩
theorem X_hit {id : Nat} (h : Nx X N R k σ) : Ex X N R (.blk id :: k) id σ := ⟨by rw [x_blk, if_pos rfl]; exact h.h⟩
theorem X_miss {i id : Nat} (h : Ex X N R k id σ) (hn : (id == i) = false := by rfl) : Ex X N R (.blk i :: k) id σ := ⟨by rw [x_blk, if_neg (by simpa using hn)]; exact h.h⟩
/-- A loop; `g` runs over what tells one round from another. -/
theorem Lp.intro {b : Code} {G : Type} (I : G → AS) (P : G → Prop) (μ : G → Nat) (g0 : G) (hp : P g0) (hok : codeOk N b = true := by rfl) (h0 : σ.Le X N (I g0))
    (hr : ∀ g K, P g → (∀ σ' g', P g' → μ g' < μ g → σ'.Le X N (I g') → K σ') → Wp X N R (.stop K :: k) b (I g)) : Lp X N R k b σ :=
  ⟨loop_k (fun g : {g : G // P g} => I g.1) (fun g => μ g.1) hok ⟨g0, hp⟩ h0 fun g K hK => (hr g.1 K g.2 fun σ' g' h1 h2 h3 => hK σ' ⟨g', h1⟩ h3 h2).h⟩

theorem Lp.intro2 {b : Code} {A B : Type} (I : A → B → AS) (P : A → B → Prop) (μ : A → B → Nat) (a0 : A) (b0 : B) (hp : P a0 b0) (hok : codeOk N b = true := by rfl) (h0 : σ.Le X N (I a0 b0))
    (hr : ∀ x y K, P x y → (∀ σ' x' y', P x' y' → μ x' y' < μ x y → σ'.Le X N (I x' y') → K σ') → Wp X N R (.stop K :: k) b (I x y)) : Lp X N R k b σ :=
  Lp.intro (fun g : A × B => I g.1 g.2) (fun g => P g.1 g.2) (fun g => μ g.1 g.2) (a0, b0) hp hok h0 fun g K hP hK => hr g.1 g.2 K hP fun σ' x' y' => hK σ' (x', y')
theorem Lp.intro3 {b : Code} {A B C : Type} (I : A → B → C → AS) (P : A → B → C → Prop) (μ : A → B → C → Nat) (a0 : A) (b0 : B) (c0 : C) (hp : P a0 b0 c0) (hok : codeOk N b = true := by rfl) (h0 : σ.Le X N (I a0 b0 c0))
    (hr : ∀ x y z K, P x y z → (∀ σ' x' y' z', P x' y' z' → μ x' y' z' < μ x y z → σ'.Le X N (I x' y' z') → K σ') → Wp X N R (.stop K :: k) b (I x y z)) : Lp X N R k b σ :=
  Lp.intro (fun g : A × B × C => I g.1 g.2.1 g.2.2) (fun g => P g.1 g.2.1 g.2.2) (fun g => μ g.1 g.2.1 g.2.2) (a0, b0, c0) hp hok h0 fun g K hP hK => hr g.1 g.2.1 g.2.2 K hP fun σ' x' y' z' => hK σ' (x', y', z')
theorem Lp.intro4 {b : Code} {A B C E : Type} (I : A → B → C → E → AS) (P : A → B → C → E → Prop) (μ : A → B → C → E → Nat) (a0 : A) (b0 : B) (c0 : C) (e0 : E) (hp : P a0 b0 c0 e0) (hok : codeOk N b = true := by rfl) (h0 : σ.Le X N (I a0 b0 c0 e0))
    (hr : ∀ x y z v K, P x y z v → (∀ σ' x' y' z' v', P x' y' z' v' → μ x' y' z' v' < μ x y z v → σ'.Le X N (I x' y' z' v') → K σ') → Wp X N R (.stop K :: k) b (I x y z v)) : Lp X N R k b σ :=
  Lp.intro (fun g : A × B × C × E => I g.1 g.2.1 g.2.2.1 g.2.2.2) (fun g => P g.1 g.2.1 g.2.2.1 g.2.2.2) (fun g => μ g.1 g.2.1 g.2.2.1 g.2.2.2) (a0, b0, c0, e0) hp hok h0 fun g K hP hK => hr g.1 g.2.1 g.2.2.1 g.2.2.2 K hP fun σ' x' y' z' v' => hK σ' (x', y', z', v')

/-! ### Operations -/
inductive SkD : Option (List Fl) → Option (List Fl) → Prop
  | seq : SkD none none
  | drawn {fls : List Fl} : SkD (some fls) (some (⟨0, [], none, false⟩ :: fls))
structure FlR (D : Option (List Fl)) (env : List (Nat × AV)) (op : Op) (v : AV) (ef : Ef) (D' : Option (List Fl)) : Prop where
  h : match D with | none => D' = none | some fls => ∃ f, D' = some (f :: fls) ∧ ∀ o : Oper, o.op = op → flagOf env o v ef = f
theorem FlR.seq {env : List (Nat × AV)} {op : Op} {v : AV} {ef : Ef} : FlR none env op v ef none := ⟨rfl⟩
/-- What the flag is, told of the operation alone. -/
def flagP (env : List (Nat × AV)) (op : Op) (v : AV) : Ef → Fl
  | .n rd zs add => if rd.isEmpty = true ∧ zs.isEmpty = true ∧ add.isNone = true ∧ v.isPv = true ∧ (op.operands.toList.all fun x => (evE env x).isPv) = true then ⟨0, [], none, false⟩ else ⟨1, rd ++ zs, adO zs add, frO env op v add⟩
  | .e _ m => ⟨2, wrO op (evE env), m, false⟩
theorem flagP_eq (env : List (Nat × AV)) (o : Oper) (v : AV) (ef : Ef) : flagOf env o v ef = flagP env o.op v ef := by cases ef <;> rfl
theorem FlR.drawn {env : List (Nat × AV)} {op : Op} {v : AV} {ef : Ef} {fls : List Fl} {n : Nat} {rd : List Nat} {ad : Option Nat} {fr : Bool} (h : flagP env op v ef = ⟨n, rd, ad, fr⟩) : FlR (some fls) env op v ef (some (⟨n, rd, ad, fr⟩ :: fls)) :=
  .mk (show ∃ f, _ ∧ _ from ⟨_, rfl, fun o ho => by rw [flagP_eq, ho, h]⟩)
variable {ops : Array Oper} {D D' : Option (List Fl)} {rest : List Oper} {env : List (Nat × AV)} {h : Hp} {n n' : Nat} {dst : Option Tmp} {t d : Tmp} {op : Op} {ty a : TypeId} {ps : String} {af : Array Edge}
theorem Rn.nil (hK : Nx X N R k σ) : Rn X N R k ops none [] σ := .mk (show runL X ops [] σ _ from hK.h)
theorem Rn.nilD {fls : List Fl} (hK : Nx X N R k σ) (h1 : orderOk ops = true := by kernel_rfl) (h2 : pairsFast ops fls.reverse = true := by kernel_rfl) : Rn X N R k ops (some fls) [] σ := .mk (show runDL X ops [] fls σ _ from ⟨h1, pairsFast_ok h2, hK.h⟩)
theorem Rn.step {ef : Ef} {v : AV} (hf : freshE h ef) (hv : ∀ K : Ef → AV → Nat → Prop, K ef v n' → evOp X ⟨dst, op, ty, ps, af, none⟩ (evE env) h n K) (hfl : FlR D env op v ef D') (hK : Rn X N R k ops D' rest ((AS.mk env h n).fin dst ef v n')) :
    Rn X N R k ops D (⟨dst, op, ty, ps, af, none⟩ :: rest) ⟨env, h, n⟩ := by
  constructor
  cases D with
  | none =>
    have e := hfl.h
    simp only at e
    subst e
    exact hv (fun ef v nx => freshE h ef ∧ runL X ops rest ((AS.mk env h n).fin dst ef v nx) (kQ X N R k .normal)) ⟨hf, hK.h⟩
  | some fls =>
    obtain ⟨f, rfl, hf2⟩ := hfl.h
    refine hv (fun ef v nx => freshE h ef ∧ runDL X ops rest (flagOf env ⟨dst, op, ty, ps, af, none⟩ v ef :: fls) ((AS.mk env h n).fin dst ef v nx) (kQ X N R k .normal)) ⟨hf, ?_⟩
    rw [hf2 _ rfl]
    exact hK.h
/-- An operation that reads its operands alone. -/
def valOp : Op → Bool
  | .load .. | .alloc .. | .box .. | .makeSlice .. | .buildSlice .. | .store .. | .call .. => false
  | _ => true
theorem Rn.val {v : AV} (hop : valOp op = true) (hv : ∀ K : AV → Prop, K v → evVal X op (evE env) K) (hfl : FlR D env op v (.n [] [] none) D') (hK : Rn X N R k ops D' rest ⟨(d, v) :: env, h, n⟩) :
    Rn X N R k ops D (⟨some d, op, ty, ps, af, none⟩ :: rest) ⟨env, h, n⟩ := by
  refine Rn.step (ef := .n [] [] none) trivial (fun K hK => ?_) hfl hK
  have := hv (fun v => K (.n [] [] none) v n) hK
  cases op <;> first | exact this | exact .inl this | cases hop

/-! Values moved -/
theorem R_move {x : Operand} {v : AV} (hx : EvR env x v := by first | exact .tmp rfl | exact .ci rfl | exact .cb | exact .cs rfl | exact .of rfl | exact .fn | (apply EvR.cagg; repeat (first | exact OfL.nil | apply OfL.int | apply OfL.bool | apply OfL.str | apply OfL.nilS | (apply OfL.other; rfl; rfl)))) (hfl : FlR D env (.move x) v (.n [] [] none) D' := by first | exact .seq | exact .drawn rfl)
    (hK : Rn X N R k ops D' rest ⟨(d, v) :: env, h, n⟩) : Rn X N R k ops D (⟨some d, .move x, ty, ps, af, none⟩ :: rest) ⟨env, h, n⟩ :=
  Rn.val rfl (fun K hK => by simp only [evVal, hx.h]; exact hK) hfl hK
theorem R_assign {x : Operand} {v : AV} (hx : EvR env x v := by first | exact .tmp rfl | exact .ci rfl | exact .cb | exact .cs rfl | exact .of rfl | exact .fn | (apply EvR.cagg; repeat (first | exact OfL.nil | apply OfL.int | apply OfL.bool | apply OfL.str | apply OfL.nilS | (apply OfL.other; rfl; rfl)))) (hfl : FlR D env (.assign x) v (.n [] [] none) D' := by first | exact .seq | exact .drawn rfl)
    (hK : Rn X N R k ops D' rest ⟨(d, v) :: env, h, n⟩) : Rn X N R k ops D (⟨some d, .assign x, ty, ps, af, none⟩ :: rest) ⟨env, h, n⟩ :=
  Rn.val rfl (fun K hK => by simp only [evVal, hx.h]; exact hK) hfl hK
theorem R_pick_t {c x y : Operand} {v : AV} (hc : EvR env c (vB true) := by exact ⟨rfl⟩) (hx : EvR env x v := by first | exact .tmp rfl | exact .ci rfl | exact .cb | exact .cs rfl | exact .of rfl | exact .fn | (apply EvR.cagg; repeat (first | exact OfL.nil | apply OfL.int | apply OfL.bool | apply OfL.str | apply OfL.nilS | (apply OfL.other; rfl; rfl)))) (hfl : FlR D env (.pick c x y) v (.n [] [] none) D' := by first | exact .seq | exact .drawn rfl)
    (hK : Rn X N R k ops D' rest ⟨(d, v) :: env, h, n⟩) : Rn X N R k ops D (⟨some d, .pick c x y, ty, ps, af, none⟩ :: rest) ⟨env, h, n⟩ :=
  Rn.val rfl (fun K hK => by simp only [evVal, hx.h, hc.h]; exact ⟨fun _ => hK, fun e => by cases e⟩) hfl hK
theorem R_pick_f {c x y : Operand} {v : AV} (hc : EvR env c (vB false) := by exact ⟨rfl⟩) (hy : EvR env y v := by first | exact .tmp rfl | exact .ci rfl | exact .cb | exact .cs rfl | exact .of rfl | exact .fn | (apply EvR.cagg; repeat (first | exact OfL.nil | apply OfL.int | apply OfL.bool | apply OfL.str | apply OfL.nilS | (apply OfL.other; rfl; rfl)))) (hfl : FlR D env (.pick c x y) v (.n [] [] none) D' := by first | exact .seq | exact .drawn rfl)
    (hK : Rn X N R k ops D' rest ⟨(d, v) :: env, h, n⟩) : Rn X N R k ops D (⟨some d, .pick c x y, ty, ps, af, none⟩ :: rest) ⟨env, h, n⟩ :=
  Rn.val rfl (fun K hK => by simp only [evVal, hy.h, hc.h]; exact ⟨fun e => (by cases e), fun _ => hK⟩) hfl hK
theorem setB_self {b b' : Bool} (hb : b = b') (hc : look env t = some (vB b)) : ∀ s, look ((t, vB b') :: env) s = look env s := fun s => by
  subst hb
  simp only [look]
  split
  · rename_i e; rw [e, hc]
  · rfl
/-- A guarded operation. -/
theorem R_guard {j : Nat} {want b : Bool} (ht : (ops[j]?).bind (·.dst) = some t) (hc : look env t = some (vB b)) {D1 D2 : Option (List Fl)}
    (h1 : b = want → Rn X N R k ops D (⟨dst, op, ty, ps, af, none⟩ :: rest) ⟨(t, vB want) :: env, h, n⟩)
    (hD : SkD D D2)
    (h2 : b = !want → Rn X N R k ops D2 rest ⟨delO ((t, vB (!want)) :: env) dst, h, n⟩) : Rn X N R k ops D (⟨dst, op, ty, ps, af, some (j, want)⟩ :: rest) ⟨env, h, n⟩ := by
  constructor
  cases hD with
  | seq =>
    simp only [runL, gdo, ht, hc]
    exact ⟨fun e => (h1 e).h, fun e => (h2 e).h⟩
  | drawn =>
    simp only [runDL, gdoD, ht, hc]
    exact ⟨fun e => (h1 e).h, fun e => (h2 e).h⟩
theorem R_g_yes {j : Nat} {want : Bool} (ht : (ops[j]?).bind (·.dst) = some t := by rfl) (hc : look env t = some (vB want) := by rfl)
    (hK : Rn X N R k ops D (⟨dst, op, ty, ps, af, none⟩ :: rest) ⟨(t, vB want) :: env, h, n⟩) : Rn X N R k ops D (⟨dst, op, ty, ps, af, some (j, want)⟩ :: rest) ⟨env, h, n⟩ :=
  R_guard (D1 := none) (D2 := D.map (⟨0, [], none, false⟩ :: ·)) ht hc (fun _ => hK) (by cases D; exact .seq; exact .drawn) (fun e => by cases want <;> cases e)
theorem R_g_no {j : Nat} {want b : Bool} (ht : (ops[j]?).bind (·.dst) = some t := by rfl) (hc : look env t = some (vB b) := by rfl) (hb : (b == want) = false := by rfl) {D2 : Option (List Fl)} (hD : SkD D D2 := by first | exact .seq | exact .drawn)
    (hK : Rn X N R k ops D2 rest ⟨delO ((t, vB (!want)) :: env) dst, h, n⟩) : Rn X N R k ops D (⟨dst, op, ty, ps, af, some (j, want)⟩ :: rest) ⟨env, h, n⟩ :=
  R_guard (D1 := none) ht hc (fun e => by subst e; simp at hb) hD (fun _ => hK)
theorem R_g_un {j : Nat} {want : Bool} (ht : (ops[j]?).bind (·.dst) = some t := by rfl) (hc : look env t = some (.tup []) := by rfl) {D2 : Option (List Fl)} (hD : SkD D D2 := by first | exact .seq | exact .drawn)
    (hK : Rn X N R k ops D2 rest ⟨delO env dst, h, n⟩) : Rn X N R k ops D (⟨dst, op, ty, ps, af, some (j, want)⟩ :: rest) ⟨env, h, n⟩ := by
  constructor
  cases hD with
  | seq =>
    simp only [runL, gdo, ht, hc]
    exact hK.h
  | drawn =>
    simp only [runDL, gdoD, ht, hc]
    exact hK.h
theorem R_g_if {j : Nat} {want : Bool} {p : Prop} [Decidable p] (ht : (ops[j]?).bind (·.dst) = some t := by rfl) (hc : look env t = some (vB (decide p)) := by rfl) {D2 : Option (List Fl)} (hD : SkD D D2 := by first | exact .seq | exact .drawn)
    (h1 : (if want = true then p else ¬ p) → Rn X N R k ops D (⟨dst, op, ty, ps, af, none⟩ :: rest) ⟨(t, vB want) :: env, h, n⟩)
    (h2 : (if want = true then ¬ p else p) → Rn X N R k ops D2 rest ⟨delO ((t, vB (!want)) :: env) dst, h, n⟩) : Rn X N R k ops D (⟨dst, op, ty, ps, af, some (j, want)⟩ :: rest) ⟨env, h, n⟩ :=
  R_guard (D1 := none) ht hc (fun e => h1 (by cases want <;> simp_all)) hD (fun e => h2 (by cases want <;> simp_all))
theorem R_g_b {j : Nat} {want b : Bool} (ht : (ops[j]?).bind (·.dst) = some t := by rfl) (hc : look env t = some (vB b) := by rfl) {D2 : Option (List Fl)} (hD : SkD D D2 := by first | exact .seq | exact .drawn)
    (h1 : b = want → Rn X N R k ops D (⟨dst, op, ty, ps, af, none⟩ :: rest) ⟨(t, vB want) :: env, h, n⟩)
    (h2 : b = !want → Rn X N R k ops D2 rest ⟨delO ((t, vB (!want)) :: env) dst, h, n⟩) : Rn X N R k ops D (⟨dst, op, ty, ps, af, some (j, want)⟩ :: rest) ⟨env, h, n⟩ :=
  R_guard (D1 := none) ht hc h1 hD h2
end
end Go.VL


namespace Go.VL
open Go.RowKit
set_option linter.unusedVariables false

theorem lt5h {n : Nat} (h : Nat.blt n 500 = true) : n < 500 := by simpa using h
theorem lt1k {n : Nat} (h : Nat.blt n 1000 = true) : n < 1000 := by simpa using h
theorem toNat_add (a b : Nat) : ((a : Int) + (b : Int)).toNat = a + b := by omega
theorem toNat_add1 (a : Nat) : ((a : Int) + 1).toNat = a + 1 := by omega
theorem rg_i64 {z : Int} (h0 : -9223372036854775808 ≤ z) (h1 : z ≤ 9223372036854775807) : IntKind.i64.min ≤ z ∧ z ≤ IntKind.i64.max := by rw [range_i64]; exact ⟨h0, h1⟩
def zc (z : Value) : Option (List AC) := if z.cells.toList.all Value.oneCell' = true then some (z.cells.toList.map ofCell) else none
theorem zc_eq (z : Value) : zeroCs z = zc z := by unfold zeroCs zc; rw [Array.all_toList]
def zpv (z : Value) : Option (List PV) := (zc z).bind fun cs => cs.foldr (fun c l => match c, l with | .pv p, some l => some (p :: l) | _, _ => none) (some [])
theorem zpv_eq (z : Value) : zeroPvs z = zpv z := by unfold zeroPvs zpv; rw [zc_eq]; rfl
/-- A list laid out in cells. -/
def slc {α : Type} (e : α → List PV) (l : List α) : PV := .sl l.length (l.flatMap e)
def eI (z : Int) : List PV := [.int .i64 z]
def eS (s : List UInt8) : List PV := [.str s]
def eU (b : UInt8) : List PV := [.int .u8 (b.toNat : Int)]
def eL {α : Type} (e : α → List PV) (l : List α) : List PV := [slc e l]
theorem gD {α : Type} [Inhabited α] {l : List α} {m : Nat} (h : m < l.length) : l[m]? = some (l.getD m default) := by
  rw [List.getD_eq_getElem?_getD, List.getElem?_eq_getElem h]; rfl
theorem gDI {l : List Int} {m : Nat} (h : m < l.length) : l[m]? = some (l.getD m 0) := by
  rw [List.getD_eq_getElem?_getD, List.getElem?_eq_getElem h]; rfl
theorem gDS {l : List (List UInt8)} {m : Nat} (h : m < l.length) : l[m]? = some (l.getD m []) := by
  rw [List.getD_eq_getElem?_getD, List.getElem?_eq_getElem h]; rfl
theorem flat_len {α : Type} {e : α → List PV} {S : Nat} (he : ∀ x, (e x).length = S) (l : List α) : (l.flatMap e).length = l.length * S := by
  induction l with
  | nil => simp
  | cons x l ih => rw [List.flatMap_cons, List.length_append, he, ih, List.length_cons, Nat.succ_mul]; omega
theorem flat_drop {α : Type} {e : α → List PV} {S : Nat} (he : ∀ x, (e x).length = S) : ∀ (l : List α) (m : Nat), (l.flatMap e).drop (m * S) = (l.drop m).flatMap e
  | l, 0 => by simp
  | [], m + 1 => by simp
  | x :: l, m + 1 => by
    rw [List.flatMap_cons, List.drop_succ_cons, ← flat_drop he l m, List.drop_append, List.drop_eq_nil_of_le (by rw [he, Nat.succ_mul]; omega), he, Nat.succ_mul]
    simp
theorem flat_take {α : Type} {e : α → List PV} {S : Nat} (he : ∀ x, (e x).length = S) : ∀ (l : List α) (m : Nat), (l.flatMap e).take (m * S) = (l.take m).flatMap e
  | l, 0 => by simp
  | [], m + 1 => by simp
  | x :: l, m + 1 => by
    rw [List.flatMap_cons, List.take_succ_cons, List.flatMap_cons, ← flat_take he l m, List.take_append, List.take_of_length_le (by rw [he, Nat.succ_mul]; omega), he, Nat.succ_mul]
    simp
theorem flat_part {α : Type} {e : α → List PV} {S : Nat} (he : ∀ x, (e x).length = S) {l : List α} {m : Nat} {x : α} (h : l[m]? = some x) : ((l.flatMap e).drop (m * S)).take S = e x ∧ m * S + S ≤ (l.flatMap e).length := by
  obtain ⟨hm, rfl⟩ := List.getElem?_eq_some_iff.1 h
  constructor
  · rw [flat_drop he, List.drop_eq_getElem_cons hm, List.flatMap_cons, List.take_append_of_le_length (by rw [he]; omega), List.take_of_length_le (by rw [he]; omega)]
  · rw [flat_len he, ← Nat.succ_mul]; exact Nat.mul_le_mul_right S hm
theorem flat_get {α : Type} {e : α → List PV} {S : Nat} (he : ∀ x, (e x).length = S) {l : List α} {m j : Nat} {x : α} {p : PV} (h : l[m]? = some x) (hp : (e x)[j]? = some p) : (l.flatMap e)[m * S + j]? = some p := by
  have hj : j < S := by rw [← he x]; exact (List.getElem?_eq_some_iff.1 hp).1
  obtain ⟨h1, h2⟩ := flat_part he h
  have : (((l.flatMap e).drop (m * S)).take S)[j]? = some p := by rw [h1]; exact hp
  rw [List.getElem?_take, if_pos hj, List.getElem?_drop] at this
  exact this
theorem flat_set {α : Type} {e : α → List PV} {S : Nat} (he : ∀ x, (e x).length = S) : ∀ {l : List α} {m : Nat} (x : α), m < l.length → setMany (l.flatMap e) (m * S) (e x) = (l.set m x).flatMap e
  | y :: l, 0, x, _ => by
    unfold setMany
    rw [List.set_cons_zero, List.flatMap_cons, List.flatMap_cons, he, ← he y]
    simp
  | y :: l, m + 1, x, h => by
    have ih := flat_set he x (m := m) (l := l) (by simpa using h)
    unfold setMany at ih ⊢
    rw [List.set_cons_succ, List.flatMap_cons, List.flatMap_cons, ← ih, List.take_append, List.drop_append, he, Nat.succ_mul, List.take_of_length_le (by rw [he]; omega), he, List.drop_eq_nil_of_le (by rw [he]; omega)]
    rw [show m * S + S - S = m * S by omega, show m * S + S + S - S = m * S + S by omega]
    simp
  | [], m, x, h => by simp at h

section
variable {X : Ctx} {N : Nat} {R : AS → Prop} {k : List KI} {σ : AS} {ops : Array Oper} {D D' : Option (List Fl)} {rest : List Oper} {env : List (Nat × AV)} {h : Hp} {n n' : Nat} {dst : Option Tmp} {t d : Tmp} {op : Op} {ty tx t' : TypeId} {ps : String} {af : Array Edge}
/-! ### Arithmetic and tests -/
theorem R_bin {bo : BinOp} {x y : Operand} {kx ky : IntKind} {a b : Int} {v : AV} (hx : EvR env x (.one (.pv (.int kx a)))) (hy : EvR env y (.one (.pv (.int ky b)))) (hv : ∀ K : AV → Prop, K v → evInt bo kx a ky b K)
    (hfl : FlR D env (.binOp bo tx x y t') v (.n [] [] none) D') (hK : Rn X N R k ops D' rest ⟨(d, v) :: env, h, n⟩) : Rn X N R k ops D (⟨some d, .binOp bo tx x y t', ty, ps, af, none⟩ :: rest) ⟨env, h, n⟩ :=
  Rn.val rfl (fun K hK => by simp only [evVal, hx.h, hy.h, evBin]; exact .inl (hv K hK)) hfl hK
theorem R_add {x y : Operand} {a b : Int} (hx : EvR env x (vI a) := by exact ⟨rfl⟩) (hy : EvR env y (vI b) := by exact ⟨rfl⟩) (hr : -9223372036854775808 ≤ a + b ∧ a + b ≤ 9223372036854775807 := by first | (constructor <;> omega) | (constructor <;> (first | omega | (simp only [List.length_set, List.length_append, List.length_cons, List.length_nil, List.length_take, List.length_drop, List.length_replicate, List.length_map, List.length_reverse] at * <;> omega))))
    (hfl : FlR D env (.binOp .add tx x y t') (vI (a + b)) (.n [] [] none) D' := by first | exact .seq | exact .drawn rfl) (hK : Rn X N R k ops D' rest ⟨(d, vI (a + b)) :: env, h, n⟩) :
    Rn X N R k ops D (⟨some d, .binOp .add tx x y t', ty, ps, af, none⟩ :: rest) ⟨env, h, n⟩ := R_bin hx hy (fun K hK => ⟨rfl, by rw [wrap_i64 hr.1 hr.2]; exact hK⟩) hfl hK
theorem R_sub {x y : Operand} {a b : Int} (hx : EvR env x (vI a) := by exact ⟨rfl⟩) (hy : EvR env y (vI b) := by exact ⟨rfl⟩) (hr : -9223372036854775808 ≤ a - b ∧ a - b ≤ 9223372036854775807 := by first | (constructor <;> omega) | (constructor <;> (first | omega | (simp only [List.length_set, List.length_append, List.length_cons, List.length_nil, List.length_take, List.length_drop, List.length_replicate, List.length_map, List.length_reverse] at * <;> omega))))
    (hfl : FlR D env (.binOp .sub tx x y t') (vI (a - b)) (.n [] [] none) D' := by first | exact .seq | exact .drawn rfl) (hK : Rn X N R k ops D' rest ⟨(d, vI (a - b)) :: env, h, n⟩) :
    Rn X N R k ops D (⟨some d, .binOp .sub tx x y t', ty, ps, af, none⟩ :: rest) ⟨env, h, n⟩ := R_bin hx hy (fun K hK => ⟨rfl, by rw [wrap_i64 hr.1 hr.2]; exact hK⟩) hfl hK
theorem R_mul {x y : Operand} {a b : Int} (hx : EvR env x (vI a) := by exact ⟨rfl⟩) (hy : EvR env y (vI b) := by exact ⟨rfl⟩) (hr : -9223372036854775808 ≤ a * b ∧ a * b ≤ 9223372036854775807 := by first | (constructor <;> omega) | (constructor <;> (first | omega | (simp only [List.length_set, List.length_append, List.length_cons, List.length_nil, List.length_take, List.length_drop, List.length_replicate, List.length_map, List.length_reverse] at * <;> omega))))
    (hfl : FlR D env (.binOp .mul tx x y t') (vI (a * b)) (.n [] [] none) D' := by first | exact .seq | exact .drawn rfl) (hK : Rn X N R k ops D' rest ⟨(d, vI (a * b)) :: env, h, n⟩) :
    Rn X N R k ops D (⟨some d, .binOp .mul tx x y t', ty, ps, af, none⟩ :: rest) ⟨env, h, n⟩ := R_bin hx hy (fun K hK => ⟨rfl, by rw [wrap_i64 hr.1 hr.2]; exact hK⟩) hfl hK
theorem R_quo {x y : Operand} {a b : Int} (hx : EvR env x (vI a) := by exact ⟨rfl⟩) (hy : EvR env y (vI b) := by exact ⟨rfl⟩) (ha : 0 ≤ a ∧ a ≤ 9223372036854775807 := by first | (constructor <;> omega) | (constructor <;> (first | omega | (simp only [List.length_set, List.length_append, List.length_cons, List.length_nil, List.length_take, List.length_drop, List.length_replicate, List.length_map, List.length_reverse] at * <;> omega)))) (hb : 0 < b := by omega)
    (hfl : FlR D env (.binOp .quo tx x y t') (vI (a / b)) (.n [] [] none) D' := by first | exact .seq | exact .drawn rfl) (hK : Rn X N R k ops D' rest ⟨(d, vI (a / b)) :: env, h, n⟩) :
    Rn X N R k ops D (⟨some d, .binOp .quo tx x y t', ty, ps, af, none⟩ :: rest) ⟨env, h, n⟩ := R_bin hx hy (fun K hK => ⟨rfl, by omega, by
      have h1 := Int.ediv_nonneg ha.1 (Int.le_of_lt hb)
      have h2 := Int.ediv_le_self b ha.1
      rw [Int.tdiv_eq_ediv_of_nonneg ha.1, wrap_i64 (by omega) (by omega)]; exact hK⟩) hfl hK
theorem R_rem {x y : Operand} {a b : Int} (hx : EvR env x (vI a) := by exact ⟨rfl⟩) (hy : EvR env y (vI b) := by exact ⟨rfl⟩) (ha : 0 ≤ a := by omega) (hb : 0 < b := by omega)
    (hfl : FlR D env (.binOp .rem tx x y t') (vI (a % b)) (.n [] [] none) D' := by first | exact .seq | exact .drawn rfl) (hK : Rn X N R k ops D' rest ⟨(d, vI (a % b)) :: env, h, n⟩) :
    Rn X N R k ops D (⟨some d, .binOp .rem tx x y t', ty, ps, af, none⟩ :: rest) ⟨env, h, n⟩ := R_bin hx hy (fun K hK => ⟨rfl, by omega, by rw [Int.tmod_eq_emod_of_nonneg ha]; exact hK⟩) hfl hK
theorem R_eql {x y : Operand} {kx : IntKind} {a b : Int} (hx : EvR env x (.one (.pv (.int kx a))) := by exact ⟨rfl⟩) (hy : EvR env y (.one (.pv (.int kx b))) := by exact ⟨rfl⟩)
    (hfl : FlR D env (.binOp .eql tx x y t') (vB (decide (a = b))) (.n [] [] none) D' := by first | exact .seq | exact .drawn rfl) (hK : Rn X N R k ops D' rest ⟨(d, vB (decide (a = b))) :: env, h, n⟩) :
    Rn X N R k ops D (⟨some d, .binOp .eql tx x y t', ty, ps, af, none⟩ :: rest) ⟨env, h, n⟩ := R_bin hx hy (fun K hK => ⟨rfl, hK⟩) hfl hK
theorem R_neq {x y : Operand} {kx : IntKind} {a b : Int} (hx : EvR env x (.one (.pv (.int kx a))) := by exact ⟨rfl⟩) (hy : EvR env y (.one (.pv (.int kx b))) := by exact ⟨rfl⟩)
    (hfl : FlR D env (.binOp .neq tx x y t') (vB (decide (¬ a = b))) (.n [] [] none) D' := by first | exact .seq | exact .drawn rfl) (hK : Rn X N R k ops D' rest ⟨(d, vB (decide (¬ a = b))) :: env, h, n⟩) :
    Rn X N R k ops D (⟨some d, .binOp .neq tx x y t', ty, ps, af, none⟩ :: rest) ⟨env, h, n⟩ := R_bin hx hy (fun K hK => ⟨rfl, by rw [← decide_not]; exact hK⟩) hfl hK
theorem R_lss {x y : Operand} {kx : IntKind} {a b : Int} (hx : EvR env x (.one (.pv (.int kx a))) := by exact ⟨rfl⟩) (hy : EvR env y (.one (.pv (.int kx b))) := by exact ⟨rfl⟩)
    (hfl : FlR D env (.binOp .lss tx x y t') (vB (decide (a < b))) (.n [] [] none) D' := by first | exact .seq | exact .drawn rfl) (hK : Rn X N R k ops D' rest ⟨(d, vB (decide (a < b))) :: env, h, n⟩) :
    Rn X N R k ops D (⟨some d, .binOp .lss tx x y t', ty, ps, af, none⟩ :: rest) ⟨env, h, n⟩ := R_bin hx hy (fun K hK => ⟨rfl, hK⟩) hfl hK
theorem R_leq {x y : Operand} {kx : IntKind} {a b : Int} (hx : EvR env x (.one (.pv (.int kx a))) := by exact ⟨rfl⟩) (hy : EvR env y (.one (.pv (.int kx b))) := by exact ⟨rfl⟩)
    (hfl : FlR D env (.binOp .leq tx x y t') (vB (decide (a ≤ b))) (.n [] [] none) D' := by first | exact .seq | exact .drawn rfl) (hK : Rn X N R k ops D' rest ⟨(d, vB (decide (a ≤ b))) :: env, h, n⟩) :
    Rn X N R k ops D (⟨some d, .binOp .leq tx x y t', ty, ps, af, none⟩ :: rest) ⟨env, h, n⟩ := R_bin hx hy (fun K hK => ⟨rfl, hK⟩) hfl hK
theorem R_gtr {x y : Operand} {kx : IntKind} {a b : Int} (hx : EvR env x (.one (.pv (.int kx a))) := by exact ⟨rfl⟩) (hy : EvR env y (.one (.pv (.int kx b))) := by exact ⟨rfl⟩)
    (hfl : FlR D env (.binOp .gtr tx x y t') (vB (decide (b < a))) (.n [] [] none) D' := by first | exact .seq | exact .drawn rfl) (hK : Rn X N R k ops D' rest ⟨(d, vB (decide (b < a))) :: env, h, n⟩) :
    Rn X N R k ops D (⟨some d, .binOp .gtr tx x y t', ty, ps, af, none⟩ :: rest) ⟨env, h, n⟩ := R_bin hx hy (fun K hK => ⟨rfl, hK⟩) hfl hK
theorem R_geq {x y : Operand} {kx : IntKind} {a b : Int} (hx : EvR env x (.one (.pv (.int kx a))) := by exact ⟨rfl⟩) (hy : EvR env y (.one (.pv (.int kx b))) := by exact ⟨rfl⟩)
    (hfl : FlR D env (.binOp .geq tx x y t') (vB (decide (b ≤ a))) (.n [] [] none) D' := by first | exact .seq | exact .drawn rfl) (hK : Rn X N R k ops D' rest ⟨(d, vB (decide (b ≤ a))) :: env, h, n⟩) :
    Rn X N R k ops D (⟨some d, .binOp .geq tx x y t', ty, ps, af, none⟩ :: rest) ⟨env, h, n⟩ := R_bin hx hy (fun K hK => ⟨rfl, hK⟩) hfl hK
theorem R_binS {bo : BinOp} {x y : Operand} {a b : List UInt8} {v : AV} (hx : EvR env x (vS a)) (hy : EvR env y (vS b)) (hv : ∀ K : AV → Prop, K v → evStr bo a b K)
    (hfl : FlR D env (.binOp bo tx x y t') v (.n [] [] none) D') (hK : Rn X N R k ops D' rest ⟨(d, v) :: env, h, n⟩) : Rn X N R k ops D (⟨some d, .binOp bo tx x y t', ty, ps, af, none⟩ :: rest) ⟨env, h, n⟩ :=
  Rn.val rfl (fun K hK => by simp only [evVal, hx.h, hy.h, evBin]; exact .inl (hv K hK)) hfl hK
theorem R_sadd {x y : Operand} {a b : List UInt8} (hx : EvR env x (vS a) := by exact ⟨rfl⟩) (hy : EvR env y (vS b) := by exact ⟨rfl⟩) (hr : a.length + b.length ≤ 9223372036854775807 := by first | omega | (simp only [List.length_append, List.length_cons, List.length_nil] at * <;> omega))
    (hfl : FlR D env (.binOp .add tx x y t') (vS (a ++ b)) (.n [] [] none) D' := by first | exact .seq | exact .drawn rfl) (hK : Rn X N R k ops D' rest ⟨(d, vS (a ++ b)) :: env, h, n⟩) :
    Rn X N R k ops D (⟨some d, .binOp .add tx x y t', ty, ps, af, none⟩ :: rest) ⟨env, h, n⟩ := R_binS hx hy (fun K hK => ⟨hr, hK⟩) hfl hK
theorem R_seql {x y : Operand} {a b : List UInt8} (hx : EvR env x (vS a) := by exact ⟨rfl⟩) (hy : EvR env y (vS b) := by exact ⟨rfl⟩)
    (hfl : FlR D env (.binOp .eql tx x y t') (vB (decide (a = b))) (.n [] [] none) D' := by first | exact .seq | exact .drawn rfl) (hK : Rn X N R k ops D' rest ⟨(d, vB (decide (a = b))) :: env, h, n⟩) :
    Rn X N R k ops D (⟨some d, .binOp .eql tx x y t', ty, ps, af, none⟩ :: rest) ⟨env, h, n⟩ := R_binS hx hy (fun K hK => hK) hfl hK
theorem R_sneq {x y : Operand} {a b : List UInt8} (hx : EvR env x (vS a) := by exact ⟨rfl⟩) (hy : EvR env y (vS b) := by exact ⟨rfl⟩)
    (hfl : FlR D env (.binOp .neq tx x y t') (vB (decide (¬ a = b))) (.n [] [] none) D' := by first | exact .seq | exact .drawn rfl) (hK : Rn X N R k ops D' rest ⟨(d, vB (decide (¬ a = b))) :: env, h, n⟩) :
    Rn X N R k ops D (⟨some d, .binOp .neq tx x y t', ty, ps, af, none⟩ :: rest) ⟨env, h, n⟩ := R_binS hx hy (fun K hK => by simp only [evStr, ← decide_not]; exact hK) hfl hK
theorem R_not {x : Operand} {p : Prop} [Decidable p] (hx : EvR env x (vB (decide p)) := by exact ⟨rfl⟩)
    (hfl : FlR D env (.unOp .not tx x) (vB (decide (¬ p))) (.n [] [] none) D' := by first | exact .seq | exact .drawn rfl) (hK : Rn X N R k ops D' rest ⟨(d, vB (decide (¬ p))) :: env, h, n⟩) :
    Rn X N R k ops D (⟨some d, .unOp .not tx x, ty, ps, af, none⟩ :: rest) ⟨env, h, n⟩ := Rn.val rfl (fun K hK => by simp only [evVal, hx.h, evUn, ← decide_not]; exact hK) hfl hK
theorem R_notb {x : Operand} {b : Bool} (hx : EvR env x (vB b) := by exact ⟨rfl⟩)
    (hfl : FlR D env (.unOp .not tx x) (vB (!b)) (.n [] [] none) D' := by first | exact .seq | exact .drawn rfl) (hK : Rn X N R k ops D' rest ⟨(d, vB (!b)) :: env, h, n⟩) :
    Rn X N R k ops D (⟨some d, .unOp .not tx x, ty, ps, af, none⟩ :: rest) ⟨env, h, n⟩ := Rn.val rfl (fun K hK => by simp only [evVal, hx.h, evUn]; exact hK) hfl hK
theorem R_neg {x : Operand} {a : Int} (hx : EvR env x (vI a) := by exact ⟨rfl⟩) (hr : -9223372036854775808 ≤ -a ∧ -a ≤ 9223372036854775807 := by first | (constructor <;> omega) | (constructor <;> (first | omega | (simp only [List.length_set, List.length_append, List.length_cons, List.length_nil, List.length_take, List.length_drop, List.length_replicate, List.length_map, List.length_reverse] at * <;> omega))))
    (hfl : FlR D env (.unOp .neg tx x) (vI (-a)) (.n [] [] none) D' := by first | exact .seq | exact .drawn rfl) (hK : Rn X N R k ops D' rest ⟨(d, vI (-a)) :: env, h, n⟩) :
    Rn X N R k ops D (⟨some d, .unOp .neg tx x, ty, ps, af, none⟩ :: rest) ⟨env, h, n⟩ := Rn.val rfl (fun K hK => by simp only [evVal, hx.h, evUn]; rw [show 0 - a = -a by omega, wrap_i64 hr.1 hr.2]; exact hK) hfl hK
/-! ### Lengths -/
theorem R_lenS {x : Operand} {ta : TypeId} {s b : Nat} {z : Option Value} {l : List UInt8} [hT : TInf X ta ⟨.string, s, b, z⟩] (hx : EvR env x (vS l) := by exact ⟨rfl⟩) (hfl : FlR D env (.call ⟨.builtin .len, ⟨[x]⟩, ⟨[ta]⟩⟩) (vI l.length) (.n [] [] none) D' := by first | exact .seq | exact .drawn rfl)
    (hK : Rn X N R k ops D' rest ⟨(d, vI l.length) :: env, h, n⟩) : Rn X N R k ops D (⟨some d, .call ⟨.builtin .len, ⟨[x]⟩, ⟨[ta]⟩⟩, ty, ps, af, none⟩ :: rest) ⟨env, h, n⟩ :=
  Rn.step (ef := .n [] [] none) trivial (fun K hK => by simp only [evOp, evVal, evLen, hT.h, hx.h]; exact hK) hfl hK
theorem R_len {x : Operand} {ta e : TypeId} {s b m : Nat} {z : Option Value} {cells : List PV} [hT : TInf X ta ⟨.slice e, s, b, z⟩] (hx : EvR env x (vP (.sl m cells)) := by exact ⟨rfl⟩) (hfl : FlR D env (.call ⟨.builtin .len, ⟨[x]⟩, ⟨[ta]⟩⟩) (vI m) (.n [] [] none) D' := by first | exact .seq | exact .drawn rfl)
    (hK : Rn X N R k ops D' rest ⟨(d, vI m) :: env, h, n⟩) : Rn X N R k ops D (⟨some d, .call ⟨.builtin .len, ⟨[x]⟩, ⟨[ta]⟩⟩, ty, ps, af, none⟩ :: rest) ⟨env, h, n⟩ :=
  Rn.step (ef := .n [] [] none) trivial (fun K hK => by simp only [evOp, evVal, evLen, hT.h, hx.h]; exact hK) hfl hK
theorem R_len0 {x : Operand} {ta e : TypeId} {s b : Nat} {z : Option Value} [hT : TInf X ta ⟨.slice e, s, b, z⟩] (hx : EvR env x (vP .nil) := by exact ⟨rfl⟩) (hfl : FlR D env (.call ⟨.builtin .len, ⟨[x]⟩, ⟨[ta]⟩⟩) (vI 0) (.n [] [] none) D' := by first | exact .seq | exact .drawn rfl)
    (hK : Rn X N R k ops D' rest ⟨(d, vI 0) :: env, h, n⟩) : Rn X N R k ops D (⟨some d, .call ⟨.builtin .len, ⟨[x]⟩, ⟨[ta]⟩⟩, ty, ps, af, none⟩ :: rest) ⟨env, h, n⟩ :=
  Rn.step (ef := .n [] [] none) trivial (fun K hK => by simp only [evOp, evVal, evLen, hT.h, hx.h]; exact hK) hfl hK
theorem R_lenO {x : Operand} {ta e : TypeId} {s b m id sz : Nat} {z : Option Value} [hT : TInf X ta ⟨.slice e, s, b, z⟩] (hx : EvR env x (.one (.own id sz m)) := by exact ⟨rfl⟩) (hfl : FlR D env (.call ⟨.builtin .len, ⟨[x]⟩, ⟨[ta]⟩⟩) (vI m) (.n [] [] none) D' := by first | exact .seq | exact .drawn rfl)
    (hK : Rn X N R k ops D' rest ⟨(d, vI m) :: env, h, n⟩) : Rn X N R k ops D (⟨some d, .call ⟨.builtin .len, ⟨[x]⟩, ⟨[ta]⟩⟩, ty, ps, af, none⟩ :: rest) ⟨env, h, n⟩ :=
  Rn.step (ef := .n [] [] none) trivial (fun K hK => by simp only [evOp, evVal, evLen, hT.h, hx.h]; exact hK) hfl hK
theorem R_lenU {x : Operand} {ta e : TypeId} {s b m id sz off : Nat} {z : Option Value} [hT : TInf X ta ⟨.slice e, s, b, z⟩] (hx : EvR env x (.one (.sub id sz off m)) := by exact ⟨rfl⟩) (hfl : FlR D env (.call ⟨.builtin .len, ⟨[x]⟩, ⟨[ta]⟩⟩) (vI m) (.n [] [] none) D' := by first | exact .seq | exact .drawn rfl)
    (hK : Rn X N R k ops D' rest ⟨(d, vI m) :: env, h, n⟩) : Rn X N R k ops D (⟨some d, .call ⟨.builtin .len, ⟨[x]⟩, ⟨[ta]⟩⟩, ty, ps, af, none⟩ :: rest) ⟨env, h, n⟩ :=
  Rn.step (ef := .n [] [] none) trivial (fun K hK => by simp only [evOp, evVal, evLen, hT.h, hx.h]; exact hK) hfl hK
/-! ### Elements -/
theorem R_idx {x i : Operand} {ta e : TypeId} {s b q m S B : Nat} {zz zv : Option Value} {u : TypeDesc} {cells : List PV} {kz : IntKind} {z : Int} [hT : TInf X ta ⟨.slice e, s, b, zz⟩] [hE : TInf X e ⟨u, S, B, zv⟩] (hx : EvR env x (vP (.sl q cells)) := by exact ⟨rfl⟩) (hi : EvR env i (.one (.pv (.int kz z))) := by exact ⟨rfl⟩)
    (h0 : 0 ≤ z ∧ z < q := by first | (constructor <;> omega) | (constructor <;> (first | omega | (simp only [List.length_set, List.length_append, List.length_cons, List.length_nil, List.length_take, List.length_drop, List.length_replicate, List.length_map, List.length_reverse] at * <;> omega)))) (hm : z.toNat = m := by first | (with_reducible exact Int.toNat_natCast _) | (with_reducible exact toNat_add _ _) | (with_reducible exact toNat_add1 _) | exact Eq.refl _) (hc : cells.length = q * S := by first | (refine flat_len ?_ _; intro _; rfl) | simp) (hfl : FlR D env (.indexAddr ta x i) (vP (.pt cells (m * S))) (.n [] [] none) D' := by first | exact .seq | exact .drawn rfl)
    (hK : Rn X N R k ops D' rest ⟨(d, vP (.pt cells (m * S))) :: env, h, n⟩) : Rn X N R k ops D (⟨some d, .indexAddr ta x i, ty, ps, af, none⟩ :: rest) ⟨env, h, n⟩ :=
  Rn.val rfl (fun K hK => by subst hm; simp only [evVal, evIndexAddr, hT.h, hE.h, hx.h, hi.h]; exact ⟨h0.1, by first | exact ⟨h0.2, hc, hK⟩ | exact ⟨hc, h0.2, hK⟩ | exact ⟨h0.2, hK⟩⟩) hfl hK
theorem R_idxO {x i : Operand} {ta e : TypeId} {s b q m id sz : Nat} {zz : Option Value} {T : TI} {kz : IntKind} {z : Int} [hT : TInf X ta ⟨.slice e, s, b, zz⟩] [hE : TInf X e T] (hx : EvR env x (.one (.own id sz q)) := by exact ⟨rfl⟩) (hi : EvR env i (.one (.pv (.int kz z))) := by exact ⟨rfl⟩)
    (h0 : 0 ≤ z ∧ z < q := by first | (constructor <;> omega) | (constructor <;> (first | omega | (simp only [List.length_set, List.length_append, List.length_cons, List.length_nil, List.length_take, List.length_drop, List.length_replicate, List.length_map, List.length_reverse] at * <;> omega)))) (hm : z.toNat = m := by first | (with_reducible exact Int.toNat_natCast _) | (with_reducible exact toNat_add _ _) | (with_reducible exact toNat_add1 _) | exact Eq.refl _) (hs : T.size = sz := by rfl) (hfl : FlR D env (.indexAddr ta x i) (.one (.ptr id (m * sz))) (.n [] [] none) D' := by first | exact .seq | exact .drawn rfl)
    (hK : Rn X N R k ops D' rest ⟨(d, .one (.ptr id (m * sz))) :: env, h, n⟩) : Rn X N R k ops D (⟨some d, .indexAddr ta x i, ty, ps, af, none⟩ :: rest) ⟨env, h, n⟩ :=
  Rn.val rfl (fun K hK => by subst hm; simp only [evVal, evIndexAddr, hT.h, hE.h, hx.h, hi.h]; exact ⟨h0.1, h0.2, hs, hK⟩) hfl hK
/-- One cell of a laid-out list. -/
theorem R_ld {x : Operand} {α : Type} {e : α → List PV} {l : List α} {S m : Nat} {a : α} {p : PV} {T : TI} [hT : TInf X tx T] (hx : EvR env x (vP (.pt (l.flatMap e) (m * S))) := by exact ⟨rfl⟩) (hS : ∀ x, (e x).length = S := by exact fun _ => rfl) (hag : isAggU T.u = false := by rfl)
    (hl : l[m]? = some a := by first | exact gDI (by first | omega | (simp only [List.length_set, List.length_append, List.length_cons, List.length_nil, List.length_take, List.length_drop, List.length_replicate, List.length_map, List.length_reverse] at * <;> omega)) | exact gDS (by first | omega | (simp only [List.length_set, List.length_append, List.length_cons, List.length_nil, List.length_take, List.length_drop, List.length_replicate, List.length_map, List.length_reverse] at * <;> omega)) | exact gD (by first | omega | (simp only [List.length_set, List.length_append, List.length_cons, List.length_nil, List.length_take, List.length_drop, List.length_replicate, List.length_map, List.length_reverse] at * <;> omega))) (hp : (e a)[0]? = some p := by rfl) (hfl : FlR D env (.load tx x) (vP p) (.n [] [] none) D' := by first | exact .seq | exact .drawn rfl)
    (hK : Rn X N R k ops D' rest ⟨(d, vP p) :: env, h, n⟩) : Rn X N R k ops D (⟨some d, .load tx x, ty, ps, af, none⟩ :: rest) ⟨env, h, n⟩ :=
  Rn.step (ef := .n [] [] none) trivial (fun K hK => by
    have hg := flat_get hS hl hp
    rw [Nat.add_zero] at hg
    have h1 := (List.getElem?_eq_some_iff.1 hg).1
    simp only [evOp, hx.h, evLoadPv, hT.h, hag, Bool.false_eq_true, if_false]
    exact ⟨h1, by rw [List.getD_eq_getElem?_getD, hg]; exact hK⟩) hfl hK
end
end Go.VL


namespace Go.VL
open Go.RowKit
set_option linter.unusedVariables false

/-! ### Heaps, told outright -/
inductive PutR : Hp → Nat → Bx × Bool → Hp → Prop
  | nil {i : Nat} {b : Bx × Bool} : PutR [] i b [(i, b)]
  | hit {i : Nat} {x b : Bx × Bool} {l : Hp} : PutR ((i, x) :: l) i b ((i, b) :: l)
  | miss {i j : Nat} {x b : Bx × Bool} {l l' : Hp} (hn : (i == j) = false) (h : PutR l i b l') : PutR ((j, x) :: l) i b ((j, x) :: l')
theorem PutR.eq {h h' : Hp} {i : Nat} {b : Bx × Bool} (r : PutR h i b h') : put h i b = h' := by
  induction r with
  | nil => rfl
  | hit => simp [put]
  | miss hn _ ih => simp only [put, ih]; rw [if_neg (by simpa using hn)]
inductive FrzR : Hp → List Nat → Hp → Prop
  | nil {h : Hp} : FrzR h [] h
  | cons {h h1 h2 : Hp} {z : Nat} {zs : List Nat} {bx : Bx} {b : Bool} (hl : look h z = some (bx, b)) (hp : PutR h z (bx, true) h1) (hr : FrzR h1 zs h2) : FrzR h (z :: zs) h2

/-! ### Rows of cells, told outright -/
theorem zc_of {z : Value} {cs : List AC} (h : OfL z.cells.toList cs) : zc z = some cs := by
  unfold zc; rw [if_pos h.eq.1, h.eq.2]
inductive SetR : List AC → Nat → List AC → List AC → Prop
  | done {cs : List AC} : SetR cs 0 [] cs
  | put {x d : AC} {cs ds cs' : List AC} (h : SetR cs 0 ds cs') : SetR (x :: cs) 0 (d :: ds) (d :: cs')
  | skip {x : AC} {o : Nat} {cs ds cs' : List AC} (h : SetR cs o ds cs') : SetR (x :: cs) (o + 1) ds (x :: cs')
theorem SetR.eq {cs ds cs' : List AC} {o : Nat} (h : SetR cs o ds cs') : o + ds.length ≤ cs.length ∧ setMany cs o ds = cs' := by
  induction h with
  | done => exact ⟨by simp, by simp [setMany]⟩
  | put _ ih =>
    refine ⟨by simp at ih ⊢; omega, ?_⟩
    rw [← ih.2]; simp [setMany]
  | skip _ ih =>
    refine ⟨by simp at ih ⊢; omega, ?_⟩
    rw [← ih.2]; simp [setMany, Nat.add_right_comm]
inductive CutR : List AC → Nat → Nat → List AC → Prop
  | done {cs : List AC} : CutR cs 0 0 []
  | take {x : AC} {n : Nat} {cs cs' : List AC} (h : CutR cs 0 n cs') : CutR (x :: cs) 0 (n + 1) (x :: cs')
  | skip {x : AC} {o n : Nat} {cs cs' : List AC} (h : CutR cs o n cs') : CutR (x :: cs) (o + 1) n cs'
theorem CutR.eq {cs cs' : List AC} {o n : Nat} (h : CutR cs o n cs') : o + n ≤ cs.length ∧ (cs.drop o).take n = cs' := by
  induction h with
  | done => exact ⟨by simp, by simp⟩
  | take _ ih => exact ⟨by simp at ih ⊢; omega, by rw [← ih.2]; simp⟩
  | skip _ ih => exact ⟨by simp at ih ⊢; omega, by rw [← ih.2]; simp⟩

/-! ### What is handed on -/
structure VC (h : Hp) (c : AC) (p : PV) (ids : List Nat) : Prop where
  h : ∀ K : PV → List Nat → Prop, K p ids → viewC1 h c K
structure VL (h : Hp) (cs : List AC) (ps : List PV) (ids : List Nat) : Prop where
  h : ∀ K : List PV → List Nat → Prop, K ps ids → viewL1 h cs K
structure VA (h : Hp) (x : AV) (p : PA) (ids : List Nat) : Prop where
  h : ∀ K : PA → List Nat → Prop, K p ids → viewA h x K
structure VAs (h : Hp) (xs : List AV) (ps : List PA) (ids : List Nat) : Prop where
  h : ∀ K : List PA → List Nat → Prop, K ps ids → viewAs h xs K
def PV.isNil : PV → Bool
  | .nil => true
  | _ => false
section
variable {h : Hp}
theorem VC.pv {p : PV} (hp : p.isNil = false) : VC h (.pv p) p [] := ⟨fun K hK => by cases p <;> first | exact hK | cases hp⟩
theorem VC.nil : VC h (.pv .nil) (.sl 0 []) [] := ⟨fun K hK => hK⟩
theorem VC.own {α : Type} {e : α → List PV} {l : List α} {id S n : Nat} {te : TypeId} {z : Bool} (hl : look h id = some (.pu te (l.flatMap e), z)) (hS : ∀ x, (e x).length = S) (hn : n = l.length) : VC h (.own id S n) (slc e l) [id] := ⟨fun K hK => by
  subst hn
  simp only [viewC1, hl]
  rw [← flat_len hS l, List.take_length]
  exact ⟨Nat.le_refl _, hK⟩⟩
theorem VC.ownTake {α : Type} {e : α → List PV} {l : List α} {id S n : Nat} {te : TypeId} {z : Bool} (hl : look h id = some (.pu te (l.flatMap e), z)) (hS : ∀ x, (e x).length = S) (hn : n ≤ l.length) : VC h (.own id S n) (slc e (l.take n)) [id] := ⟨fun K hK => by
  simp only [viewC1, hl, flat_len hS, flat_take hS]
  refine ⟨Nat.mul_le_mul_right S hn, ?_⟩
  have e : slc e (l.take n) = .sl n ((l.take n).flatMap e) := by simp [slc, hn]
  rw [← e]; exact hK⟩
theorem VC.sub {α : Type} {e : α → List PV} {l : List α} {id S m n : Nat} {te : TypeId} {z : Bool} (hl : look h id = some (.pu te (l.flatMap e), z)) (hS : ∀ x, (e x).length = S) (hn : m + n ≤ l.length) : VC h (.sub id S (m * S) n) (slc e ((l.drop m).take n)) [id] := ⟨fun K hK => by
  simp only [viewC1, hl, flat_len hS, flat_drop hS, flat_take hS]
  refine ⟨by rw [← Nat.add_mul]; exact Nat.mul_le_mul_right S hn, ?_⟩
  have e : slc e ((l.drop m).take n) = .sl n (((l.drop m).take n).flatMap e) := by simp only [slc, List.length_take, List.length_drop]; rw [Nat.min_eq_left (by omega)]
  rw [← e]; exact hK⟩
theorem VL.nil : VL h [] [] [] := ⟨fun K hK => hK⟩
theorem VL.cons {c : AC} {cs : List AC} {p : PV} {ps : List PV} {i j : List Nat} (h1 : VC h c p i) (h2 : VL h cs ps j) : VL h (c :: cs) (p :: ps) (i ++ j) := ⟨fun K hK => h1.h _ (h2.h _ hK)⟩
theorem VL.pvs : ∀ {ps : List PV}, (ps.all fun p => !p.isNil) = true → VL h (ps.map .pv) ps []
  | [], _ => .nil
  | p :: ps, hp => by
    simp only [List.all_cons, Bool.and_eq_true, Bool.not_eq_true'] at hp
    exact VL.cons (i := []) (j := []) (.pv hp.1) (VL.pvs hp.2)
theorem VA.one {c : AC} {p : PV} {ids : List Nat} (hc : VC h c p ids) : VA h (.one c) (.one p) ids := ⟨fun K hK => by
  have := hc.h (fun p ids => K (.one p) ids) hK
  cases c with
  | ptr id off => simp [viewC1] at this
  | clo f caps => simp [viewC1] at this
  | any => simp [viewC1] at this
  | ub => simp [viewC1] at this
  | adr id T sz => simp [viewC1] at this
  | pv p => exact this
  | own id sz n => exact this
  | sub id sz off n => exact this⟩
theorem VA.agg {cs : List AC} {ps : List PV} {ids : List Nat} (hc : VL h cs ps ids) : VA h (.agg cs) (.agg ps) ids := ⟨fun K hK => hc.h _ hK⟩
theorem VA.ptr {id off : Nat} {te : TypeId} {l : List PV} {z : Bool} (hl : look h id = some (.pu te l, z)) : VA h (.one (.ptr id off)) (.one (.pt l off)) [id] := ⟨fun K hK => by simp only [viewA, viewC, hl]; exact hK⟩
theorem VA.ptrM {id off : Nat} {cs : List AC} {ps : List PV} {ids : List Nat} {z : Bool} (hl : look h id = some (.mx cs, z)) (hc : VL h cs ps ids) : VA h (.one (.ptr id off)) (.one (.pt ps off)) (id :: ids) := ⟨fun K hK => by simp only [viewA, viewC, hl]; exact hc.h _ hK⟩
theorem VAs.nil : VAs h [] [] [] := ⟨fun K hK => hK⟩
theorem VAs.cons {x : AV} {xs : List AV} {p : PA} {ps : List PA} {i j : List Nat} (h1 : VA h x p i) (h2 : VAs h xs ps j) : VAs h (x :: xs) (p :: ps) (i ++ j) := ⟨fun K hK => h1.h _ (h2.h _ hK)⟩
end

/-! ### What is known of arguments -/
theorem sane_slc {α : Type} {e : α → List PV} {l : List α} (h : (slc e l).sane) : l.length ≤ 9223372036854775807 ∧ ∀ x ∈ l, ∀ p ∈ e x, p.sane := by
  unfold slc PV.sane at h
  exact ⟨h.1, fun x hx p hp => h.2.2 p (List.mem_flatMap.2 ⟨x, hx, hp⟩)⟩
theorem sane_i64 {z : Int} (h : (PV.int .i64 z).sane) : -9223372036854775808 ≤ z ∧ z ≤ 9223372036854775807 := by
  unfold PV.sane at h; rw [range_i64] at h; exact h
theorem sane_I {l : List Int} (h : (slc eI l).sane) : l.length ≤ 9223372036854775807 ∧ ∀ z ∈ l, -9223372036854775808 ≤ z ∧ z ≤ 9223372036854775807 :=
  ⟨(sane_slc h).1, fun z hz => sane_i64 ((sane_slc h).2 z hz _ (by simp [eI]))⟩
theorem sane_str {s : List UInt8} (h : (PV.str s).sane) : s.length ≤ 9223372036854775807 := by unfold PV.sane at h; exact h

/-! ### Loops' ends -/
theorem avLe_refl (v : AV) : avLe v v := by
  cases v with
  | one c => cases c with
    | pv p => cases p <;> exact rfl
    | _ => exact rfl
  | _ => exact rfl
theorem avLe_eq {v w : AV} (h : v = w) : avLe v w := h ▸ avLe_refl v
theorem avLe_i {k : IntKind} {a b : Int} (h : a = b) : avLe (vP (.int k a)) (vP (.int k b)) := h ▸ avLe_refl _
theorem avLe_nil {α : Type} {e : α → List PV} : avLe (vP .nil) (vP (slc e [])) := ⟨rfl, rfl⟩
theorem avLe_nilO {id S : Nat} : avLe (vP .nil) (.one (.own id S 0)) := rfl
theorem avLe_slc {α : Type} {e : α → List PV} {l l' : List α} (h : l = l') : avLe (vP (slc e l)) (vP (slc e l')) := h ▸ avLe_refl _
theorem avLe_own {id S n m : Nat} (h : n = m) : avLe (.one (.own id S n)) (.one (.own id S m)) := h ▸ avLe_refl _
theorem le_auto {X : Ctx} {N : Nat} {env env' : List (Nat × AV)} {h h' : Hp} {n n' : Nat}
    (he : leE env env' := by repeat' (first | exact trivial | refine And.intro ⟨_, rfl, ?_⟩ ?_ | exact avLe_refl _ | exact avLe_i (by first | omega | (simp only [List.length_set, List.length_append, List.length_cons, List.length_nil, List.length_take, List.length_drop, List.length_replicate, List.length_map, List.length_reverse] <;> omega)) | exact avLe_nil | exact avLe_nilO | exact avLe_own (by first | omega | (simp only [List.length_set, List.length_append, List.length_cons, List.length_nil, List.length_take, List.length_drop, List.length_replicate, List.length_map, List.length_reverse] <;> omega))))
    (hh : leH h h' := by repeat' (first | exact trivial | refine And.intro rfl ?_)) (hw : wfE h' env' = true := by rfl) (hw2 : wfH h' h' = true := by rfl) : (AS.mk env h n).Le X N (AS.mk env' h' n') := le_of he hh hw hw2

/-- The same, a nil slice told as an own one. -/
theorem le_ghost1 {X : Ctx} {N : Nat} {env : List (Nat × AV)} {h h' : Hp} {n : Nat} {υ : AS} (id : Nat) (e : TypeId) (hn : look h id = none := by rfl) (hid : Nat.blt id 1000 = true := by rfl) (hp : PutR h id (.pu e [], false) h' := by repeat (first | exact .hit | exact .nil | (apply PutR.miss; rfl))) (hle : (AS.mk env h' n).Le X N υ) : (AS.mk env h n).Le X N υ :=
  AS.Le.trans (by rw [← hp.eq]; exact le_ghost hn (lt1k hid)) hle
section
variable {X : Ctx} {N : Nat} {R : AS → Prop} {k : List KI} {σ : AS} {ops : Array Oper} {D D' : Option (List Fl)} {rest : List Oper} {env : List (Nat × AV)} {h h' : Hp} {n n' : Nat} {dst : Option Tmp} {t d : Tmp} {op : Op} {ty tx t' : TypeId} {ps : String} {af : Array Edge}
/-! ### Returns -/
inductive RvR (X : Ctx) (σ : AS) : ResultVar → AV → Prop
  | tmp {t : Tmp} {v : AV} (hx : EvR σ.env (.tmp t) v) : RvR X σ (.tmp t) v
  | cell {a : Tmp} {t : TypeId} {id off : Nat} {cs : List AC} {z : Bool} {c : AC} {T : TI} (hx : EvR σ.env (.tmp a) (.one (.ptr id off))) (hl : look σ.heap id = some (.mx cs, z)) (hT : TInf X t T) (ha : isAggU T.u = false) (hc : cs[off]? = some c) : RvR X σ (.cell a t) (.one c)
  | cellA {a : Tmp} {t : TypeId} {id off : Nat} {cs cs' : List AC} {z : Bool} {T : TI} (hx : EvR σ.env (.tmp a) (.one (.ptr id off))) (hl : look σ.heap id = some (.mx cs, z)) (hT : TInf X t T) (ha : isAggU T.u = true) (hc : CutR cs off T.size cs') : RvR X σ (.cell a t) (.agg cs')
theorem RvR.res {X : Ctx} {σ : AS} {r : ResultVar} {v : AV} (hr : RvR X σ r v) (K : AV → Prop) (hK : K v) : resAV X σ r K := by
  cases hr with
  | tmp hx => simp only [resAV, hx.h]; exact hK
  | cell hx hl hT ha hc => simp only [resAV, hx.h, evLoadBx, hT.h, hl, ha, hc]; exact hK
  | cellA hx hl hT ha hc => simp only [resAV, hx.h, evLoadBx, hT.h, hl, ha, if_true, hc.eq.2]; exact ⟨hc.eq.1, hK⟩
theorem ret1 {rs : List ResultVar} {r1 : ResultVar} {v1 : AV} {p1 p : PA} {i1 : List Nat} (hrs : rs = [r1] := by exact rfl) (hr1 : RvR X ⟨env, h, n⟩ r1 v1 := by first | exact .tmp (by first | exact .tmp rfl | exact .of rfl) | exact .cell ⟨rfl⟩ rfl inferInstance rfl rfl | (apply RvR.cellA; exact ⟨rfl⟩; rfl; infer_instance; rfl; repeat (first | exact CutR.done | apply CutR.take | apply CutR.skip))) (hv1 : VA h v1 p1 i1 := by repeat (first | exact VA.one (.pv rfl) | exact VA.one .nil | exact VA.one (.own rfl (fun _ => rfl) (by first | rfl | omega | (simp only [List.length_set, List.length_append, List.length_cons, List.length_nil, List.length_take, List.length_drop, List.length_replicate, List.length_map, List.length_reverse] <;> omega) | simp)) | exact VA.one (.ownTake rfl (fun _ => rfl) (by first | omega | simp)) | apply VA.agg | exact VL.nil | exact VL.pvs rfl | apply VL.cons | exact VC.pv rfl | exact VC.nil | exact VC.own rfl (fun _ => rfl) (by first | rfl | omega | (simp only [List.length_set, List.length_append, List.length_cons, List.length_nil, List.length_take, List.length_drop, List.length_replicate, List.length_map, List.length_reverse] <;> omega) | simp))) (hp : p1 = p) : retP X rs p ⟨env, h, n⟩ := by
  subst hrs; subst hp
  simp only [retP, resAVs]
  exact hr1.res _ (by simp only [viewAs]; exact hv1.h _ rfl)
theorem ret2 {rs : List ResultVar} {r1 r2 : ResultVar} {v1 v2 : AV} {p1 p2 : PA} {x1 x2 : Bool × List PV} {p : PA} {i1 i2 : List Nat} (hrs : rs = [r1, r2] := by exact rfl) (hr1 : RvR X ⟨env, h, n⟩ r1 v1 := by first | exact .tmp (by first | exact .tmp rfl | exact .of rfl) | exact .cell ⟨rfl⟩ rfl inferInstance rfl rfl | (apply RvR.cellA; exact ⟨rfl⟩; rfl; infer_instance; rfl; repeat (first | exact CutR.done | apply CutR.take | apply CutR.skip))) (hv1 : VA h v1 p1 i1 := by repeat (first | exact VA.one (.pv rfl) | exact VA.one .nil | exact VA.one (.own rfl (fun _ => rfl) (by first | rfl | omega | (simp only [List.length_set, List.length_append, List.length_cons, List.length_nil, List.length_take, List.length_drop, List.length_replicate, List.length_map, List.length_reverse] <;> omega) | simp)) | exact VA.one (.ownTake rfl (fun _ => rfl) (by first | omega | simp)) | apply VA.agg | exact VL.nil | exact VL.pvs rfl | apply VL.cons | exact VC.pv rfl | exact VC.nil | exact VC.own rfl (fun _ => rfl) (by first | rfl | omega | (simp only [List.length_set, List.length_append, List.length_cons, List.length_nil, List.length_take, List.length_drop, List.length_replicate, List.length_map, List.length_reverse] <;> omega) | simp)))
    (hr2 : RvR X ⟨env, h, n⟩ r2 v2 := by first | exact .tmp (by first | exact .tmp rfl | exact .of rfl) | exact .cell ⟨rfl⟩ rfl inferInstance rfl rfl | (apply RvR.cellA; exact ⟨rfl⟩; rfl; infer_instance; rfl; repeat (first | exact CutR.done | apply CutR.take | apply CutR.skip))) (hv2 : VA h v2 p2 i2 := by repeat (first | exact VA.one (.pv rfl) | exact VA.one .nil | exact VA.one (.own rfl (fun _ => rfl) (by first | rfl | omega | (simp only [List.length_set, List.length_append, List.length_cons, List.length_nil, List.length_take, List.length_drop, List.length_replicate, List.length_map, List.length_reverse] <;> omega) | simp)) | exact VA.one (.ownTake rfl (fun _ => rfl) (by first | omega | simp)) | apply VA.agg | exact VL.nil | exact VL.pvs rfl | apply VL.cons | exact VC.pv rfl | exact VC.nil | exact VC.own rfl (fun _ => rfl) (by first | rfl | omega | (simp only [List.length_set, List.length_append, List.length_cons, List.length_nil, List.length_take, List.length_drop, List.length_replicate, List.length_map, List.length_reverse] <;> omega) | simp))) (he1 : p1.el = some x1 := by rfl) (he2 : p2.el = some x2 := by rfl) (hp : PA.tup [x1, x2] = p) : retP X rs p ⟨env, h, n⟩ := by
  subst hrs; subst hp
  simp only [retP, resAVs]
  exact hr1.res _ (hr2.res _ (by simp only [viewAs]; exact hv1.h _ (hv2.h _ (by simp only [els, he1, he2]))))
theorem ret3 {rs : List ResultVar} {r1 r2 r3 : ResultVar} {v1 v2 v3 : AV} {p1 p2 p3 : PA} {x1 x2 x3 : Bool × List PV} {p : PA} {i1 i2 i3 : List Nat} (hrs : rs = [r1, r2, r3] := by exact rfl) (hr1 : RvR X ⟨env, h, n⟩ r1 v1 := by first | exact .tmp (by first | exact .tmp rfl | exact .of rfl) | exact .cell ⟨rfl⟩ rfl inferInstance rfl rfl | (apply RvR.cellA; exact ⟨rfl⟩; rfl; infer_instance; rfl; repeat (first | exact CutR.done | apply CutR.take | apply CutR.skip))) (hv1 : VA h v1 p1 i1 := by repeat (first | exact VA.one (.pv rfl) | exact VA.one .nil | exact VA.one (.own rfl (fun _ => rfl) (by first | rfl | omega | (simp only [List.length_set, List.length_append, List.length_cons, List.length_nil, List.length_take, List.length_drop, List.length_replicate, List.length_map, List.length_reverse] <;> omega) | simp)) | exact VA.one (.ownTake rfl (fun _ => rfl) (by first | omega | simp)) | apply VA.agg | exact VL.nil | exact VL.pvs rfl | apply VL.cons | exact VC.pv rfl | exact VC.nil | exact VC.own rfl (fun _ => rfl) (by first | rfl | omega | (simp only [List.length_set, List.length_append, List.length_cons, List.length_nil, List.length_take, List.length_drop, List.length_replicate, List.length_map, List.length_reverse] <;> omega) | simp)))
    (hr2 : RvR X ⟨env, h, n⟩ r2 v2 := by first | exact .tmp (by first | exact .tmp rfl | exact .of rfl) | exact .cell ⟨rfl⟩ rfl inferInstance rfl rfl | (apply RvR.cellA; exact ⟨rfl⟩; rfl; infer_instance; rfl; repeat (first | exact CutR.done | apply CutR.take | apply CutR.skip))) (hv2 : VA h v2 p2 i2 := by repeat (first | exact VA.one (.pv rfl) | exact VA.one .nil | exact VA.one (.own rfl (fun _ => rfl) (by first | rfl | omega | (simp only [List.length_set, List.length_append, List.length_cons, List.length_nil, List.length_take, List.length_drop, List.length_replicate, List.length_map, List.length_reverse] <;> omega) | simp)) | exact VA.one (.ownTake rfl (fun _ => rfl) (by first | omega | simp)) | apply VA.agg | exact VL.nil | exact VL.pvs rfl | apply VL.cons | exact VC.pv rfl | exact VC.nil | exact VC.own rfl (fun _ => rfl) (by first | rfl | omega | (simp only [List.length_set, List.length_append, List.length_cons, List.length_nil, List.length_take, List.length_drop, List.length_replicate, List.length_map, List.length_reverse] <;> omega) | simp)))
    (hr3 : RvR X ⟨env, h, n⟩ r3 v3 := by first | exact .tmp (by first | exact .tmp rfl | exact .of rfl) | exact .cell ⟨rfl⟩ rfl inferInstance rfl rfl | (apply RvR.cellA; exact ⟨rfl⟩; rfl; infer_instance; rfl; repeat (first | exact CutR.done | apply CutR.take | apply CutR.skip))) (hv3 : VA h v3 p3 i3 := by repeat (first | exact VA.one (.pv rfl) | exact VA.one .nil | exact VA.one (.own rfl (fun _ => rfl) (by first | rfl | omega | (simp only [List.length_set, List.length_append, List.length_cons, List.length_nil, List.length_take, List.length_drop, List.length_replicate, List.length_map, List.length_reverse] <;> omega) | simp)) | exact VA.one (.ownTake rfl (fun _ => rfl) (by first | omega | simp)) | apply VA.agg | exact VL.nil | exact VL.pvs rfl | apply VL.cons | exact VC.pv rfl | exact VC.nil | exact VC.own rfl (fun _ => rfl) (by first | rfl | omega | (simp only [List.length_set, List.length_append, List.length_cons, List.length_nil, List.length_take, List.length_drop, List.length_replicate, List.length_map, List.length_reverse] <;> omega) | simp))) (he1 : p1.el = some x1 := by rfl) (he2 : p2.el = some x2 := by rfl) (he3 : p3.el = some x3 := by rfl) (hp : PA.tup [x1, x2, x3] = p) : retP X rs p ⟨env, h, n⟩ := by
  subst hrs; subst hp
  simp only [retP, resAVs]
  exact hr1.res _ (hr2.res _ (hr3.res _ (by simp only [viewAs]; exact hv1.h _ (hv2.h _ (hv3.h _ (by simp only [els, he1, he2, he3]))))))

/-! ### Slices of slices and strings -/
structure ScR (env : List (Nat × AV)) (lo hi : Option Operand) (l : Int) (hiv : Option Int) : Prop where
  h : bnds (lo.map (evE env)) (hi.map (evE env)) = some (match lo, hiv with | none, none => .all | some _, none => .from l | none, some u => .upto u | some _, some u => .both l u)
theorem R_upto {x y : Operand} {α : Type} {e : α → List PV} {l : List α} {m : Nat} {ta te : TypeId} {T : TI} {s b : Nat} {zz : Option Value} {ky : IntKind} {z : Int} [hT : TInf X ta ⟨.slice te, s, b, zz⟩] [hE : TInf X te T] (hx : EvR env x (vP (slc e l)) := by exact ⟨rfl⟩) (hy : EvR env y (.one (.pv (.int ky z))) := by exact ⟨rfl⟩)
    (hS : ∀ x, (e x).length = T.size := by exact fun _ => rfl) (h0 : 0 ≤ z ∧ z ≤ l.length := by first | (constructor <;> omega) | (constructor <;> (first | omega | (simp only [List.length_set, List.length_append, List.length_cons, List.length_nil, List.length_take, List.length_drop, List.length_replicate, List.length_map, List.length_reverse] at * <;> omega)))) (hm : z.toNat = m := by first | (with_reducible exact Int.toNat_natCast _) | (with_reducible exact toNat_add _ _) | (with_reducible exact toNat_add1 _) | exact Eq.refl _) (hfl : FlR D env (.slice ta x none (some y) none) (vP (slc e (l.take m))) (.n [] [] none) D' := by first | exact .seq | exact .drawn rfl)
    (hK : Rn X N R k ops D' rest ⟨(d, vP (slc e (l.take m))) :: env, h, n⟩) : Rn X N R k ops D (⟨some d, .slice ta x none (some y) none, ty, ps, af, none⟩ :: rest) ⟨env, h, n⟩ :=
  Rn.val rfl (fun K hK => by
    subst hm
    have e1 : slc e (l.take z.toNat) = .sl z.toNat ((l.take z.toNat).flatMap e) := by simp only [slc, List.length_take]; rw [Nat.min_eq_left (by omega)]
    simp only [evVal, evSlice, Option.map_none, Option.map_some, hx.h, hy.h, bnds, hT.h, hE.h, slc, evSlPv, flat_take hS]
    rw [← e1]
    exact ⟨h0.1, h0.2, flat_len hS l, hK⟩) hfl hK
theorem R_from {x y : Operand} {α : Type} {e : α → List PV} {l : List α} {m : Nat} {ta te : TypeId} {T : TI} {s b : Nat} {zz : Option Value} {ky : IntKind} {z : Int} [hT : TInf X ta ⟨.slice te, s, b, zz⟩] [hE : TInf X te T] (hx : EvR env x (vP (slc e l)) := by exact ⟨rfl⟩) (hy : EvR env y (.one (.pv (.int ky z))) := by exact ⟨rfl⟩)
    (hS : ∀ x, (e x).length = T.size := by exact fun _ => rfl) (h0 : 0 ≤ z ∧ z ≤ l.length := by first | (constructor <;> omega) | (constructor <;> (first | omega | (simp only [List.length_set, List.length_append, List.length_cons, List.length_nil, List.length_take, List.length_drop, List.length_replicate, List.length_map, List.length_reverse] at * <;> omega)))) (hm : z.toNat = m := by first | (with_reducible exact Int.toNat_natCast _) | (with_reducible exact toNat_add _ _) | (with_reducible exact toNat_add1 _) | exact Eq.refl _) (hfl : FlR D env (.slice ta x (some y) none none) (vP (slc e (l.drop m))) (.n [] [] none) D' := by first | exact .seq | exact .drawn rfl)
    (hK : Rn X N R k ops D' rest ⟨(d, vP (slc e (l.drop m))) :: env, h, n⟩) : Rn X N R k ops D (⟨some d, .slice ta x (some y) none none, ty, ps, af, none⟩ :: rest) ⟨env, h, n⟩ :=
  Rn.val rfl (fun K hK => by
    subst hm
    have e1 : slc e (l.drop z.toNat) = .sl (l.length - z.toNat) ((l.drop z.toNat).flatMap e) := by simp only [slc, List.length_drop]
    simp only [evVal, evSlice, Option.map_none, Option.map_some, hx.h, hy.h, bnds, hT.h, hE.h, slc, evSlPv, flat_drop hS]
    rw [← e1]
    exact ⟨h0.1, h0.2, flat_len hS l, hK⟩) hfl hK
theorem R_sall {x : Operand} {m : Nat} {cells : List PV} {ta te : TypeId} {T : TI} {s b : Nat} {zz : Option Value} [hT : TInf X ta ⟨.slice te, s, b, zz⟩] [hE : TInf X te T] (hx : EvR env x (vP (.sl m cells)) := by exact ⟨rfl⟩)
    (hfl : FlR D env (.slice ta x none none none) (vP (.sl m cells)) (.n [] [] none) D' := by first | exact .seq | exact .drawn rfl)
    (hK : Rn X N R k ops D' rest ⟨(d, vP (.sl m cells)) :: env, h, n⟩) : Rn X N R k ops D (⟨some d, .slice ta x none none none, ty, ps, af, none⟩ :: rest) ⟨env, h, n⟩ :=
  Rn.val rfl (fun K hK => by
    simp only [evVal, evSlice, Option.map_none, hx.h, bnds, hT.h, hE.h, evSlPv]
    exact hK) hfl hK
theorem R_uptoO {x y : Operand} {id S q m : Nat} {ta te : TypeId} {T : TI} {s b : Nat} {zz : Option Value} {ky : IntKind} {z : Int} [hT : TInf X ta ⟨.slice te, s, b, zz⟩] [hE : TInf X te T] (hx : EvR env x (.one (.own id S q)) := by exact ⟨rfl⟩) (hy : EvR env y (.one (.pv (.int ky z))) := by exact ⟨rfl⟩)
    (hS : T.size = S := by rfl) (h0 : 0 ≤ z ∧ z ≤ q := by first | (constructor <;> omega) | (constructor <;> (first | omega | (simp only [List.length_set, List.length_append, List.length_cons, List.length_nil, List.length_take, List.length_drop, List.length_replicate, List.length_map, List.length_reverse] at * <;> omega)))) (hm : z.toNat = m := by first | (with_reducible exact Int.toNat_natCast _) | (with_reducible exact toNat_add _ _) | (with_reducible exact toNat_add1 _) | exact Eq.refl _) (hfl : FlR D env (.slice ta x none (some y) none) (.one (.own id S m)) (.n [] [] none) D' := by first | exact .seq | exact .drawn rfl)
    (hK : Rn X N R k ops D' rest ⟨(d, .one (.own id S m)) :: env, h, n⟩) : Rn X N R k ops D (⟨some d, .slice ta x none (some y) none, ty, ps, af, none⟩ :: rest) ⟨env, h, n⟩ :=
  Rn.val rfl (fun K hK => by
    subst hm
    simp only [evVal, evSlice, Option.map_none, Option.map_some, hx.h, hy.h, bnds, hT.h, hE.h, evSlOwn]
    exact ⟨hS, h0.1, h0.2, hK⟩) hfl hK

/-! ### Parts of tuples and structs -/
theorem gF {fs : Array Field} {i : Nat} {F : Field} (h : fs.toList[i]? = some F) : fs[i]? = some F := by rw [← Array.getElem?_toList]; exact h

theorem R_ext {x : Operand} {i : Nat} {xs : List (Bool × List AC)} {c : AC} (hx : EvR env x (.tup xs) := by exact ⟨rfl⟩) (hi : xs[i]? = some (false, [c]) := by rfl) (hfl : FlR D env (.extract x i) (.one c) (.n [] [] none) D' := by first | exact .seq | exact .drawn rfl)
    (hK : Rn X N R k ops D' rest ⟨(d, .one c) :: env, h, n⟩) : Rn X N R k ops D (⟨some d, .extract x i, ty, ps, af, none⟩ :: rest) ⟨env, h, n⟩ :=
  Rn.val rfl (fun K hK => by simp only [evVal, hx.h, evExtract, hi]; exact hK) hfl hK
theorem R_extA {x : Operand} {i : Nat} {xs : List (Bool × List AC)} {cs : List AC} (hx : EvR env x (.tup xs) := by exact ⟨rfl⟩) (hi : xs[i]? = some (true, cs) := by rfl) (hfl : FlR D env (.extract x i) (.agg cs) (.n [] [] none) D' := by first | exact .seq | exact .drawn rfl)
    (hK : Rn X N R k ops D' rest ⟨(d, .agg cs) :: env, h, n⟩) : Rn X N R k ops D (⟨some d, .extract x i, ty, ps, af, none⟩ :: rest) ⟨env, h, n⟩ :=
  Rn.val rfl (fun K hK => by simp only [evVal, hx.h, evExtract, hi]; exact hK) hfl hK
theorem R_fld {x : Operand} {i : Nat} {cs : List AC} {c : AC} {fs : Array Field} {F : Field} {s b : Nat} {zz : Option Value} {T : TI} [hT : TInf X tx ⟨.struct fs, s, b, zz⟩] (hx : EvR env x (.agg cs) := by exact ⟨rfl⟩) (hF : fs.toList[i]? = some F := by rfl) (hE : TInf X F.type T := by infer_instance) (ha : isAggU T.u = false := by rfl) (hc : cs[F.offset]? = some c := by rfl)
    (hfl : FlR D env (.field tx x i) (.one c) (.n [] [] none) D' := by first | exact .seq | exact .drawn rfl)
    (hK : Rn X N R k ops D' rest ⟨(d, .one c) :: env, h, n⟩) : Rn X N R k ops D (⟨some d, .field tx x i, ty, ps, af, none⟩ :: rest) ⟨env, h, n⟩ :=
  Rn.val rfl (fun K hK => by simp only [evVal, hx.h, evField, hT.h, gF hF, evPart, hE.h, ha, hc]; exact hK) hfl hK
theorem R_fldA {x : Operand} {i : Nat} {cs cs' : List AC} {fs : Array Field} {F : Field} {s b : Nat} {zz : Option Value} {T : TI} [hT : TInf X tx ⟨.struct fs, s, b, zz⟩] (hx : EvR env x (.agg cs) := by exact ⟨rfl⟩) (hF : fs.toList[i]? = some F := by rfl) (hE : TInf X F.type T := by infer_instance) (ha : isAggU T.u = true := by rfl) (hc : CutR cs F.offset T.size cs' := by repeat (first | exact CutR.done | apply CutR.take | apply CutR.skip))
    (hfl : FlR D env (.field tx x i) (.agg cs') (.n [] [] none) D' := by first | exact .seq | exact .drawn rfl)
    (hK : Rn X N R k ops D' rest ⟨(d, .agg cs') :: env, h, n⟩) : Rn X N R k ops D (⟨some d, .field tx x i, ty, ps, af, none⟩ :: rest) ⟨env, h, n⟩ :=
  Rn.val rfl (fun K hK => by simp only [evVal, hx.h, evField, hT.h, gF hF, evPart, hE.h, ha, hc.eq.2, if_true]; exact ⟨hc.eq.1, hK⟩) hfl hK
/-- The parts of a struct, told one by one. -/
inductive FilR (X : Ctx) (fs : Array Field) (env : List (Nat × AV)) : List AC → List (Nat × Operand) → List AC → Prop
  | nil {cs : List AC} : FilR X fs env cs [] cs
  | cons {cs cs1 cs2 ds : List AC} {i : Nat} {x : Operand} {v : AV} {pl : List (Nat × Operand)} {F : Field} {T : TI} (hF : fs.toList[i]? = some F) (hT : TInf X F.type T) (hx : EvR env x v) (hd : avCells v = some ds) (hl : ds.length = T.size) (hs : SetR cs F.offset ds cs1) (hr : FilR X fs env cs1 pl cs2) : FilR X fs env cs ((i, x) :: pl) cs2
theorem FilR.eq {X : Ctx} {fs : Array Field} {env : List (Nat × AV)} {cs cs2 : List AC} {pl : List (Nat × Operand)} (r : FilR X fs env cs pl cs2) : fillA (placesOf X.P fs) cs (pl.map fun p => (p.1, evE env p.2)) = some cs2 := by
  induction r with
  | nil => rfl
  | cons hF hT hx hd hl hs _ ih =>
    simp only [List.map_cons, fillA, placesOf, gF hF, hT.h, hx.h, hd]
    rw [if_pos ⟨hl, hs.eq.1⟩, hs.eq.2]
    exact ih
theorem R_build {pl : List (Nat × Operand)} {cs0 cs : List AC} {fs : Array Field} {s b : Nat} {zz : Value} [hT : TInf X tx ⟨.struct fs, s, b, some zz⟩] (ha : allSized X.P fs = true := by kernel_rfl) (hz : OfL zz.cells.toList cs0 := by repeat (first | exact OfL.nil | apply OfL.int | apply OfL.bool | apply OfL.str | apply OfL.nilS | (apply OfL.other; rfl; rfl)))
    (hc : FilR X fs env cs0 pl cs := by repeat (first | exact .nil | (apply FilR.cons; rfl; infer_instance; (first | exact .tmp rfl | exact .ci rfl | exact .cb | exact .cs rfl | exact .of rfl | exact .fn | (apply EvR.cagg; repeat (first | exact OfL.nil | apply OfL.int | apply OfL.bool | apply OfL.str | apply OfL.nilS | (apply OfL.other; rfl; rfl)))); rfl; rfl; (repeat (first | exact SetR.done | apply SetR.put | apply SetR.skip)))))
    (hfl : FlR D env (.build tx ⟨pl⟩) (.agg cs) (.n [] [] none) D' := by first | exact .seq | exact .drawn rfl)
    (hK : Rn X N R k ops D' rest ⟨(d, .agg cs) :: env, h, n⟩) : Rn X N R k ops D (⟨some d, .build tx ⟨pl⟩, ty, ps, af, none⟩ :: rest) ⟨env, h, n⟩ :=
  Rn.val rfl (fun K hK => by simp only [evVal, evBuild, hT.h, ha, zc_eq, zc_of hz]; rw [hc.eq]; exact ⟨trivial, hK⟩) hfl hK

/-! ### Boxes -/
theorem R_make {x y : Operand} {α : Type} {e : α → List PV} {a : α} {m : Nat} {te : TypeId} {u : TypeDesc} {S B s b : Nat} {zz : Option Value} {zl : Value} {kx ky : IntKind} {l c : Int} {h' : Hp} [hT : TInf X tx ⟨.slice te, s, b, zz⟩] [hE : TInf X te ⟨u, S, B, some zl⟩] (hx : EvR env x (.one (.pv (.int kx l))) := by exact ⟨rfl⟩) (hy : EvR env y (.one (.pv (.int ky c))) := by exact ⟨rfl⟩)
    (hz : zpv zl = some (e a)) (hS : ∀ x, (e x).length = S := by exact fun _ => rfl) (hS0 : 0 < S := by exact Nat.le_of_ble_eq_true rfl) (h0 : 0 ≤ l ∧ l ≤ c := by first | (constructor <;> omega) | (constructor <;> (first | omega | (simp only [List.length_set, List.length_append, List.length_cons, List.length_nil, List.length_take, List.length_drop, List.length_replicate, List.length_map, List.length_reverse] at * <;> omega)))) (hB : (B : Int) * c ≤ 281474976710656 := by omega) (hC : c ≤ 9223372036854775807 := by omega) (hm : l.toNat = m := by first | (with_reducible exact Int.toNat_natCast _) | (with_reducible exact toNat_add _ _) | (with_reducible exact toNat_add1 _) | exact Eq.refl _) (hn : look h n = none := by rfl) (hk1 : Nat.blt n 1000 = true := by rfl)
    (hh : PutR h n (.pu te ((List.replicate m a).flatMap e), false) h' := by repeat (first | exact .hit | exact .nil | (apply PutR.miss; rfl)))
    (hfl : FlR D env (.makeSlice tx x y) (.one (.own n S m)) (.n [] [] (some (n, .pu te ((List.replicate m a).flatMap e)))) D' := by first | exact .seq | exact .drawn rfl)
    (hK : Rn X N R k ops D' rest ⟨(d, .one (.own n S m)) :: env, h', n + 1⟩) : Rn X N R k ops D (⟨some d, .makeSlice tx x y, ty, ps, af, none⟩ :: rest) ⟨env, h, n⟩ :=
  Rn.step (ef := .n [] [] (some (n, .pu te ((List.replicate m a).flatMap e)))) (n' := n + 1) ⟨hn, lt1k hk1⟩ (fun K hK => by
    subst hm
    have e1 : repCells l.toNat (e a) = (List.replicate l.toNat a).flatMap e := by
      apply List.ext_getElem?
      intro j
      have h1 := repCells_get (n := l.toNat) (ps := e a) (by rw [hS]; exact hS0)
      have h2 := flat_len hS (List.replicate l.toNat a)
      rw [List.length_replicate] at h2
      rw [hS] at h1
      by_cases hj : j < l.toNat * S
      · rw [h1.2 j hj]
        have hq : j / S < l.toNat := by rw [Nat.div_lt_iff_lt_mul hS0]; exact hj
        have hr : j % S < S := Nat.mod_lt _ hS0
        have := flat_get hS (l := List.replicate l.toNat a) (m := j / S) (j := j % S) (x := a) (p := (e a)[j % S]'(by rw [hS]; exact hr)) (by simp [hq]) (List.getElem?_eq_getElem _)
        rw [show j / S * S + j % S = j by rw [Nat.mul_comm]; exact Nat.div_add_mod j S] at this
        rw [this, List.getElem?_eq_getElem]
      · rw [List.getElem?_eq_none (by omega), List.getElem?_eq_none (by omega)]
    simp only [evOp, evMake, hT.h, hE.h, hx.h, hy.h, zpv_eq, hz]
    exact ⟨hS a, hS0, h0.1, h0.2, hB, hC, hn, by rw [e1]; exact hK⟩) hfl (by simp only [AS.fin, upd, putO, putE, frzs, hh.eq]; exact hK)
/-- One cell of a laid-out list of an own box. -/
theorem R_ldO {x : Operand} {α : Type} {e : α → List PV} {l : List α} {id S m : Nat} {te : TypeId} {zb : Bool} {a : α} {p : PV} {T : TI} [hT : TInf X tx T] (hx : EvR env x (.one (.ptr id (m * S))) := by exact ⟨rfl⟩) (hlk : look h id = some (.pu te (l.flatMap e), zb) := by rfl) (hS : ∀ x, (e x).length = S := by exact fun _ => rfl) (hag : isAggU T.u = false := by rfl)
    (hl : l[m]? = some a := by first | exact gDI (by first | omega | (simp only [List.length_set, List.length_append, List.length_cons, List.length_nil, List.length_take, List.length_drop, List.length_replicate, List.length_map, List.length_reverse] at * <;> omega)) | exact gDS (by first | omega | (simp only [List.length_set, List.length_append, List.length_cons, List.length_nil, List.length_take, List.length_drop, List.length_replicate, List.length_map, List.length_reverse] at * <;> omega)) | exact gD (by first | omega | (simp only [List.length_set, List.length_append, List.length_cons, List.length_nil, List.length_take, List.length_drop, List.length_replicate, List.length_map, List.length_reverse] at * <;> omega))) (hp : (e a)[0]? = some p := by rfl) (hfl : FlR D env (.load tx x) (vP p) (.n [id] [] none) D' := by first | exact .seq | exact .drawn rfl)
    (hK : Rn X N R k ops D' rest ⟨(d, vP p) :: env, h, n⟩) : Rn X N R k ops D (⟨some d, .load tx x, ty, ps, af, none⟩ :: rest) ⟨env, h, n⟩ :=
  Rn.step (ef := .n [id] [] none) trivial (fun K hK => by
    have hg := flat_get hS hl hp
    rw [Nat.add_zero] at hg
    have h1 := (List.getElem?_eq_some_iff.1 hg).1
    simp only [evOp, hx.h, evLoadBx, hT.h, hlk, hag, Bool.false_eq_true, if_false]
    exact ⟨h1, by rw [List.getD_eq_getElem?_getD, hg]; exact hK⟩) hfl hK
theorem R_stO {x y : Operand} {α : Type} {e : α → List PV} {l : List α} {id S m : Nat} {te : TypeId} {a : α} {p : PV} {T : TI} [hT : TInf X tx T] (hx : EvR env x (.one (.ptr id (m * S))) := by exact ⟨rfl⟩) (hlk : look h id = some (.pu te (l.flatMap e), false) := by rfl) (hS : ∀ x, (e x).length = S := by exact fun _ => rfl) (hT1 : S = T.size := by rfl)
    (hm : m < l.length := by first | omega | (simp only [List.length_set, List.length_append, List.length_cons, List.length_nil, List.length_take, List.length_drop, List.length_replicate, List.length_map, List.length_reverse] at * <;> omega)) (hy : EvR env y (vP p) := by exact ⟨rfl⟩) (hnn : p.isNil = false := by rfl) (hp : e a = [p] := by rfl) {h' : Hp} (hh : PutR h id (.pu te ((l.set m a).flatMap e), false) h' := by repeat (first | exact .hit | exact .nil | (apply PutR.miss; rfl)))
    (hfl : FlR D env (.store tx x y) .bot (.e h' none) D' := by first | exact .seq | exact .drawn rfl)
    (hK : Rn X N R k ops D' rest ⟨env, h', n⟩) : Rn X N R k ops D (⟨none, .store tx x y, ty, ps, af, none⟩ :: rest) ⟨env, h, n⟩ :=
  Rn.step (ef := .e h' none) (v := .bot) (n' := n) trivial (fun K hK => by
    have h1 : S = 1 := by rw [← hS a, hp]; rfl
    have hv := (VA.one (h := h) (VC.pv hnn)).h
    have e1 : setM (l.flatMap e) (m * S) [p] = (l.set m a).flatMap e := by
      rw [setM_eq _ _ _ (by rw [flat_len hS, h1]; simp; omega), ← hp]; exact flat_set hS a hm
    simp only [evOp, hx.h, evStore, hT.h, hlk, hy.h, viewX]
    refine hv _ ?_
    simp only [frzs, e1, hh.eq]
    exact ⟨by rw [← hT1, h1]; rfl, by rw [flat_len hS, h1]; simp; omega, rfl, hK⟩) hfl hK
end
end Go.VL


namespace Go.VL
open Go.RowKit
set_option linter.unusedVariables false

/-- Operands, handed on. -/
inductive VOs (h : Hp) (env : List (Nat × AV)) : List Operand → List PA → List Nat → Prop
  | nil : VOs h env [] [] []
  | cons {x : Operand} {xs : List Operand} {v : AV} {p : PA} {ps : List PA} {i j : List Nat} (hx : EvR env x v) (hv : VA h v p i) (hr : VOs h env xs ps j) : VOs h env (x :: xs) (p :: ps) (i ++ j)
theorem VOs.vas {h : Hp} {env : List (Nat × AV)} {xs : List Operand} {ps : List PA} {ids : List Nat} (r : VOs h env xs ps ids) : VAs h (xs.map (evE env)) ps ids := by
  induction r with
  | nil => exact .nil
  | cons hx hv _ ih => rw [List.map_cons, hx.h]; exact .cons hv ih
theorem VC.app {h : Hp} {c : AC} {α : Type} {e : α → List PV} {l : List α} {ids : List Nat} (hc : VC h c (slc e l) ids) {S : Nat} (hS : ∀ x, (e x).length = S) (K : Nat → List PV → List Nat → Prop) (hK : K l.length (l.flatMap e) ids) : viewApp S h (.one c) K := by
  have := hc.h (fun p ids => match p with | .sl m cells => cells.length = m * S ∧ K m cells ids | _ => False) ⟨flat_len hS l, hK⟩
  cases c with
  | ptr id off => simp [viewC1] at this
  | clo f caps => simp [viewC1] at this
  | any => simp [viewC1] at this
  | ub => simp [viewC1] at this
  | adr id T sz => simp [viewC1] at this
  | pv p => exact this
  | own id sz n => exact this
  | sub id sz off n => exact this
theorem av_one (p : PV) : PA.av (.one p) = .one (.pv p) := rfl
theorem FrzR.eq {h h' : Hp} {ids : List Nat} (r : FrzR h ids h') : frzs h ids = h' := by
  induction r with
  | nil => rfl
  | cons hl hp _ ih =>
    rw [frzs, ← ih]
    congr 1
    unfold frz
    rw [← hp.eq]
    simp [hl]
section
variable {X : Ctx} {N : Nat} {R : AS → Prop} {k : List KI} {σ : AS} {ops : Array Oper} {D D' : Option (List Fl)} {rest : List Oper} {env env' : List (Nat × AV)} {h h' : Hp} {n n' : Nat} {dst : Option Tmp} {t d : Tmp} {op : Op} {ty tx t' : TypeId} {ps : String} {af : Array Edge}
/-! ### Calls -/
theorem R_callG {f : Operand} {al : List Operand} {tl : List TypeId} {g : FuncId} {caps : List PV} {pas args : List PA} {ids zs : List Nat} {res : PA} {v : AV} (hs : Spc X g args res) (hf : EvR env f (.one (.pv (.clo g caps)))) (hv : VOs h env al pas ids) (ha : pas ++ caps.map .one = args)
    (hr : res.av = v) (hz : (if res.plain = true then [] else ids) = zs) (hh : FrzR h zs h') (hfl : FlR D env (.call ⟨.value f, ⟨al⟩, ⟨tl⟩⟩) v (.n ids zs none) D')
    (hK : Rn X N R k ops D' rest ⟨putO env dst v, h', n⟩) : Rn X N R k ops D (⟨dst, .call ⟨.value f, ⟨al⟩, ⟨tl⟩⟩, ty, ps, af, none⟩ :: rest) ⟨env, h, n⟩ :=
  Rn.step (ef := .n ids zs none) (n' := n) trivial (fun K hK => by
    simp only [evOp, evCall, hf.h]
    refine .inl (hv.vas.h _ ⟨res, by rw [ha]; exact hs, ?_⟩)
    rw [hz, hr]; exact hK) hfl (by simp only [AS.fin, upd, hh.eq]; exact hK)
/-- A call that gets no own box. -/
theorem R_call {f : Operand} {al : List Operand} {tl : List TypeId} {g : FuncId} {caps : List PV} {pas args : List PA} {ids : List Nat} {res : PA} {v : AV} (hs : Spc X g args res) (hf : EvR env f (.one (.pv (.clo g caps))) := by first | exact .fn | exact ⟨rfl⟩) (hv : VOs h env al pas ids := by repeat (first | exact .nil | (apply VOs.cons; first | exact .tmp rfl | exact .ci rfl | exact .cb | exact .cs rfl | exact .of rfl | exact .fn | (apply EvR.cagg; repeat (first | exact OfL.nil | apply OfL.int | apply OfL.bool | apply OfL.str | apply OfL.nilS | (apply OfL.other; rfl; rfl)))) | exact VA.one (.pv rfl) | exact VA.one .nil | exact VA.one (.own rfl (fun _ => rfl) (by first | rfl | omega | (simp only [List.length_set, List.length_append, List.length_cons, List.length_nil, List.length_take, List.length_drop, List.length_replicate, List.length_map, List.length_reverse] <;> omega) | simp)) | exact VA.one (.ownTake rfl (fun _ => rfl) (by first | omega | simp)) | apply VA.agg | exact VL.nil | exact VL.pvs rfl | apply VL.cons | exact VC.pv rfl | exact VC.nil | exact VC.own rfl (fun _ => rfl) (by first | rfl | omega | (simp only [List.length_set, List.length_append, List.length_cons, List.length_nil, List.length_take, List.length_drop, List.length_replicate, List.length_map, List.length_reverse] <;> omega) | simp))) (ha : pas ++ caps.map .one = args := by exact rfl)
    (hr : res.av = v := by first | exact av_one _ | (simp only [PA.av, List.map_cons, List.map_nil]; exact Eq.refl _)) (hi : ids = [] := by rfl) (hfl : FlR D env (.call ⟨.value f, ⟨al⟩, ⟨tl⟩⟩) v (.n [] [] none) D' := by first | exact .seq | exact .drawn rfl)
    (hK : Rn X N R k ops D' rest ⟨(d, v) :: env, h, n⟩) : Rn X N R k ops D (⟨some d, .call ⟨.value f, ⟨al⟩, ⟨tl⟩⟩, ty, ps, af, none⟩ :: rest) ⟨env, h, n⟩ :=
  R_callG hs hf (by rw [hi] at hv; exact hv) ha hr (zs := []) (by split <;> rfl) .nil hfl hK
/-- A call that reads own boxes and hands back what has no place in memory. -/
theorem R_callP {f : Operand} {al : List Operand} {tl : List TypeId} {g : FuncId} {caps : List PV} {pas args : List PA} {ids ids' : List Nat} {res : PA} {v : AV} (hs : Spc X g args res) (hf : EvR env f (.one (.pv (.clo g caps))) := by first | exact .fn | exact ⟨rfl⟩) (hv : VOs h env al pas ids := by repeat (first | exact .nil | (apply VOs.cons; first | exact .tmp rfl | exact .ci rfl | exact .cb | exact .cs rfl | exact .of rfl | exact .fn | (apply EvR.cagg; repeat (first | exact OfL.nil | apply OfL.int | apply OfL.bool | apply OfL.str | apply OfL.nilS | (apply OfL.other; rfl; rfl)))) | exact VA.one (.pv rfl) | exact VA.one .nil | exact VA.one (.own rfl (fun _ => rfl) (by first | rfl | omega | (simp only [List.length_set, List.length_append, List.length_cons, List.length_nil, List.length_take, List.length_drop, List.length_replicate, List.length_map, List.length_reverse] <;> omega) | simp)) | exact VA.one (.ownTake rfl (fun _ => rfl) (by first | omega | simp)) | apply VA.agg | exact VL.nil | exact VL.pvs rfl | apply VL.cons | exact VC.pv rfl | exact VC.nil | exact VC.own rfl (fun _ => rfl) (by first | rfl | omega | (simp only [List.length_set, List.length_append, List.length_cons, List.length_nil, List.length_take, List.length_drop, List.length_replicate, List.length_map, List.length_reverse] <;> omega) | simp))) (ha : pas ++ caps.map .one = args := by exact rfl)
    (hr : res.av = v := by first | exact av_one _ | (simp only [PA.av, List.map_cons, List.map_nil]; exact Eq.refl _)) (hp : res.plain = true := by rfl) (hfl : FlR D env (.call ⟨.value f, ⟨al⟩, ⟨tl⟩⟩) v (.n ids [] none) D' := by first | exact .seq | exact .drawn rfl)
    (hK : Rn X N R k ops D' rest ⟨(d, v) :: env, h, n⟩) : Rn X N R k ops D (⟨some d, .call ⟨.value f, ⟨al⟩, ⟨tl⟩⟩, ty, ps, af, none⟩ :: rest) ⟨env, h, n⟩ :=
  R_callG hs hf hv ha hr (zs := []) (by rw [if_pos hp]) .nil hfl hK
/-- A call that is handed own boxes: they are read only from then on. -/
theorem R_callF {f : Operand} {al : List Operand} {tl : List TypeId} {g : FuncId} {caps : List PV} {pas args : List PA} {ids : List Nat} {res : PA} {v : AV} (hs : Spc X g args res) (hf : EvR env f (.one (.pv (.clo g caps))) := by first | exact .fn | exact ⟨rfl⟩) (hv : VOs h env al pas ids := by repeat (first | exact .nil | (apply VOs.cons; first | exact .tmp rfl | exact .ci rfl | exact .cb | exact .cs rfl | exact .of rfl | exact .fn | (apply EvR.cagg; repeat (first | exact OfL.nil | apply OfL.int | apply OfL.bool | apply OfL.str | apply OfL.nilS | (apply OfL.other; rfl; rfl)))) | exact VA.one (.pv rfl) | exact VA.one .nil | exact VA.one (.own rfl (fun _ => rfl) (by first | rfl | omega | (simp only [List.length_set, List.length_append, List.length_cons, List.length_nil, List.length_take, List.length_drop, List.length_replicate, List.length_map, List.length_reverse] <;> omega) | simp)) | exact VA.one (.ownTake rfl (fun _ => rfl) (by first | omega | simp)) | apply VA.agg | exact VL.nil | exact VL.pvs rfl | apply VL.cons | exact VC.pv rfl | exact VC.nil | exact VC.own rfl (fun _ => rfl) (by first | rfl | omega | (simp only [List.length_set, List.length_append, List.length_cons, List.length_nil, List.length_take, List.length_drop, List.length_replicate, List.length_map, List.length_reverse] <;> omega) | simp))) (ha : pas ++ caps.map .one = args := by exact rfl)
    (hr : res.av = v := by first | exact av_one _ | (simp only [PA.av, List.map_cons, List.map_nil]; exact Eq.refl _)) (hp : res.plain = false := by rfl) (hh : FrzR h ids h' := by repeat (first | exact FrzR.nil | (apply FrzR.cons; rfl; (repeat (first | exact .hit | exact .nil | (apply PutR.miss; rfl)))))) (hfl : FlR D env (.call ⟨.value f, ⟨al⟩, ⟨tl⟩⟩) v (.n ids ids none) D' := by first | exact .seq | exact .drawn rfl)
    (hK : Rn X N R k ops D' rest ⟨(d, v) :: env, h', n⟩) : Rn X N R k ops D (⟨some d, .call ⟨.value f, ⟨al⟩, ⟨tl⟩⟩, ty, ps, af, none⟩ :: rest) ⟨env, h, n⟩ :=
  R_callG hs hf hv ha hr (zs := ids) (by rw [if_neg (by rw [hp]; simp)]) hh hfl hK

/-! ### Variables in memory -/
theorem R_box {x : Operand} {v : AV} {cs : List AC} {te : TypeId} (hx : EvR env x v := by first | exact .tmp rfl | exact .ci rfl | exact .cb | exact .cs rfl | exact .of rfl | exact .fn | (apply EvR.cagg; repeat (first | exact OfL.nil | apply OfL.int | apply OfL.bool | apply OfL.str | apply OfL.nilS | (apply OfL.other; rfl; rfl)))) (hc : avCells v = some cs := by exact rfl) (hn : look h n = none := by rfl) (hk1 : Nat.blt n 1000 = true := by rfl) (hh : PutR h n (.mx cs, false) h' := by repeat (first | exact .hit | exact .nil | (apply PutR.miss; rfl))) (hfl : FlR D env (.box te x) (.one (.ptr n 0)) (.n [] [] (some (n, .mx cs))) D' := by first | exact .seq | exact .drawn rfl)
    (hK : Rn X N R k ops D' rest ⟨(d, .one (.ptr n 0)) :: env, h', n + 1⟩) : Rn X N R k ops D (⟨some d, .box te x, ty, ps, af, none⟩ :: rest) ⟨env, h, n⟩ :=
  Rn.step (ef := .n [] [] (some (n, .mx cs))) (n' := n + 1) ⟨hn, lt1k hk1⟩ (fun K hK => by simp only [evOp, hx.h, evBox, hc]; exact ⟨hn, .inl hK⟩) hfl (by simp only [AS.fin, upd, putO, putE, frzs, hh.eq]; exact hK)
/-- A variable that holds whole values alone, told so. -/
theorem R_boxPu {x : Operand} {v : AV} {l : List PV} {te : TypeId} (hx : EvR env x v := by first | exact .tmp rfl | exact .of rfl) (hc : avCells v = some (l.map AC.pv) := by exact rfl) (hn : look h n = none := by rfl) (hk1 : Nat.blt n 1000 = true := by rfl) (hh : PutR h n (.pu te l, false) h' := by repeat (first | exact .hit | exact .nil | (apply PutR.miss; rfl))) (hfl : FlR D env (.box te x) (.one (.ptr n 0)) (.n [] [] (some (n, .pu te l))) D' := by first | exact .seq | exact .drawn rfl)
    (hK : Rn X N R k ops D' rest ⟨(d, .one (.ptr n 0)) :: env, h', n + 1⟩) : Rn X N R k ops D (⟨some d, .box te x, ty, ps, af, none⟩ :: rest) ⟨env, h, n⟩ :=
  Rn.step (ef := .n [] [] (some (n, .pu te l))) (n' := n + 1) ⟨hn, lt1k hk1⟩ (fun K hK => by simp only [evOp, hx.h, evBox, hc]; exact ⟨hn, .inr ⟨l, rfl, hK⟩⟩) hfl (by simp only [AS.fin, upd, putO, putE, frzs, hh.eq]; exact hK)
/-- A part of such a variable that is made of several cells. -/
theorem R_ldPuA {x : Operand} {id off : Nat} {l : List PV} {te : TypeId} {cs cs' : List AC} {zb : Bool} {T : TI} [hT : TInf X tx T] (hx : EvR env x (.one (.ptr id off)) := by exact ⟨rfl⟩) (hlk : look h id = some (.pu te l, zb) := by rfl) (hag : isAggU T.u = true := by rfl) (hm : l.map AC.pv = cs := by exact rfl) (hc : CutR cs off T.size cs' := by repeat (first | exact CutR.done | apply CutR.take | apply CutR.skip)) (hfl : FlR D env (.load tx x) (.agg cs') (.n [id] [] none) D' := by first | exact .seq | exact .drawn rfl)
    (hK : Rn X N R k ops D' rest ⟨(d, .agg cs') :: env, h, n⟩) : Rn X N R k ops D (⟨some d, .load tx x, ty, ps, af, none⟩ :: rest) ⟨env, h, n⟩ :=
  Rn.step (ef := .n [id] [] none) (n' := n) trivial (fun K hK => by
    subst hm
    have e := hc.eq
    simp only [evOp, hx.h, evLoadBx, hT.h, hlk, hag, if_true]
    rw [← List.map_drop, ← List.map_take] at e
    first | exact ⟨by simpa using e.1, by rw [e.2]; exact hK⟩ | skip) hfl hK
/-- An array, sliced whole. -/
theorem R_slArr {x : Operand} {id off q : Nat} {te : TypeId} {T : TI} {s b : Nat} {zz : Option Value} [hT : TInf X tx ⟨.array q te, s, b, zz⟩] [hE : TInf X te T] (hx : EvR env x (.one (.ptr id off)) := by exact ⟨rfl⟩) (hq : Nat.ble q topLen = true := by rfl) {S : Nat} (hS : T.size = S := by exact Eq.refl _)
    (hfl : FlR D env (.slice tx x none none none) (.one (.sub id S off q)) (.n [] [] none) D' := by first | exact .seq | exact .drawn rfl)
    (hK : Rn X N R k ops D' rest ⟨(d, .one (.sub id S off q)) :: env, h, n⟩) : Rn X N R k ops D (⟨some d, .slice tx x none none none, ty, ps, af, none⟩ :: rest) ⟨env, h, n⟩ :=
  Rn.val rfl (fun K hK => by
    subst hS
    simp only [evVal, evSlice, Option.map_none, hx.h, bnds, hT.h, hE.h]
    exact ⟨Nat.le_of_ble_eq_true hq, hK⟩) hfl hK
theorem R_alloc {te : TypeId} {u : TypeDesc} {S B : Nat} {z : Value} {cs : List AC} [hT : TInf X te ⟨u, S, B, some z⟩] (hc : OfL z.cells.toList cs := by repeat (first | exact OfL.nil | apply OfL.int | apply OfL.bool | apply OfL.str | apply OfL.nilS | (apply OfL.other; rfl; rfl))) (hn : look h n = none := by rfl) (hk1 : Nat.blt n 1000 = true := by rfl) (hh : PutR h n (.mx cs, false) h' := by repeat (first | exact .hit | exact .nil | (apply PutR.miss; rfl))) (hfl : FlR D env (.alloc te) (.one (.ptr n 0)) (.n [] [] (some (n, .mx cs))) D' := by first | exact .seq | exact .drawn rfl)
    (hK : Rn X N R k ops D' rest ⟨(d, .one (.ptr n 0)) :: env, h', n + 1⟩) : Rn X N R k ops D (⟨some d, .alloc te, ty, ps, af, none⟩ :: rest) ⟨env, h, n⟩ :=
  Rn.step (ef := .n [] [] (some (n, .mx cs))) (n' := n + 1) ⟨hn, lt1k hk1⟩ (fun K hK => by simp only [evOp, evAlloc, hT.h, zc_eq, zc_of hc]; exact .inl ⟨hn, hK⟩) hfl (by simp only [AS.fin, upd, putO, putE, frzs, hh.eq]; exact hK)
theorem R_ldM {x : Operand} {id off : Nat} {cs : List AC} {c : AC} {zb : Bool} {T : TI} [hT : TInf X tx T] (hx : EvR env x (.one (.ptr id off)) := by exact ⟨rfl⟩) (hlk : look h id = some (.mx cs, zb) := by rfl) (hag : isAggU T.u = false := by rfl) (hc : cs[off]? = some c := by rfl) (hfl : FlR D env (.load tx x) (.one c) (.n [id] [] none) D' := by first | exact .seq | exact .drawn rfl)
    (hK : Rn X N R k ops D' rest ⟨(d, .one c) :: env, h, n⟩) : Rn X N R k ops D (⟨some d, .load tx x, ty, ps, af, none⟩ :: rest) ⟨env, h, n⟩ :=
  Rn.step (ef := .n [id] [] none) (n' := n) trivial (fun K hK => by simp only [evOp, hx.h, evLoadBx, hT.h, hlk, hag, Bool.false_eq_true, if_false, hc]; exact hK) hfl hK
theorem R_ldMA {x : Operand} {id off : Nat} {cs cs' : List AC} {zb : Bool} {T : TI} [hT : TInf X tx T] (hx : EvR env x (.one (.ptr id off)) := by exact ⟨rfl⟩) (hlk : look h id = some (.mx cs, zb) := by rfl) (hag : isAggU T.u = true := by rfl) (hc : CutR cs off T.size cs' := by repeat (first | exact CutR.done | apply CutR.take | apply CutR.skip)) (hfl : FlR D env (.load tx x) (.agg cs') (.n [id] [] none) D' := by first | exact .seq | exact .drawn rfl)
    (hK : Rn X N R k ops D' rest ⟨(d, .agg cs') :: env, h, n⟩) : Rn X N R k ops D (⟨some d, .load tx x, ty, ps, af, none⟩ :: rest) ⟨env, h, n⟩ :=
  Rn.step (ef := .n [id] [] none) (n' := n) trivial (fun K hK => by simp only [evOp, hx.h, evLoadBx, hT.h, hlk, hag, if_true, hc.eq.2]; exact ⟨hc.eq.1, hK⟩) hfl hK
theorem R_stM {x y : Operand} {id off : Nat} {cs ds cs' : List AC} {v : AV} {T : TI} [hT : TInf X tx T] (hx : EvR env x (.one (.ptr id off)) := by exact ⟨rfl⟩) (hlk : look h id = some (.mx cs, false) := by rfl) (hy : EvR env y v := by first | exact .tmp rfl | exact .ci rfl | exact .cb | exact .cs rfl | exact .of rfl | exact .fn | (apply EvR.cagg; repeat (first | exact OfL.nil | apply OfL.int | apply OfL.bool | apply OfL.str | apply OfL.nilS | (apply OfL.other; rfl; rfl)))) (hd : avCells v = some ds := by exact rfl) (hl1 : ds.length = T.size := by rfl) (hc : SetR cs off ds cs' := by repeat (first | exact SetR.done | apply SetR.put | apply SetR.skip)) (hh : PutR h id (.mx cs', false) h' := by repeat (first | exact .hit | exact .nil | (apply PutR.miss; rfl))) (hfl : FlR D env (.store tx x y) .bot (.e h' none) D' := by first | exact .seq | exact .drawn rfl)
    (hK : Rn X N R k ops D' rest ⟨env, h', n⟩) : Rn X N R k ops D (⟨none, .store tx x y, ty, ps, af, none⟩ :: rest) ⟨env, h, n⟩ :=
  Rn.step (ef := .e h' none) (v := .bot) (n' := n) trivial (fun K hK => by
    simp only [evOp, hx.h, evStore, hT.h, hlk, hy.h, hd, setM_eq _ _ _ hc.eq.1, hc.eq.2, hh.eq]
    exact ⟨hl1, hc.eq.1, hK⟩) hfl hK
/-- An element that is a struct. -/
theorem R_ldA {x : Operand} {α : Type} {e : α → List PV} {l : List α} {m S : Nat} {a : α} {cs : List AC} {T : TI} [hT : TInf X tx T] (hx : EvR env x (vP (.pt (l.flatMap e) (m * S))) := by exact ⟨rfl⟩) (hS : ∀ x, (e x).length = S := by exact fun _ => rfl) (hT1 : S = T.size := by rfl) (hag : isAggU T.u = true := by rfl)
    (hl : l[m]? = some a := by exact gD (by first | omega | (simp only [List.length_set, List.length_append, List.length_cons, List.length_nil, List.length_take, List.length_drop, List.length_replicate, List.length_map, List.length_reverse] at * <;> omega))) (hc : (e a).map AC.pv = cs := by first | (simp only [List.map_cons, List.map_nil]; exact Eq.refl _) | exact Eq.refl _) (hfl : FlR D env (.load tx x) (.agg cs) (.n [] [] none) D' := by first | exact .seq | exact .drawn rfl)
    (hK : Rn X N R k ops D' rest ⟨(d, .agg cs) :: env, h, n⟩) : Rn X N R k ops D (⟨some d, .load tx x, ty, ps, af, none⟩ :: rest) ⟨env, h, n⟩ :=
  Rn.step (ef := .n [] [] none) trivial (fun K hK => by
    obtain ⟨h1, h2⟩ := flat_part hS hl
    subst hT1
    simp only [evOp, hx.h, evLoadPv, hT.h, hag, if_true, h1, hc]
    exact ⟨h2, hK⟩) hfl hK
theorem R_faddr {x : Operand} {i off : Nat} {cells : List PV} {fs : Array Field} {F : Field} {s b : Nat} {zz : Option Value} {T : TI} [hT : TInf X tx ⟨.struct fs, s, b, zz⟩] (hx : EvR env x (vP (.pt cells off)) := by exact ⟨rfl⟩) (hF : fs.toList[i]? = some F := by rfl) (hE : TInf X F.type T := by infer_instance) (h0 : Nat.beq T.size 0 = false := by rfl) {off' : Nat} (ho : F.offset = off' := by exact Eq.refl _)
    (hfl : FlR D env (.fieldAddr tx x i) (vP (.pt cells (off + off'))) (.n [] [] none) D' := by first | exact .seq | exact .drawn rfl)
    (hK : Rn X N R k ops D' rest ⟨(d, vP (.pt cells (off + off'))) :: env, h, n⟩) : Rn X N R k ops D (⟨some d, .fieldAddr tx x i, ty, ps, af, none⟩ :: rest) ⟨env, h, n⟩ :=
  Rn.val rfl (fun K hK => by simp only [evVal, hx.h, evFieldAddr, hT.h, gF hF, hE.h, ho]; exact ⟨fun e => by rw [e] at h0; simp at h0, hK⟩) hfl hK
theorem R_faddrM {x : Operand} {i id off : Nat} {fs : Array Field} {F : Field} {s b : Nat} {zz : Option Value} {T : TI} [hT : TInf X tx ⟨.struct fs, s, b, zz⟩] (hx : EvR env x (.one (.ptr id off)) := by exact ⟨rfl⟩) (hF : fs.toList[i]? = some F := by rfl) (hE : TInf X F.type T := by infer_instance) (h0 : Nat.beq T.size 0 = false := by rfl) {off' : Nat} (ho : off + F.offset = off' := by exact Eq.refl _)
    (hfl : FlR D env (.fieldAddr tx x i) (.one (.ptr id off')) (.n [] [] none) D' := by first | exact .seq | exact .drawn rfl)
    (hK : Rn X N R k ops D' rest ⟨(d, .one (.ptr id off')) :: env, h, n⟩) : Rn X N R k ops D (⟨some d, .fieldAddr tx x i, ty, ps, af, none⟩ :: rest) ⟨env, h, n⟩ :=
  Rn.val rfl (fun K hK => by simp only [evVal, hx.h, evFieldAddr, hT.h, gF hF, hE.h, ho]; exact ⟨fun e => by rw [e] at h0; simp at h0, hK⟩) hfl hK
/-- One cell of an element that is a struct. -/
theorem R_ldF {x : Operand} {α : Type} {e : α → List PV} {l : List α} {S m j : Nat} {a : α} {p : PV} {T : TI} [hT : TInf X tx T] (hx : EvR env x (vP (.pt (l.flatMap e) (m * S + j))) := by exact ⟨rfl⟩) (hS : ∀ x, (e x).length = S := by exact fun _ => rfl) (hag : isAggU T.u = false := by rfl)
    (hl : l[m]? = some a := by exact gD (by first | omega | (simp only [List.length_set, List.length_append, List.length_cons, List.length_nil, List.length_take, List.length_drop, List.length_replicate, List.length_map, List.length_reverse] at * <;> omega))) (hp : (e a)[j]? = some p := by rfl) (hfl : FlR D env (.load tx x) (vP p) (.n [] [] none) D' := by first | exact .seq | exact .drawn rfl)
    (hK : Rn X N R k ops D' rest ⟨(d, vP p) :: env, h, n⟩) : Rn X N R k ops D (⟨some d, .load tx x, ty, ps, af, none⟩ :: rest) ⟨env, h, n⟩ :=
  Rn.step (ef := .n [] [] none) trivial (fun K hK => by
    have hg := flat_get hS hl hp
    have h1 := (List.getElem?_eq_some_iff.1 hg).1
    simp only [evOp, hx.h, evLoadPv, hT.h, hag, Bool.false_eq_true, if_false]
    exact ⟨h1, by rw [List.getD_eq_getElem?_getD, hg]; exact hK⟩) hfl hK

/-! ### Appends -/
theorem R_app {x y : Operand} {α : Type} {e : α → List PV} {l l2 : List α} {id S m B s b : Nat} {te : TypeId} {u : TypeDesc} {zz : Option Value} {z : Value} {c : AC} {ids : List Nat} [hT : TInf X tx ⟨.slice te, s, b, zz⟩] [hE : TInf X te ⟨u, S, B, some z⟩] (hx : EvR env x (.one (.own id S m)) := by exact ⟨rfl⟩) (hlk : look h id = some (.pu te (l.flatMap e), false) := by rfl)
    (hm : m = l.length := by first | rfl | omega | simp) (hS : ∀ x, (e x).length = S := by exact fun _ => rfl) (hy : EvR env y (.one c) := by exact .of rfl) (hv : VC h c (slc e l2) ids := by first | exact .own rfl (fun _ => rfl) (by first | rfl | omega | (simp only [List.length_set, List.length_append, List.length_cons, List.length_nil, List.length_take, List.length_drop, List.length_replicate, List.length_map, List.length_reverse] <;> omega) | simp) | exact .pv rfl | exact .ownTake rfl (fun _ => rfl) (by first | omega | simp)) (h0 : Nat.ble 1 S = true := by rfl) (h1 : Nat.ble 1 B = true := by rfl) (hz : z.cells.size = S := by rfl) (hb : (m + l2.length) * B ≤ 140737488355328 := by first | omega | (simp only [List.length_set, List.length_append, List.length_cons, List.length_nil, List.length_take, List.length_drop, List.length_replicate, List.length_map, List.length_reverse] at * <;> omega)) (hi : ids.contains id = false := by rfl) (hk1 : Nat.blt id 500 = true := by rfl)
    {h1' h2' h3' : Hp} (hf : FrzR h ids h1' := by repeat (first | exact FrzR.nil | (apply FrzR.cons; rfl; (repeat (first | exact .hit | exact .nil | (apply PutR.miss; rfl)))))) (hsc : scrubH id h1' = h2' := by exact rfl) (hh : PutR h2' id (.pu te ((l ++ l2).flatMap e), false) h3' := by repeat (first | exact .hit | exact .nil | (apply PutR.miss; rfl))) (henv : scrubEnv id env = env' := by exact Eq.refl _)
    (hfl : FlR D env (.call ⟨.builtin .append, ⟨[x, y]⟩, ⟨[tx, tx]⟩⟩) (.one (.own id S (m + l2.length))) (.e h3' (some id)) D' := by first | exact .seq | exact .drawn rfl)
    (hK : Rn X N R k ops D' rest ⟨(d, .one (.own id S (m + l2.length))) :: env', h3', n⟩) : Rn X N R k ops D (⟨some d, .call ⟨.builtin .append, ⟨[x, y]⟩, ⟨[tx, tx]⟩⟩, ty, ps, af, none⟩ :: rest) ⟨env, h, n⟩ :=
  Rn.step (ef := .e h3' (some id)) (n' := n) trivial (fun K hK => by
    subst hm
    simp only [evOp, hx.h, hy.h, evAppend, hT.h, hE.h]
    refine .inl ⟨trivial, Nat.le_of_ble_eq_true h0, Nat.le_of_ble_eq_true h1, hz, hv.app hS _ ⟨trivial, ?_⟩⟩
    unfold evAppOwn
    rw [hlk]
    refine ⟨rfl, by rw [flat_len hS]; exact Nat.le_refl _, hb, hi, lt5h hk1, ?_⟩
    have e1 : (l.flatMap e).take (l.length * S) ++ l2.flatMap e = (l ++ l2).flatMap e := by rw [← flat_len hS l, List.take_length, List.flatMap_append]
    rw [e1, hf.eq, hsc, hh.eq]
    exact hK) hfl (by simp only [AS.fin, putO, putE, henv]; exact hK)
/-- The first append to a nil slice. -/
theorem R_app0 {x y : Operand} {α : Type} {e : α → List PV} {l2 : List α} {S B s b : Nat} {te : TypeId} {u : TypeDesc} {zz : Option Value} {z : Value} {c : AC} {ids : List Nat} [hT : TInf X tx ⟨.slice te, s, b, zz⟩] [hE : TInf X te ⟨u, S, B, some z⟩] (hx : EvR env x (vP .nil) := by exact ⟨rfl⟩) (hn : look h n = none := by rfl) (hk1 : Nat.blt n 500 = true := by rfl)
    (hS : ∀ x, (e x).length = S := by exact fun _ => rfl) (hy : EvR env y (.one c) := by exact .of rfl) (hv : VC h c (slc e l2) ids := by first | exact .own rfl (fun _ => rfl) (by first | rfl | omega | (simp only [List.length_set, List.length_append, List.length_cons, List.length_nil, List.length_take, List.length_drop, List.length_replicate, List.length_map, List.length_reverse] <;> omega) | simp) | exact .pv rfl | exact .ownTake rfl (fun _ => rfl) (by first | omega | simp)) (h0 : Nat.ble 1 S = true := by rfl) (h1 : Nat.ble 1 B = true := by rfl) (hz : z.cells.size = S := by rfl) (hb : l2.length * B ≤ 140737488355328 := by first | omega | (simp only [List.length_set, List.length_append, List.length_cons, List.length_nil, List.length_take, List.length_drop, List.length_replicate, List.length_map, List.length_reverse] at * <;> omega)) (hi : ids.contains n = false := by rfl)
    {h0' h1' h2' h3' : Hp} (hp0 : PutR h n (.pu te [], false) h0' := by repeat (first | exact .hit | exact .nil | (apply PutR.miss; rfl))) (hf : FrzR h0' ids h1' := by repeat (first | exact FrzR.nil | (apply FrzR.cons; rfl; (repeat (first | exact .hit | exact .nil | (apply PutR.miss; rfl)))))) (hsc : scrubH n h1' = h2' := by exact rfl) (hh : PutR h2' n (.pu te (l2.flatMap e), false) h3' := by repeat (first | exact .hit | exact .nil | (apply PutR.miss; rfl))) (henv : scrubEnv n env = env' := by exact Eq.refl _)
    (hfl : FlR D env (.call ⟨.builtin .append, ⟨[x, y]⟩, ⟨[tx, tx]⟩⟩) (.one (.own n S l2.length)) (.e h3' (some n)) D' := by first | exact .seq | exact .drawn rfl)
    (hK : Rn X N R k ops D' rest ⟨(d, .one (.own n S l2.length)) :: env', h3', n + 1⟩) : Rn X N R k ops D (⟨some d, .call ⟨.builtin .append, ⟨[x, y]⟩, ⟨[tx, tx]⟩⟩, ty, ps, af, none⟩ :: rest) ⟨env, h, n⟩ :=
  Rn.step (ef := .e h3' (some n)) (n' := n + 1) trivial (fun K hK => by
    simp only [evOp, hx.h, hy.h, evAppend, hT.h, hE.h]
    refine .inl ⟨trivial, Nat.le_of_ble_eq_true h0, Nat.le_of_ble_eq_true h1, hz, hv.app hS _ ⟨hn, ?_⟩⟩
    unfold evAppOwn
    rw [look_put, if_pos rfl]
    refine ⟨rfl, by simp, by simpa using hb, hi, lt5h hk1, ?_⟩
    rw [hp0.eq, hf.eq, hsc]
    simp only [Nat.zero_mul, List.take_nil, List.nil_append, Nat.zero_add, hh.eq]
    exact hK) hfl (by simp only [AS.fin, putO, putE, henv]; exact hK)
end
end Go.VL

