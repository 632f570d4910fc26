/- Contracts over whole values, and what they lean on: part f. Each holds under the conditions that it states. -/
import Derived.Test.YtekfjbjdlenhoaaGreatDoorZe
import Derived.Shelf.Strings.Builder1
set_option linter.unusedVariables false
set_option linter.unusedSimpArgs false

namespace Go.VL
open Go.RowKit
set_option linter.unusedVariables false
theorem wrap_of_range {k : IntKind} {a : Int} (h : k.min ≤ a ∧ a ≤ k.max) : k.wrap a = a := by
  cases k <;> simp [IntKind.min, IntKind.max, IntKind.wrap, IntKind.signed, IntKind.bits] at * <;> omega
def isIfc : TypeDesc → Bool
  | .interface _ => true
  | _ => false
section
variable {X : Ctx} {N : Nat} {R : AS → Prop} {k : List KI} {σ : AS} {ops : Array Oper} {D D' : Option (List Fl)} {rest : List Oper} {env env' : List (Nat × AV)} {h h' : Hp} {n n' : Nat} {dst : Option Tmp} {t d : Tmp} {op : Op} {ty tx t' : TypeId} {ps : String} {af : Array Edge}
theorem R_beql {x y : Operand} {a b : Bool} {s q : Nat} {zz : Option Value} [hT : TInf X tx ⟨.bool, s, q, zz⟩] (hx : EvR env x (vB a) := by exact ⟨rfl⟩) (hy : EvR env y (vB b) := by exact ⟨rfl⟩)
    (hfl : FlR D env (.binOp .eql tx x y t') (vB (decide (a = b))) (.n [] [] none) D' := by first | exact .seq | exact .drawn rfl)
    (hK : Rn X N R k ops D' rest ⟨(d, vB (decide (a = b))) :: env, h, n⟩) : Rn X N R k ops D (⟨some d, .binOp .eql tx x y t', ty, ps, af, none⟩ :: rest) ⟨env, h, n⟩ :=
  Rn.val rfl (fun K hK => by
    simp only [evVal, hx.h, hy.h, evBin, evEq, hT.h]; exact .inr (by rw [show (a == b) = decide (a = b) from by cases a <;> cases b <;> rfl]; exact hK)) hfl hK
theorem R_bneq {x y : Operand} {a b : Bool} {s q : Nat} {zz : Option Value} [hT : TInf X tx ⟨.bool, s, q, zz⟩] (hx : EvR env x (vB a) := by exact ⟨rfl⟩) (hy : EvR env y (vB b) := by exact ⟨rfl⟩)
    (hfl : FlR D env (.binOp .neq tx x y t') (vB (decide (¬ a = b))) (.n [] [] none) D' := by first | exact .seq | exact .drawn rfl)
    (hK : Rn X N R k ops D' rest ⟨(d, vB (decide (¬ a = b))) :: env, h, n⟩) : Rn X N R k ops D (⟨some d, .binOp .neq tx x y t', ty, ps, af, none⟩ :: rest) ⟨env, h, n⟩ :=
  Rn.val rfl (fun K hK => by
    simp only [evVal, hx.h, hy.h, evBin, evEq, hT.h]; exact .inr (by rw [show (!(a == b)) = decide (¬ a = b) from by cases a <;> cases b <;> rfl]; exact hK)) hfl hK
theorem R_nil1 {x y : Operand} {te : TypeId} {s q : Nat} {zz : Option Value} [hT : TInf X tx ⟨.slice te, s, q, zz⟩] (hx : EvR env x (vP .nil) := by exact ⟨rfl⟩) (hy : EvR env y (vP .nil) := by exact ⟨rfl⟩)
    (hfl : FlR D env (.binOp .eql tx x y t') (vB true) (.n [] [] none) D' := by first | exact .seq | exact .drawn rfl)
    (hK : Rn X N R k ops D' rest ⟨(d, vB true) :: env, h, n⟩) : Rn X N R k ops D (⟨some d, .binOp .eql tx x y t', ty, ps, af, none⟩ :: rest) ⟨env, h, n⟩ :=
  Rn.val rfl (fun K hK => by
    simp only [evVal, hx.h, hy.h, evBin, evEq, hT.h]; exact .inr hK) hfl hK
theorem R_nil2 {x y : Operand} {te : TypeId} {s q : Nat} {zz : Option Value} [hT : TInf X tx ⟨.slice te, s, q, zz⟩] (hx : EvR env x (vP .nil) := by exact ⟨rfl⟩) (hy : EvR env y (vP .nil) := by exact ⟨rfl⟩)
    (hfl : FlR D env (.binOp .neq tx x y t') (vB false) (.n [] [] none) D' := by first | exact .seq | exact .drawn rfl)
    (hK : Rn X N R k ops D' rest ⟨(d, vB false) :: env, h, n⟩) : Rn X N R k ops D (⟨some d, .binOp .neq tx x y t', ty, ps, af, none⟩ :: rest) ⟨env, h, n⟩ :=
  Rn.val rfl (fun K hK => by
    simp only [evVal, hx.h, hy.h, evBin, evEq, hT.h]; exact .inr hK) hfl hK
theorem R_nilN1 {x y : Operand} {te : TypeId} {s q m : Nat} {cells : List PV} {zz : Option Value} [hT : TInf X tx ⟨.slice te, s, q, zz⟩] (hx : EvR env x (vP (.sl m cells)) := by exact ⟨rfl⟩) (hy : EvR env y (vP .nil) := by exact ⟨rfl⟩) (hm : 0 < m := by omega)
    (hfl : FlR D env (.binOp .eql tx x y t') (vB false) (.n [] [] none) D' := by first | exact .seq | exact .drawn rfl)
    (hK : Rn X N R k ops D' rest ⟨(d, vB false) :: env, h, n⟩) : Rn X N R k ops D (⟨some d, .binOp .eql tx x y t', ty, ps, af, none⟩ :: rest) ⟨env, h, n⟩ :=
  Rn.val rfl (fun K hK => by
    simp only [evVal, hx.h, hy.h, evBin, evEq, hT.h]; exact .inr (.inl ⟨hm, hK⟩)) hfl hK
theorem R_nilN2 {x y : Operand} {te : TypeId} {s q m : Nat} {cells : List PV} {zz : Option Value} [hT : TInf X tx ⟨.slice te, s, q, zz⟩] (hx : EvR env x (vP (.sl m cells)) := by exact ⟨rfl⟩) (hy : EvR env y (vP .nil) := by exact ⟨rfl⟩) (hm : 0 < m := by omega)
    (hfl : FlR D env (.binOp .neq tx x y t') (vB true) (.n [] [] none) D' := by first | exact .seq | exact .drawn rfl)
    (hK : Rn X N R k ops D' rest ⟨(d, vB true) :: env, h, n⟩) : Rn X N R k ops D (⟨some d, .binOp .neq tx x y t', ty, ps, af, none⟩ :: rest) ⟨env, h, n⟩ :=
  Rn.val rfl (fun K hK => by
    simp only [evVal, hx.h, hy.h, evBin, evEq, hT.h]; exact .inr (.inl ⟨hm, hK⟩)) hfl hK
theorem R_nilU1 {x y : Operand} {te : TypeId} {s q m : Nat} {cells : List PV} {zz : Option Value} [hT : TInf X tx ⟨.slice te, s, q, zz⟩] (hx : EvR env x (vP (.sl m cells)) := by exact ⟨rfl⟩) (hy : EvR env y (vP .nil) := by exact ⟨rfl⟩)
    (hfl : FlR D env (.binOp .eql tx x y t') (.one .ub) (.n [] [] none) D' := by first | exact .seq | exact .drawn rfl)
    (hK : Rn X N R k ops D' rest ⟨(d, .one .ub) :: env, h, n⟩) : Rn X N R k ops D (⟨some d, .binOp .eql tx x y t', ty, ps, af, none⟩ :: rest) ⟨env, h, n⟩ :=
  Rn.val rfl (fun K hK => by
    simp only [evVal, hx.h, hy.h, evBin, evEq, hT.h]; exact .inr (.inr hK)) hfl hK
theorem R_nilU2 {x y : Operand} {te : TypeId} {s q m : Nat} {cells : List PV} {zz : Option Value} [hT : TInf X tx ⟨.slice te, s, q, zz⟩] (hx : EvR env x (vP (.sl m cells)) := by exact ⟨rfl⟩) (hy : EvR env y (vP .nil) := by exact ⟨rfl⟩)
    (hfl : FlR D env (.binOp .neq tx x y t') (.one .ub) (.n [] [] none) D' := by first | exact .seq | exact .drawn rfl)
    (hK : Rn X N R k ops D' rest ⟨(d, .one .ub) :: env, h, n⟩) : Rn X N R k ops D (⟨some d, .binOp .neq tx x y t', ty, ps, af, none⟩ :: rest) ⟨env, h, n⟩ :=
  Rn.val rfl (fun K hK => by
    simp only [evVal, hx.h, hy.h, evBin, evEq, hT.h]; exact .inr (.inr hK)) hfl hK
theorem R_ifn1 {x y : Operand} {ms : Array (String × TypeId)} {s q : Nat} {zz : Option Value} [hT : TInf X tx ⟨.interface ms, s, q, zz⟩] (hx : EvR env x (vP .ifc) := by exact ⟨rfl⟩) (hy : EvR env y (vP (.lit .nilIface)) := by exact ⟨rfl⟩)
    (hfl : FlR D env (.binOp .eql tx x y t') (vB false) (.n [] [] none) D' := by first | exact .seq | exact .drawn rfl)
    (hK : Rn X N R k ops D' rest ⟨(d, vB false) :: env, h, n⟩) : Rn X N R k ops D (⟨some d, .binOp .eql tx x y t', ty, ps, af, none⟩ :: rest) ⟨env, h, n⟩ :=
  Rn.val rfl (fun K hK => by
    simp only [evVal, hx.h, hy.h, evBin, evEq, hT.h]; exact .inr hK) hfl hK
theorem R_ifn2 {x y : Operand} {ms : Array (String × TypeId)} {s q : Nat} {zz : Option Value} [hT : TInf X tx ⟨.interface ms, s, q, zz⟩] (hx : EvR env x (vP .ifc) := by exact ⟨rfl⟩) (hy : EvR env y (vP (.lit .nilIface)) := by exact ⟨rfl⟩)
    (hfl : FlR D env (.binOp .neq tx x y t') (vB true) (.n [] [] none) D' := by first | exact .seq | exact .drawn rfl)
    (hK : Rn X N R k ops D' rest ⟨(d, vB true) :: env, h, n⟩) : Rn X N R k ops D (⟨some d, .binOp .neq tx x y t', ty, ps, af, none⟩ :: rest) ⟨env, h, n⟩ :=
  Rn.val rfl (fun K hK => by
    simp only [evVal, hx.h, hy.h, evBin, evEq, hT.h]; exact .inr hK) hfl hK
theorem R_ifz1 {x : Operand} {yv : Value} {ms : Array (String × TypeId)} {s q : Nat} {zz : Option Value} [hT : TInf X tx ⟨.interface ms, s, q, zz⟩] (hx : EvR env x (vP (.lit .nilIface)) := by exact ⟨rfl⟩) (hy : EvR env (.const yv) (vP (.lit .nilIface)) := by exact ⟨rfl⟩)
    (hfl : FlR D env (.binOp .eql tx x (.const yv) t') (vB true) (.n [] [] none) D' := by first | exact .seq | exact .drawn rfl)
    (hK : Rn X N R k ops D' rest ⟨(d, vB true) :: env, h, n⟩) : Rn X N R k ops D (⟨some d, .binOp .eql tx x (.const yv) t', ty, ps, af, none⟩ :: rest) ⟨env, h, n⟩ :=
  Rn.val rfl (fun K hK => by
    simp only [evVal, hx.h, hy.h, evBin, evEq, hT.h]; exact .inr ⟨⟨_, rfl⟩, hK⟩) hfl hK
theorem R_ifz2 {x : Operand} {yv : Value} {ms : Array (String × TypeId)} {s q : Nat} {zz : Option Value} [hT : TInf X tx ⟨.interface ms, s, q, zz⟩] (hx : EvR env x (vP (.lit .nilIface)) := by exact ⟨rfl⟩) (hy : EvR env (.const yv) (vP (.lit .nilIface)) := by exact ⟨rfl⟩)
    (hfl : FlR D env (.binOp .neq tx x (.const yv) t') (vB false) (.n [] [] none) D' := by first | exact .seq | exact .drawn rfl)
    (hK : Rn X N R k ops D' rest ⟨(d, vB false) :: env, h, n⟩) : Rn X N R k ops D (⟨some d, .binOp .neq tx x (.const yv) t', ty, ps, af, none⟩ :: rest) ⟨env, h, n⟩ :=
  Rn.val rfl (fun K hK => by
    simp only [evVal, hx.h, hy.h, evBin, evEq, hT.h]; exact .inr ⟨⟨_, rfl⟩, hK⟩) hfl hK
theorem R_slt {x y : Operand} {a b : List UInt8} (hx : EvR env x (vS a) := by exact ⟨rfl⟩) (hy : EvR env y (vS b) := by exact ⟨rfl⟩)
    (hfl : FlR D env (.binOp .lss tx x y t') (vB (lexLt a b)) (.n [] [] none) D' := by first | exact .seq | exact .drawn rfl)
    (hK : Rn X N R k ops D' rest ⟨(d, vB (lexLt a b)) :: env, h, n⟩) : Rn X N R k ops D (⟨some d, .binOp .lss tx x y t', ty, ps, af, none⟩ :: rest) ⟨env, h, n⟩ :=
  Rn.val rfl (fun K hK => by
    simp only [evVal, hx.h, hy.h, evBin]; exact .inl hK) hfl hK
theorem R_sle {x y : Operand} {a b : List UInt8} (hx : EvR env x (vS a) := by exact ⟨rfl⟩) (hy : EvR env y (vS b) := by exact ⟨rfl⟩)
    (hfl : FlR D env (.binOp .leq tx x y t') (vB ((lexLt a b || decide (a = b)))) (.n [] [] none) D' := by first | exact .seq | exact .drawn rfl)
    (hK : Rn X N R k ops D' rest ⟨(d, vB ((lexLt a b || decide (a = b)))) :: env, h, n⟩) : Rn X N R k ops D (⟨some d, .binOp .leq tx x y t', ty, ps, af, none⟩ :: rest) ⟨env, h, n⟩ :=
  Rn.val rfl (fun K hK => by
    simp only [evVal, hx.h, hy.h, evBin]; exact .inl hK) hfl hK
theorem R_sgt {x y : Operand} {a b : List UInt8} (hx : EvR env x (vS a) := by exact ⟨rfl⟩) (hy : EvR env y (vS b) := by exact ⟨rfl⟩)
    (hfl : FlR D env (.binOp .gtr tx x y t') (vB ((!(lexLt a b || decide (a = b))))) (.n [] [] none) D' := by first | exact .seq | exact .drawn rfl)
    (hK : Rn X N R k ops D' rest ⟨(d, vB ((!(lexLt a b || decide (a = b))))) :: env, h, n⟩) : Rn X N R k ops D (⟨some d, .binOp .gtr tx x y t', ty, ps, af, none⟩ :: rest) ⟨env, h, n⟩ :=
  Rn.val rfl (fun K hK => by
    simp only [evVal, hx.h, hy.h, evBin]; exact .inl hK) hfl hK
theorem R_sge {x y : Operand} {a b : List UInt8} (hx : EvR env x (vS a) := by exact ⟨rfl⟩) (hy : EvR env y (vS b) := by exact ⟨rfl⟩)
    (hfl : FlR D env (.binOp .geq tx x y t') (vB ((!lexLt a b))) (.n [] [] none) D' := by first | exact .seq | exact .drawn rfl)
    (hK : Rn X N R k ops D' rest ⟨(d, vB ((!lexLt a b))) :: env, h, n⟩) : Rn X N R k ops D (⟨some d, .binOp .geq tx x y t', ty, ps, af, none⟩ :: rest) ⟨env, h, n⟩ :=
  Rn.val rfl (fun K hK => by
    simp only [evVal, hx.h, hy.h, evBin]; exact .inl hK) hfl hK
theorem R_addw {x y : Operand} {kx : IntKind} {a b : Int} (hx : EvR env x (.one (.pv (.int kx a))) := by exact ⟨rfl⟩) (hy : EvR env y (.one (.pv (.int kx b))) := by exact ⟨rfl⟩)
    (hfl : FlR D env (.binOp .add tx x y t') (vP (.int kx (kx.wrap (a + b)))) (.n [] [] none) D' := by first | exact .seq | exact .drawn rfl)
    (hK : Rn X N R k ops D' rest ⟨(d, vP (.int kx (kx.wrap (a + b)))) :: env, h, n⟩) : Rn X N R k ops D (⟨some d, .binOp .add tx x y t', ty, ps, af, none⟩ :: rest) ⟨env, h, n⟩ :=
  Rn.val rfl (fun K hK => by
    simp only [evVal, hx.h, hy.h, evBin]; exact .inl ⟨rfl, hK⟩) hfl hK
theorem R_subw {x y : Operand} {kx : IntKind} {a b : Int} (hx : EvR env x (.one (.pv (.int kx a))) := by exact ⟨rfl⟩) (hy : EvR env y (.one (.pv (.int kx b))) := by exact ⟨rfl⟩)
    (hfl : FlR D env (.binOp .sub tx x y t') (vP (.int kx (kx.wrap (a - b)))) (.n [] [] none) D' := by first | exact .seq | exact .drawn rfl)
    (hK : Rn X N R k ops D' rest ⟨(d, vP (.int kx (kx.wrap (a - b)))) :: env, h, n⟩) : Rn X N R k ops D (⟨some d, .binOp .sub tx x y t', ty, ps, af, none⟩ :: rest) ⟨env, h, n⟩ :=
  Rn.val rfl (fun K hK => by
    simp only [evVal, hx.h, hy.h, evBin]; exact .inl ⟨rfl, hK⟩) hfl hK
theorem R_mulw {x y : Operand} {kx : IntKind} {a b : Int} (hx : EvR env x (.one (.pv (.int kx a))) := by exact ⟨rfl⟩) (hy : EvR env y (.one (.pv (.int kx b))) := by exact ⟨rfl⟩)
    (hfl : FlR D env (.binOp .mul tx x y t') (vP (.int kx (kx.wrap (a * b)))) (.n [] [] none) D' := by first | exact .seq | exact .drawn rfl)
    (hK : Rn X N R k ops D' rest ⟨(d, vP (.int kx (kx.wrap (a * b)))) :: env, h, n⟩) : Rn X N R k ops D (⟨some d, .binOp .mul tx x y t', ty, ps, af, none⟩ :: rest) ⟨env, h, n⟩ :=
  Rn.val rfl (fun K hK => by
    simp only [evVal, hx.h, hy.h, evBin]; exact .inl ⟨rfl, hK⟩) hfl hK
theorem R_min {x y : Operand} {tl : Array TypeId} {kx : IntKind} {a b : Int} (hx : EvR env x (.one (.pv (.int kx a))) := by exact ⟨rfl⟩) (hy : EvR env y (.one (.pv (.int kx b))) := by exact ⟨rfl⟩)
    (hfl : FlR D env (.call ⟨.builtin .min, ⟨[x, y]⟩, tl⟩) (vP (.int kx (min a b))) (.n [] [] none) D' := by first | exact .seq | exact .drawn rfl)
    (hK : Rn X N R k ops D' rest ⟨(d, vP (.int kx (min a b))) :: env, h, n⟩) : Rn X N R k ops D (⟨some d, .call ⟨.builtin .min, ⟨[x, y]⟩, tl⟩, ty, ps, af, none⟩ :: rest) ⟨env, h, n⟩ :=
  Rn.step (ef := .n [] [] none) trivial (fun K hK => by
    simp only [evOp, evVal, evMM, hx.h, hy.h]; exact ⟨trivial, hK⟩) hfl hK
theorem R_max {x y : Operand} {tl : Array TypeId} {kx : IntKind} {a b : Int} (hx : EvR env x (.one (.pv (.int kx a))) := by exact ⟨rfl⟩) (hy : EvR env y (.one (.pv (.int kx b))) := by exact ⟨rfl⟩)
    (hfl : FlR D env (.call ⟨.builtin .max, ⟨[x, y]⟩, tl⟩) (vP (.int kx (max a b))) (.n [] [] none) D' := by first | exact .seq | exact .drawn rfl)
    (hK : Rn X N R k ops D' rest ⟨(d, vP (.int kx (max a b))) :: env, h, n⟩) : Rn X N R k ops D (⟨some d, .call ⟨.builtin .max, ⟨[x, y]⟩, tl⟩, ty, ps, af, none⟩ :: rest) ⟨env, h, n⟩ :=
  Rn.step (ef := .n [] [] none) trivial (fun K hK => by
    simp only [evOp, evVal, evMM, hx.h, hy.h]; exact ⟨trivial, hK⟩) hfl hK
theorem R_sidx {x y : Operand} {l : List UInt8} {m s b : Nat} {zz : Option Value} {ky : IntKind} {z : Int} [hT : TInf X tx ⟨.string, s, b, zz⟩] (hx : EvR env x (vS l) := by exact ⟨rfl⟩) (hy : EvR env y (.one (.pv (.int ky z))) := by exact ⟨rfl⟩) (h0 : 0 ≤ z ∧ z < l.length := by first | (constructor <;> omega) | (constructor <;> (first | omega | (simp only [List.length_set, List.length_append, List.length_cons, List.length_nil, List.length_take, List.length_drop, List.length_replicate, List.length_map, List.length_reverse] at * <;> omega)))) (hm : z.toNat = m := by first | (with_reducible exact Int.toNat_natCast _) | (with_reducible exact toNat_add _ _) | (with_reducible exact toNat_add1 _) | exact Eq.refl _)
    (hfl : FlR D env (.index tx x y) (vP (.int .u8 ((l.getD m 0).toNat : Int))) (.n [] [] none) D' := by first | exact .seq | exact .drawn rfl)
    (hK : Rn X N R k ops D' rest ⟨(d, vP (.int .u8 ((l.getD m 0).toNat : Int))) :: env, h, n⟩) : Rn X N R k ops D (⟨some d, .index tx x y, ty, ps, af, none⟩ :: rest) ⟨env, h, n⟩ :=
  Rn.val rfl (fun K hK => by
    subst hm; simp only [evVal, hx.h, hy.h, evIndex, hT.h]; exact ⟨h0.1, h0.2, hK⟩) hfl hK
theorem R_conv {x : Operand} {td : TypeId} {k1 k2 kx : IntKind} {a : Int} {s b s' b' : Nat} {zz zz' : Option Value} [hT : TInf X tx ⟨.int k1, s, b, zz⟩] [hD : TInf X td ⟨.int k2, s', b', zz'⟩] (hx : EvR env x (.one (.pv (.int kx a))) := by exact ⟨rfl⟩) (hr : k2.min ≤ a ∧ a ≤ k2.max := by first | exact ⟨by decide, by decide⟩ | (simp only [IntKind.min, IntKind.max, IntKind.signed, IntKind.bits, if_true, if_false, Bool.false_eq_true]; constructor <;> omega))
    (hfl : FlR D env (.convert tx td x) (vP (.int k2 a)) (.n [] [] none) D' := by first | exact .seq | exact .drawn rfl)
    (hK : Rn X N R k ops D' rest ⟨(d, vP (.int k2 a)) :: env, h, n⟩) : Rn X N R k ops D (⟨some d, .convert tx td x, ty, ps, af, none⟩ :: rest) ⟨env, h, n⟩ :=
  Rn.val rfl (fun K hK => by
    simp only [evVal, hx.h, evConv, hT.h, hD.h]; rw [wrap_of_range hr]; exact hK) hfl hK
theorem R_convw {x : Operand} {td : TypeId} {k1 k2 kx : IntKind} {a : Int} {s b s' b' : Nat} {zz zz' : Option Value} [hT : TInf X tx ⟨.int k1, s, b, zz⟩] [hD : TInf X td ⟨.int k2, s', b', zz'⟩] (hx : EvR env x (.one (.pv (.int kx a))) := by exact ⟨rfl⟩)
    (hfl : FlR D env (.convert tx td x) (vP (.int k2 (k2.wrap a))) (.n [] [] none) D' := by first | exact .seq | exact .drawn rfl)
    (hK : Rn X N R k ops D' rest ⟨(d, vP (.int k2 (k2.wrap a))) :: env, h, n⟩) : Rn X N R k ops D (⟨some d, .convert tx td x, ty, ps, af, none⟩ :: rest) ⟨env, h, n⟩ :=
  Rn.val rfl (fun K hK => by
    simp only [evVal, hx.h, evConv, hT.h, hD.h]; exact hK) hfl hK
theorem R_convS {x : Operand} {td : TypeId} {l : List UInt8} {s b s' b' : Nat} {zz zz' : Option Value} [hT : TInf X tx ⟨.string, s, b, zz⟩] [hD : TInf X td ⟨.string, s', b', zz'⟩] (hx : EvR env x (vS l) := by exact ⟨rfl⟩)
    (hfl : FlR D env (.convert tx td x) (vS l) (.n [] [] none) D' := by first | exact .seq | exact .drawn rfl)
    (hK : Rn X N R k ops D' rest ⟨(d, vS l) :: env, h, n⟩) : Rn X N R k ops D (⟨some d, .convert tx td x, ty, ps, af, none⟩ :: rest) ⟨env, h, n⟩ :=
  Rn.val rfl (fun K hK => by
    simp only [evVal, hx.h, evConv, hT.h, hD.h]; exact hK) hfl hK
theorem R_ifc {x : Operand} {T : TI} [hT : TInf X tx T] (hni : isIfc T.u = false := by rfl)
    (hfl : FlR D env (.makeInterface tx x) (vP .ifc) (.n [] [] none) D' := by first | exact .seq | exact .drawn rfl)
    (hK : Rn X N R k ops D' rest ⟨(d, vP .ifc) :: env, h, n⟩) : Rn X N R k ops D (⟨some d, .makeInterface tx x, ty, ps, af, none⟩ :: rest) ⟨env, h, n⟩ :=
  Rn.val rfl (fun K hK => by
    obtain ⟨u, s, b, z⟩ := T
    simp only [evVal, hT.h]
    cases u <;> first | exact hK | cases hni) hfl hK
theorem R_mkfn0 {f : FuncId}
    (hfl : FlR D env (.makeFunc (.func f) ⟨[]⟩ ⟨[]⟩) (vP (.clo f [])) (.n [] [] none) D' := by first | exact .seq | exact .drawn rfl)
    (hK : Rn X N R k ops D' rest ⟨(d, vP (.clo f [])) :: env, h, n⟩) : Rn X N R k ops D (⟨some d, .makeFunc (.func f) ⟨[]⟩ ⟨[]⟩, ty, ps, af, none⟩ :: rest) ⟨env, h, n⟩ :=
  Rn.val rfl (fun K hK => by
    exact hK) hfl hK
theorem R_mkfn {f : FuncId} {cl : List Operand} {xs : List AV} {cs : List Cap} {pl : List PV} (hx : cl.map (evE env) = xs := by exact rfl) (hc : capsOf xs = some cs := by exact rfl) (hp : pvsOfCaps cs = some pl := by exact rfl)
    (hfl : FlR D env (.makeFunc (.func f) ⟨[]⟩ ⟨cl⟩) (vP (.clo f pl)) (.n [] [] none) D' := by first | exact .seq | exact .drawn rfl)
    (hK : Rn X N R k ops D' rest ⟨(d, vP (.clo f pl)) :: env, h, n⟩) : Rn X N R k ops D (⟨some d, .makeFunc (.func f) ⟨[]⟩ ⟨cl⟩, ty, ps, af, none⟩ :: rest) ⟨env, h, n⟩ :=
  Rn.val rfl (fun K hK => by
    simp only [evVal, evMkFn, hx, hc, hp]; exact hK) hfl hK
theorem R_mkfnC {f : FuncId} {cl : List Operand} {xs : List AV} {cs : List Cap} (hx : cl.map (evE env) = xs := by exact rfl) (hc : capsOf xs = some cs := by exact rfl) (hp : pvsOfCaps cs = none := by rfl)
    (hfl : FlR D env (.makeFunc (.func f) ⟨[]⟩ ⟨cl⟩) (.one (.clo f cs)) (.n [] [] none) D' := by first | exact .seq | exact .drawn rfl)
    (hK : Rn X N R k ops D' rest ⟨(d, .one (.clo f cs)) :: env, h, n⟩) : Rn X N R k ops D (⟨some d, .makeFunc (.func f) ⟨[]⟩ ⟨cl⟩, ty, ps, af, none⟩ :: rest) ⟨env, h, n⟩ :=
  Rn.val rfl (fun K hK => by
    simp only [evVal, evMkFn, hx, hc, hp]; exact hK) hfl hK
theorem R_nck1 {x : Operand} {id off : Nat} (hx : EvR env x (.one (.ptr id off)) := by exact ⟨rfl⟩)
    (hfl : FlR D env (.nilCheck x) (.one (.ptr id off)) (.n [] [] none) D' := by first | exact .seq | exact .drawn rfl)
    (hK : Rn X N R k ops D' rest ⟨(d, .one (.ptr id off)) :: env, h, n⟩) : Rn X N R k ops D (⟨some d, .nilCheck x, ty, ps, af, none⟩ :: rest) ⟨env, h, n⟩ :=
  Rn.val rfl (fun K hK => by
    simp only [evVal, hx.h, evNilC]; exact hK) hfl hK
theorem R_nck2 {x : Operand} {off : Nat} {cells : List PV} (hx : EvR env x (vP (.pt cells off)) := by exact ⟨rfl⟩)
    (hfl : FlR D env (.nilCheck x) (vP (.pt cells off)) (.n [] [] none) D' := by first | exact .seq | exact .drawn rfl)
    (hK : Rn X N R k ops D' rest ⟨(d, vP (.pt cells off)) :: env, h, n⟩) : Rn X N R k ops D (⟨some d, .nilCheck x, ty, ps, af, none⟩ :: rest) ⟨env, h, n⟩ :=
  Rn.val rfl (fun K hK => by
    simp only [evVal, hx.h, evNilC]; exact hK) hfl hK
theorem R_nck3 {x : Operand} {id : Nat} {caps : List PV} (hx : EvR env x (vP (.clo id caps)) := by exact ⟨rfl⟩)
    (hfl : FlR D env (.nilCheck x) (vP (.clo id caps)) (.n [] [] none) D' := by first | exact .seq | exact .drawn rfl)
    (hK : Rn X N R k ops D' rest ⟨(d, vP (.clo id caps)) :: env, h, n⟩) : Rn X N R k ops D (⟨some d, .nilCheck x, ty, ps, af, none⟩ :: rest) ⟨env, h, n⟩ :=
  Rn.val rfl (fun K hK => by
    simp only [evVal, hx.h, evNilC]; exact hK) hfl hK
theorem R_nck4 {x : Operand} {id : Nat} {capz : List Cap} (hx : EvR env x (.one (.clo id capz)) := by exact ⟨rfl⟩)
    (hfl : FlR D env (.nilCheck x) (.one (.clo id capz)) (.n [] [] none) D' := by first | exact .seq | exact .drawn rfl)
    (hK : Rn X N R k ops D' rest ⟨(d, .one (.clo id capz)) :: env, h, n⟩) : Rn X N R k ops D (⟨some d, .nilCheck x, ty, ps, af, none⟩ :: rest) ⟨env, h, n⟩ :=
  Rn.val rfl (fun K hK => by
    simp only [evVal, hx.h, evNilC]; exact hK) hfl hK
theorem R_both {x y1 y2 : Operand} {α : Type} {e : α → List PV} {l : List α} {m1 m2 : Nat} {ta te : TypeId} {T : TI} {s b : Nat} {zz : Option Value} {k1 k2 : IntKind} {z1 z2 : Int} [hT : TInf X ta ⟨.slice te, s, b, zz⟩] [hE : TInf X te T] (hx : EvR env x (vP (slc e l)) := by exact ⟨rfl⟩) (hy1 : EvR env y1 (.one (.pv (.int k1 z1))) := by exact ⟨rfl⟩) (hy2 : EvR env y2 (.one (.pv (.int k2 z2))) := by exact ⟨rfl⟩) (hS : ∀ x, (e x).length = T.size := by exact fun _ => rfl) (h0 : 0 ≤ z1 ∧ z1 ≤ z2 ∧ z2 ≤ l.length := by refine ⟨?_, ?_, ?_⟩ <;> omega) (hm1 : z1.toNat = m1 := by first | (with_reducible exact Int.toNat_natCast _) | (with_reducible exact toNat_add _ _) | (with_reducible exact toNat_add1 _) | exact Eq.refl _) (hm2 : z2.toNat = m2 := by first | (with_reducible exact Int.toNat_natCast _) | (with_reducible exact toNat_add _ _) | (with_reducible exact toNat_add1 _) | exact Eq.refl _)
    (hfl : FlR D env (.slice ta x (some y1) (some y2) none) (vP (slc e ((l.drop m1).take (m2 - m1)))) (.n [] [] none) D' := by first | exact .seq | exact .drawn rfl)
    (hK : Rn X N R k ops D' rest ⟨(d, vP (slc e ((l.drop m1).take (m2 - m1)))) :: env, h, n⟩) : Rn X N R k ops D (⟨some d, .slice ta x (some y1) (some y2) none, ty, ps, af, none⟩ :: rest) ⟨env, h, n⟩ :=
  Rn.val rfl (fun K hK => by
    subst hm1; subst hm2
    have e1 : slc e ((l.drop z1.toNat).take (z2.toNat - z1.toNat)) = .sl (z2.toNat - z1.toNat) (((l.drop z1.toNat).take (z2.toNat - z1.toNat)).flatMap e) := by simp only [slc, List.length_take, List.length_drop]; rw [Nat.min_eq_left (by omega)]
    simp only [evVal, evSlice, Option.map_none, Option.map_some, hx.h, hy1.h, hy2.h, bnds, hT.h, hE.h, slc, evSlPv, flat_take hS, flat_drop hS]
    rw [← e1]
    exact ⟨h0.1, h0.2.1, h0.2.2, flat_len hS l, hK⟩) hfl hK
theorem R_sfrom {x y1 : Operand} {l : List UInt8} {m1 : Nat} {s b : Nat} {zz : Option Value} {k1 : IntKind} {z1 : Int} [hT : TInf X tx ⟨.string, s, b, zz⟩] (hx : EvR env x (vS l) := by exact ⟨rfl⟩) (hy1 : EvR env y1 (.one (.pv (.int k1 z1))) := by exact ⟨rfl⟩) (h0 : 0 ≤ z1 ∧ z1 ≤ l.length := by first | (constructor <;> omega) | (constructor <;> (first | omega | (simp only [List.length_set, List.length_append, List.length_cons, List.length_nil, List.length_take, List.length_drop, List.length_replicate, List.length_map, List.length_reverse] at * <;> omega)))) (hm1 : z1.toNat = m1 := by first | (with_reducible exact Int.toNat_natCast _) | (with_reducible exact toNat_add _ _) | (with_reducible exact toNat_add1 _) | exact Eq.refl _)
    (hfl : FlR D env (.slice tx x (some y1) (none) none) (vS (l.drop m1)) (.n [] [] none) D' := by first | exact .seq | exact .drawn rfl)
    (hK : Rn X N R k ops D' rest ⟨(d, vS (l.drop m1)) :: env, h, n⟩) : Rn X N R k ops D (⟨some d, .slice tx x (some y1) (none) none, ty, ps, af, none⟩ :: rest) ⟨env, h, n⟩ :=
  Rn.val rfl (fun K hK => by
    subst hm1; simp only [evVal, evSlice, Option.map_none, Option.map_some, hx.h, hy1.h, bnds, hT.h, evSlStr]; exact ⟨h0.1, h0.2, hK⟩) hfl hK
theorem R_supto {x y1 : Operand} {l : List UInt8} {m1 : Nat} {s b : Nat} {zz : Option Value} {k1 : IntKind} {z1 : Int} [hT : TInf X tx ⟨.string, s, b, zz⟩] (hx : EvR env x (vS l) := by exact ⟨rfl⟩) (hy1 : EvR env y1 (.one (.pv (.int k1 z1))) := by exact ⟨rfl⟩) (h0 : 0 ≤ z1 ∧ z1 ≤ l.length := by first | (constructor <;> omega) | (constructor <;> (first | omega | (simp only [List.length_set, List.length_append, List.length_cons, List.length_nil, List.length_take, List.length_drop, List.length_replicate, List.length_map, List.length_reverse] at * <;> omega)))) (hm1 : z1.toNat = m1 := by first | (with_reducible exact Int.toNat_natCast _) | (with_reducible exact toNat_add _ _) | (with_reducible exact toNat_add1 _) | exact Eq.refl _)
    (hfl : FlR D env (.slice tx x (none) (some y1) none) (vS (l.take m1)) (.n [] [] none) D' := by first | exact .seq | exact .drawn rfl)
    (hK : Rn X N R k ops D' rest ⟨(d, vS (l.take m1)) :: env, h, n⟩) : Rn X N R k ops D (⟨some d, .slice tx x (none) (some y1) none, ty, ps, af, none⟩ :: rest) ⟨env, h, n⟩ :=
  Rn.val rfl (fun K hK => by
    subst hm1; simp only [evVal, evSlice, Option.map_none, Option.map_some, hx.h, hy1.h, bnds, hT.h, evSlStr]; exact ⟨h0.1, h0.2, hK⟩) hfl hK
theorem R_sboth {x y1 y2 : Operand} {l : List UInt8} {m1 m2 : Nat} {s b : Nat} {zz : Option Value} {k1 k2 : IntKind} {z1 z2 : Int} [hT : TInf X tx ⟨.string, s, b, zz⟩] (hx : EvR env x (vS l) := by exact ⟨rfl⟩) (hy1 : EvR env y1 (.one (.pv (.int k1 z1))) := by exact ⟨rfl⟩) (hy2 : EvR env y2 (.one (.pv (.int k2 z2))) := by exact ⟨rfl⟩) (h0 : 0 ≤ z1 ∧ z1 ≤ z2 ∧ z2 ≤ l.length := by refine ⟨?_, ?_, ?_⟩ <;> omega) (hm1 : z1.toNat = m1 := by first | (with_reducible exact Int.toNat_natCast _) | (with_reducible exact toNat_add _ _) | (with_reducible exact toNat_add1 _) | exact Eq.refl _) (hm2 : z2.toNat = m2 := by first | (with_reducible exact Int.toNat_natCast _) | (with_reducible exact toNat_add _ _) | (with_reducible exact toNat_add1 _) | exact Eq.refl _)
    (hfl : FlR D env (.slice tx x (some y1) (some y2) none) (vS ((l.drop m1).take (m2 - m1))) (.n [] [] none) D' := by first | exact .seq | exact .drawn rfl)
    (hK : Rn X N R k ops D' rest ⟨(d, vS ((l.drop m1).take (m2 - m1))) :: env, h, n⟩) : Rn X N R k ops D (⟨some d, .slice tx x (some y1) (some y2) none, ty, ps, af, none⟩ :: rest) ⟨env, h, n⟩ :=
  Rn.val rfl (fun K hK => by
    subst hm1; subst hm2; simp only [evVal, evSlice, Option.map_none, Option.map_some, hx.h, hy1.h, hy2.h, bnds, hT.h, evSlStr]; exact ⟨h0.1, h0.2.1, h0.2.2, hK⟩) hfl hK
theorem R_bslG {α : Type} {e : α → List PV} {l : List α} {pl : List (Nat × Operand)} {te : TypeId} {u : TypeDesc} {S B s b len : Nat} {zz : Option Value} {zl : Value} {ids : List Nat} {h1' : Hp} [hT : TInf X tx ⟨.slice te, s, b, zz⟩] [hE : TInf X te ⟨u, S, B, some zl⟩]
    (hz : (zc zl).isSome = true := by rfl) (hzs : zl.cells.size = S := by rfl) (h0 : Nat.ble 1 S = true := by rfl) (hb : Nat.ble (len * S) 16777216 = true := by rfl) (hpl : pl.length = len := by rfl) (hn : look h n = none := by rfl) (hk1 : Nat.blt n 1000 = true := by rfl)
    (hv : ∀ K : List PV → List Nat → Prop, K (l.flatMap e) ids → viewParts h S 0 (pl.map fun p => (p.1, evE env p.2)) K) (hf : FrzR h ids h1' := by repeat (first | exact FrzR.nil | (apply FrzR.cons; rfl; (repeat (first | exact .hit | exact .nil | (apply PutR.miss; rfl)))))) (hh : PutR h1' n (.pu te (l.flatMap e), false) h' := by repeat (first | exact .hit | exact .nil | (apply PutR.miss; rfl)))
    (hfl : FlR D env (.buildSlice tx len ⟨pl⟩) (.one (.own n S len)) (.n ids ids (some (n, .pu te (l.flatMap e)))) D' := by first | exact .seq | exact .drawn rfl)
    (hK : Rn X N R k ops D' rest ⟨(d, .one (.own n S len)) :: env, h', n + 1⟩) : Rn X N R k ops D (⟨some d, .buildSlice tx len ⟨pl⟩, ty, ps, af, none⟩ :: rest) ⟨env, h, n⟩ :=
  Rn.step (ef := .n ids ids (some (n, .pu te (l.flatMap e)))) (n' := n + 1) ⟨hn, lt1k hk1⟩ (fun K hK => by
    simp only [evOp, evBSl, hT.h, hE.h]
    exact ⟨by rw [zc_eq]; exact hz, hzs, Nat.le_of_ble_eq_true h0, Nat.le_of_ble_eq_true hb, by simpa using hpl, hn, hv _ hK⟩) hfl (by simp only [AS.fin, upd, putO, putE, hf.eq, hh.eq]; exact hK)
/-- The parts, told one by one. -/
inductive PtR {α : Type} (e : α → List PV) (h : Hp) (env : List (Nat × AV)) (S : Nat) : Nat → List (Nat × Operand) → List α → List Nat → Prop
  | nil {k : Nat} : PtR e h env S k [] [] []
  | one {k : Nat} {x : Operand} {v : AV} {p : PV} {a : α} {i j : List Nat} {pl : List (Nat × Operand)} {l : List α} (hx : EvR env x v) (hv : VA h v (.one p) i) (ha : e a = [p]) (hS : S = 1) (hr : PtR e h env S (k + 1) pl l j) : PtR e h env S k ((k, x) :: pl) (a :: l) (i ++ j)
  | agg {k : Nat} {x : Operand} {v : AV} {ps : List PV} {a : α} {i j : List Nat} {pl : List (Nat × Operand)} {l : List α} (hx : EvR env x v) (hv : VA h v (.agg ps) i) (ha : e a = ps) (hS : ps.length = S) (hr : PtR e h env S (k + 1) pl l j) : PtR e h env S k ((k, x) :: pl) (a :: l) (i ++ j)
theorem PtR.view {α : Type} {e : α → List PV} {S : Nat} {j : Nat} {pl : List (Nat × Operand)} {l : List α} {ids : List Nat} (r : PtR e h env S j pl l ids) : ∀ K : List PV → List Nat → Prop, K (l.flatMap e) ids → viewParts h S j (pl.map fun p => (p.1, evE env p.2)) K := by
  induction r with
  | nil => exact fun K hK => hK
  | one hx hv ha hS _ ih =>
    intro K hK
    simp only [List.map_cons, viewParts, hx.h, viewX]
    refine ⟨trivial, hv.h _ ⟨hS.symm, ih _ ?_⟩⟩
    rw [List.flatMap_cons, ha] at hK
    exact hK
  | agg hx hv ha hS _ ih =>
    intro K hK
    simp only [List.map_cons, viewParts, hx.h, viewX]
    refine ⟨trivial, hv.h _ ⟨hS, ih _ ?_⟩⟩
    rw [List.flatMap_cons, ha] at hK
    exact hK
theorem R_bsl {α : Type} (e : α → List PV) {l : List α} {pl : List (Nat × Operand)} {te : TypeId} {u : TypeDesc} {S B s b len : Nat} {zz : Option Value} {zl : Value} {ids : List Nat} {h1' : Hp} [hT : TInf X tx ⟨.slice te, s, b, zz⟩] [hE : TInf X te ⟨u, S, B, some zl⟩]
    (hv : PtR e h env S 0 pl l ids := by repeat (first | exact .nil | (apply PtR.one; (first | exact .tmp rfl | exact .of rfl); (first | exact VA.one (.pv rfl) | exact VA.one .nil | exact VA.one (.own rfl (fun _ => rfl) (by first | rfl | omega | (simp only [List.length_set, List.length_append, List.length_cons, List.length_nil, List.length_take, List.length_drop, List.length_replicate, List.length_map, List.length_reverse] <;> omega) | simp))); rfl; rfl) | (apply PtR.agg; (first | exact .tmp rfl | exact .of rfl | exact .ci rfl); (apply VA.agg; repeat (first | exact VL.nil | exact VL.pvs rfl | apply VL.cons | exact VC.pv rfl | exact VC.nil | exact VC.own rfl (fun _ => rfl) (by first | rfl | omega | (simp only [List.length_set, List.length_append, List.length_cons, List.length_nil, List.length_take, List.length_drop, List.length_replicate, List.length_map, List.length_reverse] <;> omega) | simp))); rfl; rfl)))
    (hz : (zc zl).isSome = true := by rfl) (hzs : zl.cells.size = S := by rfl) (h0 : Nat.ble 1 S = true := by rfl) (hb : Nat.ble (len * S) 16777216 = true := by rfl) (hpl : pl.length = len := by rfl) (hn : look h n = none := by rfl) (hk1 : Nat.blt n 1000 = true := by rfl)
    (hf : FrzR h ids h1' := by repeat (first | exact FrzR.nil | (apply FrzR.cons; rfl; (repeat (first | exact .hit | exact .nil | (apply PutR.miss; rfl)))))) (hh : PutR h1' n (.pu te (l.flatMap e), false) h' := by repeat (first | exact .hit | exact .nil | (apply PutR.miss; rfl)))
    (hfl : FlR D env (.buildSlice tx len ⟨pl⟩) (.one (.own n S len)) (.n ids ids (some (n, .pu te (l.flatMap e)))) D' := by first | exact .seq | exact .drawn rfl)
    (hK : Rn X N R k ops D' rest ⟨(d, .one (.own n S len)) :: env, h', n + 1⟩) : Rn X N R k ops D (⟨some d, .buildSlice tx len ⟨pl⟩, ty, ps, af, none⟩ :: rest) ⟨env, h, n⟩ :=
  R_bslG hz hzs h0 hb hpl hn hk1 hv.view hf hh hfl hK
end
end Go.VL



namespace Go.VL
open Go.RowKit
set_option linter.unusedVariables false
/-! ### Out of a walk -/
theorem HRel.sub {X : Ctx} {F : Fr} {h h1 : Hp} {β : Bt} {w : World} (r : HRel X F h β w) (hl : ∀ id b, look h1 id = some b → look h id = some b) (hw : ∀ id bx z, look h1 id = some (bx, z) → ∀ i ∈ acRefs bx.cells, (look h1 i).isSome = true) :
    HRel X F h1 β w ∧ (∀ b, F.ok w h β b → F.ok w h1 β b) := by
  have hok : ∀ b, F.ok w h β b → F.ok w h1 β b := fun b hb => ⟨hb.1, hb.2.1, fun id bx h => hb.2.2 id bx (hl id _ h)⟩
  have k : Keeps (fun _ => True) w (F.ok w h β) β w (F.ok w h1 β) β := ⟨fun b hb => ⟨hok b hb, rfl⟩, fun _ _ => ⟨rfl, fun _ _ => rfl⟩⟩
  exact ⟨⟨r.below, r.g, fun id bx z h => (r.box id bx z (hl id _ h)).keeps k rfl (fun _ _ => rfl) (fun _ _ => trivial), fun i i' e1 e2 g hne h1 h2 => r.inj i i' e1 e2 g hne (hl i _ h1) (hl i' _ h2), hw, r.pin.sub fun i e h => ⟨e, hl i e h⟩⟩, hok⟩
/-- A result, as it is told to the caller: as it is, or read whole. -/
inductive RZ (h h1 : Hp) : AV → AV → Prop
  | same {v : AV} : RZ h h1 v v
  | view {v : AV} {p : PA} {ids : List Nat} (hv : ∀ K : PA → List Nat → Prop, K p ids → viewA h v K) (hn : ∀ id ∈ ids, look h1 id = none) : RZ h h1 v p.av
inductive RZs (h h1 : Hp) : List AV → List AV → Prop
  | nil : RZs h h1 [] []
  | cons {v z : AV} {vs zs : List AV} (hz : RZ h h1 v z) (hs : RZs h h1 vs zs) : RZs h h1 (v :: vs) (z :: zs)
def elV : AV → Option (Bool × List AC)
  | .one c => some (false, [c])
  | .agg cs => some (true, cs)
  | _ => none
def elVs : List AV → Option (List (Bool × List AC))
  | [] => some []
  | z :: zs => match elV z, elVs zs with | some x, some xs => some (x :: xs) | _, _ => none
def tupV : List AV → Option AV
  | [z] => some z
  | zs => (elVs zs).map .tup
def retS (X : Ctx) (rs : List ResultVar) (y : AV) (h1 : Hp) (σ : AS) : Prop :=
  leH σ.heap h1 ∧ wfH h1 h1 = true ∧ refsIn h1 y.refs = true ∧ resAVs X σ rs fun vs => ∃ zs, RZs σ.heap h1 vs zs ∧ tupV zs = some y
theorem RZs.len {h h1 : Hp} {vs zs : List AV} (r : RZs h h1 vs zs) : zs.length = vs.length := by
  induction r with
  | nil => rfl
  | cons _ _ ih => simp [ih]
theorem RZs.get {h h1 : Hp} {vs zs : List AV} (r : RZs h h1 vs zs) : ∀ (j : Nat) z, zs[j]? = some z → ∃ v, vs[j]? = some v ∧ RZ h h1 v z := by
  induction r with
  | nil => intro j z hj; simp at hj
  | cons hz _ ih =>
    intro j z hj
    cases j with
    | zero => simp only [List.getElem?_cons_zero, Option.some.injEq] at hj; subst hj; exact ⟨_, rfl, hz⟩
    | succ j => exact ih j z (by simpa using hj)
theorem elVs_get : ∀ {zs : List AV} {xs : List (Bool × List AC)}, elVs zs = some xs → xs.length = zs.length ∧ ∀ (j : Nat) x, xs[j]? = some x → ∃ z, zs[j]? = some z ∧ elV z = some x
  | [], xs, h => by simp only [elVs, Option.some.injEq] at h; subst h; exact ⟨rfl, fun j x hj => by simp at hj⟩
  | z :: zs, xs, h => by
    simp only [elVs] at h
    split at h
    · rename_i x xs' hx hxs
      simp only [Option.some.injEq] at h
      subst h
      obtain ⟨h1, h2⟩ := elVs_get hxs
      refine ⟨by simp [h1], fun j y hj => ?_⟩
      cases j with
      | zero => simp only [List.getElem?_cons_zero, Option.some.injEq] at hj; subst hj; exact ⟨z, rfl, hx⟩
      | succ j => exact h2 j y (by simpa using hj)
    · cases h
theorem elV_rep {w : World} {ok : Nat → Prop} {β : Bt} {z : AV} {x : Bool × List AC} {u : Value} (h : elV z = some x) (r : RepV w ok β z u) : RepE w ok β x u := by
  cases z with
  | one c => simp only [elV, Option.some.injEq] at h; subst h; exact ⟨c, rfl, r⟩
  | agg cs => simp only [elV, Option.some.injEq] at h; subst h; exact r
  | tup xs => cases h
  | bot => cases h
theorem RZ.rep {X : Ctx} {F : Fr} {h h1 : Hp} {β : Bt} {w : World} (r : HRel X F h β w) (hl : ∀ id b, look h1 id = some b → look h id = some b) (hok : ∀ b, F.ok w h β b → F.ok w h1 β b) {v z : AV} {u : Value} (hz : RZ h h1 v z) (hv : RepV w (F.ok w h β) β v u) (hrf : ∀ i ∈ v.refs, (look h i).isSome = true) :
    RepV w (F.ok w h1 β) β z u := by
  cases hz with
  | same =>
    have k : Keeps (fun _ => True) w (F.ok w h β) β w (F.ok w h1 β) β := ⟨fun b hb => ⟨hok b hb, rfl⟩, fun _ _ => ⟨rfl, fun _ _ => rfl⟩⟩
    exact k.repV (fun _ _ => trivial) hv
  | @view p ids hvw hn =>
    obtain ⟨p', ids', ⟨rfl, rfl⟩, hids, hp⟩ := viewA_sound r.wf (hvw (fun p' ids' => p' = p ∧ ids' = ids) ⟨rfl, rfl⟩) hrf
    have hw : Wide X F h β w ids' (F.ok w h1 β) := ⟨r, hok, fun id hid g hg => by
      obtain ⟨e, he⟩ := Option.isSome_iff_exists.1 (hids id hid)
      have hlt := r.lt he hg
      exact ⟨hlt.1, fun h => .inr (hlt.2.resolve_left (by omega)), fun i bx hi hgi => by
        by_cases hii : i = id
        · subst hii; rw [hn i hid] at hi; cases hi
        · exact r.inj i id _ _ g hii (hl i _ hi) he hgi hg⟩⟩
    exact PA.repV_β (hp h (fun _ _ => rfl) X F β w _ u hw hv)
theorem retS_sound {X : Ctx} {F : Fr} {N : Nat} {σ : AS} {a : Act} {w : World} {y : AV} {h1 : Hp} {fn : Func} (r : RelS X F N σ a w) (h : retS X fn.results.toList y h1 σ) :
    ∃ u β, (results fn a.tmps).run X.P w = .ok u w ∧ HRel X F h1 β w ∧ RepV w (F.ok w h1 β) β y u ∧ ∀ i ∈ y.refs, (look h1 i).isSome = true := by
  obtain ⟨β, r⟩ := r
  obtain ⟨hle, hwf, hrf, hres⟩ := h
  obtain ⟨vs, us, ⟨zs, hz, hy⟩, hrun, hl, hl2, hvr, hrep⟩ := resAVs_sound r hres
  have hsub : ∀ id b, look h1 id = some b → look σ.heap id = some b := fun id b h => leH_spec hle id b (look_mem h)
  obtain ⟨r1, hok⟩ := r.h.sub hsub fun id bx z h => wfH_spec hwf id bx z (look_mem h)
  have key : ∀ (j : Nat) z, zs[j]? = some z → ∃ u, us[j]? = some u ∧ RepV w (F.ok w h1 β) β z u := fun j z hj => by
    obtain ⟨v, hv, hvz⟩ := hz.get j z hj
    obtain ⟨u, hu, hr⟩ := hrep j v hv
    exact ⟨u, hu, hvz.rep r.h hsub hok hr (hvr v (List.mem_of_getElem? hv))⟩
  have hlen : us.length = zs.length := by rw [hz.len, hl]
  have hresr : (results fn a.tmps).run X.P w = .ok (if h : us.toArray.size = 1 then us.toArray[0] else .tuple us.toArray) w := by
    unfold results
    have e : fn.results = fn.results.toList.toArray := by simp
    rw [Sem.run_bind, e, List.mapM_toArray, Sem.run_map]
    have key2 : ∀ r : Result (List Value), r = .ok us w → (Result.andThen (Result.andThen r fun a w' => Result.ok a.toArray w') fun a w' => Sem.run X.P (pure (if h : a.size = 1 then a[0] else Value.tuple a)) w') = .ok (if h : us.toArray.size = 1 then us.toArray[0] else .tuple us.toArray) w := by rintro _ rfl; rfl
    exact key2 _ hrun
  refine ⟨_, β, hresr, r1, ?_, fun i hi => List.all_eq_true.1 hrf i hi⟩
  unfold tupV at hy
  split at hy
  · rename_i z
    simp only [Option.some.injEq] at hy
    subst hy
    obtain ⟨u, hu, hr⟩ := key 0 z rfl
    have hs : us.toArray.size = 1 := by rw [List.size_toArray, hlen]; rfl
    rw [dif_pos hs]
    have : us.toArray[0] = u := by
      have := (List.getElem?_eq_some_iff.1 hu).2
      simpa using this
    rw [this]; exact hr
  · rename_i hne
    cases hel : elVs zs with
    | none => rw [hel] at hy; cases hy
    | some xs =>
      rw [hel] at hy
      simp only [Option.map_some, Option.some.injEq] at hy
      subst hy
      obtain ⟨h1', h2⟩ := elVs_get hel
      have hs : ¬ us.toArray.size = 1 := by
        rw [List.size_toArray, hlen]
        intro h1
        obtain ⟨p, hp⟩ := List.length_eq_one_iff.1 h1
        exact hne p hp
      rw [dif_neg hs]
      refine ⟨us.toArray, rfl, by simp [hlen, h1'], fun j x hj => ?_⟩
      obtain ⟨z, hz', he⟩ := h2 j x hj
      obtain ⟨u, hu, hr⟩ := key j z hz'
      exact ⟨u, by simpa using hu, elV_rep he hr⟩
def entryV : Nat → List AV → List (Nat × AV)
  | _, [] => []
  | k, x :: xs => (k, x) :: entryV (k + 1) xs
theorem look_entryV : ∀ {xs : List AV} {k t : Nat} {v : AV}, look (entryV k xs) t = some v → k ≤ t ∧ xs[t - k]? = some v
  | x :: xs, k, t, v, h => by
    simp only [entryV, look] at h
    split at h
    · rename_i e
      simp only [Option.some.injEq] at h
      subst h; subst e
      exact ⟨Nat.le_refl _, by simp⟩
    · rename_i e
      obtain ⟨h1, h2⟩ := look_entryV h
      refine ⟨by omega, ?_⟩
      rw [show t - k = (t - (k + 1)) + 1 by omega, List.getElem?_cons_succ]
      exact h2
def AC.sane : AC → Prop
  | .pv p => p.sane
  | _ => True
def AV.sane : AV → Prop
  | .one c => c.sane
  | .agg cs => ∀ c, c ∈ cs → c.sane
  | _ => True
def sanesV : List AV → Prop
  | [] => True
  | x :: xs => x.sane ∧ sanesV xs
def Bx.sane : Bx → Prop
  | .pu _ l => ∀ p, p ∈ l → p.sane
  | .mx cs => ∀ c, c ∈ cs → c.sane
def sanesH : Hp → Prop
  | [] => True
  | (_, (bx, _)) :: l => bx.sane ∧ sanesH l
theorem RepC.sane {w : World} {ok : Nat → Prop} {β : Bt} {c : AC} {u : Value} (h : RepC w ok β c u) : c.sane := by
  cases c with
  | pv p => exact RepP.sane h
  | _ => trivial
theorem AV.sane_of {w : World} {ok : Nat → Prop} {β : Bt} {x : AV} {u : Value} (h : RepV w ok β x u) : x.sane := by
  cases x with
  | one c => exact RepC.sane h
  | agg cs =>
    obtain ⟨vs, rfl, hl⟩ := h
    intro c hc
    obtain ⟨j, hj⟩ := List.getElem?_of_mem hc
    obtain ⟨u, _, hr⟩ := hl.2 j c hj
    exact hr.sane
  | tup xs => trivial
  | bot => trivial
theorem sanesV_of : ∀ {xs : List AV}, (∀ x ∈ xs, x.sane) → sanesV xs
  | [], _ => trivial
  | x :: xs, h => ⟨h x (by simp), sanesV_of fun q hq => h q (by simp [hq])⟩
theorem spec_ofS {X : Ctx} {f : FuncId} {fn : Func} {c : Code} {xs : List AV} {h0 h1 : Hp} {y : AV} {nx : Nat} (hf : X.P.funcs[f]? = some fn) (hname : (fn.name == "runtime.NumGoroutine") = false) (hb : fn.body = some c) (hok : codeOk fn.ntmps c = true) (hn : xs.length ≤ fn.ntmps) (hrf : (xs.all fun x => refsIn h0 x.refs) = true)
    (h : sanesV xs → (∀ id bx z, look h0 id = some (bx, z) → bx.sane) → ∀ R, (∀ σ, retS X fn.results.toList y h1 σ → R σ) → wpc X fn.ntmps c ⟨entryV 0 xs, h0, nx⟩ (kQ X fn.ntmps R [])) : SpcS X f xs h0 y h1 where
  ent := ent_of hf hname hb
  calls := fun ok w vals β hG hlt d hs hv => by
    have hsane : sanesV xs := sanesV_of fun p hp => by
      obtain ⟨j, hj⟩ := List.getElem?_of_mem hp
      obtain ⟨u, _, hr⟩ := hv j p hj
      exact AV.sane_of hr
    have hsaneH : ∀ id bx z, look h0 id = some (bx, z) → bx.sane := fun id bx z hl => by
      have hb := d.box id bx z hl
      unfold BoxRep at hb
      have key : ∀ c ∈ bx.cells, c.sane := fun c hc => by
        cases hβ : β id with
        | none => rw [hβ] at hb; simp only at hb; rw [hb] at hc; cases hc
        | some g =>
          rw [hβ] at hb
          obtain ⟨_, arr, e, _, _, hcc⟩ := hb
          obtain ⟨j, hj⟩ := List.getElem?_of_mem hc
          obtain ⟨u, _, hr⟩ := hcc j c hj
          exact hr.sane
      cases bx with
      | pu e l => exact fun p hp => key (.pv p) (List.mem_map.2 ⟨p, hp, rfl⟩)
      | mx cs => exact key
    refine calls_of_wp hf hb ?_
    have hrel : RelS X ⟨w, ok, handed h0 β, pinOf β⟩ fn.ntmps ⟨entryV 0 xs, h0, nx⟩ { tmps := vals ++ Array.replicate (fn.ntmps - vals.size) undef, defers := [] } w := by
      refine ⟨β, d.rel hG hlt, rfl, by simp; omega, fun t v hl => ?_⟩
      obtain ⟨_, hp⟩ := look_entryV hl
      rw [Nat.sub_zero] at hp
      obtain ⟨u, hu, hr⟩ := hv t v hp
      refine ⟨⟨u, ?_, ?_⟩, fun id hid => List.all_eq_true.1 (List.all_eq_true.1 hrf v (List.mem_of_getElem? hp)) id hid⟩
      · rw [Array.getElem?_append, if_pos (Array.getElem?_eq_some_iff.1 hu).1]; exact hu
      · have k : Keeps (fun _ => True) w ok β w (Fr.ok ⟨w, ok, handed h0 β, pinOf β⟩ w h0 β) β := ⟨fun b hb => ⟨d.okOf hlt b hb, rfl⟩, fun _ _ => ⟨rfl, fun _ _ => rfl⟩⟩
        exact k.repV (fun _ _ => trivial) hr
    refine wp_mono (wpc_sound hok (h hsane hsaneH _ fun σ hσ => hσ) _ _ _ hrel) fun e a' w' ⟨σ', hq, hr⟩ => ?_
    have fin : retS X fn.results.toList y h1 σ' → a'.defers = [] ∧ ∃ v, (results fn a'.tmps).run X.P w' = .ok v w' ∧ ∃ u β', Ending.returned v = .returned u ∧ HRel X ⟨w, ok, handed h0 β, pinOf β⟩ h1 β' w' ∧ RepV w' (Fr.ok ⟨w, ok, handed h0 β, pinOf β⟩ w' h1 β') β' y u ∧ ∀ i ∈ y.refs, (look h1 i).isSome = true := fun hp => by
      obtain ⟨u, β', k1, k2, k3, k4⟩ := retS_sound hr hp
      obtain ⟨_, hr⟩ := hr
      exact ⟨hr.defers, u, k1, u, β', rfl, k2, k3, k4⟩
    cases e with
    | normal => exact fin hq
    | ret => exact fin hq
    | exit id => exact hq.elim
    | goto l => exact hq.elim
    | panic c => exact hq.elim
    | outgrown => exact hq.elim

end Go.VL


namespace Go.VL
open Go.RowKit
set_option linter.unusedVariables false

theorem look_one {i j : Nat} {b : Bx × Bool} : look [(j, b)] i = if i = j then some b else none := by simp [look]
theorem dom_nil {i : Nat} : ¬ (look ([] : Hp) i).isSome = true := by simp [look]
theorem dom_one {i j : Nat} {b : Bx × Bool} (h : (look [(j, b)] i).isSome = true) : i = j := by
  rw [look_one] at h
  by_cases e : i = j
  · exact e
  · rw [if_neg e] at h; cases h
theorem look_scrub0 (e : Option (Bx × Bool)) : e.map (fun x => (scrubM none x.1, x.2)) = e := by cases e <;> rfl
/-- One new box comes back. -/
theorem fits_new {h : Hp} {n i0 : Nat} {te : TypeId} {l : List PV} {zs : List Nat} (hn : look h n = none) (hk : n < 1000) (hi5 : i0 < 500 ∨ 1000 ≤ i0) (hz : ∀ id ∈ zs, (look h id).isSome = true) : Fits h (fun _ => n) [] [(i0, (.pu te l, false))] zs (put (frzs h zs) n (.pu te l, false)) none where
  inj := fun i j hi hj _ => by
    rcases hi with hi | hi
    · exact absurd hi dom_nil
    · rcases hj with hj | hj
      · exact absurd hj dom_nil
      · rw [dom_one hi, dom_one hj]
  wf0 := fun id bx z hl => by cases hl
  inp := fun i bx z hl => by cases hl
  frz := fun id hid => ⟨hz id hid, fun i hi => absurd hi dom_nil⟩
  new := fun i _ _ => ⟨hn, hk⟩
  mv := fun i hi => absurd hi dom_nil
  lo0 := fun i hi => absurd hi dom_nil
  lo1 := fun i hi => by rw [dom_one hi]; exact hi5
  pin := fun i hi => absurd hi dom_nil
  only := fun j hj => by cases hj
  outA := fun i bx z hl => by
    rw [look_one] at hl
    split at hl
    · simp only [Option.some.injEq, Prod.mk.injEq] at hl
      obtain ⟨rfl, rfl⟩ := hl
      rw [look_put, if_pos rfl]; rfl
    · cases hl
  outB := fun i hi => absurd hi dom_nil
  outC := fun j hj => by
    have hne : j ≠ n := fun e => hj i0 (.inr (by simp [look])) e.symm
    rw [look_put, if_neg hne, look_scrub0]
/-- One box is handed over, and stays where it is. -/
theorem fits_pin {h : Hp} {id : Nat} {te : TypeId} {l l' : List PV} {zs : List Nat} (hl : look h id = some (.pu te l, false)) (hz : ∀ i ∈ zs, (look h i).isSome = true) (hni : id ∉ zs) (hi5 : id < 500 ∨ 1000 ≤ id) : Fits h (fun _ => id) [(1000, (.pu te l, false))] [(1000, (.pu te l', false))] zs (put (frzs h zs) id (.pu te l', false)) none where
  inj := fun i j hi hj _ => by
    rw [hi.elim dom_one dom_one, hj.elim dom_one dom_one]
  wf0 := fun i bx z hl' j hj => by
    rw [look_one] at hl'
    split at hl'
    · simp only [Option.some.injEq, Prod.mk.injEq] at hl'
      obtain ⟨rfl, rfl⟩ := hl'
      rw [show (Bx.pu te l).cells = l.map .pv from rfl, acRefs_pv] at hj; cases hj
    · cases hl'
  inp := fun i bx z hl' => by
    rw [look_one] at hl'
    split at hl'
    · simp only [Option.some.injEq, Prod.mk.injEq] at hl'
      obtain ⟨rfl, rfl⟩ := hl'
      exact hl
    · cases hl'
  frz := fun i hi => ⟨hz i hi, fun _ _ e => hni (e ▸ hi)⟩
  new := fun i hi hn => by rw [dom_one hi] at hn; simp [look] at hn
  mv := fun i hi hlt => by have := dom_one hi; omega
  lo0 := fun i hi => hi5
  lo1 := fun i hi => by rw [dom_one hi]; exact .inr (Nat.le_refl _)
  pin := fun i hi _ => by rw [dom_one hi]; simp [look]
  only := fun j hj => by cases hj
  outA := fun i bx z hl' => by
    rw [look_one] at hl'
    split at hl'
    · simp only [Option.some.injEq, Prod.mk.injEq] at hl'
      obtain ⟨rfl, rfl⟩ := hl'
      rw [look_put, if_pos rfl]; rfl
    · cases hl'
  outB := fun i hi hn => by rw [dom_one hi] at hn; simp [look] at hn
  outC := fun j hj => by
    have hne : j ≠ id := fun e => hj 1000 (.inr (by simp [look])) e.symm
    rw [look_put, if_neg hne, look_scrub0]
/-- One box is handed over, and one comes back for it. -/
theorem fits_mv {h : Hp} {id : Nat} {te : TypeId} {l l' : List PV} {zs : List Nat} (hl : look h id = some (.pu te l, false)) (hz : ∀ i ∈ zs, (look h i).isSome = true) (hni : id ∉ zs) (hk : id < 500) : Fits h (fun _ => id) [(0, (.pu te l, false))] [(0, (.pu te l', false))] zs (put (scrubH id (frzs h zs)) id (.pu te l', false)) (some id) where
  inj := fun i j hi hj _ => by
    rw [hi.elim dom_one dom_one, hj.elim dom_one dom_one]
  wf0 := fun i bx z hl' j hj => by
    rw [look_one] at hl'
    split at hl'
    · simp only [Option.some.injEq, Prod.mk.injEq] at hl'
      obtain ⟨rfl, rfl⟩ := hl'
      rw [show (Bx.pu te l).cells = l.map .pv from rfl, acRefs_pv] at hj; cases hj
    · cases hl'
  inp := fun i bx z hl' => by
    rw [look_one] at hl'
    split at hl'
    · simp only [Option.some.injEq, Prod.mk.injEq] at hl'
      obtain ⟨rfl, rfl⟩ := hl'
      exact hl
    · cases hl'
  frz := fun i hi => ⟨hz i hi, fun _ _ e => hni (e ▸ hi)⟩
  new := fun i hi hn => by rw [dom_one hi] at hn; simp [look] at hn
  mv := fun i hi hlt => ⟨rfl, by omega⟩
  lo0 := fun i hi => .inl hk
  lo1 := fun i hi => by rw [dom_one hi]; exact .inl (by decide)
  pin := fun i hi hge => by have := dom_one hi; omega
  only := fun j hj => ⟨0, by simp [look], by simpa using hj⟩
  outA := fun i bx z hl' => by
    rw [look_one] at hl'
    split at hl'
    · simp only [Option.some.injEq, Prod.mk.injEq] at hl'
      obtain ⟨rfl, rfl⟩ := hl'
      rw [look_put, if_pos rfl]; rfl
    · cases hl'
  outB := fun i hi hn => by rw [dom_one hi] at hn; simp [look] at hn
  outC := fun j hj => by
    have hne : j ≠ id := fun e => hj 0 (.inr (by simp [look])) e.symm
    rw [look_put, if_neg hne, look_scrubH]
    cases look (frzs h zs) j <;> rfl
/-! ### What is viewed in one heap is viewed in another that agrees -/
theorem agree_look {h h2 : Hp} {ids : List Nat} (a : Agree h h2 ids) {id : Nat} (hid : id ∈ ids) {bx : Bx} {z : Bool} (hl : look h id = some (bx, z)) : ∃ z', look h2 id = some (bx, z') := by
  have := a id hid
  rw [hl] at this
  cases h2' : look h2 id with
  | none => rw [h2'] at this; cases this
  | some e =>
    rw [h2'] at this
    simp only [Option.map_some, Option.some.injEq] at this
    exact ⟨e.2, by rw [← this]⟩
theorem viewC1_ex {h : Hp} {c : AC} {K : PV → List Nat → Prop} (hv : viewC1 h c K) : ∃ p ids, K p ids ∧ ∀ h2, Agree h h2 ids → ∀ K' : PV → List Nat → Prop, K' p ids → viewC1 h2 c K' := by
  cases c with
  | pv p => cases p <;> exact ⟨_, _, hv, fun _ _ _ hk => hk⟩
  | own id sz n =>
    simp only [viewC1] at hv
    split at hv
    · rename_i e l z hl
      refine ⟨_, _, hv.2, fun h2 ha K' hk => ?_⟩
      obtain ⟨z', hl'⟩ := agree_look ha (List.mem_singleton.2 rfl) hl
      simp only [viewC1, hl']
      exact ⟨hv.1, hk⟩
    · exact hv.elim
  | sub id sz off n =>
    simp only [viewC1] at hv
    split at hv
    · rename_i e l z hl
      refine ⟨_, _, hv.2, fun h2 ha K' hk => ?_⟩
      obtain ⟨z', hl'⟩ := agree_look ha (List.mem_singleton.2 rfl) hl
      simp only [viewC1, hl']
      exact ⟨hv.1, hk⟩
    · exact hv.elim
  | _ => exact hv.elim
theorem Agree.left {h h2 : Hp} {i j : List Nat} (a : Agree h h2 (i ++ j)) : Agree h h2 i := fun id hid => a id (List.mem_append.2 (.inl hid))
theorem Agree.right {h h2 : Hp} {i j : List Nat} (a : Agree h h2 (i ++ j)) : Agree h h2 j := fun id hid => a id (List.mem_append.2 (.inr hid))
theorem viewL1_ex {h : Hp} : ∀ {cs : List AC} {K : List PV → List Nat → Prop}, viewL1 h cs K → ∃ ps ids, K ps ids ∧ ∀ h2, Agree h h2 ids → ∀ K' : List PV → List Nat → Prop, K' ps ids → viewL1 h2 cs K'
  | [], _, hv => ⟨_, _, hv, fun _ _ _ hk => hk⟩
  | c :: cs, _, hv => by
    obtain ⟨p, i, h1, h2⟩ := viewC1_ex (K := _) hv
    obtain ⟨ps, j, h3, h4⟩ := viewL1_ex h1
    exact ⟨_, _, h3, fun hh ha K' hk => h2 hh ha.left _ (h4 hh ha.right _ hk)⟩
theorem viewC_ex {h : Hp} {c : AC} {K : PV → List Nat → Prop} (hv : viewC h c K) : ∃ p ids, K p ids ∧ ∀ h2, Agree h h2 ids → ∀ K' : PV → List Nat → Prop, K' p ids → viewC h2 c K' := by
  cases c with
  | ptr id off =>
    simp only [viewC] at hv
    split at hv
    · rename_i e l z hl
      refine ⟨_, _, hv, fun h2 ha K' hk => ?_⟩
      obtain ⟨z', hl'⟩ := agree_look ha (List.mem_singleton.2 rfl) hl
      simp only [viewC, hl']
      exact hk
    · rename_i cs z hl
      obtain ⟨ps, j, h3, h4⟩ := viewL1_ex hv
      refine ⟨_, _, h3, fun h2 ha K' hk => ?_⟩
      obtain ⟨z', hl'⟩ := agree_look ha (by simp) hl
      simp only [viewC, hl']
      exact h4 h2 (fun id hid => ha id (List.mem_cons_of_mem _ hid)) _ hk
    · exact hv.elim
  | _ => (simp only [viewC] at hv ⊢; exact viewC1_ex hv)
theorem viewCap_ex {h : Hp} {c : Cap} {K : PV → List Nat → Prop} (hv : viewCap h c K) : ∃ p ids, K p ids ∧ ∀ h2, Agree h h2 ids → ∀ K' : PV → List Nat → Prop, K' p ids → viewCap h2 c K' := by
  cases c with
  | pv p => exact ⟨_, _, hv, fun _ _ _ hk => hk⟩
  | ptr id off => (simp only [viewCap] at hv ⊢; exact viewC_ex hv)
theorem viewCaps_ex {h : Hp} : ∀ {cs : List Cap} {K : List PV → List Nat → Prop}, viewCaps h cs K → ∃ ps ids, K ps ids ∧ ∀ h2, Agree h h2 ids → ∀ K' : List PV → List Nat → Prop, K' ps ids → viewCaps h2 cs K'
  | [], _, hv => ⟨_, _, hv, fun _ _ _ hk => hk⟩
  | c :: cs, _, hv => by
    obtain ⟨p, i, h1, h2⟩ := viewCap_ex (K := _) hv
    obtain ⟨ps, j, h3, h4⟩ := viewCaps_ex h1
    exact ⟨_, _, h3, fun hh ha K' hk => h2 hh ha.left _ (h4 hh ha.right _ hk)⟩
theorem viewA_ex {h : Hp} {x : AV} {K : PA → List Nat → Prop} (hv : viewA h x K) : ∃ p ids, K p ids ∧ ∀ h2, Agree h h2 ids → ∀ K' : PA → List Nat → Prop, K' p ids → viewA h2 x K' := by
  unfold viewA at hv ⊢
  split at hv
  · obtain ⟨ps, i, h1, h2⟩ := viewCaps_ex hv
    exact ⟨_, _, h1, fun hh ha K' hk => h2 hh ha _ hk⟩
  · obtain ⟨ps, i, h1, h2⟩ := viewC_ex hv
    exact ⟨_, _, h1, fun hh ha K' hk => h2 hh ha _ hk⟩
  · obtain ⟨ps, i, h1, h2⟩ := viewL1_ex hv
    exact ⟨_, _, h1, fun hh ha K' hk => h2 hh ha _ hk⟩
  · exact hv.elim
theorem VA.agree {h h2 : Hp} {x : AV} {p : PA} {ids : List Nat} (hv : VA h x p ids) (ha : Agree h h2 ids) : VA h2 x p ids := by
  obtain ⟨p', ids', ⟨rfl, rfl⟩, hh⟩ := viewA_ex (hv.h (fun p' ids' => p' = p ∧ ids' = ids) ⟨rfl, rfl⟩)
  exact ⟨fun K hK => hh h2 ha K hK⟩
theorem VOs.agree {h h2 : Hp} {env : List (Nat × AV)} {al : List Operand} {pas : List PA} {ids : List Nat} (r : VOs h env al pas ids) (ha : Agree h h2 ids) : VOs h2 env al pas ids := by
  induction r with
  | nil => exact .nil
  | cons hx hv _ ih => exact .cons hx (hv.agree ha.left) (ih ha.right)
/-- Operands that are read whole. -/
theorem VOs.args {h : Hp} {env : List (Nat × AV)} {al : List Operand} {pas : List PA} {ids : List Nat} (r : VOs h env al pas ids) {f : Nat → Nat} {h0 : Hp} {zs : List Nat} (hz : ∀ id ∈ ids, id ∈ zs) : ArgsR h f h0 zs (al.map (evE env)) (pas.map PA.av) := by
  induction r with
  | nil => exact .nil
  | cons hx hv _ ih =>
    rw [List.map_cons, List.map_cons, hx.h]
    exact .cons (.view hv.h fun id hid => hz id (List.mem_append.2 (.inl hid))) (ih fun id hid => hz id (List.mem_append.2 (.inr hid)))
theorem VA.dom {h : Hp} {x : AV} {p : PA} {ids : List Nat} (hv : VA h x p ids) (hwf : ∀ id bx z, look h id = some (bx, z) → ∀ i ∈ acRefs bx.cells, (look h i).isSome = true) (hc : ∀ id ∈ x.refs, (look h id).isSome = true) : ∀ id ∈ ids, (look h id).isSome = true := by
  obtain ⟨p', ids', ⟨rfl, rfl⟩, h2, _⟩ := viewA_sound hwf (hv.h (fun p' ids' => p' = p ∧ ids' = ids) ⟨rfl, rfl⟩) hc
  exact h2
section
variable {X : Ctx} {N : Nat} {R : AS → Prop} {k : List KI} {σ : AS} {ops : Array Oper} {D D' : Option (List Fl)} {rest : List Oper} {env env' : List (Nat × AV)} {h h' : Hp} {n n' : Nat} {dst : Option Tmp} {t d : Tmp} {op : Op} {ty tx t' : TypeId} {ps : String} {af : Array Edge}
theorem R_callS {fo : Operand} {al : List Operand} {tl : List TypeId} {g : FuncId} {xs : List AV} {h0 h1 : Hp} {y : AV} {f : Nat → Nat} {zs : List Nat} {m : Option Nat} (hs : SpcS X g xs h0 y h1) (hf : EvR env fo (.one (.pv (.clo g [])))) (hfit : Fits h f h0 h1 zs h' m) (ha : ArgsR h f h0 zs (al.map (evE env)) xs)
    (hfl : FlR D env (.call ⟨.value fo, ⟨al⟩, ⟨tl⟩⟩) (y.ren f) (.e h' m) D') (hK : Rn X N R k ops D' rest ((AS.mk env h n).fin dst (.e h' m) (y.ren f) n')) : Rn X N R k ops D (⟨dst, .call ⟨.value fo, ⟨al⟩, ⟨tl⟩⟩, ty, ps, af, none⟩ :: rest) ⟨env, h, n⟩ :=
  Rn.step (ef := .e h' m) (v := y.ren f) (n' := n') trivial (fun K hK => by
    simp only [evOp, hf.h]
    exact .inr (.inl ⟨_, _, _, _, ⟨g, xs, h0, h1, y, f, zs, rfl, hs, hfit, ha, rfl⟩, hK⟩)) hfl hK
theorem all_some {h : Hp} {ids : List Nat} (h1 : (ids.all fun i => (look h i).isSome) = true) : ∀ id ∈ ids, (look h id).isSome = true := fun id hid => List.all_eq_true.1 h1 id hid
theorem lowb {n : Nat} (h : (Nat.blt n 500 || Nat.ble 1000 n) = true) : n < 500 ∨ 1000 ≤ n := by simpa using h
theorem not_mem {ids : List Nat} {id : Nat} (h1 : ids.contains id = false) : id ∉ ids := by simpa using h1
/-- A call that makes a slice. -/
theorem R_callN {fo : Operand} {al : List Operand} {tl : List TypeId} {g : FuncId} {xs : List AV} {pas : List PA} {ids : List Nat} {α : Type} {e : α → List PV} {l : List α} {te : TypeId} {i0 S q : Nat} {h1' : Hp} (hs : SpcS X g xs [] (.one (.own i0 S q)) [(i0, (.pu te (l.flatMap e), false))]) (hf : EvR env fo (.one (.pv (.clo g []))) := by first | exact .fn | exact ⟨rfl⟩)
    (hv : VOs h env al pas ids := by repeat (first | exact .nil | (apply VOs.cons; first | exact .tmp rfl | exact .ci rfl | exact .cb | exact .cs rfl | exact .of rfl | exact .fn | (apply EvR.cagg; repeat (first | exact OfL.nil | apply OfL.int | apply OfL.bool | apply OfL.str | apply OfL.nilS | (apply OfL.other; rfl; rfl)))) | exact VA.one (.pv rfl) | exact VA.one .nil | exact VA.one (.own rfl (fun _ => rfl) (by first | rfl | omega | (simp only [List.length_set, List.length_append, List.length_cons, List.length_nil, List.length_take, List.length_drop, List.length_replicate, List.length_map, List.length_reverse] <;> omega) | simp)) | exact VA.one (.ownTake rfl (fun _ => rfl) (by first | omega | simp)) | apply VA.agg | exact VL.nil | exact VL.pvs rfl | apply VL.cons | exact VC.pv rfl | exact VC.nil | exact VC.own rfl (fun _ => rfl) (by first | rfl | omega | (simp only [List.length_set, List.length_append, List.length_cons, List.length_nil, List.length_take, List.length_drop, List.length_replicate, List.length_map, List.length_reverse] <;> omega) | simp))) (hx : pas.map PA.av = xs := by exact rfl) (hn : look h n = none := by rfl) (hk1 : Nat.blt n 1000 = true := by rfl) (hi5 : (Nat.blt i0 500 || Nat.ble 1000 i0) = true := by rfl) (hz : (ids.all fun i => (look h i).isSome) = true := by rfl) (hh : FrzR h ids h1' := by repeat (first | exact FrzR.nil | (apply FrzR.cons; rfl; (repeat (first | exact .hit | exact .nil | (apply PutR.miss; rfl)))))) (hp : PutR h1' n (.pu te (l.flatMap e), false) h' := by repeat (first | exact .hit | exact .nil | (apply PutR.miss; rfl)))
    (hfl : FlR D env (.call ⟨.value fo, ⟨al⟩, ⟨tl⟩⟩) (.one (.own n S q)) (.n ids ids (some (n, .pu te (l.flatMap e)))) D' := by first | exact .seq | exact .drawn rfl) (hK : Rn X N R k ops D' rest ⟨(d, .one (.own n S q)) :: env, h', n + 1⟩) : Rn X N R k ops D (⟨some d, .call ⟨.value fo, ⟨al⟩, ⟨tl⟩⟩, ty, ps, af, none⟩ :: rest) ⟨env, h, n⟩ :=
  Rn.step (ef := .n ids ids (some (n, .pu te (l.flatMap e)))) (v := .one (.own n S q)) (n' := n + 1) ⟨hn, lt1k hk1⟩ (fun K hK => by
    simp only [evOp, hf.h]
    exact .inr (.inr ⟨_, ids, n, .pu te (l.flatMap e), ⟨g, xs, _, _, fun _ => n, rfl, hs, fun h2 ha hn2 => ⟨fits_new hn2 (lt1k hk1) (lowb hi5) (fun id hid => agree_isSome ha hid (all_some hz id hid)), by rw [← hx]; exact (hv.agree ha).args fun id hid => hid⟩, rfl⟩, hK⟩)) hfl (by simp only [AS.fin, upd, putO, putE, hp.eq, hh.eq]; exact hK)
/-- A call that writes into a slice that stays the caller's. -/
theorem R_callM {fo a0 : Operand} {al : List Operand} {tl : List TypeId} {g : FuncId} {xs : List AV} {pas : List PA} {ids : List Nat} {te : TypeId} {id S q : Nat} {c c' : List PV} {y v : AV} {h1' : Hp} (hs : SpcS X g (.one (.own 1000 S q) :: xs) [(1000, (.pu te c, false))] y [(1000, (.pu te c', false))]) (hf : EvR env fo (.one (.pv (.clo g []))) := by first | exact .fn | exact ⟨rfl⟩)
    (h0 : EvR env a0 (.one (.own id S q)) := by exact ⟨rfl⟩) (hlk : look h id = some (.pu te c, false) := by rfl) (hv : VOs h env al pas ids := by repeat (first | exact .nil | (apply VOs.cons; first | exact .tmp rfl | exact .ci rfl | exact .cb | exact .cs rfl | exact .of rfl | exact .fn | (apply EvR.cagg; repeat (first | exact OfL.nil | apply OfL.int | apply OfL.bool | apply OfL.str | apply OfL.nilS | (apply OfL.other; rfl; rfl)))) | exact VA.one (.pv rfl) | exact VA.one .nil | exact VA.one (.own rfl (fun _ => rfl) (by first | rfl | omega | (simp only [List.length_set, List.length_append, List.length_cons, List.length_nil, List.length_take, List.length_drop, List.length_replicate, List.length_map, List.length_reverse] <;> omega) | simp)) | exact VA.one (.ownTake rfl (fun _ => rfl) (by first | omega | simp)) | apply VA.agg | exact VL.nil | exact VL.pvs rfl | apply VL.cons | exact VC.pv rfl | exact VC.nil | exact VC.own rfl (fun _ => rfl) (by first | rfl | omega | (simp only [List.length_set, List.length_append, List.length_cons, List.length_nil, List.length_take, List.length_drop, List.length_replicate, List.length_map, List.length_reverse] <;> omega) | simp))) (hx : pas.map PA.av = xs := by exact rfl) (hz : (ids.all fun i => (look h i).isSome) = true := by rfl) (hni : ids.contains id = false := by rfl) (hi5 : (Nat.blt id 500 || Nat.ble 1000 id) = true := by rfl) (hh : FrzR h ids h1' := by repeat (first | exact FrzR.nil | (apply FrzR.cons; rfl; (repeat (first | exact .hit | exact .nil | (apply PutR.miss; rfl)))))) (hp : PutR h1' id (.pu te c', false) h' := by repeat (first | exact .hit | exact .nil | (apply PutR.miss; rfl))) (hy : y.ren (fun _ => id) = v := by exact rfl)
    (hfl : FlR D env (.call ⟨.value fo, ⟨a0 :: al⟩, ⟨tl⟩⟩) v (.e h' none) D' := by first | exact .seq | exact .drawn rfl) (hK : Rn X N R k ops D' rest ⟨putO env dst v, h', n⟩) : Rn X N R k ops D (⟨dst, .call ⟨.value fo, ⟨a0 :: al⟩, ⟨tl⟩⟩, ty, ps, af, none⟩ :: rest) ⟨env, h, n⟩ :=
  R_callS (f := fun _ => id) (n' := n) (zs := ids) (h' := h') (m := none) hs hf (by rw [← hp.eq, ← hh.eq]; exact fits_pin hlk (all_some hz) (not_mem hni) (lowb hi5)) (by
    rw [List.map_cons, h0.h, ← hx]
    exact .cons (.own (x := .one (.own 1000 S q)) (fun e => by cases e) (fun i hi => by simp only [AV.refs, AC.refs, List.mem_singleton] at hi; subst hi; simp [look])) (hv.args fun id hid => hid)) (by rw [hy]; exact hfl) (by rw [hy]; exact hK)
/-- A call that takes a slice and hands one back for it. -/
theorem R_callC {fo a0 : Operand} {al : List Operand} {tl : List TypeId} {g : FuncId} {xs : List AV} {pas : List PA} {ids : List Nat} {α : Type} {e : α → List PV} {l' : List α} {te : TypeId} {id S q q' : Nat} {c : List PV} {h1' h2' : Hp} (hs : SpcS X g (.one (.own 0 S q) :: xs) [(0, (.pu te c, false))] (.one (.own 0 S q')) [(0, (.pu te (l'.flatMap e), false))]) (hf : EvR env fo (.one (.pv (.clo g []))) := by first | exact .fn | exact ⟨rfl⟩)
    (h0 : EvR env a0 (.one (.own id S q)) := by exact ⟨rfl⟩) (hlk : look h id = some (.pu te c, false) := by rfl) (hk1 : Nat.blt id 500 = true := by rfl) (hv : VOs h env al pas ids := by repeat (first | exact .nil | (apply VOs.cons; first | exact .tmp rfl | exact .ci rfl | exact .cb | exact .cs rfl | exact .of rfl | exact .fn | (apply EvR.cagg; repeat (first | exact OfL.nil | apply OfL.int | apply OfL.bool | apply OfL.str | apply OfL.nilS | (apply OfL.other; rfl; rfl)))) | exact VA.one (.pv rfl) | exact VA.one .nil | exact VA.one (.own rfl (fun _ => rfl) (by first | rfl | omega | (simp only [List.length_set, List.length_append, List.length_cons, List.length_nil, List.length_take, List.length_drop, List.length_replicate, List.length_map, List.length_reverse] <;> omega) | simp)) | exact VA.one (.ownTake rfl (fun _ => rfl) (by first | omega | simp)) | apply VA.agg | exact VL.nil | exact VL.pvs rfl | apply VL.cons | exact VC.pv rfl | exact VC.nil | exact VC.own rfl (fun _ => rfl) (by first | rfl | omega | (simp only [List.length_set, List.length_append, List.length_cons, List.length_nil, List.length_take, List.length_drop, List.length_replicate, List.length_map, List.length_reverse] <;> omega) | simp))) (hx : pas.map PA.av = xs := by exact rfl) (hz : (ids.all fun i => (look h i).isSome) = true := by rfl) (hni : ids.contains id = false := by rfl) (hh : FrzR h ids h1' := by repeat (first | exact FrzR.nil | (apply FrzR.cons; rfl; (repeat (first | exact .hit | exact .nil | (apply PutR.miss; rfl)))))) (hsc : scrubH id h1' = h2' := by exact rfl) (hp : PutR h2' id (.pu te (l'.flatMap e), false) h' := by repeat (first | exact .hit | exact .nil | (apply PutR.miss; rfl))) (henv : scrubEnv id env = env' := by exact Eq.refl _)
    (hfl : FlR D env (.call ⟨.value fo, ⟨a0 :: al⟩, ⟨tl⟩⟩) (.one (.own id S q')) (.e h' (some id)) D' := by first | exact .seq | exact .drawn rfl) (hK : Rn X N R k ops D' rest ⟨(d, .one (.own id S q')) :: env', h', n⟩) : Rn X N R k ops D (⟨some d, .call ⟨.value fo, ⟨a0 :: al⟩, ⟨tl⟩⟩, ty, ps, af, none⟩ :: rest) ⟨env, h, n⟩ :=
  R_callS (f := fun _ => id) (n' := n) hs hf (by rw [← hp.eq, ← hsc, ← hh.eq]; exact fits_mv hlk (all_some hz) (not_mem hni) (lt5h hk1)) (by
    rw [List.map_cons, h0.h, ← hx]
    exact .cons (.own (x := .one (.own 0 S q)) (fun e => by cases e) (fun i hi => by simp only [AV.refs, AC.refs, List.mem_singleton] at hi; subst hi; simp [look])) (hv.args fun id hid => hid)) hfl (by simp only [AS.fin, putO, putE, henv]; exact hK)

/-! ### Out of a walk -/
theorem SpcS.start {X : Ctx} {f : FuncId} {fn : Func} {c : Code} {xs : List AV} {h0 h1 : Hp} {y : AV} (nx : Nat) (hf : X.P.funcs[f]? = some fn) (hb : fn.body = some c) (hname : (fn.name == "runtime.NumGoroutine") = false := by rfl) (hok : codeOk fn.ntmps c = true := by kernel_rfl) (hn : Nat.ble xs.length fn.ntmps = true := by rfl) (hrf : (xs.all fun x => refsIn h0 x.refs) = true := by rfl)
    (h : sanesV xs → (∀ id bx z, look h0 id = some (bx, z) → bx.sane) → ∀ R, (∀ σ, retS X fn.results.toList y h1 σ → R σ) → Wp X fn.ntmps R [] c ⟨entryV 0 xs, h0, nx⟩) : SpcS X f xs h0 y h1 := spec_ofS hf hname hb hok (Nat.le_of_ble_eq_true hn) hrf fun hs hs2 R hR => (h hs hs2 R hR).h
theorem retS0 {rs : List ResultVar} {h1 : Hp} {y : AV} (hrs : rs = [] := by exact rfl) (hy : y = .tup [] := by rfl) (hle : leH h h1) (hw : wfH h1 h1 = true := by rfl) (hrf : refsIn h1 y.refs = true := by rfl) : retS X rs y h1 ⟨env, h, n⟩ := by
  subst hrs; subst hy
  exact ⟨hle, hw, hrf, [], .nil, rfl⟩
theorem retS1 {rs : List ResultVar} {r1 : ResultVar} {v1 y : AV} {h1 : Hp} (hrs : rs = [r1] := by exact rfl) (hr1 : RvR X ⟨env, h, n⟩ r1 v1 := by first | exact .tmp (by first | exact .tmp rfl | exact .of rfl) | exact .cell ⟨rfl⟩ rfl inferInstance rfl rfl) (hy : v1 = y) (hle : leH h h1) (hw : wfH h1 h1 = true := by rfl) (hrf : refsIn h1 y.refs = true := by rfl) : retS X rs y h1 ⟨env, h, n⟩ := by
  subst hrs; subst hy
  refine ⟨hle, hw, hrf, ?_⟩
  simp only [resAVs]
  exact hr1.res _ ⟨[v1], .cons .same .nil, rfl⟩
end
end Go.VL


namespace Go.VL
open Go.RowKit
set_option linter.unusedVariables false

def noneIn (h1 : Hp) : List Nat → Bool
  | [] => true
  | id :: l => (look h1 id).isNone && noneIn h1 l
theorem noneIn_spec {h1 : Hp} : ∀ {l : List Nat}, noneIn h1 l = true → ∀ id ∈ l, look h1 id = none
  | x :: l, h, id, hm => by
    simp only [noneIn, Bool.and_eq_true] at h
    rcases List.mem_cons.1 hm with rfl | hm
    · simpa using h.1
    · exact noneIn_spec h.2 id hm
/-- A value known less: or read whole, its boxes being forgotten. -/
inductive AvV (h h1 : Hp) : AV → AV → Prop
  | same {v z : AV} (hl : avLe v z) : AvV h h1 v z
  | view {v z : AV} {p : PA} {ids : List Nat} (hv : VA h v p ids) (hn : noneIn h1 ids = true) (hz : p.av = z) : AvV h h1 v z
def leEV (h h1 : Hp) (e : List (Nat × AV)) : List (Nat × AV) → Prop
  | [] => True
  | (t, v) :: l => (∃ v0, look e t = some v0 ∧ AvV h h1 v0 v) ∧ leEV h h1 e l
theorem leEV_spec {h h1 : Hp} {e : List (Nat × AV)} : ∀ {l : List (Nat × AV)}, leEV h h1 e l → ∀ t v, (t, v) ∈ l → ∃ v0, look e t = some v0 ∧ AvV h h1 v0 v
  | (t', v') :: l, hh, t, v, hm => by
    rcases List.mem_cons.1 hm with hm | hm
    · cases hm; exact hh.1
    · exact leEV_spec hh.2 t v hm
theorem AvV.rep {X : Ctx} {F : Fr} {h h1 : Hp} {β : Bt} {w : World} (r : HRel X F h β w) (hl : ∀ id b, look h1 id = some b → look h id = some b) (hok : ∀ b, F.ok w h β b → F.ok w h1 β b) {v z : AV} {u : Value} (hz : AvV h h1 v z) (hv : RepV w (F.ok w h β) β v u) (hrf : ∀ i ∈ v.refs, (look h i).isSome = true) :
    RepV w (F.ok w h1 β) β z u := by
  cases hz with
  | same hle =>
    have k : Keeps (fun _ => True) w (F.ok w h β) β w (F.ok w h1 β) β := ⟨fun b hb => ⟨hok b hb, rfl⟩, fun _ _ => ⟨rfl, fun _ _ => rfl⟩⟩
    exact k.repV (fun _ _ => trivial) (avLe_rep hle hv)
  | view hvw hn hz =>
    subst hz
    exact RZ.rep r hl hok (.view hvw.h (noneIn_spec hn)) hv hrf
theorem le_ofV {X : Ctx} {N : Nat} {σ τ : AS} (he : leEV σ.heap τ.heap σ.env τ.env) (hh : leH σ.heap τ.heap) (hw : wfE τ.heap τ.env = true) (hw2 : wfH τ.heap τ.heap = true) : σ.Le X N τ := fun F a w ⟨β, r⟩ => by
  have hl : ∀ id b, look τ.heap id = some b → look σ.heap id = some b := fun id b h => leH_spec hh id b (look_mem h)
  obtain ⟨r1, hok⟩ := r.h.sub hl fun id bx z h => wfH_spec hw2 id bx z (look_mem h)
  refine ⟨β, r1, r.defers, r.size, fun t v h => ?_⟩
  have hm := look_mem h
  obtain ⟨v0, h0, hle⟩ := leEV_spec he t v hm
  obtain ⟨⟨u, hu, hr⟩, hrf⟩ := r.env t v0 h0
  exact ⟨⟨u, hu, hle.rep r.h hl hok hr hrf⟩, wfE_spec hw t v hm⟩
theorem AvV.slc {h h1 : Hp} {α : Type} {e : α → List PV} {l l' : List α} {id S n : Nat} {te : TypeId} {z : Bool} (hl : look h id = some (.pu te (l.flatMap e), z) := by rfl) (hS : ∀ x, (e x).length = S := by exact fun _ => rfl) (hn : n = l.length := by first | rfl | omega) (hi : look h1 id = none := by rfl) (hll : l = l' := by rfl) :
    AvV h h1 (.one (.own id S n)) (vP (slc e l')) := by
  subst hll
  exact .view (VA.one (.own hl hS hn)) (by simp [noneIn, hi]) rfl
theorem le_autoV {X : Ctx} {N : Nat} {env env' : List (Nat × AV)} {h h' : Hp} {n n' : Nat}
    (he : leEV h h' env env' := by repeat' (first | exact trivial | refine And.intro ⟨_, rfl, ?_⟩ ?_ | exact .same (avLe_refl _) | exact .same (avLe_i (by first | omega | (simp only [List.length_set, List.length_append, List.length_cons, List.length_nil, List.length_take, List.length_drop, List.length_replicate, List.length_map, List.length_reverse] <;> omega))) | exact .same avLe_nil | exact .same avLe_nilO | exact .same (avLe_own (by first | omega | (simp only [List.length_set, List.length_append, List.length_cons, List.length_nil, List.length_take, List.length_drop, List.length_replicate, List.length_map, List.length_reverse] <;> omega))) | exact AvV.slc (hn := by first | rfl | omega | (simp only [List.length_set, List.length_append, List.length_cons, List.length_nil, List.length_take, List.length_drop, List.length_replicate, List.length_map, List.length_reverse] <;> omega)) (hll := by first | rfl | simp)))
    (hh : leH h h' := by repeat' (first | exact trivial | refine And.intro rfl ?_)) (hw : wfE h' env' = true := by rfl) (hw2 : wfH h' h' = true := by rfl) : (AS.mk env h n).Le X N (AS.mk env' h' n') := le_ofV he hh hw hw2
end Go.VL


namespace Go.VL
open Go.RowKit
set_option linter.unusedVariables false

theorem bytesPV_eq (s : List UInt8) : bytesPV s = s.flatMap eU := by
  induction s with
  | nil => rfl
  | cons b s ih => simp only [bytesPV, List.map_cons, List.flatMap_cons, eU] at *; rw [ih]; rfl
section
variable {X : Ctx} {N : Nat} {R : AS → Prop} {k : List KI} {σ : AS} {ops : Array Oper} {D D' : Option (List Fl)} {rest : List Oper} {env env' : List (Nat × AV)} {h h' : Hp} {n n' : Nat} {dst : Option Tmp} {t d : Tmp} {op : Op} {ty tx t' : TypeId} {ps : String} {af : Array Edge}
/-- append(bytes, string...). -/
theorem R_appS {x y : Operand} {l bs : List UInt8} {id m s b s2 b2 : Nat} {te ts : TypeId} {u : TypeDesc} {zz zz2 : Option Value} [hT : TInf X tx ⟨.slice te, s, b, zz⟩] [hT' : TInf X ts ⟨.string, s2, b2, zz2⟩] [hE : TInf X te ⟨u, 1, 1, some (.int .u8 0)⟩]
    (hx : EvR env x (.one (.own id 1 m)) := by exact ⟨rfl⟩) (hlk : look h id = some (.pu te (l.flatMap eU), false) := by rfl) (hm : m = l.length := by first | rfl | omega | simp) (hy : EvR env y (vS bs) := by first | exact .tmp rfl | exact .cs rfl)
    (hb : m + bs.length ≤ 140737488355328 := by first | omega | (simp only [List.length_append, List.length_cons, List.length_nil, List.length_take, List.length_drop] at * <;> omega)) (hk1 : Nat.blt id 500 = true := by rfl)
    {h2' h3' : Hp} (hsc : scrubH id h = h2' := by exact rfl) (hh : PutR h2' id (.pu te ((l ++ bs).flatMap eU), false) h3' := by repeat (first | exact .hit | exact .nil | (apply PutR.miss; rfl))) (henv : scrubEnv id env = env' := by exact Eq.refl _)
    (hfl : FlR D env (.call ⟨.builtin .append, ⟨[x, y]⟩, ⟨[tx, ts]⟩⟩) (.one (.own id 1 (m + bs.length))) (.e h3' (some id)) D' := by first | exact .seq | exact .drawn rfl)
    (hK : Rn X N R k ops D' rest ⟨(d, .one (.own id 1 (m + bs.length))) :: env', h3', n⟩) : Rn X N R k ops D (⟨some d, .call ⟨.builtin .append, ⟨[x, y]⟩, ⟨[tx, ts]⟩⟩, ty, ps, af, none⟩ :: rest) ⟨env, h, n⟩ :=
  Rn.step (ef := .e h3' (some id)) (n' := n) trivial (fun K hK => by
    subst hm
    simp only [evOp, hx.h, hy.h]
    refine .inr ?_
    simp only [evAppStr, hT.h, hT'.h, hE.h]
    refine ⟨trivial, ?_⟩
    rw [hlk]
    have e2 : (l.flatMap eU).length = l.length := by rw [flat_len (S := 1) (fun _ => rfl), Nat.mul_one]
    refine ⟨rfl, by rw [e2]; exact Nat.le_refl _, hb, lt5h hk1, ?_⟩
    have e1 : (l.flatMap eU).take l.length ++ bytesPV bs = (l ++ bs).flatMap eU := by rw [← e2, List.take_length, List.flatMap_append, bytesPV_eq]
    rw [e1, hsc, hh.eq]
    exact hK) hfl (by simp only [AS.fin, putO, putE, henv]; exact hK)
/-- string(bytes). -/
theorem R_cvBS {x : Operand} {td : TypeId} {l : List UInt8} {ids : List Nat} {c : AC} {te : TypeId} {s b s2 b2 s3 b3 : Nat} {zz zz2 zz3 : Option Value} [hT : TInf X tx ⟨.slice te, s, b, zz⟩] [hD : TInf X td ⟨.string, s2, b2, zz2⟩] [hE : TInf X te ⟨.int .u8, s3, b3, zz3⟩]
    (hx : EvR env x (.one c) := by first | exact .tmp rfl | exact .of rfl) (hv : VC h c (slc eU l) ids := by first | exact .own rfl (fun _ => rfl) (by first | rfl | omega | simp) | exact .pv rfl) (hi : (ids.all fun i => (look h i).isSome) = true := by rfl)
    (hfl : FlR D env (.convert tx td x) (vS l) (.n ids [] none) D' := by first | exact .seq | exact .drawn rfl)
    (hK : Rn X N R k ops D' rest ⟨(d, vS l) :: env, h, n⟩) : Rn X N R k ops D (⟨some d, .convert tx td x, ty, ps, af, none⟩ :: rest) ⟨env, h, n⟩ :=
  Rn.step (ef := .n ids [] none) (n' := n) trivial (fun K hK => by
    simp only [evOp, hx.h]
    refine .inr (.inl ?_)
    simp only [evCvB, hT.h, hD.h, hE.h]
    exact hv.h _ ⟨fun id hid => List.all_eq_true.1 hi id hid, l, rfl, (bytesPV_eq l).symm, hK⟩) hfl (by simp only [AS.fin, putO, putE, upd, frzs]; exact hK)
/-- []byte(string), to be written into. -/
theorem R_cvSBo {x : Operand} {td : TypeId} {l : List UInt8} {te : TypeId} {s b s2 b2 b3 : Nat} {zz zz2 zz3 : Option Value} {h' : Hp} (id : Nat) [hT : TInf X tx ⟨.string, s2, b2, zz2⟩] [hD : TInf X td ⟨.slice te, s, b, zz⟩] [hE : TInf X te ⟨.int .u8, 1, b3, zz3⟩]
    (hx : EvR env x (vS l) := by first | exact .tmp rfl | exact .cs rfl) (hn : look h id = none := by rfl) (h5 : (Nat.ble 500 id && Nat.blt id 1000) = true := by rfl) (hh : PutR h id (.pu te (l.flatMap eU), false) h' := by repeat (first | exact .hit | exact .nil | (apply PutR.miss; rfl)))
    (hfl : FlR D env (.convert tx td x) (.one (.own id 1 l.length)) (.n [] [] (some (id, .pu te (l.flatMap eU)))) D' := by first | exact .seq | exact .drawn rfl)
    (hK : Rn X N R k ops D' rest ⟨(d, .one (.own id 1 l.length)) :: env, h', n + 1⟩) : Rn X N R k ops D (⟨some d, .convert tx td x, ty, ps, af, none⟩ :: rest) ⟨env, h, n⟩ :=
  have h6 : 500 ≤ id ∧ id < 1000 := by simpa using h5
  Rn.step (ef := .n [] [] (some (id, .pu te (l.flatMap eU)))) (n' := n + 1) ⟨hn, h6.2⟩ (fun K hK => by
    simp only [evOp, hx.h]
    refine .inr (.inr ?_)
    simp only [evCvO, hT.h, hD.h, hE.h]
    exact ⟨id, h6, by rw [bytesPV_eq]; exact hK⟩) hfl (by simp only [AS.fin, putO, putE, upd, frzs, hh.eq]; exact hK)
/-- []byte(string). -/
theorem R_cvSB {x : Operand} {td : TypeId} {l : List UInt8} {te : TypeId} {s b s2 b2 s3 b3 : Nat} {zz zz2 zz3 : Option Value} [hT : TInf X tx ⟨.string, s2, b2, zz2⟩] [hD : TInf X td ⟨.slice te, s, b, zz⟩] [hE : TInf X te ⟨.int .u8, s3, b3, zz3⟩]
    (hx : EvR env x (vS l) := by first | exact .tmp rfl | exact .cs rfl)
    (hfl : FlR D env (.convert tx td x) (vP (slc eU l)) (.n [] [] none) D' := by first | exact .seq | exact .drawn rfl)
    (hK : Rn X N R k ops D' rest ⟨(d, vP (slc eU l)) :: env, h, n⟩) : Rn X N R k ops D (⟨some d, .convert tx td x, ty, ps, af, none⟩ :: rest) ⟨env, h, n⟩ :=
  Rn.step (ef := .n [] [] none) (n' := n) trivial (fun K hK => by
    simp only [evOp, hx.h]
    refine .inr (.inl ?_)
    simp only [evCvB, hT.h, hD.h, hE.h]
    rw [bytesPV_eq]
    exact hK) hfl (by simp only [AS.fin, putO, putE, upd, frzs]; exact hK)
end
end Go.VL


namespace Go.VL
open Go.RowKit
set_option linter.unusedVariables false

def bdF (id c : Nat) : Nat → Nat := fun i => if i = 1000 then id else c
theorem look_two {i : Nat} {a b : Bx × Bool} : look [(1000, a), (0, b)] i = if i = 1000 then some a else if i = 0 then some b else none := by simp [look]
theorem dom_two {i : Nat} {a b : Bx × Bool} (h : (look [(1000, a), (0, b)] i).isSome = true) : i = 1000 ∨ i = 0 := by
  rw [look_two] at h
  split at h
  · exact .inl ‹_›
  · split at h
    · exact .inr ‹_›
    · cases h
theorem dom_1000 {i : Nat} {a : Bx × Bool} (h : (look [(1000, a)] i).isSome = true) : i = 1000 := dom_one h
section
variable {h : Hp} {id c : Nat} {te : TypeId} {l l' : List PV} {cs cs' : List AC} {zs : List Nat}
theorem bdF_inj (hne : id ≠ c) {i j : Nat} (hi : i = 1000 ∨ i = 0) (hj : j = 1000 ∨ j = 0) (e : bdF id c i = bdF id c j) : i = j := by
  rcases hi with rfl | rfl <;> rcases hj with rfl | rfl <;> simp [bdF] at e ⊢
  · exact hne e
  · exact hne e.symm
theorem fits_two (hli : look h id = some (.mx (cs.map (AC.ren (bdF id c))), false)) (hlc : look h c = some (.pu te l, false)) (hne : id ≠ c) (hc : c < 500) (hi5 : id < 500 ∨ 1000 ≤ id) (hw0 : ∀ i ∈ acRefs cs, i = 1000 ∨ i = 0) (hz : ∀ i ∈ zs, (look h i).isSome = true) (hn1 : id ∉ zs) (hn2 : c ∉ zs) :
    Fits h (bdF id c) [(1000, (.mx cs, false)), (0, (.pu te l, false))] [(1000, (.mx cs', false)), (0, (.pu te l', false))] zs (put (put (scrubH c (frzs h zs)) c (.pu te l', false)) id (.mx (cs'.map (AC.ren (bdF id c))), false)) (some c) where
  inj := fun i j hi hj e => bdF_inj hne (hi.elim dom_two dom_two) (hj.elim dom_two dom_two) e
  wf0 := fun i bx z hl j hj => by
    rw [look_two] at hl
    split at hl
    · simp only [Option.some.injEq, Prod.mk.injEq] at hl
      obtain ⟨rfl, rfl⟩ := hl
      rcases hw0 j hj with rfl | rfl <;> simp [look]
    · split at hl
      · simp only [Option.some.injEq, Prod.mk.injEq] at hl
        obtain ⟨rfl, rfl⟩ := hl
        rw [show (Bx.pu te l).cells = l.map .pv from rfl, acRefs_pv] at hj; cases hj
      · cases hl
  inp := fun i bx z hl => by
    rw [look_two] at hl
    split at hl
    · rename_i hi
      simp only [Option.some.injEq, Prod.mk.injEq] at hl
      obtain ⟨rfl, rfl⟩ := hl
      subst hi
      exact hli
    · split at hl
      · rename_i hi
        simp only [Option.some.injEq, Prod.mk.injEq] at hl
        obtain ⟨rfl, rfl⟩ := hl
        subst hi
        exact hlc
      · cases hl
  frz := fun i hi => ⟨hz i hi, fun j hj e => by
    rcases dom_two hj with rfl | rfl
    · exact hn1 (by rw [← e] at hi; exact hi)
    · exact hn2 (by rw [← e] at hi; exact hi)⟩
  new := fun i hi hn => by rcases dom_two hi with rfl | rfl <;> simp [look] at hn
  mv := fun i hi hlt => by
    rcases dom_two hi with rfl | rfl
    · omega
    · exact ⟨rfl, Nat.lt_trans hc (by decide)⟩
  lo0 := fun i hi => by
    rcases dom_two hi with rfl | rfl
    · exact hi5
    · exact .inl hc
  lo1 := fun i hi => by
    have := dom_two hi
    omega
  pin := fun i hi hge => by
    rcases dom_two hi with rfl | rfl
    · simp [look]
    · omega
  only := fun j hj => ⟨0, by simp [look], by simpa [bdF] using hj⟩
  outA := fun i bx z hl => by
    rw [look_two] at hl
    split at hl
    · rename_i hi
      simp only [Option.some.injEq, Prod.mk.injEq] at hl
      obtain ⟨rfl, rfl⟩ := hl
      subst hi
      rw [show bdF id c 1000 = id from rfl, look_put, if_pos rfl]; rfl
    · split at hl
      · rename_i hi
        simp only [Option.some.injEq, Prod.mk.injEq] at hl
        obtain ⟨rfl, rfl⟩ := hl
        subst hi
        rw [show bdF id c 0 = c from rfl, look_put, if_neg (fun e => hne e.symm), look_put, if_pos rfl]; rfl
      · cases hl
  outB := fun i hi hn => by rcases dom_two hi with rfl | rfl <;> simp [look] at hn
  outC := fun j hj => by
    have h1 : j ≠ id := fun e => hj 1000 (.inr (by simp [look])) e.symm
    have h2 : j ≠ c := fun e => hj 0 (.inr (by simp [look])) e.symm
    rw [look_put, if_neg h1, look_put, if_neg h2, look_scrubH]
    cases look (frzs h zs) j <;> rfl
/-- .. of which the row is used up. -/
theorem fits_twoC (hli : look h id = some (.mx (cs.map (AC.ren (bdF id c))), false)) (hlc : look h c = some (.pu te l, false)) (hne : id ≠ c) (hc : c < 500) (hi5 : id < 500 ∨ 1000 ≤ id) (hw0 : ∀ i ∈ acRefs cs, i = 1000 ∨ i = 0) (hz : ∀ i ∈ zs, (look h i).isSome = true) (hn1 : id ∉ zs) (hn2 : c ∉ zs) :
    Fits h (bdF id c) [(1000, (.mx cs, false)), (0, (.pu te l, false))] [(1000, (.mx cs', false))] zs (put (put (scrubH c (frzs h zs)) c (.mx [], true)) id (.mx (cs'.map (AC.ren (bdF id c))), false)) (some c) where
  inj := fun i j hi hj e => bdF_inj hne (hi.elim dom_two fun h => .inl (dom_1000 h)) (hj.elim dom_two fun h => .inl (dom_1000 h)) e
  wf0 := fun i bx z hl j hj => by
    rw [look_two] at hl
    split at hl
    · simp only [Option.some.injEq, Prod.mk.injEq] at hl
      obtain ⟨rfl, rfl⟩ := hl
      rcases hw0 j hj with rfl | rfl <;> simp [look]
    · split at hl
      · simp only [Option.some.injEq, Prod.mk.injEq] at hl
        obtain ⟨rfl, rfl⟩ := hl
        rw [show (Bx.pu te l).cells = l.map .pv from rfl, acRefs_pv] at hj; cases hj
      · cases hl
  inp := fun i bx z hl => by
    rw [look_two] at hl
    split at hl
    · rename_i hi
      simp only [Option.some.injEq, Prod.mk.injEq] at hl
      obtain ⟨rfl, rfl⟩ := hl
      subst hi
      exact hli
    · split at hl
      · rename_i hi
        simp only [Option.some.injEq, Prod.mk.injEq] at hl
        obtain ⟨rfl, rfl⟩ := hl
        subst hi
        exact hlc
      · cases hl
  frz := fun i hi => ⟨hz i hi, fun j hj e => by
    rcases dom_two hj with rfl | rfl
    · exact hn1 (by rw [← e] at hi; exact hi)
    · exact hn2 (by rw [← e] at hi; exact hi)⟩
  new := fun i hi hn => by
    obtain rfl := dom_1000 hi
    simp [look] at hn
  mv := fun i hi hlt => by
    rcases dom_two hi with rfl | rfl
    · omega
    · exact ⟨rfl, Nat.lt_trans hc (by decide)⟩
  lo0 := fun i hi => by
    rcases dom_two hi with rfl | rfl
    · exact hi5
    · exact .inl hc
  lo1 := fun i hi => by
    have := dom_1000 hi
    omega
  pin := fun i hi hge => by
    rcases dom_two hi with rfl | rfl
    · simp [look]
    · omega
  only := fun j hj => ⟨0, by simp [look], by simpa [bdF] using hj⟩
  outA := fun i bx z hl => by
    rw [look_one] at hl
    split at hl
    · rename_i hi
      simp only [Option.some.injEq, Prod.mk.injEq] at hl
      obtain ⟨rfl, rfl⟩ := hl
      subst hi
      rw [show bdF id c 1000 = id from rfl, look_put, if_pos rfl]; rfl
    · cases hl
  outB := fun i hi hn => by
    rcases dom_two hi with rfl | rfl
    · simp [look] at hn
    · rw [show bdF id c 0 = c from rfl, look_put, if_neg (fun e => hne e.symm), look_put, if_pos rfl]
  outC := fun j hj => by
    have h1 : j ≠ id := fun e => hj 1000 (.inr (by simp [look])) e.symm
    have h2 : j ≠ c := fun e => hj 0 (.inl (by simp [look])) e.symm
    rw [look_put, if_neg h1, look_put, if_neg h2, look_scrubH]
    cases look (frzs h zs) j <;> rfl
end

/-! ### strings.Builder: what is shown over the model -/
def bdH (T te : TypeId) (n : Nat) (l : List UInt8) : Hp := [(1000, (.mx [.adr 1000 T 2, .own 0 1 n], false)), (0, (.pu te (l.flatMap eU), false))]
section
variable {X : Ctx} {ρ : Go.Shelf.Ren}
open Go.Proofs Go.Shelf
theorem bd_cell {ok : Nat → Prop} {w : World} {β : Bt} {T te : TypeId} {n : Nat} {l : List UInt8} (d : Hand X ok w (bdH T te n l) β) {u : Value} (hu : RepV w ok β (.one (.ptr 1000 0)) u) :
    ∃ g p v, β 1000 = some g ∧ u = .pointer (some ⟨g, 0, none⟩) ∧ w.heap[g]? = some (.cells #[p, v] T (0, 0)) ∧ (p = .pointer none ∨ p = .pointer (some ⟨g, 0, none⟩)) ∧ OwnRep w β 0 1 n v := by
  obtain ⟨g, hg, rfl⟩ := hu
  have hb := d.box 1000 _ _ rfl
  unfold BoxRep at hb
  rw [hg] at hb
  obtain ⟨_, arr, e, harr, _, hc⟩ := hb
  obtain ⟨p, hp, g', hg', hpp, hs⟩ := hc 0 _ rfl
  obtain ⟨v, hv, hvv⟩ := hc 1 _ rfl
  rw [hg] at hg'
  simp only [Option.some.injEq] at hg'
  subst hg'
  have harr := harr.low (.inr (Nat.le_refl _))
  have hsz : bsh w g = (e, arr.size) := by unfold bsh; rw [harr]
  rw [hsz] at hs
  simp only [Prod.mk.injEq] at hs
  obtain ⟨rfl, h2⟩ := hs
  refine ⟨g, p, v, hg, rfl, ?_, hpp, hvv⟩
  rw [harr]
  have : arr = #[p, v] := by
    apply Array.ext
    · rw [h2]; rfl
    · intro i h1 h3
      match i with
      | 0 => exact (Array.getElem?_eq_some_iff.1 hp).2
      | 1 => exact (Array.getElem?_eq_some_iff.1 hv).2
      | i + 2 => omega
  rw [this]
theorem ent_of2 {P : Program} {f : FuncId} {fn : Func} (hf : P.funcs[f]? = some fn) (hname : (fn.name == "runtime.NumGoroutine") = false) (hb : fn.body.isSome = true) : Ent P f := by
  obtain ⟨c, hc⟩ := Option.isSome_iff_exists.1 hb
  exact ent_of hf hname hc
/-- copyCheck. -/
theorem copyCheck_spc (L : Lays.n240 X.P ρ) (XX : Builder.X72 X.P ρ) {te : TypeId} {n : Nat} {l : List UInt8} : SpcS X (ρ.f 240) [.one (.ptr 1000 0)] (bdH (ρ.t 72) te n l) (.tup []) (bdH (ρ.t 72) te n l) where
  ent := ent_of2 L.f240 (by kernel_rfl) (by kernel_rfl)
  calls := fun ok w vals β hG hlt d hs hv => by
    obtain ⟨u, hu, hru⟩ := hv 0 _ rfl
    obtain ⟨g, p, v, hg, rfl, hgh, hp, hvv⟩ := bd_cell d hru
    have hvals : vals = #[.pointer (some ⟨g, 0, none⟩)] := by
      apply Array.ext
      · rw [hs]; rfl
      · intro i h1 h3
        simp at h3
        subst h3
        exact (Array.getElem?_eq_some_iff.1 hu).2
    subst hvals
    have hc0 : w.cell? ⟨g, 0, none⟩ = some p := by rw [cell_arr (RowAt.new (id := 0) hgh)]; rfl
    have hr := d.rel hG hlt
    rcases hp with rfl | rfl
    · refine (Any.Builder_copyCheck_fresh L XX g w hc0 (by simp [World.shape?, hgh]) (Lib.frozen_of_heap hgh 0)).mono fun e w' he => ?_
      obtain ⟨rfl, rfl⟩ := he
      have hset := hr.set (id := 1000) (g := g) (bx := .mx [.adr 1000 (ρ.t 72) 2, .own 0 1 n]) (bx' := .mx [.adr 1000 (ρ.t 72) 2, .own 0 1 n]) (arr' := #[.pointer (some ⟨g, 0, none⟩), v]) rfl hg (.new hgh) rfl (fun e' l h => by cases h) (fun j c hj => by
        match j, hj with
        | 0, hj => cases hj; exact ⟨_, rfl, g, hg, .inr rfl, by unfold bsh; rw [hgh]; rfl⟩
        | 1, hj => cases hj; exact ⟨v, rfl, hvv⟩) (fun i hi => by
        simp [acRefs, Bx.cells, AC.refs] at hi
        rcases hi with rfl | rfl <;> simp [bdH, look])
      have e1 : w.setCell ⟨g, 0, none⟩ (.pointer (some ⟨g, 0, none⟩)) = w.setRow g #[.pointer (some ⟨g, 0, none⟩), v] := by
        rw [setCell_eq_setRow w g 0 _ _ _ _ hgh]; rfl
      rw [e1]
      have e2 : ∀ i, look (bdH (ρ.t 72) te n l) i = look (put (bdH (ρ.t 72) te n l) 1000 (.mx [.adr 1000 (ρ.t 72) 2, .own 0 1 n], false)) i := fun i => rfl
      exact ⟨_, β, rfl, hset.congr e2, ⟨#[], rfl, rfl, fun j x hj => by simp at hj⟩, fun i hi => by simp [AV.refs] at hi⟩
    · refine (Any.Builder_copyCheck_used L XX g w hc0).mono fun e w' he => ?_
      obtain ⟨rfl, rfl⟩ := he
      exact ⟨_, β, rfl, hr, ⟨#[], rfl, rfl, fun j x hj => by simp at hj⟩, fun i hi => by simp [AV.refs] at hi⟩
/-- What String comes to, exactly. -/
theorem bd_string (L : Lays.n169 X.P ρ) (XX : Builder.Extra X.P ρ) (b : Nat) (p v : Value) (n : Nat) (l : List UInt8) (w : World) (hl : l.length = n) (hb : w.heap[b]? = some (.cells #[p, v] (ρ.t 72) (0, 0)))
    (hv : (v = .slice none 0 0 ∧ n = 0) ∨ ∃ g cap cur, v = .slice (some ⟨g, 0, none⟩) n cap ∧ w.heap[g]? = some (.cells cur (ρ.t 5) (0, 0)) ∧ n ≤ cap ∧ cap ≤ maxLen ∧ cur.size = cap ∧ ∀ (j : Nat) (x : UInt8), l[j]? = some x → cur[j]? = some (Value.int .u8 x.toNat)) :
    Calls X.P (ρ.f 169) #[.pointer (some ⟨b, 0, none⟩)] w fun e w' => e = .returned (.string ⟨l.toArray⟩) ∧ w.grownBy w' v.ownBlock := by
  have hUS := fun W q => Lib.run_unsafeString_none (P := X.P) W (ρ.t 127) (ρ.t 3) (ρ.t 9) q
  have hb' : w.drew.heap[b]? = some (.cells #[p, v] (ρ.t 72) (0, 0)) := hb
  have c1 : w.drew.cell? ⟨b, 1, none⟩ = some v := by rw [Lib.cell_of_heap hb']; rfl
  have mixed := L.mixed
  have t72 := L.t72; have a72 := L.a72; have z72 := L.z72; have v72 := L.v72; have u72 := run_underlying L.t72
  have t70 := L.t70; have a70 := L.a70; have z70 := L.z70; have v70 := L.v70; have u70 := run_underlying L.t70
  have t37 := L.t37; have a37 := L.a37; have z37 := L.z37; have v37 := L.v37; have u37 := run_underlying L.t37
  have t127 := L.t127; have a127 := L.a127; have z127 := L.z127; have v127 := L.v127; have u127 := run_underlying L.t127
  have t3 := L.t3; have a3 := L.a3; have z3 := L.z3; have v3 := L.v3; have u3 := run_underlying L.t3
  have t9 := L.t9; have a9 := L.a9; have z9 := L.z9; have v9 := L.v9; have u9 := run_underlying L.t9
  have t5 := XX.t5; have a5 := XX.a5; have z5 := XX.z5; have v5 := XX.v5; have u5 := run_underlying XX.t5
  have gd : w.grownBy w.drew v.ownBlock := ⟨rfl, rfl, rfl, Nat.le_refl _, fun _ _ _ => rfl⟩
  rcases hv with ⟨rfl, rfl⟩ | ⟨g, cap, cur, rfl, hg, hnc, hcm, hcs, hcell⟩
  · obtain rfl := List.eq_nil_of_length_eq_zero hl
    have hSD : (Builtin.unsafeSliceData_ #[(ρ.t 37)] (ρ.t 127) #[.slice none 0 0]).run X.P w.drew = .ok (.pointer none) w.drew := rfl
    go_enter L.f169, Body.n169_ntmps ρ
    go_wp2
    go_region_o
    all_goals (go_wp2; go_ret; exact ⟨rfl, gd⟩)
  · by_cases hc0 : cap = 0
    · subst hc0
      obtain rfl : n = 0 := by omega
      obtain rfl := List.eq_nil_of_length_eq_zero hl
      have hgw : w.drew.heap[g]? = some (.cells cur (ρ.t 5) (0, 0)) := hg
      have hSD : (Builtin.unsafeSliceData_ #[(ρ.t 37)] (ρ.t 127) #[.slice (some ⟨g, 0, none⟩) 0 0]).run X.P w.drew = .ok (.pointer (some ⟨w.drew.heap.size, 0, none⟩)) (w.drew.alloc (.view ⟨g, 0, none⟩ (ρ.t 5))) :=
        Lib.run_unsafeSliceData_zero w.drew _ _ (ρ.t 5) L.t127 ⟨g, 0, none⟩ 0 ((ρ.t 5), cur.size) (by simp [World.shape?, hgw])
      have hlt : b < w.drew.heap.size := (Array.getElem?_eq_some_iff.1 hb').1
      have c2 : (w.drew.alloc (.view ⟨g, 0, none⟩ (ρ.t 5))).cell? ⟨b, 1, none⟩ = some (.slice (some ⟨g, 0, none⟩) 0 0) := by
        have h2 : (w.drew.alloc (.view ⟨g, 0, none⟩ (ρ.t 5))).heap[b]? = some (.cells #[p, .slice (some ⟨g, 0, none⟩) 0 0] (ρ.t 72) (0, 0)) := by rw [_root_.Go.heap_alloc_old _ _ hlt]; exact hb'
        rw [Lib.cell_of_heap h2]; rfl
      have gd2 : w.grownBy (w.drew.alloc (.view ⟨g, 0, none⟩ (ρ.t 5))) (Value.ownBlock (.slice (some ⟨g, 0, none⟩) 0 0)) := ⟨rfl, rfl, rfl, by simp, fun k hk _ => _root_.Go.heap_alloc_old _ _ hk⟩
      have c3 : (w.alloc (.view ⟨g, 0, none⟩ (ρ.t 5))).cell? ⟨b, 1, none⟩ = some (.slice (some ⟨g, 0, none⟩) 0 0) := c2
      have hSD2 : (Builtin.unsafeSliceData_ #[(ρ.t 37)] (ρ.t 127) #[.slice (some ⟨g, 0, none⟩) 0 0]).run X.P w.drew = .ok (.pointer (some ⟨w.heap.size, 0, none⟩)) (w.alloc (.view ⟨g, 0, none⟩ (ρ.t 5))).drew := hSD
      go_enter L.f169, Body.n169_ntmps ρ
      go_wp2
      go_region_o
      all_goals (go_wp2; go_ret; exact ⟨rfl, gd2⟩)
    · have hSD : (Builtin.unsafeSliceData_ #[(ρ.t 37)] (ρ.t 127) #[.slice (some ⟨g, 0, none⟩) n cap]).run X.P w.drew = .ok (.pointer (some ⟨g, 0, none⟩)) w.drew :=
        Lib.run_unsafeSliceData_row _ _ _ _ _ _ hc0
      by_cases hn : n = 0
      · subst hn
        obtain rfl := List.eq_nil_of_length_eq_zero hl
        clear hc0
        go_enter L.f169, Body.n169_ntmps ρ
        go_wp2
        go_region_o
        all_goals (go_wp2; go_ret; exact ⟨rfl, gd⟩)
      · have h0 : l ≠ [] := fun e => hn (by rw [← hl, e]; rfl)
        have hUS2 : (Builtin.unsafeString_ #[(ρ.t 127), (ρ.t 3)] (ρ.t 9) #[.pointer (some ⟨g, 0, none⟩), .int .i64 n]).run X.P w.drew = .ok (.string ⟨l.toArray⟩) (w.drew.freeze ⟨g, 0, none⟩ n) := by
          rw [← hl]
          refine Lib.run_unsafeString_row w.drew (ρ.t 127) (ρ.t 3) (ρ.t 9) (ρ.t 5) L.t127 XX.cellsByte g cur.size (by have hg' : w.drew.heap[g]? = some (.cells cur (ρ.t 5) (0, 0)) := hg; simp [World.shape?, hg']) l h0 (by omega) (by unfold maxLen at hcm; omega) ?_
          intro j x hx
          have hg' : w.drew.heap[g]? = some (.cells cur (ρ.t 5) (0, 0)) := hg
          rw [add_none, Nat.zero_add, Lib.cell_of_heap hg']
          exact hcell j x hx
        have gd3 : w.grownBy (w.drew.freeze ⟨g, 0, none⟩ n) (Value.ownBlock (.slice (some ⟨g, 0, none⟩) n cap)) := by
          unfold World.freeze
          rw [if_neg hn]
          refine ⟨rfl, rfl, rfl, by simp, fun k hk hne => ?_⟩
          simp only [Array.getElem?_modify]
          rw [if_neg (fun e => hne (by simp [Value.ownBlock, e]))]
          rfl
        clear hUS hc0 hn
        go_enter L.f169, Body.n169_ntmps ρ
        go_wp2
        go_region_o
        all_goals (go_wp2; go_ret; exact ⟨rfl, gd3⟩)
theorem string_spc (L : Lays.n169 X.P ρ) (XX : Builder.Extra X.P ρ) {l : List UInt8} : SpcS X (ρ.f 169) [.one (.ptr 1000 0)] (bdH (ρ.t 72) (ρ.t 5) l.length l) (.one (.pv (.str l))) [(1000, (.mx [.any, .any], false))] where
  ent := ent_of2 L.f169 (by kernel_rfl) (by kernel_rfl)
  calls := fun ok w vals β hG hlt d hs hv => by
    obtain ⟨u, hu, hru⟩ := hv 0 _ rfl
    obtain ⟨b, p, v, hb, rfl, hbh, hp, hvv⟩ := bd_cell d hru
    have hvals : vals = #[.pointer (some ⟨b, 0, none⟩)] := by
      apply Array.ext
      · rw [hs]; rfl
      · intro i h1 h3
        simp at h3
        subst h3
        exact (Array.getElem?_eq_some_iff.1 hu).2
    subst hvals
    have hr := d.rel hG hlt
    have hrow : ∀ g, β 0 = some g → ∃ arr, w.heap[g]? = some (.cells arr (ρ.t 5) (0, 0)) ∧ ∀ (j : Nat) x, l[j]? = some x → arr[j]? = some (Value.int .u8 (x : UInt8).toNat) := fun g hg => by
      have hb0 := d.box 0 _ _ rfl
      unfold BoxRep at hb0
      rw [hg] at hb0
      obtain ⟨_, arr, e, harr, he, hc⟩ := hb0
      obtain rfl := he _ _ rfl
      refine ⟨arr, harr.low (.inl (by decide)), fun j x hj => ?_⟩
      have e1 : l.flatMap eU = bytesPV l := (bytesPV_eq l).symm
      obtain ⟨u, hu, hr⟩ := hc j (.pv (.int .u8 (x.toNat : Int))) (by simp only [Bx.cells, e1, bytesPV, List.getElem?_map, hj, Option.map_some])
      obtain ⟨rfl, _⟩ := one_int (ok := ok) (β := β) (w := w) hr
      exact hu
    have hcase : (v = .slice none 0 0 ∧ l.length = 0) ∨ ∃ g cap cur, v = .slice (some ⟨g, 0, none⟩) l.length cap ∧ w.heap[g]? = some (.cells cur (ρ.t 5) (0, 0)) ∧ l.length ≤ cap ∧ cap ≤ maxLen ∧ cur.size = cap ∧ ∀ (j : Nat) (x : UInt8), l[j]? = some x → cur[j]? = some (Value.int .u8 x.toNat) := by
      rcases hvv with h | ⟨g, cap, hg, rfl, h1, h2, h3⟩
      · exact .inl h
      · obtain ⟨arr, harr, hc⟩ := hrow g hg
        refine .inr ⟨g, cap, arr, rfl, harr, h1, by simpa [maxLen] using h2, ?_, hc⟩
        have : bsh w g = (ρ.t 5, arr.size) := by unfold bsh; rw [harr]
        rw [this] at h3
        omega
    have hlen : l.length ≤ topLen := by
      rcases hvv with ⟨_, h⟩ | ⟨g, cap, _, _, h1, h2, _⟩
      · omega
      · omega
    have hblk : ∀ k, v.ownBlock = some k → β 0 = some k := fun k hk => by
      rcases hvv with ⟨rfl, _⟩ | ⟨g, cap, hg, rfl, _⟩
      · simp [Value.ownBlock] at hk
      · simp [Value.ownBlock] at hk; subst hk; exact hg
    refine (bd_string L XX b p v l.length l w rfl hbh hcase).mono fun e w' he => ?_
    obtain ⟨rfl, hgr⟩ := he
    have hbl : b < w.heap.size := (Array.getElem?_eq_some_iff.1 hbh).1
    have hbk : w'.heap[b]? = w.heap[b]? := hgr.block b hbl fun e => d.inj 1000 0 _ _ b (by decide) rfl rfl hb (hblk b e.symm)
    refine ⟨_, β, rfl, ⟨hr.below.grown hgr fun k hk => ?_, hr.g, fun id bx z hl => ?_, fun i j e1 e2 g hne h1 h2 => ?_, fun id bx z hl i hi => ?_, fun id hid => ⟨(hr.pin id hid).1, fun g hg => ?_⟩⟩, .str l hlen, fun i hi => by cases hi⟩
    · exact (hr.lt (h := bdH (ρ.t 72) (ρ.t 5) l.length l) (id := 0) rfl (hblk k hk)).2
    · rw [look_one] at hl
      split at hl
      · rename_i hi
        subst hi
        simp only [Option.some.injEq, Prod.mk.injEq] at hl
        obtain ⟨rfl, rfl⟩ := hl
        unfold BoxRep
        rw [hb]
        refine ⟨(hr.lt (h := bdH (ρ.t 72) (ρ.t 5) l.length l) (id := 1000) rfl hb).2, _, _, .new (hbk.trans hbh), fun e' l h => (by cases h), fun j c hj => ?_⟩
        match j, hj with
        | 0, hj => cases hj; exact ⟨_, rfl, by rcases hp with rfl | rfl <;> rfl⟩
        | 1, hj =>
          cases hj
          refine ⟨_, rfl, ?_⟩
          rcases hvv with ⟨rfl, _⟩ | ⟨g, cap, hg, rfl, _⟩ <;> rfl
      · cases hl
    · have a1 := dom_1000 (isSome_of h1)
      have a2 := dom_1000 (isSome_of h2)
      omega
    · rw [look_one] at hl
      split at hl
      · simp only [Option.some.injEq, Prod.mk.injEq] at hl
        obtain ⟨rfl, rfl⟩ := hl
        simp [acRefs, Bx.cells, AC.refs] at hi
      · cases hl
    · have h2 := (hr.pin id hid).2 g hg
      have hg' : β id = some g := (hr.pin id hid).1.trans hg
      have hid1 : id = 1000 := by
        rcases Nat.decEq id 1000 with hne | he
        · rw [d.out id (by simp only [bdH, look_two]; rw [if_neg hne, if_neg (by omega)])] at hg'; cases hg'
        · exact he
      subst hid1
      refine ⟨h2.1, ?_, fun i e hl hne => absurd (dom_1000 (isSome_of hl)) hne⟩
      unfold bsh
      rw [hb] at hg'
      simp only [Option.some.injEq] at hg'
      subst hg'
      rw [hbk]
end
/-! ### Steps -/
section
variable {X : Ctx} {N : Nat} {R : AS → Prop} {k : List KI} {σ : AS} {ops : Array Oper} {D D' : Option (List Fl)} {rest : List Oper} {env env' : List (Nat × AV)} {h h' : Hp} {n n' : Nat} {dst : Option Tmp} {t d : Tmp} {op : Op} {ty tx t' : TypeId} {ps : String} {af : Array Edge}
/-- A builder is made: its box and its row. -/
theorem R_allocB {T e : TypeId} {fs : Array Field} {F : Field} {s b s2 b2 : Nat} {zz : Option Value} {h1 h2 h3 : Hp} [hT : TInf X T ⟨.struct fs, s, b, some (.agg ⟨[.pointer none, .slice none 0 0]⟩)⟩] (hF : fs.toList[1]? = some F := by rfl) (hE : TInf X F.type ⟨.slice e, s2, b2, zz⟩ := by infer_instance) (hn : look h n = none := by rfl) (hn2 : look h (n + 1) = none := by rfl) (hk1 : Nat.blt (n + 1) 1000 = true := by rfl)
    (hp1 : PutR h (n + 1) (.pu e [], false) h1 := by repeat (first | exact .hit | exact .nil | (apply PutR.miss; rfl))) (hp2 : PutR h1 n (.mx [.any, .any], false) h2 := by repeat (first | exact .hit | exact .nil | (apply PutR.miss; rfl))) (hp3 : PutR h2 n (.mx [.adr n T 2, .own (n + 1) 1 0], false) h3 := by repeat (first | exact .hit | exact .nil | (apply PutR.miss; rfl)))
    (hfl : FlR D env (.alloc T) (.one (.ptr n 0)) (.e h3 none) D' := by first | exact .seq | exact .drawn rfl)
    (hK : Rn X N R k ops D' rest ⟨(d, .one (.ptr n 0)) :: env, h3, n + 2⟩) : Rn X N R k ops D (⟨some d, .alloc T, ty, ps, af, none⟩ :: rest) ⟨env, h, n⟩ :=
  Rn.step (ef := .e h3 none) (n' := n + 2) trivial (fun K hK => by
    simp only [evOp]
    refine .inr ?_
    simp only [evAllocB, hT.h]
    exact ⟨hn, hn2, lt1k hk1, e, by rw [hp1.eq, hp2.eq, hp3.eq]; exact hK⟩) hfl (by simp only [AS.fin, putO, putE]; exact hK)
/-- A call through a pointer to a box of cells, one of which holds a row of the frame's own: both come back. -/
theorem R_callB {fo a0 : Operand} {al : List Operand} {tl : List TypeId} {g : FuncId} {pas : List PA} {ids : List Nat} {te : TypeId} {id : Nat} {l l' : List PV} {cs cs' ds ds' : List AC} {y v : AV} {h1' h2' h3' h4' : Hp} (c : Nat) {xs : List AV}
    (hs : SpcS X g (.one (.ptr 1000 0) :: xs) [(1000, (.mx cs, false)), (0, (.pu te l, false))] y [(1000, (.mx cs', false)), (0, (.pu te l', false))]) (hf : EvR env fo (.one (.pv (.clo g []))) := by first | exact .fn | exact ⟨rfl⟩)
    (h0 : EvR env a0 (.one (.ptr id 0)) := by exact ⟨rfl⟩) (hcs : cs.map (AC.ren (bdF id c)) = ds := by rfl) (hli : look h id = some (.mx ds, false) := by rfl) (hlc : look h c = some (.pu te l, false) := by rfl) (hne : (id == c) = false := by rfl) (hk1 : Nat.blt c 500 = true := by rfl) (hi5 : (Nat.blt id 500 || Nat.ble 1000 id) = true := by rfl) (hw : (acRefs cs).all (fun i => i == 1000 || i == 0) = true := by rfl)
    (hv : VOs h env al pas ids := by repeat (first | exact .nil | (apply VOs.cons; first | exact .tmp rfl | exact .ci rfl | exact .cb | exact .cs rfl | exact .of rfl | exact .fn | (apply EvR.cagg; repeat (first | exact OfL.nil | apply OfL.int | apply OfL.bool | apply OfL.str | apply OfL.nilS | (apply OfL.other; rfl; rfl)))) | exact VA.one (.pv rfl) | exact VA.one .nil | exact VA.one (.own rfl (fun _ => rfl) (by first | rfl | omega | (simp only [List.length_set, List.length_append, List.length_cons, List.length_nil, List.length_take, List.length_drop, List.length_replicate, List.length_map, List.length_reverse] <;> omega) | simp)) | exact VA.one (.ownTake rfl (fun _ => rfl) (by first | omega | simp)) | apply VA.agg | exact VL.nil | exact VL.pvs rfl | apply VL.cons | exact VC.pv rfl | exact VC.nil | exact VC.own rfl (fun _ => rfl) (by first | rfl | omega | (simp only [List.length_set, List.length_append, List.length_cons, List.length_nil, List.length_take, List.length_drop, List.length_replicate, List.length_map, List.length_reverse] <;> omega) | simp))) (hx : pas.map PA.av = xs := by exact rfl) (hz : (ids.all fun i => (look h i).isSome) = true := by rfl) (hn1 : ids.contains id = false := by rfl) (hn2 : ids.contains c = false := by rfl)
    (hh : FrzR h ids h1' := by repeat (first | exact FrzR.nil | (apply FrzR.cons; rfl; (repeat (first | exact .hit | exact .nil | (apply PutR.miss; rfl)))))) (hsc : scrubH c h1' = h2' := by exact rfl) (hp : PutR h2' c (.pu te l', false) h3' := by repeat (first | exact .hit | exact .nil | (apply PutR.miss; rfl))) (hcs' : cs'.map (AC.ren (bdF id c)) = ds' := by exact rfl) (hp2 : PutR h3' id (.mx ds', false) h4' := by repeat (first | exact .hit | exact .nil | (apply PutR.miss; rfl))) (hy : y.ren (bdF id c) = v := by exact rfl) (henv : scrubEnv c env = env' := by exact Eq.refl _)
    (hfl : FlR D env (.call ⟨.value fo, ⟨a0 :: al⟩, ⟨tl⟩⟩) v (.e h4' (some c)) D' := by first | exact .seq | exact .drawn rfl) (hK : Rn X N R k ops D' rest ⟨putO env' dst v, h4', n⟩) : Rn X N R k ops D (⟨dst, .call ⟨.value fo, ⟨a0 :: al⟩, ⟨tl⟩⟩, ty, ps, af, none⟩ :: rest) ⟨env, h, n⟩ :=
  R_callS (f := bdF id c) (n' := n) (zs := ids) (h' := h4') (m := some c) hs hf (by
    rw [← hp2.eq, ← hp.eq, ← hsc, ← hh.eq, ← hcs']
    exact fits_two (by rw [hcs]; exact hli) hlc (by simpa using hne) (lt5h hk1) (lowb hi5) (fun i hi => by have := List.all_eq_true.1 hw i hi; simpa using this) (all_some hz) (not_mem hn1) (not_mem hn2)) (by
    rw [List.map_cons, h0.h, ← hx]
    exact .cons (.own (x := .one (.ptr 1000 0)) (fun e => by cases e) (fun i hi => by simp only [AV.refs, AC.refs, List.mem_singleton] at hi; subst hi; simp [look])) (hv.args fun id hid => hid)) (by rw [hy]; exact hfl) (by rw [hy]; subst henv; cases dst <;> exact hK)
/-- .. the row is used up. -/
theorem R_callBC {fo a0 : Operand} {al : List Operand} {tl : List TypeId} {g : FuncId} {pas : List PA} {ids : List Nat} {te : TypeId} {id : Nat} {l : List PV} {cs cs' ds ds' : List AC} {y v : AV} {h1' h2' h3' h4' : Hp} (c : Nat) {xs : List AV}
    (hs : SpcS X g (.one (.ptr 1000 0) :: xs) [(1000, (.mx cs, false)), (0, (.pu te l, false))] y [(1000, (.mx cs', false))]) (hf : EvR env fo (.one (.pv (.clo g []))) := by first | exact .fn | exact ⟨rfl⟩)
    (h0 : EvR env a0 (.one (.ptr id 0)) := by exact ⟨rfl⟩) (hcs : cs.map (AC.ren (bdF id c)) = ds := by rfl) (hli : look h id = some (.mx ds, false) := by rfl) (hlc : look h c = some (.pu te l, false) := by rfl) (hne : (id == c) = false := by rfl) (hk1 : Nat.blt c 500 = true := by rfl) (hi5 : (Nat.blt id 500 || Nat.ble 1000 id) = true := by rfl) (hw : (acRefs cs).all (fun i => i == 1000 || i == 0) = true := by rfl)
    (hv : VOs h env al pas ids := by repeat (first | exact .nil | (apply VOs.cons; first | exact .tmp rfl | exact .ci rfl | exact .cb | exact .cs rfl | exact .of rfl | exact .fn | (apply EvR.cagg; repeat (first | exact OfL.nil | apply OfL.int | apply OfL.bool | apply OfL.str | apply OfL.nilS | (apply OfL.other; rfl; rfl)))) | exact VA.one (.pv rfl) | exact VA.one .nil | exact VA.one (.own rfl (fun _ => rfl) (by first | rfl | omega | (simp only [List.length_set, List.length_append, List.length_cons, List.length_nil, List.length_take, List.length_drop, List.length_replicate, List.length_map, List.length_reverse] <;> omega) | simp)) | exact VA.one (.ownTake rfl (fun _ => rfl) (by first | omega | simp)) | apply VA.agg | exact VL.nil | exact VL.pvs rfl | apply VL.cons | exact VC.pv rfl | exact VC.nil | exact VC.own rfl (fun _ => rfl) (by first | rfl | omega | (simp only [List.length_set, List.length_append, List.length_cons, List.length_nil, List.length_take, List.length_drop, List.length_replicate, List.length_map, List.length_reverse] <;> omega) | simp))) (hx : pas.map PA.av = xs := by exact rfl) (hz : (ids.all fun i => (look h i).isSome) = true := by rfl) (hn1 : ids.contains id = false := by rfl) (hn2 : ids.contains c = false := by rfl)
    (hh : FrzR h ids h1' := by repeat (first | exact FrzR.nil | (apply FrzR.cons; rfl; (repeat (first | exact .hit | exact .nil | (apply PutR.miss; rfl)))))) (hsc : scrubH c h1' = h2' := by exact rfl) (hp : PutR h2' c (.mx [], true) h3' := by repeat (first | exact .hit | exact .nil | (apply PutR.miss; rfl))) (hcs' : cs'.map (AC.ren (bdF id c)) = ds' := by exact rfl) (hp2 : PutR h3' id (.mx ds', false) h4' := by repeat (first | exact .hit | exact .nil | (apply PutR.miss; rfl))) (hy : y.ren (bdF id c) = v := by exact rfl) (henv : scrubEnv c env = env' := by exact Eq.refl _)
    (hfl : FlR D env (.call ⟨.value fo, ⟨a0 :: al⟩, ⟨tl⟩⟩) v (.e h4' (some c)) D' := by first | exact .seq | exact .drawn rfl) (hK : Rn X N R k ops D' rest ⟨putO env' dst v, h4', n⟩) : Rn X N R k ops D (⟨dst, .call ⟨.value fo, ⟨a0 :: al⟩, ⟨tl⟩⟩, ty, ps, af, none⟩ :: rest) ⟨env, h, n⟩ :=
  R_callS (f := bdF id c) (n' := n) (zs := ids) (h' := h4') (m := some c) hs hf (by
    rw [← hp2.eq, ← hp.eq, ← hsc, ← hh.eq, ← hcs']
    exact fits_twoC (by rw [hcs]; exact hli) hlc (by simpa using hne) (lt5h hk1) (lowb hi5) (fun i hi => by have := List.all_eq_true.1 hw i hi; simpa using this) (all_some hz) (not_mem hn1) (not_mem hn2)) (by
    rw [List.map_cons, h0.h, ← hx]
    exact .cons (.own (x := .one (.ptr 1000 0)) (fun e => by cases e) (fun i hi => by simp only [AV.refs, AC.refs, List.mem_singleton] at hi; subst hi; simp [look])) (hv.args fun id hid => hid)) (by rw [hy]; exact hfl) (by rw [hy]; subst henv; cases dst <;> exact hK)
end
section
variable {X : Ctx} {env : List (Nat × AV)} {h : Hp} {n : Nat}
theorem retS2 {rs : List ResultVar} {r1 r2 : ResultVar} {v1 v2 y : AV} {h1 : Hp} (hrs : rs = [r1, r2] := by exact rfl) (hr1 : RvR X ⟨env, h, n⟩ r1 v1 := by first | exact .tmp (by first | exact .tmp rfl | exact .of rfl) | exact .cell ⟨rfl⟩ rfl inferInstance rfl rfl) (hr2 : RvR X ⟨env, h, n⟩ r2 v2 := by first | exact .tmp (by first | exact .tmp rfl | exact .of rfl) | exact .cell ⟨rfl⟩ rfl inferInstance rfl rfl)
    (hy : tupV [v1, v2] = some y) (hle : leH h h1) (hw : wfH h1 h1 = true := by rfl) (hrf : refsIn h1 y.refs = true := by rfl) : retS X rs y h1 ⟨env, h, n⟩ := by
  subst hrs
  refine ⟨hle, hw, hrf, ?_⟩
  simp only [resAVs]
  exact hr1.res _ (hr2.res _ ⟨[v1, v2], .cons .same (.cons .same .nil), hy⟩)
end
end Go.VL


namespace Go.VL
open Go.RowKit
set_option linter.unusedVariables false
section
variable {X : Ctx} {N : Nat} {R : AS → Prop} {k : List KI} {σ : AS} {ops : Array Oper} {D D' : Option (List Fl)} {rest : List Oper} {env env' : List (Nat × AV)} {h h' : Hp} {n n' : Nat} {dst : Option Tmp} {t d : Tmp} {op : Op} {ty tx t' : TypeId} {ps : String} {af : Array Edge}
/-- A part of an element that is itself made of several cells. -/
theorem R_ldFA {x : Operand} {α : Type} {e : α → List PV} {l : List α} {S m j : Nat} {a : α} {cs : List AC} {T : TI} [hT : TInf X tx T] (hx : EvR env x (vP (.pt (l.flatMap e) (m * S + j))) := by exact ⟨rfl⟩) (hS : ∀ x, (e x).length = S := by exact fun _ => rfl) (hag : isAggU T.u = true := by rfl)
    (hl : l[m]? = some a := by exact gD (by first | omega | (simp only [List.length_set, List.length_append, List.length_cons, List.length_nil, List.length_take, List.length_drop, List.length_replicate, List.length_map, List.length_reverse] at * <;> omega))) (hj : Nat.ble (j + T.size) S = true := by rfl) (hc : (((e a).drop j).take T.size).map AC.pv = cs := by exact Eq.refl _) (hfl : FlR D env (.load tx x) (.agg cs) (.n [] [] none) D' := by first | exact .seq | exact .drawn rfl)
    (hK : Rn X N R k ops D' rest ⟨(d, .agg cs) :: env, h, n⟩) : Rn X N R k ops D (⟨some d, .load tx x, ty, ps, af, none⟩ :: rest) ⟨env, h, n⟩ :=
  Rn.step (ef := .n [] [] none) trivial (fun K hK => by
    obtain ⟨h1, h2⟩ := flat_part hS hl
    have hj' : j + T.size ≤ S := Nat.le_of_ble_eq_true hj
    have e1 : ((l.flatMap e).drop (m * S + j)).take T.size = ((e a).drop j).take T.size := by
      rw [← h1, List.drop_take, List.take_take, Nat.min_eq_left (by omega), List.drop_drop]
    simp only [evOp, hx.h, evLoadPv, hT.h, hag, if_true, e1, hc]
    exact ⟨by omega, hK⟩) hfl hK
theorem R_idxA {x i : Operand} {ta e : TypeId} {s b q m id off off' : Nat} {zz : Option Value} {T : TI} {kz : IntKind} {z : Int} [hT : TInf X ta ⟨.array q e, s, b, zz⟩] [hE : TInf X e T] (hx : EvR env x (.one (.ptr id off)) := by exact ⟨rfl⟩) (hi : EvR env i (.one (.pv (.int kz z))) := by exact ⟨rfl⟩)
    (h0 : 0 ≤ z ∧ z < q := by first | exact ⟨by decide, by decide⟩ | (constructor <;> omega)) (hm : z.toNat = m := by first | (with_reducible exact Int.toNat_natCast _) | exact Eq.refl _) (ho : off + m * T.size = off' := by exact Eq.refl _) (hfl : FlR D env (.indexAddr ta x i) (.one (.ptr id off')) (.n [] [] none) D' := by first | exact .seq | exact .drawn rfl)
    (hK : Rn X N R k ops D' rest ⟨(d, .one (.ptr id off')) :: env, h, n⟩) : Rn X N R k ops D (⟨some d, .indexAddr ta x i, ty, ps, af, none⟩ :: rest) ⟨env, h, n⟩ :=
  Rn.val rfl (fun K hK => by subst hm; subst ho; simp only [evVal, evIndexAddr, hT.h, hE.h, hx.h, hi.h]; exact ⟨h0.1, h0.2, hK⟩) hfl hK
theorem R_idxP {x i : Operand} {ta e : TypeId} {s b q m off off' : Nat} {cells : List PV} {zz : Option Value} {T : TI} {kz : IntKind} {z : Int} [hT : TInf X ta ⟨.array q e, s, b, zz⟩] [hE : TInf X e T] (hx : EvR env x (vP (.pt cells off)) := by exact ⟨rfl⟩) (hi : EvR env i (.one (.pv (.int kz z))) := by exact ⟨rfl⟩)
    (h0 : 0 ≤ z ∧ z < q := by first | exact ⟨by decide, by decide⟩ | (constructor <;> omega)) (hm : z.toNat = m := by first | (with_reducible exact Int.toNat_natCast _) | exact Eq.refl _) (ho : off + m * T.size = off' := by exact Eq.refl _) (hfl : FlR D env (.indexAddr ta x i) (vP (.pt cells off')) (.n [] [] none) D' := by first | exact .seq | exact .drawn rfl)
    (hK : Rn X N R k ops D' rest ⟨(d, vP (.pt cells off')) :: env, h, n⟩) : Rn X N R k ops D (⟨some d, .indexAddr ta x i, ty, ps, af, none⟩ :: rest) ⟨env, h, n⟩ :=
  Rn.val rfl (fun K hK => by subst hm; subst ho; simp only [evVal, evIndexAddr, hT.h, hE.h, hx.h, hi.h]; exact ⟨h0.1, h0.2, hK⟩) hfl hK
/-- Two cells, an array's. -/
theorem R_build2 {x y : Operand} {a b0 z0 z1 : AC} {e : TypeId} {T : TI} {s b : Nat} {zz : Value} [hT : TInf X tx ⟨.array 2 e, s, b, some zz⟩] [hE : TInf X e T] (hz : OfL zz.cells.toList [z0, z1] := by repeat (first | exact OfL.nil | apply OfL.int | apply OfL.bool | apply OfL.str | apply OfL.nilS | (apply OfL.other; rfl; rfl)))
    (h1 : T.size = 1 := by rfl) {va vb : AV} (hx : EvR env x va := by first | exact .tmp rfl | exact .of rfl) (hy : EvR env y vb := by first | exact .tmp rfl | exact .of rfl) (ha : avCells va = some [a] := by exact rfl) (hb : avCells vb = some [b0] := by exact rfl)
    (hfl : FlR D env (.build tx ⟨[(0, x), (1, y)]⟩) (.agg [a, b0]) (.n [] [] none) D' := by first | exact .seq | exact .drawn rfl)
    (hK : Rn X N R k ops D' rest ⟨(d, .agg [a, b0]) :: env, h, n⟩) : Rn X N R k ops D (⟨some d, .build tx ⟨[(0, x), (1, y)]⟩, ty, ps, af, none⟩ :: rest) ⟨env, h, n⟩ :=
  Rn.val rfl (fun K hK => by
    simp only [evVal, evBuild, hT.h, hE.h, zc_eq, zc_of hz, List.map_cons, List.map_nil, hx.h, hy.h, fillA, h1, ha, hb]
    simpa [setMany] using hK) hfl hK
end
end Go.VL

