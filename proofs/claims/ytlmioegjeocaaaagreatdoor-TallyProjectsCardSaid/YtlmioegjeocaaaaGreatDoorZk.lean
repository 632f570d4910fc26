/- Contracts over whole values, and what they lean on: part k. Each holds under the conditions that it states. -/
import Derived.Test.YtlmioegjeocaaaaGreatDoorZj
import Derived.Maps.RangeRun
import Derived.Laws.CopyRow
import Derived.Laws.IdiomCopy
import Derived.Sort.EncStr
import Derived.Sort.Grow
import Derived.Lib.JoinLaws
set_option linter.unusedVariables false
set_option linter.unusedSimpArgs false

namespace Go.VL
open Go.RowKit
set_option linter.unusedVariables false
section
variable {X : Ctx} {N : Nat} {R : AS → Prop} {k : List KI} {σ : AS} {ops : Array Oper} {D D' : Option (List Fl)} {rest : List Oper} {env env' : List (Nat × AV)} {h h' : Hp} {n n' : Nat} {dst : Option Tmp} {t d : Tmp} {op : Op} {ty tx t' : TypeId} {ps : String} {af : Array Edge}
theorem R_callNY {fo : Operand} {al : List Operand} {tl : List TypeId} {g : FuncId} {xs : List AV} {pas : List PA} {ids : List Nat} {α : Type} {e : α → List PV} {l : List α} {te : TypeId} {i0 : Nat} {h1' : Hp} {y v : AV} (hs : SpcS X g xs [] y [(i0, (.pu te (l.flatMap e), false))]) (hf : EvR env fo (.one (.pv (.clo g []))) := by first | exact .fn | exact ⟨rfl⟩)
    (hv : VOs h env al pas ids := by repeat (first | exact .nil | (apply VOs.cons; first | exact .tmp rfl | exact .ci rfl | exact .cb | exact .cs rfl | exact .of rfl | exact .fn | (apply EvR.cagg; repeat (first | exact OfL.nil | apply OfL.int | apply OfL.bool | apply OfL.str | apply OfL.nilS | (apply OfL.other; rfl; rfl)))) | exact VA.one (.pv rfl) | exact VA.one .nil | exact VA.one (.own rfl (fun _ => rfl) (by first | rfl | omega | (simp only [List.length_set, List.length_append, List.length_cons, List.length_nil, List.length_take, List.length_drop, List.length_replicate, List.length_map, List.length_reverse] <;> omega) | simp)) | exact VA.one (.ownTake rfl (fun _ => rfl) (by first | omega | simp)) | apply VA.agg | exact VL.nil | exact VL.pvs rfl | apply VL.cons | exact VC.pv rfl | exact VC.nil | exact VC.own rfl (fun _ => rfl) (by first | rfl | omega | (simp only [List.length_set, List.length_append, List.length_cons, List.length_nil, List.length_take, List.length_drop, List.length_replicate, List.length_map, List.length_reverse] <;> omega) | simp))) (hx : pas.map PA.av = xs := by exact rfl) (hn : look h n = none := by rfl) (hk1 : Nat.blt n 1000 = true := by rfl) (hi5 : (Nat.blt i0 500 || Nat.ble 1000 i0) = true := by rfl) (hz : (ids.all fun i => (look h i).isSome) = true := by rfl) (hh : FrzR h ids h1' := by repeat (first | exact FrzR.nil | (apply FrzR.cons; rfl; (repeat (first | exact .hit | exact .nil | (apply PutR.miss; rfl)))))) (hp : PutR h1' n (.pu te (l.flatMap e), false) h' := by repeat (first | exact .hit | exact .nil | (apply PutR.miss; rfl)))
    (hy : y.ren (fun _ => n) = v := by exact rfl) (hfl : FlR D env (.call ⟨.value fo, ⟨al⟩, ⟨tl⟩⟩) v (.n ids ids (some (n, .pu te (l.flatMap e)))) D' := by first | exact .seq | exact .drawn rfl) (hK : Rn X N R k ops D' rest ⟨(d, v) :: env, h', n + 1⟩) : Rn X N R k ops D (⟨some d, .call ⟨.value fo, ⟨al⟩, ⟨tl⟩⟩, ty, ps, af, none⟩ :: rest) ⟨env, h, n⟩ :=
  Rn.step (ef := .n ids ids (some (n, .pu te (l.flatMap e)))) (v := v) (n' := n + 1) ⟨hn, lt1k hk1⟩ (fun K hK => by
    simp only [evOp, hf.h]
    exact .inr (.inr ⟨_, ids, n, .pu te (l.flatMap e), ⟨g, xs, _, _, fun _ => n, rfl, hs, fun h2 ha hn2 => ⟨fits_new hn2 (lt1k hk1) (lowb hi5) (fun id hid => agree_isSome ha hid (all_some hz id hid)), by rw [← hx]; exact (hv.agree ha).args fun id hid => hid⟩, hy.symm⟩, hK⟩)) hfl (by simp only [AS.fin, upd, putO, putE, hp.eq, hh.eq]; exact hK)
theorem retS3 {rs : List ResultVar} {r1 r2 r3 : ResultVar} {v1 v2 v3 y : AV} {h1 : Hp} (hrs : rs = [r1, r2, r3] := by exact rfl) (hr1 : RvR X ⟨env, h, n⟩ r1 v1 := by first | exact .tmp (by first | exact .tmp rfl | exact .of rfl) | exact .cell ⟨rfl⟩ rfl inferInstance rfl rfl | (apply RvR.cellA; exact ⟨rfl⟩; rfl; infer_instance; rfl; repeat (first | exact CutR.done | apply CutR.take | apply CutR.skip))) (hr2 : RvR X ⟨env, h, n⟩ r2 v2 := by first | exact .tmp (by first | exact .tmp rfl | exact .of rfl) | exact .cell ⟨rfl⟩ rfl inferInstance rfl rfl | (apply RvR.cellA; exact ⟨rfl⟩; rfl; infer_instance; rfl; repeat (first | exact CutR.done | apply CutR.take | apply CutR.skip))) (hr3 : RvR X ⟨env, h, n⟩ r3 v3 := by first | exact .tmp (by first | exact .tmp rfl | exact .of rfl) | exact .cell ⟨rfl⟩ rfl inferInstance rfl rfl | (apply RvR.cellA; exact ⟨rfl⟩; rfl; infer_instance; rfl; repeat (first | exact CutR.done | apply CutR.take | apply CutR.skip)))
    (hy : tupV [v1, v2, v3] = some y) (hle : leH h h1) (hw : wfH h1 h1 = true := by rfl) (hrf : refsIn h1 y.refs = true := by rfl) : retS X rs y h1 ⟨env, h, n⟩ := by
  subst hrs
  refine ⟨hle, hw, hrf, ?_⟩
  simp only [resAVs]
  exact hr1.res _ (hr2.res _ (hr3.res _ ⟨[v1, v2, v3], .cons .same (.cons .same (.cons .same .nil)), hy⟩))
theorem retS1A {rs : List ResultVar} {r1 : ResultVar} {v1 y : AV} {h1 : Hp} (hrs : rs = [r1] := by exact rfl) (hr1 : RvR X ⟨env, h, n⟩ r1 v1 := by first | exact .tmp (by first | exact .tmp rfl | exact .of rfl) | exact .cell ⟨rfl⟩ rfl inferInstance rfl rfl | (apply RvR.cellA; exact ⟨rfl⟩; rfl; infer_instance; rfl; repeat (first | exact CutR.done | apply CutR.take | apply CutR.skip))) (hy : v1 = y) (hle : leH h h1) (hw : wfH h1 h1 = true := by rfl) (hrf : refsIn h1 y.refs = true := by rfl) : retS X rs y h1 ⟨env, h, n⟩ := by
  subst hrs; subst hy
  refine ⟨hle, hw, hrf, ?_⟩
  simp only [resAVs]
  exact hr1.res _ ⟨[v1], .cons .same .nil, rfl⟩
theorem R_fromO {x y : Operand} {id S q m : Nat} {ta te : TypeId} {T : TI} {s b : Nat} {zz : Option Value} {ky : IntKind} {z : Int} [hT : TInf X ta ⟨.slice te, s, b, zz⟩] [hE : TInf X te T] (hx : EvR env x (.one (.own id S q)) := by exact ⟨rfl⟩) (hy : EvR env y (.one (.pv (.int ky z))) := by exact ⟨rfl⟩)
    (hS : T.size = S := by rfl) (h0 : 0 ≤ z ∧ z ≤ q := by first | (constructor <;> omega) | (constructor <;> (first | omega | (simp only [List.length_set, List.length_append, List.length_cons, List.length_nil, List.length_take, List.length_drop, List.length_replicate, List.length_map, List.length_reverse] at * <;> omega)))) (hm : z.toNat = m := by first | (with_reducible exact Int.toNat_natCast _) | (with_reducible exact toNat_add _ _) | (with_reducible exact toNat_add1 _) | exact Eq.refl _) (hfl : FlR D env (.slice ta x (some y) none none) (.one (.sub id S (m * S) (q - m))) (.n [] [] none) D' := by first | exact .seq | exact .drawn rfl)
    (hK : Rn X N R k ops D' rest ⟨(d, .one (.sub id S (m * S) (q - m))) :: env, h, n⟩) : Rn X N R k ops D (⟨some d, .slice ta x (some y) none none, ty, ps, af, none⟩ :: rest) ⟨env, h, n⟩ :=
  Rn.val rfl (fun K hK => by
    subst hm
    simp only [evVal, evSlice, Option.map_none, Option.map_some, hx.h, hy.h, bnds, hT.h, hE.h, evSlOwn]
    exact ⟨hS, h0.1, h0.2, hK⟩) hfl hK

theorem R_remk {x y : Operand} {kx : IntKind} {a b : Int} (hx : EvR env x (.one (.pv (.int kx a))) := by first | exact .tmp rfl | exact .ci rfl) (hy : EvR env y (.one (.pv (.int kx b))) := by first | exact .tmp rfl | exact .ci rfl) (ha : 0 ≤ a := by omega) (hb : 0 < b := by omega)
    (hfl : FlR D env (.binOp .rem tx x y t') (.one (.pv (.int kx (a % b)))) (.n [] [] none) D' := by first | exact .seq | exact .drawn rfl) (hK : Rn X N R k ops D' rest ⟨(d, .one (.pv (.int kx (a % b)))) :: env, h, n⟩) :
    Rn X N R k ops D (⟨some d, .binOp .rem tx x y t', ty, ps, af, none⟩ :: rest) ⟨env, h, n⟩ := R_bin hx hy (fun K hK => ⟨rfl, by omega, by rw [Int.tmod_eq_emod_of_nonneg ha]; exact hK⟩) hfl hK
theorem R_quo8 {x y : Operand} {a b : Int} (hx : EvR env x (.one (.pv (.int .u8 a))) := by first | exact .tmp rfl | exact .ci rfl) (hy : EvR env y (.one (.pv (.int .u8 b))) := by first | exact .tmp rfl | exact .ci rfl) (ha : 0 ≤ a ∧ a ≤ 255 := by omega) (hb : 0 < b := by omega)
    (hfl : FlR D env (.binOp .quo tx x y t') (.one (.pv (.int .u8 (a / b)))) (.n [] [] none) D' := by first | exact .seq | exact .drawn rfl) (hK : Rn X N R k ops D' rest ⟨(d, .one (.pv (.int .u8 (a / b)))) :: env, h, n⟩) :
    Rn X N R k ops D (⟨some d, .binOp .quo tx x y t', ty, ps, af, none⟩ :: rest) ⟨env, h, n⟩ := R_bin hx hy (fun K hK => ⟨rfl, by omega, by
      have h1 := Int.ediv_nonneg ha.1 (Int.le_of_lt hb)
      have h2 := Int.ediv_le_self b ha.1
      rw [Int.tdiv_eq_ediv_of_nonneg ha.1, wrap_u8 (by omega) (by omega)]; exact hK⟩) hfl hK
/-- An append of an own row's beginning. -/
theorem R_appO {x y : Operand} {α : Type} {e : α → List PV} {l l2 : List α} {id id2 S m q B s b : Nat} {te te2 : TypeId} {u : TypeDesc} {zz : Option Value} {z : Value} {z2 : Bool} [hT : TInf X tx ⟨.slice te, s, b, zz⟩] [hE : TInf X te ⟨u, S, B, some z⟩] (hx : EvR env x (.one (.own id S m)) := by exact ⟨rfl⟩) (hlk : look h id = some (.pu te (l.flatMap e), false) := by rfl)
    (hm : m = l.length := by first | rfl | omega | simp) (hS : ∀ x, (e x).length = S := by exact fun _ => rfl) (hy : EvR env y (.one (.own id2 S q)) := by exact ⟨rfl⟩) (hlk2 : look h id2 = some (.pu te2 (l2.flatMap e), z2) := by rfl) (hq : q ≤ l2.length := by first | omega | (simp only [List.length_set, List.length_append, List.length_cons, List.length_nil, List.length_take, List.length_drop, List.length_replicate, List.length_map, List.length_reverse] at * <;> omega)) (h0 : Nat.ble 1 S = true := by rfl) (h1 : Nat.ble 1 B = true := by rfl) (hz : z.cells.size = S := by rfl) (hb : (m + q) * B ≤ 140737488355328 := by first | omega | (simp only [List.length_set, List.length_append, List.length_cons, List.length_nil, List.length_take, List.length_drop, List.length_replicate, List.length_map, List.length_reverse] at * <;> omega)) (hk1 : Nat.blt id 500 = true := by rfl)
    {h2' h3' : Hp} (hsc : scrubH id h = h2' := by exact rfl) (hh : PutR h2' id (.pu te ((l ++ l2.take q).flatMap e), false) h3' := by repeat (first | exact .hit | exact .nil | (apply PutR.miss; rfl))) (henv : scrubEnv id env = env' := by exact Eq.refl _)
    (hfl : FlR D env (.call ⟨.builtin .append, ⟨[x, y]⟩, ⟨[tx, tx]⟩⟩) (.one (.own id S (m + q))) (.e h3' (some id)) D' := by first | exact .seq | exact .drawn rfl)
    (hK : Rn X N R k ops D' rest ⟨(d, .one (.own id S (m + q))) :: env', h3', n⟩) : Rn X N R k ops D (⟨some d, .call ⟨.builtin .append, ⟨[x, y]⟩, ⟨[tx, tx]⟩⟩, ty, ps, af, none⟩ :: rest) ⟨env, h, n⟩ :=
  Rn.step (ef := .e h3' (some id)) (n' := n) trivial (fun K hK => by
    subst hm
    simp only [evOp, hx.h, hy.h]
    refine .inr (.inr ⟨trivial, ?_⟩)
    simp only [evAppOO, hT.h, hE.h, ownPart]
    refine ⟨Nat.le_of_ble_eq_true h0, Nat.le_of_ble_eq_true h1, hz, trivial, trivial, ?_⟩
    rw [hlk, hlk2]
    refine ⟨rfl, by rw [flat_len hS]; exact Nat.le_refl _, hb, lt5h hk1, ?_, ?_⟩
    · rw [flat_len hS]; rw [Nat.zero_add]; exact Nat.mul_le_mul_right S hq
    have e1 : (l.flatMap e).take (l.length * S) ++ ((l2.flatMap e).drop (0)).take (q * S) = (l ++ l2.take q).flatMap e := by rw [← flat_len hS l, List.take_length, List.flatMap_append, List.drop_zero, flat_take hS]
    rw [e1, hsc, hh.eq]
    exact hK) hfl (by simp only [AS.fin, putO, putE, henv]; exact hK)
/-- An append of a part of an own row. -/
theorem R_appU {x y : Operand} {α : Type} {e : α → List PV} {l l2 : List α} {id id2 S m p q B s b : Nat} {te te2 : TypeId} {u : TypeDesc} {zz : Option Value} {z : Value} {z2 : Bool} [hT : TInf X tx ⟨.slice te, s, b, zz⟩] [hE : TInf X te ⟨u, S, B, some z⟩] (hx : EvR env x (.one (.own id S m)) := by exact ⟨rfl⟩) (hlk : look h id = some (.pu te (l.flatMap e), false) := by rfl)
    (hm : m = l.length := by first | rfl | omega | simp) (hS : ∀ x, (e x).length = S := by exact fun _ => rfl) (hy : EvR env y (.one (.sub id2 S (p * S) q)) := by exact ⟨rfl⟩) (hlk2 : look h id2 = some (.pu te2 (l2.flatMap e), z2) := by rfl) (hq : p + q ≤ l2.length := by first | omega | (simp only [List.length_set, List.length_append, List.length_cons, List.length_nil, List.length_take, List.length_drop, List.length_replicate, List.length_map, List.length_reverse] at * <;> omega)) (h0 : Nat.ble 1 S = true := by rfl) (h1 : Nat.ble 1 B = true := by rfl) (hz : z.cells.size = S := by rfl) (hb : (m + q) * B ≤ 140737488355328 := by first | omega | (simp only [List.length_set, List.length_append, List.length_cons, List.length_nil, List.length_take, List.length_drop, List.length_replicate, List.length_map, List.length_reverse] at * <;> omega)) (hk1 : Nat.blt id 500 = true := by rfl)
    {h2' h3' : Hp} (hsc : scrubH id h = h2' := by exact rfl) (hh : PutR h2' id (.pu te ((l ++ (l2.drop p).take q).flatMap e), false) h3' := by repeat (first | exact .hit | exact .nil | (apply PutR.miss; rfl))) (henv : scrubEnv id env = env' := by exact Eq.refl _)
    (hfl : FlR D env (.call ⟨.builtin .append, ⟨[x, y]⟩, ⟨[tx, tx]⟩⟩) (.one (.own id S (m + q))) (.e h3' (some id)) D' := by first | exact .seq | exact .drawn rfl)
    (hK : Rn X N R k ops D' rest ⟨(d, .one (.own id S (m + q))) :: env', h3', n⟩) : Rn X N R k ops D (⟨some d, .call ⟨.builtin .append, ⟨[x, y]⟩, ⟨[tx, tx]⟩⟩, ty, ps, af, none⟩ :: rest) ⟨env, h, n⟩ :=
  Rn.step (ef := .e h3' (some id)) (n' := n) trivial (fun K hK => by
    subst hm
    simp only [evOp, hx.h, hy.h]
    refine .inr (.inr ⟨trivial, ?_⟩)
    simp only [evAppOO, hT.h, hE.h, ownPart]
    refine ⟨Nat.le_of_ble_eq_true h0, Nat.le_of_ble_eq_true h1, hz, trivial, trivial, ?_⟩
    rw [hlk, hlk2]
    refine ⟨rfl, by rw [flat_len hS]; exact Nat.le_refl _, hb, lt5h hk1, ?_, ?_⟩
    · rw [flat_len hS]; rw [← Nat.add_mul]; exact Nat.mul_le_mul_right S hq
    have e1 : (l.flatMap e).take (l.length * S) ++ ((l2.flatMap e).drop (p * S)).take (q * S) = (l ++ (l2.drop p).take q).flatMap e := by rw [← flat_len hS l, List.take_length, List.flatMap_append, flat_drop hS, flat_take hS]
    rw [e1, hsc, hh.eq]
    exact hK) hfl (by simp only [AS.fin, putO, putE, henv]; exact hK)
/-- A struct loaded out of an own row. -/
theorem R_ldOA {x : Operand} {α : Type} {e : α → List PV} {l : List α} {id S m : Nat} {te : TypeId} {zb : Bool} {a : α} {cs : List AC} {T : TI} [hT : TInf X tx T] (hl : l[m]? = some a) (hx : EvR env x (.one (.ptr id (m * S))) := by exact ⟨rfl⟩) (hlk : look h id = some (.pu te (l.flatMap e), zb) := by rfl) (hS : ∀ x, (e x).length = S := by exact fun _ => rfl) (hT1 : T.size = S := by rfl) (hag : isAggU T.u = true := by rfl)
    (hm : (e a).map AC.pv = cs := by exact rfl) (hfl : FlR D env (.load tx x) (.agg cs) (.n [id] [] none) D' := by first | exact .seq | exact .drawn rfl)
    (hK : Rn X N R k ops D' rest ⟨(d, .agg cs) :: env, h, n⟩) : Rn X N R k ops D (⟨some d, .load tx x, ty, ps, af, none⟩ :: rest) ⟨env, h, n⟩ :=
  Rn.step (ef := .n [id] [] none) trivial (fun K hK => by
    subst hm
    obtain ⟨e1, e2⟩ := flat_part hS hl
    simp only [evOp, hx.h, evLoadBx, hT.h, hlk, hag, if_true, hT1, e1]
    exact ⟨e2, hK⟩) hfl hK
end
/-! ### Boxes that change their names -/
def sw2 (a b i : Nat) : Nat := if i = a then b else if i = b then a else i
theorem sw2_sw2 (a b i : Nat) : sw2 a b (sw2 a b i) = i := by
  unfold sw2
  by_cases h1 : i = a
  · rw [if_pos h1]
    by_cases h2 : b = a
    · rw [if_pos h2]; omega
    · rw [if_neg h2, if_pos rfl]; exact h1.symm
  · rw [if_neg h1]
    by_cases h2 : i = b
    · rw [if_pos h2, if_pos rfl]; exact h2.symm
    · rw [if_neg h2, if_neg h1, if_neg h2]
def renE (f : Nat → Nat) (env : List (Nat × AV)) : List (Nat × AV) := env.map fun x => (x.1, x.2.ren f)
def renH (f : Nat → Nat) (h : Hp) : Hp := h.map fun x => (f x.1, (x.2.1.ren f, x.2.2))
theorem look_renE (f : Nat → Nat) : ∀ (env : List (Nat × AV)) (t : Nat), look (renE f env) t = (look env t).map (AV.ren f)
  | [], t => rfl
  | (k, x) :: l, t => by
    have ih := look_renE f l t
    unfold renE at ih ⊢
    simp only [List.map_cons, look]
    split
    · rfl
    · exact ih
theorem look_renH {f : Nat → Nat} (hf : ∀ i, f (f i) = i) : ∀ (h : Hp) (i : Nat), look (renH f h) i = (look h (f i)).map fun e => (e.1.ren f, e.2)
  | [], i => rfl
  | (k, x) :: l, i => by
    have ih := look_renH hf l i
    unfold renH at ih ⊢
    simp only [List.map_cons, look]
    by_cases h1 : f k = i
    · have h2 : k = f i := by rw [← h1, hf]
      rw [if_pos h1.symm, if_pos h2.symm]; rfl
    · have h2 : ¬ k = f i := fun e => h1 (by rw [e, hf])
      rw [if_neg (fun e => h1 e.symm), if_neg (fun e => h2 e.symm)]; exact ih
theorem le_ren {X : Ctx} {N : Nat} {env : List (Nat × AV)} {h : Hp} {n n' : Nat} {υ : AS} (a b : Nat) (ha : Nat.blt a 500 = true) (hb : Nat.blt b 500 = true) (hle : (AS.mk (renE (sw2 a b) env) (renH (sw2 a b) h) n').Le X N υ) : (AS.mk env h n).Le X N υ := by
  refine AS.Le.trans ?_ hle
  have ha' : a < 500 := lt5h ha
  have hb' : b < 500 := lt5h hb
  have hf : ∀ i, sw2 a b (sw2 a b i) = i := sw2_sw2 a b
  have hbig : ∀ i, 500 ≤ i → sw2 a b i = i := fun i hi => by unfold sw2; rw [if_neg (by omega), if_neg (by omega)]
  have hlow : ∀ i, sw2 a b i ≠ i → i < 500 ∧ sw2 a b i < 500 := fun i hi => by
    unfold sw2 at hi ⊢
    by_cases h1 : i = a
    · rw [if_pos h1]; omega
    · rw [if_neg h1] at hi ⊢
      by_cases h2 : i = b
      · rw [if_pos h2]; omega
      · rw [if_neg h2] at hi; exact absurd rfl hi
  generalize sw2 a b = f at *
  intro F act w ⟨β, r⟩
  have hl : ∀ i e, look (renH f h) i = some e → ∃ bx, look h (f i) = some (bx, e.2) ∧ e.1 = bx.ren f := fun i e hh => by
    rw [look_renH hf] at hh
    cases hq : look h (f i) with
    | none => rw [hq] at hh; cases hh
    | some q => rw [hq] at hh; simp only [Option.map_some, Option.some.injEq] at hh; subst hh; exact ⟨q.1, rfl, rfl⟩
  have hl2 : ∀ i bx z, look h i = some (bx, z) → look (renH f h) (f i) = some (bx.ren f, z) := fun i bx z hh => by rw [look_renH hf, hf, hh]; rfl
  have hok : F.ok w (renH f h) (fun i => β (f i)) = F.ok w h β := by
    funext g
    apply propext
    constructor
    · intro hg
      refine ⟨hg.1, hg.2.1, fun id bx hh => ?_⟩
      have := hg.2.2 (f id) (bx.ren f) (hl2 id bx false hh)
      simp only [hf] at this
      exact this
    · intro hg
      refine ⟨hg.1, hg.2.1, fun id bx hh => ?_⟩
      obtain ⟨bx0, h1, _⟩ := hl id _ hh
      exact hg.2.2 (f id) bx0 h1
  have hren : ∀ i : Nat, (fun i => β (f i)) (f i) = β i := fun i => by simp only [hf]
  have hrow : ∀ {bx : Bx} {i g : Nat} {arr : Array Value} {e : TypeId}, RowAtB bx w (f i) g arr e → RowAtB bx w i g arr e := fun {bx i g arr e} hr => by
    by_cases h1 : f i = i
    · rw [h1] at hr; exact hr
    · have := hlow i h1
      exact hr.ren (.inl this.2)
  have hr : HRel X F (renH f h) (fun i => β (f i)) w := {
    below := r.h.below
    g := r.h.g
    box := fun id bx z hh => by
      obtain ⟨bx0, h1, h2⟩ := hl id _ hh
      simp only at h1 h2
      have h3 := r.h.box (f id) bx0 z h1
      rw [hok]
      unfold BoxRep at h3 ⊢
      simp only
      cases hg : β (f id) with
      | none =>
        rw [hg] at h3
        simp only at h3 ⊢
        rw [h2, Bx.ren_cells, h3]; rfl
      | some g =>
        rw [hg] at h3
        simp only at h3 ⊢
        obtain ⟨h4, arr, e, h5, h6, h7⟩ := h3
        refine ⟨h4, arr, e, by rw [h2]; exact RowAtB.renB.2 (hrow h5), fun e' l he => ?_, fun j c hj => ?_⟩
        · rw [h2] at he
          cases bx0 with
          | pu e0 l0 => simp only [Bx.ren, Bx.pu.injEq] at he; obtain ⟨rfl, rfl⟩ := he; exact h6 _ _ rfl
          | mx cs => cases he
          | ob cs => cases he
        · rw [h2, Bx.ren_cells, List.getElem?_map] at hj
          cases hc : bx0.cells[j]? with
          | none => rw [hc] at hj; cases hj
          | some c0 =>
            rw [hc] at hj
            simp only [Option.map_some, Option.some.injEq] at hj
            subst hj
            obtain ⟨u, hu, hru⟩ := h7 j c0 hc
            exact ⟨u, hu, repC_ren (fun i _ => hren i) hru⟩
    inj := fun id id' e e' g hne h1 h2 hg => by
      obtain ⟨b1, h3, _⟩ := hl id _ h1
      obtain ⟨b2, h4, _⟩ := hl id' _ h2
      exact r.h.inj (f id) (f id') _ _ g (fun he => hne (by rw [← hf id, he, hf])) h3 h4 hg
    wf := fun id bx z hh i hi => by
      obtain ⟨bx0, h1, h2⟩ := hl id _ hh
      simp only at h1 h2
      rw [h2, Bx.ren_cells] at hi
      obtain ⟨j, hj, rfl⟩ := acRefs_ren hi
      obtain ⟨e, he⟩ := Option.isSome_iff_exists.1 (r.h.wf _ _ _ h1 j hj)
      rw [hl2 j e.1 e.2 he]; rfl
    pin := fun id hid => by
      have hfi : f id = id := hbig id (by omega)
      have hp := r.h.pin id hid
      refine ⟨by simp only [hfi]; exact hp.1, fun g hg => ⟨(hp.2 g hg).1, (hp.2 g hg).2.1, fun i e hh hne => ?_⟩⟩
      obtain ⟨bx0, h1, _⟩ := hl i _ hh
      exact (hp.2 g hg).2.2 (f i) _ h1 (fun he => hne (by rw [← hf i, he, hfi])) }
  refine ⟨fun i => β (f i), hr, r.defers, r.size, fun t v hh => ?_⟩
  show (∃ u, _ ∧ RepV w (F.ok w (renH f h) (fun i => β (f i))) (fun i => β (f i)) v u) ∧ _
  rw [hok]
  rw [look_renE] at hh
  cases hq : look env t with
  | none => rw [hq] at hh; cases hh
  | some v0 =>
    rw [hq] at hh
    simp only [Option.map_some, Option.some.injEq] at hh
    subst hh
    obtain ⟨⟨u, hu, hru⟩, hw2⟩ := r.env t v0 hq
    refine ⟨⟨u, hu, repV_ren (fun i _ => hren i) hru⟩, fun i hi => ?_⟩
    obtain ⟨j, hj, rfl⟩ := AV.ren_refs hi
    obtain ⟨e, he⟩ := Option.isSome_iff_exists.1 (hw2 j hj)
    show (look (renH f h) (f j)).isSome = true
    rw [hl2 j e.1 e.2 he]; rfl
/-- A loop begun from what is known less. -/
theorem Lp.le {X : Ctx} {N : Nat} {R : AS → Prop} {k : List KI} {b : Code} {σ τ : AS} (h : σ.Le X N τ) (hl : Lp X N R k b τ) : Lp X N R k b σ := ⟨fun F a w r => hl.h F a w (h F a w r)⟩
theorem Lp.ren {X : Ctx} {N : Nat} {R : AS → Prop} {k : List KI} {c : Code} {env : List (Nat × AV)} {h : Hp} {n : Nat} (a b : Nat) (ha : Nat.blt a 500 = true := by rfl) (hb : Nat.blt b 500 = true := by rfl) (hl : Lp X N R k c ⟨renE (sw2 a b) env, renH (sw2 a b) h, n⟩) : Lp X N R k c ⟨env, h, n⟩ := Lp.le (le_ren (n' := n) a b ha hb fun _ _ _ r => r) hl
/-- A box that is only read from then on. -/
theorem le_frz {X : Ctx} {N : Nat} {env : List (Nat × AV)} {h : Hp} {n n' : Nat} {υ : AS} (id : Nat) (hle : (AS.mk env (frz h id) n').Le X N υ) : (AS.mk env h n).Le X N υ := by
  refine AS.Le.trans ?_ hle
  intro F a w ⟨β, r⟩
  have hok : ∀ b, F.ok w h β b → F.ok w (frz h id) β b := fun b hb => ok_frzs [id] hb
  have k : Keeps (fun _ => True) w (F.ok w h β) β w (F.ok w (frz h id) β) β := ⟨fun b hb => ⟨hok b hb, rfl⟩, fun _ _ => ⟨rfl, fun _ _ => rfl⟩⟩
  refine ⟨β, r.h.frz id, r.defers, r.size, fun t v hl2 => ?_⟩
  obtain ⟨⟨u, hu, hru⟩, hw2⟩ := r.env t v hl2
  exact ⟨⟨u, hu, k.repV (fun _ _ => trivial) hru⟩, fun i hi => by
    have := isSome_frzs [id] h i
    show (look (frz h id) i).isSome = true
    rw [show frz h id = frzs h [id] from rfl, this]; exact hw2 i hi⟩
theorem Lp.frz {X : Ctx} {N : Nat} {R : AS → Prop} {k : List KI} {c : Code} {env : List (Nat × AV)} {h : Hp} {n : Nat} (id : Nat) (hl : Lp X N R k c ⟨env, Go.VL.frz h id, n⟩) : Lp X N R k c ⟨env, h, n⟩ := Lp.le (le_frz (n' := n) id fun _ _ _ r => r) hl
/-- A loop told from its body's beginning, for rounds one by one. -/
structure LpI (X : Ctx) (N : Nat) (R : AS → Prop) (k : List KI) (b : Code) (σ : AS) : Prop where
  h : ∀ F a w, RelS X F N σ a w → ∀ fb k' cs, ∃ e a' w', (∃ σ', kQ X N R k e σ' ∧ RelS X F N σ' a' w') ∧ Arrives X.P (lone (fb.at a (.code b :: .inLoop b :: k')) cs w) fb k' cs e a' w'
theorem Lp.rounds {X : Ctx} {N : Nat} {R : AS → Prop} {k : List KI} {b : Code} {σ : AS} (h : LpI X N R k b σ) : Lp X N R k b σ := ⟨fun F a w r fb k' cs => by
  obtain ⟨e, a', w', hq, harr⟩ := h.h F a w r fb k' cs
  exact ⟨e, a', w', hq, .of_steps (.one step_loop) harr⟩⟩
theorem LpI.round {X : Ctx} {N : Nat} {R : AS → Prop} {k : List KI} {b : Code} {σ : AS} (hok : codeOk N b = true := by rfl) (h : Wp X N R (.stop (fun σ' => LpI X N R k b σ') :: k) b σ) : LpI X N R k b σ := ⟨fun F a w r fb k' cs => by
  obtain ⟨e, a', w', ⟨σ', hq, hrel⟩, harr⟩ := wpc_sound hok h.h F a w r fb (.inLoop b :: k') cs
  cases e with
  | normal =>
    have hq : LpI X N R k b σ' := by simpa only [kQ] using hq
    obtain ⟨e2, a2, w2, hq2, harr2⟩ := hq.h F a' w' hrel fb k' cs
    exact ⟨e2, a2, w2, hq2, .of_steps (Steps.trans harr (.one step_inLoop)) harr2⟩
  | exit id => exact ⟨_, a', w', ⟨σ', by simpa only [kQ] using hq, hrel⟩, .pass (x := .inLoop b) rfl (fun _ _ => .inl (by simp)) harr⟩
  | ret => exact ⟨_, a', w', ⟨σ', by cases k <;> simpa only [kQ] using hq, hrel⟩, .pass (x := .inLoop b) rfl (fun _ _ => .inl (by simp)) harr⟩
  | goto l => exact absurd hq (by simp only [kQ]; exact id)
  | panic c => exact absurd hq (by simp only [kQ]; exact id)
  | outgrown => exact absurd hq (by simp only [kQ]; exact id)⟩
theorem LpI.le {X : Ctx} {N : Nat} {R : AS → Prop} {k : List KI} {b : Code} {σ : AS} (τ : AS) (h : σ.Le X N τ) (hl : LpI X N R k b τ) : LpI X N R k b σ := ⟨fun F a w r => hl.h F a w (h F a w r)⟩
end Go.VL


namespace Go.VL
open Go.RowKit
set_option linter.unusedVariables false
open Go.ChangeMaps (setBlock)

/-- A map's box: its entries, in the order in which they came. -/
def mapB {α : Type} (e : α → List PV) (l : List α) : Bx := .ob (.pv (.lit (.bool true)) :: .pv (.lit (.int .i64 l.length)) :: (l.flatMap e).map AC.pv)
/-- The box of one that walks over the map of a box with n entries: which it has handed out. -/
def iterB (m n : Nat) (seen : List Nat) : Bx := .ob (.pv (.lit (.bool false)) :: .mp m :: .pv (.lit (.int .i64 n)) :: .pv (.lit (.int .i64 seen.length)) :: seen.map fun i : Nat => .pv (.lit (.int .i64 (i : Int))))
theorem flat2_get {α β : Type} (a b : α → β) : ∀ (l : List α) (j : Nat), (l.flatMap fun x => [a x, b x])[2 * j]? = l[j]?.map a ∧ (l.flatMap fun x => [a x, b x])[2 * j + 1]? = l[j]?.map b
  | [], j => by simp
  | x :: l, 0 => by simp
  | x :: l, j + 1 => by
    have ih := flat2_get a b l j
    rw [show 2 * (j + 1) = 2 * j + 2 by omega]
    exact ih
theorem flat2_len {α β : Type} (a b : α → β) (l : List α) : (l.flatMap fun x => [a x, b x]).length = 2 * l.length := by
  induction l with
  | nil => rfl
  | cons x l ih => rw [List.flatMap_cons, List.length_append, ih]; simp only [List.length_cons, List.length_nil]; omega
theorem lit_eq {w : World} {ok : Nat → Prop} {β : Bt} {v u : Value} (h : RepC w ok β (.pv (.lit v)) u) : u = v := by
  have h : RepP w ok (.lit v) u := h
  cases h; rfl
/-- The pairs that stand for a map's entries. -/
structure KV {α : Type} (w : World) (ok : Nat → Prop) (k v : α → PV) (l : List α) (kv : List (Value × Value)) : Prop where
  len : kv.length = l.length
  get : ∀ (j : Nat) x, l[j]? = some x → ∃ a b, kv[j]? = some (a, b) ∧ RepP w ok (k x) a ∧ RepP w ok (v x) b
theorem KV.nil {α : Type} {w : World} {ok : Nat → Prop} {k v : α → PV} : KV w ok k v [] [] := ⟨rfl, fun j x h => by simp at h⟩
theorem KV.tail {α : Type} {w : World} {ok : Nat → Prop} {k v : α → PV} {x : α} {l : List α} {p : Value × Value} {kv : List (Value × Value)} (h : KV w ok k v (x :: l) (p :: kv)) : KV w ok k v l kv :=
  ⟨by simpa using h.len, fun j y hj => h.get (j + 1) y hj⟩
theorem KV.head {α : Type} {w : World} {ok : Nat → Prop} {k v : α → PV} {x : α} {l : List α} {p : Value × Value} {kv : List (Value × Value)} (h : KV w ok k v (x :: l) (p :: kv)) : RepP w ok (k x) p.1 ∧ RepP w ok (v x) p.2 := by
  obtain ⟨a, b, h1, h2⟩ := h.get 0 x rfl
  simp only [List.getElem?_cons_zero, Option.some.injEq] at h1
  subst h1; exact h2
theorem KV.cons {α : Type} {w : World} {ok : Nat → Prop} {k v : α → PV} {x : α} {l : List α} {a b : Value} {kv : List (Value × Value)} (ha : RepP w ok (k x) a) (hb : RepP w ok (v x) b) (h : KV w ok k v l kv) : KV w ok k v (x :: l) ((a, b) :: kv) :=
  ⟨by simp [h.len], fun j y hj => by
    cases j with
    | zero => simp only [List.getElem?_cons_zero, Option.some.injEq] at hj; subst hj; exact ⟨a, b, rfl, ha, hb⟩
    | succ j => exact h.get j y hj⟩
section
variable {X : Ctx} {F : Fr} {h : Hp} {β : Bt} {w w' : World}
theorem map_at {α : Type} {k v : α → PV} {l : List α} {id : Nat} {z : Bool} (r : HRel X F h β w) (hl : look h id = some (mapB (fun x => [k x, v x]) l, z)) :
    ∃ g kv, β id = some g ∧ F.own g ∧ w.heap[g]? = some (.map (mapEs 0 kv).toArray kv.length) ∧ KV w (F.ok w h β) k v l kv := by
  have hb := r.box id _ _ hl
  unfold BoxRep at hb
  cases hβ : β id with
  | none => rw [hβ] at hb; exact absurd hb (by simp [mapB, Bx.cells])
  | some g =>
    rw [hβ] at hb
    obtain ⟨ho, arr, e, hrow, _, hc⟩ := hb
    have hrow : ObjAt w g arr := hrow
    cases hrow with
    | iter m n seen hh =>
      obtain ⟨u, hu, hr⟩ := hc 0 (.pv (.lit (.bool true))) rfl
      have := lit_eq hr
      subst this
      simp at hu
    | map kv hh =>
      refine ⟨g, kv, rfl, ho, hh, ?_, fun j x hj => ?_⟩
      · obtain ⟨u, hu, hr⟩ := hc 1 (.pv (.lit (.int .i64 l.length))) rfl
        have := lit_eq hr
        subst this
        simp only [List.getElem?_toArray, List.getElem?_cons_succ, List.getElem?_cons_zero, Option.some.injEq, Value.int.injEq, true_and] at hu
        omega
      · have e1 : (mapB (fun x => [k x, v x]) l).cells[2 * j + 2]? = some (.pv (k x)) := by
          show ((l.flatMap fun x => [k x, v x]).map AC.pv)[2 * j]? = _
          rw [List.getElem?_map, (flat2_get k v l j).1, hj]; rfl
        have e2 : (mapB (fun x => [k x, v x]) l).cells[2 * j + 1 + 2]? = some (.pv (v x)) := by
          show ((l.flatMap fun x => [k x, v x]).map AC.pv)[2 * j + 1]? = _
          rw [List.getElem?_map, (flat2_get k v l j).2, hj]; rfl
        obtain ⟨a, ha, hra⟩ := hc _ _ e1
        obtain ⟨b, hb, hrb⟩ := hc _ _ e2
        have f1 : (flatKV kv)[2 * j]? = some a := by rw [List.getElem?_toArray] at ha; exact ha
        have f2 : (flatKV kv)[2 * j + 1]? = some b := by rw [List.getElem?_toArray] at hb; exact hb
        unfold flatKV at f1 f2
        rw [(flat2_get Prod.fst Prod.snd kv j).1] at f1
        rw [(flat2_get Prod.fst Prod.snd kv j).2] at f2
        cases hkv : kv[j]? with
        | none => rw [hkv] at f1; cases f1
        | some p =>
          rw [hkv] at f1 f2
          simp only [Option.map_some, Option.some.injEq] at f1 f2
          exact ⟨a, b, by rw [← f1, ← f2], hra, hrb⟩
/-- The cells of a map's box. -/
theorem map_cells {α : Type} {k v : α → PV} {l : List α} {kv : List (Value × Value)} {ok : Nat → Prop} (h : KV w ok k v l kv) : ∀ (j : Nat) c, (mapB (fun x => [k x, v x]) l).cells[j]? = some c → ∃ u : Value, (Value.bool true :: Value.int .i64 kv.length :: flatKV kv).toArray[j]? = some u ∧ RepC w ok β c u
  | 0, c, hj => by cases hj; exact ⟨_, rfl, .lit _ rfl⟩
  | 1, c, hj => by cases hj; exact ⟨_, rfl, by rw [h.len]; exact .lit _ rfl⟩
  | j + 2, c, hj => by
    have hj : ((l.flatMap fun x => [k x, v x]).map AC.pv)[j]? = some c := hj
    suffices hh : ∃ u : Value, (flatKV kv)[j]? = some u ∧ RepC w ok β c u by
      obtain ⟨u, hu, hr⟩ := hh
      exact ⟨u, by rw [List.getElem?_toArray]; exact hu, hr⟩
    rw [List.getElem?_map] at hj
    unfold flatKV
    rcases Nat.mod_two_eq_zero_or_one j with hm | hm
    · obtain ⟨i, rfl⟩ : ∃ i, j = 2 * i := ⟨j / 2, by omega⟩
      rw [(flat2_get k v l i).1] at hj
      rw [(flat2_get Prod.fst Prod.snd kv i).1]
      cases hx : l[i]? with
      | none => rw [hx] at hj; cases hj
      | some x =>
        rw [hx] at hj
        simp only [Option.map_some, Option.some.injEq] at hj
        subst hj
        obtain ⟨a, b, h1, h2, h3⟩ := h.get i x hx
        exact ⟨a, by rw [h1]; rfl, h2⟩
    · obtain ⟨i, rfl⟩ : ∃ i, j = 2 * i + 1 := ⟨j / 2, by omega⟩
      rw [(flat2_get k v l i).2] at hj
      rw [(flat2_get Prod.fst Prod.snd kv i).2]
      cases hx : l[i]? with
      | none => rw [hx] at hj; cases hj
      | some x =>
        rw [hx] at hj
        simp only [Option.map_some, Option.some.injEq] at hj
        subst hj
        obtain ⟨a, b, h1, h2, h3⟩ := h.get i x hx
        exact ⟨b, by rw [h1]; rfl, h3⟩
theorem map_refs {α : Type} {e : α → List PV} {l : List α} : acRefs (mapB e l).cells = [] := by
  show acRefs (.pv _ :: .pv _ :: (l.flatMap e).map AC.pv) = []
  have := acRefs_pv (l.flatMap e)
  unfold acRefs at *
  simp only [List.flatMap_cons, AC.refs, List.nil_append]; exact this
theorem bsh_obj {g : Nat} {o : Obj} (h : w.heap[g]? = some o) (hn : ∀ c e f, o ≠ .cells c e f) : bsh w g = (0, 0) := by
  unfold bsh; rw [h]
  cases o <;> first | rfl | exact absurd rfl (hn _ _ _)
/-- An object changed. -/
theorem HRel.setO (r : HRel X F h β w) {id g : Nat} {bx bx' : Bx} {o o' : Obj} {arr' : Array Value} (hl : look h id = some (bx, false)) (hg : β id = some g) (ho : w.heap[g]? = some o) (hn : ∀ c e f, o ≠ .cells c e f) (hn' : ∀ c e f, o' ≠ .cells c e f)
    (hb : ∃ cs, bx' = .ob cs) (ha : ObjAt (setBlock w g o') g arr') (hc : ∀ (j : Nat) c, bx'.cells[j]? = some c → ∃ u : Value, arr'[j]? = some u ∧ RepC w (F.ok w h β) β c u) (hw : ∀ i ∈ acRefs bx'.cells, (look h i).isSome = true) :
    Post X F h β w (put h id (bx', false)) β (setBlock w g o') none := by
  obtain ⟨cs, rfl⟩ := hb
  have hlt : g < w.heap.size := (Array.getElem?_eq_some_iff.1 ho).1
  have hat : (setBlock w g o').heap[g]? = some o' := by simp [setBlock, hlt]
  have hoth : ∀ b, b ≠ g → (setBlock w g o').heap[b]? = w.heap[b]? := fun b hb => by simp only [setBlock]; rw [Array.getElem?_setIfInBounds_ne (fun e => hb e.symm)]
  have hsz : (setBlock w g o').heap.size = w.heap.size := by simp [setBlock]
  have hs : bsh (setBlock w g o') g = bsh w g := by rw [bsh_obj hat hn', bsh_obj ho hn]
  refine ⟨r.setB hl hg ⟨rfl, rfl, rfl, by rw [hsz]; exact Nat.le_refl _, fun k _ hk => hoth k hk⟩ hsz hs (e := 0) ha (fun e' l he => by cases he) hc hw, ?_, fun i hi => ?_⟩
  · have := r.set_keepsB (bx' := .ob cs) hl hg hoth hsz hs
    exact ⟨this.blk, fun i hi => this.ids i hi.1⟩
  · rw [look_put]; split <;> simp_all
end

/-! ### Entries looked for -/
def mGet {α : Type} (key : α → List UInt8) (s : List UInt8) : List α → Option α
  | [] => none
  | x :: l => if key x = s then some x else mGet key s l
def mPut {α : Type} (key : α → List UInt8) (y : α) : List α → List α
  | [] => [y]
  | x :: l => if key x = key y then y :: l else x :: mPut key y l
def mIdx {α : Type} (key : α → List UInt8) (s : List UInt8) : List α → Option Nat
  | [] => none
  | x :: l => if key x = s then some 0 else (mIdx key s l).map (· + 1)
theorem mGet_idx {α : Type} (key : α → List UInt8) (s : List UInt8) : ∀ l : List α, mGet key s l = (mIdx key s l).bind fun j => l[j]?
  | [] => rfl
  | x :: l => by
    unfold mGet mIdx
    split
    · rfl
    · rw [mGet_idx key s l]
      cases mIdx key s l <;> rfl
theorem mPut_idx {α : Type} (key : α → List UInt8) (y : α) : ∀ l : List α, mPut key y l = match mIdx key (key y) l with | some j => l.set j y | none => l ++ [y]
  | [] => rfl
  | x :: l => by
    unfold mPut mIdx
    split
    · rfl
    · rw [mPut_idx key y l]
      cases mIdx key (key y) l <;> rfl
theorem mIdx_some {α : Type} {key : α → List UInt8} {s : List UInt8} : ∀ {l : List α} {j : Nat}, mIdx key s l = some j → ∃ x, l[j]? = some x ∧ key x = s
  | x :: l, j, h => by
    unfold mIdx at h
    split at h
    · rename_i hk; simp only [Option.some.injEq] at h; subst h; exact ⟨x, rfl, hk⟩
    · cases hq : mIdx key s l with
      | none => rw [hq] at h; cases h
      | some i =>
        rw [hq] at h
        simp only [Option.map_some, Option.some.injEq] at h
        subst h
        obtain ⟨y, h1, h2⟩ := mIdx_some hq
        exact ⟨y, h1, h2⟩
theorem mapEs_get : ∀ (kv : List (Value × Value)) (i j : Nat), (mapEs i kv)[j]? = kv[j]?.map fun p => ⟨p.1, p.2, i + j⟩
  | [], i, j => by simp [mapEs]
  | (a, b) :: l, i, 0 => by simp [mapEs]
  | (a, b) :: l, i, j + 1 => by
    simp only [mapEs, List.getElem?_cons_succ]
    rw [mapEs_get l (i + 1) j]
    rw [show i + 1 + j = i + (j + 1) by omega]
theorem mapEs_len : ∀ (kv : List (Value × Value)) (i : Nat), (mapEs i kv).length = kv.length
  | [], i => rfl
  | (a, b) :: l, i => by simp [mapEs, mapEs_len l]
theorem mapEs_app (a b : Value) : ∀ (kv : List (Value × Value)) (i : Nat), mapEs i (kv ++ [(a, b)]) = mapEs i kv ++ [⟨a, b, i + kv.length⟩]
  | [], i => rfl
  | (c, d) :: l, i => by
    simp only [List.cons_append, mapEs, List.length_cons]
    rw [mapEs_app a b l (i + 1), show i + 1 + l.length = i + (l.length + 1) by omega]
theorem mapEs_set (a b : Value) : ∀ (kv : List (Value × Value)) (i j : Nat), (mapEs i kv).modify j (fun e => { e with key := a, val := b }) = mapEs i (kv.set j (a, b))
  | [], i, j => by cases j <;> rfl
  | (c, d) :: l, i, 0 => rfl
  | (c, d) :: l, i, j + 1 => by
    simp only [mapEs, List.set_cons_succ, List.modify_succ_cons]
    rw [mapEs_set a b l (i + 1) j]
theorem rep_str {w : World} {ok : Nat → Prop} {s : List UInt8} {u : Value} (h : RepP w ok (.str s) u) : u = .string ⟨s.toArray⟩ := by cases h; rfl
theorem str_beq (s t : List UInt8) : ((⟨s.toArray⟩ : ByteArray) == ⟨t.toArray⟩) = decide (s = t) := by
  rw [beq_toListBytes, ByteArray.toList_mk, ByteArray.toList_mk]
  by_cases h : s = t
  · subst h; simp
  · rw [decide_eq_false h, beq_eq_false_iff_ne]; simpa using h
theorem findNow_str {α : Type} {w : World} {ok : Nat → Prop} {key : α → List UInt8} {v : α → PV} {s : List UInt8} : ∀ {l : List α} {kv : List (Value × Value)} (i c : Nat), KV w ok (fun x => .str (key x)) v l kv →
    Instr.findNow .string (.string ⟨s.toArray⟩) (mapEs i kv) c = some ((mIdx key s l).map fun j => (c + j, (kv.getD j default).2))
  | [], [], i, c, h => rfl
  | [], _ :: _, i, c, h => absurd h.len (by simp)
  | _ :: _, [], i, c, h => absurd h.len (by simp)
  | x :: l, (a, b) :: kv, i, c, h => by
    have ha := rep_str h.head.1
    simp only at ha
    subst ha
    simp only [mapEs, Instr.findNow, Instr.sameNow, str_beq, mIdx]
    by_cases hk : key x = s
    · rw [if_pos hk, decide_eq_true hk.symm]; rfl
    · rw [if_neg hk, decide_eq_false (fun e => hk e.symm)]
      simp only
      rw [findNow_str (i + 1) (c + 1) h.tail]
      cases mIdx key s l with
      | none => rfl
      | some j => simp only [Option.map_some, List.getD_cons_succ]; rw [show c + 1 + j = c + (j + 1) by omega]
theorem KV.set {α : Type} {w : World} {ok : Nat → Prop} {k v : α → PV} {l : List α} {kv : List (Value × Value)} (h : KV w ok k v l kv) {j : Nat} {x : α} {a b : Value} (ha : RepP w ok (k x) a) (hb : RepP w ok (v x) b) : KV w ok k v (l.set j x) (kv.set j (a, b)) :=
  ⟨by simp [h.len], fun i y hi => by
    rw [List.getElem?_set] at hi ⊢
    by_cases hj : j = i
    · subst hj
      rw [if_pos rfl] at hi ⊢
      split at hi
      · rename_i hlt
        simp only [Option.some.injEq] at hi
        subst hi
        exact ⟨a, b, by rw [if_pos (by rw [h.len]; exact hlt)], ha, hb⟩
      · cases hi
    · rw [if_neg hj] at hi ⊢; exact h.get i y hi⟩
theorem KV.app {α : Type} {w : World} {ok : Nat → Prop} {k v : α → PV} {x : α} {a b : Value} : ∀ {l : List α} {kv : List (Value × Value)}, KV w ok k v l kv → RepP w ok (k x) a → RepP w ok (v x) b → KV w ok k v (l ++ [x]) (kv ++ [(a, b)])
  | [], [], h, ha, hb => .cons ha hb .nil
  | [], _ :: _, h, _, _ => absurd h.len (by simp)
  | _ :: _, [], h, _, _ => absurd h.len (by simp)
  | y :: l, (c, d) :: kv, h, ha, hb => .cons h.head.1 h.head.2 (KV.app h.tail ha hb)

/-! ### Runs -/
theorem run_checkStr {P : Program} {w : World} {kt : TypeId} {b : Bool} {s : ByteArray} (hk : P.underlying kt = some .string) : (Instr.checkKey b 10000 kt (.string s)).run P w = .ok () w := by
  rw [show (10000 : Nat) = 9999 + 1 from rfl, Instr.checkKey, Sem.run_bind, run_underlying hk]; rfl
theorem run_findStr {P : Program} {w : World} {kt : TypeId} {s : ByteArray} {es : List MapEntry} {q : Option (Nat × Value)} (hk : P.underlying kt = some .string) (hf : Instr.findNow .string (.string s) es 0 = some q) :
    (Instr.findKey kt (.string s) es).run P w = .ok q w := by
  rw [Instr.findKey, Sem.run_bind, run_underlying hk, Result.andThen_ok, hf]; rfl
theorem run_lookupStr {P : Program} {w : World} {t kt vt : TypeId} {r : Nat} {es : Array MapEntry} {clk : Nat} {s : ByteArray} {i : TypeInfo} {z : Value} {q : Option (Nat × Value)} (ht : P.underlying t = some (.map kt vt)) (hk : P.underlying kt = some .string) (hi : P.info? vt = some i) (hz : i.zero = some z)
    (hr : w.heap[r]? = some (.map es clk)) (hf : Instr.findNow .string (.string s) es.toList 0 = some q) : (Instr.lookup t (.map (some r)) (.string s) false).run P w = .ok ((q.map (·.2)).getD z) w := by
  have hg : (getObj r).run P w = .ok (.map es clk) w := by simp [getObj, Sem.run, hr]
  have hzv : (zeroValue vt).run P w = .ok z w := by simp [zeroValue, typeInfo, hi, hz]
  simp only [Instr.lookup, Sem.run_bind, run_underlying ht, Result.andThen_ok, hg, Sem.run_pure, run_checkStr hk, run_findStr hk hf]
  cases q with
  | some x => rfl
  | none => simp only [Sem.run_bind, hzv, Result.andThen_ok, Sem.run_pure]; rfl
theorem run_setO {P : Program} {w : World} {r : Nat} {o : Obj} (o' : Obj) (hr : w.heap[r]? = some o) (hn : ∀ c e f, o ≠ .cells c e f) : (setObj r o').run P w = .ok () (setBlock w r o') := by
  cases o <;> first | exact absurd rfl (hn _ _ _) | simp only [setObj, Sem.run, hr, setBlock]
theorem run_putNew {P : Program} {w : World} {t kt vt : TypeId} {r : Nat} {es : Array MapEntry} {clk : Nat} {s : ByteArray} {x : Value} (ht : P.underlying t = some (.map kt vt)) (hk : P.underlying kt = some .string)
    (hr : w.heap[r]? = some (.map es clk)) (hf : Instr.findNow .string (.string s) es.toList 0 = some none) : (Instr.mapUpdate t (.map (some r)) (.string s) x).run P w = .ok () (setBlock w r (.map (es.push ⟨.string s, x, clk⟩) (clk + 1))) := by
  have hg : (getObj r).run P w = .ok (.map es clk) w := by simp [getObj, Sem.run, hr]
  simp only [Instr.mapUpdate, Sem.run_bind, run_underlying ht, Result.andThen_ok, hg, run_checkStr hk, run_findStr hk hf, run_setO _ hr (fun c e f => by simp)]
theorem run_putOld {P : Program} {w : World} {t kt vt : TypeId} {r : Nat} {es : Array MapEntry} {clk : Nat} {s : ByteArray} {x v0 : Value} {j : Nat} (ht : P.underlying t = some (.map kt vt)) (hk : P.underlying kt = some .string)
    (hr : w.heap[r]? = some (.map es clk)) (hf : Instr.findNow .string (.string s) es.toList 0 = some (some (j, v0))) (hj : (es[j]?).map (·.key) = some (.string s)) :
    (Instr.mapUpdate t (.map (some r)) (.string s) x).run P w = .ok () (setBlock w r (.map (es.modify j fun e => { e with key := .string s, val := x }) clk)) := by
  have hg : (getObj r).run P w = .ok (.map es clk) w := by simp [getObj, Sem.run, hr]
  have hst : (Instr.keyThatStays (.string s) (.string s)).run P w = .ok (.string s) w := by
    have : Instr.sameBits 10000 (.string s) (.string s) = true := by
      rw [show (10000 : Nat) = 9999 + 1 from rfl]
      simp only [Instr.sameBits]
      rw [beq_toListBytes]; simp
    unfold Instr.keyThatStays
    rw [if_pos this]; rfl
  simp only [Instr.mapUpdate, Sem.run_bind, run_underlying ht, Result.andThen_ok, hg, run_checkStr hk, run_findStr hk hf, hj, Option.getD_some, hst, run_setO _ hr (fun c e f => by simp)]

/-! ### Operations -/
section
variable {X : Ctx} {N : Nat} {R : AS → Prop} {k : List KI} {ops : Array Oper} {D D' : Option (List Fl)} {rest : List Oper} {env : List (Nat × AV)} {h h' : Hp} {n : Nat} {d : Tmp} {ty tx : TypeId} {ps : String} {af : Array Edge}
theorem post_addO {F : Fr} {β : Bt} {w : World} {id : Nat} {o : Obj} {arr : Array Value} {cs : List AC} (r : HRel X F h β w) (hn : look h id = none ∧ id < 1000) (ha : ObjAt (w.alloc o) w.heap.size arr)
    (hc : ∀ (j : Nat) c, cs[j]? = some c → ∃ u : Value, arr[j]? = some u ∧ RepC w (F.ok w h β) β c u) (hw : ∀ i ∈ acRefs cs, (look h i).isSome = true) :
    Post X F h β w (put h id (.ob cs, false)) (upd1 β id (some w.heap.size)) (w.alloc o) none where
  rel := r.addB hn.1 hn.2 (e := 0) ha (fun e' l he => by cases he) hc hw
  keep := by
    have := r.keeps_add (bx := .ob cs) (o := o) hn.1
    exact ⟨this.blk, fun i hi => this.ids i hi.1⟩
  dom := fun i hi => by rw [look_put]; split <;> simp_all
theorem R_mkmap {α : Type} (e : α → List PV) {te : TypeId} (hn : look h n = none := by rfl) (hk1 : Nat.blt n 1000 = true := by rfl) (hp : PutR h n (mapB e [], false) h' := by repeat (first | exact .hit | exact .nil | (apply PutR.miss; rfl)))
    (hfl : FlR D env (.makeMap te none) (.one (.mp n)) (.n [] [] (some (n, mapB e []))) D' := by first | exact .seq | exact .drawn rfl)
    (hK : Rn X N R k ops D' rest ⟨(d, .one (.mp n)) :: env, h', n + 1⟩) : Rn X N R k ops D (⟨some d, .makeMap te none, ty, ps, af, none⟩ :: rest) ⟨env, h, n⟩ :=
  Rn.step (ef := .n [] [] (some (n, mapB e []))) (v := .one (.mp n)) (n' := n + 1) ⟨hn, lt1k hk1⟩ (fun K hK => by
    simp only [evOp]
    refine ⟨_, _, _, ⟨fun o ho => ?_, fun h' m he => by cases he⟩, hK⟩
    intro h2 ha hn2 F β w a r hv next Q hnx
    have hrun : (execOp a.eval o).run X.P w = .ok (.value (.map (some w.heap.size))) (w.alloc (.map #[] 0)) := by
      unfold execOp; rw [ho]; simp [Instr.makeMap]
    refine upon_wp hrun (hnx _ _ (upd1 β n (some w.heap.size)) (post_addO r (hn2 n _ rfl) (.map [] (heap_alloc_new w _)) (fun j c hj => ?_) (fun i hi => ?_)) ⟨w.heap.size, by simp [upd1], rfl⟩ fun i hi => ?_)
    · match j, hj with
      | 0, hj => cases hj; exact ⟨_, rfl, .lit _ rfl⟩
      | 1, hj => cases hj; exact ⟨_, rfl, .lit _ rfl⟩
    · simp [acRefs, AC.refs] at hi
    · simp only [AV.refs, AC.refs, List.mem_singleton] at hi
      subst hi
      show (look (put h2 i _) i).isSome = true
      rw [look_put]; simp) hfl (by simp only [AS.fin, upd, putO, putE, frzs, hp.eq]; exact hK)
theorem R_lookS {x y : Operand} {α : Type} {key : α → List UInt8} {v : α → PV} {l : List α} {s : List UInt8} {id : Nat} {zb : Bool} {kt vt : TypeId} {s1 b1 s2 b2 s3 b3 : Nat} {z1 z2 : Option Value} {z : Value} {u3 : TypeDesc} {p zp : PV} [hT : TInf X tx ⟨.map kt vt, s1, b1, z1⟩] [hT2 : TInf X kt ⟨.string, s2, b2, z2⟩] [hT3 : TInf X vt ⟨u3, s3, b3, some z⟩]
    (hx : EvR env x (.one (.mp id)) := by exact ⟨rfl⟩) (hy : EvR env y (.one (.pv (.str s))) := by first | exact .tmp rfl | exact .cs rfl) (hlk : look h id = some (mapB (fun x => [.str (key x), v x]) l, zb) := by rfl) (hz : ofVal z = .one (.pv zp) := by rfl) (hp : (match mGet key s l with | some a => v a | none => zp) = p := by rfl)
    (hfl : FlR D env (.lookup tx x y false) (.one (.pv p)) (.n [id] [] none) D' := by first | exact .seq | exact .drawn rfl)
    (hK : Rn X N R k ops D' rest ⟨(d, .one (.pv p)) :: env, h, n⟩) : Rn X N R k ops D (⟨some d, .lookup tx x y false, ty, ps, af, none⟩ :: rest) ⟨env, h, n⟩ :=
  Rn.step (ef := .n [id] [] none) (v := .one (.pv p)) (n' := n) trivial (fun K hK => by
    simp only [evOp]
    refine ⟨_, _, _, ⟨fun o ho => ?_, fun h' m he => by cases he⟩, hK⟩
    intro h2 ha hn2 F β w a r hv next Q hnx
    obtain ⟨ht, _⟩ := tinf_spec hT.h
    obtain ⟨hk, _⟩ := tinf_spec hT2.h
    obtain ⟨_, i, hi, _, _, hzz⟩ := tinf_spec hT3.h
    have h1 := (hv x (by rw [ho]; simp [Op.operands])).1
    have h1' := (hv y (by rw [ho]; simp [Op.operands])).1
    rw [hx.h] at h1
    rw [hy.h] at h1'
    obtain ⟨g, hg, hgv⟩ := h1
    have hs : a.eval y = .string ⟨s.toArray⟩ := rep_str h1'
    obtain ⟨z', hl2⟩ := agree_pu ha (List.mem_singleton.2 rfl) hlk
    obtain ⟨g', kv, hg', _, hh, hkv⟩ := map_at (k := fun x => .str (key x)) r hl2
    rw [hg] at hg'
    simp only [Option.some.injEq] at hg'
    subst hg'
    have hrun := run_lookupStr (P := X.P) ht hk hi hzz hh (findNow_str (s := s) 0 0 hkv)
    have hex : (execOp a.eval o).run X.P w = .ok (.value ((((mIdx key s l).map fun j => (0 + j, (kv.getD j default).2)).map (·.2)).getD z)) w := by
      unfold execOp; rw [ho]; simp only [hgv, hs]
      rw [Sem.run_bind, hrun]; rfl
    refine upon_wp hex (hnx _ w β (Post.refl r) ?_ fun i hi => by cases hi)
    show RepP w _ p _
    rw [← hp, mGet_idx]
    cases hm : mIdx key s l with
    | none =>
      simp only [Option.bind_none, Option.map_none, Option.getD_none]
      have := ofVal_rep w (F.ok w h2 β) β z
      rw [hz] at this
      exact this
    | some j =>
      obtain ⟨b, hb, _⟩ := mIdx_some hm
      simp only [Option.bind_some, Option.map_some, hb, Option.getD_some]
      obtain ⟨a1, b1, e1, _, e3⟩ := hkv.get j b hb
      rw [List.getD_eq_getElem?_getD, e1]
      exact e3) hfl hK
theorem R_mupS {x y zo : Operand} {α : Type} {key : α → List UInt8} {v : α → PV} {l : List α} {s : List UInt8} (a : α) {p : PV} {id : Nat} {kt vt : TypeId} {s1 b1 s2 b2 : Nat} {z1 z2 : Option Value} [hT : TInf X tx ⟨.map kt vt, s1, b1, z1⟩] [hT2 : TInf X kt ⟨.string, s2, b2, z2⟩]
    (hx : EvR env x (.one (.mp id)) := by exact ⟨rfl⟩) (hy : EvR env y (.one (.pv (.str s))) := by first | exact .tmp rfl | exact .cs rfl) (hzo : EvR env zo (.one (.pv p)) := by first | exact .tmp rfl | exact .ci rfl | exact .cb | exact .cs rfl) (ha1 : key a = s := by rfl) (ha2 : v a = p := by rfl) (hlk : look h id = some (mapB (fun x => [.str (key x), v x]) l, false) := by rfl)
    (hh : PutR h id (mapB (fun x => [.str (key x), v x]) (mPut key a l), false) h' := by repeat (first | exact .hit | exact .nil | (apply PutR.miss; rfl)))
    (hfl : FlR D env (.mapUpdate tx x y zo) .bot (.e h' none) D' := by first | exact .seq | exact .drawn rfl)
    (hK : Rn X N R k ops D' rest ⟨env, h', n⟩) : Rn X N R k ops D (⟨none, .mapUpdate tx x y zo, ty, ps, af, none⟩ :: rest) ⟨env, h, n⟩ :=
  Rn.step (ef := .e h' none) (v := .bot) (n' := n) trivial (fun K hK => by
    simp only [evOp]
    have hob : obO (.mapUpdate tx x y zo) (evE env) = [id] := by simp only [obO, hx.h]
    refine ⟨_, _, _, ⟨fun o ho => ?_, fun h2 m he _ i hi => ?_⟩, hK⟩
    · intro F β w act r hv next Q hnx
      obtain ⟨ht, _⟩ := tinf_spec hT.h
      obtain ⟨hk, _⟩ := tinf_spec hT2.h
      have h1 := (hv x (by rw [ho]; simp [Op.operands])).1
      have h1' := (hv y (by rw [ho]; simp [Op.operands])).1
      have h1'' := (hv zo (by rw [ho]; simp [Op.operands])).1
      rw [hx.h] at h1
      rw [hy.h] at h1'
      rw [hzo.h] at h1''
      obtain ⟨g, hg, hgv⟩ := h1
      have hs : act.eval y = .string ⟨s.toArray⟩ := rep_str h1'
      obtain ⟨g', kv, hg', _, hhm, hkv⟩ := map_at (k := fun x => .str (key x)) r hlk
      rw [hg] at hg'
      simp only [Option.some.injEq] at hg'
      subst hg'
      have hf := findNow_str (s := s) 0 0 hkv
      have hrep1 : RepP w (F.ok w h β) (.str (key a)) (.string ⟨s.toArray⟩) := by rw [ha1]; rw [hs] at h1'; exact h1'
      have hrep2 : RepP w (F.ok w h β) (v a) (act.eval zo) := by rw [ha2]; exact h1''
      have key1 : ∃ kv', (Instr.mapUpdate tx (.map (some g)) (.string ⟨s.toArray⟩) (act.eval zo)).run X.P w = .ok () (setBlock w g (.map (mapEs 0 kv').toArray kv'.length)) ∧ KV w (F.ok w h β) (fun x => .str (key x)) v (mPut key a l) kv' := by
        rw [mPut_idx, ha1]
        cases hm : mIdx key s l with
        | none =>
          rw [hm] at hf
          refine ⟨kv ++ [(.string ⟨s.toArray⟩, act.eval zo)], ?_, hkv.app hrep1 hrep2⟩
          have := run_putNew (P := X.P) (x := act.eval zo) ht hk hhm hf
          rw [this, mapEs_app]
          simp
        | some j =>
          rw [hm] at hf
          obtain ⟨b, hb, hkb⟩ := mIdx_some hm
          obtain ⟨a1, b1, e1, e2, e3⟩ := hkv.get j b hb
          have hj : (((mapEs 0 kv).toArray)[j]?).map (·.key) = some (.string ⟨s.toArray⟩) := by
            rw [List.getElem?_toArray, mapEs_get, e1]
            have := rep_str e2
            rw [hkb] at this
            subst this; rfl
          refine ⟨kv.set j (.string ⟨s.toArray⟩, act.eval zo), ?_, hkv.set hrep1 hrep2⟩
          have hf' : Instr.findNow .string (.string ⟨s.toArray⟩) (mapEs 0 kv).toArray.toList 0 = some (some (j, (kv.getD j default).2)) := by
            rw [hf]; simp
          have := run_putOld (P := X.P) (x := act.eval zo) ht hk hhm hf' hj
          rw [this, List.length_set, ← mapEs_set, List.modify_toArray]
      obtain ⟨kv', hrun, hkv'⟩ := key1
      have hex : (execOp act.eval o).run X.P w = .ok .skip (setBlock w g (.map (mapEs 0 kv').toArray kv'.length)) := by
        unfold execOp; rw [ho]; simp only [hgv, hs]
        rw [Sem.run_bind, hrun]; rfl
      have hat : (setBlock w g (.map (mapEs 0 kv').toArray kv'.length)).heap[g]? = some (.map (mapEs 0 kv').toArray kv'.length) := by
        have hlt : g < w.heap.size := (Array.getElem?_eq_some_iff.1 hhm).1
        simp [setBlock, hlt]
      refine upon_skip hex (hnx _ _ β ?_ trivial fun i hi => by cases hi)
      rw [← hh.eq]
      exact r.setO hlk hg hhm (fun c e f => by simp) (fun c e f => by simp) ⟨_, rfl⟩ (.map kv' hat) (map_cells hkv') (fun i hi => by rw [map_refs] at hi; cases hi)
    · cases he
      rw [hob] at hi
      rw [← hh.eq, look_put, if_neg (by simpa using hi)]) hfl (by simp only [AS.fin, putO]; exact hK)

/-! ### Walks over a map -/
theorem iter_at {F : Fr} {β : Bt} {w : World} {m c it : Nat} {seen : List Nat} {z : Bool} (r : HRel X F h β w) (hl : look h it = some (iterB m c seen, z)) :
    ∃ g bm, β it = some g ∧ F.own g ∧ β m = some bm ∧ w.heap[g]? = some (.mapIter (some bm) c seen.toArray c) := by
  have hb := r.box it _ _ hl
  unfold BoxRep at hb
  cases hβ : β it with
  | none => rw [hβ] at hb; exact absurd hb (by simp [iterB, Bx.cells])
  | some g =>
    rw [hβ] at hb
    obtain ⟨ho, arr, e, hrow, _, hc⟩ := hb
    have hrow : ObjAt w g arr := hrow
    cases hrow with
    | map kv hh =>
      obtain ⟨u, hu, hr⟩ := hc 0 (.pv (.lit (.bool false))) rfl
      have := lit_eq hr
      subst this
      simp at hu
    | iter m' c' seen' hh =>
      obtain ⟨u, hu, bm, hbm, hr⟩ := hc 1 (.mp m) rfl
      subst hr
      simp at hu
      subst hu
      obtain ⟨u, hu, hr⟩ := hc 2 (.pv (.lit (.int .i64 c))) rfl
      have := lit_eq hr
      subst this
      simp at hu
      obtain rfl : c' = c := by omega
      obtain ⟨u, hu, hr⟩ := hc 3 (.pv (.lit (.int .i64 seen.length))) rfl
      have := lit_eq hr
      subst this
      simp at hu
      have hs : seen' = seen := by
        apply List.ext_getElem? ; intro j
        rcases Nat.lt_or_ge j seen.length with hj | hj
        · obtain ⟨u, hu2, hr⟩ := hc (j + 4) (.pv (.lit (.int .i64 (seen[j] : Int)))) (by
            show (seen.map fun i : Nat => AC.pv (.lit (.int .i64 (i : Int))))[j]? = _
            rw [List.getElem?_map, List.getElem?_eq_getElem hj]; rfl)
          have := lit_eq hr
          subst this
          simp only [List.getElem?_toArray, List.getElem?_cons_succ, List.getElem?_map] at hu2
          cases hq : seen'[j]? with
          | none => rw [hq] at hu2; cases hu2
          | some q =>
            rw [hq] at hu2
            simp only [Option.map_some, Option.some.injEq, Value.int.injEq, true_and] at hu2
            rw [List.getElem?_eq_getElem hj]
            congr 1; omega
        · rw [List.getElem?_eq_none hj, List.getElem?_eq_none (by omega)]
      subst hs
      exact ⟨g, m', rfl, ho, hbm, hh⟩
theorem iter_cells {w : World} {ok : Nat → Prop} {β : Bt} {m c bm : Nat} {seen : List Nat} (hbm : β m = some bm) : ∀ (j : Nat) x, (iterB m c seen).cells[j]? = some x → ∃ u : Value, (Value.bool false :: Value.map (some bm) :: Value.int .i64 c :: Value.int .i64 seen.length :: seen.map fun i : Nat => Value.int .i64 (i : Int)).toArray[j]? = some u ∧ RepC w ok β x u
  | 0, x, hj => by cases hj; exact ⟨_, rfl, .lit _ rfl⟩
  | 1, x, hj => by cases hj; exact ⟨_, rfl, bm, hbm, rfl⟩
  | 2, x, hj => by cases hj; exact ⟨_, rfl, .lit _ rfl⟩
  | 3, x, hj => by cases hj; exact ⟨_, rfl, .lit _ rfl⟩
  | j + 4, x, hj => by
    have hj : (seen.map fun i : Nat => AC.pv (.lit (.int .i64 (i : Int))))[j]? = some x := hj
    rw [List.getElem?_map] at hj
    cases hq : seen[j]? with
    | none => rw [hq] at hj; cases hj
    | some q =>
      rw [hq] at hj
      simp only [Option.map_some, Option.some.injEq] at hj
      subst hj
      exact ⟨.int .i64 q, by simp [hq], .lit _ rfl⟩
theorem iter_refs {m c : Nat} {seen : List Nat} : acRefs (iterB m c seen).cells = [m] := by
  show acRefs (.pv _ :: .mp m :: .pv _ :: .pv _ :: seen.map fun i : Nat => AC.pv (.lit (.int .i64 (i : Int)))) = [m]
  have := acRefs_pv (seen.map fun i : Nat => PV.lit (.int .i64 (i : Int)))
  rw [List.map_map] at this
  unfold acRefs at *
  simp only [List.flatMap_cons, AC.refs, List.nil_append]
  show [m] ++ _ = _
  rw [show (fun i : Nat => AC.pv (.lit (.int .i64 (i : Int)))) = AC.pv ∘ fun i : Nat => PV.lit (.int .i64 (i : Int)) from rfl, this]; rfl
theorem R_range {x : Operand} {α : Type} {e1 e2 : α → PV} {l : List α} {id c : Nat} {zb : Bool} {kt vt : TypeId} {s1 b1 : Nat} {z1 : Option Value} [hT : TInf X tx ⟨.map kt vt, s1, b1, z1⟩]
    (hx : EvR env x (.one (.mp id)) := by exact ⟨rfl⟩) (hlk : look h id = some (mapB (fun x => [e1 x, e2 x]) l, zb) := by rfl) (hc : l.length = c := by rfl) (hn : look h n = none := by rfl) (hk1 : Nat.blt n 1000 = true := by rfl) (hp : PutR h n (iterB id c [], false) h' := by repeat (first | exact .hit | exact .nil | (apply PutR.miss; rfl)))
    (hfl : FlR D env (.range tx x) (.one (.ptr n 0)) (.n [id] [] (some (n, iterB id c []))) D' := by first | exact .seq | exact .drawn rfl)
    (hK : Rn X N R k ops D' rest ⟨(d, .one (.ptr n 0)) :: env, h', n + 1⟩) : Rn X N R k ops D (⟨some d, .range tx x, ty, ps, af, none⟩ :: rest) ⟨env, h, n⟩ :=
  Rn.step (ef := .n [id] [] (some (n, iterB id c []))) (v := .one (.ptr n 0)) (n' := n + 1) ⟨hn, lt1k hk1⟩ (fun K hK => by
    simp only [evOp]
    refine ⟨_, _, _, ⟨fun o ho => ?_, fun h' m he => by cases he⟩, hK⟩
    intro h2 ha hn2 F β w a r hv next Q hnx
    obtain ⟨ht, _⟩ := tinf_spec hT.h
    obtain ⟨h1, h1r⟩ := hv x (by rw [ho]; simp [Op.operands])
    rw [hx.h] at h1 h1r
    obtain ⟨g, hg, hgv⟩ := h1
    obtain ⟨z', hl2⟩ := agree_pu ha (List.mem_singleton.2 rfl) hlk
    obtain ⟨g', kv, hg', _, hh, hkv⟩ := map_at r hl2
    rw [hg] at hg'
    simp only [Option.some.injEq] at hg'
    subst hg'
    have hcl : kv.length = c := hkv.len.trans hc
    have hgo : (getObj g).run X.P w = .ok (.map (mapEs 0 kv).toArray kv.length) w := by simp [getObj, Sem.run, hh]
    have hrun : (execOp a.eval o).run X.P w = .ok (.value (.pointer (some ⟨w.heap.size, 0, none⟩))) (w.alloc (.mapIter (some g) c #[] c)) := by
      unfold execOp; rw [ho]; simp only [hgv, Instr.range, Sem.run_bind, run_underlying ht, Result.andThen_ok, hgo, Sem.run_pure, run_newObj_alloc, hcl]
    refine upon_wp hrun (hnx _ _ (upd1 β n (some w.heap.size)) (post_addO r (hn2 n _ rfl) (.iter g c [] (heap_alloc_new w _)) (iter_cells hg) (fun i hi => ?_)) ⟨w.heap.size, by simp [upd1], rfl⟩ fun i hi => ?_)
    · have hi : i ∈ acRefs (iterB id c []).cells := hi
      rw [iter_refs, List.mem_singleton] at hi
      subst hi; exact h1r i (by simp [AV.refs, AC.refs])
    · simp only [AV.refs, AC.refs, List.mem_singleton] at hi
      subst hi
      show (look (put h2 i _) i).isSome = true
      rw [look_put]; simp) hfl (by simp only [AS.fin, upd, putO, putE, frzs, hp.eq]; exact hK)
theorem mapEs_mem {kv : List (Value × Value)} {e : MapEntry} (he : e ∈ mapEs 0 kv) : ∃ i p, i < kv.length ∧ kv[i]? = some p ∧ e = ⟨p.1, p.2, i⟩ := by
  obtain ⟨i, hi⟩ := List.getElem?_of_mem he
  rw [mapEs_get] at hi
  cases hq : kv[i]? with
  | none => rw [hq] at hi; cases hi
  | some p =>
    rw [hq] at hi
    simp only [Option.map_some, Option.some.injEq] at hi
    exact ⟨i, p, (List.getElem?_eq_some_iff.1 hq).1, hq, by rw [← hi]; simp⟩
/-- A step of the walk: whichever is left, or the end. -/
theorem R_next {x : Operand} {α : Type} {e1 e2 : α → PV} {l : List α} {id it c : Nat} {seen : List Nat} {zb : Bool}
    (hx : EvR env x (.one (.ptr it 0)) := by exact ⟨rfl⟩) (hit : look h it = some (iterB id c seen, false) := by rfl) (hlk : look h id = some (mapB (fun x => [e1 x, e2 x]) l, zb) := by rfl) (hc : l.length = c := by rfl)
    {H : Nat → Hp} (hH : ∀ i, PutR h it (iterB id c (seen ++ [i]), false) (H i) := by intro i; repeat (first | exact .hit | exact .nil | (apply PutR.miss; rfl)))
    (h1 : ∀ i, i < c → i ∉ seen → Rn X N R k ops none rest ⟨(d, .tup [(false, [.pv (.bool true)]), (false, [.any]), (false, [.any])]) :: env, H i, n⟩)
    (h2 : (∀ i, i < c → i ∈ seen) → Rn X N R k ops none rest ⟨(d, .tup [(false, [.pv (.bool false)])]) :: env, h, n⟩) : Rn X N R k ops none (⟨some d, .next x false, ty, ps, af, none⟩ :: rest) ⟨env, h, n⟩ := by
  constructor
  refine .inr ?_
  intro o ho hdst N' F a w hd ⟨β, r⟩ next Q hnext
  obtain ⟨hxv, _⟩ := r.ev x
  rw [show evE (AS.mk env h n).env x = _ from hx.h] at hxv
  obtain ⟨g0, hg0, hgv⟩ := hxv
  obtain ⟨g, bm, hg, hown, hbm, hh⟩ := iter_at r.h hit
  rw [hg0] at hg
  simp only [Option.some.injEq] at hg
  subst hg
  obtain ⟨bm', kv, hbm', _, hmh, hkv⟩ := map_at r.h hlk
  rw [hbm] at hbm'
  simp only [Option.some.injEq] at hbm'
  subst hbm'
  have hcl : kv.length = c := hkv.len.trans hc
  have hex : ∀ v w', (Instr.next (.pointer (some ⟨g0, 0, none⟩)) false o.type).run X.P w = .ok v w' → (execOp a.eval o).run X.P w = .ok (.value v) w' := fun v w' hr => by
    unfold execOp; rw [ho]; simp only [hgv]
    rw [Sem.run_bind, hr]; rfl
  have hput : ∀ (w' : World) (β' : Bt) (h' : Hp) (v : AV) (u : Value), Post X F h β w h' β' w' none → RepV w' (F.ok w' h' β') β' v u → (∀ i ∈ v.refs, (look h' i).isSome = true) → RelS X F N' ⟨(d, v) :: env, h', n⟩ (a.put o.dst u) w' := fun w' β' h' v u hp hu hrf => by
    refine ⟨β', ⟨hp.rel, by rw [put_defers']; exact r.defers, by rw [size_put]; exact r.size, ?_⟩⟩
    rw [put_tmps, hdst]
    exact env_put (d := some d) (fun t ht => by rw [r.size]; exact hd t (hdst.trans ht)) (fun t x hl => by
      obtain ⟨⟨y, hy, hr⟩, hw'⟩ := r.env t x hl
      exact ⟨⟨y, hy, hp.keep.repV (fun id hid => ⟨hw' id hid, by simp⟩) hr⟩, fun id hid => hp.dom id (hw' id hid)⟩) hu hrf
  rcases run_next_at (P := X.P) w o.type g0 bm c c seen.toArray (mapEs 0 kv).toArray kv.length hh hmh (fun e he => by
    obtain ⟨i, p, hi, _, rfl⟩ := mapEs_mem (by simpa using he)
    rw [← hcl]; exact hi) (Nat.le_refl _) with ⟨h0, hrun⟩ | ⟨e, he, w1, hw1, hrun⟩
  · refine upon_wp (hex _ _ hrun) (hnext _ _ _ (h2 fun i hi => ?_).h (hput w β h _ _ (Post.refl r.h) ⟨_, rfl, rfl, fun j y hj => ?_⟩ fun i hi => by cases hi))
    · by_cases hm : i ∈ seen
      · exact hm
      · exfalso
        obtain ⟨p, hp⟩ : ∃ p, kv[i]? = some p := ⟨kv[i], List.getElem?_eq_getElem (by omega)⟩
        have hmem : (⟨p.1, p.2, i⟩ : MapEntry) ∈ (leftOf (mapEs 0 kv).toArray seen.toArray) := by
          unfold leftOf
          rw [Array.mem_filter]
          refine ⟨?_, by simpa using hm⟩
          rw [List.mem_toArray]
          exact List.mem_of_getElem? (i := i) (by rw [mapEs_get, hp]; simp)
        have : 0 < (leftOf (mapEs 0 kv).toArray seen.toArray).size := Array.size_pos_of_mem hmem
        omega
    · match j, hj with
      | 0, hj => cases hj; exact ⟨_, rfl, _, rfl, .bool _⟩
  · have hel : e ∈ (leftOf (mapEs 0 kv).toArray seen.toArray) := by simpa using he
    unfold leftOf at hel
    rw [Array.mem_filter, List.mem_toArray] at hel
    obtain ⟨i, p, hi, hp, rfl⟩ := mapEs_mem hel.1
    have hni : i ∉ seen := by simpa using hel.2
    have hr1 : HRel X F h β w1 := by rcases hw1 with rfl | rfl; exact r.h; exact r.h.drew 1
    have hh1 : w1.heap[g0]? = some (.mapIter (some bm) c seen.toArray c) := by rcases hw1 with rfl | rfl <;> exact hh
    have k1 : Post X F h β w h β w1 none := by
      rcases hw1 with rfl | rfl
      · exact Post.refl r.h
      · exact Post.ext (w' := w.drewN 1) r.h ⟨rfl, rfl, rfl, Nat.le_refl _, fun _ _ => rfl⟩
    have hlt : g0 < w1.heap.size := (Array.getElem?_eq_some_iff.1 hh1).1
    have hat : (setBlock w1 g0 (.mapIter (some bm) c (seen ++ [i]).toArray c)).heap[g0]? = some (.mapIter (some bm) c (seen ++ [i]).toArray c) := by simp [setBlock, hlt]
    have p2 := hr1.setO (bx' := iterB id c (seen ++ [i])) hit hg0 hh1 (fun c e f => by simp) (o' := .mapIter (some bm) c (seen ++ [i]).toArray c) (fun c e f => by simp) ⟨_, rfl⟩ (.iter bm c _ hat) (iter_cells hbm) (fun j hj => by
      rw [iter_refs, List.mem_singleton] at hj
      subst hj; rw [hlk]; rfl)
    have ew : setBlock w1 g0 (.mapIter (some bm) c (seen.toArray.push i) kv.length) = setBlock w1 g0 (.mapIter (some bm) c (seen ++ [i]).toArray c) := by rw [hcl]; simp
    have hrun' := hex _ _ hrun
    simp only at hrun'
    rw [ew] at hrun'
    have hil : i < l.length := by rw [hc, ← hcl]; exact hi
    refine upon_wp hrun' (hnext _ _ _ (h1 i (hcl ▸ hi) hni).h (hput _ β _ _ _ (by rw [← (hH i).eq]; exact k1.trans p2) ⟨_, rfl, rfl, fun j y hj => ?_⟩ fun i hi => by cases hi))
    obtain ⟨a1, b1, e1', f1, f2⟩ := hkv.get i _ (List.getElem?_eq_getElem hil)
    rw [hp] at e1'
    simp only [Option.some.injEq] at e1'
    subst e1'
    match j, hj with
    | 0, hj => cases hj; exact ⟨_, rfl, _, rfl, .bool _⟩
    | 1, hj => cases hj; exact ⟨_, rfl, _, rfl, f1.oneCell⟩
    | 2, hj => cases hj; exact ⟨_, rfl, _, rfl, f2.oneCell⟩
theorem mapEs_born : ∀ (kv : List (Value × Value)) (i : Nat), (mapEs i kv).map (·.born) = List.range' i kv.length
  | [], i => rfl
  | (a, b) :: l, i => by simp only [mapEs, List.map_cons, List.length_cons, List.range'_succ]; rw [mapEs_born l (i + 1)]
/-- The entry that the last step handed out. -/
theorem R_entry {x : Operand} {α : Type} {e1 e2 : α → PV} {l : List α} {id it c i : Nat} {seen : List Nat} {zb zc : Bool} {a : α} (hx : EvR env x (.one (.ptr it 0)) := by exact ⟨rfl⟩) (hit : look h it = some (iterB id c (seen ++ [i]), zc) := by rfl) (hlk : look h id = some (mapB (fun x => [e1 x, e2 x]) l, zb) := by rfl) (hc : l.length = c := by rfl) (hi : l[i]? = some a)
    (hfl : FlR D env (.entry x) (.tup [(false, [.pv (e1 a)]), (false, [.pv (e2 a)])]) (.n [it, id] [] none) D' := by first | exact .seq | exact .drawn rfl)
    (hK : Rn X N R k ops D' rest ⟨(d, .tup [(false, [.pv (e1 a)]), (false, [.pv (e2 a)])]) :: env, h, n⟩) : Rn X N R k ops D (⟨some d, .entry x, ty, ps, af, none⟩ :: rest) ⟨env, h, n⟩ :=
  Rn.step (ef := .n [it, id] [] none) (v := .tup [(false, [.pv (e1 a)]), (false, [.pv (e2 a)])]) (n' := n) trivial (fun K hK => by
    simp only [evOp]
    refine ⟨_, _, _, ⟨fun o ho => ?_, fun h' m he => by cases he⟩, hK⟩
    intro h2 ha hn2 F β w act r hv next Q hnx
    have h1 := (hv x (by rw [ho]; simp [Op.operands])).1
    rw [hx.h] at h1
    obtain ⟨g, hg, hgv⟩ := h1
    obtain ⟨z1, hl1⟩ := agree_pu (ha.mono (ids' := [it]) (by simp)) (List.mem_singleton.2 rfl) hit
    obtain ⟨z2, hl2⟩ := agree_pu (ha.mono (ids' := [id]) (by simp)) (List.mem_singleton.2 rfl) hlk
    obtain ⟨g', bm, hg', _, hbm, hh⟩ := iter_at r hl1
    rw [hg] at hg'
    simp only [Option.some.injEq] at hg'
    subst hg'
    obtain ⟨bm', kv, hbm', _, hmh, hkv⟩ := map_at r hl2
    rw [hbm] at hbm'
    simp only [Option.some.injEq] at hbm'
    subst hbm'
    have hcl : kv.length = c := hkv.len.trans hc
    obtain ⟨a1, b1, e1', f1, f2⟩ := hkv.get i a hi
    have hit' : w.heap[g]? = some (.mapIter (some bm) c (seen.toArray.push (⟨a1, b1, i⟩ : MapEntry).born) kv.length) := by rw [hh, hcl]; simp
    have hrun := run_entry_at (P := X.P) w g bm c seen.toArray (mapEs 0 kv).toArray kv.length ⟨a1, b1, i⟩ hit' hmh (by
      have : (mapEs 0 kv)[i]? = some ⟨a1, b1, i⟩ := by rw [mapEs_get, e1']; simp
      simpa using List.mem_of_getElem? this) (by
      show ((mapEs 0 kv).toArray.toList.map (·.born)).Nodup
      rw [show (mapEs 0 kv).toArray.toList = mapEs 0 kv by simp, mapEs_born]; exact List.nodup_range')
    have hex : (execOp act.eval o).run X.P w = .ok (.value (.tuple #[a1, b1])) w := by
      unfold execOp; rw [ho]; simp only [hgv]
      rw [Sem.run_bind, hrun]; rfl
    refine upon_wp hex (hnx _ w β (Post.refl r) ⟨_, rfl, rfl, fun j y hj => ?_⟩ fun i hi => by cases hi)
    match j, hj with
    | 0, hj => cases hj; exact ⟨_, rfl, _, rfl, f1⟩
    | 1, hj => cases hj; exact ⟨_, rfl, _, rfl, f2⟩) hfl hK
end
end Go.VL


namespace Go.VL
open Go.RowKit
set_option linter.unusedVariables false
theorem exec_copy {P : Program} {w w' : World} {o : Oper} {act : Operand → Value} {x y : Operand} {t t' : TypeId} {v : Value} (ho : o.op = .call ⟨.builtin .copy, ⟨[x, y]⟩, ⟨[t, t']⟩⟩) (hr : (Builtin.copy_ #[t, t'] o.type #[act x, act y]).run P w = .ok v w') : (execOp act o).run P w = .ok (.value v) w' := by
  unfold execOp
  simp only [ho, resolve, invoke, builtin, Sem.run_bind, Sem.run_pure, Result.andThen_ok, List.map_toArray, List.map_cons, List.map_nil, hr]
theorem sl_shape {w : World} {ok : Nat → Prop} {n : Nat} {cs : List PV} {u : Value} (h : RepP w ok (.sl n cs) u) : (n = 0 ∧ ∃ A c, u = .slice A n c) ∨
    (0 < n ∧ ∃ (b o c : Nat) (vals : Nat → Value), u = .slice (some ⟨b, o, none⟩) n c ∧ n ≤ c ∧ c ≤ topLen ∧ (∀ (j : Nat) p, cs[j]? = some p → w.cell? ⟨b, o + j, none⟩ = some (vals j)) ∧ ∀ (j : Nat) p, cs[j]? = some p → RepP w ok p (vals j)) := by
  cases h with
  | sl0 A c => exact .inl ⟨rfl, A, c, rfl⟩
  | sl n sz c b o cells vals hn hc hm hl hok hcell hrep => exact .inr ⟨hn, b, o, c, vals, rfl, hc, hm, hcell, hrep⟩
section
variable {X : Ctx} {N : Nat} {R : AS → Prop} {k : List KI} {ops : Array Oper} {D D' : Option (List Fl)} {rest : List Oper} {env : List (Nat × AV)} {h h' : Hp} {n : Nat} {d : Tmp} {ty tx : TypeId} {ps : String} {af : Array Edge}
theorem R_copy {x y : Operand} {α : Type} {e : α → List PV} {l l2 : List α} (l3 : List α) {id m s b B : Nat} {te te' : TypeId} {u : TypeDesc} {zz z2 : Option Value} [hT : TInf X tx ⟨.slice te, s, b, zz⟩] [hE : TInf X te ⟨u, 1, B, z2⟩] (hx : EvR env x (.one (.own id 1 m)) := by exact ⟨rfl⟩) (hy : EvR env y (.one (.pv (slc e l2))) := by exact ⟨rfl⟩)
    (hlk : look h id = some (.pu te' (l.flatMap e), false) := by rfl) (hm : m = l.length := by first | rfl | simp) (hS : ∀ x, (e x).length = 1 := by exact fun _ => rfl) (hle : l2.length ≤ l.length := by first | omega | simp) (h3 : l2 ++ l.drop l2.length = l3 := by rfl)
    (hh : PutR h id (.pu te' (l3.flatMap e), false) h' := by repeat (first | exact .hit | exact .nil | (apply PutR.miss; rfl))) (hid : Nat.blt id 500 = true := by rfl)
    (hfl : FlR D env (.call ⟨.builtin .copy, ⟨[x, y]⟩, ⟨[tx, tx]⟩⟩) (.one (.pv (.int .i64 (l2.length : Int)))) (.e h' none) D' := by first | exact .seq | exact .drawn rfl)
    (hK : Rn X N R k ops D' rest ⟨(d, .one (.pv (.int .i64 (l2.length : Int)))) :: env, h', n⟩) : Rn X N R k ops D (⟨some d, .call ⟨.builtin .copy, ⟨[x, y]⟩, ⟨[tx, tx]⟩⟩, ty, ps, af, none⟩ :: rest) ⟨env, h, n⟩ :=
  Rn.step (ef := .e h' none) (v := .one (.pv (.int .i64 (l2.length : Int)))) (n' := n) trivial (fun K hK => by
    simp only [evOp]
    refine ⟨_, _, _, ⟨fun o ho => ?_, fun h2 m he hne i hi => absurd rfl hne⟩, hK⟩
    intro F β w act r hv next Q hnx
    obtain ⟨ht, _⟩ := tinf_spec hT.h
    obtain ⟨_, i, hi, hs, _⟩ := tinf_spec hE.h
    have hsz : (X.P.info? te).map (·.size) = some 1 := by rw [hi]; exact congrArg some hs
    have h1 := (hv x (by rw [ho]; simp [Op.operands, Call.operands])).1
    have h1' := (hv y (by rw [ho]; simp [Op.operands, Call.operands])).1
    rw [hx.h] at h1
    rw [hy.h] at h1'
    have h1' : RepP w (F.ok w h β) (.sl l2.length (l2.flatMap e)) (act.eval y) := h1'
    have h1 : OwnRep w β id 1 m (act.eval x) := h1
    have hfl2 := flat_len hS l2
    have hfl1 := flat_len hS l
    rw [Nat.mul_one] at hfl2 hfl1
    have hnone : l2.length = 0 → ∀ dd cp aa c2, act.eval x = .slice dd m cp → act.eval y = .slice aa l2.length c2 → o.wp X.P act w next Q := fun h0 dd cp aa c2 e1 e2 => by
      have l20 : l2 = [] := List.length_eq_zero_iff.1 h0
      have hrun := run_copy_none (P := X.P) w tx tx o.type te dd aa m cp l2.length c2 ht hsz (by rw [h0]; exact Nat.zero_min _)
      rw [← e1, ← e2] at hrun
      refine upon_wp (exec_copy ho hrun) (hnx _ w β ?_ ?_ fun i hi => by cases hi)
      · have : h' = put h id (.pu te' (l.flatMap e), false) := by
          rw [← hh.eq, ← h3, l20]; rfl
        rw [this]
        have h4 := r.retell (bx' := .pu te' (l.flatMap e)) hlk (fun hn => by
          have := r.box id _ _ hlk
          unfold BoxRep at this
          rw [hn] at this; exact this) (fun g arr e' hg harr => by
          have := r.box id _ _ hlk
          unfold BoxRep at this
          rw [hg] at this
          obtain ⟨_, arr2, e2', harr2, h5, h6⟩ := this
          have q1 : w.heap[g]? = some (.cells arr e' (0, 0)) := harr.low (.inl (lt5h hid))
          have q2 : w.heap[g]? = some (.cells arr2 e2' (0, 0)) := RowAt.low harr2 (.inl (lt5h hid))
          rw [q1] at q2
          simp only [Option.some.injEq, Obj.cells.injEq] at q2
          obtain ⟨rfl, rfl, _⟩ := q2
          exact ⟨h5, h6⟩) (r.wf id _ _ hlk)
        refine ⟨h4.1, ⟨fun b hb => ⟨(h4.2 b).1 hb, rfl⟩, fun _ _ => ⟨rfl, fun _ _ => rfl⟩⟩, fun i hi => ?_⟩
        rw [look_put]; split <;> simp_all
      · show RepP w _ (.int .i64 (l2.length : Int)) (goInt 0)
        rw [h0]; exact .int _ _ (by decide)
    rcases h1 with ⟨e1, e0⟩ | ⟨g, cap, hg, e1, hcap, hmx, hbs⟩
    · have h0 : l2.length = 0 := by omega
      rcases sl_shape h1' with ⟨_, aa, c2, e2⟩ | ⟨hp, _⟩
      · exact hnone h0 none 0 aa c2 (by rw [e1, e0]) e2
      · omega
    · rcases sl_shape h1' with ⟨h0, aa, c2, e2⟩ | ⟨hpos, bb, oo, cc, vals, hyv, hcc, hct, hcell, hrep⟩
      · exact hnone h0 _ cap aa c2 e1 e2
      · have hb := r.box id _ _ hlk
        unfold BoxRep at hb
        rw [hg] at hb
        obtain ⟨_, arr, e', harr, hpe, hcl⟩ := hb
        have harr : RowAt w id g arr e' := harr
        have hlow := harr.low (.inl (lt5h hid))
        have harrl : l.length ≤ arr.size := by
          rcases Nat.eq_zero_or_pos l.length with h0 | h0
          · omega
          · obtain ⟨u, hu, _⟩ := hcl (l.length - 1) _ (List.getElem?_eq_getElem (by simp only [Bx.cells, List.length_map, hfl1]; omega))
            have := (Array.getElem?_eq_some_iff.1 hu).1
            omega
        have hadd : ∀ i, (⟨bb, oo, none⟩ : Addr).add i = ⟨bb, oo + i, none⟩ := fun i => by unfold Addr.add; split <;> simp_all
        have hcsl : ((List.range l2.length).map vals).length = l2.length := by simp
        have hrun := run_copy_row (P := X.P) w tx tx o.type te g 0 m cap ⟨bb, oo, none⟩ l2.length cc arr e' ((List.range l2.length).map vals) ht hsz hlow (by rw [hcsl, hm]; exact (Nat.min_eq_left hle).symm) (fun j v hj => by
          rw [List.getElem?_map] at hj
          cases hq : (List.range l2.length)[j]? with
          | none => rw [hq] at hj; cases hj
          | some q =>
            rw [hq] at hj
            simp only [Option.map_some, Option.some.injEq] at hj
            have hjl : j < l2.length := by simpa using (List.getElem?_eq_some_iff.1 hq).1
            have : q = j := by have := (List.getElem?_eq_some_iff.1 hq).2; simpa using this.symm
            subst this
            rw [hadd, ← hj]
            exact hcell q _ (List.getElem?_eq_getElem (by rw [hfl2]; exact hjl))) (by rw [hcsl]; omega) (fun v hv => by
          obtain ⟨q, hq, rfl⟩ := List.mem_map.1 hv
          exact (hrep q _ (List.getElem?_eq_getElem (by rw [hfl2]; simpa using hq))).oneCell)
        rw [← e1, ← hyv, hcsl] at hrun
        simp only [List.take_zero, List.nil_append, Nat.zero_add] at hrun
        have hsize : ((List.range l2.length).map vals ++ arr.toList.drop l2.length).toArray.size = arr.size := by simp; omega
        have hset := r.set (bx' := .pu te' (l3.flatMap e)) (arr' := ((List.range l2.length).map vals ++ arr.toList.drop l2.length).toArray) hlk hg harr hsize rfl (fun e2 l' he => by cases he; exact hpe _ _ rfl) (fun j c hj => by
          simp only [Bx.cells] at hj
          rw [← h3, List.flatMap_append, List.map_append, List.getElem?_append, List.length_map, hfl2] at hj
          rw [List.getElem?_toArray, List.getElem?_append, hcsl]
          by_cases hjl : j < l2.length
          · rw [if_pos hjl] at hj ⊢
            rw [List.getElem?_map] at hj
            have hp := List.getElem?_eq_getElem (l := l2.flatMap e) (i := j) (by rw [hfl2]; exact hjl)
            rw [hp] at hj
            simp only [Option.map_some, Option.some.injEq] at hj
            subst hj
            exact ⟨vals j, by simp [hjl], hrep j _ hp⟩
          · rw [if_neg hjl] at hj ⊢
            have hfd : (l.drop l2.length).flatMap e = (l.flatMap e).drop (l2.length) := by have := flat_drop hS (m := l2.length) (l := l); rw [Nat.mul_one] at this; exact this.symm
            rw [hfd, List.getElem?_map, List.getElem?_drop] at hj
            rw [List.getElem?_drop]
            have e5 : l2.length + (j - l2.length) = j := by omega
            rw [e5] at hj ⊢
            obtain ⟨u, hu, hr⟩ := hcl j c (by simp only [Bx.cells]; rw [List.getElem?_map]; exact hj)
            exact ⟨u, by simpa using hu, hr⟩) (fun i hi => by simp only [Bx.cells] at hi; rw [acRefs_pv] at hi; cases hi)
        refine upon_wp (exec_copy ho hrun) (hnx _ _ β ?_ ?_ fun i hi => by cases hi)
        · rw [← hh.eq]
          have hk := r.set_keeps (bx' := .pu te' (l3.flatMap e)) (arr' := ((List.range l2.length).map vals ++ arr.toList.drop l2.length).toArray) hlk hg harr hsize
          refine ⟨hset, ⟨hk.blk, fun i hi => hk.ids i hi.1⟩, fun i hi => ?_⟩
          rw [look_put]; split <;> simp_all
        · exact .int _ _ (by
            have : l2.length ≤ 9223372036854775807 := Nat.le_trans hcc hct
            rw [show IntKind.i64.min = -9223372036854775808 from rfl, show IntKind.i64.max = 9223372036854775807 from rfl]; omega)) hfl (by simp only [AS.fin, putO, putE]; exact hK)
end
end Go.VL


namespace Go.VL
open Go.RowKit
set_option linter.unusedVariables false
def f2 (a b i : Nat) : Nat := if i = 0 then a else b
theorem domB2 {i j k : Nat} {b c : Bx × Bool} (h : (look [(j, b), (k, c)] i).isSome = true) : i = j ∨ i = k := by
  simp only [look] at h
  by_cases e : i = j
  · exact .inl e
  · rw [if_neg e] at h
    by_cases e2 : i = k
    · exact .inr e2
    · rw [if_neg e2] at h; cases h
theorem lookB2 {i : Nat} {j k : Nat} {b c e : Bx × Bool} (hjk : j ≠ k) (h : look [(j, b), (k, c)] i = some e) : (i = j ∧ e = b) ∨ (i = k ∧ e = c) := by
  simp only [look] at h
  by_cases e1 : i = j
  · rw [if_pos e1] at h; simp only [Option.some.injEq] at h; exact .inl ⟨e1, h.symm⟩
  · rw [if_neg e1] at h
    by_cases e2 : i = k
    · rw [if_pos e2] at h; simp only [Option.some.injEq] at h; exact .inr ⟨e2, h.symm⟩
    · rw [if_neg e2] at h; cases h
/-- Two new boxes come back. -/
theorem fits_new2 {h : Hp} {a b : Nat} {te te2 : TypeId} {l l2 : List PV} {zs : List Nat} (ha : look h a = none) (hb : look h b = none) (hab : a ≠ b) (hka : a < 1000) (hkb : b < 1000) (hz : ∀ id ∈ zs, (look h id).isSome = true) :
    Fits h (f2 a b) [] [(0, (.pu te l, false)), (1, (.pu te2 l2, false))] zs (put (put (frzs h zs) a (.pu te l, false)) b (.pu te2 l2, false)) none where
  inj := fun i j hi hj hf => by
    have hi := hi.elim (fun h => absurd h dom_nil) domB2
    have hj := hj.elim (fun h => absurd h dom_nil) domB2
    rcases hi with rfl | rfl <;> rcases hj with rfl | rfl
    · rfl
    · exact absurd hf (by simpa [f2] using hab)
    · exact absurd hf.symm (by simpa [f2] using hab)
    · rfl
  wf0 := fun id bx z hl => by cases hl
  inp := fun i bx z hl => by cases hl
  frz := fun id hid => ⟨hz id hid, fun i hi => absurd hi dom_nil⟩
  new := fun i hi _ => by
    rcases domB2 hi with rfl | rfl
    · exact ⟨ha, hka⟩
    · exact ⟨hb, hkb⟩
  mv := fun i hi => absurd hi dom_nil
  lo0 := fun i hi => absurd hi dom_nil
  lo1 := fun i hi => by rcases domB2 hi with rfl | rfl <;> exact .inl (by decide)
  pin := fun i hi => absurd hi dom_nil
  only := fun j hj => by cases hj
  outA := fun i bx z hl => by
    rcases lookB2 (by decide) hl with ⟨rfl, he⟩ | ⟨rfl, he⟩
    · cases he
      rw [show f2 a b 0 = a from rfl, look_put, if_neg hab, look_put, if_pos rfl]; rfl
    · cases he
      rw [show f2 a b 1 = b from rfl, look_put, if_pos rfl]; rfl
  outB := fun i hi => absurd hi dom_nil
  outC := fun j hj => by
    have h1 : j ≠ a := fun e => hj 0 (.inr (by simp [look])) e.symm
    have h2 : j ≠ b := fun e => hj 1 (.inr (by simp [look])) e.symm
    rw [look_put, if_neg h2, look_put, if_neg h1, look_scrub0]
/-- One box is taken and comes back otherwise, one stays as it is. -/
theorem fits_cm {h : Hp} {a b : Nat} {te te2 : TypeId} {l l' l2 : List PV} (ha : look h a = some (.pu te l, false)) (hb : look h b = some (.pu te2 l2, false)) (hab : a ≠ b) (hka : a < 500) (hkb : b < 500) :
    Fits h (f2 a b) [(0, (.pu te l, false)), (1000, (.pu te2 l2, false))] [(0, (.pu te l', false)), (1000, (.pu te2 l2, false))] [] (put (scrubH a h) a (.pu te l', false)) (some a) where
  inj := fun i j hi hj hf => by
    have hi := hi.elim domB2 domB2
    have hj := hj.elim domB2 domB2
    rcases hi with rfl | rfl <;> rcases hj with rfl | rfl
    · rfl
    · exact absurd hf (by simpa [f2] using hab)
    · exact absurd hf.symm (by simpa [f2] using hab)
    · rfl
  wf0 := fun id bx z hl j hj => by
    rcases lookB2 (by decide) hl with ⟨rfl, he⟩ | ⟨rfl, he⟩ <;> cases he <;> (simp only [Bx.cells] at hj; rw [acRefs_pv] at hj; cases hj)
  inp := fun i bx z hl => by
    rcases lookB2 (by decide) hl with ⟨rfl, he⟩ | ⟨rfl, he⟩ <;> cases he
    · exact ha
    · exact hb
  frz := fun id hid => by cases hid
  new := fun i hi hn => by rcases domB2 hi with rfl | rfl <;> simp [look] at hn
  mv := fun i hi hlt => by
    rcases domB2 hi with rfl | rfl
    · exact ⟨rfl, by show a < 1000; omega⟩
    · omega
  lo0 := fun i hi => by
    rcases domB2 hi with rfl | rfl
    · exact .inl hka
    · exact .inl hkb
  lo1 := fun i hi => by
    rcases domB2 hi with rfl | rfl
    · exact .inl (by decide)
    · exact .inr (by decide)
  pin := fun i hi hge => by
    rcases domB2 hi with rfl | rfl
    · omega
    · simp [look]
  only := fun j hj => ⟨0, by simp [look], by simpa [f2] using hj⟩
  outA := fun i bx z hl => by
    rcases lookB2 (by decide) hl with ⟨rfl, he⟩ | ⟨rfl, he⟩ <;> cases he
    · rw [show f2 a b 0 = a from rfl, look_put, if_pos rfl]; rfl
    · rw [show f2 a b 1000 = b from rfl, look_put, if_neg (fun e => hab e.symm), look_scrubH, hb]; rfl
  outB := fun i hi hn => by rcases domB2 hi with rfl | rfl <;> simp [look] at hn
  outC := fun j hj => by
    have h1 : j ≠ a := fun e => hj 0 (.inr (by simp [look])) e.symm
    rw [look_put, if_neg h1, look_scrubH]
    show _ = (look h j).map _
    cases look h j <;> rfl
section
variable {X : Ctx} {N : Nat} {R : AS → Prop} {k : List KI} {σ : AS} {ops : Array Oper} {D D' : Option (List Fl)} {rest : List Oper} {env env' : List (Nat × AV)} {h h' : Hp} {n n' : Nat} {dst : Option Tmp} {t d : Tmp} {op : Op} {ty tx t' : TypeId} {ps : String} {af : Array Edge}
/-- A call that hands back a value with two own slices. -/
theorem R_callNN {fo : Operand} {al : List Operand} {tl : List TypeId} {g : FuncId} {xs : List AV} {pas : List PA} {ids : List Nat} {te te2 : TypeId} {l l2 : List PV} {h1' h2' : Hp} {y v : AV} (hs : SpcS X g xs [] y [(0, (.pu te l, false)), (1, (.pu te2 l2, false))]) (hf : EvR env fo (.one (.pv (.clo g []))) := by first | exact .fn | exact ⟨rfl⟩)
    (hv : VOs h env al pas ids) (hx : pas.map PA.av = xs := by exact rfl) (hn : look h n = none := by rfl) (hn2 : look h (n + 1) = none := by rfl) (hk1 : Nat.blt (n + 1) 1000 = true := by rfl) (hz : (ids.all fun i => (look h i).isSome) = true := by rfl) (hh : FrzR h ids h1' := by repeat (first | exact FrzR.nil | (apply FrzR.cons; rfl; (repeat (first | exact .hit | exact .nil | (apply PutR.miss; rfl))))))
    (hp : PutR h1' n (.pu te l, false) h2' := by repeat (first | exact .hit | exact .nil | (apply PutR.miss; rfl))) (hp2 : PutR h2' (n + 1) (.pu te2 l2, false) h' := by repeat (first | exact .hit | exact .nil | (apply PutR.miss; rfl)))
    (hy : y.ren (f2 n (n + 1)) = v := by exact rfl) (hfl : FlR D env (.call ⟨.value fo, ⟨al⟩, ⟨tl⟩⟩) v (.e h' none) D' := by first | exact .seq | exact .drawn rfl) (hK : Rn X N R k ops D' rest ⟨(d, v) :: env, h', n + 2⟩) : Rn X N R k ops D (⟨some d, .call ⟨.value fo, ⟨al⟩, ⟨tl⟩⟩, ty, ps, af, none⟩ :: rest) ⟨env, h, n⟩ :=
  have hlt : n + 1 < 1000 := lt1k hk1
  R_callS (f := f2 n (n + 1)) (n' := n + 2) (zs := ids) (h' := h') (m := none) hs hf (by rw [← hp2.eq, ← hp.eq, ← hh.eq]; exact fits_new2 hn hn2 (by omega) (by omega) (by omega) (all_some hz)) (by
    rw [← hx]; exact hv.args fun id hid => hid) (fun a e => by cases e) (by rw [hy]; exact hfl) (by rw [hy]; exact hK)
/-- A call that takes a slice, reads another one of the frame's, and hands back a slice for the first. -/
theorem R_callCM {fo a0 a1 a2 : Operand} {tl : List TypeId} {g : FuncId} {te te2 : TypeId} {p : PV} {id ib S S2 q q2 q' : Nat} {c c2 c' : List PV} {h2' : Hp} (hs : SpcS X g [.one (.own 0 S q), .one (.pv p), .one (.own 1000 S2 q2)] [(0, (.pu te c, false)), (1000, (.pu te2 c2, false))] (.one (.own 0 S q')) [(0, (.pu te c', false)), (1000, (.pu te2 c2, false))]) (hf : EvR env fo (.one (.pv (.clo g []))) := by first | exact .fn | exact ⟨rfl⟩)
    (h0 : EvR env a0 (.one (.own id S q)) := by exact ⟨rfl⟩) (h1 : EvR env a1 (.one (.pv p)) := by first | exact .tmp rfl | exact .ci rfl | exact .cs rfl) (h2 : EvR env a2 (.one (.own ib S2 q2)) := by exact ⟨rfl⟩) (hlk : look h id = some (.pu te c, false) := by rfl) (hlk2 : look h ib = some (.pu te2 c2, false) := by rfl) (hne : Nat.beq id ib = false := by rfl) (hk1 : Nat.blt id 500 = true := by rfl) (hk2 : Nat.blt ib 500 = true := by rfl)
    (hsc : scrubH id h = h2' := by exact rfl) (hp : PutR h2' id (.pu te c', false) h' := by repeat (first | exact .hit | exact .nil | (apply PutR.miss; rfl))) (henv : scrubEnv id env = env' := by exact Eq.refl _)
    (hfl : FlR D env (.call ⟨.value fo, ⟨[a0, a1, a2]⟩, ⟨tl⟩⟩) (.one (.own id S q')) (.e h' (some id)) D' := by first | exact .seq | exact .drawn rfl) (hK : Rn X N R k ops D' rest ⟨(d, .one (.own id S q')) :: env', h', n⟩) : Rn X N R k ops D (⟨some d, .call ⟨.value fo, ⟨[a0, a1, a2]⟩, ⟨tl⟩⟩, ty, ps, af, none⟩ :: rest) ⟨env, h, n⟩ :=
  R_callS (f := f2 id ib) (n' := n) (zs := []) (h' := h') (m := some id) hs hf (by rw [← hp.eq, ← hsc]; exact fits_cm hlk hlk2 (by intro e; subst e; simp at hne) (lt5h hk1) (lt5h hk2)) (by
    rw [List.map_cons, List.map_cons, List.map_cons, List.map_nil, h0.h, h1.h, h2.h]
    refine .cons (.own (x := .one (.own 0 S q)) (fun e => by cases e) (fun i hi => by simp only [AV.refs, AC.refs, List.mem_singleton] at hi; subst hi; simp [look])) (.cons (.own (x := .one (.pv p)) (fun e => by cases e) (fun i hi => by cases hi)) (.cons (.own (x := .one (.own 1000 S2 q2)) (fun e => by cases e) (fun i hi => by simp only [AV.refs, AC.refs, List.mem_singleton] at hi; subst hi; simp [look])) .nil))) (fun a e i hi _ => by cases e; rw [← hp.eq, ← hsc]; exact app_sc (h0 := h) (fun i _ => rfl) hi) hfl (by simp only [AS.fin, putO, putE, henv]; exact hK)
end
end Go.VL


namespace Go.VL
open Go.RowKit
set_option linter.unusedVariables false
section
variable {X : Ctx} {ok : Nat → Prop} {w w' : World} {h0 : Hp} {β : Bt}
theorem Hand.row {i0 g : Nat} {te : TypeId} {c : List PV} {z : Bool} (d : Hand X ok w h0 β) (hl : look h0 i0 = some (.pu te c, z)) (hg : β i0 = some g) (hi : i0 < 500 ∨ 1000 ≤ i0) : ∃ arr, w.heap[g]? = some (.cells arr te (0, 0)) ∧ ∀ (j : Nat) p, c[j]? = some p → ∃ u : Value, arr[j]? = some u ∧ RepP w ok p u := by
  have hb := d.box i0 _ _ hl
  unfold BoxRep at hb
  rw [hg] at hb
  obtain ⟨_, arr, e, harr, he, hc⟩ := hb
  obtain rfl := he _ _ rfl
  refine ⟨arr, RowAt.low harr hi, fun j p hj => ?_⟩
  obtain ⟨u, hu, hr⟩ := hc j (.pv p) (by simp [Bx.cells, hj])
  exact ⟨u, hu, hr⟩
/-- A row handed over, written in place. -/
theorem row_after {i0 g : Nat} {te : TypeId} {c c' : List PV} {arr arr' : Array Value} (hG : X.G w) (hlt : ∀ b, ok b → b < w.heap.size) (d : Hand X ok w h0 β) (hl : look h0 i0 = some (.pu te c, false)) (hg : β i0 = some g) (harr : w.heap[g]? = some (.cells arr te (0, 0)))
    (hb : BelowM (fun k => k = g) w w') (harr' : w'.heap[g]? = some (.cells arr' te (0, 0))) (hsz : arr'.size = arr.size) (hc : ∀ (j : Nat) p, c'[j]? = some p → ∃ u : Value, arr'[j]? = some u ∧ RepP w ok p u) :
    HRel X ⟨w, ok, handed h0 β, pinOf β⟩ (put h0 i0 (.pu te c', false)) β w' := by
  have r := d.rel hG hlt
  have hlt' : g < w.heap.size := (Array.getElem?_eq_some_iff.1 harr).1
  have hset := r.set (bx' := .pu te c') (arr' := arr') hl hg (.new harr) hsz rfl (fun e' l he => by cases he; rfl) (fun j x hj => by
    simp only [Bx.cells, List.getElem?_map] at hj
    cases hp : c'[j]? with
    | none => rw [hp] at hj; cases hj
    | some p =>
      rw [hp] at hj
      simp only [Option.map_some, Option.some.injEq] at hj
      subst hj
      obtain ⟨u, hu, hr⟩ := hc j p hp
      exact ⟨u, hu, RepP.mono (fun b hb => ⟨d.okOf hlt b hb, rfl⟩) hr⟩) (fun i hi => by simp only [Bx.cells] at hi; rw [acRefs_pv] at hi; cases hi)
  refine hset.ext ⟨hb.os, hb.tape, hb.output, by simpa using hb.size, fun k hk => ?_⟩
  have hk : k < w.heap.size := by simpa using hk
  by_cases he : k = g
  · subst he
    rw [harr', setRow_heap w k arr arr' te (0, 0) harr]
  · rw [hb.block k hk he, setRow_other w g k arr' he]
theorem ok_after {i0 g : Nat} {te : TypeId} {c c' : List PV} (hlt : ∀ b, ok b → b < w.heap.size) (d : Hand X ok w h0 β) (hl : look h0 i0 = some (.pu te c, false)) (hsz : w.heap.size ≤ w'.heap.size) : ∀ b, ok b → Fr.ok ⟨w, ok, handed h0 β, pinOf β⟩ w' (put h0 i0 (.pu te c', false)) β b := fun b hb =>
  ⟨Nat.lt_of_lt_of_le (hlt b hb) hsz, fun _ => .inl hb, fun i bx hl' hg => by
    rw [look_put] at hl'
    by_cases hi : i = i0
    · subst hi; exact (d.lt hl hg).2.2 hb
    · rw [if_neg hi] at hl'; exact (d.lt hl' hg).2.2 hb⟩
end
/-- The kit's words for a row written in place. -/
theorem putRow_at {α : Type} [Inhabited α] {enc : α → Value} {w : World} {g q : Nat} {arr : Array Value} {te : TypeId} {l : List α} {os : Array Obj} (h : w.heap[g]? = some (.cells arr te (0, 0))) :
    BelowM (fun k => k = g) w (Sort.grow (Sort.putRow enc (Sort.ahead w q) g 0 l.toArray) os) ∧ ∃ arr', (Sort.grow (Sort.putRow enc (Sort.ahead w q) g 0 l.toArray) os).heap[g]? = some (.cells arr' te (0, 0)) ∧ arr'.size = arr.size ∧ ∀ (j : Nat) x, j < arr.size → l[j]? = some x → arr'[j]? = some (enc x) := by
  have hlt : g < w.heap.size := (Array.getElem?_eq_some_iff.1 h).1
  have hm : (Sort.putRow enc (Sort.ahead w q) g 0 l.toArray).heap = w.heap.modify g (Sort.onCells (Sort.putCells enc 0 l.toArray)) := rfl
  have hs : (Sort.putRow enc (Sort.ahead w q) g 0 l.toArray).heap.size = w.heap.size := by rw [hm]; simp
  have hgr : ∀ k, k < w.heap.size → (Sort.grow (Sort.putRow enc (Sort.ahead w q) g 0 l.toArray) os).heap[k]? = (w.heap.modify g (Sort.onCells (Sort.putCells enc 0 l.toArray)))[k]? := fun k hk => by
    show ((Sort.putRow enc (Sort.ahead w q) g 0 l.toArray).heap ++ os)[k]? = _
    rw [Array.getElem?_append, if_pos (by rw [hs]; exact hk), hm]
  refine ⟨⟨rfl, rfl, rfl, ?_, fun k hk hn => ?_⟩, Sort.putCells enc 0 l.toArray arr, ?_, by simp [Sort.putCells], fun j x hj hx => ?_⟩
  · show w.heap.size ≤ ((Sort.putRow enc (Sort.ahead w q) g 0 l.toArray).heap ++ os).size
    rw [Array.size_append, hs]; omega
  · rw [hgr k hk, Array.getElem?_modify, if_neg (fun e => hn e.symm)]
  · rw [hgr g hlt, Array.getElem?_modify, if_pos rfl, h]; rfl
  · have hjl : j < l.length := (List.getElem?_eq_some_iff.1 hx).1
    have hxe : l[j] = x := (List.getElem?_eq_some_iff.1 hx).2
    unfold Sort.putCells
    rw [Array.getElem?_mapIdx, Array.getElem?_eq_getElem hj, Option.map_some, if_pos ⟨Nat.zero_le _, by simpa using hjl⟩]
    simp [hjl, hxe]
theorem holds_row {α : Type} [Inhabited α] {enc : α → Value} {w : World} {ok : Nat → Prop} {g : Nat} {arr : Array Value} {te : TypeId} {l : List α} {p : α → PV} (h : w.heap[g]? = some (.cells arr te (0, 0))) (hc : ∀ (j : Nat) x, l[j]? = some x → ∃ u : Value, arr[j]? = some u ∧ RepP w ok (p x) u) (hp : ∀ x u, RepP w ok (p x) u → u = enc x) : Sort.Holds enc w g 0 l.toArray := fun j hj => by
  have hj : j < l.length := by simpa using hj
  obtain ⟨u, hu, hr⟩ := hc j _ (List.getElem?_eq_getElem hj)
  have := hp _ _ hr
  subst this
  refine ⟨?_, Lib.frozen_of_heap h _⟩
  rw [cell_of_row w g _ arr te (0, 0) h, Nat.zero_add, hu]
  simp [hj]
theorem flat1_get {α : Type} {p : α → PV} (l : List α) (j : Nat) : (l.flatMap fun x => [p x])[j]? = l[j]?.map p := by
  have : (l.flatMap fun x => [p x]) = l.map p := by induction l <;> simp_all
  rw [this, List.getElem?_map]
/-- slices.Sort of strings. -/
theorem sortS_spec {X : Ctx} {f : FuncId} {te : TypeId} {l : List (List UInt8)} {le : List UInt8 → List UInt8 → Bool} (hent : Ent X.P f) (hlen : l.length < 4611686018427387904) (hperm : ∀ x ∈ l.mergeSort le, x ∈ l) (hln : (l.mergeSort le).length = l.length)
    (hkit : ∀ (blk cap : Nat) (w : World), Sort.Holds Go.Proofs.encStr w blk 0 l.toArray → blk < w.heap.size → Calls X.P f #[.slice (some ⟨blk, 0, none⟩) l.length cap] w fun e w' => e = .returned (.tuple #[]) ∧ ∃ n os, w' = Sort.grow (Sort.putRow Go.Proofs.encStr (Sort.ahead w n) blk 0 (l.mergeSort le).toArray) os)
    (hnone : ∀ (w : World), Calls X.P f #[.slice none 0 0] w fun e w' => e = .returned (.tuple #[]) ∧ w' = w) :
    SpcS X f [.one (.own 1000 1 l.length)] [(1000, (.pu te (l.flatMap eS), false))] (.tup []) [(1000, (.pu te ((l.mergeSort le).flatMap eS), false))] where
  ent := hent
  calls := fun ok w vals β hG hlt d hs hv => by
    obtain ⟨u, hu, hr⟩ := hv 0 _ rfl
    have hr : OwnRep w β 1000 1 l.length u := hr
    have hvals : vals = #[u] := by
      apply Array.ext
      · simpa using hs
      · intro i h1 h2
        have : i = 0 := by simp at h2; omega
        subst this
        exact (Array.getElem?_eq_some_iff.1 hu).2
    subst hvals
    have fin : ∀ w', HRel X ⟨w, ok, handed [(1000, (.pu te (l.flatMap eS), false))] β, pinOf β⟩ [(1000, (.pu te ((l.mergeSort le).flatMap eS), false))] β w' → ∃ u β', Ending.returned (.tuple #[]) = .returned u ∧ HRel X ⟨w, ok, handed [(1000, (.pu te (l.flatMap eS), false))] β, pinOf β⟩ [(1000, (.pu te ((l.mergeSort le).flatMap eS), false))] β' w' ∧ RepV w' (Fr.ok ⟨w, ok, handed [(1000, (.pu te (l.flatMap eS), false))] β, pinOf β⟩ w' [(1000, (.pu te ((l.mergeSort le).flatMap eS), false))] β') β' (.tup []) u ∧ ∀ i ∈ (AV.tup []).refs, (look [(1000, ((Bx.pu te ((l.mergeSort le).flatMap eS)), false))] i).isSome = true := fun w' h =>
      ⟨_, β, rfl, h, ⟨#[], rfl, rfl, fun j x hj => by simp at hj⟩, fun i hi => by cases hi⟩
    rcases hr with ⟨rfl, h0⟩ | ⟨g, cap, hg, rfl, hcap, hmx, hbs⟩
    · have hl : l = [] := List.length_eq_zero_iff.1 h0
      subst hl
      refine (hnone w).mono fun e w' he => ?_
      obtain ⟨rfl, rfl⟩ := he
      have := d.rel hG hlt
      exact fin _ (by simpa using this)
    · obtain ⟨arr, harr, hc⟩ := d.row (i0 := 1000) rfl hg (.inr (Nat.le_refl _))
      have hlt' : g < w.heap.size := (Array.getElem?_eq_some_iff.1 harr).1
      have hc' : ∀ (j : Nat) x, l[j]? = some x → ∃ u : Value, arr[j]? = some u ∧ RepP w ok (.str x) u := fun j x hj => hc j _ (by
        have := flat1_get (p := PV.str) l j
        rw [hj] at this; exact this)
      refine (hkit g cap w (holds_row harr hc' (fun x u h => rep_str h)) hlt').mono fun e w' he => ?_
      obtain ⟨rfl, q, os, rfl⟩ := he
      obtain ⟨hb, arr', ha', hsz, hx⟩ := putRow_at (enc := Go.Proofs.encStr) (q := q) (l := l.mergeSort le) (os := os) harr
      refine fin _ (row_after (i0 := 1000) hG hlt d rfl hg harr hb ha' hsz fun j p hj => ?_)
      have hj : ((l.mergeSort le).flatMap fun x => [PV.str x])[j]? = some p := hj
      rw [flat1_get] at hj
      cases hq : (l.mergeSort le)[j]? with
      | none => rw [hq] at hj; cases hj
      | some x =>
        rw [hq] at hj
        simp only [Option.map_some, Option.some.injEq] at hj
        subst hj
        have hjl : j < l.length := by rw [← hln]; exact (List.getElem?_eq_some_iff.1 hq).1
        have hja : j < arr.size := by
          obtain ⟨u, hu, _⟩ := hc' j _ (List.getElem?_eq_getElem hjl)
          exact (Array.getElem?_eq_some_iff.1 hu).1
        refine ⟨_, hx j x hja hq, ?_⟩
        obtain ⟨i, hi⟩ := List.getElem?_of_mem (hperm x (List.mem_of_getElem? hq))
        obtain ⟨v, _, hrv⟩ := hc' i x hi
        have := rep_str hrv
        subst this
        exact hrv
theorem bsh_row {w : World} {g : Nat} {arr : Array Value} {te : TypeId} {fz : Nat × Nat} (h : w.heap[g]? = some (.cells arr te fz)) : bsh w g = (te, arr.size) := by unfold bsh; rw [h]
theorem vals3 {vals : Array Value} {u1 u2 u3 : Value} (hs : vals.size = 3) (h1 : vals[0]? = some u1) (h2 : vals[1]? = some u2) (h3 : vals[2]? = some u3) : vals = #[u1, u2, u3] := by
  apply Array.ext
  · simpa using hs
  · intro i ha hb
    match i with
    | 0 => exact (Array.getElem?_eq_some_iff.1 h1).2
    | 1 => exact (Array.getElem?_eq_some_iff.1 h2).2
    | 2 => exact (Array.getElem?_eq_some_iff.1 h3).2
    | i + 3 => omega
/-- slices.Delete of elements of one cell. -/
theorem del_spec {X : Ctx} {f : FuncId} {te : TypeId} {α : Type} [Inhabited α] {p : α → PV} {enc : α → Value} {z : α} {l : List α} {i j : Nat} (hent : Ent X.P f) (hp : ∀ (w : World) (ok : Nat → Prop) x u, RepP w ok (p x) u → u = enc x) (hij : i < j) (hj : j ≤ l.length)
    (hkit : ∀ (blk cap : Nat) (w : World), Sort.Holds enc w blk 0 l.toArray → l.length ≤ cap → cap ≤ 9223372036854775807 → Calls X.P f #[.slice (some ⟨blk, 0, none⟩) l.length cap, .int .i64 i, .int .i64 j] w fun e w' => e = .returned (.slice (some ⟨blk, 0, none⟩) (l.length - (j - i)) cap) ∧ ∃ q, w' = Sort.putRow enc (Sort.ahead w q) blk 0 (l.take i ++ l.drop j ++ List.replicate (j - i) z).toArray) :
    SpcS X f [.one (.own 0 1 l.length), .one (.pv (.int .i64 i)), .one (.pv (.int .i64 j))] [(0, (.pu te (l.flatMap fun x => [p x]), false))] (.one (.own 0 1 (l.length - (j - i)))) [(0, (.pu te ((l.take i ++ l.drop j).flatMap fun x => [p x]), false))] where
  ent := hent
  calls := fun ok w vals β hG hlt d hs hv => by
    obtain ⟨u, hu, hr⟩ := hv 0 _ rfl
    obtain ⟨u1, hu1, hr1⟩ := hv 1 _ rfl
    obtain ⟨u2, hu2, hr2⟩ := hv 2 _ rfl
    obtain ⟨rfl, _⟩ := one_int hr1
    obtain ⟨rfl, _⟩ := one_int hr2
    have hr : OwnRep w β 0 1 l.length u := hr
    obtain rfl := vals3 (by simpa using hs) hu hu1 hu2
    rcases hr with ⟨_, h0⟩ | ⟨g, cap, hg, rfl, hcap, hmx, hbs⟩
    · omega
    · obtain ⟨arr, harr, hc⟩ := d.row (i0 := 0) rfl hg (.inl (by decide))
      have hlt' : g < w.heap.size := (Array.getElem?_eq_some_iff.1 harr).1
      have hc' : ∀ (k : Nat) x, l[k]? = some x → ∃ u : Value, arr[k]? = some u ∧ RepP w ok (p x) u := fun k x hk => hc k _ (by rw [flat1_get, hk]; rfl)
      refine (hkit g cap w (holds_row harr hc' (hp w ok)) hcap hmx).mono fun e w' he => ?_
      obtain ⟨rfl, q, rfl⟩ := he
      obtain ⟨hb, arr', ha', hsz, hx⟩ := putRow_at (enc := enc) (q := q) (l := l.take i ++ l.drop j ++ List.replicate (j - i) z) (os := #[]) harr
      have hgr : ∀ W : World, Sort.grow W #[] = W := fun W => by simp [Sort.grow]
      rw [hgr] at hb ha'
      refine ⟨_, β, rfl, row_after (i0 := 0) (c' := (l.take i ++ l.drop j).flatMap fun x => [p x]) hG hlt d rfl hg harr hb ha' hsz fun k pp hk => ?_, .inr ⟨g, cap, hg, rfl, by omega, hmx, ?_⟩, fun k hk => ?_⟩
      · rw [flat1_get] at hk
        cases hq : (l.take i ++ l.drop j)[k]? with
        | none => rw [hq] at hk; cases hk
        | some x =>
          rw [hq] at hk
          simp only [Option.map_some, Option.some.injEq] at hk
          subst hk
          have hkl : k < (l.take i ++ l.drop j).length := (List.getElem?_eq_some_iff.1 hq).1
          have hkl2 : k < l.length := by simp at hkl; omega
          have hja : k < arr.size := by
            obtain ⟨u, hu, _⟩ := hc' k _ (List.getElem?_eq_getElem hkl2)
            exact (Array.getElem?_eq_some_iff.1 hu).1
          refine ⟨_, hx k x hja (by rw [List.getElem?_append, if_pos hkl]; exact hq), ?_⟩
          have hm : x ∈ l := by
            rcases List.mem_append.1 (List.mem_of_getElem? hq) with h | h
            · exact List.mem_of_mem_take h
            · exact List.mem_of_mem_drop h
          obtain ⟨k2, hk2⟩ := List.getElem?_of_mem hm
          obtain ⟨v, _, hrv⟩ := hc' k2 x hk2
          have := hp w ok x v hrv
          subst this
          exact hrv
      · rw [bsh_row ha', hsz]
        rw [bsh_row harr] at hbs
        exact hbs
      · simp only [AV.refs, AC.refs, List.mem_singleton] at hk
        subst hk; rfl
end Go.VL

