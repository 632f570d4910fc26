/- Contracts over whole values, and what they lean on: part g. Each holds under the conditions that it states. -/
import Derived.Test.YtlmioegjeocaaaaGreatDoorZf
import Derived.Shelf.Strings.Builder1
set_option linter.unusedVariables false
set_option linter.unusedSimpArgs false

namespace Go.VL
open Go.RowKit
set_option linter.unusedVariables false

/-- Operands, handed on. -/
inductive VOs (h : Hp) (env : List (Nat × AV)) : List Operand → List PA → List Nat → Prop
  | nil : VOs h env [] [] []
  | cons {x : Operand} {xs : List Operand} {v : AV} {p : PA} {ps : List PA} {i j : List Nat} (hx : EvR env x v) (hv : VA h v p i) (hr : VOs h env xs ps j) : VOs h env (x :: xs) (p :: ps) (i ++ j)
theorem VOs.vas {h : Hp} {env : List (Nat × AV)} {xs : List Operand} {ps : List PA} {ids : List Nat} (r : VOs h env xs ps ids) : VAs h (xs.map (evE env)) ps ids := by
  induction r with
  | nil => exact .nil
  | cons hx hv _ ih => rw [List.map_cons, hx.h]; exact .cons hv ih
theorem VC.app {h : Hp} {c : AC} {α : Type} {e : α → List PV} {l : List α} {ids : List Nat} (hc : VC h c (slc e l) ids) {S : Nat} (hS : ∀ x, (e x).length = S) (K : Nat → List PV → List Nat → Prop) (hK : K l.length (l.flatMap e) ids) : viewApp S h (.one c) K := by
  have := hc.h (fun p ids => match p with | .sl m cells => cells.length = m * S ∧ K m cells ids | _ => False) ⟨flat_len hS l, hK⟩
  cases c with
  | ptr id off => simp [viewC1] at this
  | clo f caps => simp [viewC1] at this
  | any => simp [viewC1] at this
  | ub => simp [viewC1] at this
  | adr id T sz => simp [viewC1] at this
  | mp id => simp [viewC1] at this
  | pv p => exact this
  | own id sz n => exact this
  | sub id sz off n => exact this
theorem av_one (p : PV) : PA.av (.one p) = .one (.pv p) := rfl
theorem FrzR.eq {h h' : Hp} {ids : List Nat} (r : FrzR h ids h') : frzs h ids = h' := by
  induction r with
  | nil => rfl
  | cons hl hp _ ih =>
    rw [frzs, ← ih]
    congr 1
    unfold frz
    rw [← hp.eq]
    simp [hl]
section
variable {X : Ctx} {N : Nat} {R : AS → Prop} {k : List KI} {σ : AS} {ops : Array Oper} {D D' : Option (List Fl)} {rest : List Oper} {env env' : List (Nat × AV)} {h h' : Hp} {n n' : Nat} {dst : Option Tmp} {t d : Tmp} {op : Op} {ty tx t' : TypeId} {ps : String} {af : Array Edge}
/-! ### Calls -/
theorem R_callG {f : Operand} {al : List Operand} {tl : List TypeId} {g : FuncId} {caps : List PV} {pas args : List PA} {ids zs : List Nat} {res : PA} {v : AV} (hs : Spc X g args res) (hf : EvR env f (.one (.pv (.clo g caps)))) (hv : VOs h env al pas ids) (ha : pas ++ caps.map .one = args)
    (hr : res.av = v) (hz : (if res.plain = true then [] else ids) = zs) (hh : FrzR h zs h') (hfl : FlR D env (.call ⟨.value f, ⟨al⟩, ⟨tl⟩⟩) v (.n ids zs none) D')
    (hK : Rn X N R k ops D' rest ⟨putO env dst v, h', n⟩) : Rn X N R k ops D (⟨dst, .call ⟨.value f, ⟨al⟩, ⟨tl⟩⟩, ty, ps, af, none⟩ :: rest) ⟨env, h, n⟩ :=
  Rn.step (ef := .n ids zs none) (n' := n) trivial (fun K hK => by
    simp only [evOp, evCall, hf.h]
    refine .inl (hv.vas.h _ ⟨res, by rw [ha]; exact hs, ?_⟩)
    rw [hz, hr]; exact hK) hfl (by simp only [AS.fin, upd, hh.eq]; exact hK)
/-- A call that gets no own box. -/
theorem R_call {f : Operand} {al : List Operand} {tl : List TypeId} {g : FuncId} {caps : List PV} {pas args : List PA} {ids : List Nat} {res : PA} {v : AV} (hs : Spc X g args res) (hf : EvR env f (.one (.pv (.clo g caps))) := by first | exact .fn | exact ⟨rfl⟩) (hv : VOs h env al pas ids := by repeat (first | exact .nil | (apply VOs.cons; first | exact .tmp rfl | exact .ci rfl | exact .cb | exact .cs rfl | exact .of rfl | exact .fn | (apply EvR.cagg; repeat (first | exact OfL.nil | apply OfL.int | apply OfL.bool | apply OfL.str | apply OfL.nilS | (apply OfL.other; rfl; rfl)))) | exact VA.one (.pv rfl) | exact VA.one .nil | exact VA.one (.own rfl (fun _ => rfl) (by first | rfl | omega | (simp only [List.length_set, List.length_append, List.length_cons, List.length_nil, List.length_take, List.length_drop, List.length_replicate, List.length_map, List.length_reverse] <;> omega) | simp)) | exact VA.one (.ownTake rfl (fun _ => rfl) (by first | omega | simp)) | apply VA.agg | exact VL.nil | exact VL.pvs rfl | apply VL.cons | exact VC.pv rfl | exact VC.nil | exact VC.own rfl (fun _ => rfl) (by first | rfl | omega | (simp only [List.length_set, List.length_append, List.length_cons, List.length_nil, List.length_take, List.length_drop, List.length_replicate, List.length_map, List.length_reverse] <;> omega) | simp))) (ha : pas ++ caps.map .one = args := by exact rfl)
    (hr : res.av = v := by first | exact av_one _ | (simp only [PA.av, List.map_cons, List.map_nil]; exact Eq.refl _)) (hi : ids = [] := by rfl) (hfl : FlR D env (.call ⟨.value f, ⟨al⟩, ⟨tl⟩⟩) v (.n [] [] none) D' := by first | exact .seq | exact .drawn rfl)
    (hK : Rn X N R k ops D' rest ⟨(d, v) :: env, h, n⟩) : Rn X N R k ops D (⟨some d, .call ⟨.value f, ⟨al⟩, ⟨tl⟩⟩, ty, ps, af, none⟩ :: rest) ⟨env, h, n⟩ :=
  R_callG hs hf (by rw [hi] at hv; exact hv) ha hr (zs := []) (by split <;> rfl) .nil hfl hK
/-- A call that reads own boxes and hands back what has no place in memory. -/
theorem R_callP {f : Operand} {al : List Operand} {tl : List TypeId} {g : FuncId} {caps : List PV} {pas args : List PA} {ids ids' : List Nat} {res : PA} {v : AV} (hs : Spc X g args res) (hf : EvR env f (.one (.pv (.clo g caps))) := by first | exact .fn | exact ⟨rfl⟩) (hv : VOs h env al pas ids := by repeat (first | exact .nil | (apply VOs.cons; first | exact .tmp rfl | exact .ci rfl | exact .cb | exact .cs rfl | exact .of rfl | exact .fn | (apply EvR.cagg; repeat (first | exact OfL.nil | apply OfL.int | apply OfL.bool | apply OfL.str | apply OfL.nilS | (apply OfL.other; rfl; rfl)))) | exact VA.one (.pv rfl) | exact VA.one .nil | exact VA.one (.own rfl (fun _ => rfl) (by first | rfl | omega | (simp only [List.length_set, List.length_append, List.length_cons, List.length_nil, List.length_take, List.length_drop, List.length_replicate, List.length_map, List.length_reverse] <;> omega) | simp)) | exact VA.one (.ownTake rfl (fun _ => rfl) (by first | omega | simp)) | apply VA.agg | exact VL.nil | exact VL.pvs rfl | apply VL.cons | exact VC.pv rfl | exact VC.nil | exact VC.own rfl (fun _ => rfl) (by first | rfl | omega | (simp only [List.length_set, List.length_append, List.length_cons, List.length_nil, List.length_take, List.length_drop, List.length_replicate, List.length_map, List.length_reverse] <;> omega) | simp))) (ha : pas ++ caps.map .one = args := by exact rfl)
    (hr : res.av = v := by first | exact av_one _ | (simp only [PA.av, List.map_cons, List.map_nil]; exact Eq.refl _)) (hp : res.plain = true := by rfl) (hfl : FlR D env (.call ⟨.value f, ⟨al⟩, ⟨tl⟩⟩) v (.n ids [] none) D' := by first | exact .seq | exact .drawn rfl)
    (hK : Rn X N R k ops D' rest ⟨(d, v) :: env, h, n⟩) : Rn X N R k ops D (⟨some d, .call ⟨.value f, ⟨al⟩, ⟨tl⟩⟩, ty, ps, af, none⟩ :: rest) ⟨env, h, n⟩ :=
  R_callG hs hf hv ha hr (zs := []) (by rw [if_pos hp]) .nil hfl hK
/-- A call that is handed own boxes: they are read only from then on. -/
theorem R_callF {f : Operand} {al : List Operand} {tl : List TypeId} {g : FuncId} {caps : List PV} {pas args : List PA} {ids : List Nat} {res : PA} {v : AV} (hs : Spc X g args res) (hf : EvR env f (.one (.pv (.clo g caps))) := by first | exact .fn | exact ⟨rfl⟩) (hv : VOs h env al pas ids := by repeat (first | exact .nil | (apply VOs.cons; first | exact .tmp rfl | exact .ci rfl | exact .cb | exact .cs rfl | exact .of rfl | exact .fn | (apply EvR.cagg; repeat (first | exact OfL.nil | apply OfL.int | apply OfL.bool | apply OfL.str | apply OfL.nilS | (apply OfL.other; rfl; rfl)))) | exact VA.one (.pv rfl) | exact VA.one .nil | exact VA.one (.own rfl (fun _ => rfl) (by first | rfl | omega | (simp only [List.length_set, List.length_append, List.length_cons, List.length_nil, List.length_take, List.length_drop, List.length_replicate, List.length_map, List.length_reverse] <;> omega) | simp)) | exact VA.one (.ownTake rfl (fun _ => rfl) (by first | omega | simp)) | apply VA.agg | exact VL.nil | exact VL.pvs rfl | apply VL.cons | exact VC.pv rfl | exact VC.nil | exact VC.own rfl (fun _ => rfl) (by first | rfl | omega | (simp only [List.length_set, List.length_append, List.length_cons, List.length_nil, List.length_take, List.length_drop, List.length_replicate, List.length_map, List.length_reverse] <;> omega) | simp))) (ha : pas ++ caps.map .one = args := by exact rfl)
    (hr : res.av = v := by first | exact av_one _ | (simp only [PA.av, List.map_cons, List.map_nil]; exact Eq.refl _)) (hp : res.plain = false := by rfl) (hh : FrzR h ids h' := by repeat (first | exact FrzR.nil | (apply FrzR.cons; rfl; (repeat (first | exact .hit | exact .nil | (apply PutR.miss; rfl)))))) (hfl : FlR D env (.call ⟨.value f, ⟨al⟩, ⟨tl⟩⟩) v (.n ids ids none) D' := by first | exact .seq | exact .drawn rfl)
    (hK : Rn X N R k ops D' rest ⟨(d, v) :: env, h', n⟩) : Rn X N R k ops D (⟨some d, .call ⟨.value f, ⟨al⟩, ⟨tl⟩⟩, ty, ps, af, none⟩ :: rest) ⟨env, h, n⟩ :=
  R_callG hs hf hv ha hr (zs := ids) (by rw [if_neg (by rw [hp]; simp)]) hh hfl hK

/-! ### Variables in memory -/
theorem R_box {x : Operand} {v : AV} {cs : List AC} {te : TypeId} (hx : EvR env x v := by first | exact .tmp rfl | exact .ci rfl | exact .cb | exact .cs rfl | exact .of rfl | exact .fn | (apply EvR.cagg; repeat (first | exact OfL.nil | apply OfL.int | apply OfL.bool | apply OfL.str | apply OfL.nilS | (apply OfL.other; rfl; rfl)))) (hc : avCells v = some cs := by exact rfl) (hn : look h n = none := by rfl) (hk1 : Nat.blt n 1000 = true := by rfl) (hh : PutR h n (.mx cs, false) h' := by repeat (first | exact .hit | exact .nil | (apply PutR.miss; rfl))) (hfl : FlR D env (.box te x) (.one (.ptr n 0)) (.n [] [] (some (n, .mx cs))) D' := by first | exact .seq | exact .drawn rfl)
    (hK : Rn X N R k ops D' rest ⟨(d, .one (.ptr n 0)) :: env, h', n + 1⟩) : Rn X N R k ops D (⟨some d, .box te x, ty, ps, af, none⟩ :: rest) ⟨env, h, n⟩ :=
  Rn.step (ef := .n [] [] (some (n, .mx cs))) (n' := n + 1) ⟨hn, lt1k hk1⟩ (fun K hK => by simp only [evOp, hx.h, evBox, hc]; exact ⟨hn, .inl hK⟩) hfl (by simp only [AS.fin, upd, putO, putE, frzs, hh.eq]; exact hK)
/-- A variable that holds whole values alone, told so. -/
theorem R_boxPu {x : Operand} {v : AV} {l : List PV} {te : TypeId} (hx : EvR env x v := by first | exact .tmp rfl | exact .of rfl) (hc : avCells v = some (l.map AC.pv) := by exact rfl) (hn : look h n = none := by rfl) (hk1 : Nat.blt n 1000 = true := by rfl) (hh : PutR h n (.pu te l, false) h' := by repeat (first | exact .hit | exact .nil | (apply PutR.miss; rfl))) (hfl : FlR D env (.box te x) (.one (.ptr n 0)) (.n [] [] (some (n, .pu te l))) D' := by first | exact .seq | exact .drawn rfl)
    (hK : Rn X N R k ops D' rest ⟨(d, .one (.ptr n 0)) :: env, h', n + 1⟩) : Rn X N R k ops D (⟨some d, .box te x, ty, ps, af, none⟩ :: rest) ⟨env, h, n⟩ :=
  Rn.step (ef := .n [] [] (some (n, .pu te l))) (n' := n + 1) ⟨hn, lt1k hk1⟩ (fun K hK => by simp only [evOp, hx.h, evBox, hc]; exact ⟨hn, .inr ⟨l, rfl, hK⟩⟩) hfl (by simp only [AS.fin, upd, putO, putE, frzs, hh.eq]; exact hK)
/-- A part of such a variable that is made of several cells. -/
theorem R_ldPuA {x : Operand} {id off : Nat} {l : List PV} {te : TypeId} {cs cs' : List AC} {zb : Bool} {T : TI} [hT : TInf X tx T] (hx : EvR env x (.one (.ptr id off)) := by exact ⟨rfl⟩) (hlk : look h id = some (.pu te l, zb) := by rfl) (hag : isAggU T.u = true := by rfl) (hm : l.map AC.pv = cs := by exact rfl) (hc : CutR cs off T.size cs' := by repeat (first | exact CutR.done | apply CutR.take | apply CutR.skip)) (hfl : FlR D env (.load tx x) (.agg cs') (.n [id] [] none) D' := by first | exact .seq | exact .drawn rfl)
    (hK : Rn X N R k ops D' rest ⟨(d, .agg cs') :: env, h, n⟩) : Rn X N R k ops D (⟨some d, .load tx x, ty, ps, af, none⟩ :: rest) ⟨env, h, n⟩ :=
  Rn.step (ef := .n [id] [] none) (n' := n) trivial (fun K hK => by
    subst hm
    have e := hc.eq
    simp only [evOp, hx.h, evLoadBx, hT.h, hlk, hag, if_true]
    rw [← List.map_drop, ← List.map_take] at e
    first | exact ⟨by simpa using e.1, by rw [e.2]; exact hK⟩ | skip) hfl hK
/-- An array, sliced whole. -/
theorem R_slArr {x : Operand} {id off q : Nat} {te : TypeId} {T : TI} {s b : Nat} {zz : Option Value} [hT : TInf X tx ⟨.array q te, s, b, zz⟩] [hE : TInf X te T] (hx : EvR env x (.one (.ptr id off)) := by exact ⟨rfl⟩) (hq : Nat.ble q topLen = true := by rfl) {S : Nat} (hS : T.size = S := by exact Eq.refl _)
    (hfl : FlR D env (.slice tx x none none none) (.one (.sub id S off q)) (.n [] [] none) D' := by first | exact .seq | exact .drawn rfl)
    (hK : Rn X N R k ops D' rest ⟨(d, .one (.sub id S off q)) :: env, h, n⟩) : Rn X N R k ops D (⟨some d, .slice tx x none none none, ty, ps, af, none⟩ :: rest) ⟨env, h, n⟩ :=
  Rn.val rfl (fun K hK => by
    subst hS
    simp only [evVal, evSlice, Option.map_none, hx.h, bnds, hT.h, hE.h]
    exact ⟨Nat.le_of_ble_eq_true hq, hK⟩) hfl hK
theorem R_alloc {te : TypeId} {u : TypeDesc} {S B : Nat} {z : Value} {cs : List AC} [hT : TInf X te ⟨u, S, B, some z⟩] (hc : OfL z.cells.toList cs := by repeat (first | exact OfL.nil | apply OfL.int | apply OfL.bool | apply OfL.str | apply OfL.nilS | (apply OfL.other; rfl; rfl))) (hn : look h n = none := by rfl) (hk1 : Nat.blt n 1000 = true := by rfl) (hh : PutR h n (.mx cs, false) h' := by repeat (first | exact .hit | exact .nil | (apply PutR.miss; rfl))) (hfl : FlR D env (.alloc te) (.one (.ptr n 0)) (.n [] [] (some (n, .mx cs))) D' := by first | exact .seq | exact .drawn rfl)
    (hK : Rn X N R k ops D' rest ⟨(d, .one (.ptr n 0)) :: env, h', n + 1⟩) : Rn X N R k ops D (⟨some d, .alloc te, ty, ps, af, none⟩ :: rest) ⟨env, h, n⟩ :=
  Rn.step (ef := .n [] [] (some (n, .mx cs))) (n' := n + 1) ⟨hn, lt1k hk1⟩ (fun K hK => by simp only [evOp, evAlloc, hT.h, zc_eq, zc_of hc]; exact .inl ⟨hn, hK⟩) hfl (by simp only [AS.fin, upd, putO, putE, frzs, hh.eq]; exact hK)
theorem R_ldM {x : Operand} {id off : Nat} {cs : List AC} {c : AC} {zb : Bool} {T : TI} [hT : TInf X tx T] (hx : EvR env x (.one (.ptr id off)) := by exact ⟨rfl⟩) (hlk : look h id = some (.mx cs, zb) := by rfl) (hag : isAggU T.u = false := by rfl) (hc : cs[off]? = some c := by rfl) (hfl : FlR D env (.load tx x) (.one c) (.n [id] [] none) D' := by first | exact .seq | exact .drawn rfl)
    (hK : Rn X N R k ops D' rest ⟨(d, .one c) :: env, h, n⟩) : Rn X N R k ops D (⟨some d, .load tx x, ty, ps, af, none⟩ :: rest) ⟨env, h, n⟩ :=
  Rn.step (ef := .n [id] [] none) (n' := n) trivial (fun K hK => by simp only [evOp, hx.h, evLoadBx, hT.h, hlk, hag, Bool.false_eq_true, if_false, hc]; exact hK) hfl hK
theorem R_ldMA {x : Operand} {id off : Nat} {cs cs' : List AC} {zb : Bool} {T : TI} [hT : TInf X tx T] (hx : EvR env x (.one (.ptr id off)) := by exact ⟨rfl⟩) (hlk : look h id = some (.mx cs, zb) := by rfl) (hag : isAggU T.u = true := by rfl) (hc : CutR cs off T.size cs' := by repeat (first | exact CutR.done | apply CutR.take | apply CutR.skip)) (hfl : FlR D env (.load tx x) (.agg cs') (.n [id] [] none) D' := by first | exact .seq | exact .drawn rfl)
    (hK : Rn X N R k ops D' rest ⟨(d, .agg cs') :: env, h, n⟩) : Rn X N R k ops D (⟨some d, .load tx x, ty, ps, af, none⟩ :: rest) ⟨env, h, n⟩ :=
  Rn.step (ef := .n [id] [] none) (n' := n) trivial (fun K hK => by simp only [evOp, hx.h, evLoadBx, hT.h, hlk, hag, if_true, hc.eq.2]; exact ⟨hc.eq.1, hK⟩) hfl hK
theorem R_stM {x y : Operand} {id off : Nat} {cs ds cs' : List AC} {v : AV} {T : TI} [hT : TInf X tx T] (hx : EvR env x (.one (.ptr id off)) := by exact ⟨rfl⟩) (hlk : look h id = some (.mx cs, false) := by rfl) (hy : EvR env y v := by first | exact .tmp rfl | exact .ci rfl | exact .cb | exact .cs rfl | exact .of rfl | exact .fn | (apply EvR.cagg; repeat (first | exact OfL.nil | apply OfL.int | apply OfL.bool | apply OfL.str | apply OfL.nilS | (apply OfL.other; rfl; rfl)))) (hd : avCells v = some ds := by exact rfl) (hl1 : ds.length = T.size := by rfl) (hc : SetR cs off ds cs' := by repeat (first | exact SetR.done | apply SetR.put | apply SetR.skip)) (hh : PutR h id (.mx cs', false) h' := by repeat (first | exact .hit | exact .nil | (apply PutR.miss; rfl))) (hfl : FlR D env (.store tx x y) .bot (.e h' none) D' := by first | exact .seq | exact .drawn rfl)
    (hK : Rn X N R k ops D' rest ⟨env, h', n⟩) : Rn X N R k ops D (⟨none, .store tx x y, ty, ps, af, none⟩ :: rest) ⟨env, h, n⟩ :=
  Rn.step (ef := .e h' none) (v := .bot) (n' := n) trivial (fun K hK => by
    simp only [evOp, hx.h, evStore, hT.h, hlk, hy.h, hd, setM_eq _ _ _ hc.eq.1, hc.eq.2, hh.eq]
    exact ⟨hl1, hc.eq.1, hK⟩) hfl hK
/-- An element that is a struct. -/
theorem R_ldA {x : Operand} {α : Type} {e : α → List PV} {l : List α} {m S : Nat} {a : α} {cs : List AC} {T : TI} [hT : TInf X tx T] (hx : EvR env x (vP (.pt (l.flatMap e) (m * S))) := by exact ⟨rfl⟩) (hS : ∀ x, (e x).length = S := by exact fun _ => rfl) (hT1 : S = T.size := by rfl) (hag : isAggU T.u = true := by rfl)
    (hl : l[m]? = some a := by exact gD (by first | omega | (simp only [List.length_set, List.length_append, List.length_cons, List.length_nil, List.length_take, List.length_drop, List.length_replicate, List.length_map, List.length_reverse] at * <;> omega))) (hc : (e a).map AC.pv = cs := by first | (simp only [List.map_cons, List.map_nil]; exact Eq.refl _) | exact Eq.refl _) (hfl : FlR D env (.load tx x) (.agg cs) (.n [] [] none) D' := by first | exact .seq | exact .drawn rfl)
    (hK : Rn X N R k ops D' rest ⟨(d, .agg cs) :: env, h, n⟩) : Rn X N R k ops D (⟨some d, .load tx x, ty, ps, af, none⟩ :: rest) ⟨env, h, n⟩ :=
  Rn.step (ef := .n [] [] none) trivial (fun K hK => by
    obtain ⟨h1, h2⟩ := flat_part hS hl
    subst hT1
    simp only [evOp, hx.h, evLoadPv, hT.h, hag, if_true, h1, hc]
    exact ⟨h2, hK⟩) hfl hK
theorem R_faddr {x : Operand} {i off : Nat} {cells : List PV} {fs : Array Field} {F : Field} {s b : Nat} {zz : Option Value} {T : TI} [hT : TInf X tx ⟨.struct fs, s, b, zz⟩] (hx : EvR env x (vP (.pt cells off)) := by exact ⟨rfl⟩) (hF : fs.toList[i]? = some F := by rfl) (hE : TInf X F.type T := by infer_instance) (h0 : Nat.beq T.size 0 = false := by rfl) {off' : Nat} (ho : F.offset = off' := by exact Eq.refl _)
    (hfl : FlR D env (.fieldAddr tx x i) (vP (.pt cells (off + off'))) (.n [] [] none) D' := by first | exact .seq | exact .drawn rfl)
    (hK : Rn X N R k ops D' rest ⟨(d, vP (.pt cells (off + off'))) :: env, h, n⟩) : Rn X N R k ops D (⟨some d, .fieldAddr tx x i, ty, ps, af, none⟩ :: rest) ⟨env, h, n⟩ :=
  Rn.val rfl (fun K hK => by simp only [evVal, hx.h, evFieldAddr, hT.h, gF hF, hE.h, ho]; exact ⟨fun e => by rw [e] at h0; simp at h0, hK⟩) hfl hK
theorem R_faddrM {x : Operand} {i id off : Nat} {fs : Array Field} {F : Field} {s b : Nat} {zz : Option Value} {T : TI} [hT : TInf X tx ⟨.struct fs, s, b, zz⟩] (hx : EvR env x (.one (.ptr id off)) := by exact ⟨rfl⟩) (hF : fs.toList[i]? = some F := by rfl) (hE : TInf X F.type T := by infer_instance) (h0 : Nat.beq T.size 0 = false := by rfl) {off' : Nat} (ho : off + F.offset = off' := by exact Eq.refl _)
    (hfl : FlR D env (.fieldAddr tx x i) (.one (.ptr id off')) (.n [] [] none) D' := by first | exact .seq | exact .drawn rfl)
    (hK : Rn X N R k ops D' rest ⟨(d, .one (.ptr id off')) :: env, h, n⟩) : Rn X N R k ops D (⟨some d, .fieldAddr tx x i, ty, ps, af, none⟩ :: rest) ⟨env, h, n⟩ :=
  Rn.val rfl (fun K hK => by simp only [evVal, hx.h, evFieldAddr, hT.h, gF hF, hE.h, ho]; exact ⟨fun e => by rw [e] at h0; simp at h0, hK⟩) hfl hK
/-- One cell of an element that is a struct. -/
theorem R_ldF {x : Operand} {α : Type} {e : α → List PV} {l : List α} {S m j : Nat} {a : α} {p : PV} {T : TI} [hT : TInf X tx T] (hx : EvR env x (vP (.pt (l.flatMap e) (m * S + j))) := by exact ⟨rfl⟩) (hS : ∀ x, (e x).length = S := by exact fun _ => rfl) (hag : isAggU T.u = false := by rfl)
    (hl : l[m]? = some a := by exact gD (by first | omega | (simp only [List.length_set, List.length_append, List.length_cons, List.length_nil, List.length_take, List.length_drop, List.length_replicate, List.length_map, List.length_reverse] at * <;> omega))) (hp : (e a)[j]? = some p := by rfl) (hfl : FlR D env (.load tx x) (vP p) (.n [] [] none) D' := by first | exact .seq | exact .drawn rfl)
    (hK : Rn X N R k ops D' rest ⟨(d, vP p) :: env, h, n⟩) : Rn X N R k ops D (⟨some d, .load tx x, ty, ps, af, none⟩ :: rest) ⟨env, h, n⟩ :=
  Rn.step (ef := .n [] [] none) trivial (fun K hK => by
    have hg := flat_get hS hl hp
    have h1 := (List.getElem?_eq_some_iff.1 hg).1
    simp only [evOp, hx.h, evLoadPv, hT.h, hag, Bool.false_eq_true, if_false]
    exact ⟨h1, by rw [List.getD_eq_getElem?_getD, hg]; exact hK⟩) hfl hK

/-! ### Appends -/
theorem R_app {x y : Operand} {α : Type} {e : α → List PV} {l l2 : List α} {id S m B s b : Nat} {te : TypeId} {u : TypeDesc} {zz : Option Value} {z : Value} {c : AC} {ids : List Nat} [hT : TInf X tx ⟨.slice te, s, b, zz⟩] [hE : TInf X te ⟨u, S, B, some z⟩] (hx : EvR env x (.one (.own id S m)) := by exact ⟨rfl⟩) (hlk : look h id = some (.pu te (l.flatMap e), false) := by rfl)
    (hm : m = l.length := by first | rfl | omega | simp) (hS : ∀ x, (e x).length = S := by exact fun _ => rfl) (hy : EvR env y (.one c) := by exact .of rfl) (hv : VC h c (slc e l2) ids := by first | exact .own rfl (fun _ => rfl) (by first | rfl | omega | (simp only [List.length_set, List.length_append, List.length_cons, List.length_nil, List.length_take, List.length_drop, List.length_replicate, List.length_map, List.length_reverse] <;> omega) | simp) | exact .pv rfl | exact .ownTake rfl (fun _ => rfl) (by first | omega | simp)) (h0 : Nat.ble 1 S = true := by rfl) (h1 : Nat.ble 1 B = true := by rfl) (hz : z.cells.size = S := by rfl) (hb : (m + l2.length) * B ≤ 140737488355328 := by first | omega | (simp only [List.length_set, List.length_append, List.length_cons, List.length_nil, List.length_take, List.length_drop, List.length_replicate, List.length_map, List.length_reverse] at * <;> omega)) (hi : ids.contains id = false := by rfl) (hk1 : Nat.blt id 500 = true := by rfl)
    {h1' h2' h3' : Hp} (hf : FrzR h ids h1' := by repeat (first | exact FrzR.nil | (apply FrzR.cons; rfl; (repeat (first | exact .hit | exact .nil | (apply PutR.miss; rfl)))))) (hsc : scrubH id h1' = h2' := by exact rfl) (hh : PutR h2' id (.pu te ((l ++ l2).flatMap e), false) h3' := by repeat (first | exact .hit | exact .nil | (apply PutR.miss; rfl))) (henv : scrubEnv id env = env' := by exact Eq.refl _)
    (hfl : FlR D env (.call ⟨.builtin .append, ⟨[x, y]⟩, ⟨[tx, tx]⟩⟩) (.one (.own id S (m + l2.length))) (.e h3' (some id)) D' := by first | exact .seq | exact .drawn rfl)
    (hK : Rn X N R k ops D' rest ⟨(d, .one (.own id S (m + l2.length))) :: env', h3', n⟩) : Rn X N R k ops D (⟨some d, .call ⟨.builtin .append, ⟨[x, y]⟩, ⟨[tx, tx]⟩⟩, ty, ps, af, none⟩ :: rest) ⟨env, h, n⟩ :=
  Rn.step (ef := .e h3' (some id)) (n' := n) trivial (fun K hK => by
    subst hm
    simp only [evOp, hx.h, hy.h, evAppend, hT.h, hE.h]
    refine .inl ⟨trivial, Nat.le_of_ble_eq_true h0, Nat.le_of_ble_eq_true h1, hz, hv.app hS _ ⟨trivial, ?_⟩⟩
    unfold evAppOwn
    rw [hlk]
    refine ⟨rfl, by rw [flat_len hS]; exact Nat.le_refl _, hb, hi, lt5h hk1, ?_⟩
    have e1 : (l.flatMap e).take (l.length * S) ++ l2.flatMap e = (l ++ l2).flatMap e := by rw [← flat_len hS l, List.take_length, List.flatMap_append]
    rw [e1, hf.eq, hsc, hh.eq]
    exact hK) hfl (by simp only [AS.fin, putO, putE, henv]; exact hK)
/-- The first append to a nil slice. -/
theorem R_app0 {x y : Operand} {α : Type} {e : α → List PV} {l2 : List α} {S B s b : Nat} {te : TypeId} {u : TypeDesc} {zz : Option Value} {z : Value} {c : AC} {ids : List Nat} [hT : TInf X tx ⟨.slice te, s, b, zz⟩] [hE : TInf X te ⟨u, S, B, some z⟩] (hx : EvR env x (vP .nil) := by exact ⟨rfl⟩) (hn : look h n = none := by rfl) (hk1 : Nat.blt n 500 = true := by rfl)
    (hS : ∀ x, (e x).length = S := by exact fun _ => rfl) (hy : EvR env y (.one c) := by exact .of rfl) (hv : VC h c (slc e l2) ids := by first | exact .own rfl (fun _ => rfl) (by first | rfl | omega | (simp only [List.length_set, List.length_append, List.length_cons, List.length_nil, List.length_take, List.length_drop, List.length_replicate, List.length_map, List.length_reverse] <;> omega) | simp) | exact .pv rfl | exact .ownTake rfl (fun _ => rfl) (by first | omega | simp)) (h0 : Nat.ble 1 S = true := by rfl) (h1 : Nat.ble 1 B = true := by rfl) (hz : z.cells.size = S := by rfl) (hb : l2.length * B ≤ 140737488355328 := by first | omega | (simp only [List.length_set, List.length_append, List.length_cons, List.length_nil, List.length_take, List.length_drop, List.length_replicate, List.length_map, List.length_reverse] at * <;> omega)) (hi : ids.contains n = false := by rfl)
    {h0' h1' h2' h3' : Hp} (hp0 : PutR h n (.pu te [], false) h0' := by repeat (first | exact .hit | exact .nil | (apply PutR.miss; rfl))) (hf : FrzR h0' ids h1' := by repeat (first | exact FrzR.nil | (apply FrzR.cons; rfl; (repeat (first | exact .hit | exact .nil | (apply PutR.miss; rfl)))))) (hsc : scrubH n h1' = h2' := by exact rfl) (hh : PutR h2' n (.pu te (l2.flatMap e), false) h3' := by repeat (first | exact .hit | exact .nil | (apply PutR.miss; rfl))) (henv : scrubEnv n env = env' := by exact Eq.refl _)
    (hfl : FlR D env (.call ⟨.builtin .append, ⟨[x, y]⟩, ⟨[tx, tx]⟩⟩) (.one (.own n S l2.length)) (.e h3' (some n)) D' := by first | exact .seq | exact .drawn rfl)
    (hK : Rn X N R k ops D' rest ⟨(d, .one (.own n S l2.length)) :: env', h3', n + 1⟩) : Rn X N R k ops D (⟨some d, .call ⟨.builtin .append, ⟨[x, y]⟩, ⟨[tx, tx]⟩⟩, ty, ps, af, none⟩ :: rest) ⟨env, h, n⟩ :=
  Rn.step (ef := .e h3' (some n)) (n' := n + 1) trivial (fun K hK => by
    simp only [evOp, hx.h, hy.h, evAppend, hT.h, hE.h]
    refine .inl ⟨trivial, Nat.le_of_ble_eq_true h0, Nat.le_of_ble_eq_true h1, hz, hv.app hS _ ⟨hn, ?_⟩⟩
    unfold evAppOwn
    rw [look_put, if_pos rfl]
    refine ⟨rfl, by simp, by simpa using hb, hi, lt5h hk1, ?_⟩
    rw [hp0.eq, hf.eq, hsc]
    simp only [Nat.zero_mul, List.take_nil, List.nil_append, Nat.zero_add, hh.eq]
    exact hK) hfl (by simp only [AS.fin, putO, putE, henv]; exact hK)
end
end Go.VL


namespace Go.VL
open Go.RowKit
set_option linter.unusedVariables false
theorem wrap_of_range {k : IntKind} {a : Int} (h : k.min ≤ a ∧ a ≤ k.max) : k.wrap a = a := by
  cases k <;> simp [IntKind.min, IntKind.max, IntKind.wrap, IntKind.signed, IntKind.bits] at * <;> omega
def isIfc : TypeDesc → Bool
  | .interface _ => true
  | _ => false
section
variable {X : Ctx} {N : Nat} {R : AS → Prop} {k : List KI} {σ : AS} {ops : Array Oper} {D D' : Option (List Fl)} {rest : List Oper} {env env' : List (Nat × AV)} {h h' : Hp} {n n' : Nat} {dst : Option Tmp} {t d : Tmp} {op : Op} {ty tx t' : TypeId} {ps : String} {af : Array Edge}
theorem R_beql {x y : Operand} {a b : Bool} {s q : Nat} {zz : Option Value} [hT : TInf X tx ⟨.bool, s, q, zz⟩] (hx : EvR env x (vB a) := by exact ⟨rfl⟩) (hy : EvR env y (vB b) := by exact ⟨rfl⟩)
    (hfl : FlR D env (.binOp .eql tx x y t') (vB (decide (a = b))) (.n [] [] none) D' := by first | exact .seq | exact .drawn rfl)
    (hK : Rn X N R k ops D' rest ⟨(d, vB (decide (a = b))) :: env, h, n⟩) : Rn X N R k ops D (⟨some d, .binOp .eql tx x y t', ty, ps, af, none⟩ :: rest) ⟨env, h, n⟩ :=
  Rn.val rfl (fun K hK => by
    simp only [evVal, hx.h, hy.h, evBin, evEq, hT.h]; exact .inr (by rw [show (a == b) = decide (a = b) from by cases a <;> cases b <;> rfl]; exact hK)) hfl hK
theorem R_bneq {x y : Operand} {a b : Bool} {s q : Nat} {zz : Option Value} [hT : TInf X tx ⟨.bool, s, q, zz⟩] (hx : EvR env x (vB a) := by exact ⟨rfl⟩) (hy : EvR env y (vB b) := by exact ⟨rfl⟩)
    (hfl : FlR D env (.binOp .neq tx x y t') (vB (decide (¬ a = b))) (.n [] [] none) D' := by first | exact .seq | exact .drawn rfl)
    (hK : Rn X N R k ops D' rest ⟨(d, vB (decide (¬ a = b))) :: env, h, n⟩) : Rn X N R k ops D (⟨some d, .binOp .neq tx x y t', ty, ps, af, none⟩ :: rest) ⟨env, h, n⟩ :=
  Rn.val rfl (fun K hK => by
    simp only [evVal, hx.h, hy.h, evBin, evEq, hT.h]; exact .inr (by rw [show (!(a == b)) = decide (¬ a = b) from by cases a <;> cases b <;> rfl]; exact hK)) hfl hK
theorem R_nil1 {x y : Operand} {te : TypeId} {s q : Nat} {zz : Option Value} [hT : TInf X tx ⟨.slice te, s, q, zz⟩] (hx : EvR env x (vP .nil) := by exact ⟨rfl⟩) (hy : EvR env y (vP .nil) := by exact ⟨rfl⟩)
    (hfl : FlR D env (.binOp .eql tx x y t') (vB true) (.n [] [] none) D' := by first | exact .seq | exact .drawn rfl)
    (hK : Rn X N R k ops D' rest ⟨(d, vB true) :: env, h, n⟩) : Rn X N R k ops D (⟨some d, .binOp .eql tx x y t', ty, ps, af, none⟩ :: rest) ⟨env, h, n⟩ :=
  Rn.val rfl (fun K hK => by
    simp only [evVal, hx.h, hy.h, evBin, evEq, hT.h]; exact .inr hK) hfl hK
theorem R_nil2 {x y : Operand} {te : TypeId} {s q : Nat} {zz : Option Value} [hT : TInf X tx ⟨.slice te, s, q, zz⟩] (hx : EvR env x (vP .nil) := by exact ⟨rfl⟩) (hy : EvR env y (vP .nil) := by exact ⟨rfl⟩)
    (hfl : FlR D env (.binOp .neq tx x y t') (vB false) (.n [] [] none) D' := by first | exact .seq | exact .drawn rfl)
    (hK : Rn X N R k ops D' rest ⟨(d, vB false) :: env, h, n⟩) : Rn X N R k ops D (⟨some d, .binOp .neq tx x y t', ty, ps, af, none⟩ :: rest) ⟨env, h, n⟩ :=
  Rn.val rfl (fun K hK => by
    simp only [evVal, hx.h, hy.h, evBin, evEq, hT.h]; exact .inr hK) hfl hK
theorem R_nilN1 {x y : Operand} {te : TypeId} {s q m : Nat} {cells : List PV} {zz : Option Value} [hT : TInf X tx ⟨.slice te, s, q, zz⟩] (hx : EvR env x (vP (.sl m cells)) := by exact ⟨rfl⟩) (hy : EvR env y (vP .nil) := by exact ⟨rfl⟩) (hm : 0 < m := by omega)
    (hfl : FlR D env (.binOp .eql tx x y t') (vB false) (.n [] [] none) D' := by first | exact .seq | exact .drawn rfl)
    (hK : Rn X N R k ops D' rest ⟨(d, vB false) :: env, h, n⟩) : Rn X N R k ops D (⟨some d, .binOp .eql tx x y t', ty, ps, af, none⟩ :: rest) ⟨env, h, n⟩ :=
  Rn.val rfl (fun K hK => by
    simp only [evVal, hx.h, hy.h, evBin, evEq, hT.h]; exact .inr (.inl ⟨hm, hK⟩)) hfl hK
theorem R_nilN2 {x y : Operand} {te : TypeId} {s q m : Nat} {cells : List PV} {zz : Option Value} [hT : TInf X tx ⟨.slice te, s, q, zz⟩] (hx : EvR env x (vP (.sl m cells)) := by exact ⟨rfl⟩) (hy : EvR env y (vP .nil) := by exact ⟨rfl⟩) (hm : 0 < m := by omega)
    (hfl : FlR D env (.binOp .neq tx x y t') (vB true) (.n [] [] none) D' := by first | exact .seq | exact .drawn rfl)
    (hK : Rn X N R k ops D' rest ⟨(d, vB true) :: env, h, n⟩) : Rn X N R k ops D (⟨some d, .binOp .neq tx x y t', ty, ps, af, none⟩ :: rest) ⟨env, h, n⟩ :=
  Rn.val rfl (fun K hK => by
    simp only [evVal, hx.h, hy.h, evBin, evEq, hT.h]; exact .inr (.inl ⟨hm, hK⟩)) hfl hK
theorem R_nilU1 {x y : Operand} {te : TypeId} {s q m : Nat} {cells : List PV} {zz : Option Value} [hT : TInf X tx ⟨.slice te, s, q, zz⟩] (hx : EvR env x (vP (.sl m cells)) := by exact ⟨rfl⟩) (hy : EvR env y (vP .nil) := by exact ⟨rfl⟩)
    (hfl : FlR D env (.binOp .eql tx x y t') (.one .ub) (.n [] [] none) D' := by first | exact .seq | exact .drawn rfl)
    (hK : Rn X N R k ops D' rest ⟨(d, .one .ub) :: env, h, n⟩) : Rn X N R k ops D (⟨some d, .binOp .eql tx x y t', ty, ps, af, none⟩ :: rest) ⟨env, h, n⟩ :=
  Rn.val rfl (fun K hK => by
    simp only [evVal, hx.h, hy.h, evBin, evEq, hT.h]; exact .inr (.inr hK)) hfl hK
theorem R_nilU2 {x y : Operand} {te : TypeId} {s q m : Nat} {cells : List PV} {zz : Option Value} [hT : TInf X tx ⟨.slice te, s, q, zz⟩] (hx : EvR env x (vP (.sl m cells)) := by exact ⟨rfl⟩) (hy : EvR env y (vP .nil) := by exact ⟨rfl⟩)
    (hfl : FlR D env (.binOp .neq tx x y t') (.one .ub) (.n [] [] none) D' := by first | exact .seq | exact .drawn rfl)
    (hK : Rn X N R k ops D' rest ⟨(d, .one .ub) :: env, h, n⟩) : Rn X N R k ops D (⟨some d, .binOp .neq tx x y t', ty, ps, af, none⟩ :: rest) ⟨env, h, n⟩ :=
  Rn.val rfl (fun K hK => by
    simp only [evVal, hx.h, hy.h, evBin, evEq, hT.h]; exact .inr (.inr hK)) hfl hK
theorem R_ifn1 {x y : Operand} {ms : Array (String × TypeId)} {s q : Nat} {zz : Option Value} [hT : TInf X tx ⟨.interface ms, s, q, zz⟩] (hx : EvR env x (vP .ifc) := by exact ⟨rfl⟩) (hy : EvR env y (vP (.lit .nilIface)) := by exact ⟨rfl⟩)
    (hfl : FlR D env (.binOp .eql tx x y t') (vB false) (.n [] [] none) D' := by first | exact .seq | exact .drawn rfl)
    (hK : Rn X N R k ops D' rest ⟨(d, vB false) :: env, h, n⟩) : Rn X N R k ops D (⟨some d, .binOp .eql tx x y t', ty, ps, af, none⟩ :: rest) ⟨env, h, n⟩ :=
  Rn.val rfl (fun K hK => by
    simp only [evVal, hx.h, hy.h, evBin, evEq, hT.h]; exact .inr hK) hfl hK
theorem R_ifn2 {x y : Operand} {ms : Array (String × TypeId)} {s q : Nat} {zz : Option Value} [hT : TInf X tx ⟨.interface ms, s, q, zz⟩] (hx : EvR env x (vP .ifc) := by exact ⟨rfl⟩) (hy : EvR env y (vP (.lit .nilIface)) := by exact ⟨rfl⟩)
    (hfl : FlR D env (.binOp .neq tx x y t') (vB true) (.n [] [] none) D' := by first | exact .seq | exact .drawn rfl)
    (hK : Rn X N R k ops D' rest ⟨(d, vB true) :: env, h, n⟩) : Rn X N R k ops D (⟨some d, .binOp .neq tx x y t', ty, ps, af, none⟩ :: rest) ⟨env, h, n⟩ :=
  Rn.val rfl (fun K hK => by
    simp only [evVal, hx.h, hy.h, evBin, evEq, hT.h]; exact .inr hK) hfl hK
theorem R_ifz1 {x : Operand} {yv : Value} {ms : Array (String × TypeId)} {s q : Nat} {zz : Option Value} [hT : TInf X tx ⟨.interface ms, s, q, zz⟩] (hx : EvR env x (vP (.lit .nilIface)) := by exact ⟨rfl⟩) (hy : EvR env (.const yv) (vP (.lit .nilIface)) := by exact ⟨rfl⟩)
    (hfl : FlR D env (.binOp .eql tx x (.const yv) t') (vB true) (.n [] [] none) D' := by first | exact .seq | exact .drawn rfl)
    (hK : Rn X N R k ops D' rest ⟨(d, vB true) :: env, h, n⟩) : Rn X N R k ops D (⟨some d, .binOp .eql tx x (.const yv) t', ty, ps, af, none⟩ :: rest) ⟨env, h, n⟩ :=
  Rn.val rfl (fun K hK => by
    simp only [evVal, hx.h, hy.h, evBin, evEq, hT.h]; exact .inr ⟨⟨_, rfl⟩, hK⟩) hfl hK
theorem R_ifz2 {x : Operand} {yv : Value} {ms : Array (String × TypeId)} {s q : Nat} {zz : Option Value} [hT : TInf X tx ⟨.interface ms, s, q, zz⟩] (hx : EvR env x (vP (.lit .nilIface)) := by exact ⟨rfl⟩) (hy : EvR env (.const yv) (vP (.lit .nilIface)) := by exact ⟨rfl⟩)
    (hfl : FlR D env (.binOp .neq tx x (.const yv) t') (vB false) (.n [] [] none) D' := by first | exact .seq | exact .drawn rfl)
    (hK : Rn X N R k ops D' rest ⟨(d, vB false) :: env, h, n⟩) : Rn X N R k ops D (⟨some d, .binOp .neq tx x (.const yv) t', ty, ps, af, none⟩ :: rest) ⟨env, h, n⟩ :=
  Rn.val rfl (fun K hK => by
    simp only [evVal, hx.h, hy.h, evBin, evEq, hT.h]; exact .inr ⟨⟨_, rfl⟩, hK⟩) hfl hK
theorem R_slt {x y : Operand} {a b : List UInt8} (hx : EvR env x (vS a) := by exact ⟨rfl⟩) (hy : EvR env y (vS b) := by exact ⟨rfl⟩)
    (hfl : FlR D env (.binOp .lss tx x y t') (vB (lexLt a b)) (.n [] [] none) D' := by first | exact .seq | exact .drawn rfl)
    (hK : Rn X N R k ops D' rest ⟨(d, vB (lexLt a b)) :: env, h, n⟩) : Rn X N R k ops D (⟨some d, .binOp .lss tx x y t', ty, ps, af, none⟩ :: rest) ⟨env, h, n⟩ :=
  Rn.val rfl (fun K hK => by
    simp only [evVal, hx.h, hy.h, evBin]; exact .inl hK) hfl hK
theorem R_sle {x y : Operand} {a b : List UInt8} (hx : EvR env x (vS a) := by exact ⟨rfl⟩) (hy : EvR env y (vS b) := by exact ⟨rfl⟩)
    (hfl : FlR D env (.binOp .leq tx x y t') (vB ((lexLt a b || decide (a = b)))) (.n [] [] none) D' := by first | exact .seq | exact .drawn rfl)
    (hK : Rn X N R k ops D' rest ⟨(d, vB ((lexLt a b || decide (a = b)))) :: env, h, n⟩) : Rn X N R k ops D (⟨some d, .binOp .leq tx x y t', ty, ps, af, none⟩ :: rest) ⟨env, h, n⟩ :=
  Rn.val rfl (fun K hK => by
    simp only [evVal, hx.h, hy.h, evBin]; exact .inl hK) hfl hK
theorem R_sgt {x y : Operand} {a b : List UInt8} (hx : EvR env x (vS a) := by exact ⟨rfl⟩) (hy : EvR env y (vS b) := by exact ⟨rfl⟩)
    (hfl : FlR D env (.binOp .gtr tx x y t') (vB ((!(lexLt a b || decide (a = b))))) (.n [] [] none) D' := by first | exact .seq | exact .drawn rfl)
    (hK : Rn X N R k ops D' rest ⟨(d, vB ((!(lexLt a b || decide (a = b))))) :: env, h, n⟩) : Rn X N R k ops D (⟨some d, .binOp .gtr tx x y t', ty, ps, af, none⟩ :: rest) ⟨env, h, n⟩ :=
  Rn.val rfl (fun K hK => by
    simp only [evVal, hx.h, hy.h, evBin]; exact .inl hK) hfl hK
theorem R_sge {x y : Operand} {a b : List UInt8} (hx : EvR env x (vS a) := by exact ⟨rfl⟩) (hy : EvR env y (vS b) := by exact ⟨rfl⟩)
    (hfl : FlR D env (.binOp .geq tx x y t') (vB ((!lexLt a b))) (.n [] [] none) D' := by first | exact .seq | exact .drawn rfl)
    (hK : Rn X N R k ops D' rest ⟨(d, vB ((!lexLt a b))) :: env, h, n⟩) : Rn X N R k ops D (⟨some d, .binOp .geq tx x y t', ty, ps, af, none⟩ :: rest) ⟨env, h, n⟩ :=
  Rn.val rfl (fun K hK => by
    simp only [evVal, hx.h, hy.h, evBin]; exact .inl hK) hfl hK
theorem R_addw {x y : Operand} {kx : IntKind} {a b : Int} (hx : EvR env x (.one (.pv (.int kx a))) := by exact ⟨rfl⟩) (hy : EvR env y (.one (.pv (.int kx b))) := by exact ⟨rfl⟩)
    (hfl : FlR D env (.binOp .add tx x y t') (vP (.int kx (kx.wrap (a + b)))) (.n [] [] none) D' := by first | exact .seq | exact .drawn rfl)
    (hK : Rn X N R k ops D' rest ⟨(d, vP (.int kx (kx.wrap (a + b)))) :: env, h, n⟩) : Rn X N R k ops D (⟨some d, .binOp .add tx x y t', ty, ps, af, none⟩ :: rest) ⟨env, h, n⟩ :=
  Rn.val rfl (fun K hK => by
    simp only [evVal, hx.h, hy.h, evBin]; exact .inl ⟨rfl, hK⟩) hfl hK
theorem R_subw {x y : Operand} {kx : IntKind} {a b : Int} (hx : EvR env x (.one (.pv (.int kx a))) := by exact ⟨rfl⟩) (hy : EvR env y (.one (.pv (.int kx b))) := by exact ⟨rfl⟩)
    (hfl : FlR D env (.binOp .sub tx x y t') (vP (.int kx (kx.wrap (a - b)))) (.n [] [] none) D' := by first | exact .seq | exact .drawn rfl)
    (hK : Rn X N R k ops D' rest ⟨(d, vP (.int kx (kx.wrap (a - b)))) :: env, h, n⟩) : Rn X N R k ops D (⟨some d, .binOp .sub tx x y t', ty, ps, af, none⟩ :: rest) ⟨env, h, n⟩ :=
  Rn.val rfl (fun K hK => by
    simp only [evVal, hx.h, hy.h, evBin]; exact .inl ⟨rfl, hK⟩) hfl hK
theorem R_mulw {x y : Operand} {kx : IntKind} {a b : Int} (hx : EvR env x (.one (.pv (.int kx a))) := by exact ⟨rfl⟩) (hy : EvR env y (.one (.pv (.int kx b))) := by exact ⟨rfl⟩)
    (hfl : FlR D env (.binOp .mul tx x y t') (vP (.int kx (kx.wrap (a * b)))) (.n [] [] none) D' := by first | exact .seq | exact .drawn rfl)
    (hK : Rn X N R k ops D' rest ⟨(d, vP (.int kx (kx.wrap (a * b)))) :: env, h, n⟩) : Rn X N R k ops D (⟨some d, .binOp .mul tx x y t', ty, ps, af, none⟩ :: rest) ⟨env, h, n⟩ :=
  Rn.val rfl (fun K hK => by
    simp only [evVal, hx.h, hy.h, evBin]; exact .inl ⟨rfl, hK⟩) hfl hK
theorem R_min {x y : Operand} {tl : Array TypeId} {kx : IntKind} {a b : Int} (hx : EvR env x (.one (.pv (.int kx a))) := by exact ⟨rfl⟩) (hy : EvR env y (.one (.pv (.int kx b))) := by exact ⟨rfl⟩)
    (hfl : FlR D env (.call ⟨.builtin .min, ⟨[x, y]⟩, tl⟩) (vP (.int kx (min a b))) (.n [] [] none) D' := by first | exact .seq | exact .drawn rfl)
    (hK : Rn X N R k ops D' rest ⟨(d, vP (.int kx (min a b))) :: env, h, n⟩) : Rn X N R k ops D (⟨some d, .call ⟨.builtin .min, ⟨[x, y]⟩, tl⟩, ty, ps, af, none⟩ :: rest) ⟨env, h, n⟩ :=
  Rn.step (ef := .n [] [] none) trivial (fun K hK => by
    simp only [evOp, evVal, evMM, hx.h, hy.h]; exact ⟨trivial, hK⟩) hfl hK
theorem R_max {x y : Operand} {tl : Array TypeId} {kx : IntKind} {a b : Int} (hx : EvR env x (.one (.pv (.int kx a))) := by exact ⟨rfl⟩) (hy : EvR env y (.one (.pv (.int kx b))) := by exact ⟨rfl⟩)
    (hfl : FlR D env (.call ⟨.builtin .max, ⟨[x, y]⟩, tl⟩) (vP (.int kx (max a b))) (.n [] [] none) D' := by first | exact .seq | exact .drawn rfl)
    (hK : Rn X N R k ops D' rest ⟨(d, vP (.int kx (max a b))) :: env, h, n⟩) : Rn X N R k ops D (⟨some d, .call ⟨.builtin .max, ⟨[x, y]⟩, tl⟩, ty, ps, af, none⟩ :: rest) ⟨env, h, n⟩ :=
  Rn.step (ef := .n [] [] none) trivial (fun K hK => by
    simp only [evOp, evVal, evMM, hx.h, hy.h]; exact ⟨trivial, hK⟩) hfl hK
theorem R_sidx {x y : Operand} {l : List UInt8} {m s b : Nat} {zz : Option Value} {ky : IntKind} {z : Int} [hT : TInf X tx ⟨.string, s, b, zz⟩] (hx : EvR env x (vS l) := by exact ⟨rfl⟩) (hy : EvR env y (.one (.pv (.int ky z))) := by exact ⟨rfl⟩) (h0 : 0 ≤ z ∧ z < l.length := by first | (constructor <;> omega) | (constructor <;> (first | omega | (simp only [List.length_set, List.length_append, List.length_cons, List.length_nil, List.length_take, List.length_drop, List.length_replicate, List.length_map, List.length_reverse] at * <;> omega)))) (hm : z.toNat = m := by first | (with_reducible exact Int.toNat_natCast _) | (with_reducible exact toNat_add _ _) | (with_reducible exact toNat_add1 _) | exact Eq.refl _)
    (hfl : FlR D env (.index tx x y) (vP (.int .u8 ((l.getD m 0).toNat : Int))) (.n [] [] none) D' := by first | exact .seq | exact .drawn rfl)
    (hK : Rn X N R k ops D' rest ⟨(d, vP (.int .u8 ((l.getD m 0).toNat : Int))) :: env, h, n⟩) : Rn X N R k ops D (⟨some d, .index tx x y, ty, ps, af, none⟩ :: rest) ⟨env, h, n⟩ :=
  Rn.val rfl (fun K hK => by
    subst hm; simp only [evVal, hx.h, hy.h, evIndex, hT.h]; exact ⟨h0.1, h0.2, hK⟩) hfl hK
theorem R_conv {x : Operand} {td : TypeId} {k1 k2 kx : IntKind} {a : Int} {s b s' b' : Nat} {zz zz' : Option Value} [hT : TInf X tx ⟨.int k1, s, b, zz⟩] [hD : TInf X td ⟨.int k2, s', b', zz'⟩] (hx : EvR env x (.one (.pv (.int kx a))) := by exact ⟨rfl⟩) (hr : k2.min ≤ a ∧ a ≤ k2.max := by first | exact ⟨by decide, by decide⟩ | (simp only [IntKind.min, IntKind.max, IntKind.signed, IntKind.bits, if_true, if_false, Bool.false_eq_true]; constructor <;> omega))
    (hfl : FlR D env (.convert tx td x) (vP (.int k2 a)) (.n [] [] none) D' := by first | exact .seq | exact .drawn rfl)
    (hK : Rn X N R k ops D' rest ⟨(d, vP (.int k2 a)) :: env, h, n⟩) : Rn X N R k ops D (⟨some d, .convert tx td x, ty, ps, af, none⟩ :: rest) ⟨env, h, n⟩ :=
  Rn.val rfl (fun K hK => by
    simp only [evVal, hx.h, evConv, hT.h, hD.h]; rw [wrap_of_range hr]; exact hK) hfl hK
theorem R_convw {x : Operand} {td : TypeId} {k1 k2 kx : IntKind} {a : Int} {s b s' b' : Nat} {zz zz' : Option Value} [hT : TInf X tx ⟨.int k1, s, b, zz⟩] [hD : TInf X td ⟨.int k2, s', b', zz'⟩] (hx : EvR env x (.one (.pv (.int kx a))) := by exact ⟨rfl⟩)
    (hfl : FlR D env (.convert tx td x) (vP (.int k2 (k2.wrap a))) (.n [] [] none) D' := by first | exact .seq | exact .drawn rfl)
    (hK : Rn X N R k ops D' rest ⟨(d, vP (.int k2 (k2.wrap a))) :: env, h, n⟩) : Rn X N R k ops D (⟨some d, .convert tx td x, ty, ps, af, none⟩ :: rest) ⟨env, h, n⟩ :=
  Rn.val rfl (fun K hK => by
    simp only [evVal, hx.h, evConv, hT.h, hD.h]; exact hK) hfl hK
theorem R_convS {x : Operand} {td : TypeId} {l : List UInt8} {s b s' b' : Nat} {zz zz' : Option Value} [hT : TInf X tx ⟨.string, s, b, zz⟩] [hD : TInf X td ⟨.string, s', b', zz'⟩] (hx : EvR env x (vS l) := by exact ⟨rfl⟩)
    (hfl : FlR D env (.convert tx td x) (vS l) (.n [] [] none) D' := by first | exact .seq | exact .drawn rfl)
    (hK : Rn X N R k ops D' rest ⟨(d, vS l) :: env, h, n⟩) : Rn X N R k ops D (⟨some d, .convert tx td x, ty, ps, af, none⟩ :: rest) ⟨env, h, n⟩ :=
  Rn.val rfl (fun K hK => by
    simp only [evVal, hx.h, evConv, hT.h, hD.h]; exact hK) hfl hK
theorem R_ifc {x : Operand} {T : TI} [hT : TInf X tx T] (hni : isIfc T.u = false := by rfl)
    (hfl : FlR D env (.makeInterface tx x) (vP .ifc) (.n [] [] none) D' := by first | exact .seq | exact .drawn rfl)
    (hK : Rn X N R k ops D' rest ⟨(d, vP .ifc) :: env, h, n⟩) : Rn X N R k ops D (⟨some d, .makeInterface tx x, ty, ps, af, none⟩ :: rest) ⟨env, h, n⟩ :=
  Rn.val rfl (fun K hK => by
    obtain ⟨u, s, b, z⟩ := T
    simp only [evVal, hT.h]
    cases u <;> first | exact hK | cases hni) hfl hK
theorem R_mkfn0 {f : FuncId}
    (hfl : FlR D env (.makeFunc (.func f) ⟨[]⟩ ⟨[]⟩) (vP (.clo f [])) (.n [] [] none) D' := by first | exact .seq | exact .drawn rfl)
    (hK : Rn X N R k ops D' rest ⟨(d, vP (.clo f [])) :: env, h, n⟩) : Rn X N R k ops D (⟨some d, .makeFunc (.func f) ⟨[]⟩ ⟨[]⟩, ty, ps, af, none⟩ :: rest) ⟨env, h, n⟩ :=
  Rn.val rfl (fun K hK => by
    exact hK) hfl hK
theorem R_mkfn {f : FuncId} {cl : List Operand} {xs : List AV} {cs : List Cap} {pl : List PV} (hx : cl.map (evE env) = xs := by exact rfl) (hc : capsOf xs = some cs := by exact rfl) (hp : pvsOfCaps cs = some pl := by exact rfl)
    (hfl : FlR D env (.makeFunc (.func f) ⟨[]⟩ ⟨cl⟩) (vP (.clo f pl)) (.n [] [] none) D' := by first | exact .seq | exact .drawn rfl)
    (hK : Rn X N R k ops D' rest ⟨(d, vP (.clo f pl)) :: env, h, n⟩) : Rn X N R k ops D (⟨some d, .makeFunc (.func f) ⟨[]⟩ ⟨cl⟩, ty, ps, af, none⟩ :: rest) ⟨env, h, n⟩ :=
  Rn.val rfl (fun K hK => by
    simp only [evVal, evMkFn, hx, hc, hp]; exact hK) hfl hK
theorem R_mkfnC {f : FuncId} {cl : List Operand} {xs : List AV} {cs : List Cap} (hx : cl.map (evE env) = xs := by exact rfl) (hc : capsOf xs = some cs := by exact rfl) (hp : pvsOfCaps cs = none := by rfl)
    (hfl : FlR D env (.makeFunc (.func f) ⟨[]⟩ ⟨cl⟩) (.one (.clo f cs)) (.n [] [] none) D' := by first | exact .seq | exact .drawn rfl)
    (hK : Rn X N R k ops D' rest ⟨(d, .one (.clo f cs)) :: env, h, n⟩) : Rn X N R k ops D (⟨some d, .makeFunc (.func f) ⟨[]⟩ ⟨cl⟩, ty, ps, af, none⟩ :: rest) ⟨env, h, n⟩ :=
  Rn.val rfl (fun K hK => by
    simp only [evVal, evMkFn, hx, hc, hp]; exact hK) hfl hK
theorem R_nck1 {x : Operand} {id off : Nat} (hx : EvR env x (.one (.ptr id off)) := by exact ⟨rfl⟩)
    (hfl : FlR D env (.nilCheck x) (.one (.ptr id off)) (.n [] [] none) D' := by first | exact .seq | exact .drawn rfl)
    (hK : Rn X N R k ops D' rest ⟨(d, .one (.ptr id off)) :: env, h, n⟩) : Rn X N R k ops D (⟨some d, .nilCheck x, ty, ps, af, none⟩ :: rest) ⟨env, h, n⟩ :=
  Rn.val rfl (fun K hK => by
    simp only [evVal, hx.h, evNilC]; exact hK) hfl hK
theorem R_nck2 {x : Operand} {off : Nat} {cells : List PV} (hx : EvR env x (vP (.pt cells off)) := by exact ⟨rfl⟩)
    (hfl : FlR D env (.nilCheck x) (vP (.pt cells off)) (.n [] [] none) D' := by first | exact .seq | exact .drawn rfl)
    (hK : Rn X N R k ops D' rest ⟨(d, vP (.pt cells off)) :: env, h, n⟩) : Rn X N R k ops D (⟨some d, .nilCheck x, ty, ps, af, none⟩ :: rest) ⟨env, h, n⟩ :=
  Rn.val rfl (fun K hK => by
    simp only [evVal, hx.h, evNilC]; exact hK) hfl hK
theorem R_nck3 {x : Operand} {id : Nat} {caps : List PV} (hx : EvR env x (vP (.clo id caps)) := by exact ⟨rfl⟩)
    (hfl : FlR D env (.nilCheck x) (vP (.clo id caps)) (.n [] [] none) D' := by first | exact .seq | exact .drawn rfl)
    (hK : Rn X N R k ops D' rest ⟨(d, vP (.clo id caps)) :: env, h, n⟩) : Rn X N R k ops D (⟨some d, .nilCheck x, ty, ps, af, none⟩ :: rest) ⟨env, h, n⟩ :=
  Rn.val rfl (fun K hK => by
    simp only [evVal, hx.h, evNilC]; exact hK) hfl hK
theorem R_nck4 {x : Operand} {id : Nat} {capz : List Cap} (hx : EvR env x (.one (.clo id capz)) := by exact ⟨rfl⟩)
    (hfl : FlR D env (.nilCheck x) (.one (.clo id capz)) (.n [] [] none) D' := by first | exact .seq | exact .drawn rfl)
    (hK : Rn X N R k ops D' rest ⟨(d, .one (.clo id capz)) :: env, h, n⟩) : Rn X N R k ops D (⟨some d, .nilCheck x, ty, ps, af, none⟩ :: rest) ⟨env, h, n⟩ :=
  Rn.val rfl (fun K hK => by
    simp only [evVal, hx.h, evNilC]; exact hK) hfl hK
theorem R_both {x y1 y2 : Operand} {α : Type} {e : α → List PV} {l : List α} {m1 m2 : Nat} {ta te : TypeId} {T : TI} {s b : Nat} {zz : Option Value} {k1 k2 : IntKind} {z1 z2 : Int} [hT : TInf X ta ⟨.slice te, s, b, zz⟩] [hE : TInf X te T] (hx : EvR env x (vP (slc e l)) := by exact ⟨rfl⟩) (hy1 : EvR env y1 (.one (.pv (.int k1 z1))) := by exact ⟨rfl⟩) (hy2 : EvR env y2 (.one (.pv (.int k2 z2))) := by exact ⟨rfl⟩) (hS : ∀ x, (e x).length = T.size := by exact fun _ => rfl) (h0 : 0 ≤ z1 ∧ z1 ≤ z2 ∧ z2 ≤ l.length := by refine ⟨?_, ?_, ?_⟩ <;> omega) (hm1 : z1.toNat = m1 := by first | (with_reducible exact Int.toNat_natCast _) | (with_reducible exact toNat_add _ _) | (with_reducible exact toNat_add1 _) | exact Eq.refl _) (hm2 : z2.toNat = m2 := by first | (with_reducible exact Int.toNat_natCast _) | (with_reducible exact toNat_add _ _) | (with_reducible exact toNat_add1 _) | exact Eq.refl _)
    (hfl : FlR D env (.slice ta x (some y1) (some y2) none) (vP (slc e ((l.drop m1).take (m2 - m1)))) (.n [] [] none) D' := by first | exact .seq | exact .drawn rfl)
    (hK : Rn X N R k ops D' rest ⟨(d, vP (slc e ((l.drop m1).take (m2 - m1)))) :: env, h, n⟩) : Rn X N R k ops D (⟨some d, .slice ta x (some y1) (some y2) none, ty, ps, af, none⟩ :: rest) ⟨env, h, n⟩ :=
  Rn.val rfl (fun K hK => by
    subst hm1; subst hm2
    have e1 : slc e ((l.drop z1.toNat).take (z2.toNat - z1.toNat)) = .sl (z2.toNat - z1.toNat) (((l.drop z1.toNat).take (z2.toNat - z1.toNat)).flatMap e) := by simp only [slc, List.length_take, List.length_drop]; rw [Nat.min_eq_left (by omega)]
    simp only [evVal, evSlice, Option.map_none, Option.map_some, hx.h, hy1.h, hy2.h, bnds, hT.h, hE.h, slc, evSlPv, flat_take hS, flat_drop hS]
    rw [← e1]
    exact ⟨h0.1, h0.2.1, h0.2.2, flat_len hS l, hK⟩) hfl hK
theorem R_sfrom {x y1 : Operand} {l : List UInt8} {m1 : Nat} {s b : Nat} {zz : Option Value} {k1 : IntKind} {z1 : Int} [hT : TInf X tx ⟨.string, s, b, zz⟩] (hx : EvR env x (vS l) := by exact ⟨rfl⟩) (hy1 : EvR env y1 (.one (.pv (.int k1 z1))) := by exact ⟨rfl⟩) (h0 : 0 ≤ z1 ∧ z1 ≤ l.length := by first | (constructor <;> omega) | (constructor <;> (first | omega | (simp only [List.length_set, List.length_append, List.length_cons, List.length_nil, List.length_take, List.length_drop, List.length_replicate, List.length_map, List.length_reverse] at * <;> omega)))) (hm1 : z1.toNat = m1 := by first | (with_reducible exact Int.toNat_natCast _) | (with_reducible exact toNat_add _ _) | (with_reducible exact toNat_add1 _) | exact Eq.refl _)
    (hfl : FlR D env (.slice tx x (some y1) (none) none) (vS (l.drop m1)) (.n [] [] none) D' := by first | exact .seq | exact .drawn rfl)
    (hK : Rn X N R k ops D' rest ⟨(d, vS (l.drop m1)) :: env, h, n⟩) : Rn X N R k ops D (⟨some d, .slice tx x (some y1) (none) none, ty, ps, af, none⟩ :: rest) ⟨env, h, n⟩ :=
  Rn.val rfl (fun K hK => by
    subst hm1; simp only [evVal, evSlice, Option.map_none, Option.map_some, hx.h, hy1.h, bnds, hT.h, evSlStr]; exact ⟨h0.1, h0.2, hK⟩) hfl hK
theorem R_supto {x y1 : Operand} {l : List UInt8} {m1 : Nat} {s b : Nat} {zz : Option Value} {k1 : IntKind} {z1 : Int} [hT : TInf X tx ⟨.string, s, b, zz⟩] (hx : EvR env x (vS l) := by exact ⟨rfl⟩) (hy1 : EvR env y1 (.one (.pv (.int k1 z1))) := by exact ⟨rfl⟩) (h0 : 0 ≤ z1 ∧ z1 ≤ l.length := by first | (constructor <;> omega) | (constructor <;> (first | omega | (simp only [List.length_set, List.length_append, List.length_cons, List.length_nil, List.length_take, List.length_drop, List.length_replicate, List.length_map, List.length_reverse] at * <;> omega)))) (hm1 : z1.toNat = m1 := by first | (with_reducible exact Int.toNat_natCast _) | (with_reducible exact toNat_add _ _) | (with_reducible exact toNat_add1 _) | exact Eq.refl _)
    (hfl : FlR D env (.slice tx x (none) (some y1) none) (vS (l.take m1)) (.n [] [] none) D' := by first | exact .seq | exact .drawn rfl)
    (hK : Rn X N R k ops D' rest ⟨(d, vS (l.take m1)) :: env, h, n⟩) : Rn X N R k ops D (⟨some d, .slice tx x (none) (some y1) none, ty, ps, af, none⟩ :: rest) ⟨env, h, n⟩ :=
  Rn.val rfl (fun K hK => by
    subst hm1; simp only [evVal, evSlice, Option.map_none, Option.map_some, hx.h, hy1.h, bnds, hT.h, evSlStr]; exact ⟨h0.1, h0.2, hK⟩) hfl hK
theorem R_sboth {x y1 y2 : Operand} {l : List UInt8} {m1 m2 : Nat} {s b : Nat} {zz : Option Value} {k1 k2 : IntKind} {z1 z2 : Int} [hT : TInf X tx ⟨.string, s, b, zz⟩] (hx : EvR env x (vS l) := by exact ⟨rfl⟩) (hy1 : EvR env y1 (.one (.pv (.int k1 z1))) := by exact ⟨rfl⟩) (hy2 : EvR env y2 (.one (.pv (.int k2 z2))) := by exact ⟨rfl⟩) (h0 : 0 ≤ z1 ∧ z1 ≤ z2 ∧ z2 ≤ l.length := by refine ⟨?_, ?_, ?_⟩ <;> omega) (hm1 : z1.toNat = m1 := by first | (with_reducible exact Int.toNat_natCast _) | (with_reducible exact toNat_add _ _) | (with_reducible exact toNat_add1 _) | exact Eq.refl _) (hm2 : z2.toNat = m2 := by first | (with_reducible exact Int.toNat_natCast _) | (with_reducible exact toNat_add _ _) | (with_reducible exact toNat_add1 _) | exact Eq.refl _)
    (hfl : FlR D env (.slice tx x (some y1) (some y2) none) (vS ((l.drop m1).take (m2 - m1))) (.n [] [] none) D' := by first | exact .seq | exact .drawn rfl)
    (hK : Rn X N R k ops D' rest ⟨(d, vS ((l.drop m1).take (m2 - m1))) :: env, h, n⟩) : Rn X N R k ops D (⟨some d, .slice tx x (some y1) (some y2) none, ty, ps, af, none⟩ :: rest) ⟨env, h, n⟩ :=
  Rn.val rfl (fun K hK => by
    subst hm1; subst hm2; simp only [evVal, evSlice, Option.map_none, Option.map_some, hx.h, hy1.h, hy2.h, bnds, hT.h, evSlStr]; exact ⟨h0.1, h0.2.1, h0.2.2, hK⟩) hfl hK
theorem R_bslG {α : Type} {e : α → List PV} {l : List α} {pl : List (Nat × Operand)} {te : TypeId} {u : TypeDesc} {S B s b len : Nat} {zz : Option Value} {zl : Value} {ids : List Nat} {h1' : Hp} [hT : TInf X tx ⟨.slice te, s, b, zz⟩] [hE : TInf X te ⟨u, S, B, some zl⟩]
    (hz : (zc zl).isSome = true := by rfl) (hzs : zl.cells.size = S := by rfl) (h0 : Nat.ble 1 S = true := by rfl) (hb : Nat.ble (len * S) 16777216 = true := by rfl) (hpl : pl.length = len := by rfl) (hn : look h n = none := by rfl) (hk1 : Nat.blt n 1000 = true := by rfl)
    (hv : ∀ K : List PV → List Nat → Prop, K (l.flatMap e) ids → viewParts h S 0 (pl.map fun p => (p.1, evE env p.2)) K) (hf : FrzR h ids h1' := by repeat (first | exact FrzR.nil | (apply FrzR.cons; rfl; (repeat (first | exact .hit | exact .nil | (apply PutR.miss; rfl)))))) (hh : PutR h1' n (.pu te (l.flatMap e), false) h' := by repeat (first | exact .hit | exact .nil | (apply PutR.miss; rfl)))
    (hfl : FlR D env (.buildSlice tx len ⟨pl⟩) (.one (.own n S len)) (.n ids ids (some (n, .pu te (l.flatMap e)))) D' := by first | exact .seq | exact .drawn rfl)
    (hK : Rn X N R k ops D' rest ⟨(d, .one (.own n S len)) :: env, h', n + 1⟩) : Rn X N R k ops D (⟨some d, .buildSlice tx len ⟨pl⟩, ty, ps, af, none⟩ :: rest) ⟨env, h, n⟩ :=
  Rn.step (ef := .n ids ids (some (n, .pu te (l.flatMap e)))) (n' := n + 1) ⟨hn, lt1k hk1⟩ (fun K hK => by
    simp only [evOp, evBSl, hT.h, hE.h]
    exact ⟨by rw [zc_eq]; exact hz, hzs, Nat.le_of_ble_eq_true h0, Nat.le_of_ble_eq_true hb, by simpa using hpl, hn, hv _ hK⟩) hfl (by simp only [AS.fin, upd, putO, putE, hf.eq, hh.eq]; exact hK)
/-- The parts, told one by one. -/
inductive PtR {α : Type} (e : α → List PV) (h : Hp) (env : List (Nat × AV)) (S : Nat) : Nat → List (Nat × Operand) → List α → List Nat → Prop
  | nil {k : Nat} : PtR e h env S k [] [] []
  | one {k : Nat} {x : Operand} {v : AV} {p : PV} {a : α} {i j : List Nat} {pl : List (Nat × Operand)} {l : List α} (hx : EvR env x v) (hv : VA h v (.one p) i) (ha : e a = [p]) (hS : S = 1) (hr : PtR e h env S (k + 1) pl l j) : PtR e h env S k ((k, x) :: pl) (a :: l) (i ++ j)
  | agg {k : Nat} {x : Operand} {v : AV} {ps : List PV} {a : α} {i j : List Nat} {pl : List (Nat × Operand)} {l : List α} (hx : EvR env x v) (hv : VA h v (.agg ps) i) (ha : e a = ps) (hS : ps.length = S) (hr : PtR e h env S (k + 1) pl l j) : PtR e h env S k ((k, x) :: pl) (a :: l) (i ++ j)
theorem PtR.view {α : Type} {e : α → List PV} {S : Nat} {j : Nat} {pl : List (Nat × Operand)} {l : List α} {ids : List Nat} (r : PtR e h env S j pl l ids) : ∀ K : List PV → List Nat → Prop, K (l.flatMap e) ids → viewParts h S j (pl.map fun p => (p.1, evE env p.2)) K := by
  induction r with
  | nil => exact fun K hK => hK
  | one hx hv ha hS _ ih =>
    intro K hK
    simp only [List.map_cons, viewParts, hx.h, viewX]
    refine ⟨trivial, hv.h _ ⟨hS.symm, ih _ ?_⟩⟩
    rw [List.flatMap_cons, ha] at hK
    exact hK
  | agg hx hv ha hS _ ih =>
    intro K hK
    simp only [List.map_cons, viewParts, hx.h, viewX]
    refine ⟨trivial, hv.h _ ⟨hS, ih _ ?_⟩⟩
    rw [List.flatMap_cons, ha] at hK
    exact hK
theorem R_bsl {α : Type} (e : α → List PV) {l : List α} {pl : List (Nat × Operand)} {te : TypeId} {u : TypeDesc} {S B s b len : Nat} {zz : Option Value} {zl : Value} {ids : List Nat} {h1' : Hp} [hT : TInf X tx ⟨.slice te, s, b, zz⟩] [hE : TInf X te ⟨u, S, B, some zl⟩]
    (hv : PtR e h env S 0 pl l ids := by repeat (first | exact .nil | (apply PtR.one; (first | exact .tmp rfl | exact .of rfl); (first | exact VA.one (.pv rfl) | exact VA.one .nil | exact VA.one (.own rfl (fun _ => rfl) (by first | rfl | omega | (simp only [List.length_set, List.length_append, List.length_cons, List.length_nil, List.length_take, List.length_drop, List.length_replicate, List.length_map, List.length_reverse] <;> omega) | simp))); rfl; rfl) | (apply PtR.agg; (first | exact .tmp rfl | exact .of rfl | exact .ci rfl); (apply VA.agg; repeat (first | exact VL.nil | exact VL.pvs rfl | apply VL.cons | exact VC.pv rfl | exact VC.nil | exact VC.own rfl (fun _ => rfl) (by first | rfl | omega | (simp only [List.length_set, List.length_append, List.length_cons, List.length_nil, List.length_take, List.length_drop, List.length_replicate, List.length_map, List.length_reverse] <;> omega) | simp))); rfl; rfl)))
    (hz : (zc zl).isSome = true := by rfl) (hzs : zl.cells.size = S := by rfl) (h0 : Nat.ble 1 S = true := by rfl) (hb : Nat.ble (len * S) 16777216 = true := by rfl) (hpl : pl.length = len := by rfl) (hn : look h n = none := by rfl) (hk1 : Nat.blt n 1000 = true := by rfl)
    (hf : FrzR h ids h1' := by repeat (first | exact FrzR.nil | (apply FrzR.cons; rfl; (repeat (first | exact .hit | exact .nil | (apply PutR.miss; rfl)))))) (hh : PutR h1' n (.pu te (l.flatMap e), false) h' := by repeat (first | exact .hit | exact .nil | (apply PutR.miss; rfl)))
    (hfl : FlR D env (.buildSlice tx len ⟨pl⟩) (.one (.own n S len)) (.n ids ids (some (n, .pu te (l.flatMap e)))) D' := by first | exact .seq | exact .drawn rfl)
    (hK : Rn X N R k ops D' rest ⟨(d, .one (.own n S len)) :: env, h', n + 1⟩) : Rn X N R k ops D (⟨some d, .buildSlice tx len ⟨pl⟩, ty, ps, af, none⟩ :: rest) ⟨env, h, n⟩ :=
  R_bslG hz hzs h0 hb hpl hn hk1 hv.view hf hh hfl hK
end
end Go.VL



namespace Go.VL
open Go.RowKit
set_option linter.unusedVariables false
/-! ### Out of a walk -/
theorem HRel.sub {X : Ctx} {F : Fr} {h h1 : Hp} {β : Bt} {w : World} (r : HRel X F h β w) (hl : ∀ id b, look h1 id = some b → look h id = some b) (hw : ∀ id bx z, look h1 id = some (bx, z) → ∀ i ∈ acRefs bx.cells, (look h1 i).isSome = true) :
    HRel X F h1 β w ∧ (∀ b, F.ok w h β b → F.ok w h1 β b) := by
  have hok : ∀ b, F.ok w h β b → F.ok w h1 β b := fun b hb => ⟨hb.1, hb.2.1, fun id bx h => hb.2.2 id bx (hl id _ h)⟩
  have k : Keeps (fun _ => True) w (F.ok w h β) β w (F.ok w h1 β) β := ⟨fun b hb => ⟨hok b hb, rfl⟩, fun _ _ => ⟨rfl, fun _ _ => rfl⟩⟩
  exact ⟨⟨r.below, r.g, fun id bx z h => (r.box id bx z (hl id _ h)).keeps k rfl (fun _ _ => rfl) (fun _ _ => trivial), fun i i' e1 e2 g hne h1 h2 => r.inj i i' e1 e2 g hne (hl i _ h1) (hl i' _ h2), hw, r.pin.sub fun i e h => ⟨e, hl i e h⟩⟩, hok⟩
/-- A result, as it is told to the caller: as it is, or read whole. -/
inductive RZ (h h1 : Hp) : AV → AV → Prop
  | same {v : AV} : RZ h h1 v v
  | view {v : AV} {p : PA} {ids : List Nat} (hv : ∀ K : PA → List Nat → Prop, K p ids → viewA h v K) (hn : ∀ id ∈ ids, look h1 id = none) : RZ h h1 v p.av
inductive RZs (h h1 : Hp) : List AV → List AV → Prop
  | nil : RZs h h1 [] []
  | cons {v z : AV} {vs zs : List AV} (hz : RZ h h1 v z) (hs : RZs h h1 vs zs) : RZs h h1 (v :: vs) (z :: zs)
def elV : AV → Option (Bool × List AC)
  | .one c => some (false, [c])
  | .agg cs => some (true, cs)
  | _ => none
def elVs : List AV → Option (List (Bool × List AC))
  | [] => some []
  | z :: zs => match elV z, elVs zs with | some x, some xs => some (x :: xs) | _, _ => none
def tupV : List AV → Option AV
  | [z] => some z
  | zs => (elVs zs).map .tup
def retS (X : Ctx) (rs : List ResultVar) (y : AV) (h1 : Hp) (σ : AS) : Prop :=
  leH σ.heap h1 ∧ wfH h1 h1 = true ∧ refsIn h1 y.refs = true ∧ resAVs X σ rs fun vs => ∃ zs, RZs σ.heap h1 vs zs ∧ tupV zs = some y
theorem RZs.len {h h1 : Hp} {vs zs : List AV} (r : RZs h h1 vs zs) : zs.length = vs.length := by
  induction r with
  | nil => rfl
  | cons _ _ ih => simp [ih]
theorem RZs.get {h h1 : Hp} {vs zs : List AV} (r : RZs h h1 vs zs) : ∀ (j : Nat) z, zs[j]? = some z → ∃ v, vs[j]? = some v ∧ RZ h h1 v z := by
  induction r with
  | nil => intro j z hj; simp at hj
  | cons hz _ ih =>
    intro j z hj
    cases j with
    | zero => simp only [List.getElem?_cons_zero, Option.some.injEq] at hj; subst hj; exact ⟨_, rfl, hz⟩
    | succ j => exact ih j z (by simpa using hj)
theorem elVs_get : ∀ {zs : List AV} {xs : List (Bool × List AC)}, elVs zs = some xs → xs.length = zs.length ∧ ∀ (j : Nat) x, xs[j]? = some x → ∃ z, zs[j]? = some z ∧ elV z = some x
  | [], xs, h => by simp only [elVs, Option.some.injEq] at h; subst h; exact ⟨rfl, fun j x hj => by simp at hj⟩
  | z :: zs, xs, h => by
    simp only [elVs] at h
    split at h
    · rename_i x xs' hx hxs
      simp only [Option.some.injEq] at h
      subst h
      obtain ⟨h1, h2⟩ := elVs_get hxs
      refine ⟨by simp [h1], fun j y hj => ?_⟩
      cases j with
      | zero => simp only [List.getElem?_cons_zero, Option.some.injEq] at hj; subst hj; exact ⟨z, rfl, hx⟩
      | succ j => exact h2 j y (by simpa using hj)
    · cases h
theorem elV_rep {w : World} {ok : Nat → Prop} {β : Bt} {z : AV} {x : Bool × List AC} {u : Value} (h : elV z = some x) (r : RepV w ok β z u) : RepE w ok β x u := by
  cases z with
  | one c => simp only [elV, Option.some.injEq] at h; subst h; exact ⟨c, rfl, r⟩
  | agg cs => simp only [elV, Option.some.injEq] at h; subst h; exact r
  | tup xs => cases h
  | bot => cases h
theorem RZ.rep {X : Ctx} {F : Fr} {h h1 : Hp} {β : Bt} {w : World} (r : HRel X F h β w) (hl : ∀ id b, look h1 id = some b → look h id = some b) (hok : ∀ b, F.ok w h β b → F.ok w h1 β b) {v z : AV} {u : Value} (hz : RZ h h1 v z) (hv : RepV w (F.ok w h β) β v u) (hrf : ∀ i ∈ v.refs, (look h i).isSome = true) :
    RepV w (F.ok w h1 β) β z u := by
  cases hz with
  | same =>
    have k : Keeps (fun _ => True) w (F.ok w h β) β w (F.ok w h1 β) β := ⟨fun b hb => ⟨hok b hb, rfl⟩, fun _ _ => ⟨rfl, fun _ _ => rfl⟩⟩
    exact k.repV (fun _ _ => trivial) hv
  | @view p ids hvw hn =>
    obtain ⟨p', ids', ⟨rfl, rfl⟩, hids, hp⟩ := viewA_sound r.wf (hvw (fun p' ids' => p' = p ∧ ids' = ids) ⟨rfl, rfl⟩) hrf
    have hw : Wide X F h β w ids' (F.ok w h1 β) := ⟨r, hok, fun id hid g hg => by
      obtain ⟨e, he⟩ := Option.isSome_iff_exists.1 (hids id hid)
      have hlt := r.lt he hg
      exact ⟨hlt.1, fun h => .inr (hlt.2.resolve_left (by omega)), fun i bx hi hgi => by
        by_cases hii : i = id
        · subst hii; rw [hn i hid] at hi; cases hi
        · exact r.inj i id _ _ g hii (hl i _ hi) he hgi hg⟩⟩
    exact PA.repV_β (hp h (fun _ _ => rfl) X F β w _ u hw hv)
theorem retS_sound {X : Ctx} {F : Fr} {N : Nat} {σ : AS} {a : Act} {w : World} {y : AV} {h1 : Hp} {fn : Func} (r : RelS X F N σ a w) (h : retS X fn.results.toList y h1 σ) :
    ∃ u β, (results fn a.tmps).run X.P w = .ok u w ∧ HRel X F h1 β w ∧ RepV w (F.ok w h1 β) β y u ∧ ∀ i ∈ y.refs, (look h1 i).isSome = true := by
  obtain ⟨β, r⟩ := r
  obtain ⟨hle, hwf, hrf, hres⟩ := h
  obtain ⟨vs, us, ⟨zs, hz, hy⟩, hrun, hl, hl2, hvr, hrep⟩ := resAVs_sound r hres
  have hsub : ∀ id b, look h1 id = some b → look σ.heap id = some b := fun id b h => leH_spec hle id b (look_mem h)
  obtain ⟨r1, hok⟩ := r.h.sub hsub fun id bx z h => wfH_spec hwf id bx z (look_mem h)
  have key : ∀ (j : Nat) z, zs[j]? = some z → ∃ u, us[j]? = some u ∧ RepV w (F.ok w h1 β) β z u := fun j z hj => by
    obtain ⟨v, hv, hvz⟩ := hz.get j z hj
    obtain ⟨u, hu, hr⟩ := hrep j v hv
    exact ⟨u, hu, hvz.rep r.h hsub hok hr (hvr v (List.mem_of_getElem? hv))⟩
  have hlen : us.length = zs.length := by rw [hz.len, hl]
  have hresr : (results fn a.tmps).run X.P w = .ok (if h : us.toArray.size = 1 then us.toArray[0] else .tuple us.toArray) w := by
    unfold results
    have e : fn.results = fn.results.toList.toArray := by simp
    rw [Sem.run_bind, e, List.mapM_toArray, Sem.run_map]
    have key2 : ∀ r : Result (List Value), r = .ok us w → (Result.andThen (Result.andThen r fun a w' => Result.ok a.toArray w') fun a w' => Sem.run X.P (pure (if h : a.size = 1 then a[0] else Value.tuple a)) w') = .ok (if h : us.toArray.size = 1 then us.toArray[0] else .tuple us.toArray) w := by rintro _ rfl; rfl
    exact key2 _ hrun
  refine ⟨_, β, hresr, r1, ?_, fun i hi => List.all_eq_true.1 hrf i hi⟩
  unfold tupV at hy
  split at hy
  · rename_i z
    simp only [Option.some.injEq] at hy
    subst hy
    obtain ⟨u, hu, hr⟩ := key 0 z rfl
    have hs : us.toArray.size = 1 := by rw [List.size_toArray, hlen]; rfl
    rw [dif_pos hs]
    have : us.toArray[0] = u := by
      have := (List.getElem?_eq_some_iff.1 hu).2
      simpa using this
    rw [this]; exact hr
  · rename_i hne
    cases hel : elVs zs with
    | none => rw [hel] at hy; cases hy
    | some xs =>
      rw [hel] at hy
      simp only [Option.map_some, Option.some.injEq] at hy
      subst hy
      obtain ⟨h1', h2⟩ := elVs_get hel
      have hs : ¬ us.toArray.size = 1 := by
        rw [List.size_toArray, hlen]
        intro h1
        obtain ⟨p, hp⟩ := List.length_eq_one_iff.1 h1
        exact hne p hp
      rw [dif_neg hs]
      refine ⟨us.toArray, rfl, by simp [hlen, h1'], fun j x hj => ?_⟩
      obtain ⟨z, hz', he⟩ := h2 j x hj
      obtain ⟨u, hu, hr⟩ := key j z hz'
      exact ⟨u, by simpa using hu, elV_rep he hr⟩
def entryV : Nat → List AV → List (Nat × AV)
  | _, [] => []
  | k, x :: xs => (k, x) :: entryV (k + 1) xs
theorem look_entryV : ∀ {xs : List AV} {k t : Nat} {v : AV}, look (entryV k xs) t = some v → k ≤ t ∧ xs[t - k]? = some v
  | x :: xs, k, t, v, h => by
    simp only [entryV, look] at h
    split at h
    · rename_i e
      simp only [Option.some.injEq] at h
      subst h; subst e
      exact ⟨Nat.le_refl _, by simp⟩
    · rename_i e
      obtain ⟨h1, h2⟩ := look_entryV h
      refine ⟨by omega, ?_⟩
      rw [show t - k = (t - (k + 1)) + 1 by omega, List.getElem?_cons_succ]
      exact h2
def AC.sane : AC → Prop
  | .pv p => p.sane
  | _ => True
def AV.sane : AV → Prop
  | .one c => c.sane
  | .agg cs => ∀ c, c ∈ cs → c.sane
  | _ => True
def sanesV : List AV → Prop
  | [] => True
  | x :: xs => x.sane ∧ sanesV xs
def Bx.sane : Bx → Prop
  | .pu _ l => ∀ p, p ∈ l → p.sane
  | .mx cs => ∀ c, c ∈ cs → c.sane
  | .ob cs => ∀ c, c ∈ cs → c.sane
def sanesH : Hp → Prop
  | [] => True
  | (_, (bx, _)) :: l => bx.sane ∧ sanesH l
theorem RepC.sane {w : World} {ok : Nat → Prop} {β : Bt} {c : AC} {u : Value} (h : RepC w ok β c u) : c.sane := by
  cases c with
  | pv p => exact RepP.sane h
  | _ => trivial
theorem AV.sane_of {w : World} {ok : Nat → Prop} {β : Bt} {x : AV} {u : Value} (h : RepV w ok β x u) : x.sane := by
  cases x with
  | one c => exact RepC.sane h
  | agg cs =>
    obtain ⟨vs, rfl, hl⟩ := h
    intro c hc
    obtain ⟨j, hj⟩ := List.getElem?_of_mem hc
    obtain ⟨u, _, hr⟩ := hl.2 j c hj
    exact hr.sane
  | tup xs => trivial
  | bot => trivial
theorem sanesV_of : ∀ {xs : List AV}, (∀ x ∈ xs, x.sane) → sanesV xs
  | [], _ => trivial
  | x :: xs, h => ⟨h x (by simp), sanesV_of fun q hq => h q (by simp [hq])⟩
theorem spec_ofS {X : Ctx} {f : FuncId} {fn : Func} {c : Code} {xs : List AV} {h0 h1 : Hp} {y : AV} {nx : Nat} (hf : X.P.funcs[f]? = some fn) (hname : (fn.name == "runtime.NumGoroutine") = false) (hb : fn.body = some c) (hok : codeOk fn.ntmps c = true) (hn : xs.length ≤ fn.ntmps) (hrf : (xs.all fun x => refsIn h0 x.refs) = true)
    (h : sanesV xs → (∀ id bx z, look h0 id = some (bx, z) → bx.sane) → ∀ R, (∀ σ, retS X fn.results.toList y h1 σ → R σ) → wpc X fn.ntmps c ⟨entryV 0 xs, h0, nx⟩ (kQ X fn.ntmps R [])) : SpcS X f xs h0 y h1 where
  ent := ent_of hf hname hb
  calls := fun ok w vals β hG hlt d hs hv => by
    have hsane : sanesV xs := sanesV_of fun p hp => by
      obtain ⟨j, hj⟩ := List.getElem?_of_mem hp
      obtain ⟨u, _, hr⟩ := hv j p hj
      exact AV.sane_of hr
    have hsaneH : ∀ id bx z, look h0 id = some (bx, z) → bx.sane := fun id bx z hl => by
      have hb := d.box id bx z hl
      unfold BoxRep at hb
      have key : ∀ c ∈ bx.cells, c.sane := fun c hc => by
        cases hβ : β id with
        | none => rw [hβ] at hb; simp only at hb; rw [hb] at hc; cases hc
        | some g =>
          rw [hβ] at hb
          obtain ⟨_, arr, e, _, _, hcc⟩ := hb
          obtain ⟨j, hj⟩ := List.getElem?_of_mem hc
          obtain ⟨u, _, hr⟩ := hcc j c hj
          exact hr.sane
      cases bx with
      | pu e l => exact fun p hp => key (.pv p) (List.mem_map.2 ⟨p, hp, rfl⟩)
      | mx cs => exact key
      | ob cs => exact key
    refine calls_of_wp hf hb ?_
    have hrel : RelS X ⟨w, ok, handed h0 β, pinOf β⟩ fn.ntmps ⟨entryV 0 xs, h0, nx⟩ { tmps := vals ++ Array.replicate (fn.ntmps - vals.size) undef, defers := [] } w := by
      refine ⟨β, d.rel hG hlt, rfl, by simp; omega, fun t v hl => ?_⟩
      obtain ⟨_, hp⟩ := look_entryV hl
      rw [Nat.sub_zero] at hp
      obtain ⟨u, hu, hr⟩ := hv t v hp
      refine ⟨⟨u, ?_, ?_⟩, fun id hid => List.all_eq_true.1 (List.all_eq_true.1 hrf v (List.mem_of_getElem? hp)) id hid⟩
      · rw [Array.getElem?_append, if_pos (Array.getElem?_eq_some_iff.1 hu).1]; exact hu
      · have k : Keeps (fun _ => True) w ok β w (Fr.ok ⟨w, ok, handed h0 β, pinOf β⟩ w h0 β) β := ⟨fun b hb => ⟨d.okOf hlt b hb, rfl⟩, fun _ _ => ⟨rfl, fun _ _ => rfl⟩⟩
        exact k.repV (fun _ _ => trivial) hr
    refine wp_mono (wpc_sound hok (h hsane hsaneH _ fun σ hσ => hσ) _ _ _ hrel) fun e a' w' ⟨σ', hq, hr⟩ => ?_
    have fin : retS X fn.results.toList y h1 σ' → a'.defers = [] ∧ ∃ v, (results fn a'.tmps).run X.P w' = .ok v w' ∧ ∃ u β', Ending.returned v = .returned u ∧ HRel X ⟨w, ok, handed h0 β, pinOf β⟩ h1 β' w' ∧ RepV w' (Fr.ok ⟨w, ok, handed h0 β, pinOf β⟩ w' h1 β') β' y u ∧ ∀ i ∈ y.refs, (look h1 i).isSome = true := fun hp => by
      obtain ⟨u, β', k1, k2, k3, k4⟩ := retS_sound hr hp
      obtain ⟨_, hr⟩ := hr
      exact ⟨hr.defers, u, k1, u, β', rfl, k2, k3, k4⟩
    cases e with
    | normal => exact fin hq
    | ret => exact fin hq
    | exit id => exact hq.elim
    | goto l => exact hq.elim
    | panic c => exact hq.elim
    | outgrown => exact hq.elim

end Go.VL


namespace Go.VL
open Go.RowKit
set_option linter.unusedVariables false

theorem look_one {i j : Nat} {b : Bx × Bool} : look [(j, b)] i = if i = j then some b else none := by simp [look]
theorem dom_nil {i : Nat} : ¬ (look ([] : Hp) i).isSome = true := by simp [look]
theorem dom_one {i j : Nat} {b : Bx × Bool} (h : (look [(j, b)] i).isSome = true) : i = j := by
  rw [look_one] at h
  by_cases e : i = j
  · exact e
  · rw [if_neg e] at h; cases h
theorem look_scrub0 (e : Option (Bx × Bool)) : e.map (fun x => (scrubM none x.1, x.2)) = e := by cases e <;> rfl
/-- One new box comes back. -/
theorem fits_new {h : Hp} {n i0 : Nat} {te : TypeId} {l : List PV} {zs : List Nat} (hn : look h n = none) (hk : n < 1000) (hi5 : i0 < 500 ∨ 1000 ≤ i0) (hz : ∀ id ∈ zs, (look h id).isSome = true) : Fits h (fun _ => n) [] [(i0, (.pu te l, false))] zs (put (frzs h zs) n (.pu te l, false)) none where
  inj := fun i j hi hj _ => by
    rcases hi with hi | hi
    · exact absurd hi dom_nil
    · rcases hj with hj | hj
      · exact absurd hj dom_nil
      · rw [dom_one hi, dom_one hj]
  wf0 := fun id bx z hl => by cases hl
  inp := fun i bx z hl => by cases hl
  frz := fun id hid => ⟨hz id hid, fun i hi => absurd hi dom_nil⟩
  new := fun i _ _ => ⟨hn, hk⟩
  mv := fun i hi => absurd hi dom_nil
  lo0 := fun i hi => absurd hi dom_nil
  lo1 := fun i hi => by rw [dom_one hi]; exact hi5
  pin := fun i hi => absurd hi dom_nil
  only := fun j hj => by cases hj
  outA := fun i bx z hl => by
    rw [look_one] at hl
    split at hl
    · simp only [Option.some.injEq, Prod.mk.injEq] at hl
      obtain ⟨rfl, rfl⟩ := hl
      rw [look_put, if_pos rfl]; rfl
    · cases hl
  outB := fun i hi => absurd hi dom_nil
  outC := fun j hj => by
    have hne : j ≠ n := fun e => hj i0 (.inr (by simp [look])) e.symm
    rw [look_put, if_neg hne, look_scrub0]
/-- One box is handed over, and stays where it is. -/
theorem fits_pin {h : Hp} {id : Nat} {te : TypeId} {l l' : List PV} {zs : List Nat} (hl : look h id = some (.pu te l, false)) (hz : ∀ i ∈ zs, (look h i).isSome = true) (hni : id ∉ zs) (hi5 : id < 500 ∨ 1000 ≤ id) : Fits h (fun _ => id) [(1000, (.pu te l, false))] [(1000, (.pu te l', false))] zs (put (frzs h zs) id (.pu te l', false)) none where
  inj := fun i j hi hj _ => by
    rw [hi.elim dom_one dom_one, hj.elim dom_one dom_one]
  wf0 := fun i bx z hl' j hj => by
    rw [look_one] at hl'
    split at hl'
    · simp only [Option.some.injEq, Prod.mk.injEq] at hl'
      obtain ⟨rfl, rfl⟩ := hl'
      rw [show (Bx.pu te l).cells = l.map .pv from rfl, acRefs_pv] at hj; cases hj
    · cases hl'
  inp := fun i bx z hl' => by
    rw [look_one] at hl'
    split at hl'
    · simp only [Option.some.injEq, Prod.mk.injEq] at hl'
      obtain ⟨rfl, rfl⟩ := hl'
      exact hl
    · cases hl'
  frz := fun i hi => ⟨hz i hi, fun _ _ e => hni (e ▸ hi)⟩
  new := fun i hi hn => by rw [dom_one hi] at hn; simp [look] at hn
  mv := fun i hi hlt => by have := dom_one hi; omega
  lo0 := fun i hi => hi5
  lo1 := fun i hi => by rw [dom_one hi]; exact .inr (Nat.le_refl _)
  pin := fun i hi _ => by rw [dom_one hi]; simp [look]
  only := fun j hj => by cases hj
  outA := fun i bx z hl' => by
    rw [look_one] at hl'
    split at hl'
    · simp only [Option.some.injEq, Prod.mk.injEq] at hl'
      obtain ⟨rfl, rfl⟩ := hl'
      rw [look_put, if_pos rfl]; rfl
    · cases hl'
  outB := fun i hi hn => by rw [dom_one hi] at hn; simp [look] at hn
  outC := fun j hj => by
    have hne : j ≠ id := fun e => hj 1000 (.inr (by simp [look])) e.symm
    rw [look_put, if_neg hne, look_scrub0]
/-- One box is handed over, and one comes back for it. -/
theorem fits_mv {h : Hp} {id : Nat} {te : TypeId} {l l' : List PV} {zs : List Nat} (hl : look h id = some (.pu te l, false)) (hz : ∀ i ∈ zs, (look h i).isSome = true) (hni : id ∉ zs) (hk : id < 500) : Fits h (fun _ => id) [(0, (.pu te l, false))] [(0, (.pu te l', false))] zs (put (scrubH id (frzs h zs)) id (.pu te l', false)) (some id) where
  inj := fun i j hi hj _ => by
    rw [hi.elim dom_one dom_one, hj.elim dom_one dom_one]
  wf0 := fun i bx z hl' j hj => by
    rw [look_one] at hl'
    split at hl'
    · simp only [Option.some.injEq, Prod.mk.injEq] at hl'
      obtain ⟨rfl, rfl⟩ := hl'
      rw [show (Bx.pu te l).cells = l.map .pv from rfl, acRefs_pv] at hj; cases hj
    · cases hl'
  inp := fun i bx z hl' => by
    rw [look_one] at hl'
    split at hl'
    · simp only [Option.some.injEq, Prod.mk.injEq] at hl'
      obtain ⟨rfl, rfl⟩ := hl'
      exact hl
    · cases hl'
  frz := fun i hi => ⟨hz i hi, fun _ _ e => hni (e ▸ hi)⟩
  new := fun i hi hn => by rw [dom_one hi] at hn; simp [look] at hn
  mv := fun i hi hlt => ⟨rfl, by omega⟩
  lo0 := fun i hi => .inl hk
  lo1 := fun i hi => by rw [dom_one hi]; exact .inl (by decide)
  pin := fun i hi hge => by have := dom_one hi; omega
  only := fun j hj => ⟨0, by simp [look], by simpa using hj⟩
  outA := fun i bx z hl' => by
    rw [look_one] at hl'
    split at hl'
    · simp only [Option.some.injEq, Prod.mk.injEq] at hl'
      obtain ⟨rfl, rfl⟩ := hl'
      rw [look_put, if_pos rfl]; rfl
    · cases hl'
  outB := fun i hi hn => by rw [dom_one hi] at hn; simp [look] at hn
  outC := fun j hj => by
    have hne : j ≠ id := fun e => hj 0 (.inr (by simp [look])) e.symm
    rw [look_put, if_neg hne, look_scrubH]
    cases look (frzs h zs) j <;> rfl
/-! ### What is viewed in one heap is viewed in another that agrees -/
theorem agree_look {h h2 : Hp} {ids : List Nat} (a : Agree h h2 ids) {id : Nat} (hid : id ∈ ids) {bx : Bx} {z : Bool} (hl : look h id = some (bx, z)) : ∃ z', look h2 id = some (bx, z') := by
  have := a id hid
  rw [hl] at this
  cases h2' : look h2 id with
  | none => rw [h2'] at this; cases this
  | some e =>
    rw [h2'] at this
    simp only [Option.map_some, Option.some.injEq] at this
    exact ⟨e.2, by rw [← this]⟩
theorem viewC1_ex {h : Hp} {c : AC} {K : PV → List Nat → Prop} (hv : viewC1 h c K) : ∃ p ids, K p ids ∧ ∀ h2, Agree h h2 ids → ∀ K' : PV → List Nat → Prop, K' p ids → viewC1 h2 c K' := by
  cases c with
  | pv p => cases p <;> exact ⟨_, _, hv, fun _ _ _ hk => hk⟩
  | own id sz n =>
    simp only [viewC1] at hv
    split at hv
    · rename_i e l z hl
      refine ⟨_, _, hv.2, fun h2 ha K' hk => ?_⟩
      obtain ⟨z', hl'⟩ := agree_look ha (List.mem_singleton.2 rfl) hl
      simp only [viewC1, hl']
      exact ⟨hv.1, hk⟩
    · exact hv.elim
  | sub id sz off n =>
    simp only [viewC1] at hv
    split at hv
    · rename_i e l z hl
      refine ⟨_, _, hv.2, fun h2 ha K' hk => ?_⟩
      obtain ⟨z', hl'⟩ := agree_look ha (List.mem_singleton.2 rfl) hl
      simp only [viewC1, hl']
      exact ⟨hv.1, hk⟩
    · exact hv.elim
  | _ => exact hv.elim
theorem Agree.left {h h2 : Hp} {i j : List Nat} (a : Agree h h2 (i ++ j)) : Agree h h2 i := fun id hid => a id (List.mem_append.2 (.inl hid))
theorem Agree.right {h h2 : Hp} {i j : List Nat} (a : Agree h h2 (i ++ j)) : Agree h h2 j := fun id hid => a id (List.mem_append.2 (.inr hid))
theorem viewL1_ex {h : Hp} : ∀ {cs : List AC} {K : List PV → List Nat → Prop}, viewL1 h cs K → ∃ ps ids, K ps ids ∧ ∀ h2, Agree h h2 ids → ∀ K' : List PV → List Nat → Prop, K' ps ids → viewL1 h2 cs K'
  | [], _, hv => ⟨_, _, hv, fun _ _ _ hk => hk⟩
  | c :: cs, _, hv => by
    obtain ⟨p, i, h1, h2⟩ := viewC1_ex (K := _) hv
    obtain ⟨ps, j, h3, h4⟩ := viewL1_ex h1
    exact ⟨_, _, h3, fun hh ha K' hk => h2 hh ha.left _ (h4 hh ha.right _ hk)⟩
theorem viewC_ex {h : Hp} {c : AC} {K : PV → List Nat → Prop} (hv : viewC h c K) : ∃ p ids, K p ids ∧ ∀ h2, Agree h h2 ids → ∀ K' : PV → List Nat → Prop, K' p ids → viewC h2 c K' := by
  cases c with
  | ptr id off =>
    simp only [viewC] at hv
    split at hv
    · rename_i e l z hl
      refine ⟨_, _, hv, fun h2 ha K' hk => ?_⟩
      obtain ⟨z', hl'⟩ := agree_look ha (List.mem_singleton.2 rfl) hl
      simp only [viewC, hl']
      exact hk
    · rename_i cs z hl
      obtain ⟨ps, j, h3, h4⟩ := viewL1_ex hv
      refine ⟨_, _, h3, fun h2 ha K' hk => ?_⟩
      obtain ⟨z', hl'⟩ := agree_look ha (by simp) hl
      simp only [viewC, hl']
      exact h4 h2 (fun id hid => ha id (List.mem_cons_of_mem _ hid)) _ hk
    · exact hv.elim
    · exact hv.elim
  | _ => (simp only [viewC] at hv ⊢; exact viewC1_ex hv)
theorem viewCap_ex {h : Hp} {c : Cap} {K : PV → List Nat → Prop} (hv : viewCap h c K) : ∃ p ids, K p ids ∧ ∀ h2, Agree h h2 ids → ∀ K' : PV → List Nat → Prop, K' p ids → viewCap h2 c K' := by
  cases c with
  | pv p => exact ⟨_, _, hv, fun _ _ _ hk => hk⟩
  | ptr id off => (simp only [viewCap] at hv ⊢; exact viewC_ex hv)
theorem viewCaps_ex {h : Hp} : ∀ {cs : List Cap} {K : List PV → List Nat → Prop}, viewCaps h cs K → ∃ ps ids, K ps ids ∧ ∀ h2, Agree h h2 ids → ∀ K' : List PV → List Nat → Prop, K' ps ids → viewCaps h2 cs K'
  | [], _, hv => ⟨_, _, hv, fun _ _ _ hk => hk⟩
  | c :: cs, _, hv => by
    obtain ⟨p, i, h1, h2⟩ := viewCap_ex (K := _) hv
    obtain ⟨ps, j, h3, h4⟩ := viewCaps_ex h1
    exact ⟨_, _, h3, fun hh ha K' hk => h2 hh ha.left _ (h4 hh ha.right _ hk)⟩
theorem viewA_ex {h : Hp} {x : AV} {K : PA → List Nat → Prop} (hv : viewA h x K) : ∃ p ids, K p ids ∧ ∀ h2, Agree h h2 ids → ∀ K' : PA → List Nat → Prop, K' p ids → viewA h2 x K' := by
  unfold viewA at hv ⊢
  split at hv
  · obtain ⟨ps, i, h1, h2⟩ := viewCaps_ex hv
    exact ⟨_, _, h1, fun hh ha K' hk => h2 hh ha _ hk⟩
  · obtain ⟨ps, i, h1, h2⟩ := viewC_ex hv
    exact ⟨_, _, h1, fun hh ha K' hk => h2 hh ha _ hk⟩
  · obtain ⟨ps, i, h1, h2⟩ := viewL1_ex hv
    exact ⟨_, _, h1, fun hh ha K' hk => h2 hh ha _ hk⟩
  · exact hv.elim
theorem VA.agree {h h2 : Hp} {x : AV} {p : PA} {ids : List Nat} (hv : VA h x p ids) (ha : Agree h h2 ids) : VA h2 x p ids := by
  obtain ⟨p', ids', ⟨rfl, rfl⟩, hh⟩ := viewA_ex (hv.h (fun p' ids' => p' = p ∧ ids' = ids) ⟨rfl, rfl⟩)
  exact ⟨fun K hK => hh h2 ha K hK⟩
theorem VOs.agree {h h2 : Hp} {env : List (Nat × AV)} {al : List Operand} {pas : List PA} {ids : List Nat} (r : VOs h env al pas ids) (ha : Agree h h2 ids) : VOs h2 env al pas ids := by
  induction r with
  | nil => exact .nil
  | cons hx hv _ ih => exact .cons hx (hv.agree ha.left) (ih ha.right)
/-- Operands that are read whole. -/
theorem VOs.args {h : Hp} {env : List (Nat × AV)} {al : List Operand} {pas : List PA} {ids : List Nat} (r : VOs h env al pas ids) {f : Nat → Nat} {h0 : Hp} {zs : List Nat} (hz : ∀ id ∈ ids, id ∈ zs) : ArgsR h f h0 zs (al.map (evE env)) (pas.map PA.av) := by
  induction r with
  | nil => exact .nil
  | cons hx hv _ ih =>
    rw [List.map_cons, List.map_cons, hx.h]
    exact .cons (.view hv.h fun id hid => hz id (List.mem_append.2 (.inl hid))) (ih fun id hid => hz id (List.mem_append.2 (.inr hid)))
theorem VA.dom {h : Hp} {x : AV} {p : PA} {ids : List Nat} (hv : VA h x p ids) (hwf : ∀ id bx z, look h id = some (bx, z) → ∀ i ∈ acRefs bx.cells, (look h i).isSome = true) (hc : ∀ id ∈ x.refs, (look h id).isSome = true) : ∀ id ∈ ids, (look h id).isSome = true := by
  obtain ⟨p', ids', ⟨rfl, rfl⟩, h2, _⟩ := viewA_sound hwf (hv.h (fun p' ids' => p' = p ∧ ids' = ids) ⟨rfl, rfl⟩) hc
  exact h2
section
variable {X : Ctx} {N : Nat} {R : AS → Prop} {k : List KI} {σ : AS} {ops : Array Oper} {D D' : Option (List Fl)} {rest : List Oper} {env env' : List (Nat × AV)} {h h' : Hp} {n n' : Nat} {dst : Option Tmp} {t d : Tmp} {op : Op} {ty tx t' : TypeId} {ps : String} {af : Array Edge}
theorem R_callS {fo : Operand} {al : List Operand} {tl : List TypeId} {g : FuncId} {xs : List AV} {h0 h1 : Hp} {y : AV} {f : Nat → Nat} {zs : List Nat} {m : Option Nat} (hs : SpcS X g xs h0 y h1) (hf : EvR env fo (.one (.pv (.clo g [])))) (hfit : Fits h f h0 h1 zs h' m) (ha : ArgsR h f h0 zs (al.map (evE env)) xs) (hsc : ∀ a, m = some a → ∀ i, i ≠ a → i ∉ (al.map (evE env)).flatMap AV.refs → (look h' i).map (·.1) = (look h i).map fun e => e.1.scrub a)
    (hfl : FlR D env (.call ⟨.value fo, ⟨al⟩, ⟨tl⟩⟩) (y.ren f) (.e h' m) D') (hK : Rn X N R k ops D' rest ((AS.mk env h n).fin dst (.e h' m) (y.ren f) n')) : Rn X N R k ops D (⟨dst, .call ⟨.value fo, ⟨al⟩, ⟨tl⟩⟩, ty, ps, af, none⟩ :: rest) ⟨env, h, n⟩ :=
  Rn.step (ef := .e h' m) (v := y.ren f) (n' := n') trivial (fun K hK => by
    simp only [evOp, hf.h]
    exact .inr (.inl ⟨_, _, _, _, ⟨⟨g, xs, h0, h1, y, f, zs, rfl, hs, hfit, ha, rfl⟩, hsc⟩, hK⟩)) hfl hK
theorem all_some {h : Hp} {ids : List Nat} (h1 : (ids.all fun i => (look h i).isSome) = true) : ∀ id ∈ ids, (look h id).isSome = true := fun id hid => List.all_eq_true.1 h1 id hid
theorem lowb {n : Nat} (h : (Nat.blt n 500 || Nat.ble 1000 n) = true) : n < 500 ∨ 1000 ≤ n := by simpa using h
theorem not_mem {ids : List Nat} {id : Nat} (h1 : ids.contains id = false) : id ∉ ids := by simpa using h1
/-- A call that makes a slice. -/
theorem R_callN {fo : Operand} {al : List Operand} {tl : List TypeId} {g : FuncId} {xs : List AV} {pas : List PA} {ids : List Nat} {α : Type} {e : α → List PV} {l : List α} {te : TypeId} {i0 S q : Nat} {h1' : Hp} (hs : SpcS X g xs [] (.one (.own i0 S q)) [(i0, (.pu te (l.flatMap e), false))]) (hf : EvR env fo (.one (.pv (.clo g []))) := by first | exact .fn | exact ⟨rfl⟩)
    (hv : VOs h env al pas ids := by repeat (first | exact .nil | (apply VOs.cons; first | exact .tmp rfl | exact .ci rfl | exact .cb | exact .cs rfl | exact .of rfl | exact .fn | (apply EvR.cagg; repeat (first | exact OfL.nil | apply OfL.int | apply OfL.bool | apply OfL.str | apply OfL.nilS | (apply OfL.other; rfl; rfl)))) | exact VA.one (.pv rfl) | exact VA.one .nil | exact VA.one (.own rfl (fun _ => rfl) (by first | rfl | omega | (simp only [List.length_set, List.length_append, List.length_cons, List.length_nil, List.length_take, List.length_drop, List.length_replicate, List.length_map, List.length_reverse] <;> omega) | simp)) | exact VA.one (.ownTake rfl (fun _ => rfl) (by first | omega | simp)) | apply VA.agg | exact VL.nil | exact VL.pvs rfl | apply VL.cons | exact VC.pv rfl | exact VC.nil | exact VC.own rfl (fun _ => rfl) (by first | rfl | omega | (simp only [List.length_set, List.length_append, List.length_cons, List.length_nil, List.length_take, List.length_drop, List.length_replicate, List.length_map, List.length_reverse] <;> omega) | simp))) (hx : pas.map PA.av = xs := by exact rfl) (hn : look h n = none := by rfl) (hk1 : Nat.blt n 1000 = true := by rfl) (hi5 : (Nat.blt i0 500 || Nat.ble 1000 i0) = true := by rfl) (hz : (ids.all fun i => (look h i).isSome) = true := by rfl) (hh : FrzR h ids h1' := by repeat (first | exact FrzR.nil | (apply FrzR.cons; rfl; (repeat (first | exact .hit | exact .nil | (apply PutR.miss; rfl)))))) (hp : PutR h1' n (.pu te (l.flatMap e), false) h' := by repeat (first | exact .hit | exact .nil | (apply PutR.miss; rfl)))
    (hfl : FlR D env (.call ⟨.value fo, ⟨al⟩, ⟨tl⟩⟩) (.one (.own n S q)) (.n ids ids (some (n, .pu te (l.flatMap e)))) D' := by first | exact .seq | exact .drawn rfl) (hK : Rn X N R k ops D' rest ⟨(d, .one (.own n S q)) :: env, h', n + 1⟩) : Rn X N R k ops D (⟨some d, .call ⟨.value fo, ⟨al⟩, ⟨tl⟩⟩, ty, ps, af, none⟩ :: rest) ⟨env, h, n⟩ :=
  Rn.step (ef := .n ids ids (some (n, .pu te (l.flatMap e)))) (v := .one (.own n S q)) (n' := n + 1) ⟨hn, lt1k hk1⟩ (fun K hK => by
    simp only [evOp, hf.h]
    exact .inr (.inr ⟨_, ids, n, .pu te (l.flatMap e), ⟨g, xs, _, _, fun _ => n, rfl, hs, fun h2 ha hn2 => ⟨fits_new hn2 (lt1k hk1) (lowb hi5) (fun id hid => agree_isSome ha hid (all_some hz id hid)), by rw [← hx]; exact (hv.agree ha).args fun id hid => hid⟩, rfl⟩, hK⟩)) hfl (by simp only [AS.fin, upd, putO, putE, hp.eq, hh.eq]; exact hK)
/-- A call that writes into a slice that stays the caller's. -/
theorem R_callM {fo a0 : Operand} {al : List Operand} {tl : List TypeId} {g : FuncId} {xs : List AV} {pas : List PA} {ids : List Nat} {te : TypeId} {id S q : Nat} {c c' : List PV} {y v : AV} {h1' : Hp} (hs : SpcS X g (.one (.own 1000 S q) :: xs) [(1000, (.pu te c, false))] y [(1000, (.pu te c', false))]) (hf : EvR env fo (.one (.pv (.clo g []))) := by first | exact .fn | exact ⟨rfl⟩)
    (h0 : EvR env a0 (.one (.own id S q)) := by exact ⟨rfl⟩) (hlk : look h id = some (.pu te c, false) := by rfl) (hv : VOs h env al pas ids := by repeat (first | exact .nil | (apply VOs.cons; first | exact .tmp rfl | exact .ci rfl | exact .cb | exact .cs rfl | exact .of rfl | exact .fn | (apply EvR.cagg; repeat (first | exact OfL.nil | apply OfL.int | apply OfL.bool | apply OfL.str | apply OfL.nilS | (apply OfL.other; rfl; rfl)))) | exact VA.one (.pv rfl) | exact VA.one .nil | exact VA.one (.own rfl (fun _ => rfl) (by first | rfl | omega | (simp only [List.length_set, List.length_append, List.length_cons, List.length_nil, List.length_take, List.length_drop, List.length_replicate, List.length_map, List.length_reverse] <;> omega) | simp)) | exact VA.one (.ownTake rfl (fun _ => rfl) (by first | omega | simp)) | apply VA.agg | exact VL.nil | exact VL.pvs rfl | apply VL.cons | exact VC.pv rfl | exact VC.nil | exact VC.own rfl (fun _ => rfl) (by first | rfl | omega | (simp only [List.length_set, List.length_append, List.length_cons, List.length_nil, List.length_take, List.length_drop, List.length_replicate, List.length_map, List.length_reverse] <;> omega) | simp))) (hx : pas.map PA.av = xs := by exact rfl) (hz : (ids.all fun i => (look h i).isSome) = true := by rfl) (hni : ids.contains id = false := by rfl) (hi5 : (Nat.blt id 500 || Nat.ble 1000 id) = true := by rfl) (hh : FrzR h ids h1' := by repeat (first | exact FrzR.nil | (apply FrzR.cons; rfl; (repeat (first | exact .hit | exact .nil | (apply PutR.miss; rfl)))))) (hp : PutR h1' id (.pu te c', false) h' := by repeat (first | exact .hit | exact .nil | (apply PutR.miss; rfl))) (hy : y.ren (fun _ => id) = v := by exact rfl)
    (hfl : FlR D env (.call ⟨.value fo, ⟨a0 :: al⟩, ⟨tl⟩⟩) v (.e h' none) D' := by first | exact .seq | exact .drawn rfl) (hK : Rn X N R k ops D' rest ⟨putO env dst v, h', n⟩) : Rn X N R k ops D (⟨dst, .call ⟨.value fo, ⟨a0 :: al⟩, ⟨tl⟩⟩, ty, ps, af, none⟩ :: rest) ⟨env, h, n⟩ :=
  R_callS (f := fun _ => id) (n' := n) (zs := ids) (h' := h') (m := none) hs hf (by rw [← hp.eq, ← hh.eq]; exact fits_pin hlk (all_some hz) (not_mem hni) (lowb hi5)) (by
    rw [List.map_cons, h0.h, ← hx]
    exact .cons (.own (x := .one (.own 1000 S q)) (fun e => by cases e) (fun i hi => by simp only [AV.refs, AC.refs, List.mem_singleton] at hi; subst hi; simp [look])) (hv.args fun id hid => hid)) (fun a e => by cases e) (by rw [hy]; exact hfl) (by rw [hy]; exact hK)
/-- A call that takes a slice and hands one back for it. -/
theorem R_callC {fo a0 : Operand} {al : List Operand} {tl : List TypeId} {g : FuncId} {xs : List AV} {pas : List PA} {ids : List Nat} {α : Type} {e : α → List PV} {l' : List α} {te : TypeId} {id S q q' : Nat} {c : List PV} {h1' h2' : Hp} (hs : SpcS X g (.one (.own 0 S q) :: xs) [(0, (.pu te c, false))] (.one (.own 0 S q')) [(0, (.pu te (l'.flatMap e), false))]) (hf : EvR env fo (.one (.pv (.clo g []))) := by first | exact .fn | exact ⟨rfl⟩)
    (h0 : EvR env a0 (.one (.own id S q)) := by exact ⟨rfl⟩) (hlk : look h id = some (.pu te c, false) := by rfl) (hk1 : Nat.blt id 500 = true := by rfl) (hv : VOs h env al pas ids := by repeat (first | exact .nil | (apply VOs.cons; first | exact .tmp rfl | exact .ci rfl | exact .cb | exact .cs rfl | exact .of rfl | exact .fn | (apply EvR.cagg; repeat (first | exact OfL.nil | apply OfL.int | apply OfL.bool | apply OfL.str | apply OfL.nilS | (apply OfL.other; rfl; rfl)))) | exact VA.one (.pv rfl) | exact VA.one .nil | exact VA.one (.own rfl (fun _ => rfl) (by first | rfl | omega | (simp only [List.length_set, List.length_append, List.length_cons, List.length_nil, List.length_take, List.length_drop, List.length_replicate, List.length_map, List.length_reverse] <;> omega) | simp)) | exact VA.one (.ownTake rfl (fun _ => rfl) (by first | omega | simp)) | apply VA.agg | exact VL.nil | exact VL.pvs rfl | apply VL.cons | exact VC.pv rfl | exact VC.nil | exact VC.own rfl (fun _ => rfl) (by first | rfl | omega | (simp only [List.length_set, List.length_append, List.length_cons, List.length_nil, List.length_take, List.length_drop, List.length_replicate, List.length_map, List.length_reverse] <;> omega) | simp))) (hx : pas.map PA.av = xs := by exact rfl) (hz : (ids.all fun i => (look h i).isSome) = true := by rfl) (hni : ids.contains id = false := by rfl) (hh : FrzR h ids h1' := by repeat (first | exact FrzR.nil | (apply FrzR.cons; rfl; (repeat (first | exact .hit | exact .nil | (apply PutR.miss; rfl)))))) (hsc : scrubH id h1' = h2' := by exact rfl) (hp : PutR h2' id (.pu te (l'.flatMap e), false) h' := by repeat (first | exact .hit | exact .nil | (apply PutR.miss; rfl))) (henv : scrubEnv id env = env' := by exact Eq.refl _)
    (hfl : FlR D env (.call ⟨.value fo, ⟨a0 :: al⟩, ⟨tl⟩⟩) (.one (.own id S q')) (.e h' (some id)) D' := by first | exact .seq | exact .drawn rfl) (hK : Rn X N R k ops D' rest ⟨(d, .one (.own id S q')) :: env', h', n⟩) : Rn X N R k ops D (⟨some d, .call ⟨.value fo, ⟨a0 :: al⟩, ⟨tl⟩⟩, ty, ps, af, none⟩ :: rest) ⟨env, h, n⟩ :=
  R_callS (f := fun _ => id) (n' := n) hs hf (by rw [← hp.eq, ← hsc, ← hh.eq]; exact fits_mv hlk (all_some hz) (not_mem hni) (lt5h hk1)) (by
    rw [List.map_cons, h0.h, ← hx]
    exact .cons (.own (x := .one (.own 0 S q)) (fun e => by cases e) (fun i hi => by simp only [AV.refs, AC.refs, List.mem_singleton] at hi; subst hi; simp [look])) (hv.args fun id hid => hid)) (fun a e i hi _ => by cases e; rw [← hp.eq, ← hsc, ← hh.eq]; exact app_sc (h0 := frzs h ids) (fun i _ => look_frzs_fst ids h i) hi) hfl (by simp only [AS.fin, putO, putE, henv]; exact hK)

/-! ### Out of a walk -/
theorem SpcS.start {X : Ctx} {f : FuncId} {fn : Func} {c : Code} {xs : List AV} {h0 h1 : Hp} {y : AV} (nx : Nat) (hf : X.P.funcs[f]? = some fn) (hb : fn.body = some c) (hname : (fn.name == "runtime.NumGoroutine") = false := by rfl) (hok : codeOk fn.ntmps c = true := by kernel_rfl) (hn : Nat.ble xs.length fn.ntmps = true := by rfl) (hrf : (xs.all fun x => refsIn h0 x.refs) = true := by rfl)
    (h : sanesV xs → (∀ id bx z, look h0 id = some (bx, z) → bx.sane) → ∀ R, (∀ σ, retS X fn.results.toList y h1 σ → R σ) → Wp X fn.ntmps R [] c ⟨entryV 0 xs, h0, nx⟩) : SpcS X f xs h0 y h1 := spec_ofS hf hname hb hok (Nat.le_of_ble_eq_true hn) hrf fun hs hs2 R hR => (h hs hs2 R hR).h
theorem retS0 {rs : List ResultVar} {h1 : Hp} {y : AV} (hrs : rs = [] := by exact rfl) (hy : y = .tup [] := by rfl) (hle : leH h h1) (hw : wfH h1 h1 = true := by rfl) (hrf : refsIn h1 y.refs = true := by rfl) : retS X rs y h1 ⟨env, h, n⟩ := by
  subst hrs; subst hy
  exact ⟨hle, hw, hrf, [], .nil, rfl⟩
theorem retS1 {rs : List ResultVar} {r1 : ResultVar} {v1 y : AV} {h1 : Hp} (hrs : rs = [r1] := by exact rfl) (hr1 : RvR X ⟨env, h, n⟩ r1 v1 := by first | exact .tmp (by first | exact .tmp rfl | exact .of rfl) | exact .cell ⟨rfl⟩ rfl inferInstance rfl rfl) (hy : v1 = y) (hle : leH h h1) (hw : wfH h1 h1 = true := by rfl) (hrf : refsIn h1 y.refs = true := by rfl) : retS X rs y h1 ⟨env, h, n⟩ := by
  subst hrs; subst hy
  refine ⟨hle, hw, hrf, ?_⟩
  simp only [resAVs]
  exact hr1.res _ ⟨[v1], .cons .same .nil, rfl⟩
end
end Go.VL


namespace Go.VL
open Go.RowKit
set_option linter.unusedVariables false

def noneIn (h1 : Hp) : List Nat → Bool
  | [] => true
  | id :: l => (look h1 id).isNone && noneIn h1 l
theorem noneIn_spec {h1 : Hp} : ∀ {l : List Nat}, noneIn h1 l = true → ∀ id ∈ l, look h1 id = none
  | x :: l, h, id, hm => by
    simp only [noneIn, Bool.and_eq_true] at h
    rcases List.mem_cons.1 hm with rfl | hm
    · simpa using h.1
    · exact noneIn_spec h.2 id hm
/-- A value known less: or read whole, its boxes being forgotten. -/
inductive AvV (h h1 : Hp) : AV → AV → Prop
  | same {v z : AV} (hl : avLe v z) : AvV h h1 v z
  | view {v z : AV} {p : PA} {ids : List Nat} (hv : VA h v p ids) (hn : noneIn h1 ids = true) (hz : p.av = z) : AvV h h1 v z
def leEV (h h1 : Hp) (e : List (Nat × AV)) : List (Nat × AV) → Prop
  | [] => True
  | (t, v) :: l => (∃ v0, look e t = some v0 ∧ AvV h h1 v0 v) ∧ leEV h h1 e l
theorem leEV_spec {h h1 : Hp} {e : List (Nat × AV)} : ∀ {l : List (Nat × AV)}, leEV h h1 e l → ∀ t v, (t, v) ∈ l → ∃ v0, look e t = some v0 ∧ AvV h h1 v0 v
  | (t', v') :: l, hh, t, v, hm => by
    rcases List.mem_cons.1 hm with hm | hm
    · cases hm; exact hh.1
    · exact leEV_spec hh.2 t v hm
theorem AvV.rep {X : Ctx} {F : Fr} {h h1 : Hp} {β : Bt} {w : World} (r : HRel X F h β w) (hl : ∀ id b, look h1 id = some b → look h id = some b) (hok : ∀ b, F.ok w h β b → F.ok w h1 β b) {v z : AV} {u : Value} (hz : AvV h h1 v z) (hv : RepV w (F.ok w h β) β v u) (hrf : ∀ i ∈ v.refs, (look h i).isSome = true) :
    RepV w (F.ok w h1 β) β z u := by
  cases hz with
  | same hle =>
    have k : Keeps (fun _ => True) w (F.ok w h β) β w (F.ok w h1 β) β := ⟨fun b hb => ⟨hok b hb, rfl⟩, fun _ _ => ⟨rfl, fun _ _ => rfl⟩⟩
    exact k.repV (fun _ _ => trivial) (avLe_rep hle hv)
  | view hvw hn hz =>
    subst hz
    exact RZ.rep r hl hok (.view hvw.h (noneIn_spec hn)) hv hrf
theorem le_ofV {X : Ctx} {N : Nat} {σ τ : AS} (he : leEV σ.heap τ.heap σ.env τ.env) (hh : leH σ.heap τ.heap) (hw : wfE τ.heap τ.env = true) (hw2 : wfH τ.heap τ.heap = true) : σ.Le X N τ := fun F a w ⟨β, r⟩ => by
  have hl : ∀ id b, look τ.heap id = some b → look σ.heap id = some b := fun id b h => leH_spec hh id b (look_mem h)
  obtain ⟨r1, hok⟩ := r.h.sub hl fun id bx z h => wfH_spec hw2 id bx z (look_mem h)
  refine ⟨β, r1, r.defers, r.size, fun t v h => ?_⟩
  have hm := look_mem h
  obtain ⟨v0, h0, hle⟩ := leEV_spec he t v hm
  obtain ⟨⟨u, hu, hr⟩, hrf⟩ := r.env t v0 h0
  exact ⟨⟨u, hu, hle.rep r.h hl hok hr hrf⟩, wfE_spec hw t v hm⟩
theorem AvV.slc {h h1 : Hp} {α : Type} {e : α → List PV} {l l' : List α} {id S n : Nat} {te : TypeId} {z : Bool} (hl : look h id = some (.pu te (l.flatMap e), z) := by rfl) (hS : ∀ x, (e x).length = S := by exact fun _ => rfl) (hn : n = l.length := by first | rfl | omega) (hi : look h1 id = none := by rfl) (hll : l = l' := by rfl) :
    AvV h h1 (.one (.own id S n)) (vP (slc e l')) := by
  subst hll
  exact .view (VA.one (.own hl hS hn)) (by simp [noneIn, hi]) rfl
theorem le_autoV {X : Ctx} {N : Nat} {env env' : List (Nat × AV)} {h h' : Hp} {n n' : Nat}
    (he : leEV h h' env env' := by repeat' (first | exact trivial | refine And.intro ⟨_, rfl, ?_⟩ ?_ | exact .same (avLe_refl _) | exact .same (avLe_i (by first | omega | (simp only [List.length_set, List.length_append, List.length_cons, List.length_nil, List.length_take, List.length_drop, List.length_replicate, List.length_map, List.length_reverse] <;> omega))) | exact .same avLe_nil | exact .same avLe_nilO | exact .same (avLe_own (by first | omega | (simp only [List.length_set, List.length_append, List.length_cons, List.length_nil, List.length_take, List.length_drop, List.length_replicate, List.length_map, List.length_reverse] <;> omega))) | exact AvV.slc (hn := by first | rfl | omega | (simp only [List.length_set, List.length_append, List.length_cons, List.length_nil, List.length_take, List.length_drop, List.length_replicate, List.length_map, List.length_reverse] <;> omega)) (hll := by first | rfl | simp)))
    (hh : leH h h' := by repeat' (first | exact trivial | refine And.intro rfl ?_)) (hw : wfE h' env' = true := by rfl) (hw2 : wfH h' h' = true := by rfl) : (AS.mk env h n).Le X N (AS.mk env' h' n') := le_ofV he hh hw hw2
end Go.VL


namespace Go.VL
open Go.RowKit
set_option linter.unusedVariables false

theorem bytesPV_eq (s : List UInt8) : bytesPV s = s.flatMap eU := by
  induction s with
  | nil => rfl
  | cons b s ih => simp only [bytesPV, List.map_cons, List.flatMap_cons, eU] at *; rw [ih]; rfl
section
variable {X : Ctx} {N : Nat} {R : AS → Prop} {k : List KI} {σ : AS} {ops : Array Oper} {D D' : Option (List Fl)} {rest : List Oper} {env env' : List (Nat × AV)} {h h' : Hp} {n n' : Nat} {dst : Option Tmp} {t d : Tmp} {op : Op} {ty tx t' : TypeId} {ps : String} {af : Array Edge}
/-- append(bytes, string...). -/
theorem R_appS {x y : Operand} {l bs : List UInt8} {id m s b s2 b2 : Nat} {te ts : TypeId} {u : TypeDesc} {zz zz2 : Option Value} [hT : TInf X tx ⟨.slice te, s, b, zz⟩] [hT' : TInf X ts ⟨.string, s2, b2, zz2⟩] [hE : TInf X te ⟨u, 1, 1, some (.int .u8 0)⟩]
    (hx : EvR env x (.one (.own id 1 m)) := by exact ⟨rfl⟩) (hlk : look h id = some (.pu te (l.flatMap eU), false) := by rfl) (hm : m = l.length := by first | rfl | omega | simp) (hy : EvR env y (vS bs) := by first | exact .tmp rfl | exact .cs rfl)
    (hb : m + bs.length ≤ 140737488355328 := by first | omega | (simp only [List.length_append, List.length_cons, List.length_nil, List.length_take, List.length_drop] at * <;> omega)) (hk1 : Nat.blt id 500 = true := by rfl)
    {h2' h3' : Hp} (hsc : scrubH id h = h2' := by exact rfl) (hh : PutR h2' id (.pu te ((l ++ bs).flatMap eU), false) h3' := by repeat (first | exact .hit | exact .nil | (apply PutR.miss; rfl))) (henv : scrubEnv id env = env' := by exact Eq.refl _)
    (hfl : FlR D env (.call ⟨.builtin .append, ⟨[x, y]⟩, ⟨[tx, ts]⟩⟩) (.one (.own id 1 (m + bs.length))) (.e h3' (some id)) D' := by first | exact .seq | exact .drawn rfl)
    (hK : Rn X N R k ops D' rest ⟨(d, .one (.own id 1 (m + bs.length))) :: env', h3', n⟩) : Rn X N R k ops D (⟨some d, .call ⟨.builtin .append, ⟨[x, y]⟩, ⟨[tx, ts]⟩⟩, ty, ps, af, none⟩ :: rest) ⟨env, h, n⟩ :=
  Rn.step (ef := .e h3' (some id)) (n' := n) trivial (fun K hK => by
    subst hm
    simp only [evOp, hx.h, hy.h]
    refine .inr (.inl ?_)
    simp only [evAppStr, hT.h, hT'.h, hE.h]
    refine ⟨trivial, ?_⟩
    rw [hlk]
    have e2 : (l.flatMap eU).length = l.length := by rw [flat_len (S := 1) (fun _ => rfl), Nat.mul_one]
    refine ⟨rfl, by rw [e2]; exact Nat.le_refl _, hb, lt5h hk1, ?_⟩
    have e1 : (l.flatMap eU).take l.length ++ bytesPV bs = (l ++ bs).flatMap eU := by rw [← e2, List.take_length, List.flatMap_append, bytesPV_eq]
    rw [e1, hsc, hh.eq]
    exact hK) hfl (by simp only [AS.fin, putO, putE, henv]; exact hK)
/-- string(bytes). -/
theorem R_cvBS {x : Operand} {td : TypeId} {l : List UInt8} {ids : List Nat} {c : AC} {te : TypeId} {s b s2 b2 s3 b3 : Nat} {zz zz2 zz3 : Option Value} [hT : TInf X tx ⟨.slice te, s, b, zz⟩] [hD : TInf X td ⟨.string, s2, b2, zz2⟩] [hE : TInf X te ⟨.int .u8, s3, b3, zz3⟩]
    (hx : EvR env x (.one c) := by first | exact .tmp rfl | exact .of rfl) (hv : VC h c (slc eU l) ids := by first | exact .own rfl (fun _ => rfl) (by first | rfl | omega | simp) | exact .pv rfl) (hi : (ids.all fun i => (look h i).isSome) = true := by rfl)
    (hfl : FlR D env (.convert tx td x) (vS l) (.n ids [] none) D' := by first | exact .seq | exact .drawn rfl)
    (hK : Rn X N R k ops D' rest ⟨(d, vS l) :: env, h, n⟩) : Rn X N R k ops D (⟨some d, .convert tx td x, ty, ps, af, none⟩ :: rest) ⟨env, h, n⟩ :=
  Rn.step (ef := .n ids [] none) (n' := n) trivial (fun K hK => by
    simp only [evOp, hx.h]
    refine .inr (.inl ?_)
    simp only [evCvB, hT.h, hD.h, hE.h]
    exact hv.h _ ⟨fun id hid => List.all_eq_true.1 hi id hid, l, rfl, (bytesPV_eq l).symm, hK⟩) hfl (by simp only [AS.fin, putO, putE, upd, frzs]; exact hK)
/-- []byte(string), to be written into. -/
theorem R_cvSBo {x : Operand} {td : TypeId} {l : List UInt8} {te : TypeId} {s b s2 b2 b3 : Nat} {zz zz2 zz3 : Option Value} {h' : Hp} (id : Nat) [hT : TInf X tx ⟨.string, s2, b2, zz2⟩] [hD : TInf X td ⟨.slice te, s, b, zz⟩] [hE : TInf X te ⟨.int .u8, 1, b3, zz3⟩]
    (hx : EvR env x (vS l) := by first | exact .tmp rfl | exact .cs rfl) (hn : look h id = none := by rfl) (h5 : (Nat.ble 500 id && Nat.blt id 1000) = true := by rfl) (hh : PutR h id (.pu te (l.flatMap eU), false) h' := by repeat (first | exact .hit | exact .nil | (apply PutR.miss; rfl)))
    (hfl : FlR D env (.convert tx td x) (.one (.own id 1 l.length)) (.n [] [] (some (id, .pu te (l.flatMap eU)))) D' := by first | exact .seq | exact .drawn rfl)
    (hK : Rn X N R k ops D' rest ⟨(d, .one (.own id 1 l.length)) :: env, h', n + 1⟩) : Rn X N R k ops D (⟨some d, .convert tx td x, ty, ps, af, none⟩ :: rest) ⟨env, h, n⟩ :=
  have h6 : 500 ≤ id ∧ id < 1000 := by simpa using h5
  Rn.step (ef := .n [] [] (some (id, .pu te (l.flatMap eU)))) (n' := n + 1) ⟨hn, h6.2⟩ (fun K hK => by
    simp only [evOp, hx.h]
    refine .inr (.inr ?_)
    simp only [evCvO, hT.h, hD.h, hE.h]
    exact ⟨id, h6, by rw [bytesPV_eq]; exact hK⟩) hfl (by simp only [AS.fin, putO, putE, upd, frzs, hh.eq]; exact hK)
/-- []byte(string). -/
theorem R_cvSB {x : Operand} {td : TypeId} {l : List UInt8} {te : TypeId} {s b s2 b2 s3 b3 : Nat} {zz zz2 zz3 : Option Value} [hT : TInf X tx ⟨.string, s2, b2, zz2⟩] [hD : TInf X td ⟨.slice te, s, b, zz⟩] [hE : TInf X te ⟨.int .u8, s3, b3, zz3⟩]
    (hx : EvR env x (vS l) := by first | exact .tmp rfl | exact .cs rfl)
    (hfl : FlR D env (.convert tx td x) (vP (slc eU l)) (.n [] [] none) D' := by first | exact .seq | exact .drawn rfl)
    (hK : Rn X N R k ops D' rest ⟨(d, vP (slc eU l)) :: env, h, n⟩) : Rn X N R k ops D (⟨some d, .convert tx td x, ty, ps, af, none⟩ :: rest) ⟨env, h, n⟩ :=
  Rn.step (ef := .n [] [] none) (n' := n) trivial (fun K hK => by
    simp only [evOp, hx.h]
    refine .inr (.inl ?_)
    simp only [evCvB, hT.h, hD.h, hE.h]
    rw [bytesPV_eq]
    exact hK) hfl (by simp only [AS.fin, putO, putE, upd, frzs]; exact hK)
end
end Go.VL

