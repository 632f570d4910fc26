/- Contracts over whole values, and what they lean on: part l. Each holds under the conditions that it states. -/
import Derived.Test.YtekfjbjdlenhoaaGreatDoorYk
set_option linter.unusedVariables false
set_option linter.unusedSimpArgs false

namespace Go.VS.YtekfjbjdlenhoaaGreatDoor
open Go Go.VL Go.VN Go.RowKit Go.Proofs
set_option maxRecDepth 100000
set_option linter.unusedVariables false
set_option linter.unusedSimpArgs false

instance decSd : DecidableEq Snd := instDecidableEqProd
instance decSg : DecidableEq Sgn := @instDecidableEqProd _ _ inferInstance (@instDecidableEqProd _ _ (@instDecidableEqList _ decSd) inferInstance)
instance decOr : DecidableEq Ort := @instDecidableEqProd _ _ inferInstance (@instDecidableEqList _ decSg)
theorem g_Same (a b : Ort) : Spc X 25 [orA a, orA b] (.one (.bool (decide (a = b)))) := by
  obtain ⟨na, la⟩ := a
  obtain ⟨nb, lb⟩ := b
  refine Spc.start Tryz.func25 rfl (h := fun hs R hR => ?_)
  unfold Tryz.f25
  simp only [entryE, PA.av, eO, List.map_cons, List.map_nil]
  have hla : la.length ≤ 9223372036854775807 := (sane_slc (hs.1 (slc eSg la) (by simp [eO]))).1
  refine walk (hQ := ?_)
  refine R_g_if (h1 := fun h1 => ?_) (h2 := fun h1 => ?_) <;> simp only [Bool.false_eq_true, if_false, if_true, Decidable.not_not] at h1
  · refine walk (hQ := ?_)
    refine W_if (ht := fun h2 => ?_) (hf := fun h2 => ?_)
    · rw [decide_eq_false (fun e => h2 (by rw [(Prod.mk.inj e).2]))] at hR
      refine walk (hQ := ?_)
      exact hR _ (ret1 (hp := rfl))
    have hll : la.length = lb.length := by omega
    refine walk (hQ := ?_)
    refine Lp.intro (fun (i : Nat) => ⟨[(2, .one (.ptr 0 0)), (3, .one (.ptr 1 0)), (5, vI i)], [(0, (.mx [.pv (.str na), .pv (slc eSg la)], false)), (1, (.mx [.pv (.str nb), .pv (slc eSg lb)], false))], 2⟩) (fun i => i ≤ la.length ∧ la.take i = lb.take i) (fun i => la.length - i) 0 ⟨Nat.zero_le _, by simp⟩ (h0 := le_auto) (hr := fun i K ⟨hi, ho⟩ hK => ?_)
    refine walk (hQ := ?_)
    refine W_if (ht := fun h3 => ?_) (hf := fun h3 => ?_)
    · have hia : i < la.length := by omega
      have hib : i < lb.length := by omega
      have ea : la[i] = la.getD i default := by rw [List.getD_eq_getElem?_getD, List.getElem?_eq_getElem hia]; rfl
      have eb : lb[i] = lb.getD i default := by rw [List.getD_eq_getElem?_getD, List.getElem?_eq_getElem hib]; rfl
      have hne : la.getD i default ≠ lb.getD i default → decide ((na, la) = (nb, lb)) = false := fun h => decide_eq_false fun e => h (by rw [(Prod.mk.inj e).2])
      have hnx : la.getD i default = lb.getD i default → la.take (i + 1) = lb.take (i + 1) := fun h => eq_take hia hib ho (by rw [ea, eb]; exact h)
      refine walk (hQ := ?_)
      generalize la.getD i default = x at *
      generalize lb.getD i default = y at *
      obtain ⟨x1, x2, x3, x4⟩ := x
      obtain ⟨y1, y2, y3, y4⟩ := y
      have k1 := g_SSame x2 y2
      simp only [eSg, List.map_cons, List.map_nil] at *
      refine walk (hQ := ?_)
      refine R_g_if (h1 := fun h4 => ?_) (h2 := fun h4 => ?_) <;> simp only [Bool.false_eq_true, if_false, if_true, Decidable.not_not] at h4
      · refine walk (hQ := ?_)
        refine R_g_if (h1 := fun h5 => ?_) (h2 := fun h5 => ?_) <;> simp only [Bool.false_eq_true, if_false, if_true, Decidable.not_not] at h5
        · refine walk (hQ := ?_)
          refine R_g_if (h1 := fun h6 => ?_) (h2 := fun h6 => ?_) <;> simp only [Bool.false_eq_true, if_false, if_true, Decidable.not_not] at h6
          · refine walk (hQ := ?_)
            refine R_call k1 (hK := ?_)
            refine walk (hQ := ?_)
            refine W_if (ht := fun h7 => ?_) (hf := fun h7 => ?_)
            · rw [hne (fun e => h7 (Prod.mk.inj (Prod.mk.inj e).2).1)] at hR
              refine walk (hQ := ?_)
              exact hR _ (ret1 (hp := rfl))
            · refine walk (hQ := ?_)
              exact hK _ (i + 1) ⟨by omega, hnx (by rw [h4, h5, h6, Decidable.not_not.1 h7])⟩ (by omega) le_auto
          · rw [hne (fun e => h6 (Prod.mk.inj (Prod.mk.inj (Prod.mk.inj e).2).2).2)] at hR
            refine walk (hQ := ?_)
            exact hR _ (ret1 (hp := rfl))
        · rw [hne (fun e => h5 (Prod.mk.inj (Prod.mk.inj (Prod.mk.inj e).2).2).1)] at hR
          refine walk (hQ := ?_)
          exact hR _ (ret1 (hp := rfl))
      · rw [hne (fun e => h4 (Prod.mk.inj e).1)] at hR
        refine walk (hQ := ?_)
        exact hR _ (ret1 (hp := rfl))
    · obtain rfl : i = la.length := by omega
      rw [List.take_length, hll, List.take_length] at ho
      rw [decide_eq_true (show (na, la) = (nb, lb) by rw [h1, ho])] at hR
      refine walk (hQ := ?_)
      exact hR _ (ret1 (hp := rfl))
  · rw [decide_eq_false (fun e => h1 (Prod.mk.inj e).1)] at hR
    refine walk (hQ := ?_)
    exact hR _ (ret1 (hp := rfl))
end Go.VS.YtekfjbjdlenhoaaGreatDoor


namespace Go.VS.YtekfjbjdlenhoaaGreatDoor
open Go Go.VL Go.VN Go.RowKit Go.Proofs
set_option maxRecDepth 100000
set_option linter.unusedVariables false
set_option linter.unusedSimpArgs false

theorem law_Format (o : Ort) (ht : ∀ s ∈ o.2, s.1.length ≤ 140737488355328) : Spc X1 9 [orA o] (.one (.bool true)) := by
  have k1 := up (g_Few o ht)
  have k2 := f_OFormat o
  have k3 := up (g_OFormat o)
  have k4 := up (f_OParse (fmtO o).1)
  have k5 := up (g_Same o o)
  rw [decide_eq_true rfl] at k5
  have hback : (fmtO o).2 = 0 → prsO (fmtO o).1 = (o, 0, 0) := fun h => by
    unfold fmtO at h ⊢
    by_cases hc : (chkO o).2 ≠ 0
    · rw [if_pos hc] at h; exact absurd h hc
    · rw [if_neg hc]; exact fmt_back (Decidable.not_not.1 hc)
  refine Spc.start Tryz.func9 rfl (h := fun hs R hR => ?_)
  unfold Tryz.f9
  simp only [entryE]
  generalize fewO o = w at *
  generalize fmtO o = F at *
  obtain ⟨fs, fe⟩ := F
  simp only at hback k2 k3 k4
  obtain ⟨nme, l⟩ := o
  simp only [PA.av, eO, List.map_cons, List.map_nil] at *
  refine walk (hQ := ?_)
  refine R_call (up l_awake) (hK := ?_)
  refine walk (hQ := ?_)
  refine R_call k1 (hK := ?_)
  refine walk (hQ := ?_)
  cases w with
  | false =>
    refine walk (hQ := ?_)
    refine R_call (up l_awake) (hK := ?_)
    refine walk (hQ := ?_)
    exact hR _ (ret1 (hp := rfl))
  | true =>
  refine walk (hQ := ?_)
  refine R_call k2 (hK := ?_)
  refine walk (hQ := ?_)
  refine R_call k3 (hK := ?_)
  refine walk (hQ := ?_)
  rw [show decide (¬ fs = fs) = false by simp]
  refine walk (hQ := ?_)
  rw [show decide (¬ fe = fe) = false by simp]
  refine walk (hQ := ?_)
  refine W_if (ht := fun h1 => ?_) (hf := fun h1 => ?_)
  · refine walk (hQ := ?_)
    rw [decide_eq_true (show fs = fs from rfl)]
    refine walk (hQ := ?_)
    rw [decide_eq_true (show fe = fe from rfl)]
    refine walk (hQ := ?_)
    exact hR _ (ret1 (hp := rfl))
  · have hb := hback (Decidable.not_not.1 h1)
    rw [hb] at k4
    refine walk (hQ := ?_)
    refine R_call k4 (hK := ?_)
    refine walk (hQ := ?_)
    refine R_call k5 (hK := ?_)
    refine walk (hQ := ?_)
    exact hR _ (ret1 (hp := rfl))
end Go.VS.YtekfjbjdlenhoaaGreatDoor


namespace Go.VL
open Go.RowKit
set_option linter.unusedVariables false
section
variable {X : Ctx} {N : Nat} {R : AS → Prop} {k : List KI} {σ : AS} {ops : Array Oper} {D D' : Option (List Fl)} {rest : List Oper} {env env' : List (Nat × AV)} {h h' : Hp} {n n' : Nat} {dst : Option Tmp} {t d : Tmp} {op : Op} {ty tx t' : TypeId} {ps : String} {af : Array Edge}
theorem R_callNY {fo : Operand} {al : List Operand} {tl : List TypeId} {g : FuncId} {xs : List AV} {pas : List PA} {ids : List Nat} {α : Type} {e : α → List PV} {l : List α} {te : TypeId} {i0 : Nat} {h1' : Hp} {y v : AV} (hs : SpcS X g xs [] y [(i0, (.pu te (l.flatMap e), false))]) (hf : EvR env fo (.one (.pv (.clo g []))) := by first | exact .fn | exact ⟨rfl⟩)
    (hv : VOs h env al pas ids := by repeat (first | exact .nil | (apply VOs.cons; first | exact .tmp rfl | exact .ci rfl | exact .cb | exact .cs rfl | exact .of rfl | exact .fn | (apply EvR.cagg; repeat (first | exact OfL.nil | apply OfL.int | apply OfL.bool | apply OfL.str | apply OfL.nilS | (apply OfL.other; rfl; rfl)))) | exact VA.one (.pv rfl) | exact VA.one .nil | exact VA.one (.own rfl (fun _ => rfl) (by first | rfl | omega | (simp only [List.length_set, List.length_append, List.length_cons, List.length_nil, List.length_take, List.length_drop, List.length_replicate, List.length_map, List.length_reverse] <;> omega) | simp)) | exact VA.one (.ownTake rfl (fun _ => rfl) (by first | omega | simp)) | apply VA.agg | exact VL.nil | exact VL.pvs rfl | apply VL.cons | exact VC.pv rfl | exact VC.nil | exact VC.own rfl (fun _ => rfl) (by first | rfl | omega | (simp only [List.length_set, List.length_append, List.length_cons, List.length_nil, List.length_take, List.length_drop, List.length_replicate, List.length_map, List.length_reverse] <;> omega) | simp))) (hx : pas.map PA.av = xs := by exact rfl) (hn : look h n = none := by rfl) (hk1 : Nat.blt n 1000 = true := by rfl) (hi5 : (Nat.blt i0 500 || Nat.ble 1000 i0) = true := by rfl) (hz : (ids.all fun i => (look h i).isSome) = true := by rfl) (hh : FrzR h ids h1' := by repeat (first | exact FrzR.nil | (apply FrzR.cons; rfl; (repeat (first | exact .hit | exact .nil | (apply PutR.miss; rfl)))))) (hp : PutR h1' n (.pu te (l.flatMap e), false) h' := by repeat (first | exact .hit | exact .nil | (apply PutR.miss; rfl)))
    (hy : y.ren (fun _ => n) = v := by exact rfl) (hfl : FlR D env (.call ⟨.value fo, ⟨al⟩, ⟨tl⟩⟩) v (.n ids ids (some (n, .pu te (l.flatMap e)))) D' := by first | exact .seq | exact .drawn rfl) (hK : Rn X N R k ops D' rest ⟨(d, v) :: env, h', n + 1⟩) : Rn X N R k ops D (⟨some d, .call ⟨.value fo, ⟨al⟩, ⟨tl⟩⟩, ty, ps, af, none⟩ :: rest) ⟨env, h, n⟩ :=
  Rn.step (ef := .n ids ids (some (n, .pu te (l.flatMap e)))) (v := v) (n' := n + 1) ⟨hn, lt1k hk1⟩ (fun K hK => by
    simp only [evOp, hf.h]
    exact .inr (.inr ⟨_, ids, n, .pu te (l.flatMap e), ⟨g, xs, _, _, fun _ => n, rfl, hs, fun h2 ha hn2 => ⟨fits_new hn2 (lt1k hk1) (lowb hi5) (fun id hid => agree_isSome ha hid (all_some hz id hid)), by rw [← hx]; exact (hv.agree ha).args fun id hid => hid⟩, hy.symm⟩, hK⟩)) hfl (by simp only [AS.fin, upd, putO, putE, hp.eq, hh.eq]; exact hK)
theorem retS3 {rs : List ResultVar} {r1 r2 r3 : ResultVar} {v1 v2 v3 y : AV} {h1 : Hp} (hrs : rs = [r1, r2, r3] := by exact rfl) (hr1 : RvR X ⟨env, h, n⟩ r1 v1 := by first | exact .tmp (by first | exact .tmp rfl | exact .of rfl) | exact .cell ⟨rfl⟩ rfl inferInstance rfl rfl | (apply RvR.cellA; exact ⟨rfl⟩; rfl; infer_instance; rfl; repeat (first | exact CutR.done | apply CutR.take | apply CutR.skip))) (hr2 : RvR X ⟨env, h, n⟩ r2 v2 := by first | exact .tmp (by first | exact .tmp rfl | exact .of rfl) | exact .cell ⟨rfl⟩ rfl inferInstance rfl rfl | (apply RvR.cellA; exact ⟨rfl⟩; rfl; infer_instance; rfl; repeat (first | exact CutR.done | apply CutR.take | apply CutR.skip))) (hr3 : RvR X ⟨env, h, n⟩ r3 v3 := by first | exact .tmp (by first | exact .tmp rfl | exact .of rfl) | exact .cell ⟨rfl⟩ rfl inferInstance rfl rfl | (apply RvR.cellA; exact ⟨rfl⟩; rfl; infer_instance; rfl; repeat (first | exact CutR.done | apply CutR.take | apply CutR.skip)))
    (hy : tupV [v1, v2, v3] = some y) (hle : leH h h1) (hw : wfH h1 h1 = true := by rfl) (hrf : refsIn h1 y.refs = true := by rfl) : retS X rs y h1 ⟨env, h, n⟩ := by
  subst hrs
  refine ⟨hle, hw, hrf, ?_⟩
  simp only [resAVs]
  exact hr1.res _ (hr2.res _ (hr3.res _ ⟨[v1, v2, v3], .cons .same (.cons .same (.cons .same .nil)), hy⟩))
theorem retS1A {rs : List ResultVar} {r1 : ResultVar} {v1 y : AV} {h1 : Hp} (hrs : rs = [r1] := by exact rfl) (hr1 : RvR X ⟨env, h, n⟩ r1 v1 := by first | exact .tmp (by first | exact .tmp rfl | exact .of rfl) | exact .cell ⟨rfl⟩ rfl inferInstance rfl rfl | (apply RvR.cellA; exact ⟨rfl⟩; rfl; infer_instance; rfl; repeat (first | exact CutR.done | apply CutR.take | apply CutR.skip))) (hy : v1 = y) (hle : leH h h1) (hw : wfH h1 h1 = true := by rfl) (hrf : refsIn h1 y.refs = true := by rfl) : retS X rs y h1 ⟨env, h, n⟩ := by
  subst hrs; subst hy
  refine ⟨hle, hw, hrf, ?_⟩
  simp only [resAVs]
  exact hr1.res _ ⟨[v1], .cons .same .nil, rfl⟩
theorem R_fromO {x y : Operand} {id S q m : Nat} {ta te : TypeId} {T : TI} {s b : Nat} {zz : Option Value} {ky : IntKind} {z : Int} [hT : TInf X ta ⟨.slice te, s, b, zz⟩] [hE : TInf X te T] (hx : EvR env x (.one (.own id S q)) := by exact ⟨rfl⟩) (hy : EvR env y (.one (.pv (.int ky z))) := by exact ⟨rfl⟩)
    (hS : T.size = S := by rfl) (h0 : 0 ≤ z ∧ z ≤ q := by first | (constructor <;> omega) | (constructor <;> (first | omega | (simp only [List.length_set, List.length_append, List.length_cons, List.length_nil, List.length_take, List.length_drop, List.length_replicate, List.length_map, List.length_reverse] at * <;> omega)))) (hm : z.toNat = m := by first | (with_reducible exact Int.toNat_natCast _) | (with_reducible exact toNat_add _ _) | (with_reducible exact toNat_add1 _) | exact Eq.refl _) (hfl : FlR D env (.slice ta x (some y) none none) (.one (.sub id S (m * S) (q - m))) (.n [] [] none) D' := by first | exact .seq | exact .drawn rfl)
    (hK : Rn X N R k ops D' rest ⟨(d, .one (.sub id S (m * S) (q - m))) :: env, h, n⟩) : Rn X N R k ops D (⟨some d, .slice ta x (some y) none none, ty, ps, af, none⟩ :: rest) ⟨env, h, n⟩ :=
  Rn.val rfl (fun K hK => by
    subst hm
    simp only [evVal, evSlice, Option.map_none, Option.map_some, hx.h, hy.h, bnds, hT.h, hE.h, evSlOwn]
    exact ⟨hS, h0.1, h0.2, hK⟩) hfl hK

theorem R_remk {x y : Operand} {kx : IntKind} {a b : Int} (hx : EvR env x (.one (.pv (.int kx a))) := by first | exact .tmp rfl | exact .ci rfl) (hy : EvR env y (.one (.pv (.int kx b))) := by first | exact .tmp rfl | exact .ci rfl) (ha : 0 ≤ a := by omega) (hb : 0 < b := by omega)
    (hfl : FlR D env (.binOp .rem tx x y t') (.one (.pv (.int kx (a % b)))) (.n [] [] none) D' := by first | exact .seq | exact .drawn rfl) (hK : Rn X N R k ops D' rest ⟨(d, .one (.pv (.int kx (a % b)))) :: env, h, n⟩) :
    Rn X N R k ops D (⟨some d, .binOp .rem tx x y t', ty, ps, af, none⟩ :: rest) ⟨env, h, n⟩ := R_bin hx hy (fun K hK => ⟨rfl, by omega, by rw [Int.tmod_eq_emod_of_nonneg ha]; exact hK⟩) hfl hK
theorem R_quo8 {x y : Operand} {a b : Int} (hx : EvR env x (.one (.pv (.int .u8 a))) := by first | exact .tmp rfl | exact .ci rfl) (hy : EvR env y (.one (.pv (.int .u8 b))) := by first | exact .tmp rfl | exact .ci rfl) (ha : 0 ≤ a ∧ a ≤ 255 := by omega) (hb : 0 < b := by omega)
    (hfl : FlR D env (.binOp .quo tx x y t') (.one (.pv (.int .u8 (a / b)))) (.n [] [] none) D' := by first | exact .seq | exact .drawn rfl) (hK : Rn X N R k ops D' rest ⟨(d, .one (.pv (.int .u8 (a / b)))) :: env, h, n⟩) :
    Rn X N R k ops D (⟨some d, .binOp .quo tx x y t', ty, ps, af, none⟩ :: rest) ⟨env, h, n⟩ := R_bin hx hy (fun K hK => ⟨rfl, by omega, by
      have h1 := Int.ediv_nonneg ha.1 (Int.le_of_lt hb)
      have h2 := Int.ediv_le_self b ha.1
      rw [Int.tdiv_eq_ediv_of_nonneg ha.1, wrap_u8 (by omega) (by omega)]; exact hK⟩) hfl hK
/-- An append of an own row's beginning. -/
theorem R_appO {x y : Operand} {α : Type} {e : α → List PV} {l l2 : List α} {id id2 S m q B s b : Nat} {te te2 : TypeId} {u : TypeDesc} {zz : Option Value} {z : Value} {z2 : Bool} [hT : TInf X tx ⟨.slice te, s, b, zz⟩] [hE : TInf X te ⟨u, S, B, some z⟩] (hx : EvR env x (.one (.own id S m)) := by exact ⟨rfl⟩) (hlk : look h id = some (.pu te (l.flatMap e), false) := by rfl)
    (hm : m = l.length := by first | rfl | omega | simp) (hS : ∀ x, (e x).length = S := by exact fun _ => rfl) (hy : EvR env y (.one (.own id2 S q)) := by exact ⟨rfl⟩) (hlk2 : look h id2 = some (.pu te2 (l2.flatMap e), z2) := by rfl) (hq : q ≤ l2.length := by first | omega | (simp only [List.length_set, List.length_append, List.length_cons, List.length_nil, List.length_take, List.length_drop, List.length_replicate, List.length_map, List.length_reverse] at * <;> omega)) (h0 : Nat.ble 1 S = true := by rfl) (h1 : Nat.ble 1 B = true := by rfl) (hz : z.cells.size = S := by rfl) (hb : (m + q) * B ≤ 140737488355328 := by first | omega | (simp only [List.length_set, List.length_append, List.length_cons, List.length_nil, List.length_take, List.length_drop, List.length_replicate, List.length_map, List.length_reverse] at * <;> omega)) (hk1 : Nat.blt id 500 = true := by rfl)
    {h2' h3' : Hp} (hsc : scrubH id h = h2' := by exact rfl) (hh : PutR h2' id (.pu te ((l ++ l2.take q).flatMap e), false) h3' := by repeat (first | exact .hit | exact .nil | (apply PutR.miss; rfl))) (henv : scrubEnv id env = env' := by exact Eq.refl _)
    (hfl : FlR D env (.call ⟨.builtin .append, ⟨[x, y]⟩, ⟨[tx, tx]⟩⟩) (.one (.own id S (m + q))) (.e h3' (some id)) D' := by first | exact .seq | exact .drawn rfl)
    (hK : Rn X N R k ops D' rest ⟨(d, .one (.own id S (m + q))) :: env', h3', n⟩) : Rn X N R k ops D (⟨some d, .call ⟨.builtin .append, ⟨[x, y]⟩, ⟨[tx, tx]⟩⟩, ty, ps, af, none⟩ :: rest) ⟨env, h, n⟩ :=
  Rn.step (ef := .e h3' (some id)) (n' := n) trivial (fun K hK => by
    subst hm
    simp only [evOp, hx.h, hy.h]
    refine .inr (.inr ⟨trivial, ?_⟩)
    simp only [evAppOO, hT.h, hE.h, ownPart]
    refine ⟨Nat.le_of_ble_eq_true h0, Nat.le_of_ble_eq_true h1, hz, trivial, trivial, ?_⟩
    rw [hlk, hlk2]
    refine ⟨rfl, by rw [flat_len hS]; exact Nat.le_refl _, hb, lt5h hk1, ?_, ?_⟩
    · rw [flat_len hS]; rw [Nat.zero_add]; exact Nat.mul_le_mul_right S hq
    have e1 : (l.flatMap e).take (l.length * S) ++ ((l2.flatMap e).drop (0)).take (q * S) = (l ++ l2.take q).flatMap e := by rw [← flat_len hS l, List.take_length, List.flatMap_append, List.drop_zero, flat_take hS]
    rw [e1, hsc, hh.eq]
    exact hK) hfl (by simp only [AS.fin, putO, putE, henv]; exact hK)
/-- An append of a part of an own row. -/
theorem R_appU {x y : Operand} {α : Type} {e : α → List PV} {l l2 : List α} {id id2 S m p q B s b : Nat} {te te2 : TypeId} {u : TypeDesc} {zz : Option Value} {z : Value} {z2 : Bool} [hT : TInf X tx ⟨.slice te, s, b, zz⟩] [hE : TInf X te ⟨u, S, B, some z⟩] (hx : EvR env x (.one (.own id S m)) := by exact ⟨rfl⟩) (hlk : look h id = some (.pu te (l.flatMap e), false) := by rfl)
    (hm : m = l.length := by first | rfl | omega | simp) (hS : ∀ x, (e x).length = S := by exact fun _ => rfl) (hy : EvR env y (.one (.sub id2 S (p * S) q)) := by exact ⟨rfl⟩) (hlk2 : look h id2 = some (.pu te2 (l2.flatMap e), z2) := by rfl) (hq : p + q ≤ l2.length := by first | omega | (simp only [List.length_set, List.length_append, List.length_cons, List.length_nil, List.length_take, List.length_drop, List.length_replicate, List.length_map, List.length_reverse] at * <;> omega)) (h0 : Nat.ble 1 S = true := by rfl) (h1 : Nat.ble 1 B = true := by rfl) (hz : z.cells.size = S := by rfl) (hb : (m + q) * B ≤ 140737488355328 := by first | omega | (simp only [List.length_set, List.length_append, List.length_cons, List.length_nil, List.length_take, List.length_drop, List.length_replicate, List.length_map, List.length_reverse] at * <;> omega)) (hk1 : Nat.blt id 500 = true := by rfl)
    {h2' h3' : Hp} (hsc : scrubH id h = h2' := by exact rfl) (hh : PutR h2' id (.pu te ((l ++ (l2.drop p).take q).flatMap e), false) h3' := by repeat (first | exact .hit | exact .nil | (apply PutR.miss; rfl))) (henv : scrubEnv id env = env' := by exact Eq.refl _)
    (hfl : FlR D env (.call ⟨.builtin .append, ⟨[x, y]⟩, ⟨[tx, tx]⟩⟩) (.one (.own id S (m + q))) (.e h3' (some id)) D' := by first | exact .seq | exact .drawn rfl)
    (hK : Rn X N R k ops D' rest ⟨(d, .one (.own id S (m + q))) :: env', h3', n⟩) : Rn X N R k ops D (⟨some d, .call ⟨.builtin .append, ⟨[x, y]⟩, ⟨[tx, tx]⟩⟩, ty, ps, af, none⟩ :: rest) ⟨env, h, n⟩ :=
  Rn.step (ef := .e h3' (some id)) (n' := n) trivial (fun K hK => by
    subst hm
    simp only [evOp, hx.h, hy.h]
    refine .inr (.inr ⟨trivial, ?_⟩)
    simp only [evAppOO, hT.h, hE.h, ownPart]
    refine ⟨Nat.le_of_ble_eq_true h0, Nat.le_of_ble_eq_true h1, hz, trivial, trivial, ?_⟩
    rw [hlk, hlk2]
    refine ⟨rfl, by rw [flat_len hS]; exact Nat.le_refl _, hb, lt5h hk1, ?_, ?_⟩
    · rw [flat_len hS]; rw [← Nat.add_mul]; exact Nat.mul_le_mul_right S hq
    have e1 : (l.flatMap e).take (l.length * S) ++ ((l2.flatMap e).drop (p * S)).take (q * S) = (l ++ (l2.drop p).take q).flatMap e := by rw [← flat_len hS l, List.take_length, List.flatMap_append, flat_drop hS, flat_take hS]
    rw [e1, hsc, hh.eq]
    exact hK) hfl (by simp only [AS.fin, putO, putE, henv]; exact hK)
/-- A struct loaded out of an own row. -/
theorem R_ldOA {x : Operand} {α : Type} {e : α → List PV} {l : List α} {id S m : Nat} {te : TypeId} {zb : Bool} {a : α} {cs : List AC} {T : TI} [hT : TInf X tx T] (hl : l[m]? = some a) (hx : EvR env x (.one (.ptr id (m * S))) := by exact ⟨rfl⟩) (hlk : look h id = some (.pu te (l.flatMap e), zb) := by rfl) (hS : ∀ x, (e x).length = S := by exact fun _ => rfl) (hT1 : T.size = S := by rfl) (hag : isAggU T.u = true := by rfl)
    (hm : (e a).map AC.pv = cs := by exact rfl) (hfl : FlR D env (.load tx x) (.agg cs) (.n [id] [] none) D' := by first | exact .seq | exact .drawn rfl)
    (hK : Rn X N R k ops D' rest ⟨(d, .agg cs) :: env, h, n⟩) : Rn X N R k ops D (⟨some d, .load tx x, ty, ps, af, none⟩ :: rest) ⟨env, h, n⟩ :=
  Rn.step (ef := .n [id] [] none) trivial (fun K hK => by
    subst hm
    obtain ⟨e1, e2⟩ := flat_part hS hl
    simp only [evOp, hx.h, evLoadBx, hT.h, hlk, hag, if_true, hT1, e1]
    exact ⟨e2, hK⟩) hfl hK
end
/-! ### Boxes that change their names -/
def sw2 (a b i : Nat) : Nat := if i = a then b else if i = b then a else i
theorem sw2_sw2 (a b i : Nat) : sw2 a b (sw2 a b i) = i := by
  unfold sw2
  by_cases h1 : i = a
  · rw [if_pos h1]
    by_cases h2 : b = a
    · rw [if_pos h2]; omega
    · rw [if_neg h2, if_pos rfl]; exact h1.symm
  · rw [if_neg h1]
    by_cases h2 : i = b
    · rw [if_pos h2, if_pos rfl]; exact h2.symm
    · rw [if_neg h2, if_neg h1, if_neg h2]
def renE (f : Nat → Nat) (env : List (Nat × AV)) : List (Nat × AV) := env.map fun x => (x.1, x.2.ren f)
def renH (f : Nat → Nat) (h : Hp) : Hp := h.map fun x => (f x.1, (x.2.1.ren f, x.2.2))
theorem look_renE (f : Nat → Nat) : ∀ (env : List (Nat × AV)) (t : Nat), look (renE f env) t = (look env t).map (AV.ren f)
  | [], t => rfl
  | (k, x) :: l, t => by
    have ih := look_renE f l t
    unfold renE at ih ⊢
    simp only [List.map_cons, look]
    split
    · rfl
    · exact ih
theorem look_renH {f : Nat → Nat} (hf : ∀ i, f (f i) = i) : ∀ (h : Hp) (i : Nat), look (renH f h) i = (look h (f i)).map fun e => (e.1.ren f, e.2)
  | [], i => rfl
  | (k, x) :: l, i => by
    have ih := look_renH hf l i
    unfold renH at ih ⊢
    simp only [List.map_cons, look]
    by_cases h1 : f k = i
    · have h2 : k = f i := by rw [← h1, hf]
      rw [if_pos h1.symm, if_pos h2.symm]; rfl
    · have h2 : ¬ k = f i := fun e => h1 (by rw [e, hf])
      rw [if_neg (fun e => h1 e.symm), if_neg (fun e => h2 e.symm)]; exact ih
theorem le_ren {X : Ctx} {N : Nat} {env : List (Nat × AV)} {h : Hp} {n n' : Nat} {υ : AS} (a b : Nat) (ha : Nat.blt a 500 = true) (hb : Nat.blt b 500 = true) (hle : (AS.mk (renE (sw2 a b) env) (renH (sw2 a b) h) n').Le X N υ) : (AS.mk env h n).Le X N υ := by
  refine AS.Le.trans ?_ hle
  have ha' : a < 500 := lt5h ha
  have hb' : b < 500 := lt5h hb
  have hf : ∀ i, sw2 a b (sw2 a b i) = i := sw2_sw2 a b
  have hbig : ∀ i, 500 ≤ i → sw2 a b i = i := fun i hi => by unfold sw2; rw [if_neg (by omega), if_neg (by omega)]
  have hlow : ∀ i, sw2 a b i ≠ i → i < 500 ∧ sw2 a b i < 500 := fun i hi => by
    unfold sw2 at hi ⊢
    by_cases h1 : i = a
    · rw [if_pos h1]; omega
    · rw [if_neg h1] at hi ⊢
      by_cases h2 : i = b
      · rw [if_pos h2]; omega
      · rw [if_neg h2] at hi; exact absurd rfl hi
  generalize sw2 a b = f at *
  intro F act w ⟨β, r⟩
  have hl : ∀ i e, look (renH f h) i = some e → ∃ bx, look h (f i) = some (bx, e.2) ∧ e.1 = bx.ren f := fun i e hh => by
    rw [look_renH hf] at hh
    cases hq : look h (f i) with
    | none => rw [hq] at hh; cases hh
    | some q => rw [hq] at hh; simp only [Option.map_some, Option.some.injEq] at hh; subst hh; exact ⟨q.1, rfl, rfl⟩
  have hl2 : ∀ i bx z, look h i = some (bx, z) → look (renH f h) (f i) = some (bx.ren f, z) := fun i bx z hh => by rw [look_renH hf, hf, hh]; rfl
  have hok : F.ok w (renH f h) (fun i => β (f i)) = F.ok w h β := by
    funext g
    apply propext
    constructor
    · intro hg
      refine ⟨hg.1, hg.2.1, fun id bx hh => ?_⟩
      have := hg.2.2 (f id) (bx.ren f) (hl2 id bx false hh)
      simp only [hf] at this
      exact this
    · intro hg
      refine ⟨hg.1, hg.2.1, fun id bx hh => ?_⟩
      obtain ⟨bx0, h1, _⟩ := hl id _ hh
      exact hg.2.2 (f id) bx0 h1
  have hren : ∀ i : Nat, (fun i => β (f i)) (f i) = β i := fun i => by simp only [hf]
  have hrow : ∀ {i g : Nat} {arr : Array Value} {e : TypeId}, RowAt w (f i) g arr e → RowAt w i g arr e := fun {i g arr e} hr => by
    by_cases h1 : f i = i
    · rw [h1] at hr; exact hr
    · have := hlow i h1
      exact hr.ren (.inl this.2)
  have hr : HRel X F (renH f h) (fun i => β (f i)) w := {
    below := r.h.below
    g := r.h.g
    box := fun id bx z hh => by
      obtain ⟨bx0, h1, h2⟩ := hl id _ hh
      simp only at h1 h2
      have h3 := r.h.box (f id) bx0 z h1
      rw [hok]
      unfold BoxRep at h3 ⊢
      simp only
      cases hg : β (f id) with
      | none =>
        rw [hg] at h3
        simp only at h3 ⊢
        rw [h2, Bx.ren_cells, h3]; rfl
      | some g =>
        rw [hg] at h3
        simp only at h3 ⊢
        obtain ⟨h4, arr, e, h5, h6, h7⟩ := h3
        refine ⟨h4, arr, e, hrow h5, fun e' l he => ?_, fun j c hj => ?_⟩
        · rw [h2] at he
          cases bx0 with
          | pu e0 l0 => simp only [Bx.ren, Bx.pu.injEq] at he; obtain ⟨rfl, rfl⟩ := he; exact h6 _ _ rfl
          | mx cs => cases he
        · rw [h2, Bx.ren_cells, List.getElem?_map] at hj
          cases hc : bx0.cells[j]? with
          | none => rw [hc] at hj; cases hj
          | some c0 =>
            rw [hc] at hj
            simp only [Option.map_some, Option.some.injEq] at hj
            subst hj
            obtain ⟨u, hu, hru⟩ := h7 j c0 hc
            exact ⟨u, hu, repC_ren (fun i _ => hren i) hru⟩
    inj := fun id id' e e' g hne h1 h2 hg => by
      obtain ⟨b1, h3, _⟩ := hl id _ h1
      obtain ⟨b2, h4, _⟩ := hl id' _ h2
      exact r.h.inj (f id) (f id') _ _ g (fun he => hne (by rw [← hf id, he, hf])) h3 h4 hg
    wf := fun id bx z hh i hi => by
      obtain ⟨bx0, h1, h2⟩ := hl id _ hh
      simp only at h1 h2
      rw [h2, Bx.ren_cells] at hi
      obtain ⟨j, hj, rfl⟩ := acRefs_ren hi
      obtain ⟨e, he⟩ := Option.isSome_iff_exists.1 (r.h.wf _ _ _ h1 j hj)
      rw [hl2 j e.1 e.2 he]; rfl
    pin := fun id hid => by
      have hfi : f id = id := hbig id (by omega)
      have hp := r.h.pin id hid
      refine ⟨by simp only [hfi]; exact hp.1, fun g hg => ⟨(hp.2 g hg).1, (hp.2 g hg).2.1, fun i e hh hne => ?_⟩⟩
      obtain ⟨bx0, h1, _⟩ := hl i _ hh
      exact (hp.2 g hg).2.2 (f i) _ h1 (fun he => hne (by rw [← hf i, he, hfi])) }
  refine ⟨fun i => β (f i), hr, r.defers, r.size, fun t v hh => ?_⟩
  show (∃ u, _ ∧ RepV w (F.ok w (renH f h) (fun i => β (f i))) (fun i => β (f i)) v u) ∧ _
  rw [hok]
  rw [look_renE] at hh
  cases hq : look env t with
  | none => rw [hq] at hh; cases hh
  | some v0 =>
    rw [hq] at hh
    simp only [Option.map_some, Option.some.injEq] at hh
    subst hh
    obtain ⟨⟨u, hu, hru⟩, hw2⟩ := r.env t v0 hq
    refine ⟨⟨u, hu, repV_ren (fun i _ => hren i) hru⟩, fun i hi => ?_⟩
    obtain ⟨j, hj, rfl⟩ := AV.ren_refs hi
    obtain ⟨e, he⟩ := Option.isSome_iff_exists.1 (hw2 j hj)
    show (look (renH f h) (f j)).isSome = true
    rw [hl2 j e.1 e.2 he]; rfl
/-- A loop begun from what is known less. -/
theorem Lp.le {X : Ctx} {N : Nat} {R : AS → Prop} {k : List KI} {b : Code} {σ τ : AS} (h : σ.Le X N τ) (hl : Lp X N R k b τ) : Lp X N R k b σ := ⟨fun F a w r => hl.h F a w (h F a w r)⟩
theorem Lp.ren {X : Ctx} {N : Nat} {R : AS → Prop} {k : List KI} {c : Code} {env : List (Nat × AV)} {h : Hp} {n : Nat} (a b : Nat) (ha : Nat.blt a 500 = true := by rfl) (hb : Nat.blt b 500 = true := by rfl) (hl : Lp X N R k c ⟨renE (sw2 a b) env, renH (sw2 a b) h, n⟩) : Lp X N R k c ⟨env, h, n⟩ := Lp.le (le_ren (n' := n) a b ha hb fun _ _ _ r => r) hl
/-- A box that is only read from then on. -/
theorem le_frz {X : Ctx} {N : Nat} {env : List (Nat × AV)} {h : Hp} {n n' : Nat} {υ : AS} (id : Nat) (hle : (AS.mk env (frz h id) n').Le X N υ) : (AS.mk env h n).Le X N υ := by
  refine AS.Le.trans ?_ hle
  intro F a w ⟨β, r⟩
  have hok : ∀ b, F.ok w h β b → F.ok w (frz h id) β b := fun b hb => ok_frzs [id] hb
  have k : Keeps (fun _ => True) w (F.ok w h β) β w (F.ok w (frz h id) β) β := ⟨fun b hb => ⟨hok b hb, rfl⟩, fun _ _ => ⟨rfl, fun _ _ => rfl⟩⟩
  refine ⟨β, r.h.frz id, r.defers, r.size, fun t v hl2 => ?_⟩
  obtain ⟨⟨u, hu, hru⟩, hw2⟩ := r.env t v hl2
  exact ⟨⟨u, hu, k.repV (fun _ _ => trivial) hru⟩, fun i hi => by
    have := isSome_frzs [id] h i
    show (look (frz h id) i).isSome = true
    rw [show frz h id = frzs h [id] from rfl, this]; exact hw2 i hi⟩
theorem Lp.frz {X : Ctx} {N : Nat} {R : AS → Prop} {k : List KI} {c : Code} {env : List (Nat × AV)} {h : Hp} {n : Nat} (id : Nat) (hl : Lp X N R k c ⟨env, Go.VL.frz h id, n⟩) : Lp X N R k c ⟨env, h, n⟩ := Lp.le (le_frz (n' := n) id fun _ _ _ r => r) hl
/-- A loop told from its body's beginning, for rounds one by one. -/
structure LpI (X : Ctx) (N : Nat) (R : AS → Prop) (k : List KI) (b : Code) (σ : AS) : Prop where
  h : ∀ F a w, RelS X F N σ a w → ∀ fb k' cs, ∃ e a' w', (∃ σ', kQ X N R k e σ' ∧ RelS X F N σ' a' w') ∧ Arrives X.P (lone (fb.at a (.code b :: .inLoop b :: k')) cs w) fb k' cs e a' w'
theorem Lp.rounds {X : Ctx} {N : Nat} {R : AS → Prop} {k : List KI} {b : Code} {σ : AS} (h : LpI X N R k b σ) : Lp X N R k b σ := ⟨fun F a w r fb k' cs => by
  obtain ⟨e, a', w', hq, harr⟩ := h.h F a w r fb k' cs
  exact ⟨e, a', w', hq, .of_steps (.one step_loop) harr⟩⟩
theorem LpI.round {X : Ctx} {N : Nat} {R : AS → Prop} {k : List KI} {b : Code} {σ : AS} (hok : codeOk N b = true := by rfl) (h : Wp X N R (.stop (fun σ' => LpI X N R k b σ') :: k) b σ) : LpI X N R k b σ := ⟨fun F a w r fb k' cs => by
  obtain ⟨e, a', w', ⟨σ', hq, hrel⟩, harr⟩ := wpc_sound hok h.h F a w r fb (.inLoop b :: k') cs
  cases e with
  | normal =>
    have hq : LpI X N R k b σ' := by simpa only [kQ] using hq
    obtain ⟨e2, a2, w2, hq2, harr2⟩ := hq.h F a' w' hrel fb k' cs
    exact ⟨e2, a2, w2, hq2, .of_steps (Steps.trans harr (.one step_inLoop)) harr2⟩
  | exit id => exact ⟨_, a', w', ⟨σ', by simpa only [kQ] using hq, hrel⟩, .pass (x := .inLoop b) rfl (fun _ _ => .inl (by simp)) harr⟩
  | ret => exact ⟨_, a', w', ⟨σ', by cases k <;> simpa only [kQ] using hq, hrel⟩, .pass (x := .inLoop b) rfl (fun _ _ => .inl (by simp)) harr⟩
  | goto l => exact absurd hq (by simp only [kQ]; exact id)
  | panic c => exact absurd hq (by simp only [kQ]; exact id)
  | outgrown => exact absurd hq (by simp only [kQ]; exact id)⟩
theorem LpI.le {X : Ctx} {N : Nat} {R : AS → Prop} {k : List KI} {b : Code} {σ : AS} (τ : AS) (h : σ.Le X N τ) (hl : LpI X N R k b τ) : LpI X N R k b σ := ⟨fun F a w r => hl.h F a w (h F a w r)⟩
end Go.VL


namespace Go.VS.YtekfjbjdlenhoaaGreatDoor
open Go Go.VL Go.VN Go.RowKit Go.Proofs
set_option maxRecDepth 100000
set_option linter.unusedVariables false
set_option linter.unusedSimpArgs false

theorem g_OParseS (s : List UInt8) (o : Ort) (hok : prsR s = (o, 0, 0)) : SpcS X 42 [vS s] [] (.tup [(true, [.pv (.str o.1), .own 2 4 o.2.length]), (false, [.pv (.int .i64 0)]), (false, [.pv (.int .i64 0)])]) [(2, (.pu 44 (o.2.flatMap eSg), false))] := by
  refine SpcS.start 0 Tryz.func42 rfl (h := fun hs hs2 R hR => ?_)
  unfold Tryz.f42
  simp only [entryV]
  unfold prsR at hok
  refine walk (hQ := ?_)
  refine W_if (ht := fun h1 => ?_) (hf := fun h1 => ?_)
  · rw [if_pos (by omega)] at hok
    refine walk (hQ := ?_)
    (have hok3 := (Prod.mk.inj (Prod.mk.inj hok).2).2; omega)
  rw [if_neg (by omega)] at hok
  have k1 := g_Lines s (by omega)
  obtain ⟨hll, hlw⟩ := linesF_len s
  have hne := linesF_ne (s := s)
  have hbad : badE s = decide (¬ s.getD (s.length - 1) 0 = 10) := rfl
  generalize linesF s = L at *
  generalize badE s = bad at *
  refine walk (hQ := ?_)
  refine R_call k1 (hK := ?_)
  refine walk (hQ := ?_)
  refine W_if (ht := fun h2 => ?_) (hf := fun h2 => ?_)
  · rw [if_pos (List.eq_nil_of_length_eq_zero (by omega))] at hok
    refine walk (hQ := ?_)
    (have hok3 := (Prod.mk.inj (Prod.mk.inj hok).2).2; omega)
  have hLn : L ≠ [] := fun e => h2 (by rw [e]; rfl)
  have hs0 := hne hLn
  rw [if_neg hLn] at hok
  refine walk (hQ := ?_)
  refine Lp.intro3 (fun (nm : List UInt8) (out : List Sgn) (i : Nat) => ⟨[(0, vS s), (2, .one (.ptr 0 0)), (5, vP (slc eS L)), (6, .one (.ptr 1 0)), (7, vI i)], [(0, (.mx [.pv (.str []), .pv .nil], false)), (1, (.mx [.pv (.str nm), .own 2 4 out.length], false)), (2, (.pu 44 (out.flatMap eSg), false))], 3⟩) (fun nm out i => i ≤ L.length ∧ refL bad i (nm, out) (L.drop i) = refL bad 0 zO L ∧ out.length ≤ i) (fun nm out i => L.length - i) [] [] 0 ⟨Nat.zero_le _, rfl, Nat.le_refl _⟩ (h0 := le_ghost1 2 44 (hle := le_retell 1 (cs := [.pv (.str []), .pv .nil]) (cs' := [.pv (.str []), .own 2 4 0]) rfl ⟨avLe_refl _, rfl, trivial⟩ rfl (by repeat (first | exact .hit | (apply PutR.miss; rfl))) le_auto)) (hr := fun nm out i K ⟨hi, ho, hol⟩ hK => ?_)
  refine walk (hQ := ?_)
  refine W_if (ht := fun h3 => ?_) (hf := fun h3 => ?_)
  · have hil : i < L.length := by omega
    have e0 : L[i]? = some (L.getD i []) := by rw [List.getD_eq_getElem?_getD, List.getElem?_eq_getElem hil]; rfl
    have hst := refL_at e0 bad (nm, out)
    have hwl := hlw _ (List.mem_of_getElem? e0)
    rw [ho] at hst
    have k2 := g_words (L.getD i []) (by omega)
    have k3 := g_line (L.getD i []) (by omega)
    unfold hdrR sgLR at hst
    refine walk (hQ := ?_)
    refine R_g_if (h1 := fun h4 => ?_) (h2 := fun h4 => ?_) <;> simp only [Bool.false_eq_true, if_false, if_true, Decidable.not_not] at h4
    · have hbe : decide (¬ ((s.getD (s.length - 1) 0).toNat : Int) = 10) = bad := by
        rw [hbad]
        by_cases h : s.getD (s.length - 1) 0 = 10
        · rw [h]; rfl
        · have h' : ¬ ((s.getD (s.length - 1) 0).toNat : Int) = 10 := fun e => h (UInt8.toNat_inj.1 (show (s.getD (s.length - 1) 0).toNat = 10 by omega))
          rw [decide_eq_true h', decide_eq_true h]
      rw [decide_eq_true (show i + 1 = L.length by omega), Bool.true_and] at hst
      refine walk (hQ := ?_)
      rw [show ((s.length : Int) - 1).toNat = s.length - 1 by omega, hbe]
      cases bad with
      | true =>
        rw [if_pos rfl] at hst
        refine walk (hQ := ?_)
        generalize hw : L.getD i [] = w at *
        generalize oO zSg (lineR (wordsF w)) = P at *
        generalize wordsF w = W at *
        refine R_call k2 (hK := ?_)
        refine walk (hQ := ?_)
        rw [hw]
        refine R_call k3 (hK := ?_)
        obtain ⟨⟨xa, xb, xc, xd⟩, ok⟩ := P
        simp only [sgR, eSg] at *
        refine walk (hQ := ?_)
        refine W_if (ht := fun h5 => ?_) (hf := fun h5 => ?_)
        · refine walk (hQ := ?_)
          refine R_g_if (h1 := fun h6 => ?_) (h2 := fun h6 => ?_) <;> simp only [Bool.false_eq_true, if_false, if_true, Decidable.not_not] at h6
          · refine walk (hQ := ?_)
            rw [hst, endO_bad _ (by omega)] at hok
            refine walk (hQ := ?_)
            (have hok3 := (Prod.mk.inj (Prod.mk.inj hok).2).2; omega)
          ·
            rw [hst, endO_bad _ (by omega)] at hok
            refine walk (hQ := ?_)
            (have hok3 := (Prod.mk.inj (Prod.mk.inj hok).2).2; omega)
        · refine walk (hQ := ?_)
          rw [hst, endO_bad _ (by omega)] at hok
          refine walk (hQ := ?_)
          (have hok3 := (Prod.mk.inj (Prod.mk.inj hok).2).2; omega)
      | false =>
        rw [if_neg (by decide)] at hst
        refine walk (hQ := ?_)
        generalize hw : L.getD i [] = w at *
        generalize oO zSg (lineR (wordsF w)) = P at *
        generalize wordsF w = W at *
        refine R_call k2 (hK := ?_)
        refine walk (hQ := ?_)
        rw [hw]
        refine R_call k3 (hK := ?_)
        obtain ⟨⟨xa, xb, xc, xd⟩, ok⟩ := P
        simp only [sgR, eSg] at *
        refine walk (hQ := ?_)
        refine W_if (ht := fun h5 => ?_) (hf := fun h5 => ?_)
        · have hi0 : i = 0 := by omega
          subst hi0
          rw [if_pos rfl] at hst
          refine walk (hQ := ?_)
          refine R_g_if (h1 := fun h6 => ?_) (h2 := fun h6 => ?_) <;> simp only [Bool.false_eq_true, if_false, if_true, Decidable.not_not] at h6
          · have h6' : W.length = 2 := by omega
            refine walk (hQ := ?_)
            rw [show W.getD (Int.toNat 0) [] = W.getD 0 [] from rfl]
            refine W_if (ht := fun hB => ?_) (hf := fun hB => ?_)
            · rw [if_neg (by simp only [show ¬ W.getD 0 [] = wOrt from hB, decide_false, Bool.and_false]; decide)] at hst
              rw [hst, endO_bad _ (by omega)] at hok
              refine walk (hQ := ?_)
              (have hok3 := (Prod.mk.inj (Prod.mk.inj hok).2).2; omega)
            · rw [if_pos (by simp only [h6', show W.getD 0 [] = wOrt from Decidable.not_not.1 hB, decide_true, Bool.and_true])] at hst
              refine walk (hQ := ?_)
              refine hK _ (W.getD 1 []) out (0 + 1) ⟨by omega, hst.symm, by omega⟩ (by omega) le_auto
          · rw [if_neg (by simp only [show ¬ W.length = 2 by omega, decide_false, Bool.false_and]; decide)] at hst
            rw [hst, endO_bad _ (by omega)] at hok
            refine walk (hQ := ?_)
            (have hok3 := (Prod.mk.inj (Prod.mk.inj hok).2).2; omega)
        · rw [if_neg (by omega)] at hst
          cases ok with
          | false =>
            rw [if_neg (by simp)] at hst
            rw [hst, endO_bad _ (by omega)] at hok
            refine walk (hQ := ?_)
            (have hok3 := (Prod.mk.inj (Prod.mk.inj hok).2).2; omega)
          | true =>
            rw [if_pos (by simp)] at hst
            refine walk (hQ := ?_)
            refine W_if (ht := fun h => absurd h h5) (hf := fun _ => ?_)
            refine walk (hQ := ?_)
            refine R_bsl eSg (l := [(xa, xb, xc, xd)]) (hK := ?_)
            refine walk (hQ := ?_)
            refine hK _ nm (out ++ [(xa, xb, xc, xd)]) (i + 1) ⟨by omega, hst.symm, by rw [List.length_append, List.length_singleton]; omega⟩ (by omega) ?_
            rw [List.length_append]
            exact le_auto
    · rw [decide_eq_false (show ¬ i + 1 = L.length by omega), Bool.false_and, if_neg (by decide)] at hst
      refine walk (hQ := ?_)
      generalize hw : L.getD i [] = w at *
      generalize oO zSg (lineR (wordsF w)) = P at *
      generalize wordsF w = W at *
      refine R_call k2 (hK := ?_)
      refine walk (hQ := ?_)
      rw [hw]
      refine R_call k3 (hK := ?_)
      obtain ⟨⟨xa, xb, xc, xd⟩, ok⟩ := P
      simp only [sgR, eSg] at *
      refine walk (hQ := ?_)
      refine W_if (ht := fun h5 => ?_) (hf := fun h5 => ?_)
      · have hi0 : i = 0 := by omega
        subst hi0
        rw [if_pos rfl] at hst
        refine walk (hQ := ?_)
        refine R_g_if (h1 := fun h6 => ?_) (h2 := fun h6 => ?_) <;> simp only [Bool.false_eq_true, if_false, if_true, Decidable.not_not] at h6
        · have h6' : W.length = 2 := by omega
          refine walk (hQ := ?_)
          rw [show W.getD (Int.toNat 0) [] = W.getD 0 [] from rfl]
          refine W_if (ht := fun hB => ?_) (hf := fun hB => ?_)
          · rw [if_neg (by simp only [show ¬ W.getD 0 [] = wOrt from hB, decide_false, Bool.and_false]; decide)] at hst
            rw [hst, endO_bad _ (by omega)] at hok
            refine walk (hQ := ?_)
            (have hok3 := (Prod.mk.inj (Prod.mk.inj hok).2).2; omega)
          · rw [if_pos (by simp only [h6', show W.getD 0 [] = wOrt from Decidable.not_not.1 hB, decide_true, Bool.and_true])] at hst
            refine walk (hQ := ?_)
            refine hK _ (W.getD 1 []) out (0 + 1) ⟨by omega, hst.symm, by omega⟩ (by omega) le_auto
        · rw [if_neg (by simp only [show ¬ W.length = 2 by omega, decide_false, Bool.false_and]; decide)] at hst
          rw [hst, endO_bad _ (by omega)] at hok
          refine walk (hQ := ?_)
          (have hok3 := (Prod.mk.inj (Prod.mk.inj hok).2).2; omega)
      · rw [if_neg (by omega)] at hst
        cases ok with
        | false =>
          rw [if_neg (by simp)] at hst
          rw [hst, endO_bad _ (by omega)] at hok
          refine walk (hQ := ?_)
          (have hok3 := (Prod.mk.inj (Prod.mk.inj hok).2).2; omega)
        | true =>
          rw [if_pos (by simp)] at hst
          refine walk (hQ := ?_)
          refine W_if (ht := fun h => absurd h h5) (hf := fun _ => ?_)
          refine walk (hQ := ?_)
          refine R_bsl eSg (l := [(xa, xb, xc, xd)]) (hK := ?_)
          refine walk (hQ := ?_)
          refine hK _ nm (out ++ [(xa, xb, xc, xd)]) (i + 1) ⟨by omega, hst.symm, by rw [List.length_append, List.length_singleton]; omega⟩ (by omega) ?_
          rw [List.length_append]
          exact le_auto
  · obtain rfl : i = L.length := by omega
    rw [List.drop_length, refL] at ho
    rw [← ho] at hok
    unfold endO at hok
    simp only [ne_eq, not_true_eq_false, if_false] at hok
    refine walk (hQ := ?_)
    refine R_callP (ids' := [2]) (g_first (nm, out)) (hK := ?_)
    have hcl := chkO_lo (nm, out)
    have hch := chkO_hi (nm, out)
    generalize chkO (nm, out) = c at *
    refine walk (hQ := ?_)
    refine W_if (ht := fun hc1 => ?_) (hf := fun hc1 => ?_)
    · rw [if_neg hc1] at hok
      refine walk (hQ := ?_)
      refine W_if (ht := fun hc2 => ?_) (hf := fun hc2 => ?_)
      · rw [if_neg (by omega)] at hok
        simp only at hch
        refine walk (hQ := ?_)
        (have hok3 := (Prod.mk.inj (Prod.mk.inj hok).2).2; omega)
      · rw [if_pos (by omega)] at hok
        refine walk (hQ := ?_)
        (have hok3 := (Prod.mk.inj (Prod.mk.inj hok).2).2; omega)
    · rw [if_pos (Decidable.not_not.1 hc1)] at hok
      obtain rfl : (nm, out) = o := (Prod.mk.inj hok).1
      refine walk (hQ := ?_)
      exact hR _ (retS3 (hy := rfl) (hle := ⟨rfl, trivial⟩))
end Go.VS.YtekfjbjdlenhoaaGreatDoor


namespace Go.VS.YtekfjbjdlenhoaaGreatDoor
open Go Go.VL Go.VN Go.RowKit Go.Proofs
set_option maxRecDepth 100000
set_option linter.unusedVariables false
set_option linter.unusedSimpArgs false

theorem lat_prs : prsR latB = (LAT, 0, 0) := by
  rw [prs_same]
  have h := lat_ok
  show prsO latB = ((prsO latB).1, 0, 0)
  generalize prsO latB = P at *
  obtain ⟨o, p⟩ := P
  simp only at h
  rw [h]
theorem gre_prs : prsR greB = (GRE, 0, 0) := by
  rw [prs_same]
  have h := gre_ok
  show prsO greB = ((prsO greB).1, 0, 0)
  generalize prsO greB = P at *
  obtain ⟨o, p⟩ := P
  simp only at h
  rw [h]
theorem g_LatinS : SpcS X 26 [] [] (.agg [.pv (.str LAT.1), .own 1 4 LAT.2.length]) [(1, (.pu 44 (LAT.2.flatMap eSg), false))] := by
  have k1 := g_OParseS latB LAT lat_prs
  generalize LAT = L at *
  refine SpcS.start 0 Tryz.func26 rfl (h := fun hs hs2 R hR => ?_)
  unfold Tryz.f26
  simp only [entryV]
  refine walk (hQ := ?_)
  refine R_callNY (pas := [.one (.str latB)]) k1 (hv := .cons (.cs rfl) (VA.one (.pv rfl)) .nil) (hK := ?_)
  refine walk (hQ := ?_)
  exact hR _ (retS1A (hy := rfl) (hle := ⟨rfl, trivial⟩))
theorem g_GreekS : SpcS X 27 [] [] (.agg [.pv (.str GRE.1), .own 1 4 GRE.2.length]) [(1, (.pu 44 (GRE.2.flatMap eSg), false))] := by
  have k1 := g_OParseS greB GRE gre_prs
  generalize GRE = L at *
  refine SpcS.start 0 Tryz.func27 rfl (h := fun hs hs2 R hR => ?_)
  unfold Tryz.f27
  simp only [entryV]
  refine walk (hQ := ?_)
  refine R_callNY (pas := [.one (.str greB)]) k1 (hv := .cons (.cs rfl) (VA.one (.pv rfl)) .nil) (hK := ?_)
  refine walk (hQ := ?_)
  exact hR _ (retS1A (hy := rfl) (hle := ⟨rfl, trivial⟩))
end Go.VS.YtekfjbjdlenhoaaGreatDoor


namespace Go.VN
open Go.RowKit Go.VL
set_option linter.unusedVariables false
set_option linter.unusedSimpArgs false
def keepT (o : Ort) (k : Nat) : Prop := (o.2.getD k default).1 = [97] ∨ (o.2.getD k default).1 = [101] ∨ (o.2.getD k default).1 = [114] ∨ (o.2.getD k default).1 = [116] ∨ o.2.length < 8
instance (o : Ort) (k : Nat) : Decidable (keepT o k) := by unfold keepT; infer_instance
def dropO (o : Ort) (b : UInt8) : Ort := if keepT o (b.toNat % o.2.length) then o else (o.1, o.2.take (b.toNat % o.2.length) ++ o.2.drop (b.toNat % o.2.length + 1))
def addSg (o : Ort) (b : UInt8) : Sgn := ((o.2.getD (b.toNat % o.2.length) default).1, (o.2.getD (b.toNat % o.2.length) default).2.1, (b.toNat : Int) % 5, (b.toNat : Int) / 16 % 5)
def moreO (o : Ort) (b : UInt8) : Ort := if (chkO (o.1, o.2 ++ [addSg o b])).2 = 0 then (o.1, o.2 ++ [addSg o b]) else o
def baseO (k : UInt8) : Ort := if k.toNat % 2 = 1 then GRE else LAT
def madeO (k : UInt8) (dr mo : List UInt8) : Ort := (mo.take 6).foldl moreO ((dr.take 20).foldl dropO (baseO k))
theorem foldl_next {α β : Type} (f : β → α → β) {l : List α} {i : Nat} {x : α} (z : β) (h : l[i]? = some x) : (l.take (i + 1)).foldl f z = f ((l.take i).foldl f z) x := by
  obtain ⟨hi, rfl⟩ := List.getElem?_eq_some_iff.1 h
  rw [List.take_succ_eq_append_getElem hi, List.foldl_append]; rfl
theorem drop_len {o : Ort} (b : UInt8) (h1 : 1 ≤ o.2.length) (h2 : o.2.length ≤ 50) : 1 ≤ (dropO o b).2.length ∧ (dropO o b).2.length ≤ 50 := by
  unfold dropO
  split
  · exact ⟨h1, h2⟩
  · rename_i h
    have h8 : 8 ≤ o.2.length := by
      by_cases h8 : o.2.length < 8
      · exact absurd (by unfold keepT; exact .inr (.inr (.inr (.inr h8)))) h
      · omega
    have := Nat.mod_lt b.toNat (show 0 < o.2.length by omega)
    simp only [List.length_append, List.length_take, List.length_drop]
    omega
end Go.VN


namespace Go.VS.YtekfjbjdlenhoaaGreatDoor
open Go Go.VL Go.VN Go.RowKit Go.Proofs
set_option maxRecDepth 100000
set_option linter.unusedVariables false
set_option linter.unusedSimpArgs false

set_option maxHeartbeats 4000000 in
theorem g_MadeS (k : UInt8) (dr mo : List UInt8) : SpcS X 20 [.agg [.pv (.int .u8 k.toNat), .pv (slc eU dr), .pv (slc eU mo)]] [] (.agg [.pv (.str (madeO k dr mo).1), .own 2 4 (madeO k dr mo).2.length]) [(2, (.pu 44 ((madeO k dr mo).2.flatMap eSg), false))] := by
  have k1 := g_LatinS
  have k2 := g_GreekS
  have hl1 := lat_len.1
  have hl2 := lat_len.2
  have hb : baseO k = if k.toNat % 2 = 1 then GRE else LAT := rfl
  have hm : madeO k dr mo = (mo.take 6).foldl moreO ((dr.take 20).foldl dropO (baseO k)) := rfl
  generalize madeO k dr mo = M at *
  generalize baseO k = B at *
  generalize LAT = L at *
  generalize GRE = G at *
  refine SpcS.start 0 Tryz.func20 rfl (h := fun hs hs2 R hR => ?_)
  unfold Tryz.f20
  simp only [entryV]
  refine walk (hQ := ?_)
  refine R_callNY (pas := []) k1 (hv := .nil) (hK := ?_)
  refine walk (hQ := ?_)
  refine R_remk (hK := ?_)
  refine walk (hQ := ?_)
  have hkr : ((k.toNat : Int) % 2 = 1) ↔ (k.toNat % 2 = 1) := by omega
  refine W_if (ht := fun h1 => ?ht) (hf := fun h1 => ?hf)
  case' ht =>
    rw [if_pos (hkr.1 h1)] at hb
    subst hb
    have hBl : 1 ≤ B.2.length ∧ B.2.length ≤ 50 := by omega
    refine walk (hQ := ?_)
    refine R_callNY (pas := []) k2 (hv := .nil) (hK := ?_)
    refine walk (hQ := ?_)
    refine Lp.ren 2 4 (hl := ?_)
  case' hf =>
    rw [if_neg (fun h => h1 (hkr.2 h))] at hb
    subst hb
    have hBl : 1 ≤ B.2.length ∧ B.2.length ≤ 50 := by omega
    refine walk (hQ := ?_)
  all_goals
    refine Lp.intro3 (fun (nm : List UInt8) (l : List Sgn) (i : Nat) => ⟨[(1, .one (.ptr 0 0)), (2, .one (.ptr 1 0)), (3, .one (.ptr 3 0)), (4, vI i)], [(0, (.mx [.pv (.int .u8 k.toNat), .pv (slc eU dr), .pv (slc eU mo)], false)), (1, (.mx [.pv (.str []), .pv .nil], false)), (2, (.pu 44 (l.flatMap eSg), false)), (3, (.mx [.pv (.str nm), .own 2 4 l.length], false))], 4⟩) (fun nm l i => i ≤ dr.length ∧ i ≤ 20 ∧ (nm, l) = ((dr.take 20).take i).foldl dropO B ∧ 1 ≤ l.length ∧ l.length ≤ 50) (fun nm l i => 20 - i) B.1 B.2 0 ⟨Nat.zero_le _, by omega, rfl, hBl.1, hBl.2⟩ (h0 := le_auto) (hr := fun nm l i K ⟨hi, hi2, ho, hol, hou⟩ hK => ?_)
    refine walk (hQ := ?_)
    refine R_g_if (h1 := fun g1 => ?_) (h2 := fun g1 => ?_) <;> simp only [Bool.false_eq_true, if_false, if_true, Decidable.not_not] at g1
    · refine walk (hQ := ?_)
      refine W_if (ht := fun g2 => ?_) (hf := fun g2 => ?_)
      · have hid : i < dr.length := by omega
        have e0 : (dr.take 20)[i]? = some (dr.getD i default) := by rw [List.getElem?_take, if_pos (by omega)]; exact gD hid
        have hnx := foldl_next dropO B e0
        rw [← ho] at hnx
        have hdl := drop_len (o := (nm, l)) (dr.getD i default) hol hou
        have hcb := UInt8.toNat_lt (dr.getD i default)
        have hdo : dropO (nm, l) (dr.getD i default) = if keepT (nm, l) ((dr.getD i default).toNat % l.length) then (nm, l) else (nm, l.take ((dr.getD i default).toNat % l.length) ++ l.drop ((dr.getD i default).toNat % l.length + 1)) := rfl
        rw [hdo] at hnx hdl
        clear hdo
        refine walk (hQ := ?_)
        rw [show ((dr.getD i default).toNat : Int) % (l.length : Int) = (((dr.getD i default).toNat % l.length : Nat) : Int) by omega]
        have hq := Nat.mod_lt (dr.getD i default).toNat (show 0 < l.length by omega)
        generalize (dr.getD i default).toNat % l.length = q at *
        have hla : l[q]? = some (l.getD q default) := getD_some hq
        refine walk (hQ := ?_)
        have hkt : keepT (nm, l) q ↔ ((l.getD q default).1 = [97] ∨ (l.getD q default).1 = [101] ∨ (l.getD q default).1 = [114] ∨ (l.getD q default).1 = [116] ∨ l.length < 8) := Iff.rfl
        generalize (l.getD q default).1 = tx at *
        refine R_g_if (h1 := fun a1 => ?_) (h2 := fun a1 => ?_) <;> simp only [Bool.false_eq_true, if_false, if_true, Decidable.not_not] at a1
        · refine walk (hQ := ?_)
          refine R_g_if (h1 := fun a2 => ?_) (h2 := fun a2 => ?_) <;> simp only [Bool.false_eq_true, if_false, if_true, Decidable.not_not] at a2
          · refine walk (hQ := ?_)
            refine R_g_if (h1 := fun a3 => ?_) (h2 := fun a3 => ?_) <;> simp only [Bool.false_eq_true, if_false, if_true, Decidable.not_not] at a3
            · refine walk (hQ := ?_)
              refine R_g_if (h1 := fun a4 => ?_) (h2 := fun a4 => ?_) <;> simp only [Bool.false_eq_true, if_false, if_true, Decidable.not_not] at a4
              · refine walk (hQ := ?_)
                refine W_if (ht := fun a5 => ?_) (hf := fun a5 => ?_)
                · rw [if_pos (show keepT (nm, l) q from hkt.2 (.inr (.inr (.inr (.inr (by omega))))))] at hnx
                  refine walk (hQ := ?_)
                  exact hK _ nm l (i + 1) ⟨by omega, by omega, hnx.symm, hol, hou⟩ (by omega) le_auto
                · rw [if_neg (show ¬ keepT (nm, l) q from fun h => by rcases hkt.1 h with h | h | h | h | h; exact a1 h; exact a2 h; exact a3 h; exact a4 h; omega)] at hnx hdl
                  refine walk (hQ := ?_)
                  refine R_appO (e := eSg) (l := []) (l2 := l) (q := q) (hK := ?_)
                  refine walk (hQ := ?_)
                  refine R_fromO (m := q + 1) (hm := by omega) (hK := ?_)
                  refine R_appU (e := eSg) (l := l.take q) (l2 := l) (p := q + 1) (q := l.length - (q + 1)) (hm := by rw [List.length_take]; omega) (hK := ?_)
                  refine walk (hQ := ?_)
                  have htk : (l.drop (q + 1)).take (l.length - (q + 1)) = l.drop (q + 1) := List.take_of_length_le (by rw [List.length_drop]; omega)
                  refine hK _ nm (l.take q ++ l.drop (q + 1)) (i + 1) ⟨by omega, by omega, hnx.symm, hdl.1, hdl.2⟩ (by omega) (le_ren (n' := 4) 2 4 rfl rfl ?_)
                  rw [htk]
                  rw [show (l.take q ++ l.drop (q + 1)).length = 0 + q + (l.length - (q + 1)) by rw [List.length_append, List.length_take, List.length_drop]; omega]
                  exact le_auto
              · rw [if_pos (show keepT (nm, l) q from hkt.2 (.inr (.inr (.inr (.inl a4)))))] at hnx
                refine walk (hQ := ?_)
                exact hK _ nm l (i + 1) ⟨by omega, by omega, hnx.symm, hol, hou⟩ (by omega) le_auto
            · rw [if_pos (show keepT (nm, l) q from hkt.2 (.inr (.inr (.inl a3))))] at hnx
              refine walk (hQ := ?_)
              exact hK _ nm l (i + 1) ⟨by omega, by omega, hnx.symm, hol, hou⟩ (by omega) le_auto
          · rw [if_pos (show keepT (nm, l) q from hkt.2 (.inr (.inl a2)))] at hnx
            refine walk (hQ := ?_)
            exact hK _ nm l (i + 1) ⟨by omega, by omega, hnx.symm, hol, hou⟩ (by omega) le_auto
        · rw [if_pos (show keepT (nm, l) q from hkt.2 (.inl a1))] at hnx
          refine walk (hQ := ?_)
          exact hK _ nm l (i + 1) ⟨by omega, by omega, hnx.symm, hol, hou⟩ (by omega) le_auto
      · have hD : (nm, l) = (dr.take 20).foldl dropO B := by rw [ho, show (dr.take 20).take i = dr.take 20 from List.take_of_length_le (by rw [List.length_take]; omega)]
        rw [← hD] at hm
        refine walk (hQ := ?_)
        refine Lp.intro3 (fun (nm : List UInt8) (l : List Sgn) (j : Nat) => ⟨[(1, .one (.ptr 0 0)), (2, .one (.ptr 1 0)), (3, .one (.ptr 3 0)), (7, vI j)], [(0, (.mx [.pv (.int .u8 k.toNat), .pv (slc eU dr), .pv (slc eU mo)], false)), (1, (.mx [.pv (.str []), .pv .nil], false)), (2, (.pu 44 (l.flatMap eSg), false)), (3, (.mx [.pv (.str nm), .own 2 4 l.length], false))], 4⟩) (fun nm2 l2 j => j ≤ mo.length ∧ j ≤ 6 ∧ (nm2, l2) = ((mo.take 6).take j).foldl moreO (nm, l) ∧ 1 ≤ l2.length ∧ l2.length ≤ 50 + j) (fun nm2 l2 j => 6 - j) nm l 0 ⟨Nat.zero_le _, by omega, rfl, hol, by omega⟩ (h0 := le_auto) (hr := fun nm2 l2 j K2 ⟨hj, hj2, hp, hpl, hpu⟩ hK2 => ?_)
        refine walk (hQ := ?_)
        refine R_g_if (h1 := fun b1 => ?_) (h2 := fun b1 => ?_) <;> simp only [Bool.false_eq_true, if_false, if_true, Decidable.not_not] at b1
        · refine walk (hQ := ?_)
          refine W_if (ht := fun b2 => ?_) (hf := fun b2 => ?_)
          · have hjd : j < mo.length := by omega
            have e1 : (mo.take 6)[j]? = some (mo.getD j default) := by rw [List.getElem?_take, if_pos (by omega)]; exact gD hjd
            have hny := foldl_next moreO (nm, l) e1
            rw [← hp] at hny
            have hcb2 := UInt8.toNat_lt (mo.getD j default)
            have hdo2 : moreO (nm2, l2) (mo.getD j default) = if (chkO (nm2, l2 ++ [addSg (nm2, l2) (mo.getD j default)])).2 = 0 then (nm2, l2 ++ [addSg (nm2, l2) (mo.getD j default)]) else (nm2, l2) := rfl
            rw [hdo2] at hny
            have hag : addSg (nm2, l2) (mo.getD j default) = ((l2.getD ((mo.getD j default).toNat % l2.length) default).1, (l2.getD ((mo.getD j default).toNat % l2.length) default).2.1, ((mo.getD j default).toNat : Int) % 5, ((mo.getD j default).toNat : Int) / 16 % 5) := rfl
            rw [hag] at hny
            clear hdo2 hag
            refine walk (hQ := ?_)
            rw [show ((mo.getD j default).toNat : Int) % (l2.length : Int) = (((mo.getD j default).toNat % l2.length : Nat) : Int) by omega]
            have hq := Nat.mod_lt (mo.getD j default).toNat (show 0 < l2.length by omega)
            generalize (mo.getD j default).toNat % l2.length = q at *
            have hla : l2[q]? = some (l2.getD q default) := getD_some hq
            refine walk (hQ := ?_)
            generalize l2.getD q default = x at *
            obtain ⟨xt, xs, xc, xw⟩ := x
            refine R_ldOA hla (hK := ?_)
            refine walk (hQ := ?_)
            refine R_quo8 (hK := ?_)
            refine walk (hQ := ?_)
            refine R_appO (e := eSg) (l := []) (l2 := l2) (q := l2.length) (hK := ?_)
            rw [show l2.take l2.length = l2 from List.take_length]
            refine walk (hQ := ?_)
            refine R_bsl eSg (l := [(xt, xs, ((mo.getD j default).toNat : Int) % 5, ((mo.getD j default).toNat : Int) / 16 % 5)]) (hK := ?_)
            refine walk (hQ := ?_)
            generalize ((mo.getD j default).toNat : Int) % 5 = v5 at *
            generalize ((mo.getD j default).toNat : Int) / 16 % 5 = v6 at *
            have kv := g_OValid (nm2, l2 ++ [(xt, xs, v5, v6)])
            have hlen : (l2 ++ [(xt, xs, v5, v6)]).length = 0 + l2.length + [(xt, xs, v5, v6)].length := by rw [List.length_append]; omega
            refine R_callP (ids' := []) kv (hK := ?_)
            refine walk (hQ := ?_)
            refine W_if (ht := fun b3 => ?_) (hf := fun b3 => ?_)
            · rw [if_pos b3] at hny
              refine walk (hQ := ?_)
              refine hK2 _ nm2 (l2 ++ [(xt, xs, v5, v6)]) (j + 1) ⟨by omega, by omega, hny.symm, by rw [hlen]; simp, by rw [hlen]; simp; omega⟩ (by omega) (le_ren (n' := 4) 2 5 rfl rfl ?_)
              rw [hlen]
              exact le_auto
            · rw [if_neg b3] at hny
              refine walk (hQ := ?_)
              exact hK2 _ nm2 l2 (j + 1) ⟨by omega, by omega, hny.symm, hpl, by omega⟩ (by omega) le_auto
          · have hM : M = (nm2, l2) := by rw [hm, hp, show (mo.take 6).take j = mo.take 6 from List.take_of_length_le (by rw [List.length_take]; omega)]
            subst hM
            refine walk (hQ := ?_)
            exact hR _ (retS1A (hy := rfl) (hle := ⟨rfl, trivial⟩))
        · have hM : M = (nm2, l2) := by rw [hm, hp, show (mo.take 6).take j = mo.take 6 from List.take_of_length_le (by rw [List.length_take]; omega)]
          subst hM
          refine walk (hQ := ?_)
          exact hR _ (retS1A (hy := rfl) (hle := ⟨rfl, trivial⟩))
    · have hD : (nm, l) = (dr.take 20).foldl dropO B := by rw [ho, show (dr.take 20).take i = dr.take 20 from List.take_of_length_le (by rw [List.length_take]; omega)]
      rw [← hD] at hm
      refine walk (hQ := ?_)
      refine Lp.intro3 (fun (nm : List UInt8) (l : List Sgn) (j : Nat) => ⟨[(1, .one (.ptr 0 0)), (2, .one (.ptr 1 0)), (3, .one (.ptr 3 0)), (7, vI j)], [(0, (.mx [.pv (.int .u8 k.toNat), .pv (slc eU dr), .pv (slc eU mo)], false)), (1, (.mx [.pv (.str []), .pv .nil], false)), (2, (.pu 44 (l.flatMap eSg), false)), (3, (.mx [.pv (.str nm), .own 2 4 l.length], false))], 4⟩) (fun nm2 l2 j => j ≤ mo.length ∧ j ≤ 6 ∧ (nm2, l2) = ((mo.take 6).take j).foldl moreO (nm, l) ∧ 1 ≤ l2.length ∧ l2.length ≤ 50 + j) (fun nm2 l2 j => 6 - j) nm l 0 ⟨Nat.zero_le _, by omega, rfl, hol, by omega⟩ (h0 := le_auto) (hr := fun nm2 l2 j K2 ⟨hj, hj2, hp, hpl, hpu⟩ hK2 => ?_)
      refine walk (hQ := ?_)
      refine R_g_if (h1 := fun b1 => ?_) (h2 := fun b1 => ?_) <;> simp only [Bool.false_eq_true, if_false, if_true, Decidable.not_not] at b1
      · refine walk (hQ := ?_)
        refine W_if (ht := fun b2 => ?_) (hf := fun b2 => ?_)
        · have hjd : j < mo.length := by omega
          have e1 : (mo.take 6)[j]? = some (mo.getD j default) := by rw [List.getElem?_take, if_pos (by omega)]; exact gD hjd
          have hny := foldl_next moreO (nm, l) e1
          rw [← hp] at hny
          have hcb2 := UInt8.toNat_lt (mo.getD j default)
          have hdo2 : moreO (nm2, l2) (mo.getD j default) = if (chkO (nm2, l2 ++ [addSg (nm2, l2) (mo.getD j default)])).2 = 0 then (nm2, l2 ++ [addSg (nm2, l2) (mo.getD j default)]) else (nm2, l2) := rfl
          rw [hdo2] at hny
          have hag : addSg (nm2, l2) (mo.getD j default) = ((l2.getD ((mo.getD j default).toNat % l2.length) default).1, (l2.getD ((mo.getD j default).toNat % l2.length) default).2.1, ((mo.getD j default).toNat : Int) % 5, ((mo.getD j default).toNat : Int) / 16 % 5) := rfl
          rw [hag] at hny
          clear hdo2 hag
          refine walk (hQ := ?_)
          rw [show ((mo.getD j default).toNat : Int) % (l2.length : Int) = (((mo.getD j default).toNat % l2.length : Nat) : Int) by omega]
          have hq := Nat.mod_lt (mo.getD j default).toNat (show 0 < l2.length by omega)
          generalize (mo.getD j default).toNat % l2.length = q at *
          have hla : l2[q]? = some (l2.getD q default) := getD_some hq
          refine walk (hQ := ?_)
          generalize l2.getD q default = x at *
          obtain ⟨xt, xs, xc, xw⟩ := x
          refine R_ldOA hla (hK := ?_)
          refine walk (hQ := ?_)
          refine R_quo8 (hK := ?_)
          refine walk (hQ := ?_)
          refine R_appO (e := eSg) (l := []) (l2 := l2) (q := l2.length) (hK := ?_)
          rw [show l2.take l2.length = l2 from List.take_length]
          refine walk (hQ := ?_)
          refine R_bsl eSg (l := [(xt, xs, ((mo.getD j default).toNat : Int) % 5, ((mo.getD j default).toNat : Int) / 16 % 5)]) (hK := ?_)
          refine walk (hQ := ?_)
          generalize ((mo.getD j default).toNat : Int) % 5 = v5 at *
          generalize ((mo.getD j default).toNat : Int) / 16 % 5 = v6 at *
          have kv := g_OValid (nm2, l2 ++ [(xt, xs, v5, v6)])
          have hlen : (l2 ++ [(xt, xs, v5, v6)]).length = 0 + l2.length + [(xt, xs, v5, v6)].length := by rw [List.length_append]; omega
          refine R_callP (ids' := []) kv (hK := ?_)
          refine walk (hQ := ?_)
          refine W_if (ht := fun b3 => ?_) (hf := fun b3 => ?_)
          · rw [if_pos b3] at hny
            refine walk (hQ := ?_)
            refine hK2 _ nm2 (l2 ++ [(xt, xs, v5, v6)]) (j + 1) ⟨by omega, by omega, hny.symm, by rw [hlen]; simp, by rw [hlen]; simp; omega⟩ (by omega) (le_ren (n' := 4) 2 5 rfl rfl ?_)
            rw [hlen]
            exact le_auto
          · rw [if_neg b3] at hny
            refine walk (hQ := ?_)
            exact hK2 _ nm2 l2 (j + 1) ⟨by omega, by omega, hny.symm, hpl, by omega⟩ (by omega) le_auto
        · have hM : M = (nm2, l2) := by rw [hm, hp, show (mo.take 6).take j = mo.take 6 from List.take_of_length_le (by rw [List.length_take]; omega)]
          subst hM
          refine walk (hQ := ?_)
          exact hR _ (retS1A (hy := rfl) (hle := ⟨rfl, trivial⟩))
      · have hM : M = (nm2, l2) := by rw [hm, hp, show (mo.take 6).take j = mo.take 6 from List.take_of_length_le (by rw [List.length_take]; omega)]
        subst hM
        refine walk (hQ := ?_)
        exact hR _ (retS1A (hy := rfl) (hle := ⟨rfl, trivial⟩))
end Go.VS.YtekfjbjdlenhoaaGreatDoor


namespace Go.VN
open Go.RowKit Go.VL
set_option linter.unusedVariables false
set_option linter.unusedSimpArgs false
theorem chkL_iff : ∀ (l p : List Sgn), (chkL p l).2 = 0 ↔ (∀ s ∈ l, sgE s = 0) ∧ (∀ t ∈ p, ∀ s ∈ l, sameSg t s = false) ∧ l.Pairwise fun a b => sameSg a b = false
  | [], p => by simp [chkL]
  | x :: l, p => by
    rw [chkL]
    by_cases h1 : sgE x ≠ 0
    · rw [if_pos h1]
      exact ⟨fun h => absurd h h1, fun h => absurd (h.1 x (by simp)) h1⟩
    rw [if_neg h1]
    by_cases h2 : (p.any fun t => sameSg t x) = true
    · rw [if_pos h2]
      refine ⟨fun h => (by cases h), fun h => ?_⟩
      obtain ⟨t, ht, hs⟩ := List.any_eq_true.1 h2
      rw [h.2.1 t ht x (by simp)] at hs; cases hs
    rw [if_neg h2, chkL_iff l (p ++ [x])]
    have h2' : ∀ t ∈ p, sameSg t x = false := fun t ht => by
      cases hs : sameSg t x with
      | false => rfl
      | true => exact absurd (List.any_eq_true.2 ⟨t, ht, hs⟩) h2
    constructor
    · rintro ⟨a, b, c⟩
      refine ⟨fun s hs => ?_, fun t ht s hs => ?_, List.pairwise_cons.2 ⟨fun s hs => b x (by simp) s hs, c⟩⟩
      · rcases List.mem_cons.1 hs with rfl | hs
        · exact Decidable.not_not.1 h1
        · exact a s hs
      · rcases List.mem_cons.1 hs with rfl | hs
        · exact h2' t ht
        · exact b t (by simp [ht]) s hs
    · rintro ⟨a, b, c⟩
      obtain ⟨c1, c2⟩ := List.pairwise_cons.1 c
      refine ⟨fun s hs => a s (by simp [hs]), fun t ht s hs => ?_, c2⟩
      rcases List.mem_append.1 ht with ht | ht
      · exact b t ht s (by simp [hs])
      · rw [List.mem_singleton.1 ht]; exact c1 s hs
theorem chkO_iff (o : Ort) : (chkO o).2 = 0 ↔ isNm o.1 = true ∧ o.2 ≠ [] ∧ o.2.length ≤ 120 ∧ (∀ s ∈ o.2, sgE s = 0) ∧ o.2.Pairwise fun a b => sameSg a b = false := by
  unfold chkO
  by_cases h1 : isNm o.1 = false
  · rw [if_pos h1]
    exact ⟨fun h => (by cases h), fun h => by rw [h.1] at h1; cases h1⟩
  rw [if_neg h1]
  by_cases h2 : o.2 = []
  · rw [if_pos h2]; exact ⟨fun h => (by cases h), fun h => absurd h2 h.2.1⟩
  rw [if_neg h2]
  by_cases h3 : 120 < o.2.length
  · rw [if_pos h3]; exact ⟨fun h => (by cases h), fun h => by omega⟩
  rw [if_neg h3, chkL_iff]
  exact ⟨fun h => ⟨by simpa using h1, h2, by omega, h.1, h.2.2⟩, fun h => ⟨h.2.2.2.1, fun t ht => by simp at ht, h.2.2.2.2⟩⟩
theorem prs_chk {s : List UInt8} (h : (prsO s).2 = (0, 0)) : (chkO (prsO s).1).2 = 0 := by
  unfold prsO at h ⊢
  by_cases h1 : 20000 < s.length
  · rw [if_pos h1] at h; cases h
  rw [if_neg h1] at h ⊢
  by_cases h2 : s = []
  · rw [if_pos h2] at h; cases h
  rw [if_neg h2] at h ⊢
  generalize prsL 0 zO (spK true 10 s) = P at *
  unfold endO at h ⊢
  by_cases h3 : P.2 ≠ 0
  · rw [if_pos h3] at h
    have := (Prod.mk.inj h).2
    cases this
  rw [if_neg h3] at h ⊢
  by_cases h4 : (chkO P.1).2 = 0
  · rw [if_pos h4]; exact h4
  · rw [if_neg h4] at h
    by_cases h5 : (chkO P.1).1 < 0
    · rw [if_pos h5] at h; cases h
    · rw [if_neg h5] at h; exact absurd (Prod.mk.inj h).2 h4
theorem base_ok (k : UInt8) : (chkO (baseO k)).2 = 0 ∧ 1 ≤ (baseO k).2.length ∧ (baseO k).2.length ≤ 50 := by
  unfold baseO
  split
  · exact ⟨prs_chk gre_ok, by rw [lat_len.2]; decide⟩
  · exact ⟨prs_chk lat_ok, by rw [lat_len.1]; decide⟩
theorem drop_ok {o : Ort} (b : UInt8) (h : (chkO o).2 = 0) (h1 : 1 ≤ o.2.length) (h2 : o.2.length ≤ 50) : (chkO (dropO o b)).2 = 0 := by
  have hl := drop_len b h1 h2
  unfold dropO at hl ⊢
  split
  · exact h
  · rename_i hk
    rw [if_neg hk] at hl
    obtain ⟨a1, a2, a3, a4, a5⟩ := (chkO_iff o).1 h
    have hsub : (o.2.take (b.toNat % o.2.length) ++ o.2.drop (b.toNat % o.2.length + 1)).Sublist o.2 := by
      conv => rhs; rw [← List.take_append_drop (b.toNat % o.2.length) o.2]
      refine List.Sublist.append (List.Sublist.refl _) ?_
      rw [← List.drop_drop]
      exact List.drop_sublist _ _
    refine (chkO_iff _).2 ⟨a1, fun e => ?_, by simp only at hl ⊢; omega, fun s hs => a4 s (hsub.subset hs), a5.sublist hsub⟩
    have h3 := hl.1
    simp only at h3 e
    rw [e] at h3; simp at h3
theorem more_ok {o : Ort} (b : UInt8) (h : (chkO o).2 = 0) : (chkO (moreO o b)).2 = 0 := by
  unfold moreO
  split
  · rename_i h1; exact h1
  · exact h
theorem more_len {o : Ort} (b : UInt8) : o.2.length ≤ (moreO o b).2.length ∧ (moreO o b).2.length ≤ o.2.length + 1 := by
  unfold moreO
  split <;> simp
theorem foldD_ok : ∀ (l : List UInt8) (o : Ort), (chkO o).2 = 0 → 1 ≤ o.2.length → o.2.length ≤ 50 → (chkO (l.foldl dropO o)).2 = 0 ∧ 1 ≤ (l.foldl dropO o).2.length ∧ (l.foldl dropO o).2.length ≤ 50
  | [], o, h, h1, h2 => ⟨h, h1, h2⟩
  | b :: l, o, h, h1, h2 => foldD_ok l (dropO o b) (drop_ok b h h1 h2) (drop_len b h1 h2).1 (drop_len b h1 h2).2
theorem foldM_ok : ∀ (l : List UInt8) (o : Ort), (chkO o).2 = 0 → (chkO (l.foldl moreO o)).2 = 0 ∧ o.2.length ≤ (l.foldl moreO o).2.length ∧ (l.foldl moreO o).2.length ≤ o.2.length + l.length
  | [], o, h => ⟨h, by simp⟩
  | b :: l, o, h => by
    obtain ⟨a, c, d⟩ := foldM_ok l (moreO o b) (more_ok b h)
    have := more_len (o := o) b
    exact ⟨a, by simp only [List.foldl_cons, List.length_cons]; omega⟩
theorem made_ok (k : UInt8) (dr mo : List UInt8) : (chkO (madeO k dr mo)).2 = 0 ∧ 1 ≤ (madeO k dr mo).2.length ∧ (madeO k dr mo).2.length ≤ 56 := by
  obtain ⟨b1, b2, b3⟩ := base_ok k
  obtain ⟨d1, d2, d3⟩ := foldD_ok (dr.take 20) _ b1 b2 b3
  obtain ⟨m1, m2, m3⟩ := foldM_ok (mo.take 6) _ d1
  unfold madeO
  have : (mo.take 6).length ≤ 6 := by rw [List.length_take]; omega
  exact ⟨m1, by omega, by omega⟩
theorem findL_app (s : List UInt8) (x : Sgn) : ∀ (l : List Sgn) (k : Nat), findL s k (l ++ [x]) = findL s k l ++ if x.1 = s then [((k + l.length : Nat) : Int)] else []
  | [], k => by
    simp only [List.nil_append, findL, List.length_nil, Nat.add_zero]
  | y :: l, k => by
    have ih := findL_app s x l (k + 1)
    rw [List.cons_append, findL, findL, ih]
    rw [show k + (y :: l).length = k + 1 + l.length by simp only [List.length_cons]; omega]
    split <;> simp
theorem findL_len' (s : List UInt8) : ∀ (l : List Sgn) (k : Nat), (findL s k l).length ≤ l.length
  | [], k => by simp [findL]
  | y :: l, k => by
    have := findL_len' s l (k + 1)
    rw [findL]; split <;> simp only [List.length_cons] <;> omega
end Go.VN


namespace Go.VS.YtekfjbjdlenhoaaGreatDoor
open Go Go.VL Go.VN Go.RowKit Go.Proofs
set_option maxRecDepth 100000
set_option linter.unusedVariables false
set_option linter.unusedSimpArgs false

theorem o_Find (o : Ort) (s : List UInt8) (la : o.2.length ≤ 1000000000000) : SpcS X 16 [.agg [.pv (.str o.1), .pv (slc eSg o.2)], vS s] [] (.one (.own 1 1 (findL s 0 o.2).length)) [(1, (.pu 3 ((findL s 0 o.2).flatMap eI), false))] := by
  obtain ⟨nme, l⟩ := o
  refine SpcS.start 0 Tryz.func16 rfl (h := fun hs hs2 R hR => ?_)
  unfold Tryz.f16
  simp only [entryV]
  simp only at la
  refine walk (hQ := ?_)
  refine Lp.intro2 (fun (out : List Int) (i : Nat) => ⟨[(1, vS s), (2, .one (.ptr 0 0)), (5, .one (.own 1 1 out.length)), (9, vP (slc eSg l)), (10, vI l.length), (11, vI i)], [(0, (.mx [.pv (.str nme), .pv (slc eSg l)], false)), (1, (.pu 3 (out.flatMap eI), false))], 2⟩) (fun out i => i ≤ l.length ∧ out = findL s 0 (l.take i)) (fun out i => l.length - i) [] 0 ⟨Nat.zero_le _, by simp [findL]⟩ (h0 := le_ghost1 1 3 (hle := le_auto)) (hr := fun out i K ⟨hi, ho⟩ hK => ?_)
  have hol : out.length ≤ l.length := by
    have := findL_len s (l.take i) 0
    rw [← ho, List.length_take] at this
    omega
  refine walk (hQ := ?_)
  refine W_if (ht := fun h4 => ?_) (hf := fun h4 => ?_)
  · have hil : i < l.length := by omega
    have e0 := getD_some hil
    have hn := findL_next (s := s) e0
    rw [← ho] at hn
    refine walk (hQ := ?_)
    generalize l.getD i default = x at *
    obtain ⟨xa, xb, xc, xd⟩ := x
    simp only [eSg, List.map_cons, List.map_nil] at *
    refine walk (hQ := ?_)
    refine W_if (ht := fun h5 => ?_) (hf := fun h5 => ?_)
    · rw [if_pos h5] at hn
      refine walk (hQ := ?_)
      exact hK _ (out ++ [(i : Int)]) (i + 1) ⟨by omega, hn.symm⟩ (by omega) (by rw [List.length_append]; exact le_auto)
    · rw [if_neg h5, List.append_nil] at hn
      refine walk (hQ := ?_)
      exact hK _ out (i + 1) ⟨by omega, hn.symm⟩ (by omega) le_auto
  · obtain rfl : i = l.length := by omega
    rw [List.take_length] at ho
    rw [← ho] at hR
    refine walk (hQ := ?_)
    exact hR _ (retS1 (hy := rfl) (hle := ⟨rfl, trivial⟩))
theorem o_CloneSg (l : List Sgn) (h0 : 0 < l.length) (hl : l.length ≤ 1000000) : SpcS X 28 [vP (slc eSg l)] [] (.one (.own 0 4 l.length)) [(0, (.pu 44 (l.flatMap eSg), false))] := by
  refine SpcS.start 0 Tryz.func28 rfl (h := fun hs hs2 R hR => ?_)
  unfold Tryz.f28
  simp only [entryV]
  refine walk (hQ := ?_)
  refine R_app (e := eSg) (l := []) (l2 := l) (hK := ?_)
  refine walk (hQ := ?_)
  rw [show 0 + l.length = l.length from Nat.zero_add _]
  refine hR _ (retS1 (hy := rfl) (hle := ⟨rfl, trivial⟩))
theorem law_More (k : UInt8) (dr mo : List UInt8) (s : Sgn) (ht : s.1.length ≤ 140737488355328) : Spc X 8 [.agg [.int .u8 k.toNat, slc eU dr, slc eU mo], .agg (eSg s)] (.one (.bool true)) := by
  have km := g_MadeS k dr mo
  obtain ⟨m1, m2, m3⟩ := made_ok k dr mo
  generalize madeO k dr mo = o at *
  have kf := g_SFew s.2.1 6
  have kv := f_OValid o
  rw [m1] at kv
  have kw := f_OValid (o.1, o.2 ++ [s])
  have kx := g_OValid (o.1, o.2 ++ [s])
  have kl := o_Find (o.1, o.2 ++ [s]) s.1 (by simp only [List.length_append, List.length_singleton]; omega)
  rw [findL_app, if_pos rfl] at kl
  have hfl := findL_len' s.1 o.2 0
  obtain ⟨nm, l⟩ := o
  obtain ⟨st, ss, sc, sw⟩ := s
  simp only at *
  refine Spc.start Tryz.func8 rfl (h := fun hs R hR => ?_)
  unfold Tryz.f8
  simp only [entryE, PA.av, eSg, List.map_cons, List.map_nil]
  refine walk (hQ := ?_)
  refine R_call l_awake (hK := ?_)
  refine walk (hQ := ?_)
  refine R_g_if (h1 := fun h1 => ?_) (h2 := fun h1 => ?_) <;> simp only [Bool.false_eq_true, if_false, if_true, Decidable.not_not] at h1
  · refine walk (hQ := ?_)
    refine R_call kf (hK := ?_)
    refine walk (hQ := ?_)
    cases fewS ss 6 with
    | false =>
      refine walk (hQ := ?_)
      refine R_call l_awake (hK := ?_)
      refine walk (hQ := ?_)
      exact hR _ (ret1 (hp := rfl))
    | true =>
      refine walk (hQ := ?_)
      refine R_callNY (pas := [.agg [.int .u8 k.toNat, slc eU dr, slc eU mo]]) km (hK := ?_)
      refine walk (hQ := ?_)
      refine R_callNY (pas := [.one (slc eSg l)]) (o_CloneSg l (by omega) (by omega)) (hK := ?_)
      refine walk (hQ := ?_)
      refine R_bsl eSg (l := [(st, ss, sc, sw)]) (hK := ?_)
      refine walk (hQ := ?_)
      refine Lp.frz 4 ?_
      refine Lp.intro (fun (i : Nat) => ⟨[(2, .one (.ptr 0 0)), (3, .one (.ptr 1 0)), (5, .one (.ptr 3 0)), (6, .one (.ptr 6 0)), (39, .one (.own 2 4 l.length)), (40, vI l.length), (41, vI i)], [(0, (.mx [.pv (.int .u8 k.toNat), .pv (slc eU dr), .pv (slc eU mo)], false)), (1, (.mx [.pv (.str st), .pv (slc eSd ss), .pv (.int .i64 sc), .pv (.int .i64 sw)], false)), (2, (.pu 44 (l.flatMap eSg), true)), (3, (.mx [.pv (.str nm), .own 2 4 l.length], false)), (4, (.pu 44 ((l ++ [(st, ss, sc, sw)]).flatMap eSg), true)), (6, (.mx [.pv (.str nm), .own 4 4 (l.length + 1)], false))], 7⟩) (fun i => i ≤ l.length) (fun i => l.length - i) 0 (Nat.zero_le _) (h0 := le_auto) (hr := fun i K hi hK => ?_)
      refine walk (hQ := ?_)
      refine W_if (ht := fun h2 => ?_) (hf := fun h2 => ?_)
      · have hil : i < l.length := by omega
        have hla := getD_some hil
        refine walk (hQ := ?_)
        have hln : (l ++ [(st, ss, sc, sw)]).length = l.length + 1 := by simp
        generalize l.getD i default = x at *
        obtain ⟨xt, xs, xc, xw⟩ := x
        have kfa := o_Find (nm, l) xt (by simp only; omega)
        have kfb := o_Find (nm, l ++ [(st, ss, sc, sw)]) xt (by simp only [hln]; omega)
        simp only [findL_app, Nat.zero_add] at kfa kfb
        have hfx := findL_len' xt l 0
        generalize findL xt 0 l = F at *
        refine R_ldOA hla (hK := ?_)
        refine walk (hQ := ?_)
        refine R_callNY (pas := [orA (nm, l), .one (.str xt)]) kfa (hK := ?_)
        refine walk (hQ := ?_)
        refine R_callNY (pas := [orA (nm, l ++ [(st, ss, sc, sw)]), .one (.str xt)]) kfb (hK := ?_)
        refine walk (hQ := ?_)
        refine W_if (ht := fun h3 => ?_) (hf := fun h3 => ?_)
        · rw [if_pos (show st = xt from h3.symm)]
          have ke := s_EqualI (F ++ [(l.length : Int)]) (F ++ [(l.length : Int)])
          rw [decide_eq_true rfl] at ke
          refine walk (hQ := ?_)
          refine R_callP (ids' := []) ke (hK := ?_)
          refine walk (hQ := ?_)
          exact hK _ (i + 1) (by omega) (by omega) le_auto
        · rw [if_neg (show ¬ st = xt from fun e => h3 e.symm), List.append_nil]
          have ke := s_EqualI F F
          rw [decide_eq_true rfl] at ke
          refine walk (hQ := ?_)
          refine R_callP (ids' := []) ke (hK := ?_)
          refine walk (hQ := ?_)
          exact hK _ (i + 1) (by omega) (by omega) le_auto
      · obtain rfl : i = l.length := by omega
        simp only [Nat.zero_add] at kl
        generalize findL st 0 l = F at *
        have hFl : (F ++ [(l.length : Int)]).length = F.length + 1 := by simp
        rw [hFl] at kl
        refine walk (hQ := ?_)
        refine R_callNY (pas := [orA (nm, l ++ [(st, ss, sc, sw)]), .one (.str st)]) kl (hK := ?_)
        refine walk (hQ := ?_)
        refine R_g_if (h1 := fun h4 => ?_) (h2 := fun h4 => ?_) <;> simp only [Bool.false_eq_true, if_false, if_true, Decidable.not_not] at h4
        · refine walk (hQ := ?_)
          rw [show ((F.length + 1 : Nat) : Int) - 1 = (F.length : Int) by omega]
          refine walk (hQ := ?_)
          have hlast : (F ++ [(l.length : Int)]).getD ((F.length : Int)).toNat 0 = (l.length : Int) := by simp
          refine R_g_if (h1 := fun h5 => ?_) (h2 := fun h5 => ?_) <;> simp only [Bool.false_eq_true, if_false, if_true, Decidable.not_not] at h5
          · refine walk (hQ := ?_)
            refine R_callP (ids' := []) kv (hK := ?_)
            refine walk (hQ := ?_)
            refine R_callP (ids' := []) kw (hK := ?_)
            refine walk (hQ := ?_)
            refine R_callP (ids' := []) kx (hK := ?_)
            refine walk (hQ := ?_)
            rw [decide_eq_true (show decide ((chkO (nm, l ++ [(st, ss, sc, sw)])).2 = 0) = decide ((chkO (nm, l ++ [(st, ss, sc, sw)])).2 = 0) from rfl)]
            refine walk (hQ := ?_)
            exact hR _ (ret1 (hp := rfl))
          · exact absurd hlast h5
        · omega
  · refine walk (hQ := ?_)
    refine R_call l_awake (hK := ?_)
    refine walk (hQ := ?_)
    exact hR _ (ret1 (hp := rfl))
theorem u8_of {z : Int} (h : IntKind.u8.min ≤ z ∧ z ≤ IntKind.u8.max) : ∃ b : UInt8, [PV.int .u8 z] = eU b ∧ True := by
  have h1 : (0 : Int) ≤ z := h.1
  have h2 : z ≤ 255 := h.2
  refine ⟨UInt8.ofNat z.toNat, ?_, trivial⟩
  unfold eU
  have h3 : (UInt8.ofNat z.toNat).toNat = z.toNat := UInt8.toNat_ofNat_of_lt' (show z.toNat < 256 by omega)
  rw [h3, show ((z.toNat : Nat) : Int) = z by omega]
abbrev DU8 := (Dec.int .u8).map (γ := UInt8) (f := eU) (C := fun _ => True) (fun z h => u8_of h)
abbrev DDr := DU8.pair ((Dec.sl DU8 (b := 1)).pair (Dec.sl DU8 (b := 1)))
end Go.VS.YtekfjbjdlenhoaaGreatDoor


namespace Go.VS.YtekfjbjdlenhoaaGreatDoor
open Go Go.VL Go.VN Go.RowKit Go.Proofs
set_option maxRecDepth 100000
set_option linter.unusedVariables false
set_option linter.unusedSimpArgs false

theorem law_Where (k : UInt8) (dr mo : List UInt8) (sg : UInt8) (b a : List Snd) : Spc X 5 [.agg [.int .u8 k.toNat, slc eU dr, slc eU mo], .one (.int .u8 sg.toNat), .agg [slc eSd b, slc eSd a]] (.one (.bool true)) := by
  have km := g_MadeS k dr mo
  obtain ⟨m1, m2, m3⟩ := made_ok k dr mo
  generalize madeO k dr mo = o at *
  have k2 := g_SFew b 20
  have k3 := g_SFew a 20
  obtain ⟨nm, l⟩ := o
  simp only at *
  have hsb := UInt8.toNat_lt sg
  refine Spc.start Tryz.func5 rfl (h := fun hs R hR => ?_)
  unfold Tryz.f5
  simp only [entryE, PA.av, List.map_cons, List.map_nil]
  refine walk (hQ := ?_)
  refine R_call l_awake (hK := ?_)
  refine walk (hQ := ?_)
  refine R_call k2 (hK := ?_)
  refine walk (hQ := ?_)
  cases fewS b 20 with
  | false =>
    refine walk (hQ := ?_)
    refine R_call l_awake (hK := ?_)
    refine walk (hQ := ?_)
    exact hR _ (ret1 (hp := rfl))
  | true =>
  refine walk (hQ := ?_)
  refine R_call k3 (hK := ?_)
  refine walk (hQ := ?_)
  cases fewS a 20 with
  | false =>
    refine walk (hQ := ?_)
    refine R_call l_awake (hK := ?_)
    refine walk (hQ := ?_)
    exact hR _ (ret1 (hp := rfl))
  | true =>
  refine walk (hQ := ?_)
  refine R_callNY (pas := [.agg [.int .u8 k.toNat, slc eU dr, slc eU mo]]) km (hK := ?_)
  refine walk (hQ := ?_)
  rw [show (sg.toNat : Int) % (l.length : Int) = ((sg.toNat % l.length : Nat) : Int) by omega]
  have hq := Nat.mod_lt sg.toNat (show 0 < l.length by omega)
  generalize sg.toNat % l.length = q at *
  have hla : l[q]? = some (l.getD q default) := getD_some hq
  generalize l.getD q default = x at *
  obtain ⟨xt, xs, xc, xw⟩ := x
  refine walk (hQ := ?_)
  have hset : ∀ y : Sgn, (l.set q y)[q]? = some y := fun y => by rw [List.getElem?_set_self hq]
  have hl0 : l.set q (xt, xs, xc, xw) = l := set_self? hla
  have hfit : ∀ w : Int, fitsO (nm, l.set q (xt, xs, xc, w)) (q : Int) b a = fitW w b a := fun w => by
    unfold fitsO
    simp only [List.length_set]
    rw [if_neg (by omega), Int.toNat_natCast, List.getD_eq_getElem?_getD, hset]; rfl
  have kF : ∀ w : Int, Spc X 13 [orA (nm, l.set q (xt, xs, xc, w)), .one (.int .i64 (q : Int)), .one (slc eSd b), .one (slc eSd a)] (.one (.bool (fitW w b a))) := fun w => by rw [← hfit w]; exact f_Fits _ _ b a
  refine Lp.rounds ?_
  rw [← hl0]
  simp only [List.length_set]
  refine LpI.le ⟨[(5, .one (.ptr 1 0)), (6, vB false), (7, .one (.ptr 3 0)), (8, vI q), (9, .one (.ptr 4 0)), (34, vI 0)], [(1, (.mx [.pv (slc eSd b), .pv (slc eSd a)], false)), (2, (.pu 44 ((l.set q (xt, xs, xc, xw)).flatMap eSg), false)), (3, (.mx [.pv (.str nm), .own 2 4 l.length], false)), (4, (.mx [.pv (.bool false), .pv (.bool false), .pv (.bool false), .pv (.bool false), .pv (.bool false)], false))], 5⟩ le_auto ?_
  refine LpI.round (h := ?_)
  refine walk (hQ := ?_)
  refine R_stOF (e := eSg) (b := (xt, xs, xc, (0 : Int))) (p := .int .i64 0) (hset _) rfl (hK := ?_)
  rw [List.set_set]
  refine walk (hQ := ?_)
  refine R_callP (ids' := []) (kF 0) (hK := ?_)
  refine walk (hQ := ?_)
  refine LpI.le ⟨[(5, .one (.ptr 1 0)), (6, vB false), (7, .one (.ptr 3 0)), (8, vI q), (9, .one (.ptr 4 0)), (34, vI 1)], [(1, (.mx [.pv (slc eSd b), .pv (slc eSd a)], false)), (2, (.pu 44 ((l.set q (xt, xs, xc, (0 : Int))).flatMap eSg), false)), (3, (.mx [.pv (.str nm), .own 2 4 l.length], false)), (4, (.mx [.pv (.bool (fitW 0 b a)), .pv (.bool false), .pv (.bool false), .pv (.bool false), .pv (.bool false)], false))], 5⟩ le_auto ?_
  refine LpI.round (h := ?_)
  refine walk (hQ := ?_)
  refine R_stOF (e := eSg) (b := (xt, xs, xc, (1 : Int))) (p := .int .i64 1) (hset _) rfl (hK := ?_)
  rw [List.set_set]
  refine walk (hQ := ?_)
  refine R_callP (ids' := []) (kF 1) (hK := ?_)
  refine walk (hQ := ?_)
  refine LpI.le ⟨[(5, .one (.ptr 1 0)), (6, vB false), (7, .one (.ptr 3 0)), (8, vI q), (9, .one (.ptr 4 0)), (34, vI 2)], [(1, (.mx [.pv (slc eSd b), .pv (slc eSd a)], false)), (2, (.pu 44 ((l.set q (xt, xs, xc, (1 : Int))).flatMap eSg), false)), (3, (.mx [.pv (.str nm), .own 2 4 l.length], false)), (4, (.mx [.pv (.bool (fitW 0 b a)), .pv (.bool (fitW 1 b a)), .pv (.bool false), .pv (.bool false), .pv (.bool false)], false))], 5⟩ le_auto ?_
  refine LpI.round (h := ?_)
  refine walk (hQ := ?_)
  refine R_stOF (e := eSg) (b := (xt, xs, xc, (2 : Int))) (p := .int .i64 2) (hset _) rfl (hK := ?_)
  rw [List.set_set]
  refine walk (hQ := ?_)
  refine R_callP (ids' := []) (kF 2) (hK := ?_)
  refine walk (hQ := ?_)
  refine LpI.le ⟨[(5, .one (.ptr 1 0)), (6, vB false), (7, .one (.ptr 3 0)), (8, vI q), (9, .one (.ptr 4 0)), (34, vI 3)], [(1, (.mx [.pv (slc eSd b), .pv (slc eSd a)], false)), (2, (.pu 44 ((l.set q (xt, xs, xc, (2 : Int))).flatMap eSg), false)), (3, (.mx [.pv (.str nm), .own 2 4 l.length], false)), (4, (.mx [.pv (.bool (fitW 0 b a)), .pv (.bool (fitW 1 b a)), .pv (.bool (fitW 2 b a)), .pv (.bool false), .pv (.bool false)], false))], 5⟩ le_auto ?_
  refine LpI.round (h := ?_)
  refine walk (hQ := ?_)
  refine R_stOF (e := eSg) (b := (xt, xs, xc, (3 : Int))) (p := .int .i64 3) (hset _) rfl (hK := ?_)
  rw [List.set_set]
  refine walk (hQ := ?_)
  refine R_callP (ids' := []) (kF 3) (hK := ?_)
  refine walk (hQ := ?_)
  refine LpI.le ⟨[(5, .one (.ptr 1 0)), (6, vB false), (7, .one (.ptr 3 0)), (8, vI q), (9, .one (.ptr 4 0)), (34, vI 4)], [(1, (.mx [.pv (slc eSd b), .pv (slc eSd a)], false)), (2, (.pu 44 ((l.set q (xt, xs, xc, (3 : Int))).flatMap eSg), false)), (3, (.mx [.pv (.str nm), .own 2 4 l.length], false)), (4, (.mx [.pv (.bool (fitW 0 b a)), .pv (.bool (fitW 1 b a)), .pv (.bool (fitW 2 b a)), .pv (.bool (fitW 3 b a)), .pv (.bool false)], false))], 5⟩ le_auto ?_
  refine LpI.round (h := ?_)
  refine walk (hQ := ?_)
  refine R_stOF (e := eSg) (b := (xt, xs, xc, (4 : Int))) (p := .int .i64 4) (hset _) rfl (hK := ?_)
  rw [List.set_set]
  refine walk (hQ := ?_)
  refine R_callP (ids' := []) (kF 4) (hK := ?_)
  refine walk (hQ := ?_)
  refine LpI.le ⟨[(5, .one (.ptr 1 0)), (6, vB false), (7, .one (.ptr 3 0)), (8, vI q), (9, .one (.ptr 4 0)), (34, vI 5)], [(1, (.mx [.pv (slc eSd b), .pv (slc eSd a)], false)), (2, (.pu 44 ((l.set q (xt, xs, xc, (4 : Int))).flatMap eSg), false)), (3, (.mx [.pv (.str nm), .own 2 4 l.length], false)), (4, (.mx [.pv (.bool (fitW 0 b a)), .pv (.bool (fitW 1 b a)), .pv (.bool (fitW 2 b a)), .pv (.bool (fitW 3 b a)), .pv (.bool (fitW 4 b a))], false))], 5⟩ le_auto ?_
  rw [fitW0, fitW1, fitW2, fitW3, fitW4]
  generalize begs a = g
  cases b with
  | nil =>
    rw [show ends ([] : List Snd) = false from rfl, show (([] : List Snd).isEmpty) = true from rfl]
    cases g with
    | true =>
      refine LpI.round (h := ?_)
      refine walk (hQ := ?_)
      exact hR _ (ret1 (hp := rfl))
    | false =>
      refine LpI.round (h := ?_)
      refine walk (hQ := ?_)
      exact hR _ (ret1 (hp := rfl))
  | cons y bs =>
    rw [show ((y :: bs).isEmpty) = false from rfl]
    generalize ends (y :: bs) = n
    cases g with
    | true =>
      cases n with
      | true =>
        refine LpI.round (h := ?_)
        refine walk (hQ := ?_)
        exact hR _ (ret1 (hp := rfl))
      | false =>
        refine LpI.round (h := ?_)
        refine walk (hQ := ?_)
        exact hR _ (ret1 (hp := rfl))
    | false =>
      cases n with
      | true =>
        refine LpI.round (h := ?_)
        refine walk (hQ := ?_)
        exact hR _ (ret1 (hp := rfl))
      | false =>
        refine LpI.round (h := ?_)
        refine walk (hQ := ?_)
        exact hR _ (ret1 (hp := rfl))
end Go.VS.YtekfjbjdlenhoaaGreatDoor

