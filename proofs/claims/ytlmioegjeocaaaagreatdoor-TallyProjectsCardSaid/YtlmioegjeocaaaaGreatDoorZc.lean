/- Contracts over whole values, and what they lean on: part c. Each holds under the conditions that it states. -/
import Derived.Test.YtlmioegjeocaaaaGreatDoorZb
import Derived.Lib.AppendStr
import Derived.Lib.ConvBytes
import Derived.Laws.BytesString
import Derived.Laws.IdiomStrings
set_option linter.unusedVariables false
set_option linter.unusedSimpArgs false

namespace Go.VL
open Go.RowKit
set_option linter.unusedVariables false

theorem HRel.congr {X : Ctx} {F : Fr} {h h' : Hp} {β : Bt} {w : World} (r : HRel X F h β w) (e : ∀ i, look h' i = look h i) : HRel X F h' β w := by
  have hok : F.ok w h' β = F.ok w h β := by
    funext b; unfold Fr.ok; simp only [e]
  exact ⟨r.below, r.g, fun id bx z hl => by rw [hok]; exact r.box id bx z (by rw [← e]; exact hl), fun i i' e1 e2 g hne h1 h2 => r.inj i i' e1 e2 g hne (by rw [← e]; exact h1) (by rw [← e]; exact h2), fun id bx z hl i hi => by rw [e]; exact r.wf id bx z (by rw [← e]; exact hl) i hi, r.pin.sub fun i x hl => ⟨x, by rw [← e]; exact hl⟩⟩
/-- A box that has no block yet. -/
theorem post_ghost {X : Ctx} {F : Fr} {h : Hp} {β : Bt} {w : World} (r : HRel X F h β w) {id : Nat} {e : TypeId} (hn : look h id = none) (hid : id < 1000) : Post X F h β w (put h id (.pu e [], false)) (upd1 β id none) w none := by
  have hok : ∀ b, F.ok w h β b → F.ok w (put h id (.pu e [], false)) (upd1 β id none) b := fun b hb => ⟨hb.1, hb.2.1, fun i bx hl hg => by
    rw [look_put] at hl
    unfold upd1 at hg
    by_cases hi : i = id
    · rw [if_pos hi] at hg; cases hg
    · rw [if_neg hi] at hl hg; exact hb.2.2 i bx hl hg⟩
  have k : Keeps (fun i => (look h i).isSome = true) w (F.ok w h β) β w (F.ok w (put h id (.pu e [], false)) (upd1 β id none)) (upd1 β id none) := ⟨fun b hb => ⟨hok b hb, rfl⟩, fun i hi => by
    have hne : i ≠ id := fun e => by subst e; rw [hn] at hi; cases hi
    exact ⟨by simp [upd1, hne], fun _ _ => rfl⟩⟩
  refine ⟨⟨r.below, r.g, fun i bx z hl => ?_, fun i i' e1 e2 g hne h1 h2 b1 b2 => ?_, fun i bx z hl j hj => ?_, r.pin.upd hid fun i g _ _ e => by cases e⟩, ⟨k.blk, fun i hi => k.ids i hi.1⟩, fun i hi => by rw [look_put]; split <;> simp_all⟩
  · rw [look_put] at hl
    by_cases hi : i = id
    · rw [if_pos hi] at hl
      simp only [Option.some.injEq, Prod.mk.injEq] at hl
      obtain ⟨rfl, rfl⟩ := hl
      unfold BoxRep
      rw [show upd1 β id none i = none by simp [upd1, hi]]
      rfl
    · rw [if_neg hi] at hl
      exact (r.box i bx z hl).keeps k (by simp [upd1, hi]) (fun _ _ => rfl) (fun j hj => r.wf i bx z hl j hj)
  · rw [look_put] at h1 h2
    unfold upd1 at b1 b2
    by_cases hi : i = id
    · rw [if_pos hi] at b1; cases b1
    · rw [if_neg hi] at h1 b1
      by_cases hi' : i' = id
      · rw [if_pos hi'] at b2; cases b2
      · rw [if_neg hi'] at h2 b2; exact r.inj i i' e1 e2 g hne h1 h2 b1 b2
  · rw [look_put] at hl ⊢
    by_cases hj2 : j = id
    · simp [hj2]
    · rw [if_neg hj2]
      by_cases hi : i = id
      · rw [if_pos hi] at hl
        simp only [Option.some.injEq, Prod.mk.injEq] at hl
        obtain ⟨rfl, rfl⟩ := hl
        simp [Bx.cells, acRefs] at hj
      · rw [if_neg hi] at hl; exact r.wf i bx z hl j hj

theorem HRel.scrub {X : Ctx} {F : Fr} {h : Hp} {β : Bt} {w : World} (r : HRel X F h β w) (m : Nat) : HRel X F (scrubH m h) β w := by
  have hs : ∀ {i bx z}, look (scrubH m h) i = some (bx, z) → ∃ bx0, look h i = some (bx0, z) ∧ bx = bx0.scrub m := fun {i bx z} hl => by
    rw [look_scrubH] at hl
    cases hh : look h i with
    | none => rw [hh] at hl; cases hl
    | some e =>
      rw [hh] at hl
      simp only [Option.map_some, Option.some.injEq, Prod.mk.injEq] at hl
      obtain ⟨rfl, rfl⟩ := hl
      exact ⟨e.1, rfl, rfl⟩
  have hok : ∀ b, F.ok w h β b → F.ok w (scrubH m h) β b := fun b hb => ⟨hb.1, hb.2.1, fun i bx hl => by
    obtain ⟨bx0, h0, _⟩ := hs hl
    exact hb.2.2 i bx0 h0⟩
  refine ⟨r.below, r.g, fun i bx z hl => ?_, fun i i' e1 e2 g hne h1 h2 => ?_, fun i bx z hl j hj => ?_, r.pin.sub fun i e hl => by
    obtain ⟨bx, z⟩ := e
    obtain ⟨bx0, h0, _⟩ := hs hl
    exact ⟨_, h0⟩⟩
  · obtain ⟨bx0, h0, rfl⟩ := hs hl
    refine ((r.box i bx0 z h0).scrub m).keeps (S := fun _ => True) ⟨fun b hb => ⟨hok b hb, rfl⟩, fun _ _ => ⟨rfl, fun _ _ => rfl⟩⟩ rfl (fun _ _ => rfl) (fun _ _ => trivial)
  · obtain ⟨b1, z1⟩ := e1; obtain ⟨b2, z2⟩ := e2
    obtain ⟨_, f1, _⟩ := hs h1
    obtain ⟨_, f2, _⟩ := hs h2
    exact r.inj i i' _ _ g hne f1 f2
  · obtain ⟨bx0, h0, rfl⟩ := hs hl
    rw [Bx.scrub_cells] at hj
    rw [look_scrubH]
    simpa using r.wf i bx0 z h0 j (acRefs_scrub hj).1
theorem grownBy_refl (w : World) : w.grownBy w none := ⟨rfl, rfl, rfl, Nat.le_refl _, fun _ _ _ => rfl⟩
theorem run_append_zero {P : Program} {w : World} {t ty e : TypeId} {i : TypeInfo} (ht : P.underlying t = some (.slice e)) (hi : P.info? e = some i) {A B : Option Addr} {n cap c : Nat} (hn : n ≤ cap) :
    (Builtin.append_ #[t, t] ty #[.slice A n cap, .slice B 0 c]).run P w = .ok (.slice A n cap) w := by
  have h1 : (Builtin.firstCells i.size 0 (.slice B 0 c)).run P w = .ok #[] w := by
    cases B <;> simp [Builtin.firstCells, loadCells, loadCellsFrom]
  cases A <;> simp [Builtin.append_, run_underlying ht, sizeOf, typeInfo, hi, Builtin.lenOf, hn, h1, storeCells]
/-- Nothing is appended. -/
theorem append_zero {X : Ctx} {F : Fr} {h : Hp} {β : Bt} {w : World} (r : HRel X F h β w) {e : TypeId} {S : Nat} {id n : Nat} {l : List PV} (hl : look h id = some (.pu e l, false)) {v : Value} (hv : OwnRep w β id S n v) (hid5 : id < 500) :
    ∃ β', Post X F h β w (put (scrubH id h) id (.pu e (l.take (n * S)), false)) β' w (some id) ∧ OwnRep w β' id S n v ∧ ∃ A cap, v = .slice A n cap ∧ n ≤ cap := by
  have hid : id < 1000 := by omega
  have hdom : ∀ i, (look h i).isSome = true → (look (put (scrubH id h) id (.pu e (l.take (n * S)), false)) i).isSome = true := fun i hi => by
    rw [look_put, look_scrubH]; split <;> simp_all
  have keepid : ∀ {g : Nat}, β id = some g → upd1 β id (some g) = β := fun {g} hg => by
    funext j; unfold upd1; split <;> simp_all
  rcases hv with ⟨rfl, rfl⟩ | ⟨g, cap', hg, rfl, h1, h2, h3⟩
  · cases hβ : β id with
    | none =>
      have hb' := r.box id _ _ hl
      unfold BoxRep at hb'
      rw [hβ] at hb'
      obtain rfl : l = [] := by simpa [Bx.cells] using hb'
      have hc : ∀ j, look (put (scrubH id h) id (.pu e (List.take (0 * S) []), false)) j = look (scrubH id h) j := fun j => by
        rw [look_put]
        split
        · rename_i hj; subst hj; rw [look_scrubH, hl]; simp [Bx.scrub]
        · rfl
      refine ⟨β, ⟨(r.scrub id).congr hc, ⟨fun b hb' => ⟨⟨hb'.1, hb'.2.1, fun j bx hj => ?_⟩, rfl⟩, fun _ _ => ⟨rfl, fun _ _ => rfl⟩⟩, hdom⟩, .inl ⟨rfl, rfl⟩, _, _, rfl, Nat.le_refl _⟩
      rw [hc, look_scrubH] at hj
      cases hh : look h j with
      | none => rw [hh] at hj; cases hj
      | some x =>
        rw [hh] at hj
        simp only [Option.map_some, Option.some.injEq, Prod.mk.injEq] at hj
        obtain ⟨bx0, z0⟩ := x
        simp only at hj
        obtain ⟨_, rfl⟩ := hj
        exact hb'.2.2 j bx0 hh
    | some g =>
      obtain ⟨arr, harr, hcc⟩ := box_pu r hl hβ
      have hmv := r.move (bx' := .pu e (l.take (0 * S))) hid hl (grownBy_refl w) (fun k hk => by cases hk) (.inl hβ) rfl (harr.low (.inl hid5)) (fun e' l' he => by cases he; rfl) (fun j c hj => by simp [Bx.cells] at hj) (fun j hj => by simp [Bx.cells, acRefs] at hj)
      have hkp := r.move_keeps (bx' := .pu e (l.take (0 * S))) hl (grownBy_refl w) (fun k hk => by cases hk) (.inl hβ)
      rw [keepid hβ] at hmv hkp
      exact ⟨β, ⟨hmv, hkp, hdom⟩, .inl ⟨rfl, rfl⟩, _, _, rfl, Nat.le_refl _⟩
  · obtain ⟨arr, harr, hcc⟩ := box_pu r hl hg
    have hmv := r.move (bx' := .pu e (l.take (n * S))) hid hl (grownBy_refl w) (fun k hk => by cases hk) (.inl hg) rfl (harr.low (.inl hid5)) (fun e' l' he => by cases he; rfl) (fun j c hj => by
      simp only [Bx.cells, List.getElem?_map, List.getElem?_take] at hj
      split at hj
      · cases hp : l[j]? with
        | none => rw [hp] at hj; cases hj
        | some p =>
          rw [hp] at hj
          simp only [Option.map_some, Option.some.injEq] at hj
          subst hj
          exact hcc j p hp
      · cases hj) (fun j hj => by simp only [Bx.cells] at hj; rw [acRefs_pv] at hj; cases hj)
    have hkp := r.move_keeps (bx' := .pu e (l.take (n * S))) hl (grownBy_refl w) (fun k hk => by cases hk) (.inl hg)
    rw [keepid hg] at hmv hkp
    exact ⟨β, ⟨hmv, hkp, hdom⟩, .inr ⟨g, cap', hg, rfl, h1, h2, h3⟩, _, _, rfl, h1⟩
/-- The row as it is. -/
theorem own_row {X : Ctx} {F : Fr} {h : Hp} {β : Bt} {w : World} (r : HRel X F h β w) {e : TypeId} {sz id n : Nat} {l : List PV} (hl : look h id = some (.pu e l, false)) {v : Value} (hv : OwnRep w β id sz n v) (hnl : n * sz ≤ l.length) (hid5 : id < 500) :
    ∃ xs, w.ownsRow 0 e sz v n xs ∧ (∀ (j : Nat) p, (l.take (n * sz))[j]? = some p → ∃ u, xs[j]? = some u ∧ RepP w (F.ok w h β) p u) ∧ ∀ k, v.ownBlock = some k → β id = some k := by
  rcases hv with ⟨rfl, rfl⟩ | ⟨g, cap', hg, rfl, h1, h2, h3⟩
  · exact ⟨[], World.ownsRow_nil w _ e sz, fun j p hj => by simp at hj, fun k hk => by simp [Value.ownBlock] at hk⟩
  · obtain ⟨arr, harr, hcc⟩ := box_pu r hl hg
    have hbs : (bsh w g).2 = arr.size := by rw [harr.bsh]
    have hle : n * sz ≤ arr.size := by rw [← hbs, ← h3]; exact Nat.mul_le_mul_right _ h1
    refine ⟨arr.toList.take (n * sz), ⟨by rw [List.length_take, Array.length_toList]; omega, .inr ⟨g, cap', arr, rfl, Nat.zero_le _, harr.low (.inl hid5), h1, h2, by rw [h3, hbs], rfl⟩⟩, fun j p hj => ?_, fun k hk => by simp [Value.ownBlock] at hk; subst hk; exact hg⟩
    rw [List.getElem?_take] at hj ⊢
    split at hj
    · rename_i hjn
      rw [if_pos hjn]
      obtain ⟨u, hu, hr⟩ := hcc j p hj
      exact ⟨u, by simpa using hu, hr⟩
    · cases hj
/-- What stands behind an append. -/
theorem append_fin {X : Ctx} {F : Fr} {h : Hp} {β : Bt} {w w' : World} (r : HRel X F h β w) {e : TypeId} {sz id n m : Nat} {l cells : List PV} (hl : look h id = some (.pu e l, false)) {v v' : Value} (hnl : n * sz ≤ l.length) (hml : cells.length = m * sz) (hid : id < 1000) (hpm : 0 < m)
    {xs news : List Value} (hxl : xs.length = n * sz) (hxs : ∀ (j : Nat) p, (l.take (n * sz))[j]? = some p → ∃ u, xs[j]? = some u ∧ RepP w (F.ok w h β) p u) (hblk : ∀ k, v.ownBlock = some k → β id = some k)
    (hnw : ∀ (j : Nat) p, cells[j]? = some p → ∃ u, news[j]? = some u ∧ RepP w (F.ok w h β) p u) (hown' : w'.ownsRow 0 e sz v' (n + m) (xs ++ news)) (hgr : w.grownBy w' v.ownBlock) (hat : v'.ownBlock = v.ownBlock ∨ v'.ownBlock = some w.heap.size) :
    ∃ β', Post X F h β w (put (scrubH id h) id (.pu e (l.take (n * sz) ++ cells), false)) β' w' (some id) ∧ OwnRep w' β' id sz (n + m) v' := by
  have hdom : ∀ i, (look h i).isSome = true → (look (put (scrubH id h) id (.pu e (l.take (n * sz) ++ cells), false)) i).isSome = true := fun i hi => by
    rw [look_put, look_scrubH]; split <;> simp_all
  rcases hown'.2 with ⟨hn', hz'⟩ | ⟨g', cap', cur, rfl, hbg, hg', hnc, hcm, hcs, htake⟩
  · omega
  · have hloc : β id = some g' ∨ g' = w.heap.size := by
      rcases hat with hat | hat
      · exact .inl (hblk g' (by rw [← hat]; rfl))
      · right; simpa [Value.ownBlock] using hat
    have hcur : ∀ (j : Nat) c, (Bx.pu e (l.take (n * sz) ++ cells)).cells[j]? = some c → ∃ u : Value, cur[j]? = some u ∧ RepC w (F.ok w h β) β c u := fun j c hj => by
      simp only [Bx.cells, List.getElem?_map] at hj
      cases hp : (l.take (n * sz) ++ cells)[j]? with
      | none => rw [hp] at hj; cases hj
      | some p =>
        rw [hp] at hj
        simp only [Option.map_some, Option.some.injEq] at hj
        subst hj
        have hcur' : ∀ u, (xs ++ news)[j]? = some u → cur[j]? = some u := fun u hu => by
          rw [← htake, List.getElem?_take] at hu
          split at hu
          · simpa using hu
          · cases hu
        rw [List.getElem?_append, List.length_take, Nat.min_eq_left hnl] at hp
        split at hp
        · rename_i hlt
          obtain ⟨u, hu, hr⟩ := hxs j p hp
          exact ⟨u, hcur' u (by rw [List.getElem?_append, hxl, if_pos hlt]; exact hu), hr⟩
        · rename_i hge
          obtain ⟨u, hu, hr⟩ := hnw _ p hp
          exact ⟨u, hcur' u (by rw [List.getElem?_append, hxl, if_neg hge]; exact hu), hr⟩
    have hw0 : ∀ i ∈ acRefs (Bx.pu e (l.take (n * sz) ++ cells)).cells, (look h i).isSome = true ∧ i ≠ id := fun i hi => by
      simp only [Bx.cells] at hi; rw [acRefs_pv] at hi; cases hi
    refine ⟨upd1 β id (some g'), ⟨r.move hid hl hgr hblk hloc rfl hg' (fun e' l' he => by cases he; rfl) hcur hw0, r.move_keeps hl hgr hblk hloc, hdom⟩, .inr ⟨g', cap', by simp [upd1], rfl, hnc, hcm, ?_⟩⟩
    unfold bsh; rw [hg']; exact hcs.symm
theorem append_core {X : Ctx} {F : Fr} {h : Hp} {β : Bt} {w : World} (r : HRel X F h β w) {t ty e : TypeId} {i : TypeInfo} {z : Value} {S B : Nat} (ht : X.P.underlying t = some (.slice e)) (hi : X.P.info? e = some i) (hz : i.zero = some z) (hs : i.size = S) (hby : i.bytes = B)
    (hzs : z.cells.size = S) (hS : 0 < S) (hB : 0 < B) {id n : Nat} {l : List PV} (hl : look h id = some (.pu e l, false)) {v v2 : Value} (hv : OwnRep w β id S n v) (hnl : n * S ≤ l.length) {m : Nat} {cells : List PV} (hm : RepP w (F.ok w h β) (.sl m cells) v2) (hml : cells.length = m * S)
    (hb : (n + m) * B ≤ 140737488355328) (hid5 : id < 500) :
    ∃ v' w' β', (Builtin.append_ #[t, t] ty #[v, v2]).run X.P w = .ok v' w' ∧ Post X F h β w (put (scrubH id h) id (.pu e (l.take (n * S) ++ cells), false)) β' w' (some id) ∧ OwnRep w' β' id S (n + m) v' := by
  have hv2 : RepV w (F.ok w h β) β (.one (.pv (.sl m cells))) v2 := hm
  obtain ⟨A, cap, rfl, hmc, hm0, _, hpos⟩ := one_sl hv2
  rcases Nat.eq_zero_or_pos m with h0 | hpm
  · subst h0
    obtain rfl := hm0 rfl
    simp only [List.append_nil, Nat.add_zero] at *
    obtain ⟨β', hp, ho, A', cap', rfl, hnc⟩ := append_zero r hl hv hid5
    exact ⟨_, w, β', run_append_zero ht hi hnc, hp, ho⟩
  · obtain ⟨_, sz, b, o, rfl, hl', hok, hc⟩ := hpos hpm
    obtain rfl : sz = S := Nat.eq_of_mul_eq_mul_left hpm (hl'.symm.trans hml)
    have hsz63 : n + m ≤ maxLen := by
      have : (n + m) ≤ (n + m) * B := Nat.le_mul_of_pos_right _ hB
      simp only [maxLen]; omega
    obtain ⟨xs, hown, hxs, hblk⟩ := own_row r hl hv hnl hid5
    -- what is appended
    let vals : Nat → Value := fun j => (w.cell? ⟨b, o + j, none⟩).getD undef
    have hv1 := vals_of hc
    have hnews : ∀ (j : Nat) u, ((List.range (m * sz)).map vals)[j]? = some u → w.cell? ((⟨b, o, none⟩ : Addr).add j) = some u := fun j u hj => by
      rw [List.getElem?_map] at hj
      by_cases hjl : j < m * sz
      · rw [List.getElem?_range hjl] at hj
        simp only [Option.map_some, Option.some.injEq] at hj
        rw [add_none, ← hj]
        exact hv1.1 j _ (List.getElem?_eq_getElem (by rw [hml]; exact hjl))
      · rw [List.getElem?_eq_none (by simpa using Nat.le_of_not_lt hjl)] at hj; cases hj
    have hone : ∀ u ∈ (List.range (m * sz)).map vals, u.oneCell' = true := fun u hu => by
      obtain ⟨j, hj, rfl⟩ := List.mem_map.1 hu
      have hjl : j < cells.length := by rw [hml]; simpa using hj
      exact (hv1.2 j _ (List.getElem?_eq_getElem hjl)).oneCell
    obtain ⟨v', w', hr', hown', hgr, hnil, hat⟩ := run_append_own_at (P := X.P) w 0 t ty e i z sz B ht hi hz hs hby hzs hS v n xs hown ⟨b, o, none⟩ m cap ((List.range (m * sz)).map vals) (by simp) hnews hone hsz63 hb (Nat.zero_le _)
    obtain ⟨β', hp, ho⟩ := append_fin r hl hnl hml (show id < 1000 by omega) hpm (by simpa using hown.1) hxs hblk (fun j p hj => ⟨vals j, by
      have hjl : j < m * sz := by rw [← hml]; exact (List.getElem?_eq_some_iff.1 hj).1
      rw [List.getElem?_map, List.getElem?_range hjl]; rfl, hv1.2 j p hj⟩) hown' hgr hat
    exact ⟨_, w', β', hr', hp, ho⟩
/-- What is appended, told by its cells alone. -/
theorem append_core2 {X : Ctx} {F : Fr} {h : Hp} {β : Bt} {w : World} (r : HRel X F h β w) {t ty e : TypeId} {i : TypeInfo} {z : Value} {S B : Nat} (ht : X.P.underlying t = some (.slice e)) (hi : X.P.info? e = some i) (hz : i.zero = some z) (hs : i.size = S) (hby : i.bytes = B)
    (hzs : z.cells.size = S) (hS : 0 < S) (hB : 0 < B) {id n : Nat} {l : List PV} (hl : look h id = some (.pu e l, false)) {v v2 : Value} (hv : OwnRep w β id S n v) (hnl : n * S ≤ l.length) {m : Nat} {cells : List PV} (hm : ∃ A cap, v2 = .slice A m cap ∧ m ≤ cap ∧ (0 < m → ∃ b o, A = some ⟨b, o, none⟩ ∧ ∀ (j : Nat) p, cells[j]? = some p → ∃ v, w.cell? ⟨b, o + j, none⟩ = some v ∧ RepP w (F.ok w h β) p v)) (hml : cells.length = m * S)
    (hb : (n + m) * B ≤ 140737488355328) (hid5 : id < 500) :
    ∃ v' w' β', (Builtin.append_ #[t, t] ty #[v, v2]).run X.P w = .ok v' w' ∧ Post X F h β w (put (scrubH id h) id (.pu e (l.take (n * S) ++ cells), false)) β' w' (some id) ∧ OwnRep w' β' id S (n + m) v' := by
  obtain ⟨A, cap, rfl, hmc, hpos⟩ := hm
  have hm0 : m = 0 → cells = [] := fun h0 => List.eq_nil_of_length_eq_zero (by rw [hml, h0, Nat.zero_mul])
  rcases Nat.eq_zero_or_pos m with h0 | hpm
  · subst h0
    obtain rfl := hm0 rfl
    simp only [List.append_nil, Nat.add_zero] at *
    obtain ⟨β', hp, ho, A', cap', rfl, hnc⟩ := append_zero r hl hv hid5
    exact ⟨_, w, β', run_append_zero ht hi hnc, hp, ho⟩
  · obtain ⟨b, o, rfl, hc⟩ := hpos hpm
    have hsz63 : n + m ≤ maxLen := by
      have : (n + m) ≤ (n + m) * B := Nat.le_mul_of_pos_right _ hB
      simp only [maxLen]; omega
    obtain ⟨xs, hown, hxs, hblk⟩ := own_row r hl hv hnl hid5
    -- what is appended
    let vals : Nat → Value := fun j => (w.cell? ⟨b, o + j, none⟩).getD undef
    have hv1 := vals_of hc
    have hnews : ∀ (j : Nat) u, ((List.range (m * S)).map vals)[j]? = some u → w.cell? ((⟨b, o, none⟩ : Addr).add j) = some u := fun j u hj => by
      rw [List.getElem?_map] at hj
      by_cases hjl : j < m * S
      · rw [List.getElem?_range hjl] at hj
        simp only [Option.map_some, Option.some.injEq] at hj
        rw [add_none, ← hj]
        exact hv1.1 j _ (List.getElem?_eq_getElem (by rw [hml]; exact hjl))
      · rw [List.getElem?_eq_none (by simpa using Nat.le_of_not_lt hjl)] at hj; cases hj
    have hone : ∀ u ∈ (List.range (m * S)).map vals, u.oneCell' = true := fun u hu => by
      obtain ⟨j, hj, rfl⟩ := List.mem_map.1 hu
      have hjl : j < cells.length := by rw [hml]; simpa using hj
      exact (hv1.2 j _ (List.getElem?_eq_getElem hjl)).oneCell
    obtain ⟨v', w', hr', hown', hgr, hnil, hat⟩ := run_append_own_at (P := X.P) w 0 t ty e i z S B ht hi hz hs hby hzs hS v n xs hown ⟨b, o, none⟩ m cap ((List.range (m * S)).map vals) (by simp) hnews hone hsz63 hb (Nat.zero_le _)
    obtain ⟨β', hp, ho⟩ := append_fin r hl hnl hml (show id < 1000 by omega) hpm (by simpa using hown.1) hxs hblk (fun j p hj => ⟨vals j, by
      have hjl : j < m * S := by rw [← hml]; exact (List.getElem?_eq_some_iff.1 hj).1
      rw [List.getElem?_map, List.getElem?_range hjl]; rfl, hv1.2 j p hj⟩) hown' hgr hat
    exact ⟨_, w', β', hr', hp, ho⟩
/-! ### A string's bytes, appended -/
theorem run_append_str_at {P : Program} (w : World) (t u ty e : TypeId) (i : TypeInfo) (ht : P.underlying t = some (.slice e)) (hu : P.underlying u = some .string) (hi : P.info? e = some i) (hz : i.zero = some (.int .u8 0)) (hsize : i.size = 1) (hby : i.bytes = 1)
    (v : Value) (n : Nat) (xs : List Value) (hown : w.ownsRow 0 e 1 v n xs) (s : ByteArray) (hpos : 0 < s.size) (hb : n + s.size ≤ 140737488355328) :
    ∃ v' w', (Builtin.append_ #[t, u] ty #[v, .string s]).run P w = .ok v' w' ∧ w'.ownsRow 0 e 1 v' (n + s.size) (xs ++ Lib.strCells s) ∧ w.grownBy w' v.ownBlock ∧ (v'.ownBlock = v.ownBlock ∨ v'.ownBlock = some w.heap.size) := by
  have h63 : n + s.size ≤ maxLen := by simp only [maxLen]; omega
  obtain ⟨v', w', hr, h1, h2, _⟩ := Lib.run_append_own_string (P := P) w 0 t u ty e i ht hu hi hz hsize hby v n xs hown s h63 hb (Nat.zero_le _)
  refine ⟨v', w', hr, h1, h2, ?_⟩
  have hxl : xs.length = n := by simpa using hown.1
  rcases hown.2 with ⟨rfl, rfl⟩ | ⟨g, cap, cur, rfl, hbg, hg, hnc, hcm, hcs, htake⟩
  · have hr2 := run_append_nil_string (P := P) w t u ty e i (.int .u8 0) ht hu hi hz s hpos (by omega) (by rw [hby]; omega)
    rw [hr] at hr2
    simp only [Result.ok.injEq] at hr2
    rw [hr2.1]; exact .inr rfl
  · by_cases hroom : n + s.size ≤ cap
    · have hcs' : cur.size = cap := by simpa using hcs
      have hr2 := Lib.run_append_room_string (P := P) w t u ty e i ht hu hi hsize g n cap cur hg s hroom (by omega)
      rw [hr] at hr2
      simp only [Result.ok.injEq] at hr2
      rw [hr2.1]; exact .inl rfl
    · have holds : ∀ j u, xs[j]? = some u → w.cell? ((⟨g, 0, none⟩ : Addr).add j) = some u := hown.cells (g := g) rfl
      have hr2 := Lib.run_append_grow_string (P := P) w t u ty e i (.int .u8 0) ht hu hi hz ⟨g, 0, none⟩ n cap xs (by rw [hsize]; simpa using hxl) holds s (by omega) (by omega) (by rw [hby]; exact growslice_fits (by omega) (by omega))
      rw [hr] at hr2
      simp only [Result.ok.injEq] at hr2
      rw [hr2.1]; exact .inr rfl
theorem run_append_zero_str {P : Program} {w : World} {t u ty e : TypeId} {i : TypeInfo} (ht : P.underlying t = some (.slice e)) (hu : P.underlying u = some .string) (hi : P.info? e = some i) (hsize : i.size = 1) {A : Option Addr} {n cap : Nat} (hn : n ≤ cap) :
    (Builtin.append_ #[t, u] ty #[.slice A n cap, .string ⟨#[]⟩]).run P w = .ok (.slice A n cap) w := by
  have hs0 : (ByteArray.mk #[]).size = 0 := rfl
  have hf := Lib.run_firstCells_string (P := P) w 1 ⟨#[]⟩
  rw [hs0] at hf
  have e0 : (Lib.strCells ⟨#[]⟩).toArray = #[] := rfl
  rw [e0] at hf
  cases A <;> simp [Builtin.append_, run_underlying ht, run_underlying hu, sizeOf, typeInfo, hi, hsize, Builtin.lenOf, hn, hs0, hf, storeCells]
def bytesPV (s : List UInt8) : List PV := s.map fun b => .int .u8 (b.toNat : Int)
theorem bytesPV_get {s : List UInt8} {j : Nat} {p : PV} (h : (bytesPV s)[j]? = some p) : ∃ u, (Lib.strCells ⟨s.toArray⟩)[j]? = some u ∧ ∀ w ok, RepP w ok p u := by
  unfold bytesPV at h
  rw [List.getElem?_map] at h
  cases hb : s[j]? with
  | none => rw [hb] at h; cases h
  | some b =>
    rw [hb] at h
    simp only [Option.map_some, Option.some.injEq] at h
    subst h
    refine ⟨.int .u8 (b.toNat : Int), by simp [Lib.strCells, hb], fun w ok => .int _ _ ?_⟩
    have := b.toNat_lt
    rw [range_u8]; omega
theorem append_core_str {X : Ctx} {F : Fr} {h : Hp} {β : Bt} {w : World} (r : HRel X F h β w) {t u ty e : TypeId} {i : TypeInfo} (ht : X.P.underlying t = some (.slice e)) (hu : X.P.underlying u = some .string) (hi : X.P.info? e = some i) (hz : i.zero = some (.int .u8 0)) (hs : i.size = 1) (hby : i.bytes = 1)
    {id n : Nat} {l : List PV} (hl : look h id = some (.pu e l, false)) {v : Value} (hv : OwnRep w β id 1 n v) (hnl : n * 1 ≤ l.length) (s : List UInt8) (hb : n + s.length ≤ 140737488355328) (hid5 : id < 500) :
    ∃ v' w' β', (Builtin.append_ #[t, u] ty #[v, .string ⟨s.toArray⟩]).run X.P w = .ok v' w' ∧ Post X F h β w (put (scrubH id h) id (.pu e (l.take (n * 1) ++ bytesPV s), false)) β' w' (some id) ∧ OwnRep w' β' id 1 (n + s.length) v' := by
  rcases Nat.eq_zero_or_pos s.length with h0 | hpm
  · obtain rfl := List.eq_nil_of_length_eq_zero h0
    simp only [bytesPV, List.map_nil, List.append_nil, List.length_nil, Nat.add_zero] at *
    obtain ⟨β', hp, ho, A', cap', rfl, hnc⟩ := append_zero r hl hv hid5
    exact ⟨_, w, β', run_append_zero_str ht hu hi hs hnc, hp, ho⟩
  · obtain ⟨xs, hown, hxs, hblk⟩ := own_row r hl hv hnl hid5
    have hsz : (ByteArray.mk s.toArray).size = s.length := by simp [ByteArray.size]
    obtain ⟨v', w', hr', hown', hgr, hat⟩ := run_append_str_at (P := X.P) w t u ty e i ht hu hi hz hs hby v n xs hown ⟨s.toArray⟩ (by rw [hsz]; exact hpm) (by rw [hsz]; exact hb)
    rw [hsz] at hown'
    obtain ⟨β', hp, ho⟩ := append_fin (cells := bytesPV s) r hl hnl (by simp [bytesPV]) (show id < 1000 by omega) hpm (by simpa using hown.1) hxs hblk (fun j p hj => by
      obtain ⟨u, h1, h2⟩ := bytesPV_get hj
      exact ⟨u, h1, h2 _ _⟩) hown' hgr hat
    exact ⟨_, w', β', hr', hp, ho⟩
end Go.VL


namespace Go.VL
open Go.RowKit
set_option linter.unusedVariables false

/-! ### Other names -/
def Cap.ren (f : Nat → Nat) : Cap → Cap
  | .pv p => .pv p
  | .ptr id off => .ptr (f id) off
def AC.ren (f : Nat → Nat) : AC → AC
  | .any => .any
  | .ub => .ub
  | .pv p => .pv p
  | .own id sz n => .own (f id) sz n
  | .sub id sz off n => .sub (f id) sz off n
  | .ptr id off => .ptr (f id) off
  | .adr id T sz => .adr (f id) T sz
  | .clo g caps => .clo g (caps.map (Cap.ren f))
  | .mp id => .mp (f id)
def Bx.ren (f : Nat → Nat) : Bx → Bx
  | .pu e l => .pu e l
  | .mx cs => .mx (cs.map (AC.ren f))
  | .ob cs => .ob (cs.map (AC.ren f))
theorem RowAtB.renB {bx : Bx} {f : Nat → Nat} {w : World} {id g : Nat} {arr : Array Value} {e : TypeId} : RowAtB (bx.ren f) w id g arr e ↔ RowAtB bx w id g arr e := by cases bx <;> exact Iff.rfl
def AV.ren (f : Nat → Nat) : AV → AV
  | .one c => .one (c.ren f)
  | .agg cs => .agg (cs.map (AC.ren f))
  | .tup xs => .tup (xs.map fun x => (x.1, x.2.map (AC.ren f)))
  | .bot => .bot
section
variable {w : World} {ok : Nat → Prop} {β β' : Bt} {f : Nat → Nat}
theorem repCap_ren {c : Cap} {u : Value} (hf : ∀ id ∈ c.refs, β' (f id) = β id) (h : RepCap w ok β c u) : RepCap w ok β' (c.ren f) u := by
  cases c with
  | pv p => exact h
  | ptr id off =>
    obtain ⟨g, hg, hu⟩ := h
    exact ⟨g, by rw [hf id (by simp [Cap.refs])]; exact hg, hu⟩
theorem repC_ren {c : AC} {u : Value} (hf : ∀ id ∈ c.refs, β' (f id) = β id) (h : RepC w ok β c u) : RepC w ok β' (c.ren f) u := by
  cases c with
  | any => exact h
  | ub => exact h
  | pv p => exact h
  | own id sz n =>
    rcases h with h | ⟨g, cap, hg, h⟩
    · exact .inl h
    · exact .inr ⟨g, cap, by rw [hf id (by simp [AC.refs])]; exact hg, h⟩
  | sub id sz off n =>
    obtain ⟨A, cap, h1, h2, h3, h4⟩ := h
    exact ⟨A, cap, h1, h2, h3, h4.imp (fun h => h) fun ⟨g, hg, e⟩ => ⟨g, by rw [hf id (by simp [AC.refs])]; exact hg, e⟩⟩
  | ptr id off =>
    obtain ⟨g, hg, hu⟩ := h
    exact ⟨g, by rw [hf id (by simp [AC.refs])]; exact hg, hu⟩
  | adr id T sz =>
    obtain ⟨g, hg, hu⟩ := h
    exact ⟨g, by rw [hf id (by simp [AC.refs])]; exact hg, hu⟩
  | mp id =>
    obtain ⟨g, hg, hu⟩ := h
    exact ⟨g, by rw [hf id (by simp [AC.refs])]; exact hg, hu⟩
  | clo k caps =>
    obtain ⟨vs, hu, hs, hv⟩ := h
    refine ⟨vs, hu, by simpa using hs, fun j c hj => ?_⟩
    rw [List.getElem?_map] at hj
    cases hc : caps[j]? with
    | none => rw [hc] at hj; cases hj
    | some c0 =>
      rw [hc] at hj
      simp only [Option.map_some, Option.some.injEq] at hj
      subst hj
      obtain ⟨u, hu, hr⟩ := hv j c0 hc
      exact ⟨u, hu, repCap_ren (fun id hid => hf id (List.mem_flatMap.2 ⟨c0, List.mem_of_getElem? hc, hid⟩)) hr⟩
theorem repL_ren {cs : List AC} {vs : Array Value} (hf : ∀ id ∈ acRefs cs, β' (f id) = β id) (h : RepL w ok β cs vs) : RepL w ok β' (cs.map (AC.ren f)) vs :=
  ⟨by simpa using h.1, fun j c hj => by
    rw [List.getElem?_map] at hj
    cases hc : cs[j]? with
    | none => rw [hc] at hj; cases hj
    | some c0 =>
      rw [hc] at hj
      simp only [Option.map_some, Option.some.injEq] at hj
      subst hj
      obtain ⟨u, hu, hr⟩ := h.2 j c0 hc
      exact ⟨u, hu, repC_ren (fun id hid => hf id (List.mem_flatMap.2 ⟨c0, List.mem_of_getElem? hc, hid⟩)) hr⟩⟩
theorem repV_ren {x : AV} {u : Value} (hf : ∀ id ∈ x.refs, β' (f id) = β id) (h : RepV w ok β x u) : RepV w ok β' (x.ren f) u := by
  cases x with
  | one c => exact repC_ren hf h
  | agg cs => obtain ⟨vs, hu, hl⟩ := h; exact ⟨vs, hu, repL_ren hf hl⟩
  | tup xs =>
    obtain ⟨vs, hu, hs, hx⟩ := h
    refine ⟨vs, hu, by simpa using hs, fun j x hj => ?_⟩
    rw [List.getElem?_map] at hj
    cases hc : xs[j]? with
    | none => rw [hc] at hj; cases hj
    | some y =>
      rw [hc] at hj
      simp only [Option.map_some, Option.some.injEq] at hj
      subst hj
      obtain ⟨u, hu, hr⟩ := hx j y hc
      have hf' : ∀ id ∈ acRefs y.2, β' (f id) = β id := fun id hid => hf id (List.mem_flatMap.2 ⟨y, List.mem_of_getElem? hc, hid⟩)
      refine ⟨u, hu, ?_⟩
      obtain ⟨b, cs⟩ := y
      cases b with
      | true => obtain ⟨vs, e, hl⟩ := hr; exact ⟨vs, e, repL_ren hf' hl⟩
      | false => obtain ⟨c, rfl, hcr⟩ := hr; exact ⟨_, rfl, repC_ren (fun id hid => hf' id (by simpa [acRefs] using hid)) hcr⟩
  | bot => trivial
end
theorem Cap.ren_refs {f : Nat → Nat} {c : Cap} {i : Nat} (h : i ∈ (c.ren f).refs) : ∃ j ∈ c.refs, f j = i := by
  cases c with
  | pv p => cases h
  | ptr id off => simp only [Cap.ren, Cap.refs, List.mem_singleton] at h; exact ⟨id, by simp [Cap.refs], h.symm⟩
theorem AC.ren_refs {f : Nat → Nat} {c : AC} {i : Nat} (h : i ∈ (c.ren f).refs) : ∃ j ∈ c.refs, f j = i := by
  cases c with
  | any => cases h
  | ub => cases h
  | pv p => cases h
  | own id sz n => simp only [AC.ren, AC.refs, List.mem_singleton] at h; exact ⟨id, by simp [AC.refs], h.symm⟩
  | sub id sz off n => simp only [AC.ren, AC.refs, List.mem_singleton] at h; exact ⟨id, by simp [AC.refs], h.symm⟩
  | ptr id off => simp only [AC.ren, AC.refs, List.mem_singleton] at h; exact ⟨id, by simp [AC.refs], h.symm⟩
  | adr id T sz => simp only [AC.ren, AC.refs, List.mem_singleton] at h; exact ⟨id, by simp [AC.refs], h.symm⟩
  | mp id => simp only [AC.ren, AC.refs, List.mem_singleton] at h; exact ⟨id, by simp [AC.refs], h.symm⟩
  | clo g caps =>
    simp only [AC.ren, AC.refs] at h
    obtain ⟨c, hc, hi⟩ := List.mem_flatMap.1 h
    obtain ⟨c0, hc0, rfl⟩ := List.mem_map.1 hc
    obtain ⟨j, hj, e⟩ := Cap.ren_refs hi
    exact ⟨j, List.mem_flatMap.2 ⟨c0, hc0, hj⟩, e⟩
theorem acRefs_ren {f : Nat → Nat} {cs : List AC} {i : Nat} (h : i ∈ acRefs (cs.map (AC.ren f))) : ∃ j ∈ acRefs cs, f j = i := by
  obtain ⟨c, hc, hi⟩ := List.mem_flatMap.1 h
  obtain ⟨c0, hc0, rfl⟩ := List.mem_map.1 hc
  obtain ⟨j, hj, e⟩ := AC.ren_refs hi
  exact ⟨j, List.mem_flatMap.2 ⟨c0, hc0, hj⟩, e⟩
theorem AV.ren_refs {f : Nat → Nat} {x : AV} {i : Nat} (h : i ∈ (x.ren f).refs) : ∃ j ∈ x.refs, f j = i := by
  cases x with
  | one c => exact AC.ren_refs h
  | agg cs => exact acRefs_ren h
  | tup xs =>
    simp only [AV.ren, AV.refs, List.mem_flatMap] at h
    obtain ⟨x, hx, hi⟩ := h
    obtain ⟨y, hy, rfl⟩ := List.mem_map.1 hx
    obtain ⟨j, hj, e⟩ := acRefs_ren hi
    exact ⟨j, List.mem_flatMap.2 ⟨y, hy, hj⟩, e⟩
  | bot => cases h
theorem Bx.ren_cells (f : Nat → Nat) (bx : Bx) : (bx.ren f).cells = bx.cells.map (AC.ren f) := by
  cases bx with
  | pu e l => simp only [Bx.ren, Bx.cells, List.map_map]; congr 1
  | mx cs => rfl
  | ob cs => rfl

/-! ### The contract -/
/-- Boxes handed over: where they stand, and that none but the frame that is called will read them. -/
structure Hand (X : Ctx) (ok : Nat → Prop) (w : World) (h0 : Hp) (β : Bt) : Prop where
  box : ∀ id bx z, look h0 id = some (bx, z) → BoxRep (fun g => X.nb ≤ g ∧ g < w.heap.size ∧ ¬ ok g) w ok β id bx
  inj : ∀ id id' e e' g, id ≠ id' → look h0 id = some e → look h0 id' = some e' → β id = some g → β id' ≠ some g
  wf : ∀ id bx z, look h0 id = some (bx, z) → ∀ i ∈ acRefs bx.cells, (look h0 i).isSome = true
  out : ∀ id, look h0 id = none → β id = none
def handed (h0 : Hp) (β : Bt) : Nat → Prop := fun b => ∃ id e, look h0 id = some e ∧ β id = some b
def pinOf (β : Bt) : Bt := fun id => if 1000 ≤ id then β id else none
/-- A function that is handed the boxes of h0: it returns y, and leaves the boxes of h1, of which those from 1000 on stand where they stood. -/
structure SpcS (X : Ctx) (f : FuncId) (xs : List AV) (h0 : Hp) (y : AV) (h1 : Hp) : Prop where
  ent : Ent X.P f
  calls : ∀ (ok : Nat → Prop) (w : World) (vals : Array Value) (β : Bt), X.G w → (∀ b, ok b → b < w.heap.size) → Hand X ok w h0 β → vals.size = xs.length → (∀ (j : Nat) x, xs[j]? = some x → ∃ u, vals[j]? = some u ∧ RepV w ok β x u) →
    Calls X.P f vals w fun e w' => ∃ u β', e = .returned u ∧ HRel X ⟨w, ok, handed h0 β, pinOf β⟩ h1 β' w' ∧ RepV w' (Fr.ok ⟨w, ok, handed h0 β, pinOf β⟩ w' h1 β') β' y u ∧ ∀ i ∈ y.refs, (look h1 i).isSome = true
section
variable {X : Ctx} {ok : Nat → Prop} {w : World} {h0 : Hp} {β : Bt}
theorem Hand.lt (d : Hand X ok w h0 β) {id g : Nat} {e : Bx × Bool} (hl : look h0 id = some e) (hg : β id = some g) : X.nb ≤ g ∧ g < w.heap.size ∧ ¬ ok g := by
  obtain ⟨bx, z⟩ := e
  have := d.box id bx z hl
  unfold BoxRep at this
  rw [hg] at this
  exact this.1
theorem Hand.okOf (d : Hand X ok w h0 β) (hlt : ∀ b, ok b → b < w.heap.size) : ∀ b, ok b → Fr.ok ⟨w, ok, handed h0 β, pinOf β⟩ w h0 β b := fun b hb =>
  ⟨hlt b hb, fun _ => .inl hb, fun id bx hl hg => (d.lt hl hg).2.2 hb⟩
theorem Hand.rel (d : Hand X ok w h0 β) (hG : X.G w) (hlt : ∀ b, ok b → b < w.heap.size) : HRel X ⟨w, ok, handed h0 β, pinOf β⟩ h0 β w where
  below := .refl _ _
  g := ⟨hG, fun b ⟨id, e, hl, hg⟩ => (d.lt hl hg).1⟩
  box := fun id bx z hl => by
    have h1 := d.box id bx z hl
    have k : Keeps (fun _ => True) w ok β w (Fr.ok ⟨w, ok, handed h0 β, pinOf β⟩ w h0 β) β := ⟨fun b hb => ⟨d.okOf hlt b hb, rfl⟩, fun _ _ => ⟨rfl, fun _ _ => rfl⟩⟩
    have h2 := h1.keeps k rfl (fun _ _ => rfl) (fun _ _ => trivial)
    unfold BoxRep at h2 ⊢
    split at h2
    · exact h2
    · rename_i g hg
      exact ⟨.inr ⟨id, _, hl, hg⟩, h2.2⟩
  inj := d.inj
  wf := d.wf
  pin := fun id hid => ⟨by show β id = if 1000 ≤ id then β id else none; rw [if_pos hid], fun g hg => by
    simp only [pinOf, if_pos hid] at hg
    cases hl : look h0 id with
    | none => rw [d.out id hl] at hg; cases hg
    | some e => exact ⟨(d.lt hl hg).2.1, rfl, fun i e' hl' hne => d.inj id i e e' g (fun e => hne e.symm) hl hl' hg⟩⟩
end

/-! ### The call -/
section
variable {w : World} {ok : Nat → Prop} {β β' : Bt} {f : Nat → Nat}
theorem repCap_back {c : Cap} {u : Value} (hf : ∀ id ∈ c.refs, β' (f id) = β id) (h : RepCap w ok β' (c.ren f) u) : RepCap w ok β c u := by
  cases c with
  | pv p => exact h
  | ptr id off =>
    obtain ⟨g, hg, hu⟩ := h
    exact ⟨g, by rw [← hf id (by simp [Cap.refs])]; exact hg, hu⟩
theorem repC_back {c : AC} {u : Value} (hf : ∀ id ∈ c.refs, β' (f id) = β id) (h : RepC w ok β' (c.ren f) u) : RepC w ok β c u := by
  cases c with
  | any => exact h
  | ub => exact h
  | pv p => exact h
  | own id sz n =>
    rcases h with h | ⟨g, cap, hg, h⟩
    · exact .inl h
    · exact .inr ⟨g, cap, by rw [← hf id (by simp [AC.refs])]; exact hg, h⟩
  | sub id sz off n =>
    obtain ⟨A, cap, h1, h2, h3, h4⟩ := h
    exact ⟨A, cap, h1, h2, h3, h4.imp (fun h => h) fun ⟨g, hg, e⟩ => ⟨g, by rw [← hf id (by simp [AC.refs])]; exact hg, e⟩⟩
  | ptr id off =>
    obtain ⟨g, hg, hu⟩ := h
    exact ⟨g, by rw [← hf id (by simp [AC.refs])]; exact hg, hu⟩
  | adr id T sz =>
    obtain ⟨g, hg, hu⟩ := h
    exact ⟨g, by rw [← hf id (by simp [AC.refs])]; exact hg, hu⟩
  | mp id =>
    obtain ⟨g, hg, hu⟩ := h
    exact ⟨g, by rw [← hf id (by simp [AC.refs])]; exact hg, hu⟩
  | clo k caps =>
    obtain ⟨vs, hu, hs, hv⟩ := h
    refine ⟨vs, hu, by simpa using hs, fun j c hj => ?_⟩
    obtain ⟨u, hu, hr⟩ := hv j (c.ren f) (by rw [List.getElem?_map, hj]; rfl)
    exact ⟨u, hu, repCap_back (fun id hid => hf id (List.mem_flatMap.2 ⟨c, List.mem_of_getElem? hj, hid⟩)) hr⟩
theorem repL_back {cs : List AC} {vs : Array Value} (hf : ∀ id ∈ acRefs cs, β' (f id) = β id) (h : RepL w ok β' (cs.map (AC.ren f)) vs) : RepL w ok β cs vs :=
  ⟨by simpa using h.1, fun j c hj => by
    obtain ⟨u, hu, hr⟩ := h.2 j (c.ren f) (by rw [List.getElem?_map, hj]; rfl)
    exact ⟨u, hu, repC_back (fun id hid => hf id (List.mem_flatMap.2 ⟨c, List.mem_of_getElem? hj, hid⟩)) hr⟩⟩
theorem repV_back {x : AV} {u : Value} (hx : x ≠ .bot) (hf : ∀ id ∈ x.refs, β' (f id) = β id) (h : RepV w ok β' (x.ren f) u) : RepV w ok β x u := by
  cases x with
  | one c => exact repC_back hf h
  | agg cs => obtain ⟨vs, hu, hl⟩ := h; exact ⟨vs, hu, repL_back hf hl⟩
  | tup xs =>
    obtain ⟨vs, hu, hs, hx⟩ := h
    refine ⟨vs, hu, by simpa using hs, fun j x hj => ?_⟩
    obtain ⟨u, hu, hr⟩ := hx j (x.1, x.2.map (AC.ren f)) (by rw [List.getElem?_map, hj]; rfl)
    have hf' : ∀ id ∈ acRefs x.2, β' (f id) = β id := fun id hid => hf id (List.mem_flatMap.2 ⟨x, List.mem_of_getElem? hj, hid⟩)
    refine ⟨u, hu, ?_⟩
    obtain ⟨b, cs⟩ := x
    cases b with
    | true => obtain ⟨vs, e, hl⟩ := hr; exact ⟨vs, e, repL_back hf' hl⟩
    | false =>
      obtain ⟨c, hc, hcr⟩ := hr
      match cs, hc with
      | [c0], hc =>
        simp only [List.map_cons, List.map_nil, List.cons.injEq, and_true] at hc
        subst hc
        exact ⟨c0, rfl, repC_back (fun id hid => hf' id (by simpa [acRefs] using hid)) hcr⟩
  | bot => trivial
end
def scrubM (m : Option Nat) (bx : Bx) : Bx := match m with | none => bx | some m => bx.scrub m
/-- How a call's boxes lie among the caller's. -/
structure Fits (h : Hp) (f : Nat → Nat) (h0 h1 : Hp) (zs : List Nat) (h' : Hp) (m : Option Nat) : Prop where
  inj : ∀ i j, ((look h0 i).isSome = true ∨ (look h1 i).isSome = true) → ((look h0 j).isSome = true ∨ (look h1 j).isSome = true) → f i = f j → i = j
  wf0 : ∀ id bx z, look h0 id = some (bx, z) → ∀ i ∈ acRefs bx.cells, (look h0 i).isSome = true
  inp : ∀ i bx z, look h0 i = some (bx, z) → look h (f i) = some (bx.ren f, false)
  frz : ∀ id ∈ zs, (look h id).isSome = true ∧ ∀ i, (look h0 i).isSome = true → f i ≠ id
  new : ∀ i, (look h1 i).isSome = true → look h0 i = none → look h (f i) = none ∧ f i < 1000
  mv : ∀ i, (look h0 i).isSome = true → i < 1000 → m = some (f i) ∧ f i < 1000
  lo0 : ∀ i, (look h0 i).isSome = true → f i < 500 ∨ 1000 ≤ f i
  lo1 : ∀ i, (look h1 i).isSome = true → i < 500 ∨ 1000 ≤ i
  pin : ∀ i, (look h0 i).isSome = true → 1000 ≤ i → (look h1 i).isSome = true
  only : ∀ j, m = some j → ∃ i, (look h0 i).isSome = true ∧ f i = j
  outA : ∀ i bx z, look h1 i = some (bx, z) → look h' (f i) = some (bx.ren f, z)
  outB : ∀ i, (look h0 i).isSome = true → look h1 i = none → look h' (f i) = some (.mx [], true)
  outC : ∀ j, (∀ i, ((look h0 i).isSome = true ∨ (look h1 i).isSome = true) → f i ≠ j) → look h' j = (look (frzs h zs) j).map fun e => (scrubM m e.1, e.2)
section
variable {X : Ctx} {F : Fr} {h h0 h1 h' : Hp} {β : Bt} {w : World} {f : Nat → Nat} {zs : List Nat} {m : Option Nat}
/-- Where the callee's boxes stand. -/
def inB (h0 : Hp) (f : Nat → Nat) (β : Bt) : Bt := fun i => if (look h0 i).isSome = true then β (f i) else none
theorem inB_of {i : Nat} (hi : (look h0 i).isSome = true) : inB h0 f β i = β (f i) := by unfold inB; rw [if_pos hi]
theorem Fits.look_in (k : Fits h f h0 h1 zs h' m) {i : Nat} {bx : Bx} {z : Bool} (hl : look h0 i = some (bx, z)) : look (frzs h zs) (f i) = some (bx.ren f, false) := by
  rw [look_frzs_not zs h fun hm => (k.frz _ hm).2 i (isSome_of hl) rfl]
  exact k.inp i bx z hl
theorem Fits.hand (k : Fits h f h0 h1 zs h' m) (r : HRel X F h β w) : Hand X (F.ok w (frzs h zs) β) w h0 (inB h0 f β) where
  box := fun i bx z hl => by
    have r' := r.frzs zs
    have hb := r'.box (f i) _ _ (k.look_in hl)
    unfold BoxRep at hb ⊢
    rw [inB_of (isSome_of hl)]
    cases hβ : β (f i) with
    | none =>
      rw [hβ] at hb
      simp only [Bx.ren_cells, List.map_eq_nil_iff] at hb
      exact hb
    | some g =>
      rw [hβ] at hb
      obtain ⟨h1', arr, e, h2, h3, h4⟩ := hb
      have hlt := r'.lt (k.look_in hl) hβ
      refine ⟨⟨?_, hlt.1, fun hok => hok.2.2 _ _ (k.look_in hl) hβ⟩, arr, e, RowAtB.renB.1 (h2.ren (k.lo0 i (isSome_of hl))), fun e' l he => h3 e' l (by rw [he]; rfl), fun j c hj => ?_⟩
      · rcases hlt.2 with h5 | h5
        · exact Nat.le_trans (X.hN _ r.g.1) h5
        · exact r.g.2 g h5
      · obtain ⟨u, hu, hr⟩ := h4 j (c.ren f) (by rw [Bx.ren_cells, List.getElem?_map, hj]; rfl)
        exact ⟨u, hu, repC_back (fun id hid => (inB_of (k.wf0 i bx z hl id (List.mem_flatMap.2 ⟨c, List.mem_of_getElem? hj, hid⟩))).symm) hr⟩
  inj := fun i i' e1 e2 g hne hl1 hl2 hg hg' => by
    obtain ⟨b1, z1⟩ := e1; obtain ⟨b2, z2⟩ := e2
    rw [inB_of (isSome_of hl1)] at hg
    rw [inB_of (isSome_of hl2)] at hg'
    exact r.inj (f i) (f i') _ _ g (fun e => hne (k.inj i i' (.inl (isSome_of hl1)) (.inl (isSome_of hl2)) e)) (k.inp i _ _ hl1) (k.inp i' _ _ hl2) hg hg'
  wf := k.wf0
  out := fun i hi => by unfold inB; rw [hi]; rfl
end
section
variable {X : Ctx} {F : Fr} {h h0 h1 h' : Hp} {β β1 : Bt} {w w' : World} {f : Nat → Nat} {zs : List Nat} {m : Option Nat}
open Classical in
/-- Where all boxes stand behind the call. -/
noncomputable def aftB (h0 h1 : Hp) (f : Nat → Nat) (β β1 : Bt) : Bt := fun j =>
  if hj : ∃ i, ((look h0 i).isSome = true ∨ (look h1 i).isSome = true) ∧ f i = j then (if (look h1 hj.choose).isSome = true then β1 hj.choose else none) else β j
theorem aftB_1 (k : Fits h f h0 h1 zs h' m) {i : Nat} (hi : (look h1 i).isSome = true) : aftB h0 h1 f β β1 (f i) = β1 i := by
  unfold aftB
  have hj : ∃ q, ((look h0 q).isSome = true ∨ (look h1 q).isSome = true) ∧ f q = f i := ⟨i, .inr hi, rfl⟩
  rw [dif_pos hj]
  have e := k.inj _ _ hj.choose_spec.1 (.inr hi) hj.choose_spec.2
  rw [e, if_pos hi]
theorem aftB_0 (k : Fits h f h0 h1 zs h' m) {i : Nat} (hi : (look h0 i).isSome = true) (hn : look h1 i = none) : aftB h0 h1 f β β1 (f i) = none := by
  unfold aftB
  have hj : ∃ q, ((look h0 q).isSome = true ∨ (look h1 q).isSome = true) ∧ f q = f i := ⟨i, .inl hi, rfl⟩
  rw [dif_pos hj]
  have e := k.inj _ _ hj.choose_spec.1 (.inl hi) hj.choose_spec.2
  rw [e, hn]; rfl
theorem aftB_2 {j : Nat} (hj : ∀ i, ((look h0 i).isSome = true ∨ (look h1 i).isSome = true) → f i ≠ j) : aftB h0 h1 f β β1 j = β j := by
  unfold aftB
  rw [dif_neg]
  rintro ⟨i, hi, e⟩
  exact hj i hi e
/-- The three kinds of boxes. -/
theorem kinds (h0 h1 : Hp) (f : Nat → Nat) (j : Nat) : (∃ i, (look h1 i).isSome = true ∧ f i = j) ∨ (∃ i, (look h0 i).isSome = true ∧ look h1 i = none ∧ f i = j) ∨ ∀ i, ((look h0 i).isSome = true ∨ (look h1 i).isSome = true) → f i ≠ j := by
  by_cases h1' : ∃ i, (look h1 i).isSome = true ∧ f i = j
  · exact .inl h1'
  · by_cases h2 : ∃ i, (look h0 i).isSome = true ∧ f i = j
    · obtain ⟨i, hi, e⟩ := h2
      refine .inr (.inl ⟨i, hi, ?_, e⟩)
      cases hl : look h1 i with
      | none => rfl
      | some x => exact absurd ⟨i, by rw [hl]; rfl, e⟩ h1'
    · refine .inr (.inr fun i hi e => ?_)
      rcases hi with hi | hi
      · exact h2 ⟨i, hi, e⟩
      · exact h1' ⟨i, hi, e⟩
theorem scrubM_refs {m : Option Nat} {bx : Bx} {i : Nat} (h : i ∈ acRefs (scrubM m bx).cells) : i ∈ acRefs bx.cells ∧ m ≠ some i := by
  cases m with
  | none => exact ⟨h, by simp⟩
  | some m =>
    unfold scrubM at h
    rw [Bx.scrub_cells] at h
    have := acRefs_scrub h
    exact ⟨this.1, fun e => this.2 (by simpa using e.symm)⟩
theorem BoxRep.scrubM {B : Nat → Prop} {w : World} {ok : Nat → Prop} {β : Bt} {id : Nat} {bx : Bx} (m : Option Nat) (r : BoxRep B w ok β id bx) : BoxRep B w ok β id (scrubM m bx) := by
  cases m with
  | none => exact r
  | some m => exact r.scrub m
theorem Fits.post (k : Fits h f h0 h1 zs h' m) (r : HRel X F h β w) (hc : HRel X ⟨w, F.ok w (frzs h zs) β, handed h0 (inB h0 f β), pinOf (inB h0 f β)⟩ h1 β1 w') :
    Post X F h β w h' (aftB h0 h1 f β β1) w' m ∧ ∀ b, Fr.ok ⟨w, F.ok w (frzs h zs) β, handed h0 (inB h0 f β), pinOf (inB h0 f β)⟩ w' h1 β1 b → F.ok w' h' (aftB h0 h1 f β β1) b := by
  have r' := r.frzs zs
  -- the blocks handed over
  have hm : ∀ {b}, handed h0 (inB h0 f β) b → ∃ i, (look h0 i).isSome = true ∧ β (f i) = some b := fun {b} ⟨i, e, hl, hb⟩ => ⟨i, isSome_of hl, by rw [inB_of (isSome_of hl)] at hb; exact hb⟩
  have hin : ∀ {i}, (look h0 i).isSome = true → ∃ bx, look h (f i) = some (bx, false) ∧ look (frzs h zs) (f i) = some (bx, false) := fun {i} hi => by
    obtain ⟨⟨bx, z⟩, hl⟩ := Option.isSome_iff_exists.1 hi
    exact ⟨_, k.inp i bx z hl, k.look_in hl⟩
  have mown : ∀ {b}, handed h0 (inB h0 f β) b → F.own b ∧ b < w.heap.size := fun {b} hb => by
    obtain ⟨i, hi, hg⟩ := hm hb
    obtain ⟨bx, hl, _⟩ := hin hi
    exact ⟨(r.lt hl hg).2, (r.lt hl hg).1⟩
  have old : ∀ {b}, b < w.heap.size → ¬ handed h0 (inB h0 f β) b → w'.heap[b]? = w.heap[b]? := fun {b} h1 h2 => hc.below.block b h1 h2
  have clt : ∀ {i g e}, look h1 i = some e → β1 i = some g → g < w'.heap.size ∧ (w.heap.size ≤ g ∨ handed h0 (inB h0 f β) g) := fun {i g e} hl hg => hc.lt hl hg
  have oth : ∀ {j g e}, (∀ i, ((look h0 i).isSome = true ∨ (look h1 i).isSome = true) → f i ≠ j) → look (frzs h zs) j = some e → β j = some g → g < w.heap.size ∧ ¬ handed h0 (inB h0 f β) g := fun {j g e} hj hl hg =>
    ⟨(r'.lt hl hg).1, fun hh => by
      obtain ⟨i, hi, hg'⟩ := hm hh
      obtain ⟨bx, _, hl'⟩ := hin hi
      exact r'.inj (f i) j _ _ g (hj i (.inl hi)) hl' hl hg' hg⟩
  have outC : ∀ {j bx z}, (∀ i, ((look h0 i).isSome = true ∨ (look h1 i).isSome = true) → f i ≠ j) → look h' j = some (bx, z) → ∃ bx0, look (frzs h zs) j = some (bx0, z) ∧ bx = scrubM m bx0 := fun {j bx z} hj hl => by
    rw [k.outC j hj] at hl
    cases hh : look (frzs h zs) j with
    | none => rw [hh] at hl; cases hl
    | some e =>
      rw [hh] at hl
      simp only [Option.map_some, Option.some.injEq, Prod.mk.injEq] at hl
      obtain ⟨rfl, rfl⟩ := hl
      exact ⟨e.1, rfl, rfl⟩
  have outA : ∀ {i bx z}, (look h1 i).isSome = true → look h' (f i) = some (bx, z) → ∃ bx0, look h1 i = some (bx0, z) ∧ bx = bx0.ren f := fun {i bx z} hi hl => by
    obtain ⟨⟨bx1, z1⟩, h1'⟩ := Option.isSome_iff_exists.1 hi
    rw [k.outA i bx1 z1 h1'] at hl
    simp only [Option.some.injEq, Prod.mk.injEq] at hl
    obtain ⟨rfl, rfl⟩ := hl
    exact ⟨bx1, h1', rfl⟩
  have cpin : ∀ {q}, (look h0 q).isSome = true → 1000 ≤ q → β1 q = β (f q) ∧ ∀ g, β (f q) = some g → bsh w' g = bsh w g ∧ ∀ i e, look h1 i = some e → i ≠ q → β1 i ≠ some g := fun {q} hq h1000 => by
    have hp := hc.pin q h1000
    have e1 : pinOf (inB h0 f β) q = β (f q) := by unfold pinOf; rw [if_pos h1000, inB_of hq]
    refine ⟨hp.1.trans e1, fun g hg => ?_⟩
    have h2 := hp.2 g (e1.trans hg)
    exact ⟨h2.2.1, h2.2.2⟩
  -- what may be read
  have okm1 : ∀ b, F.ok w (frzs h zs) β b → F.ok w' h' (aftB h0 h1 f β β1) b ∧ w'.heap[b]? = w.heap[b]? := fun b hb => by
    have hnh : ¬ handed h0 (inB h0 f β) b := fun hh => by
      obtain ⟨i, hi, hg⟩ := hm hh
      obtain ⟨bx, _, hl⟩ := hin hi
      exact hb.2.2 _ _ hl hg
    refine ⟨⟨Nat.lt_of_lt_of_le hb.1 hc.below.size, hb.2.1, fun j bx hl hg => ?_⟩, old hb.1 hnh⟩
    rcases kinds h0 h1 f j with ⟨i, hi, rfl⟩ | ⟨i, hi, hn, rfl⟩ | hj
    · rw [aftB_1 k hi] at hg
      obtain ⟨bx0, hl', _⟩ := outA hi hl
      rcases (clt hl' hg).2 with h2 | h2
      · have := hb.1; omega
      · exact hnh h2
    · rw [aftB_0 k hi hn] at hg; cases hg
    · rw [aftB_2 hj] at hg
      obtain ⟨bx0, hl', _⟩ := outC hj hl
      exact hb.2.2 j bx0 hl' hg
  have okm2 : ∀ b, Fr.ok ⟨w, F.ok w (frzs h zs) β, handed h0 (inB h0 f β), pinOf (inB h0 f β)⟩ w' h1 β1 b → F.ok w' h' (aftB h0 h1 f β β1) b := fun b hb => by
    refine ⟨hb.1, fun hlt => ?_, fun j bx hl hg => ?_⟩
    · have hs := r.size
      rcases hb.2.1 (show b < w.heap.size by omega) with h2 | h2
      · exact h2.2.1 hlt
      · exact .inr ((mown h2).1.resolve_left (by omega))
    · rcases kinds h0 h1 f j with ⟨i, hi, rfl⟩ | ⟨i, hi, hn, rfl⟩ | hj
      · rw [aftB_1 k hi] at hg
        obtain ⟨bx0, hl', _⟩ := outA hi hl
        exact hb.2.2 i bx0 hl' hg
      · rw [aftB_0 k hi hn] at hg; cases hg
      · rw [aftB_2 hj] at hg
        obtain ⟨bx0, hl', _⟩ := outC hj hl
        have ho := oth hj hl' hg
        rcases hb.2.1 ho.1 with h2 | h2
        · exact h2.2.2 j bx0 hl' hg
        · exact ho.2 h2
  have hids : ∀ i, (look h i).isSome = true ∧ m ≠ some i → aftB h0 h1 f β β1 i = β i ∧ ∀ g, β i = some g → bsh w' g = bsh w g := fun i hi => by
    have img : ∀ q, (look h0 q).isSome = true → f q = i → aftB h0 h1 f β β1 i = β i ∧ ∀ g, β i = some g → bsh w' g = bsh w g := fun q hq e => by
      subst e
      have h1000 : 1000 ≤ q := by
        rcases Nat.lt_or_ge q 1000 with hlt | hge
        · exact absurd (k.mv q hq hlt).1 hi.2
        · exact hge
      rw [aftB_1 k (k.pin q hq h1000)]
      obtain ⟨e1, e2⟩ := cpin hq h1000
      exact ⟨e1, fun g hg => (e2 g hg).1⟩
    rcases kinds h0 h1 f i with ⟨q, hq, e⟩ | ⟨q, hq, _, e⟩ | hj
    · cases hl0 : look h0 q with
      | none => rw [← e, (k.new q hq hl0).1] at hi; cases hi.1
      | some x => exact img q (by rw [hl0]; rfl) e
    · exact img q hq e
    · refine ⟨aftB_2 hj, fun g hg => ?_⟩
      obtain ⟨e, he⟩ := Option.isSome_iff_exists.1 hi.1
      have hs : (look (frzs h zs) i).isSome = true := by rw [isSome_frzs]; exact hi.1
      obtain ⟨e', he'⟩ := Option.isSome_iff_exists.1 hs
      have ho := oth hj he' hg
      unfold bsh
      rw [old ho.1 ho.2]
  have dom : ∀ i, (look h i).isSome = true → (look h' i).isSome = true := fun i hi => by
    rcases kinds h0 h1 f i with ⟨q, hq, rfl⟩ | ⟨q, hq, hn, rfl⟩ | hj
    · obtain ⟨⟨bx, z⟩, hl⟩ := Option.isSome_iff_exists.1 hq
      rw [k.outA q bx z hl]; rfl
    · rw [k.outB q hq hn]; rfl
    · rw [k.outC i hj, Option.isSome_map, isSome_frzs]; exact hi
  have keep : Keeps (fun i => (look h i).isSome = true ∧ m ≠ some i) w (F.ok w (frzs h zs) β) β w' (F.ok w' h' (aftB h0 h1 f β β1)) (aftB h0 h1 f β β1) := ⟨okm1, hids⟩
  refine ⟨⟨⟨?_, r.g, fun j bx z hl => ?_, fun j j' e1 e2 g hne hl1 hl2 hg hg' => ?_, fun j bx z hl i hi => ?_, fun id hid => ?_⟩, ⟨fun b hb => okm1 b (ok_frzs zs hb), hids⟩, dom⟩, okm2⟩
  · exact r.below.comp hc.below fun b hb => (mown hb).1
  · rcases kinds h0 h1 f j with ⟨i, hi, rfl⟩ | ⟨i, hi, hn, rfl⟩ | hj
    · obtain ⟨bx0, hl', rfl⟩ := outA hi hl
      have hb := hc.box i bx0 z hl'
      unfold BoxRep at hb ⊢
      rw [aftB_1 k hi]
      cases hβ : β1 i with
      | none =>
        rw [hβ] at hb
        simp only at hb ⊢
        rw [Bx.ren_cells, hb]; rfl
      | some g =>
        rw [hβ] at hb
        obtain ⟨h2, arr, e, h3, h4, h5⟩ := hb
        have hown : F.own g := by
          rcases h2 with h2 | h2
          · exact .inl (Nat.le_trans r.size h2)
          · exact (mown h2).1
        refine ⟨hown, arr, e, RowAtB.renB.2 (h3.ren (k.lo1 i (isSome_of hl'))), fun e' l he => ?_, fun q c hq => ?_⟩
        · cases bx0 with
          | pu e0 l0 => simp only [Bx.ren, Bx.pu.injEq] at he; exact h4 e' l (by rw [he.1, he.2])
          | mx cs => cases he
          | ob cs => cases he
        · rw [Bx.ren_cells, List.getElem?_map] at hq
          cases hc0 : bx0.cells[q]? with
          | none => rw [hc0] at hq; cases hq
          | some c0 =>
            rw [hc0] at hq
            simp only [Option.map_some, Option.some.injEq] at hq
            subst hq
            obtain ⟨u, hu, hr⟩ := h5 q c0 hc0
            have kk : Keeps (fun _ => True) w' (Fr.ok ⟨w, F.ok w (frzs h zs) β, handed h0 (inB h0 f β), pinOf (inB h0 f β)⟩ w' h1 β1) β1 w' (F.ok w' h' (aftB h0 h1 f β β1)) β1 := ⟨fun b hb => ⟨okm2 b hb, rfl⟩, fun _ _ => ⟨rfl, fun _ _ => rfl⟩⟩
            exact ⟨u, hu, repC_ren (fun id hid => aftB_1 k (hc.wf i bx0 z hl' id (List.mem_flatMap.2 ⟨c0, List.mem_of_getElem? hc0, hid⟩))) (kk.repC (fun _ _ => trivial) hr)⟩
    · rw [k.outB i hi hn] at hl
      simp only [Option.some.injEq, Prod.mk.injEq] at hl
      obtain ⟨rfl, rfl⟩ := hl
      unfold BoxRep
      rw [aftB_0 k hi hn]; rfl
    · obtain ⟨bx0, hl', rfl⟩ := outC hj hl
      refine ((r'.box j bx0 z hl').scrubM m).keeps keep (aftB_2 hj) (fun g hg => ?_) fun i hi => ?_
      · have ho := oth hj hl' hg
        exact old ho.1 ho.2
      · have hs := scrubM_refs hi
        refine ⟨?_, hs.2⟩
        have := r'.wf j bx0 z hl' i hs.1
        rwa [isSome_frzs] at this
  · have other : ∀ {j j' e1 e2}, j ≠ j' → look h' j = some e1 → look h' j' = some e2 → (∃ i, (look h1 i).isSome = true ∧ f i = j) → aftB h0 h1 f β β1 j = some g → aftB h0 h1 f β β1 j' ≠ some g := fun {j j' e1 e2} hne hl1 hl2 ⟨i, hi, e⟩ hg hg' => by
      subst e
      obtain ⟨bx1, z1⟩ := e1
      obtain ⟨bx2, z2⟩ := e2
      rw [aftB_1 k hi] at hg
      obtain ⟨b1, f1, _⟩ := outA hi hl1
      rcases kinds h0 h1 f j' with ⟨i', hi', rfl⟩ | ⟨i', hi', hn, rfl⟩ | hj
      · rw [aftB_1 k hi'] at hg'
        obtain ⟨b2, f2, _⟩ := outA hi' hl2
        exact hc.inj i i' _ _ g (fun e => hne (by rw [e])) f1 f2 hg hg'
      · rw [aftB_0 k hi' hn] at hg'; cases hg'
      · rw [aftB_2 hj] at hg'
        obtain ⟨b2, f2, _⟩ := outC hj hl2
        have ho := oth hj f2 hg'
        rcases (clt f1 hg).2 with h2 | h2
        · omega
        · exact ho.2 h2
    rcases kinds h0 h1 f j with hj | ⟨i, hi, hn, rfl⟩ | hj
    · exact other hne hl1 hl2 hj hg hg'
    · rw [aftB_0 k hi hn] at hg; cases hg
    · rcases kinds h0 h1 f j' with hj' | ⟨i, hi, hn, rfl⟩ | hj'
      · exact other (fun e => hne e.symm) hl2 hl1 hj' hg' hg
      · rw [aftB_0 k hi hn] at hg'; cases hg'
      · obtain ⟨bx1, z1⟩ := e1
        obtain ⟨bx2, z2⟩ := e2
        rw [aftB_2 hj] at hg
        rw [aftB_2 hj'] at hg'
        obtain ⟨b1, f1, _⟩ := outC hj hl1
        obtain ⟨b2, f2, _⟩ := outC hj' hl2
        exact r'.inj j j' _ _ g hne f1 f2 hg hg'
  · rcases kinds h0 h1 f j with ⟨q, hq, rfl⟩ | ⟨q, hq, hn, rfl⟩ | hj
    · obtain ⟨bx0, hl', rfl⟩ := outA hq hl
      rw [Bx.ren_cells] at hi
      obtain ⟨i0, hi0, rfl⟩ := acRefs_ren hi
      obtain ⟨⟨bx2, z2⟩, h2⟩ := Option.isSome_iff_exists.1 (hc.wf q bx0 z hl' i0 hi0)
      rw [k.outA i0 bx2 z2 h2]; rfl
    · rw [k.outB q hq hn] at hl
      simp only [Option.some.injEq, Prod.mk.injEq] at hl
      obtain ⟨rfl, rfl⟩ := hl
      cases hi
    · obtain ⟨bx0, hl', rfl⟩ := outC hj hl
      have := r'.wf j bx0 z hl' i (scrubM_refs hi).1
      rw [isSome_frzs] at this
      exact dom i this
  · have hp := r.pin id hid
    have img : ∀ q, (look h0 q).isSome = true → f q = id → 1000 ≤ q := fun q hq e => by
      rcases Nat.lt_or_ge q 1000 with hlt | hge
      · have := (k.mv q hq hlt).2; omega
      · exact hge
    refine ⟨?_, fun g hg => ⟨(hp.2 g hg).1, ?_, fun j e hl hne => ?_⟩⟩
    · rcases kinds h0 h1 f id with ⟨q, hq, e⟩ | ⟨q, hq, hn, e⟩ | hj
      · cases hl0 : look h0 q with
        | none => have := (k.new q hq hl0).2; omega
        | some x =>
          have hq0 : (look h0 q).isSome = true := by rw [hl0]; rfl
          rw [← hp.1, ← e, aftB_1 k hq]
          exact (cpin hq0 (img q hq0 e)).1
      · have := k.pin q hq (img q hq e)
        rw [hn] at this; cases this
      · rw [aftB_2 hj]; exact hp.1
    · rw [← (hp.2 g hg).2.1]
      by_cases hh : handed h0 (inB h0 f β) g
      · obtain ⟨q, hq, hgq⟩ := hm hh
        obtain ⟨bx, hlq, _⟩ := hin hq
        have e : f q = id := by
          rcases Nat.decEq (f q) id with hn | he
          · exact absurd hgq ((hp.2 g hg).2.2 (f q) _ hlq hn)
          · exact he
        exact ((cpin hq (img q hq e)).2 g hgq).1
      · unfold bsh
        rw [old (by have := (hp.2 g hg).1; have := r.size; omega) hh]
    · intro hg'
      rcases kinds h0 h1 f j with ⟨i, hi, rfl⟩ | ⟨i, hi, hn, rfl⟩ | hj
      · rw [aftB_1 k hi] at hg'
        obtain ⟨bx, z⟩ := e
        obtain ⟨bx0, hl', _⟩ := outA hi hl
        rcases (clt hl' hg').2 with h2 | h2
        · have := (hp.2 g hg).1; have := r.size; omega
        · obtain ⟨q, hq, hgq⟩ := hm h2
          obtain ⟨bx, hlq, _⟩ := hin hq
          have e : f q = id := by
            rcases Nat.decEq (f q) id with hn | he
            · exact absurd hgq ((hp.2 g hg).2.2 (f q) _ hlq hn)
            · exact he
          exact ((cpin hq (img q hq e)).2 g hgq).2 i _ hl' (fun e' => hne (by rw [e', e])) hg'
      · rw [aftB_0 k hi hn] at hg'; cases hg'
      · rw [aftB_2 hj] at hg'
        obtain ⟨bx, z⟩ := e
        obtain ⟨bx0, hl', _⟩ := outC hj hl
        have hs : (look h j).isSome = true := by rw [← isSome_frzs zs]; exact isSome_of hl'
        obtain ⟨e', he'⟩ := Option.isSome_iff_exists.1 hs
        exact (hp.2 g hg).2.2 j e' he' hne hg'
end

/-- An argument, as the callee knows it: handed over, or read whole. -/
inductive ArgR (h : Hp) (f : Nat → Nat) (h0 : Hp) (zs : List Nat) : AV → AV → Prop
  | own {x : AV} (hx : x ≠ .bot) (hrf : ∀ i ∈ x.refs, (look h0 i).isSome = true) : ArgR h f h0 zs (x.ren f) x
  | view {v : AV} {p : PA} {ids : List Nat} (hv : ∀ K : PA → List Nat → Prop, K p ids → viewA h v K) (hz : ∀ id ∈ ids, id ∈ zs) : ArgR h f h0 zs v p.av
inductive ArgsR (h : Hp) (f : Nat → Nat) (h0 : Hp) (zs : List Nat) : List AV → List AV → Prop
  | nil : ArgsR h f h0 zs [] []
  | cons {v x : AV} {vs xs : List AV} (ha : ArgR h f h0 zs v x) (hr : ArgsR h f h0 zs vs xs) : ArgsR h f h0 zs (v :: vs) (x :: xs)
theorem ArgsR.len {h : Hp} {f : Nat → Nat} {h0 : Hp} {zs : List Nat} {vs xs : List AV} (r : ArgsR h f h0 zs vs xs) : xs.length = vs.length := by
  induction r with
  | nil => rfl
  | cons _ _ ih => simp [ih]
theorem ArgsR.get {h : Hp} {f : Nat → Nat} {h0 : Hp} {zs : List Nat} {vs xs : List AV} (r : ArgsR h f h0 zs vs xs) : ∀ (j : Nat) x, xs[j]? = some x → ∃ v, vs[j]? = some v ∧ ArgR h f h0 zs v x := by
  induction r with
  | nil => intro j z hj; simp at hj
  | cons hz _ ih =>
    intro j z hj
    cases j with
    | zero => simp only [List.getElem?_cons_zero, Option.some.injEq] at hj; subst hj; exact ⟨_, rfl, hz⟩
    | succ j => exact ih j z (by simpa using hj)
theorem callS_sem {X : Ctx} {o : Oper} {c : Call} {fo : Operand} (ho : o.op = .call c) (hc : c.callee = .value fo) {ρ : Operand → AV} {h : Hp} {g : FuncId} (hf : ρ fo = .one (.pv (.clo g []))) {xs : List AV} {h0 h1 h' : Hp} {y : AV} (hs : SpcS X g xs h0 y h1) {f : Nat → Nat} {zs : List Nat} {m : Option Nat}
    (k : Fits h f h0 h1 zs h' m) (ha : ArgsR h f h0 zs (c.args.toList.map ρ) xs) : SemOp X o ρ h (y.ren f) h' m := fun F β w a r hv next Q hn => by
  have hfm : fo ∈ o.op.operands.toList := by rw [ho]; simp [Op.operands, Call.operands, hc]
  have ham : ∀ x ∈ c.args.toList, x ∈ o.op.operands.toList := fun x hx => by rw [ho]; simp only [Op.operands, Call.operands]; rw [Array.toList_append]; exact List.mem_append.2 (.inr hx)
  have h1' := (hv fo hfm).1
  rw [hf] at h1'
  have h1'' : RepP w (F.ok w h β) (.clo g []) (a.eval fo) := h1'
  generalize hfe : a.eval fo = fe at h1''
  cases h1'' with
  | clo _ _ vs vals hvs hvv hrep =>
  have hvs0 : vs = #[] := by simpa using hvs
  subst hvs0
  have hex := exec_value (P := X.P) (w := w) ho hc hfe hs.ent
  rw [Array.append_empty] at hex
  have hlen := ha.len
  have hcall := hs.calls (F.ok w (frzs h zs) β) w (c.args.map a.eval) (inB h0 f β) r.gw (fun b hb => hb.1) (k.hand r) (by simp [hlen]) (fun j x hj => by
    obtain ⟨v, hvj, hax⟩ := ha.get j x hj
    rw [List.getElem?_map] at hvj
    cases hx0 : c.args.toList[j]? with
    | none => rw [hx0] at hvj; cases hvj
    | some ao =>
      rw [hx0] at hvj
      simp only [Option.map_some, Option.some.injEq] at hvj
      have hao := ham ao (List.mem_of_getElem? hx0)
      obtain ⟨hr, hrf⟩ := hv ao hao
      refine ⟨a.eval ao, by rw [Array.getElem?_map]; rw [← Array.getElem?_toList, hx0]; rfl, ?_⟩
      rw [hvj] at hr hrf
      cases hax with
      | own hx hrf0 =>
        have kk : Keeps (fun _ => True) w (F.ok w h β) (inB h0 f β) w (F.ok w (frzs h zs) β) (inB h0 f β) := ⟨fun b hb => ⟨ok_frzs zs hb, rfl⟩, fun _ _ => ⟨rfl, fun _ _ => rfl⟩⟩
        exact kk.repV (fun _ _ => trivial) (repV_back hx (fun id hid => (inB_of (hrf0 id hid)).symm) hr)
      | @view _ p ids hvw hz =>
        obtain ⟨p', ids', ⟨rfl, rfl⟩, hids, hp⟩ := viewA_sound r.wf (hvw (fun p' ids' => p' = p ∧ ids' = ids) ⟨rfl, rfl⟩) hrf
        have hw := (wide_frzs r (ids := zs) (fun id hid => (k.frz id hid).1)).mono (ids' := ids') hz
        exact PA.repV_β (hp h (fun _ _ => rfl) X F β w _ _ hw hr))
  unfold Oper.wp Oper.upon
  rw [hex]
  exact hcall.mono fun e w' ⟨u, β1, he, hrel, hu, hy⟩ => by
    subst he
    obtain ⟨hp, hok⟩ := k.post r hrel
    have kk : Keeps (fun _ => True) w' (Fr.ok ⟨w, F.ok w (frzs h zs) β, handed h0 (inB h0 f β), pinOf (inB h0 f β)⟩ w' h1 β1) β1 w' (F.ok w' h' (aftB h0 h1 f β β1)) β1 := ⟨fun b hb => ⟨hok b hb, rfl⟩, fun _ _ => ⟨rfl, fun _ _ => rfl⟩⟩
    refine hn u w' _ hp (repV_ren (fun id hid => aftB_1 k (hy id hid)) (kk.repV (fun _ _ => trivial) hu)) fun id hid => ?_
    obtain ⟨j, hj, rfl⟩ := AV.ren_refs hid
    obtain ⟨⟨bx, z⟩, hl⟩ := Option.isSome_iff_exists.1 (hy j hj)
    rw [k.outA j bx z hl]; rfl
end Go.VL


namespace Go.VL
open Go.RowKit
set_option linter.unusedVariables false
variable {X : Ctx} {F : Fr} {h : Hp} {β : Bt} {w w' : World}
theorem HRel.keeps_addW (r : HRel X F h β w) {id : Nat} {bx : Bx} (hn : look h id = none) (hb : Below w.heap.size w w') (hsz : w.heap.size < w'.heap.size) :
    Keeps (fun id => (look h id).isSome = true) w (F.ok w h β) β w' (F.ok w' (put h id (bx, false)) (upd1 β id (some w.heap.size))) (upd1 β id (some w.heap.size)) :=
  ⟨fun k hk => ⟨⟨by have := hk.1; omega, hk.2.1, fun i bx' hl e => by
    rw [look_put] at hl
    unfold upd1 at e
    by_cases hi : i = id
    · subst hi
      have := hk.1
      simp at e
      omega
    · rw [if_neg hi] at hl e
      exact hk.2.2 i bx' hl e⟩, hb.block k hk.1⟩, fun i hi => by
    have hne : i ≠ id := fun e => by subst e; rw [hn] at hi; cases hi
    refine ⟨by simp [upd1, hne], fun g hg => ?_⟩
    obtain ⟨e, he⟩ := Option.isSome_iff_exists.1 hi
    unfold bsh
    rw [hb.block g (r.lt he hg).1]⟩
theorem HRel.addW (r : HRel X F h β w) {id : Nat} {bx : Bx} {arr : Array Value} {e : TypeId} (hn : look h id = none) (hid : id < 1000) (hb : Below w.heap.size w w') (hsz : w.heap.size < w'.heap.size) (hrow : RowAtB bx w' id w.heap.size arr e) (he : ∀ e' l, bx = .pu e' l → e' = e)
    (hc : ∀ (j : Nat) c, bx.cells[j]? = some c → ∃ u : Value, arr[j]? = some u ∧ RepC w (F.ok w h β) β c u) (hw : ∀ i ∈ acRefs bx.cells, (look h i).isSome = true) :
    HRel X F (put h id (bx, false)) (upd1 β id (some w.heap.size)) w' := by
  have k := r.keeps_addW (bx := bx) hn hb hsz
  refine ⟨r.below.then hb, r.g, fun i bx' z hl => ?_, fun i i' e1 e2 g hne h1 h2 b1 b2 => ?_, fun i bx' z hl j hj => ?_, (r.ext hb).pin.upd hid fun i g hi hg e => by
    have := ((r.pin i hi).2 g hg).1
    have := r.size
    simp at e; omega⟩
  · rw [look_put] at hl
    by_cases hi : i = id
    · subst hi
      rw [if_pos rfl] at hl
      simp only [Option.some.injEq, Prod.mk.injEq] at hl
      obtain ⟨rfl, rfl⟩ := hl
      unfold BoxRep
      rw [show upd1 β i (some w.heap.size) i = some w.heap.size by simp [upd1]]
      refine ⟨.inl r.size, arr, e, hrow, he, fun j c hj => ?_⟩
      obtain ⟨u, hu, hr⟩ := hc j c hj
      exact ⟨u, hu, k.repC (fun i hi => hw i (List.mem_flatMap.2 ⟨c, List.mem_of_getElem? hj, hi⟩)) hr⟩
    · rw [if_neg hi] at hl
      exact (r.box i bx' z hl).keeps k (by simp [upd1, hi]) (fun g hg => hb.block g (r.lt hl hg).1) (fun j hj => r.wf i bx' z hl j hj)
  · rw [look_put] at h1 h2
    unfold upd1 at b1 b2
    by_cases hi : i = id
    · have hi' : i' ≠ id := fun e => hne (hi.trans e.symm)
      rw [if_pos hi] at b1
      rw [if_neg hi'] at h2 b2
      have := (r.lt h2 b2).1
      simp at b1
      omega
    · rw [if_neg hi] at h1 b1
      by_cases hi' : i' = id
      · rw [if_pos hi'] at b2
        have := (r.lt h1 b1).1
        simp at b2
        omega
      · rw [if_neg hi'] at h2 b2
        exact r.inj i i' e1 e2 g hne h1 h2 b1 b2
  · rw [look_put] at hl ⊢
    by_cases hj2 : j = id
    · simp [hj2]
    · rw [if_neg hj2]
      by_cases hi : i = id
      · rw [if_pos hi] at hl
        simp only [Option.some.injEq, Prod.mk.injEq] at hl
        obtain ⟨rfl, rfl⟩ := hl
        exact hw j hj
      · rw [if_neg hi] at hl
        exact r.wf i bx' z hl j hj
theorem post_addW {id : Nat} {bx : Bx} {arr : Array Value} {e : TypeId} (r : HRel X F h β w) (hn : look h id = none ∧ id < 1000) (hb : Below w.heap.size w w') (hsz : w.heap.size < w'.heap.size) (hrow : RowAtB bx w' id w.heap.size arr e) (he : ∀ e' l, bx = .pu e' l → e' = e)
    (hc : ∀ (j : Nat) c, bx.cells[j]? = some c → ∃ u : Value, arr[j]? = some u ∧ RepC w (F.ok w h β) β c u) (hw : ∀ i ∈ acRefs bx.cells, (look h i).isSome = true) :
    Post X F h β w (put h id (bx, false)) (upd1 β id (some w.heap.size)) w' none where
  rel := r.addW hn.1 hn.2 hb hsz hrow he hc hw
  keep := by
    have := r.keeps_addW (bx := bx) hn.1 hb hsz
    exact ⟨this.blk, fun i hi => this.ids i hi.1⟩
  dom := fun i hi => by rw [look_put]; split <;> simp_all
/-- Bytes made of a string, to be written into. -/
def evCvO (X : Ctx) (src dst : TypeId) (x : AV) (K : TypeId → List UInt8 → Prop) : Prop :=
  match tinf X.P src, tinf X.P dst with
  | some ⟨.string, _, _, _⟩, some ⟨.slice e, _, _, _⟩ => (match tinf X.P e, x with
    | some ⟨.int .u8, 1, _, _⟩, .one (.pv (.str l)) => K e l
    | _, _ => False)
  | _, _ => False
theorem evCvO_sound {X : Ctx} {o : Oper} {src dst : TypeId} {x : Operand} (ho : o.op = .convert src dst x) {ρ : Operand → AV} {h : Hp} {K : TypeId → List UInt8 → Prop} (hv : evCvO X src dst (ρ x) K) :
    ∃ e l, K e l ∧ ∀ id, 500 ≤ id ∧ id < 1000 → NSem X o ρ h (.one (.own id 1 l.length)) [] [] (some (id, .pu e (bytesPV l))) := by
  have hxm : x ∈ o.op.operands.toList := by rw [ho]; simp [Op.operands]
  have hex : ∀ (a : Act) (w w' : World) (v : Value), (convert src dst (a.eval x)).run X.P w = .ok v w' → (execOp a.eval o).run X.P w = .ok (.value v) w' := fun a w w' v hr => by
    unfold execOp; rw [ho]; simp only
    rw [Sem.run_bind, hr]; rfl
  unfold evCvO at hv
  split at hv
  · rename_i e _ _ _ hT hT'
    obtain ⟨hs, _⟩ := tinf_spec hT
    obtain ⟨hd, _⟩ := tinf_spec hT'
    split at hv
    · rename_i l hE hxc
      obtain ⟨he, i, hi, hS, _⟩ := tinf_spec hE
      refine ⟨e, l, hv, fun id h5 h2 ha hn F β w a r hv' next Q hnx => ?_⟩
      have hx := (hv' x hxm).1
      rw [hxc] at hx
      obtain ⟨hx, hlen⟩ := one_str hx
      have hrun := Lib.run_convert_string_bytes (P := X.P) w src dst e ⟨l.toArray⟩ hs hd he
      have hb : Below w.heap.size w (Lib.bytesWorld w e ⟨l.toArray⟩) := ⟨rfl, rfl, rfl, by rw [Lib.bytesWorld_size]; omega, fun k hk => Lib.bytesWorld_at_old w e _ k hk⟩
      have hsz : (ByteArray.mk l.toArray).size = l.length := by simp [ByteArray.size]
      have hge := grownCap_ge w l.length 0 e
      have hle := grownCap_le_maxLen w l.length 0 e (by simpa [maxLen] using hlen)
      have hrow : RowAt (Lib.bytesWorld w e ⟨l.toArray⟩) id w.heap.size (Lib.bytesCells w e ⟨l.toArray⟩) e := ⟨_, Lib.bytesWorld_at_new w e ⟨l.toArray⟩, .inr ⟨h5.1, h5.2, rfl⟩⟩
      have hcs : (Lib.bytesCells w e ⟨l.toArray⟩).size = grownCap w l.length 0 e := by
        unfold Lib.bytesCells
        simp only [Array.size_append, Array.size_map, Array.size_replicate, hsz]
        have : l.toArray.size = l.length := by simp
        omega
      rw [hsz] at hrun
      refine upon_wp (hex a w _ _ (by rw [hx]; exact hrun)) (hnx _ _ (upd1 β id (some w.heap.size)) (post_addW r (hn id _ rfl) hb (by rw [Lib.bytesWorld_size]; omega) hrow (fun e' l' he' => by cases he'; rfl) (fun j c hj => ?_) (fun i hi' => ?_)) (.inr ⟨w.heap.size, _, by simp [upd1], rfl, hge, by simpa [maxLen] using hle, ?_⟩) fun i hi' => ?_)
      · simp only [Bx.cells, List.getElem?_map] at hj
        cases hp : (bytesPV l)[j]? with
        | none => rw [hp] at hj; cases hj
        | some p =>
          rw [hp] at hj
          simp only [Option.map_some, Option.some.injEq] at hj
          subst hj
          have hjl : j < l.length := by have := (List.getElem?_eq_some_iff.1 hp).1; simpa [bytesPV] using this
          have hb2 : (bytesPV l)[j]? = some (.int .u8 (l[j].toNat : Int)) := by
            unfold bytesPV
            rw [List.getElem?_map, List.getElem?_eq_getElem hjl]; rfl
          rw [hb2] at hp
          cases hp
          refine ⟨.int .u8 (l[j].toNat : Int), ?_, .int _ _ (by have := l[j].toNat_lt; rw [range_u8]; omega)⟩
          have := Lib.bytesWorld_cell w e ⟨l.toArray⟩ j (by rw [hsz]; exact hjl)
          rw [hrow.cell j] at this
          rw [this]
          simp [List.getD_eq_getElem?_getD, hjl]
      · rw [show (Bx.pu e (bytesPV l)).cells = (bytesPV l).map .pv from rfl, acRefs_pv] at hi'; cases hi'
      · rw [hrow.bsh, hcs, Nat.mul_one]
      · simp only [AV.refs, AC.refs, List.mem_singleton] at hi'
        subst hi'
        show (look (put h2 i (.pu e (bytesPV l), false)) i).isSome = true
        rw [look_put]; simp
    · exact hv.elim
  · exact hv.elim
end Go.VL


namespace Go.VL
open Go.RowKit
set_option linter.unusedVariables false

inductive Ef where
  | n (rd zs : List Nat) (add : Option (Nat × Bx))
  | e (h' : Hp) (m : Option Nat)
def EfSem (X : Ctx) (o : Oper) (ρ : Operand → AV) (h : Hp) (v : AV) : Ef → Prop
  | .n rd zs add => NSem X o ρ h v rd zs add
  | .e h' m => SemOp X o ρ h v h' m
def viewApp (S : Nat) (h : Hp) (x : AV) (K : Nat → List PV → List Nat → Prop) : Prop :=
  match x with
  | .one (.clo _ _) => False
  | .one c => viewC h c fun p ids => (match p with | .sl m cells => cells.length = m * S ∧ K m cells ids | _ => False)
  | _ => False
def evAppOwn (S B : Nat) (e : TypeId) (h : Hp) (id n : Nat) (m : Nat) (cells : List PV) (ids : List Nat) (K : Hp → Nat → AV → Prop) : Prop :=
  match look h id with
  | some (.pu e' l, false) => e' = e ∧ n * S ≤ l.length ∧ (n + m) * B ≤ 140737488355328 ∧ ids.contains id = false ∧ id < 500 ∧ K (put (scrubH id (frzs h ids)) id (.pu e (l.take (n * S) ++ cells), false)) id (.one (.own id S (n + m)))
  | _ => False
def evAppend (X : Ctx) (t : TypeId) (s x : AV) (h : Hp) (nx : Nat) (K : Hp → Nat → AV → Nat → Prop) : Prop :=
  match tinf X.P t with
  | some ⟨.slice e, _, _, _⟩ =>
    (match tinf X.P e with
     | some ⟨_, S, B, some z⟩ => 0 < S ∧ 0 < B ∧ z.cells.size = S ∧ viewApp S h x fun m cells ids =>
       (match s with
        | .one (.own id sz n) => sz = S ∧ evAppOwn S B e h id n m cells ids fun h' m' v => K h' m' v nx
        | .one (.pv .nil) => look h nx = none ∧ evAppOwn S B e (put h nx (.pu e [], false)) nx 0 m cells ids fun h' m' v => K h' m' v (nx + 1)
        | _ => False)
     | _ => False)
  | _ => False
theorem frzs_put {h : Hp} {nx : Nat} {b : Bx × Bool} {ids : List Nat} (hn : nx ∉ ids) (hln : look h nx = none) : ∀ i, look (frzs (put h nx b) ids) i = look (put (frzs h ids) nx b) i := by
  intro i
  induction ids generalizing h with
  | nil => rfl
  | cons z zs ih =>
    simp only [List.mem_cons, not_or] at hn
    have e1 : ∀ j, look (frz (put h nx b) z) j = look (put (frz h z) nx b) j := fun j => by
      rw [look_frz, look_put, look_put, look_frz]
      by_cases h1 : j = z
      · have h2 : j ≠ nx := fun e => hn.1 (by rw [← e, h1])
        rw [if_pos h1, if_neg h2, if_neg h2, if_pos h1]
      · rw [if_neg h1]
        by_cases h2 : j = nx
        · rw [if_pos h2, if_pos h2]
        · rw [if_neg h2, if_neg h2, if_neg h1]
    have e2 : ∀ (zs : List Nat) (a c : Hp), (∀ j, look a j = look c j) → ∀ j, look (frzs a zs) j = look (frzs c zs) j := by
      intro zs
      induction zs with
      | nil => exact fun a c hh => hh
      | cons y ys ih2 => exact fun a c hh => ih2 _ _ fun j => by rw [look_frz, look_frz, hh]
    rw [frzs, frzs, e2 zs _ _ e1 i]
    exact ih hn.2 (by rw [look_frz]; split <;> simp [hln])
theorem evAppend_sound {X : Ctx} {o : Oper} {c : Call} {s x : Operand} {t : TypeId} (ho : o.op = .call c) (hc : c.callee = .builtin .append) (ha : c.args = #[s, x]) (ht' : c.argTypes = #[t, t]) {ρ : Operand → AV} {h : Hp} {nx : Nat} {K : Hp → Nat → AV → Nat → Prop}
    (hwf : ∀ id bx z, look h id = some (bx, z) → ∀ i ∈ acRefs bx.cells, (look h i).isSome = true) (hrf : ∀ x ∈ o.op.operands.toList, ∀ id ∈ (ρ x).refs, (look h id).isSome = true) (hv : evAppend X t (ρ s) (ρ x) h nx K) :
    ∃ h' m v nx', K h' m v nx' ∧ SemOp X o ρ h v h' (some m) := by
  have hsm : s ∈ o.op.operands.toList := by rw [ho]; simp [Op.operands, Call.operands, hc, ha]
  have hxm : x ∈ o.op.operands.toList := by rw [ho]; simp [Op.operands, Call.operands, hc, ha]
  unfold evAppend at hv
  split at hv
  · rename_i e _ _ _ hT
    obtain ⟨ht, _⟩ := tinf_spec hT
    split at hv
    · rename_i S B z hT2
      obtain ⟨_, i, hi, hs, hby, hz⟩ := tinf_spec hT2
      simp only at hs hby hz
      obtain ⟨hS, hB, hzs, hv⟩ := hv
      -- what is appended
      have key : ∃ m cells ids, cells.length = m * S ∧ (∀ id ∈ ids, (look h id).isSome = true) ∧ (match ρ s with
        | .one (.own id sz n) => sz = S ∧ evAppOwn S B e h id n m cells ids fun h' m' v => K h' m' v nx
        | .one (.pv .nil) => look h nx = none ∧ evAppOwn S B e (put h nx (.pu e [], false)) nx 0 m cells ids fun h' m' v => K h' m' v (nx + 1)
        | _ => False) ∧ ∀ X F β w ok' u, Wide X F h β w ids ok' → RepV w (F.ok w h β) β (ρ x) u → RepP w ok' (.sl m cells) u := by
        unfold viewApp at hv
        split at hv
        · exact hv.elim
        · rename_i cx hne hcx
          obtain ⟨p, ids, h1, hr, hp⟩ := viewC_sound hv hwf (fun id hid => hrf x hxm id (by rw [hcx]; exact hid))
          split at h1
          · rename_i m cells
            exact ⟨m, cells, ids, h1.1, hr, h1.2, fun X F β w ok' u hw hu => hp h (fun _ _ => rfl) X F β w ok' u hw (by rw [hcx] at hu; exact hu)⟩
          · exact h1.elim
        · exact hv.elim
      obtain ⟨m, cells, ids, hml, hr, hv, hvx⟩ := key
      have hexec : ∀ (a : Act) (w w' : World) (v' : Value), (Builtin.append_ #[t, t] o.type #[a.eval s, a.eval x]).run X.P w = .ok v' w' → (execOp a.eval o).run X.P w = .ok (.value v') w' := fun a w w' v' h1 => by
        rw [exec_builtin ho hc, ha, ht']
        simp only [builtin, List.map_toArray, List.map_cons, List.map_nil]
        rw [Sem.run_bind, h1]; rfl
      split at hv
      · rename_i id sz n hsv
        obtain ⟨rfl, hv⟩ := hv
        unfold evAppOwn at hv
        split at hv
        · rename_i e' l hl
          obtain ⟨rfl, hnl, hb, hnid, hid, hK⟩ := hv
          have hnid' : id ∉ ids := by simpa using hnid
          refine ⟨_, _, _, _, hK, fun F β w a r hv' next Q hn => ?_⟩
          have hso := (hv' s hsm).1
          rw [hsv] at hso
          have hx := hvx X F β w _ _ (wide_frzs r hr) (hv' x hxm).1
          obtain ⟨v', w', β', hrun, hp, ho'⟩ := append_core (ty := o.type) (r.frzs ids) ht hi hz hs hby hzs hS hB (by rw [look_frzs_not ids h hnid']; exact hl) hso hnl hx hml hb hid
          refine upon_wp (hexec a w w' v' hrun) (hn v' w' β' ((Post.frzs r ids).trans hp) ho' fun j hj => ?_)
          simp only [AV.refs, AC.refs, List.mem_singleton] at hj
          subst hj
          rw [look_put]; simp
        · exact hv.elim
      · rename_i hsv
        obtain ⟨hln, hv⟩ := hv
        unfold evAppOwn at hv
        rw [look_put, if_pos rfl] at hv
        simp only at hv
        obtain ⟨_, hnl, hb, hnid, hid, hK⟩ := hv
        have hnid' : nx ∉ ids := by simpa using hnid
        refine ⟨_, _, _, _, hK, fun F β w a r hv' next Q hn => ?_⟩
        have hso := (hv' s hsm).1
        rw [hsv] at hso
        have hnil := one_nil hso
        have hx := hvx X F β w _ _ (wide_frzs r hr) (hv' x hxm).1
        have hg := post_ghost (e := e) (r.frzs ids) (look_isSome_none hln) (show nx < 1000 by omega)
        have hx2 : RepP w (F.ok w (put (frzs h ids) nx (.pu e [], false)) (upd1 β nx none)) (.sl m cells) (a.eval x) := hx.mono fun b hb => hg.keep.blk b hb
        have hg' : HRel X F (frzs (put h nx (.pu e [], false)) ids) (upd1 β nx none) w := hg.rel.congr (frzs_put hnid' hln)
        have hokE : F.ok w (frzs (put h nx (.pu e [], false)) ids) (upd1 β nx none) = F.ok w (put (frzs h ids) nx (.pu e [], false)) (upd1 β nx none) := by
          funext b; unfold Fr.ok; simp only [frzs_put hnid' hln]
        obtain ⟨v', w', β', hrun, hp, ho'⟩ := append_core (ty := o.type) hg' ht hi hz hs hby hzs hS hB (by rw [frzs_put hnid' hln, look_put, if_pos rfl]) (.inl ⟨hnil, rfl⟩) hnl (by rw [hokE]; exact hx2) hml hb hid
        have p1 : Post X F h β w (frzs (put h nx (.pu e [], false)) ids) (upd1 β nx none) w none := (Post.frzs r ids).trans ⟨hg', by rw [hokE]; exact hg.keep, fun j hj => by rw [frzs_put hnid' hln]; exact hg.dom j hj⟩
        refine upon_wp (hexec a w w' v' hrun) (hn v' w' β' (p1.trans hp) ho' fun j hj => ?_)
        simp only [AV.refs, AC.refs, List.mem_singleton] at hj
        subst hj
        rw [look_put]; simp
      · exact hv.elim
    · exact hv.elim
  · exact hv.elim

/-- A slice of an own row: its box, its cells' size, where it begins, how long it is. -/
def ownPart : AV → Option (Nat × Nat × Nat × Nat)
  | .one (.own id sz n) => some (id, sz, 0, n)
  | .one (.sub id sz off n) => some (id, sz, off, n)
  | _ => none
theorem ownPart_rep {X : Ctx} {F : Fr} {h : Hp} {β : Bt} {w : World} (r : HRel X F h β w) {x : AV} {id sz o n : Nat} (hx : ownPart x = some (id, sz, o, n)) {e : TypeId} {l : List PV} {z : Bool} (hl : look h id = some (.pu e l, z)) {S : Nat} {u : Value} (hu : RepV w (F.ok w h β) β x u) :
    ∃ A cap, u = .slice A n cap ∧ n ≤ cap ∧ (0 < n → ∃ b q, A = some ⟨b, q, none⟩ ∧ ∀ (j : Nat) p, ((l.drop o).take (n * S))[j]? = some p → ∃ v, w.cell? ⟨b, q + j, none⟩ = some v ∧ RepP w (F.ok w h β) p v) := by
  have key : ∀ g, β id = some g → ∀ (j : Nat) p, ((l.drop o).take (n * S))[j]? = some p → ∃ v, w.cell? ⟨g, o + j, none⟩ = some v ∧ RepP w (F.ok w h β) p v := fun g hg j p hj => by
    have hb := r.box id _ _ hl
    unfold BoxRep at hb
    rw [hg] at hb
    obtain ⟨_, arr, e', hrow, _, hc⟩ := hb
    rw [List.getElem?_take] at hj
    split at hj
    · rw [List.getElem?_drop] at hj
      obtain ⟨v, hv, hrv⟩ := hc (o + j) (.pv p) (by show (l.map AC.pv)[o + j]? = _; rw [List.getElem?_map, hj]; rfl)
      exact ⟨v, by rw [hrow.cell]; exact hv, hrv⟩
    · cases hj
  unfold ownPart at hx
  split at hx
  · cases hx
    rcases hu with ⟨rfl, rfl⟩ | ⟨g, cap, hg, rfl, h1, h2, h3⟩
    · exact ⟨none, 0, rfl, Nat.le_refl _, fun h => absurd h (Nat.lt_irrefl 0)⟩
    · exact ⟨_, cap, rfl, h1, fun _ => ⟨g, 0, rfl, key g hg⟩⟩
  · cases hx
    obtain ⟨A, cap, rfl, h1, h2, h3⟩ := hu
    refine ⟨A, cap, rfl, h1, fun hn => ?_⟩
    rcases h3 with h3 | ⟨g, hg, rfl⟩
    · omega
    · exact ⟨g, _, rfl, key g hg⟩
  · cases hx
/-- An append of a part of another own row: its cells are copied, it stays the frame's own. -/
def evAppOO (X : Ctx) (t : TypeId) (s x : AV) (h : Hp) (K : Hp → Nat → AV → Prop) : Prop :=
  match tinf X.P t with
  | some ⟨.slice e, _, _, _⟩ =>
    (match tinf X.P e with
     | some ⟨_, S, B, some z⟩ => 0 < S ∧ 0 < B ∧ z.cells.size = S ∧ (match s, ownPart x with
       | .one (.own id sz n), some (id2, sz2, o2, m) => sz = S ∧ sz2 = S ∧ (match look h id, look h id2 with
         | some (.pu e' l, false), some (.pu _ l2, _) => e' = e ∧ n * S ≤ l.length ∧ (n + m) * B ≤ 140737488355328 ∧ id < 500 ∧ o2 + m * S ≤ l2.length ∧ K (put (scrubH id h) id (.pu e (l.take (n * S) ++ (l2.drop o2).take (m * S)), false)) id (.one (.own id S (n + m)))
         | _, _ => False)
       | _, _ => False)
     | _ => False)
  | _ => False
theorem evAppOO_sound {X : Ctx} {o : Oper} {c : Call} {s x : Operand} {t : TypeId} (ho : o.op = .call c) (hc : c.callee = .builtin .append) (ha : c.args = #[s, x]) (ht' : c.argTypes = #[t, t]) {ρ : Operand → AV} {h : Hp} {K : Hp → Nat → AV → Prop}
    (hv : evAppOO X t (ρ s) (ρ x) h K) : ∃ h' m v, K h' m v ∧ SemOp X o ρ h v h' (some m) := by
  have hsm : s ∈ o.op.operands.toList := by rw [ho]; simp [Op.operands, Call.operands, hc, ha]
  have hxm : x ∈ o.op.operands.toList := by rw [ho]; simp [Op.operands, Call.operands, hc, ha]
  have hexec : ∀ (a : Act) (w w' : World) (v' : Value), (Builtin.append_ #[t, t] o.type #[a.eval s, a.eval x]).run X.P w = .ok v' w' → (execOp a.eval o).run X.P w = .ok (.value v') w' := fun a w w' v' h1 => by
    rw [exec_builtin ho hc, ha, ht']
    simp only [builtin, List.map_toArray, List.map_cons, List.map_nil]
    rw [Sem.run_bind, h1]; rfl
  unfold evAppOO at hv
  split at hv
  · rename_i e _ _ _ hT
    obtain ⟨ht, _⟩ := tinf_spec hT
    split at hv
    · rename_i S B z hT2
      obtain ⟨_, i, hi, hs, hby, hz⟩ := tinf_spec hT2
      simp only at hs hby hz
      obtain ⟨hS, hB, hzs, hv⟩ := hv
      split at hv
      · rename_i id sz n id2 sz2 o2 m hsv hxv
        obtain ⟨rfl, rfl, hv⟩ := hv
        split at hv
        · rename_i e' l e2 l2 z2 hl hl2
          obtain ⟨rfl, hnl, hb, hid, hol, hK⟩ := hv
          refine ⟨_, _, _, hK, fun F β w a r hv' next Q hn => ?_⟩
          have hso := (hv' s hsm).1
          rw [hsv] at hso
          have hxr := ownPart_rep (S := sz2) r hxv hl2 (hv' x hxm).1
          obtain ⟨v', w', β', hrun, hp, ho'⟩ := append_core2 (ty := o.type) r ht hi hz hs hby hzs hS hB hl hso hnl hxr (by rw [List.length_take, List.length_drop]; omega) hb hid
          refine upon_wp (hexec a w w' v' hrun) (hn v' w' β' hp ho' fun j hj => ?_)
          simp only [AV.refs, AC.refs, List.mem_singleton] at hj
          subst hj
          rw [look_put]; simp
        · exact hv.elim
      · exact hv.elim
    · exact hv.elim
  · exact hv.elim
def evAppStr (X : Ctx) (t t' : TypeId) (s x : AV) (h : Hp) (K : Hp → Nat → AV → Prop) : Prop :=
  match tinf X.P t, tinf X.P t' with
  | some ⟨.slice e, _, _, _⟩, some ⟨.string, _, _, _⟩ =>
    (match tinf X.P e with
     | some ⟨_, 1, 1, some (.int .u8 0)⟩ => (match s, x with
       | .one (.own id sz n), .one (.pv (.str bs)) => sz = 1 ∧ (match look h id with
         | some (.pu e' l, false) => e' = e ∧ n ≤ l.length ∧ n + bs.length ≤ 140737488355328 ∧ id < 500 ∧ K (put (scrubH id h) id (.pu e (l.take n ++ bytesPV bs), false)) id (.one (.own id 1 (n + bs.length)))
         | _ => False)
       | _, _ => False)
     | _ => False)
  | _, _ => False
theorem evAppStr_sound {X : Ctx} {o : Oper} {c : Call} {s x : Operand} {t t' : TypeId} (ho : o.op = .call c) (hc : c.callee = .builtin .append) (ha : c.args = #[s, x]) (ht' : c.argTypes = #[t, t']) {ρ : Operand → AV} {h : Hp} {K : Hp → Nat → AV → Prop}
    (hv : evAppStr X t t' (ρ s) (ρ x) h K) : ∃ h' m v, K h' m v ∧ SemOp X o ρ h v h' (some m) := by
  have hsm : s ∈ o.op.operands.toList := by rw [ho]; simp [Op.operands, Call.operands, hc, ha]
  have hxm : x ∈ o.op.operands.toList := by rw [ho]; simp [Op.operands, Call.operands, hc, ha]
  unfold evAppStr at hv
  split at hv
  · rename_i e _ _ _ _ _ _ hT hT'
    obtain ⟨ht, _⟩ := tinf_spec hT
    obtain ⟨hu, _⟩ := tinf_spec hT'
    split at hv
    · rename_i ud hT2
      obtain ⟨_, i, hi, hs, hby, hz⟩ := tinf_spec hT2
      simp only at hs hby hz
      split at hv
      · rename_i id sz n bs hsv hxv
        obtain ⟨rfl, hv⟩ := hv
        split at hv
        · rename_i e' l hl
          obtain ⟨rfl, hnl, hb, hid, hK⟩ := hv
          refine ⟨_, _, _, hK, fun F β w a r hv' next Q hn => ?_⟩
          have hso := (hv' s hsm).1
          rw [hsv] at hso
          have hx := (hv' x hxm).1
          rw [hxv] at hx
          obtain ⟨hx, _⟩ := one_str hx
          obtain ⟨v', w', β', hrun, hp, ho'⟩ := append_core_str (ty := o.type) r ht hu hi hz hs hby hl hso (by rw [Nat.mul_one]; exact hnl) bs hb hid
          rw [Nat.mul_one] at hp
          refine upon_wp ?_ (hn v' w' β' hp ho' fun j hj => ?_)
          · rw [exec_builtin ho hc, ha, ht']
            simp only [builtin, List.map_toArray, List.map_cons, List.map_nil]
            rw [Sem.run_bind, hx, hrun]; rfl
          · simp only [AV.refs, AC.refs, List.mem_singleton] at hj
            subst hj
            rw [look_put]; simp
        · exact hv.elim
      · exact hv.elim
    · exact hv.elim
  · exact hv.elim

/-- What a box holds, told otherwise. -/
theorem HRel.retell {X : Ctx} {F : Fr} {h : Hp} {β : Bt} {w : World} (r : HRel X F h β w) {id : Nat} {bx bx' : Bx} {z : Bool} (hl : look h id = some (bx, z)) (hn : β id = none → bx'.cells = [])
    (hc : ∀ g arr e, β id = some g → RowAt w id g arr e → (∀ e' l, bx' = .pu e' l → e' = e) ∧ ∀ (j : Nat) c, bx'.cells[j]? = some c → ∃ u : Value, arr[j]? = some u ∧ RepC w (F.ok w h β) β c u) (hw : ∀ i ∈ acRefs bx'.cells, (look h i).isSome = true) (hbr : bx.row = true := by rfl) (hbr' : bx'.row = true := by rfl) :
    HRel X F (put h id (bx', z)) β w ∧ ∀ b, F.ok w h β b ↔ F.ok w (put h id (bx', z)) β b := by
  have hok : ∀ b, F.ok w h β b ↔ F.ok w (put h id (bx', z)) β b := fun b => by
    refine ⟨fun hb => ⟨hb.1, hb.2.1, fun i bx2 h2 => ?_⟩, fun hb => ⟨hb.1, hb.2.1, fun i bx2 h2 => ?_⟩⟩
    · rw [look_put] at h2
      by_cases hi : i = id
      · rw [if_pos hi] at h2
        simp only [Option.some.injEq, Prod.mk.injEq] at h2
        obtain ⟨_, rfl⟩ := h2
        subst hi
        exact hb.2.2 i bx hl
      · rw [if_neg hi] at h2; exact hb.2.2 i bx2 h2
    · by_cases hi : i = id
      · subst hi
        rw [hl] at h2
        simp only [Option.some.injEq, Prod.mk.injEq] at h2
        obtain ⟨_, rfl⟩ := h2
        exact hb.2.2 i bx' (by rw [look_put, if_pos rfl])
      · exact hb.2.2 i bx2 (by rw [look_put, if_neg hi]; exact h2)
  have k : Keeps (fun _ => True) w (F.ok w h β) β w (F.ok w (put h id (bx', z)) β) β := ⟨fun b hb => ⟨(hok b).1 hb, rfl⟩, fun _ _ => ⟨rfl, fun _ _ => rfl⟩⟩
  have old : ∀ i e, look (put h id (bx', z)) i = some e → ∃ e', look h i = some e' := fun i e he => by
    rw [look_put] at he
    by_cases hi : i = id
    · subst hi; exact ⟨_, hl⟩
    · rw [if_neg hi] at he; exact ⟨e, he⟩
  have hsm : ∀ i, (look h i).isSome = true → (look (put h id (bx', z)) i).isSome = true := fun i hi => by rw [look_put]; split <;> simp_all
  refine ⟨⟨r.below, r.g, fun i bx2 z2 h2 => ?_, fun i i' e1 e2 g hne h1 h2 => ?_, fun i bx2 z2 h2 j hj => ?_, r.pin.sub old⟩, hok⟩
  · rw [look_put] at h2
    by_cases hi : i = id
    · rw [if_pos hi] at h2
      simp only [Option.some.injEq, Prod.mk.injEq] at h2
      obtain ⟨rfl, rfl⟩ := h2
      subst hi
      have hb := r.box i bx z hl
      unfold BoxRep at hb ⊢
      split at hb
      · rename_i hβ; exact hn hβ
      · rename_i g hβ
        obtain ⟨h3, arr, e, harr, _, _⟩ := hb
        obtain ⟨h5, h6⟩ := hc g arr e hβ (harr.is hbr)
        refine ⟨h3, arr, e, .of hbr' (harr.is hbr), h5, fun j c hj => ?_⟩
        obtain ⟨u, hu, hr⟩ := h6 j c hj
        exact ⟨u, hu, k.repC (fun _ _ => trivial) hr⟩
    · rw [if_neg hi] at h2
      exact (r.box i bx2 z2 h2).keeps k rfl (fun _ _ => rfl) (fun _ _ => trivial)
  · obtain ⟨e1', h1'⟩ := old i e1 h1
    obtain ⟨e2', h2'⟩ := old i' e2 h2
    exact r.inj i i' e1' e2' g hne h1' h2'
  · rw [look_put] at h2
    by_cases hi : i = id
    · rw [if_pos hi] at h2
      simp only [Option.some.injEq, Prod.mk.injEq] at h2
      obtain ⟨rfl, rfl⟩ := h2
      exact hsm j (hw j hj)
    · rw [if_neg hi] at h2; exact hsm j (r.wf i bx2 z2 h2 j hj)
/-- A strings.Builder made. -/
def evAllocB (X : Ctx) (t : TypeId) (h : Hp) (nx : Nat) (K : Hp → AV → Prop) : Prop :=
  match tinf X.P t with
  | some ⟨_, _, _, some (.agg ⟨[.pointer none, .slice none 0 0]⟩)⟩ => look h nx = none ∧ look h (nx + 1) = none ∧ nx + 1 < 1000 ∧ ∃ e, K (put (put (put h (nx + 1) (.pu e [], false)) nx (.mx [.any, .any], false)) nx (.mx [.adr nx t 2, .own (nx + 1) 1 0], false)) (.one (.ptr nx 0))
  | _ => False
theorem evAllocB_sound {X : Ctx} {o : Oper} {t : TypeId} (ho : o.op = .alloc t) {ρ : Operand → AV} {h : Hp} {nx : Nat} {K : Hp → AV → Prop} (hv : evAllocB X t h nx K) : ∃ h' v, K h' v ∧ SemOp X o ρ h v h' none := by
  unfold evAllocB at hv
  split at hv
  · rename_i hT
    obtain ⟨ht, i, hi, _, _, hz⟩ := tinf_spec hT
    obtain ⟨h1, h2, h3, e, hK⟩ := hv
    refine ⟨_, _, hK, fun F β w a r hv' next Q hn => ?_⟩
    have hrun : (execOp a.eval o).run X.P w = .ok (.value (.pointer (some ⟨w.heap.size, 0, none⟩))) (w.alloc (.cells #[.pointer none, .slice none 0 0] t)) := by
      unfold execOp; rw [ho]; simp only
      have : (Instr.alloc t true (.tuple #[])).run X.P w = .ok (.pointer (some ⟨w.heap.size, 0, none⟩)) (w.alloc (.cells #[.pointer none, .slice none 0 0] t)) := by
        simp [Instr.alloc, zeroValue, typeInfo, hi, hz, newVar, newRow, Value.cells]
      rw [Sem.run_bind, this]; rfl
    have p1 := post_ghost (e := e) r h2 h3
    have hn1 : look (put h (nx + 1) (.pu e [], false)) nx = none := by rw [look_put, if_neg (by omega)]; exact h1
    have p2 := p1.trans (post_add (e := t) (arr := #[.pointer none, .slice none 0 0]) (bx := .mx [.any, .any]) p1.rel ⟨hn1, by omega⟩ rfl (fun e' l he => by cases he) (fun j c hj => by
      match j, hj with
      | 0, hj => cases hj; exact ⟨_, rfl, rfl⟩
      | 1, hj => cases hj; exact ⟨_, rfl, rfl⟩) (fun i hi => by simp [acRefs, Bx.cells, AC.refs] at hi))
    have hb : upd1 (upd1 β (nx + 1) none) nx (some w.heap.size) nx = some w.heap.size := by simp [upd1]
    have hw : (w.alloc (.cells #[.pointer none, .slice none 0 0] t)).heap[w.heap.size]? = some (.cells #[.pointer none, .slice none 0 0] t (0, 0)) := heap_alloc_new w _
    obtain ⟨r3, hok⟩ := p2.rel.retell (id := nx) (bx := .mx [.any, .any]) (bx' := .mx [.adr nx t 2, .own (nx + 1) 1 0]) (z := false) (by rw [look_put, if_pos rfl]) (fun h => by rw [hb] at h; cases h) (fun g arr e' hg harr => by
      rw [hb] at hg
      simp only [Option.some.injEq] at hg
      subst hg
      obtain ⟨_, harr, _⟩ := harr
      rw [hw] at harr
      simp only [Option.some.injEq, Obj.cells.injEq] at harr
      obtain ⟨rfl, rfl, _⟩ := harr
      refine ⟨fun e' l he => (by cases he), fun j c hj => ?_⟩
      match j, hj with
      | 0, hj => cases hj; exact ⟨_, rfl, _, hb, .inl rfl, by unfold bsh; rw [hw]; rfl⟩
      | 1, hj => cases hj; exact ⟨_, rfl, .inl ⟨rfl, rfl⟩⟩) (fun i hi => by
      simp [acRefs, Bx.cells, AC.refs] at hi
      rcases hi with rfl | rfl
      · rw [look_put, if_pos rfl]; rfl
      · rw [look_put, if_neg (by omega), look_put, if_pos rfl]; rfl)
    refine upon_wp hrun (hn _ _ _ ⟨r3, ⟨fun b hb => ⟨(hok b).1 (p2.keep.blk b hb).1, (p2.keep.blk b hb).2⟩, p2.keep.ids⟩, fun i hi => ?_⟩ ⟨_, hb, rfl⟩ fun i hi => ?_)
    · have := p2.dom i hi
      rw [look_put]; split <;> simp_all
    · simp only [AV.refs, AC.refs, List.mem_singleton] at hi
      subst hi
      rw [look_put]; simp
  · exact hv.elim

/-! ### Bytes and strings -/
theorem run_bytes_nil {P : Program} (w : World) (src dst e : TypeId) (A : Option Addr) (cap : Nat) (hs : P.underlying src = some (.slice e)) (he : P.underlying e = some (.int .u8)) (hd : P.underlying dst = some .string) : (convert src dst (.slice A 0 cap)).run P w = .ok (.string ⟨#[]⟩) w := by
  cases A with
  | none =>
    rw [run_convert_bytes_string w src dst e none 0 cap hs he hd]
    rfl
  | some a => exact run_convert_bytes_back (l := []) w src dst e a cap hs he hd (fun j hj => by simp at hj)
/-- What a conversion between bytes and a string comes to. -/
def evCvB (X : Ctx) (src dst : TypeId) (x : AV) (h : Hp) (K : List Nat → AV → Prop) : Prop :=
  match tinf X.P src, tinf X.P dst with
  | some ⟨.slice e, _, _, _⟩, some ⟨.string, _, _, _⟩ => (match tinf X.P e, x with
    | some ⟨.int .u8, _, _, _⟩, .one c => viewC1 h c fun p ids => (∀ id ∈ ids, (look h id).isSome = true) ∧ (match p with | .sl n cells => ∃ l : List UInt8, n = l.length ∧ cells = bytesPV l ∧ K ids (vS l) | _ => False)
    | _, _ => False)
  | some ⟨.string, _, _, _⟩, some ⟨.slice e, _, _, _⟩ => (match tinf X.P e, x with
    | some ⟨.int .u8, _, _, _⟩, .one (.pv (.str l)) => K [] (vP (.sl l.length (bytesPV l)))
    | _, _ => False)
  | _, _ => False
theorem bytesPV_at {l : List UInt8} {j : Nat} (hj : j < l.length) : (bytesPV l)[j]? = some (.int .u8 (l[j].toNat : Int)) := by
  unfold bytesPV
  rw [List.getElem?_map, List.getElem?_eq_getElem hj]; rfl
theorem evCvB_sound {X : Ctx} {o : Oper} {src dst : TypeId} {x : Operand} (ho : o.op = .convert src dst x) {ρ : Operand → AV} {h : Hp} {K : List Nat → AV → Prop} (hv : evCvB X src dst (ρ x) h K) : ∃ ids v, K ids v ∧ NSem X o ρ h v ids [] none := by
  have hxm : x ∈ o.op.operands.toList := by rw [ho]; simp [Op.operands]
  have hex : ∀ (a : Act) (w w' : World) (v : Value), (convert src dst (a.eval x)).run X.P w = .ok v w' → (execOp a.eval o).run X.P w = .ok (.value v) w' := fun a w w' v hr => by
    unfold execOp; rw [ho]; simp only
    rw [Sem.run_bind, hr]; rfl
  unfold evCvB at hv
  split at hv
  · rename_i e _ _ _ _ _ _ hT hT'
    obtain ⟨hs, _⟩ := tinf_spec hT
    obtain ⟨hd, _⟩ := tinf_spec hT'
    split at hv
    · rename_i c hE hxc
      obtain ⟨he, _⟩ := tinf_spec hE
      obtain ⟨p, ids, ⟨hids, hK⟩, _, hp⟩ := viewC1_sound hv
      split at hK
      · rename_i n cells
        obtain ⟨l, rfl, rfl, hK⟩ := hK
        refine ⟨ids, _, hK, fun h2 ha _ F β w a r hv' next Q hn => ?_⟩
        have hx := (hv' x hxm).1
        rw [hxc] at hx
        have hwide : Wide X F h2 β w ids (fun b => b < w.heap.size) := ⟨r, fun b hb => hb.1, fun id hid g hg => by
          obtain ⟨e2, he2⟩ := Option.isSome_iff_exists.1 (agree_isSome ha hid (hids id hid))
          exact (r.lt he2 hg).1⟩
        have hr := hp h2 ha X F β w _ _ hwide hx
        have hr' : RepV w (fun b => b < w.heap.size) β (.one (.pv (.sl l.length (bytesPV l)))) (a.eval x) := hr
        obtain ⟨A, cap, hu, hmc, _, hct, hpos⟩ := one_sl hr'
        have hlen : l.length ≤ topLen := hct
        have hrun : (convert src dst (a.eval x)).run X.P w = .ok (.string ⟨l.toArray⟩) w := by
          rw [hu]
          rcases Nat.eq_zero_or_pos l.length with h0 | h0
          · rw [h0]
            obtain rfl := List.eq_nil_of_length_eq_zero h0
            exact run_bytes_nil w src dst e A cap hs he hd
          · obtain ⟨_, sz, b, o', rfl, hl', _, hc⟩ := hpos h0
            refine run_convert_bytes_back w src dst e _ cap l hs he hd fun j hj => ?_
            obtain ⟨v, hv, hrv⟩ := hc j _ (bytesPV_at hj)
            cases hrv
            rw [add_none]
            exact hv
        refine upon_wp (hex a w w _ hrun) (hn _ w β (Post.refl r) (.str l hlen) fun i hi => by cases hi)
      · exact hK.elim
    · exact hv.elim
  · rename_i e _ _ _ hT hT'
    obtain ⟨hs, _⟩ := tinf_spec hT
    obtain ⟨hd, _⟩ := tinf_spec hT'
    split at hv
    · rename_i l hE hxc
      obtain ⟨he, _⟩ := tinf_spec hE
      refine ⟨[], _, hv, fun h2 ha _ F β w a r hv' next Q hn => ?_⟩
      have hx := (hv' x hxm).1
      rw [hxc] at hx
      obtain ⟨hx, hlen⟩ := one_str hx
      have hrun := Lib.run_convert_string_bytes (P := X.P) w src dst e ⟨l.toArray⟩ hs hd he
      have hb : Below w.heap.size w (Lib.bytesWorld w e ⟨l.toArray⟩) := ⟨rfl, rfl, rfl, by rw [Lib.bytesWorld_size]; omega, fun k hk => Lib.bytesWorld_at_old w e _ k hk⟩
      have hsz : (ByteArray.mk l.toArray).size = l.length := by simp [ByteArray.size]
      rw [hsz] at hrun
      refine upon_wp (hex a w _ _ (by rw [hx]; exact hrun)) (hn _ _ β ⟨r.ext hb, ⟨(r.keeps_ext hb).blk, fun i hi => (r.keeps_ext hb).ids i hi.1⟩, fun i hi => hi⟩ ?_ fun i hi => by cases hi)
      have hge := grownCap_ge w l.length 0 e
      by_cases hl0 : l.length = 0
      · obtain rfl := List.eq_nil_of_length_eq_zero hl0
        exact .sl0 _ _
      · refine RepP.mk_sl (sz := 1) hge (grownCap_le_maxLen w l.length 0 e (by simpa [maxLen] using hlen)) (by simp [bytesPV]) fun _ => ⟨⟨by rw [Lib.bytesWorld_size]; omega, fun hlt => absurd hlt (by have := r.size; omega), fun id bx hl2 hg => ?_⟩, fun j p hj => ?_⟩
        · have := (r.lt hl2 hg).1; omega
        · have hjl : j < l.length := by have := (List.getElem?_eq_some_iff.1 hj).1; simpa [bytesPV] using this
          rw [bytesPV_at hjl] at hj
          cases hj
          refine ⟨_, ?_, .int _ _ ?_⟩
          · rw [Nat.zero_add, Lib.bytesWorld_cell w e _ j (by rw [hsz]; exact hjl)]
            simp [List.getD_eq_getElem?_getD, hjl]
          · have := l[j].toNat_lt
            rw [range_u8]; omega
    · exact hv.elim
  · exact hv.elim

/-- A call that is handed boxes. -/
structure CallS (X : Ctx) (fv : AV) (args : List AV) (h : Hp) (y : AV) (h' : Hp) (m : Option Nat) : Prop where
  ex : ∃ (g : FuncId) (xs : List AV) (h0 h1 : Hp) (y0 : AV) (f : Nat → Nat) (zs : List Nat), fv = .one (.pv (.clo g [])) ∧ SpcS X g xs h0 y0 h1 ∧ Fits h f h0 h1 zs h' m ∧ ArgsR h f h0 zs args xs ∧ y = y0.ren f
  sc : ∀ a, m = some a → ∀ i, i ≠ a → i ∉ args.flatMap AV.refs → (look h' i).map (·.1) = (look h i).map fun e => e.1.scrub a
/-- A call that is handed no box and makes one: it may change places with what reads. -/
structure CallN (X : Ctx) (fv : AV) (args : List AV) (h : Hp) (n : Nat) (y : AV) (ids : List Nat) (bx : Bx) : Prop where
  ex : ∃ (g : FuncId) (xs : List AV) (h1 : Hp) (y0 : AV) (f : Nat → Nat), fv = .one (.pv (.clo g [])) ∧ SpcS X g xs [] y0 h1 ∧ (∀ h2, Agree h h2 ids → look h2 n = none → Fits h2 f [] h1 ids (put (frzs h2 ids) n (bx, false)) none ∧ ArgsR h2 f [] ids args xs) ∧ y = y0.ren f
/-- The object that an operation writes into, if it's known. -/
def obO (op : Op) (ρ : Operand → AV) : List Nat := match op with | .mapUpdate _ m _ _ => (match ρ m with | .one (.mp id) => [id] | _ => []) | _ => []
/-- What an operation does, said outright. -/
structure ObS (X : Ctx) (op : Op) (ρ : Operand → AV) (h : Hp) (v : AV) (ef : Ef) : Prop where
  sem : ∀ o : Oper, o.op = op → EfSem X o ρ h v ef
  wr : ∀ h' m, ef = .e h' m → obO op ρ ≠ [] → ∀ i, i ∉ obO op ρ → (look h' i).map (·.1) = (look h i).map (·.1)
def evPlug (X : Ctx) (op : Op) (ρ : Operand → AV) (h : Hp) (K : Ef → AV → Nat → Prop) : Prop := ∃ ef v nx', ObS X op ρ h v ef ∧ K ef v nx'
def evOp (X : Ctx) (o : Oper) (ρ : Operand → AV) (h : Hp) (nx : Nat) (K : Ef → AV → Nat → Prop) : Prop :=
  match o.op with
  | .load t x => (match ρ x with
    | .one (.ptr id off) => evLoadBx X t h id off fun v => K (.n [id] [] none) v nx
    | .one (.pv (.pt cells off)) => evLoadPv X t cells off fun v => K (.n [] [] none) v nx
    | _ => False)
  | .alloc t => (evAlloc X t h nx fun rd zs add v => K (.n rd zs add) v (nx + 1)) ∨ evAllocB X t h nx fun h' v => K (.e h' none) v (nx + 2)
  | .box t x => evBox X t (ρ x) h nx fun rd zs add v => K (.n rd zs add) v (nx + 1)
  | .makeSlice t l c => evMake X t (ρ l) (ρ c) h nx fun rd zs add v => K (.n rd zs add) v (nx + 1)
  | .buildSlice t len parts => evBSl X t len (parts.toList.map fun p => (p.1, ρ p.2)) h nx fun rd zs add v => K (.n rd zs add) v (nx + 1)
  | .store t a x => (match ρ a with
    | .one (.ptr id off) => evStore X t h id off (ρ x) fun h' => K (.e h' none) .bot nx
    | _ => False)
  | .call c => (match c.callee with
    | .value f => (evCall X (ρ f) (c.args.toList.map ρ) h fun rd zs v => K (.n rd zs none) v nx) ∨ (∃ y h' m nx', CallS X (ρ f) (c.args.toList.map ρ) h y h' m ∧ K (.e h' m) y nx') ∨ ∃ y ids n bx, CallN X (ρ f) (c.args.toList.map ρ) h n y ids bx ∧ K (.n ids ids (some (n, bx))) y (nx + 1)
    | .builtin .append => (match c.args.toList, c.argTypes.toList with
      | [s, x], [t, t'] => (t = t' ∧ evAppend X t (ρ s) (ρ x) h nx fun h' m v nx' => K (.e h' (some m)) v nx') ∨ (evAppStr X t t' (ρ s) (ρ x) h fun h' m v => K (.e h' (some m)) v nx) ∨ (t = t' ∧ evAppOO X t (ρ s) (ρ x) h fun h' m v => K (.e h' (some m)) v nx)
      | _, _ => False)
    | .builtin .copy => evPlug X o.op ρ h K
    | .builtin .clear => evPlug X o.op ρ h K
    | _ => evVal X (.call c) ρ fun v => K (.n [] [] none) v nx)
  | .convert s d x => (evVal X (.convert s d x) ρ fun v => K (.n [] [] none) v nx) ∨ evCvB X s d (ρ x) h (fun ids v => K (.n ids [] none) v nx) ∨ evCvO X s d (ρ x) fun e l => ∃ id, (500 ≤ id ∧ id < 1000) ∧ K (.n [] [] (some (id, .pu e (bytesPV l)))) (.one (.own id 1 l.length)) (nx + 1)
  | .makeMap .. => evPlug X o.op ρ h K
  | .mapUpdate .. => evPlug X o.op ρ h K
  | .lookup .. => evPlug X o.op ρ h K
  | .range .. => evPlug X o.op ρ h K
  | .entry .. => evPlug X o.op ρ h K
  | op => evVal X op ρ fun v => K (.n [] [] none) v nx
theorem evOp_sound {X : Ctx} {o : Oper} {ρ : Operand → AV} {h : Hp} {nx : Nat} {K : Ef → AV → Nat → Prop}
    (hwf : ∀ id bx z, look h id = some (bx, z) → ∀ i ∈ acRefs bx.cells, (look h i).isSome = true) (hrf : ∀ x ∈ o.op.operands.toList, ∀ id ∈ (ρ x).refs, (look h id).isSome = true) (hv : evOp X o ρ h nx K) :
    ∃ ef v nx', K ef v nx' ∧ EfSem X o ρ h v ef := by
  unfold evOp at hv
  have plug : evPlug X o.op ρ h K → ∃ ef v nx', K ef v nx' ∧ EfSem X o ρ h v ef := fun ⟨ef, v, nx', hs, hK⟩ => ⟨ef, v, nx', hK, hs.sem o rfl⟩
  have fromVal : ∀ op, o.op = op → (evVal X op ρ fun v => K (.n [] [] none) v nx) → ∃ ef v nx', K ef v nx' ∧ EfSem X o ρ h v ef := fun op he hh => by
    obtain ⟨v, hK, hok⟩ := evVal_sound X (o := o) (by rw [he]; exact hh)
    exact ⟨_, _, _, hK, hok.nsem h⟩
  split at hv
  · rename_i t x ho
    split at hv
    · rename_i id off hx
      obtain ⟨v, hK, hs⟩ := evLoadBx_sound ho hx hv
      exact ⟨_, _, _, hK, hs⟩
    · rename_i cells off hx
      refine fromVal _ ho ?_
      unfold evVal; simp only [hx]; exact hv
    · exact hv.elim
  · rename_i t ho
    rcases hv with hv | hv
    · obtain ⟨rd, zs, add, v, hK, hs⟩ := evAlloc_sound (ρ := ρ) ho hv
      exact ⟨_, _, _, hK, hs⟩
    · obtain ⟨h', v, hK, hs⟩ := evAllocB_sound (ρ := ρ) ho hv
      exact ⟨_, _, _, hK, hs⟩
  · rename_i t x ho
    obtain ⟨rd, zs, add, v, hK, hs⟩ := evBox_sound ho hv
    exact ⟨_, _, _, hK, hs⟩
  · rename_i t l c ho
    obtain ⟨rd, zs, add, v, hK, hs⟩ := evMake_sound ho hv
    exact ⟨_, _, _, hK, hs⟩
  · rename_i t len parts ho
    obtain ⟨rd, zs, add, v, hK, hs⟩ := evBSl_sound ho hwf hrf hv
    exact ⟨_, _, _, hK, hs⟩
  · rename_i t a x ho
    split at hv
    · rename_i id off ha
      obtain ⟨h', hK, hs⟩ := evStore_sound ho ha hwf hrf hv
      exact ⟨_, _, _, hK, hs⟩
    · exact hv.elim
  · rename_i c ho
    split at hv
    · rename_i f hc
      rcases hv with hv | ⟨y, h', m, nx', ⟨⟨g, xs, h0, h1, y0, f', zs, hfv, hsp, hfit, har, rfl⟩, _⟩, hK⟩ | ⟨y, ids, n, bx, ⟨g, xs, h1, y0, f', hfv, hsp, hfa, rfl⟩, hK⟩
      · obtain ⟨rd, zs, v, hK, hs⟩ := evCall_sound ho hc hwf hrf hv
        exact ⟨_, _, _, hK, hs⟩
      · exact ⟨_, _, _, hK, callS_sem ho hc hfv hsp hfit har⟩
      · refine ⟨_, _, _, hK, fun h2 ha hf => ?_⟩
        obtain ⟨hfit, har⟩ := hfa h2 ha (hf n bx rfl).1
        exact callS_sem ho hc hfv hsp hfit har
    · rename_i hc
      split at hv
      · rename_i s x t t' ha ht
        rcases hv with ⟨rfl, hv⟩ | hv | ⟨rfl, hv⟩
        · obtain ⟨h', m, v, nx', hK, hs⟩ := evAppend_sound ho hc (toList_arr2 ha) (toList_arr2 ht) hwf hrf hv
          exact ⟨_, _, _, hK, hs⟩
        · obtain ⟨h', m, v, hK, hs⟩ := evAppStr_sound ho hc (toList_arr2 ha) (toList_arr2 ht) hv
          exact ⟨_, _, _, hK, hs⟩
        · obtain ⟨h', m, v, hK, hs⟩ := evAppOO_sound ho hc (toList_arr2 ha) (toList_arr2 ht) hv
          exact ⟨_, _, _, hK, hs⟩
      · exact hv.elim
    · exact plug hv
    · exact plug hv
    · exact fromVal _ ho hv
  · rename_i s d x ho
    rcases hv with hv | hv | hv
    · exact fromVal _ ho hv
    · obtain ⟨ids, v, hK, hs⟩ := evCvB_sound ho hv
      exact ⟨_, _, _, hK, hs⟩
    · have key : ∃ e l, (∃ id, (500 ≤ id ∧ id < 1000) ∧ K (.n [] [] (some (id, .pu e (bytesPV l)))) (.one (.own id 1 l.length)) (nx + 1)) ∧ ∀ id, 500 ≤ id ∧ id < 1000 → NSem X o ρ h (.one (.own id 1 l.length)) [] [] (some (id, .pu e (bytesPV l))) := by
        obtain ⟨e, l, h1, h2⟩ := evCvO_sound (h := h) ho hv
        exact ⟨e, l, h1, h2⟩
      obtain ⟨e, l, ⟨id, hid, hK⟩, hs⟩ := key
      exact ⟨_, _, _, hK, hs id hid⟩
  · exact plug hv
  · exact plug hv
  · exact plug hv
  · exact plug hv
  · exact plug hv
  · rename_i op _ _ _ _ _ _ _ _ _ _ _ _ _
    exact fromVal _ rfl hv
end Go.VL

