/- Contracts over whole values, and what they lean on: part e. Each holds under the conditions that it states. -/
import Derived.Test.YtlmioegjeocaaaaGreatDoorZd
set_option linter.unusedVariables false
set_option linter.unusedSimpArgs false

namespace Go.VL
open Go.RowKit
set_option linter.unusedVariables false

/-! ### States that read alike -/
def Eqv (σ τ : AS) : Prop := (∀ t, look σ.env t = look τ.env t) ∧ ∀ i, look σ.heap i = look τ.heap i
theorem Eqv.refl (σ : AS) : Eqv σ σ := ⟨fun _ => rfl, fun _ => rfl⟩
theorem Eqv.symm {σ τ : AS} (h : Eqv σ τ) : Eqv τ σ := ⟨fun t => (h.1 t).symm, fun i => (h.2 i).symm⟩
theorem Eqv.trans {σ τ υ : AS} (h : Eqv σ τ) (k : Eqv τ υ) : Eqv σ υ := ⟨fun t => (h.1 t).trans (k.1 t), fun i => (h.2 i).trans (k.2 i)⟩
theorem ok_congr {F : Fr} {w : World} {h h' : Hp} {β : Bt} (e : ∀ i, look h' i = look h i) : F.ok w h' β = F.ok w h β := by
  funext b; unfold Fr.ok; simp only [e]
theorem RelS.congr {X : Ctx} {F : Fr} {N : Nat} {σ τ : AS} {a : Act} {w : World} (e : Eqv σ τ) (r : RelS X F N σ a w) : RelS X F N τ a w := by
  obtain ⟨β, r⟩ := r
  refine ⟨β, r.h.congr fun i => (e.2 i).symm, r.defers, r.size, fun t v hl => ?_⟩
  obtain ⟨h1, h2⟩ := r.env t v (by rw [e.1]; exact hl)
  rw [ok_congr (F := F) (w := w) (β := β) (h := σ.heap) (h' := τ.heap) fun i => (e.2 i).symm]
  exact ⟨h1, fun id hid => by rw [← e.2]; exact h2 id hid⟩
theorem evE_congr {e e' : List (Nat × AV)} (h : ∀ t, look e t = look e' t) (x : Operand) : evE e x = evE e' x := by
  cases x <;> simp only [evE, h]
theorem SemOp.congr {X : Ctx} {o : Oper} {ρ ρ' : Operand → AV} {h k h' k' : Hp} {v : AV} {m : Option Nat} (hs : SemOp X o ρ h v h' m) (hρ : ∀ x ∈ o.op.operands.toList, ρ' x = ρ x) (e : ∀ i, look k i = look h i) (e' : ∀ i, look k' i = look h' i) : SemOp X o ρ' k v k' m := by
  intro F β w a r hv next Q hn
  refine hs F β w a (r.congr fun i => (e i).symm) (fun x hx => ?_) next Q fun u w' β' hp hu hw => hn u w' β' ⟨hp.rel.congr e', ?_, fun i hi => ?_⟩ ?_ ?_
  · obtain ⟨h1, h2⟩ := hv x hx
    rw [hρ x hx] at h1 h2
    rw [ok_congr e] at h1
    exact ⟨h1, fun id hid => by rw [← e]; exact h2 id hid⟩
  · rw [ok_congr e, ok_congr e']
    exact ⟨hp.keep.blk, fun i hi => hp.keep.ids i ⟨by rw [← e]; exact hi.1, hi.2⟩⟩
  · rw [e']; exact hp.dom i (by rw [← e]; exact hi)
  · rw [ok_congr e']; exact hu
  · intro id hid; rw [e']; exact hw id hid
theorem look_frzs_congr : ∀ (zs : List Nat) {a c : Hp}, (∀ j, look a j = look c j) → ∀ j, look (frzs a zs) j = look (frzs c zs) j
  | [], a, c, h, j => h j
  | z :: zs, a, c, h, j => look_frzs_congr zs (fun j => by rw [look_frz, look_frz, h]) j
theorem look_upd_congr {a c : Hp} (zs : List Nat) (add : Option (Nat × Bx)) (h : ∀ j, look a j = look c j) (j : Nat) : look (upd a zs add) j = look (upd c zs add) j := by
  cases add with
  | none => exact look_frzs_congr zs h j
  | some p => obtain ⟨id, bx⟩ := p; simp only [upd, look_put, look_frzs_congr zs h]
theorem NSem.congr {X : Ctx} {o : Oper} {ρ ρ' : Operand → AV} {h k : Hp} {v : AV} {rd zs : List Nat} {add : Option (Nat × Bx)} (hs : NSem X o ρ h v rd zs add) (hρ : ∀ x ∈ o.op.operands.toList, ρ' x = ρ x)
    (e : ∀ i ∈ rd, (look k i).map (·.1) = (look h i).map (·.1)) : NSem X o ρ' k v rd zs add := fun h2 ha hf =>
  (hs h2 (fun id hid => (ha id hid).trans (e id hid)) hf).congr hρ (fun _ => rfl) (fun _ => rfl)

/-! ### One operation, as it may come up -/
structure Fl where
  kind : Nat
  rd : List Nat
  ad : Option Nat
  fr : Bool
  rf : Option (List Nat)
  ld : Bool
  sc : Option (List Nat)
def isLd : Op → Bool
  | .load _ _ => true
  | _ => false
def AC.isPv : AC → Bool
  | .pv _ => true
  | _ => false
def AV.isPv : AV → Bool
  | .one c => c.isPv
  | .agg cs => cs.all AC.isPv
  | .tup xs => xs.all fun x => x.2.all AC.isPv
  | .bot => false
theorem AC.scrub_pv {m : Nat} {c : AC} (h : c.isPv = true) : c.scrub m = c := by
  cases c <;> simp_all [AC.isPv, AC.scrub, AC.refs]
theorem AC.of_scrub_pv {m : Nat} {c : AC} (h : (c.scrub m).isPv = true) : c.isPv = true := by
  unfold AC.scrub at h
  split at h
  · cases h
  · exact h
theorem map_scrub_pv {m : Nat} {cs : List AC} (h : cs.all AC.isPv = true) : cs.map (AC.scrub m) = cs := by
  conv => rhs; rw [← List.map_id cs]
  exact List.map_congr_left fun c hc => AC.scrub_pv (List.all_eq_true.1 h c hc)
theorem all_of_scrub {m : Nat} {cs : List AC} (h : (cs.map (AC.scrub m)).all AC.isPv = true) : cs.all AC.isPv = true := by
  rw [List.all_eq_true] at h ⊢
  exact fun c hc => AC.of_scrub_pv (h _ (List.mem_map.2 ⟨c, hc, rfl⟩))
theorem AV.scrub_pv {m : Nat} {v : AV} (h : v.isPv = true) : v.scrub m = v := by
  cases v with
  | one c => simp only [AV.scrub]; rw [AC.scrub_pv h]
  | agg cs => simp only [AV.scrub]; rw [map_scrub_pv h]
  | tup xs =>
    simp only [AV.scrub]
    congr 1
    conv => rhs; rw [← List.map_id xs]
    refine List.map_congr_left fun x hx => ?_
    have := List.all_eq_true.1 h x hx
    rw [map_scrub_pv this]; rfl
  | bot => rfl
theorem AV.of_scrub_pv {m : Nat} {v : AV} (h : (v.scrub m).isPv = true) : v.isPv = true := by
  cases v with
  | one c => exact AC.of_scrub_pv h
  | agg cs => exact all_of_scrub h
  | tup xs =>
    simp only [AV.scrub, AV.isPv, List.all_eq_true] at h ⊢
    intro x hx
    have := h (x.1, x.2.map (AC.scrub m)) (List.mem_map.2 ⟨x, hx, rfl⟩)
    have h2 := all_of_scrub (m := m) (cs := x.2) (List.all_eq_true.2 this)
    exact List.all_eq_true.1 h2
  | bot => exact h
def scrubO (m : Option Nat) (env : List (Nat × AV)) : List (Nat × AV) := match m with | none => env | some m => scrubEnv m env
theorem evE_scrub_pv {m : Option Nat} {env : List (Nat × AV)} {x : Operand} (h : (evE env x).isPv = true) : evE (scrubO m env) x = evE env x := by
  cases m with
  | none => rfl
  | some m =>
    cases x with
    | tmp t =>
      simp only [evE, scrubO, look_scrubEnv] at h ⊢
      cases hl : look env t with
      | none => rfl
      | some v => rw [hl] at h; exact AV.scrub_pv h
    | const v => rfl
    | global g => rfl
    | func f => rfl
theorem evE_of_scrub_pv {m : Option Nat} {env : List (Nat × AV)} {x : Operand} (h : (evE (scrubO m env) x).isPv = true) : evE env x = evE (scrubO m env) x := by
  cases m with
  | none => rfl
  | some m =>
    cases x with
    | tmp t =>
      simp only [evE, scrubO, look_scrubEnv] at h ⊢
      cases hl : look env t with
      | none => rfl
      | some v =>
        rw [hl] at h
        exact (AV.scrub_pv (AV.of_scrub_pv h)).symm
    | const v => rfl
    | global g => rfl
    | func f => rfl
/-! What names no box that moves. -/
def AC.clean : AC → Bool
  | .any => false
  | _ => true
def AV.clean : AV → Bool
  | .one c => c.clean
  | .agg cs => cs.all AC.clean
  | .tup xs => xs.all fun x => x.2.all AC.clean
  | .bot => true
theorem AC.of_scrub_clean {m : Nat} {c : AC} (h : (c.scrub m).clean = true) : c.scrub m = c := by
  unfold AC.scrub at h ⊢
  split at h
  · cases h
  · rename_i hc; rw [if_neg hc]
theorem map_of_scrub_clean {m : Nat} : ∀ {cs : List AC}, (cs.map (AC.scrub m)).all AC.clean = true → cs.map (AC.scrub m) = cs
  | [], _ => rfl
  | c :: cs, h => by
    rw [List.map_cons, List.all_cons, Bool.and_eq_true] at h
    rw [List.map_cons, AC.of_scrub_clean h.1, map_of_scrub_clean h.2]
theorem AV.of_scrub_clean {m : Nat} {v : AV} (h : (v.scrub m).clean = true) : v.scrub m = v := by
  cases v with
  | one c => simp only [AV.scrub, AV.clean] at h ⊢; rw [AC.of_scrub_clean h]
  | agg cs => simp only [AV.scrub, AV.clean] at h ⊢; rw [map_of_scrub_clean h]
  | tup xs =>
    simp only [AV.scrub, AV.clean] at h ⊢
    congr 1
    induction xs with
    | nil => rfl
    | cons x xs ih =>
      rw [List.map_cons, List.all_cons, Bool.and_eq_true] at h
      rw [List.map_cons, ih h.2, map_of_scrub_clean h.1]
  | bot => rfl
theorem AC.scrub_none {m : Nat} {c : AC} (h : ∀ i ∈ c.refs, i ≠ m) : c.scrub m = c := by
  unfold AC.scrub
  rw [if_neg]
  intro hc
  exact h m (List.contains_iff_mem.1 hc) rfl
theorem map_scrub_none {m : Nat} : ∀ {cs : List AC}, (∀ i ∈ acRefs cs, i ≠ m) → cs.map (AC.scrub m) = cs
  | [], _ => rfl
  | c :: cs, h => by
    rw [List.map_cons, AC.scrub_none fun i hi => h i (by unfold acRefs; exact List.mem_flatMap.2 ⟨c, by simp, hi⟩), map_scrub_none fun i hi => h i (by
      unfold acRefs at hi ⊢
      obtain ⟨d, hd, hi⟩ := List.mem_flatMap.1 hi
      exact List.mem_flatMap.2 ⟨d, by simp [hd], hi⟩)]
theorem AV.scrub_none {m : Nat} {v : AV} (h : ∀ i ∈ v.refs, i ≠ m) : v.scrub m = v := by
  cases v with
  | one c => exact congrArg AV.one (AC.scrub_none h)
  | agg cs => exact congrArg AV.agg (map_scrub_none h)
  | tup xs =>
    simp only [AV.scrub]
    congr 1
    induction xs with
    | nil => rfl
    | cons x xs ih =>
      rw [List.map_cons, ih fun i hi => h i (by
        simp only [AV.refs, List.mem_flatMap] at hi ⊢
        obtain ⟨y, hy, hi⟩ := hi
        exact ⟨y, by simp [hy], hi⟩), map_scrub_none fun i hi => h i (by
        simp only [AV.refs, List.mem_flatMap]
        exact ⟨x, by simp, hi⟩)]
  | bot => rfl
/-- Not touched by what moves the box m. -/
def Free (m : Nat) (v : AV) : Prop := v.isPv = true ∨ (v.clean = true ∧ ∀ i ∈ v.refs, i ≠ m)
theorem scrub_free {m : Nat} {v : AV} (h : Free m v) : v.scrub m = v := by
  rcases h with h | h
  · exact AV.scrub_pv h
  · exact AV.scrub_none h.2
theorem evE_scrub_free {m : Option Nat} {env : List (Nat × AV)} {x : Operand} (h : m = none ∨ ∀ a, m = some a → Free a (evE env x)) : evE (scrubO m env) x = evE env x := by
  cases m with
  | none => rfl
  | some m =>
    have h := h.resolve_left (by simp) m rfl
    cases x with
    | tmp t =>
      simp only [evE, scrubO, look_scrubEnv] at h ⊢
      cases hl : look env t with
      | none => rfl
      | some v => rw [hl] at h; exact scrub_free h
    | const v => rfl
    | global g => rfl
    | func f => rfl
theorem evE_of_scrub_free {m : Option Nat} {env : List (Nat × AV)} {x : Operand} (h : m = none ∨ ∀ a, m = some a → Free a (evE (scrubO m env) x)) : evE env x = evE (scrubO m env) x := by
  cases m with
  | none => rfl
  | some m =>
    have h := h.resolve_left (by simp) m rfl
    rcases h with h | h
    · exact evE_of_scrub_pv h
    cases x with
    | tmp t =>
      simp only [evE, scrubO, look_scrubEnv] at h ⊢
      cases hl : look env t with
      | none => rfl
      | some v =>
        rw [hl] at h
        exact (AV.of_scrub_clean h.1).symm
    | const v => rfl
    | global g => rfl
    | func f => rfl
def setO (env : List (Nat × AV)) : Option Tmp → Option AV → List (Nat × AV)
  | none, _ => env
  | some d, some v => putE env d v
  | some d, none => putE env d (.tup [])
def unR (r : Option AV) : Option AV := some (r.getD (.tup []))
theorem look_setO (env : List (Nat × AV)) (d : Option Tmp) (r : Option AV) (t : Nat) : look (setO env d r) t = if d = some t then unR r else look env t := by
  cases d with
  | none => simp [setO]
  | some d =>
    cases r <;>
    · simp only [setO, look_putE, Option.some.injEq, unR, Option.getD]
      by_cases h : t = d
      · subst h; simp
      · rw [if_neg h, if_neg (fun e => h e.symm)]
/-- How an operation's guard stands. -/
def gOk (ops : Array Oper) (o : Oper) (env : List (Nat × AV)) (run : Bool) : Prop :=
  match o.guard with
  | none => run = true
  | some (j, w) => ∃ t, (ops[j]?).bind (·.dst) = some t ∧ (look env t = some (vB (if run = true then w else !w)) ∨ (run = false ∧ look env t = some (.tup [])))
structure StN (X : Ctx) (ops : Array Oper) (f : Fl) (o : Oper) (σ σ' : AS) (r : Option AV) (rd zs : List Nat) (add : Option (Nat × Bx)) : Prop where
  guard : gOk ops o σ.env r.isSome
  sem : ∀ v, r = some v → NSem X o (evE σ.env) σ.heap v rd zs add
  idle : r = none → zs = [] ∧ add = none
  rdf : ∀ i ∈ rd, i ∈ f.rd
  zsf : ∀ i ∈ zs, i ∈ f.rd
  adf : ∀ id bx, add = some (id, bx) → f.ad = some id ∧ look σ.heap id = none ∧ id < 1000
  pure : f.kind = 0 → rd = [] ∧ zs = [] ∧ add = none ∧ ∀ v, r = some v → v.isPv = true ∧ ∀ x ∈ o.op.operands.toList, (evE σ.env x).isPv = true
  eqv : Eqv ⟨setO σ.env o.dst r, upd σ.heap zs add, 0⟩ σ'
  rdo : f.ad = none → zs = []
  frf : f.fr = true → ∃ v id bx, r = some v ∧ add = some (id, bx) ∧ acRefs bx.cells = [] ∧ (∀ i ∈ v.refs, i = id) ∧ ∀ x ∈ o.op.operands.toList, (evE σ.env x).isPv = true
  rff : ∀ l, f.rf = some l → ∀ v, r = some v → (v.clean = true ∧ ∀ i ∈ v.refs, i ∈ l) ∧ ∀ x ∈ o.op.operands.toList, (evE σ.env x).clean = true ∧ ∀ i ∈ (evE σ.env x).refs, i ∈ l
  ldf : f.ld = true → isLd o.op = true
structure StE (X : Ctx) (ops : Array Oper) (f : Fl) (o : Oper) (σ σ' : AS) (v : AV) (h' : Hp) (m : Option Nat) : Prop where
  adm : f.ad = m
  guard : gOk ops o σ.env true
  sem : SemOp X o (evE σ.env) σ.heap v h' m
  eqv : Eqv ⟨setO (scrubO m σ.env) o.dst (some v), h', 0⟩ σ'
  wr : f.rd ≠ [] → ∀ i, i ∉ f.rd → (look h' i).map (·.1) = (look σ.heap i).map (·.1)
  cl : (∀ x ∈ o.op.operands.toList, ∀ id ∈ (evE σ.env x).refs, (look σ.heap id).isSome = true) ∧ ∀ id bx z, look σ.heap id = some (bx, z) → ∀ i ∈ acRefs bx.cells, (look σ.heap i).isSome = true
  dm : ∀ i, (look σ.heap i).isSome = true → (look h' i).isSome = true
  scf : ∀ l, f.sc = some l → ∃ a, m = some a ∧ ∀ i, i ≠ a → i ∉ l → (look h' i).map (·.1) = (look σ.heap i).map fun e => e.1.scrub a
def St (X : Ctx) (ops : Array Oper) (f : Fl) (o : Oper) (σ σ' : AS) : Prop :=
  (f.kind ≤ 1 ∧ ∃ r rd zs add, StN X ops f o σ σ' r rd zs add) ∨ (f.kind = 2 ∧ ∃ v h' m, StE X ops f o σ σ' v h' m)
theorem St.eqv {X : Ctx} {ops : Array Oper} {f : Fl} {o : Oper} {σ σ' τ : AS} (h : St X ops f o σ σ') (e : Eqv σ' τ) : St X ops f o σ τ := by
  rcases h with ⟨hk, r, rd, zs, add, h⟩ | ⟨hk, v, h', m, h⟩
  · exact .inl ⟨hk, r, rd, zs, add, { h with eqv := h.eqv.trans e }⟩
  · exact .inr ⟨hk, v, h', m, { h with eqv := h.eqv.trans e }⟩
def vG : Option Bool → AV
  | some b => vB b
  | none => .tup []
theorem gOk.congr {ops : Array Oper} {o : Oper} {env env' : List (Nat × AV)} {run : Bool} (h : gOk ops o env run) (e : ∀ j w t, o.guard = some (j, w) → (ops[j]?).bind (·.dst) = some t → ∀ b, look env t = some (vG b) → look env' t = some (vG b)) : gOk ops o env' run := by
  unfold gOk at *
  split at h
  · exact h
  · rename_i j w hg
    obtain ⟨t, ht, hl⟩ := h
    rcases hl with hl | ⟨hr, hl⟩
    · exact ⟨t, ht, .inl (e j w t hg ht (some _) hl)⟩
    · exact ⟨t, ht, .inr ⟨hr, e j w t hg ht none hl⟩⟩

/-! ### Two operations apart change places -/
def flIdle (f : Fl) : Bool := decide (f.kind ≤ 1) && f.rd.isEmpty && f.ad.isNone
def apartRf (f g : Fl) : Bool := match f.rf, g.ad with | some l, some a => !l.contains a | _, _ => false
theorem apartRf_spec {f g : Fl} (h : apartRf f g = true) : ∃ l a, f.rf = some l ∧ g.ad = some a ∧ a ∉ l := by
  unfold apartRf at h
  split at h
  · rename_i l a h1 h2
    exact ⟨l, a, h1, h2, fun hm => by rw [List.contains_iff_mem.2 hm] at h; cases h⟩
  · cases h
def compatB (f g : Fl) : Bool :=
  (decide (f.kind ≤ 1) && decide (g.kind ≤ 1) && (match f.ad with | some i => !g.rd.contains i | none => true) && (match g.ad with | some i => !f.rd.contains i | none => true)) ||
  (decide (f.kind = 0) && decide (g.kind = 2)) || (decide (f.kind = 2) && decide (g.kind = 0)) ||
  (flIdle f && decide (g.kind = 2) && g.ad.isNone) || (decide (f.kind = 2) && f.ad.isNone && flIdle g) ||
  (decide (f.kind ≤ 1) && decide (g.kind = 2) && (f.ad.isNone && g.ad.isNone && !g.rd.isEmpty && f.rd.all fun i => !g.rd.contains i)) ||
  (decide (f.kind = 2) && decide (g.kind ≤ 1) && (g.ad.isNone && f.ad.isNone && !f.rd.isEmpty && g.rd.all fun i => !f.rd.contains i)) ||
  (decide (f.kind ≤ 1) && decide (g.kind = 2) && (f.ad.isNone && !g.rd.isEmpty && (f.rd.all fun i => !g.rd.contains i) && apartRf f g)) ||
  (decide (f.kind = 2) && decide (g.kind ≤ 1) && (g.ad.isNone && !f.rd.isEmpty && (g.rd.all fun i => !f.rd.contains i) && apartRf g f))
/-- What makes a box that nothing tells of may come ahead of what moves another. -/
def late (f g : Fl) : Bool := decide (f.kind = 2) && decide (g.kind ≤ 1) && g.rd.isEmpty && (match f.ad, g.ad with | some a, some b => a != b | _, _ => true) && g.fr
/-- What loads may come ahead of what moves another box, and scrubs those that name it. -/
def lateL (f g : Fl) : Bool := decide (f.kind = 2) && decide (g.kind ≤ 1) && g.ad.isNone && (g.ld || g.rd.isEmpty) && apartRf g f && (match f.sc, f.ad with | some l, some a => !g.rd.contains a && g.rd.all (fun i => !l.contains i) | _, _ => false)
def compat (f g : Fl) : Bool := compatB f g || late f g || lateL f g
theorem compat_B {f g : Fl} (hc : compat f g = true) (h : ¬ (f.kind = 2 ∧ g.kind ≤ 1)) : compatB f g = true := by
  unfold compat at hc
  rw [Bool.or_eq_true, Bool.or_eq_true] at hc
  rcases hc with (hc | hc) | hc
  · exact hc
  · unfold late at hc
    simp only [Bool.and_eq_true, decide_eq_true_eq] at hc
    exact absurd ⟨hc.1.1.1.1, hc.1.1.1.2⟩ h
  · unfold lateL at hc
    simp only [Bool.and_eq_true, decide_eq_true_eq] at hc
    exact absurd ⟨hc.1.1.1.1.1, hc.1.1.1.1.2⟩ h
theorem lateL_spec {f g : Fl} (h : lateL f g = true) : g.ad = none ∧ (g.ld = true ∨ g.rd = []) ∧ ∃ l a lf, f.sc = some l ∧ f.ad = some a ∧ a ∉ g.rd ∧ (∀ i ∈ g.rd, i ∉ l) ∧ g.rf = some lf ∧ a ∉ lf := by
  unfold lateL at h
  simp only [Bool.and_eq_true, Bool.or_eq_true, decide_eq_true_eq, Option.isNone_iff_eq_none, List.isEmpty_iff] at h
  obtain ⟨⟨⟨⟨⟨_, _⟩, h1⟩, h2⟩, h3⟩, h4⟩ := h
  obtain ⟨lf, a, h5, h6, h7⟩ := apartRf_spec h3
  refine ⟨h1, h2, ?_⟩
  cases hs : f.sc with
  | none => rw [hs] at h4; cases h4
  | some l =>
    rw [hs, h6] at h4
    simp only [Bool.and_eq_true, List.all_eq_true] at h4
    refine ⟨l, a, lf, rfl, h6, fun hm => ?_, fun i hi hm => ?_, h5, h7⟩
    · rw [List.contains_iff_mem.2 hm] at h4; exact absurd h4.1 (by simp)
    · have := h4.2 i hi; rw [List.contains_iff_mem.2 hm] at this; cases this
theorem compat_NE {f g : Fl} (hc : compatB f g = true) (hf : f.kind ≤ 1) (hg : g.kind = 2) : f.kind = 0 ∨ (flIdle f = true ∧ g.ad = none) ∨ (f.ad = none ∧ g.ad = none ∧ g.rd ≠ [] ∧ ∀ i ∈ f.rd, i ∉ g.rd) ∨ (f.ad = none ∧ g.rd ≠ [] ∧ (∀ i ∈ f.rd, i ∉ g.rd) ∧ ∃ l a, f.rf = some l ∧ g.ad = some a ∧ a ∉ l) := by
  unfold compatB at hc
  have hj2 : ¬ g.kind ≤ 1 := by omega
  have hi2 : ¬ f.kind = 2 := by omega
  have hj0 : ¬ g.kind = 0 := by omega
  simp only [hi2, hg, hf, decide_false, decide_true, Bool.and_false, Bool.false_and, Bool.and_true, Bool.true_and, Bool.or_false, Bool.false_or, Bool.or_eq_true, Bool.and_eq_true, decide_eq_true_eq, Option.isNone_iff_eq_none, show ((2 : Nat) ≤ 1) = False from by simp, List.all_eq_true, Bool.not_eq_true', List.isEmpty_eq_false_iff] at hc
  rcases hc with ((hc | hc) | ⟨⟨⟨h1, h2⟩, h3⟩, h4⟩) | ⟨⟨⟨h1, h3⟩, h4⟩, h5⟩
  · exact .inl hc
  · exact .inr (.inl hc)
  · exact .inr (.inr (.inl ⟨h1, h2, h3, fun i hi hm => by have := h4 i hi; rw [List.contains_iff_mem.2 hm] at this; cases this⟩))
  · exact .inr (.inr (.inr ⟨h1, h3, fun i hi hm => (by have := h4 i hi; rw [List.contains_iff_mem.2 hm] at this; cases this), apartRf_spec h5⟩))
theorem compat_swap {f g : Fl} (hf : f.kind = 2) (hg : g.kind ≤ 1) (hc : compatB f g = true) : compatB g f = true := by
  unfold compatB at hc ⊢
  have h0 : ¬ f.kind ≤ 1 := by omega
  have h1 : ¬ g.kind = 2 := by omega
  have h2 : ¬ f.kind = 0 := by omega
  simp only [hf, hg, h1, decide_false, decide_true, Bool.and_false, Bool.false_and, Bool.and_true, Bool.true_and, Bool.or_false, Bool.false_or, show ((2 : Nat) ≤ 1) = False from by simp, show ((2 : Nat) = 0) = False from by simp] at hc ⊢
  rw [Bool.and_comm (flIdle g)]
  exact hc
/-- What writes nothing, and is not touched by what moves. -/
theorem StN.still {X : Ctx} {ops : Array Oper} {f g : Fl} {o : Oper} {σ σ' : AS} {r : Option AV} {rd zs : List Nat} {add : Option (Nat × Bx)} (h : StN X ops f o σ σ' r rd zs add) (hc : f.kind = 0 ∨ (flIdle f = true ∧ g.ad = none) ∨ (f.ad = none ∧ g.ad = none ∧ g.rd ≠ [] ∧ ∀ i ∈ f.rd, i ∉ g.rd) ∨ (f.ad = none ∧ g.rd ≠ [] ∧ (∀ i ∈ f.rd, i ∉ g.rd) ∧ ∃ l a, f.rf = some l ∧ g.ad = some a ∧ a ∉ l)) :
    zs = [] ∧ add = none ∧ (g.ad = none ∨ ∀ a, g.ad = some a → ∀ v, r = some v → Free a v ∧ ∀ x ∈ o.op.operands.toList, Free a (evE σ.env x)) ∧ ∀ i ∈ rd, g.rd ≠ [] ∧ i ∉ g.rd := by
  rcases hc with hc | ⟨hc, hg⟩ | ⟨ha, hg, hne, hd⟩ | ⟨ha, hne, hd, l, a, hl, hg, hal⟩
  · obtain ⟨h1, h2, h3, h4⟩ := h.pure hc
    exact ⟨h2, h3, .inr fun a _ v hv => ⟨.inl (h4 v hv).1, fun x hx => .inl ((h4 v hv).2 x hx)⟩, fun i hi => by rw [h1] at hi; cases hi⟩
  · unfold flIdle at hc
    simp only [Bool.and_eq_true, decide_eq_true_eq, List.isEmpty_iff, Option.isNone_iff_eq_none] at hc
    refine ⟨?_, ?_, .inl hg, fun i hi => ?_⟩
    · exact List.eq_nil_iff_forall_not_mem.2 fun i hi => by have := h.zsf i hi; rw [hc.1.2] at this; cases this
    · cases add with
      | none => rfl
      | some p => have := (h.adf p.1 p.2 rfl).1; rw [hc.2] at this; cases this
    · have := h.rdf i hi; rw [hc.1.2] at this; cases this
  · refine ⟨h.rdo ha, ?_, .inl hg, fun i hi => ⟨hne, hd i (h.rdf i hi)⟩⟩
    cases add with
    | none => rfl
    | some p => have := (h.adf p.1 p.2 rfl).1; rw [ha] at this; cases this
  · refine ⟨h.rdo ha, ?_, .inr fun a' ha' v hv => ?_, fun i hi => ⟨hne, hd i (h.rdf i hi)⟩⟩
    · cases add with
      | none => rfl
      | some p => have := (h.adf p.1 p.2 rfl).1; rw [ha] at this; cases this
    · rw [hg] at ha'
      cases ha'
      obtain ⟨q1, q2⟩ := h.rff l hl v hv
      exact ⟨.inr ⟨q1.1, fun i hi e => hal (e ▸ q1.2 i hi)⟩, fun x hx => .inr ⟨(q2 x hx).1, fun i hi e => hal (e ▸ (q2 x hx).2 i hi)⟩⟩
theorem apart_op {ops : Array Oper} {x y : Oper} (h : ∀ d, x.dst = some d → d ∉ y.looksAt ops) {z : Operand} (hz : z ∈ y.op.operands.toList) : ∀ d, x.dst = some d → z ≠ .tmp d := fun d hd e => by
  subst e
  refine h d hd ?_
  unfold Oper.looksAt
  exact List.mem_append.2 (.inl (List.mem_filterMap.2 ⟨.tmp d, hz, rfl⟩))
theorem apart_guard {ops : Array Oper} {x y : Oper} (h : ∀ d, x.dst = some d → d ∉ y.looksAt ops) {j : Nat} {w : Bool} {t : Nat} (hg : y.guard = some (j, w)) (ht : (ops[j]?).bind (·.dst) = some t) : x.dst ≠ some t := fun hd => by
  refine h t hd ?_
  unfold Oper.looksAt
  refine List.mem_append.2 (.inr ?_)
  rw [hg]; simp [ht]
theorem evE_setO {env : List (Nat × AV)} {d : Option Tmp} {r : Option AV} {z : Operand} (h : ∀ t, d = some t → z ≠ .tmp t) : evE (setO env d r) z = evE env z := by
  cases z with
  | tmp t =>
    simp only [evE, look_setO]
    rw [if_neg (fun e => h t e rfl)]
  | const v => rfl
  | global g => rfl
  | func f => rfl
theorem look_upd (h : Hp) (zs : List Nat) (add : Option (Nat × Bx)) (i : Nat) : look (upd h zs add) i = match add with | some (id, bx) => if i = id then some (bx, false) else look (frzs h zs) i | none => look (frzs h zs) i := by
  cases add with
  | none => rfl
  | some p => simp only [upd, look_put]
theorem look_frzs_val : ∀ (zs : List Nat) (h : Hp) (i : Nat), look (frzs h zs) i = if i ∈ zs then (look h i).map (fun e => (e.1, true)) else look h i
  | [], h, i => by simp [frzs]
  | z :: zs, h, i => by
    rw [frzs, look_frzs_val zs, look_frz]
    by_cases h1 : i ∈ zs
    · rw [if_pos h1, if_pos (show i ∈ z :: zs from List.mem_cons.2 (.inr h1))]
      by_cases h2 : i = z <;> simp [h2, Function.comp_def]
    · rw [if_neg h1]
      by_cases h2 : i = z
      · rw [if_pos h2, if_pos (by simp [h2])]
      · rw [if_neg h2, if_neg (by simp [h1, h2])]
theorem look_upd_fst {h : Hp} {zs : List Nat} {add : Option (Nat × Bx)} {i : Nat} (hn : ∀ id bx, add = some (id, bx) → i ≠ id) : (look (upd h zs add) i).map (·.1) = (look h i).map (·.1) := by
  rw [look_upd]
  split
  · rename_i id bx; rw [if_neg (hn id bx rfl), look_frzs_fst]
  · rw [look_frzs_fst]
theorem upd_comm {h : Hp} {zs zs' : List Nat} {add add' : Option (Nat × Bx)} (h1 : ∀ id bx, add = some (id, bx) → id ∉ zs') (h2 : ∀ id bx, add' = some (id, bx) → id ∉ zs) (hne : ∀ id bx id' bx', add = some (id, bx) → add' = some (id', bx') → id ≠ id') (i : Nat) :
    look (upd (upd h zs add) zs' add') i = look (upd (upd h zs' add') zs add) i := by
  have key : ∀ (zs zs' : List Nat) (add : Option (Nat × Bx)), (∀ id bx, add = some (id, bx) → id ∉ zs') → ∀ i, look (frzs (upd h zs add) zs') i = match add with | some (id, bx) => if i = id then some (bx, false) else look (frzs (frzs h zs) zs') i | none => look (frzs (frzs h zs) zs') i := by
    intro zs zs' add hh i
    rw [look_frzs_val, look_upd]
    cases add with
    | none => simp only; rw [look_frzs_val zs']
    | some p =>
      obtain ⟨id, bx⟩ := p
      simp only
      by_cases hi : i = id
      · subst hi; rw [if_neg (hh i bx rfl)]; simp
      · simp only [hi, if_false]; rw [look_frzs_val zs']
  have hcomm : look (frzs (frzs h zs) zs') i = look (frzs (frzs h zs') zs) i := by
    simp only [look_frzs_val]
    by_cases a : i ∈ zs <;> by_cases b : i ∈ zs' <;> simp [a, b, Function.comp_def]
  rw [look_upd, look_upd, key zs zs' add h1, key zs' zs add' h2]
  cases add with
  | none =>
    cases add' with
    | none => exact hcomm
    | some p' => simp only [hcomm]
  | some p =>
    cases add' with
    | none => simp only [hcomm]
    | some p' =>
      have := hne p.1 p.2 p'.1 p'.2 rfl rfl
      simp only
      by_cases a : i = p.1 <;> by_cases b : i = p'.1
      · exact absurd (a.symm.trans b) this
      · simp [a, this]
      · have h3 : ¬ p'.1 = p.1 := fun e => this e.symm
        simp [b, h3]
      · simp only [a, b, if_false]; exact hcomm
theorem AC.scrub_not {m : Nat} {c : AC} (h : ∀ i ∈ c.refs, i ≠ m) : c.scrub m = c := by
  unfold AC.scrub
  rw [if_neg]
  intro hc
  exact h m (by simpa using hc) rfl
theorem map_scrub_not {m : Nat} {cs : List AC} (h : ∀ i ∈ acRefs cs, i ≠ m) : cs.map (AC.scrub m) = cs := by
  conv => rhs; rw [← List.map_id cs]
  exact List.map_congr_left fun c hc => AC.scrub_not fun i hi => h i (List.mem_flatMap.2 ⟨c, hc, hi⟩)
theorem AV.scrub_not {m : Nat} {v : AV} (h : ∀ i ∈ v.refs, i ≠ m) : v.scrub m = v := by
  cases v with
  | one c => simp only [AV.scrub]; rw [AC.scrub_not h]
  | agg cs => simp only [AV.scrub]; rw [map_scrub_not h]
  | tup xs =>
    simp only [AV.scrub]
    congr 1
    conv => rhs; rw [← List.map_id xs]
    refine List.map_congr_left fun x hx => ?_
    rw [map_scrub_not fun i hi => h i (List.mem_flatMap.2 ⟨x, hx, hi⟩)]; rfl
  | bot => rfl
/-- What an operation does beside a box that nothing tells of. -/
theorem SemOp.frame {X : Ctx} {o : Oper} {ρ : Operand → AV} {h h' : Hp} {v : AV} {m : Option Nat} (hs : SemOp X o ρ h v h' m) {k : Nat} {bx : Bx} (hk : look h k = none) (hk' : look h' k = none) (hk1 : k < 1000) (hb : acRefs bx.cells = [])
    (hc1 : ∀ x ∈ o.op.operands.toList, ∀ id ∈ (ρ x).refs, (look h id).isSome = true) (hc2 : ∀ id b z, look h id = some (b, z) → ∀ i ∈ acRefs b.cells, (look h i).isSome = true) :
    SemOp X o ρ (put h k (bx, false)) v (put h' k (bx, false)) m := by
  intro F β w a r hv next Q hn
  have lk : ∀ i, i ≠ k → look (put h k (bx, false)) i = look h i := fun i hi => by rw [look_put, if_neg hi]
  have lkk : look (put h k (bx, false)) k = some (bx, false) := by rw [look_put, if_pos rfl]
  have up : ∀ i e, look h i = some e → look (put h k (bx, false)) i = some e := fun i e hl => by
    rw [lk i (fun e' => by subst e'; rw [hk] at hl; cases hl)]; exact hl
  have mineOwn : ∀ b, (∃ i e, look h i = some e ∧ β i = some b) → F.own b ∧ b < w.heap.size ∧ β k ≠ some b := by
    rintro b ⟨i, e, hl, hb'⟩
    have hne : k ≠ i := fun e' => by subst e'; rw [hk] at hl; cases hl
    have := r.lt (up i e hl) hb'
    exact ⟨this.2, this.1, fun hkb => r.inj k i _ _ b hne lkk (up i e hl) hkb hb'⟩
  have okF : ∀ b, F.ok w (put h k (bx, false)) β b → Fr.ok ⟨w, F.ok w (put h k (bx, false)) β, fun b => ∃ i e, look h i = some e ∧ β i = some b, β⟩ w h β b := fun b hb => ⟨hb.1, fun _ => .inl hb, fun i bx' hl => hb.2.2 i bx' (up i _ hl)⟩
  have kF : Keeps (fun _ => True) w (F.ok w (put h k (bx, false)) β) β w (Fr.ok ⟨w, F.ok w (put h k (bx, false)) β, fun b => ∃ i e, look h i = some e ∧ β i = some b, β⟩ w h β) β := ⟨fun b hb => ⟨okF b hb, rfl⟩, fun _ _ => ⟨rfl, fun _ _ => rfl⟩⟩
  have r' : HRel X ⟨w, F.ok w (put h k (bx, false)) β, fun b => ∃ i e, look h i = some e ∧ β i = some b, β⟩ h β w := by
    refine ⟨BelowM.refl _ _, ⟨r.gw, fun b hb' => ?_⟩, fun id b z hl => ?_, fun i i' e e' g hne h1 h2 => r.inj i i' e e' g hne (up i e h1) (up i' e' h2), hc2, fun id hid => ⟨rfl, fun g hg => ?_⟩⟩
    · rcases (mineOwn b hb').1 with h1 | h1
      · exact Nat.le_trans (X.hN _ r.g.1) h1
      · exact r.g.2 b h1
    · have h0 := r.box id b z (up id _ hl)
      unfold BoxRep at h0 ⊢
      cases hβ : β id with
      | none => rw [hβ] at h0; exact h0
      | some g =>
        rw [hβ] at h0
        obtain ⟨h1, arr, e, h2, h3, h4⟩ := h0
        refine ⟨.inr ⟨id, _, hl, hβ⟩, arr, e, h2, h3, fun j c hj => ?_⟩
        obtain ⟨u, hu, hr⟩ := h4 j c hj
        exact ⟨u, hu, kF.repC (fun _ _ => trivial) hr⟩
    · have hg' : β id = some g := hg
      have p := (r.pin id hid).2 g (by rw [← (r.pin id hid).1]; exact hg')
      exact ⟨Nat.lt_of_lt_of_le p.1 r.size, rfl, fun i e hl hne => p.2.2 i e (up i e hl) hne⟩
  refine hs _ β w a r' (fun x hx => ⟨kF.repV (fun _ _ => trivial) (hv x hx).1, hc1 x hx⟩) next Q fun u w' β' hp hu hw => ?_
  have same : ∀ g, β k = some g → w'.heap[g]? = w.heap[g]? := fun g hg => hp.rel.below.block g (r.lt lkk hg).1 fun hm => (mineOwn g hm).2.2 hg
  have okB : ∀ b, Fr.ok ⟨w, F.ok w (put h k (bx, false)) β, fun b => ∃ i e, look h i = some e ∧ β i = some b, β⟩ w' h' β' b → F.ok w' (put h' k (bx, false)) (upd1 β' k (β k)) b := fun b hb => by
    refine ⟨hb.1, fun hlt => ?_, fun i bx' hl e => ?_⟩
    · rcases hb.2.1 (Nat.lt_of_lt_of_le hlt r.size) with h1 | h1
      · exact h1.2.1 hlt
      · rcases (mineOwn b h1).1 with h2 | h2
        · omega
        · exact .inr h2
    · rw [look_put] at hl
      by_cases hi : i = k
      · subst hi
        have e' : β i = some b := by simpa [upd1] using e
        rcases hb.2.1 (r.lt lkk e').1 with h1 | h1
        · exact h1.2.2 i bx lkk e'
        · exact (mineOwn b h1).2.2 e'
      · rw [if_neg hi] at hl
        exact hb.2.2 i bx' hl (by simpa [upd1, hi] using e)
  have blk : ∀ b, F.ok w (put h k (bx, false)) β b → F.ok w' (put h' k (bx, false)) (upd1 β' k (β k)) b ∧ w'.heap[b]? = w.heap[b]? := fun b hb => by
    have h1 := hp.keep.blk b (okF b hb)
    exact ⟨okB b h1.1, h1.2⟩
  have kB : Keeps (fun i => i ≠ k) w' (Fr.ok ⟨w, F.ok w (put h k (bx, false)) β, fun b => ∃ i e, look h i = some e ∧ β i = some b, β⟩ w' h' β') β' w' (F.ok w' (put h' k (bx, false)) (upd1 β' k (β k))) (upd1 β' k (β k)) := ⟨fun b hb => ⟨okB b hb, rfl⟩, fun i hi => ⟨by simp [upd1, hi], fun _ _ => rfl⟩⟩
  have ne' : ∀ i, (look h' i).isSome = true → i ≠ k := fun i hi e => by subst e; rw [hk'] at hi; cases hi
  have rel : HRel X F (put h' k (bx, false)) (upd1 β' k (β k)) w' := by
    refine ⟨r.below.comp hp.rel.below fun b hb' => (mineOwn b hb').1, r.g, fun id b z hl => ?_, fun i i' e1 e2 g hne h1 h2 b1 b2 => ?_, fun id b z hl i hi => ?_, fun id hid => ?_⟩
    · rw [look_put] at hl
      by_cases hi : id = k
      · rw [if_pos hi] at hl
        simp only [Option.some.injEq, Prod.mk.injEq] at hl
        obtain ⟨rfl, rfl⟩ := hl
        subst hi
        have h0 := r.box id bx false lkk
        unfold BoxRep at h0 ⊢
        rw [show upd1 β' id (β id) id = β id by simp [upd1]]
        cases hβ : β id with
        | none => rw [hβ] at h0; exact h0
        | some g =>
          rw [hβ] at h0
          obtain ⟨h1, arr, e, h2, h3, h4⟩ := h0
          refine ⟨h1, arr, e, h2.keep (same g hβ), h3, fun j c hj => ?_⟩
          obtain ⟨u, hu, hr⟩ := h4 j c hj
          have kK : Keeps (fun _ => False) w (F.ok w (put h id (bx, false)) β) β w' (F.ok w' (put h' id (bx, false)) (upd1 β' id (β id))) (upd1 β' id (β id)) := ⟨blk, fun _ h => h.elim⟩
          rw [hβ] at kK
          refine ⟨u, hu, kK.repC (fun i hi => ?_) hr⟩
          have : i ∈ acRefs bx.cells := List.mem_flatMap.2 ⟨c, List.mem_of_getElem? hj, hi⟩
          rw [hb] at this; cases this
      · rw [if_neg hi] at hl
        have h0 := hp.rel.box id b z hl
        unfold BoxRep at h0 ⊢
        rw [show upd1 β' k (β k) id = β' id by simp [upd1, hi]]
        cases hβ : β' id with
        | none => rw [hβ] at h0; exact h0
        | some g =>
          rw [hβ] at h0
          obtain ⟨h1, arr, e, h2, h3, h4⟩ := h0
          refine ⟨?_, arr, e, h2, h3, fun j c hj => ?_⟩
          · rcases h1 with h1 | h1
            · exact .inl (Nat.le_trans r.size h1)
            · exact (mineOwn g h1).1
          · obtain ⟨u, hu, hr⟩ := h4 j c hj
            exact ⟨u, hu, kB.repC (fun i hi => ne' i (hp.rel.wf id b z hl i (List.mem_flatMap.2 ⟨c, List.mem_of_getElem? hj, hi⟩))) hr⟩
    · have cross : ∀ {i' e2}, look h' i' = some e2 → β k = some g → β' i' ≠ some g := fun {i' e2} h2 hk b2 => by
        have h3 := (hp.rel.lt h2 b2).2
        rcases h3 with h3 | h3
        · have : w.heap.size ≤ g := h3
          have := (r.lt lkk hk).1
          omega
        · exact (mineOwn g h3).2.2 hk
      rw [look_put] at h1 h2
      unfold upd1 at b1 b2
      by_cases hi : i = k
      · have hi' : i' ≠ k := fun e => hne (hi.trans e.symm)
        rw [if_pos hi] at b1
        rw [if_neg hi'] at h2 b2
        exact cross h2 b1 b2
      · rw [if_neg hi] at h1 b1
        by_cases hi' : i' = k
        · rw [if_pos hi'] at b2
          exact cross h1 b2 b1
        · rw [if_neg hi'] at h2 b2
          exact hp.rel.inj i i' e1 e2 g hne h1 h2 b1 b2
    · rw [look_put] at hl ⊢
      by_cases hj : i = k
      · rw [if_pos hj]; rfl
      · rw [if_neg hj]
        by_cases hi' : id = k
        · rw [if_pos hi'] at hl
          simp only [Option.some.injEq, Prod.mk.injEq] at hl
          obtain ⟨rfl, rfl⟩ := hl
          rw [hb] at hi; cases hi
        · rw [if_neg hi'] at hl
          exact hp.rel.wf id b z hl i hi
    · have hne : id ≠ k := by omega
      have p0 := r.pin id hid
      have p1 := hp.rel.pin id hid
      have p1' : β' id = β id := p1.1
      refine ⟨by rw [show upd1 β' k (β k) id = β' id by simp [upd1, hne], p1', p0.1], fun g hg => ?_⟩
      have q0 := p0.2 g hg
      have q1 := p1.2 g (show β id = some g by rw [p0.1]; exact hg)
      refine ⟨q0.1, q1.2.1.trans q0.2.1, fun i e hl hi => ?_⟩
      rw [look_put] at hl
      by_cases hik : i = k
      · subst hik
        rw [show upd1 β' i (β i) i = β i by simp [upd1]]
        exact q0.2.2 i _ lkk hi
      · rw [if_neg hik] at hl
        rw [show upd1 β' k (β k) i = β' i by simp [upd1, hik]]
        exact q1.2.2 i e hl hi
  refine hn u w' (upd1 β' k (β k)) ⟨rel, ⟨blk, fun i hi => ?_⟩, fun i hi => ?_⟩ (kB.repV (fun i hi => ne' i (hw i hi)) hu) (fun id hid => ?_)
  · by_cases e : i = k
    · subst e
      refine ⟨by simp [upd1], fun g hg => ?_⟩
      unfold bsh
      rw [same g hg]
    · have := hp.keep.ids i ⟨by rw [← lk i e]; exact hi.1, hi.2⟩
      exact ⟨by rw [show upd1 β' k (β k) i = β' i by simp [upd1, e]]; exact this.1, this.2⟩
  · rw [look_put]
    by_cases e : i = k
    · rw [if_pos e]; rfl
    · rw [if_neg e]; exact hp.dom i (by rw [← lk i e]; exact hi)
  · rw [look_put]
    have := hw id hid
    split
    · rfl
    · exact this
/-! ### Loads leave the world as it is -/
def Qt {α : Type} (s : Sem α) : Prop := ∀ (P : Program) (w : World) (r : α) (w' : World), s.run P w = .ok r w' → w' = w
theorem Qt.pure {α : Type} (a : α) : Qt (Pure.pure a : Sem α) := fun P w r w' h => by
  rw [Sem.run_pure] at h
  simp only [Result.ok.injEq] at h
  exact h.2.symm
theorem Qt.bind {α β : Type} {s : Sem α} {k : α → Sem β} (hs : Qt s) (hk : ∀ a, Qt (k a)) : Qt (s >>= k) := fun P w r w' h => by
  rw [Sem.run_bind] at h
  cases hr : s.run P w with
  | ok a w1 =>
    rw [hr, Result.andThen_ok] at h
    have e1 := hs P w a w1 hr
    subst e1
    exact hk a P _ r w' h
  | halt x w1 => rw [hr] at h; cases h
theorem Qt.halt {α : Type} (x : Halt) : Qt (Sem.halt x : Sem α) := fun P w r w' h => by rw [Sem.run_halt] at h; cases h
theorem Qt.load (a : Addr) : Qt (Go.load a) := fun P w r w' h => by
  rw [run_load] at h
  split at h
  · simp only [Result.ok.injEq] at h; exact h.2.symm
  · split at h
    · simp only [Result.ok.injEq] at h; exact h.2.symm
    · cases h
theorem Qt.program : Qt Go.program := fun P w r w' h => by
  have : (Go.program).run P w = .ok P w := rfl
  rw [this] at h
  simp only [Result.ok.injEq] at h; exact h.2.symm
theorem Qt.typeInfo (t : TypeId) : Qt (Go.typeInfo t) := Qt.program.bind fun p => by
  cases p.info? t with
  | some i => exact Qt.pure i
  | none => exact Qt.halt _
theorem Qt.underlying (t : TypeId) : Qt (Go.underlying t) := Qt.program.bind fun p => by
  cases p.underlying t with
  | some i => exact Qt.pure i
  | none => exact Qt.halt _
theorem Qt.isAgg (t : TypeId) : Qt (Go.isAgg t) := (Qt.underlying t).bind fun d => by
  cases d <;> exact Qt.pure _
theorem Qt.sizeOf (t : TypeId) : Qt (Go.sizeOf t) := (Qt.typeInfo t).bind fun i => Qt.pure _
theorem Qt.loadCellsFrom (a : Addr) : ∀ (n i : Nat) (acc : Array Value), Qt (Go.loadCellsFrom a i n acc)
  | 0, i, acc => Qt.pure acc
  | n + 1, i, acc => (Qt.load _).bind fun v => Qt.loadCellsFrom a n (i + 1) _
theorem Qt.loadVar (t : TypeId) (a : Addr) : Qt (Go.loadVar t a) := (Qt.isAgg t).bind fun b => by
  cases b with
  | true => exact ((Qt.sizeOf t).bind fun n => (Qt.loadCellsFrom a n 0 #[]).bind fun c => Qt.pure _)
  | false => exact Qt.load a
theorem Qt.loadAt (t : TypeId) (x : Value) : Qt (Go.Instr.loadAt t x) := by
  refine Qt.bind ?_ fun a => Qt.loadVar t a
  unfold Instr.sureAddr
  split
  · exact Qt.pure _
  · exact Qt.halt _
/-- What a load comes to. -/
theorem ld_run {P : Program} {ρ : Operand → Value} {o : Oper} (ho : isLd o.op = true) {w w' : World} {n : Next} (h : (execOp ρ o).run P w = .ok n w') : (∃ u, n = .value u) ∧ w' = w := by
  unfold execOp at h
  cases hop : o.op with
  | load t x =>
    rw [hop] at h
    simp only [Sem.run_bind] at h
    cases hr : (Instr.loadAt t (ρ x)).run P w with
    | ok a w1 =>
      rw [hr, Result.andThen_ok, Sem.run_pure] at h
      simp only [Result.ok.injEq] at h
      exact ⟨⟨a, h.1.symm⟩, h.2 ▸ Qt.loadAt t (ρ x) P w a w1 hr⟩
    | halt x w1 => rw [hr] at h; cases h
  | _ => rw [hop] at ho; cases ho
theorem Bx.scrub_not {m : Nat} {bx : Bx} (h : ∀ i ∈ acRefs bx.cells, i ≠ m) : bx.scrub m = bx := by
  cases bx with
  | pu e l => rfl
  | mx cs => exact congrArg Bx.mx (map_scrub_not h)
  | ob cs => exact congrArg Bx.ob (map_scrub_not h)
theorem ok_scrub {F : Fr} {w : World} {h : Hp} {β : Bt} {a : Nat} : F.ok w (scrubH a h) β = F.ok w h β := by
  funext b
  unfold Fr.ok
  refine propext (and_congr Iff.rfl (and_congr Iff.rfl ⟨fun hh id bx hl => hh id (bx.scrub a) (by rw [look_scrubH, hl]; rfl), fun hh id bx hl => ?_⟩))
  rw [look_scrubH] at hl
  cases hq : look h id with
  | none => rw [hq] at hl; cases hl
  | some e =>
    rw [hq] at hl
    simp only [Option.map_some, Option.some.injEq, Prod.mk.injEq] at hl
    exact hh id e.1 (by rw [hq, ← hl.2])
theorem ok_beta {F : Fr} {w : World} {h : Hp} {β β' : Bt} (e : ∀ i, (look h i).isSome = true → β' i = β i) : F.ok w h β' = F.ok w h β := by
  funext b
  unfold Fr.ok
  refine propext (and_congr Iff.rfl (and_congr Iff.rfl ⟨fun hh id bx hl => by rw [← e id (by rw [hl]; rfl)]; exact hh id bx hl, fun hh id bx hl => by rw [e id (by rw [hl]; rfl)]; exact hh id bx hl⟩))
theorem isSome_scrubH {a i : Nat} {h : Hp} : (look (scrubH a h) i).isSome = (look h i).isSome := by rw [look_scrubH]; cases look h i <;> rfl
theorem SemOp.unscrub {X : Ctx} {o : Oper} {ρ : Operand → AV} {h : Hp} {v : AV} {a : Nat} (ho : isLd o.op = true) (hs : SemOp X o ρ (scrubH a h) v (scrubH a h) none) : SemOp X o ρ h v h none := by
  intro F β w act r hv next Q hn
  have key := hs F β w act (r.scrub a) (fun x hx => ⟨by rw [ok_scrub]; exact (hv x hx).1, fun id hid => by rw [isSome_scrubH]; exact (hv x hx).2 id hid⟩) (fun a' w' => w' = w → next a' w') Q (fun u w' β' hp hr hrf hw => by
    subst hw
    refine hn u _ β (Post.refl r) ?_ fun id hid => by have := hrf id hid; rwa [isSome_scrubH] at this
    have hb : ∀ i, (look (scrubH a h) i).isSome = true → β' i = β i := fun i hi => (hp.keep.ids i ⟨hi, by simp⟩).1
    have hok : F.ok w' (scrubH a h) β' = F.ok w' h β := (ok_beta hb).trans ok_scrub
    rw [hok] at hr
    have k : Keeps (fun i => (look (scrubH a h) i).isSome = true) w' (F.ok w' h β) β' w' (F.ok w' h β) β := ⟨fun b hb2 => ⟨hb2, rfl⟩, fun id hid => ⟨(hb id hid).symm, fun g _ => rfl⟩⟩
    exact k.repV hrf hr)
  unfold Oper.wp at key ⊢
  generalize hrun : (execOp act.eval o).run X.P w = res at key ⊢
  cases res with
  | ok n w' =>
    obtain ⟨⟨u, rfl⟩, rfl⟩ := ld_run ho hrun
    exact key rfl
  | halt x w' => cases x <;> exact key
theorem NSem.late {X : Ctx} {o : Oper} {ρ : Operand → AV} {h h1 : Hp} {v : AV} {rd : List Nat} {a : Nat} (ho : isLd o.op = true) (hs : NSem X o ρ h1 v rd [] none) (e : ∀ i ∈ rd, (look h1 i).map (·.1) = (look h i).map fun e => e.1.scrub a) : NSem X o ρ h v rd [] none := fun h2 ha _ =>
  SemOp.unscrub ho (hs (scrubH a h2) (fun i hi => by
    rw [look_scrubH, e i hi]
    have := ha i hi
    cases hq : look h2 i <;> cases hp : look h i <;> rw [hq, hp] at this
    · rfl
    · cases this
    · cases this
    · simp only [Option.map_some, Option.some.injEq] at this ⊢
      rw [this]) fun id bx h => by cases h)
theorem exchange {X : Ctx} {ops : Array Oper} {fi fj : Fl} {oi oj : Oper} (hap : oi.apart ops oj = true) (hc : compat fi fj = true) {σ σ1 σ12 : AS} (hi : St X ops fi oi σ σ1) (hj : St X ops fj oj σ1 σ12) :
    ∃ σ2, St X ops fj oj σ σ2 ∧ St X ops fi oi σ2 σ12 := by
  obtain ⟨a1, a2, a3⟩ := Oper.apart_spec hap
  have dne : ∀ t, oi.dst = some t → oj.dst ≠ some t := fun t h => a2 t h
  rcases hi with ⟨ki, ri, rdi, zsi, addi, hi⟩ | ⟨ki, vi, hi', mi, hi⟩
  · rcases hj with ⟨kj, rj, rdj, zsj, addj, hj⟩ | ⟨kj, vj, hj', mj, hj⟩
    · -- both write nothing
      have hcc : (∀ i, fi.ad = some i → i ∉ fj.rd) ∧ (∀ i, fj.ad = some i → i ∉ fi.rd) := by
        replace hc := compat_B hc (by omega)
        unfold compatB at hc
        have hj2 : ¬ fj.kind = 2 := by omega
        have hi2 : ¬ fi.kind = 2 := by omega
        simp only [hj2, hi2, decide_false, Bool.and_false, Bool.false_and, Bool.or_false, Bool.and_eq_true] at hc
        refine ⟨fun i h => ?_, fun i h => ?_⟩
        · have := hc.1.2; rw [h] at this; simpa using this
        · have := hc.2; rw [h] at this; simpa using this
      have e1 := hi.eqv
      have lookσ1 : ∀ i, look σ1.heap i = look (upd σ.heap zsi addi) i := fun i => (e1.2 i).symm
      have envσ1 : ∀ t, look σ1.env t = look (setO σ.env oi.dst ri) t := fun t => (e1.1 t).symm
      have ev1 : ∀ z ∈ oj.op.operands.toList, evE σ.env z = evE σ1.env z := fun z hz => by
        rw [evE_congr envσ1 z, evE_setO fun t ht => apart_op a1 hz t ht]
      have addne : ∀ id bx id' bx', addi = some (id, bx) → addj = some (id', bx') → id ≠ id' := fun id bx id' bx' h1 h2 e => by
        subst e
        have := (hj.adf id bx' h2).2.1
        rw [lookσ1, look_upd, h1] at this
        simp at this
      have freshj : ∀ id bx, addj = some (id, bx) → look σ.heap id = none := fun id bx h => by
        have h3 := (hj.adf id bx h).2.1
        rw [lookσ1] at h3
        have h4 := look_upd_fst (h := σ.heap) (zs := zsi) (add := addi) (i := id) (fun id' bx' h' e => addne id' bx' id bx h' h e.symm)
        rw [h3] at h4
        cases hl : look σ.heap id with
        | none => rfl
        | some e => rw [hl] at h4; cases h4
      refine ⟨⟨setO σ.env oj.dst rj, upd σ.heap zsj addj, 0⟩, .inl ⟨kj, rj, rdj, zsj, addj, ?_⟩, .inl ⟨ki, ri, rdi, zsi, addi, ?_⟩⟩
      · refine ⟨hj.guard.congr fun k w t hg ht b hb => ?_, fun v hv => (hj.sem v hv).congr ev1 fun i hi' => ?_, hj.idle, hj.rdf, hj.zsf, fun id bx h => ⟨(hj.adf id bx h).1, freshj id bx h, (hj.adf id bx h).2.2⟩, fun hk => ?_, Eqv.refl _, hj.rdo, fun h => ?_, fun l hl v hv => ⟨(hj.rff l hl v hv).1, fun z hz => by rw [ev1 z hz]; exact (hj.rff l hl v hv).2 z hz⟩, hj.ldf⟩
        · rw [envσ1, look_setO, if_neg (apart_guard a1 hg ht)] at hb
          exact hb
        · rw [lookσ1]
          exact (look_upd_fst fun id bx h e => by
            subst e
            exact hcc.1 i (hi.adf i bx h).1 (hj.rdf i hi')).symm
        · obtain ⟨p1, p2, p3, p4⟩ := hj.pure hk
          exact ⟨p1, p2, p3, fun v hv => ⟨(p4 v hv).1, fun z hz => by rw [ev1 z hz]; exact (p4 v hv).2 z hz⟩⟩
        · obtain ⟨v, id, bx, q1, q2, q3, q4, q5⟩ := hj.frf h
          exact ⟨v, id, bx, q1, q2, q3, q4, fun z hz => by rw [ev1 z hz]; exact q5 z hz⟩
      · have ev2 : ∀ z ∈ oi.op.operands.toList, evE (setO σ.env oj.dst rj) z = evE σ.env z := fun z hz => evE_setO fun t ht => apart_op a3 hz t ht
        refine ⟨hi.guard.congr fun k w t hg ht b hb => ?_, fun v hv => (hi.sem v hv).congr ev2 fun i hi' => ?_, hi.idle, hi.rdf, hi.zsf, fun id bx h => ⟨(hi.adf id bx h).1, ?_, (hi.adf id bx h).2.2⟩, fun hk => ?_, ?_, hi.rdo, fun h => ?_, fun l hl v hv => ⟨(hi.rff l hl v hv).1, fun z hz => by rw [ev2 z hz]; exact (hi.rff l hl v hv).2 z hz⟩, hi.ldf⟩
        · simp only [look_setO]; rw [if_neg (apart_guard a3 hg ht)]; exact hb
        · exact look_upd_fst fun id bx h e => by
            subst e
            exact hcc.2 i (hj.adf i bx h).1 (hi.rdf i hi')
        · have h5 := look_upd_fst (h := σ.heap) (zs := zsj) (add := addj) (i := id) (fun id' bx' h' e => addne id bx id' bx' h h' e)
          rw [(hi.adf id bx h).2.1] at h5
          cases hl : look (upd σ.heap zsj addj) id with
          | none => rfl
          | some e => rw [hl] at h5; cases h5
        · obtain ⟨p1, p2, p3, p4⟩ := hi.pure hk
          exact ⟨p1, p2, p3, fun v hv => ⟨(p4 v hv).1, fun z hz => by rw [ev2 z hz]; exact (p4 v hv).2 z hz⟩⟩
        · refine Eqv.trans ?_ hj.eqv
          refine ⟨fun t => ?_, fun i => ?_⟩
          · simp only [look_setO, envσ1]
            by_cases h1 : oi.dst = some t
            · rw [if_pos h1, if_neg (dne t h1), if_pos h1]
            · rw [if_neg h1, if_neg h1]
          · simp only
            rw [look_upd_congr zsj addj lookσ1 i]
            exact (upd_comm (fun id bx h hz => hcc.1 id (hi.adf id bx h).1 (hj.zsf id hz)) (fun id bx h hz => hcc.2 id (hj.adf id bx h).1 (hi.zsf id hz)) addne i).symm
        · obtain ⟨v, id, bx, q1, q2, q3, q4, q5⟩ := hi.frf h
          exact ⟨v, id, bx, q1, q2, q3, q4, fun z hz => by rw [ev2 z hz]; exact q5 z hz⟩
    · -- the first writes nothing and has no place in it, the second writes
      have hk0 := compat_NE (compat_B hc (by omega)) ki kj
      have hpu := hi.pure
      have hfr := hi.frf
      obtain ⟨rfl, rfl, hp, hrd⟩ := hi.still hk0
      rw [hj.adm] at hp
      have lookσ1 : ∀ i, look σ1.heap i = look σ.heap i := fun i => (hi.eqv.2 i).symm
      have envσ1 : ∀ t, look σ1.env t = look (setO σ.env oi.dst ri) t := fun t => (hi.eqv.1 t).symm
      have ev1 : ∀ z ∈ oj.op.operands.toList, evE σ.env z = evE σ1.env z := fun z hz => by
        rw [evE_congr envσ1 z, evE_setO fun t ht => apart_op a1 hz t ht]
      refine ⟨⟨setO (scrubO mj σ.env) oj.dst (some vj), hj', 0⟩, .inr ⟨kj, vj, hj', mj, hj.adm, hj.guard.congr fun k w t hg ht b hb => ?_, hj.sem.congr ev1 (fun i => (lookσ1 i).symm) (fun _ => rfl), Eqv.refl _, fun h i hi => by rw [hj.wr h i hi, lookσ1], ⟨fun x hx id hid => by rw [← lookσ1]; exact hj.cl.1 x hx id (by rw [← ev1 x hx]; exact hid), fun id bx z hl i hi => by rw [← lookσ1] at hl ⊢; exact hj.cl.2 id bx z hl i hi⟩, fun i hi => hj.dm i (by rw [lookσ1]; exact hi), fun l hl => (by obtain ⟨a, h1, h2⟩ := hj.scf l hl; exact ⟨a, h1, fun i h3 h4 => by rw [h2 i h3 h4, lookσ1]⟩)⟩, .inl ⟨ki, ri, rdi, [], none, ?_⟩⟩
      · rw [envσ1, look_setO, if_neg (apart_guard a1 hg ht)] at hb
        exact hb
      · have ev2 : ∀ v, ri = some v → ∀ z ∈ oi.op.operands.toList, evE (setO (scrubO mj σ.env) oj.dst (some vj)) z = evE σ.env z := fun v hv z hz => by
          rw [evE_setO fun t ht => apart_op a3 hz t ht]
          exact evE_scrub_free (hp.imp id fun hp a ha => (hp a ha v hv).2 z hz)
        refine ⟨hi.guard.congr fun k w t hg ht b hb => ?_, fun v hv => (hi.sem v hv).congr (ev2 v hv) fun i hi' => (by rw [hj.wr (hrd i hi').1 i (hrd i hi').2, lookσ1]), fun _ => ⟨rfl, rfl⟩, hi.rdf, fun i hi' => (by cases hi'), fun id bx h => (by cases h), fun hk => ⟨(hpu hk).1, rfl, rfl, fun v hv => ⟨((hpu hk).2.2.2 v hv).1, fun z hz => by rw [ev2 v hv z hz]; exact ((hpu hk).2.2.2 v hv).2 z hz⟩⟩, ?_, fun _ => rfl, fun h => (by obtain ⟨_, _, _, _, q, _⟩ := hfr h; cases q), fun l hl v hv => ⟨(hi.rff l hl v hv).1, fun z hz => by rw [ev2 v hv z hz]; exact (hi.rff l hl v hv).2 z hz⟩, hi.ldf⟩
        · simp only [look_setO]
          rw [if_neg (apart_guard a3 hg ht)]
          cases mj with
          | none => exact hb
          | some m => simp only [scrubO, look_scrubEnv, hb]; cases b <;> rfl
        · refine Eqv.trans (σ := ⟨setO (setO (scrubO mj σ.env) oj.dst (some vj)) oi.dst ri, upd hj' [] none, 0⟩) ⟨fun t => ?_, fun i => by simp only [upd, frzs]⟩ hj.eqv
          simp only [look_setO]
          by_cases h1 : oi.dst = some t
          · rw [if_pos h1, if_neg (dne t h1)]
            cases mj with
            | none => simp only [scrubO, envσ1, look_setO, if_pos h1]
            | some m =>
              simp only [scrubO, look_scrubEnv, envσ1, look_setO, if_pos h1]
              cases ri with
              | none => rfl
              | some v => show some v = some (AV.scrub m v); rw [scrub_free ((hp.resolve_left (by simp)) m rfl v rfl).1]
          · rw [if_neg h1]
            by_cases h2 : oj.dst = some t
            · rw [if_pos h2, if_pos h2]
            · rw [if_neg h2, if_neg h2]
              cases mj with
              | none => simp only [scrubO, envσ1, look_setO, if_neg h1]
              | some m => simp only [scrubO, look_scrubEnv, envσ1, look_setO, if_neg h1]
  · rcases hj with ⟨kj, rj, rdj, zsj, addj, hj⟩ | ⟨kj, vj, hj', mj, hj⟩
    · have lookσ1 : ∀ i, look σ1.heap i = look hi' i := fun i => (hi.eqv.2 i).symm
      have envσ1 : ∀ t, look σ1.env t = look (setO (scrubO mi σ.env) oi.dst (some vi)) t := fun t => (hi.eqv.1 t).symm
      have gj : ∀ k w t, oj.guard = some (k, w) → (ops[k]?).bind (·.dst) = some t → ∀ b, look σ1.env t = some (vG b) → look σ.env t = some (vG b) := fun k w t hg ht b hb => by
        rw [envσ1, look_setO, if_neg (apart_guard a1 hg ht)] at hb
        cases mi with
        | none => exact hb
        | some m =>
          simp only [scrubO, look_scrubEnv] at hb
          cases hl : look σ.env t with
          | none => rw [hl] at hb; cases hb
          | some x =>
            rw [hl] at hb
            simp only [Option.map_some, Option.some.injEq] at hb
            have : x.isPv = true := AV.of_scrub_pv (m := m) (by rw [hb]; cases b <;> rfl)
            rw [AV.scrub_pv this] at hb
            rw [hb]
      by_cases hB : compatB fi fj = true
      · have hk0 := compat_NE (compat_swap ki kj hB) kj ki
        have hpu := hj.pure
        have hfr := hj.frf
        obtain ⟨rfl, rfl, hp, hrd⟩ := hj.still hk0
        rw [hi.adm] at hp
        have ev1 : ∀ v, rj = some v → ∀ z ∈ oj.op.operands.toList, evE σ.env z = evE σ1.env z := fun v hv z hz => by
          have h1 : evE σ1.env z = evE (scrubO mi σ.env) z := by rw [evE_congr envσ1 z, evE_setO fun t ht => apart_op a1 hz t ht]
          rw [h1]
          exact evE_of_scrub_free (hp.imp id fun hp a ha => by rw [← h1]; exact (hp a ha v hv).2 z hz)
        refine ⟨⟨setO σ.env oj.dst rj, σ.heap, 0⟩, .inl ⟨kj, rj, rdj, [], none, ?_⟩, .inr ⟨ki, vi, hi', mi, hi.adm, ?_, ?_, ?_, hi.wr, ⟨fun x hx id hid => hi.cl.1 x hx id (by rw [evE_setO fun t ht => apart_op a3 hx t ht] at hid; exact hid), hi.cl.2⟩, hi.dm, hi.scf⟩⟩
        · exact ⟨hj.guard.congr gj, fun v hv => (hj.sem v hv).congr (ev1 v hv) fun i hr => (by rw [lookσ1, hi.wr (hrd i hr).1 i (hrd i hr).2]), fun _ => ⟨rfl, rfl⟩, hj.rdf, fun i hi' => (by cases hi'), fun id bx h => (by cases h), fun hk => ⟨(hpu hk).1, rfl, rfl, fun v hv => ⟨((hpu hk).2.2.2 v hv).1, fun z hz => by rw [ev1 v hv z hz]; exact ((hpu hk).2.2.2 v hv).2 z hz⟩⟩, Eqv.refl _, fun _ => rfl, fun h => (by obtain ⟨_, _, _, _, q, _⟩ := hfr h; cases q), fun l hl v hv => ⟨(hj.rff l hl v hv).1, fun z hz => by rw [ev1 v hv z hz]; exact (hj.rff l hl v hv).2 z hz⟩, hj.ldf⟩
        · exact hi.guard.congr fun k w t hg ht b hb => by
            simp only [look_setO]; rw [if_neg (apart_guard a3 hg ht)]; exact hb
        · exact hi.sem.congr (fun z hz => evE_setO fun t ht => apart_op a3 hz t ht) (fun _ => rfl) (fun _ => rfl)
        · refine Eqv.trans ⟨fun t => ?_, fun i => ?_⟩ hj.eqv
          · simp only [look_setO, envσ1]
            by_cases h1 : oi.dst = some t
            · rw [if_pos h1, if_neg (dne t h1), if_pos h1]
            · rw [if_neg h1, if_neg h1]
              cases mi with
              | none => simp only [scrubO, look_setO]
              | some m =>
                simp only [scrubO, look_scrubEnv, look_setO]
                by_cases h2 : oj.dst = some t
                · rw [if_pos h2, if_pos h2]
                  cases rj with
                  | none => rfl
                  | some v => show some (AV.scrub m v) = some v; rw [scrub_free ((hp.resolve_left (by simp)) m rfl v rfl).1]
                · rw [if_neg h2, if_neg h2]
          · simp only [upd, frzs]; exact (lookσ1 i).symm
      · by_cases hLL : lateL fi fj = true
        · obtain ⟨had, hldj, l, a, lf, hsc, hada, hnr, hnl, hrf, half⟩ := lateL_spec hLL
          obtain ⟨a', hma, hsc2⟩ := hi.scf l hsc
          obtain rfl : a' = a := by rw [hi.adm, hma] at hada; exact (Option.some.inj hada)
          obtain rfl : zsj = [] := hj.rdo had
          obtain rfl : addj = none := by
            cases addj with
            | none => rfl
            | some p => have := (hj.adf p.1 p.2 rfl).1; rw [had] at this; cases this
          have hpu := hj.pure
          have hfr := hj.frf
          have hp : ∀ v, rj = some v → Free a' v ∧ ∀ x ∈ oj.op.operands.toList, Free a' (evE σ1.env x) := fun v hv => by
            obtain ⟨q1, q2⟩ := hj.rff lf hrf v hv
            exact ⟨.inr ⟨q1.1, fun i hi2 e => half (e ▸ q1.2 i hi2)⟩, fun x hx => .inr ⟨(q2 x hx).1, fun i hi2 e => half (e ▸ (q2 x hx).2 i hi2)⟩⟩
          have ev1 : ∀ v, rj = some v → ∀ z ∈ oj.op.operands.toList, evE σ.env z = evE σ1.env z := fun v hv z hz => by
            have h1 : evE σ1.env z = evE (scrubO mi σ.env) z := by rw [evE_congr envσ1 z, evE_setO fun t ht => apart_op a1 hz t ht]
            rw [h1]
            exact evE_of_scrub_free (.inr fun b hb => by
              rw [hma] at hb; cases hb
              rw [← h1]; exact (hp v hv).2 z hz)
          refine ⟨⟨setO σ.env oj.dst rj, σ.heap, 0⟩, .inl ⟨kj, rj, rdj, [], none, ?_⟩, .inr ⟨ki, vi, hi', mi, hi.adm, ?_, ?_, ?_, hi.wr, ⟨fun x hx id hid => hi.cl.1 x hx id (by rw [evE_setO fun t ht => apart_op a3 hx t ht] at hid; exact hid), hi.cl.2⟩, hi.dm, hi.scf⟩⟩
          · refine ⟨hj.guard.congr gj, fun v hv => ?_, fun _ => ⟨rfl, rfl⟩, hj.rdf, fun i hi' => (by cases hi'), fun id bx h => (by cases h), fun hk => ⟨(hpu hk).1, rfl, rfl, fun v hv => ⟨((hpu hk).2.2.2 v hv).1, fun z hz => by rw [ev1 v hv z hz]; exact ((hpu hk).2.2.2 v hv).2 z hz⟩⟩, Eqv.refl _, fun _ => rfl, fun h => (by obtain ⟨_, _, _, _, q, _⟩ := hfr h; cases q), fun l hl v hv => ⟨(hj.rff l hl v hv).1, fun z hz => by rw [ev1 v hv z hz]; exact (hj.rff l hl v hv).2 z hz⟩, hj.ldf⟩
            rcases hldj with hldj | hnil
            rotate_left
            · exact (hj.sem v hv).congr (ev1 v hv) fun i hr => by have := hj.rdf i hr; rw [hnil] at this; cases this
            refine NSem.late (h1 := σ1.heap) (a := a') (hj.ldf hldj) ((hj.sem v hv).congr (ev1 v hv) fun i _ => rfl) fun i hr => ?_
            have hr2 := hj.rdf i hr
            rw [lookσ1]
            exact hsc2 i (fun e => hnr (e ▸ hr2)) (hnl i hr2)
          · exact hi.guard.congr fun k w t hg ht b hb => by
              simp only [look_setO]; rw [if_neg (apart_guard a3 hg ht)]; exact hb
          · exact hi.sem.congr (fun z hz => evE_setO fun t ht => apart_op a3 hz t ht) (fun _ => rfl) (fun _ => rfl)
          · refine Eqv.trans ⟨fun t => ?_, fun i => ?_⟩ hj.eqv
            · simp only [look_setO, envσ1]
              by_cases h1 : oi.dst = some t
              · rw [if_pos h1, if_neg (dne t h1), if_pos h1]
              · rw [if_neg h1, if_neg h1]
                rw [hma]
                simp only [scrubO, look_scrubEnv, look_setO]
                by_cases h2 : oj.dst = some t
                · rw [if_pos h2, if_pos h2]
                  cases rj with
                  | none => rfl
                  | some v => show some (AV.scrub a' v) = some v; rw [scrub_free (hp v rfl).1]
                · rw [if_neg h2, if_neg h2]
            · simp only [upd, frzs]; exact (lookσ1 i).symm
        have hL : late fi fj = true := by
          unfold compat at hc
          rw [Bool.or_eq_true, Bool.or_eq_true] at hc
          exact (hc.resolve_right hLL).resolve_left hB
        unfold late at hL
        simp only [Bool.and_eq_true, decide_eq_true_eq, List.isEmpty_iff] at hL
        obtain ⟨⟨⟨⟨_, _⟩, hrd0⟩, hab⟩, hfr⟩ := hL
        obtain ⟨v, id, bx, rfl, rfl, q3, q4, q5⟩ := hj.frf hfr
        obtain rfl : zsj = [] := List.eq_nil_iff_forall_not_mem.2 fun i hi' => by have := hj.zsf i hi'; rw [hrd0] at this; cases this
        obtain rfl : rdj = [] := List.eq_nil_iff_forall_not_mem.2 fun i hi' => by have := hj.rdf i hi'; rw [hrd0] at this; cases this
        obtain ⟨ad1, ad2, ad3⟩ := hj.adf id bx rfl
        have hmid : ∀ m, mi = some m → id ≠ m := fun m e e2 => by
          rw [hi.adm, e, ad1, e2] at hab
          simp at hab
        have hk' : look hi' id = none := by rw [← lookσ1]; exact ad2
        have hk : look σ.heap id = none := by
          cases hl : look σ.heap id with
          | none => rfl
          | some e =>
            have := hi.dm id (by rw [hl]; rfl)
            rw [hk'] at this; cases this
        have ev1 : ∀ z ∈ oj.op.operands.toList, evE σ.env z = evE σ1.env z := fun z hz => by
          have h1 : evE σ1.env z = evE (scrubO mi σ.env) z := by rw [evE_congr envσ1 z, evE_setO fun t ht => apart_op a1 hz t ht]
          rw [h1]
          exact evE_of_scrub_pv (by rw [← h1]; exact q5 z hz)
        have ev2 : ∀ z ∈ oi.op.operands.toList, evE (setO σ.env oj.dst (some v)) z = evE σ.env z := fun z hz => evE_setO fun t ht => apart_op a3 hz t ht
        have vsc : ∀ m, mi = some m → v.scrub m = v := fun m e => AV.scrub_not fun i hi' e2 => hmid m e ((q4 i hi').symm.trans e2)
        refine ⟨⟨setO σ.env oj.dst (some v), put σ.heap id (bx, false), 0⟩, .inl ⟨kj, some v, [], [], some (id, bx), ?_⟩, .inr ⟨ki, vi, put hi' id (bx, false), mi, hi.adm, ?_, ?_, ?_, ?_, ?_, ?_, ?_⟩⟩
        · exact ⟨hj.guard.congr gj, fun v' hv => (hj.sem v' hv).congr ev1 (fun i hr => by cases hr), fun h => (by cases h), hj.rdf, hj.zsf, fun id' bx' h => (by cases h; exact ⟨ad1, hk, ad3⟩), fun hk0 => (by have := (hj.pure hk0).2.2.1; cases this), Eqv.refl _, hj.rdo, fun _ => ⟨v, id, bx, rfl, rfl, q3, q4, fun z hz => by rw [ev1 z hz]; exact q5 z hz⟩, fun l hl v' hv' => ⟨(hj.rff l hl v' hv').1, fun z hz => by rw [ev1 z hz]; exact (hj.rff l hl v' hv').2 z hz⟩, hj.ldf⟩
        · exact hi.guard.congr fun k w t hg ht b hb => by
            simp only [look_setO]; rw [if_neg (apart_guard a3 hg ht)]; exact hb
        · exact (hi.sem.frame hk hk' ad3 q3 hi.cl.1 hi.cl.2).congr ev2 (fun _ => rfl) (fun _ => rfl)
        · refine Eqv.trans ⟨fun t => ?_, fun i => ?_⟩ hj.eqv
          · simp only [look_setO, envσ1]
            by_cases h1 : oi.dst = some t
            · rw [if_pos h1, if_neg (dne t h1), if_pos h1]
            · rw [if_neg h1, if_neg h1]
              cases mi with
              | none => simp only [scrubO, look_setO]
              | some m =>
                simp only [scrubO, look_scrubEnv, look_setO]
                by_cases h2 : oj.dst = some t
                · rw [if_pos h2, if_pos h2]
                  show some (AV.scrub m v) = some v
                  rw [vsc m rfl]
                · rw [if_neg h2, if_neg h2]
          · simp only [upd, frzs, look_put, lookσ1]
        · intro h i hi2
          simp only [look_put]
          split
          · rfl
          · exact hi.wr h i hi2
        · refine ⟨fun x hx i hid => ?_, fun i b z hl j hj' => ?_⟩
          · rw [ev2 x hx] at hid
            have := hi.cl.1 x hx i hid
            simp only [look_put]
            split
            · rfl
            · exact this
          · simp only [look_put] at hl ⊢
            by_cases h1 : i = id
            · rw [if_pos h1] at hl
              simp only [Option.some.injEq, Prod.mk.injEq] at hl
              obtain ⟨rfl, rfl⟩ := hl
              rw [q3] at hj'; cases hj'
            · rw [if_neg h1] at hl
              have := hi.cl.2 i b z hl j hj'
              split
              · rfl
              · exact this
        · intro i h
          simp only [look_put] at h ⊢
          by_cases h1 : i = id
          · rw [if_pos h1]; rfl
          · rw [if_neg h1] at h ⊢; exact hi.dm i h
        · intro l hl
          obtain ⟨a, h1, h2⟩ := hi.scf l hl
          refine ⟨a, h1, fun i h3 h4 => ?_⟩
          simp only [look_put]
          by_cases h5 : i = id
          · rw [if_pos h5, if_pos h5]
            show some bx = some (bx.scrub a)
            rw [Bx.scrub_not fun j hj' => by rw [q3] at hj'; cases hj']
          · rw [if_neg h5, if_neg h5]; exact h2 i h3 h4
    · exfalso
      replace hc := compat_B hc (by omega)
      unfold compatB at hc
      have hi2 : ¬ fi.kind ≤ 1 := by omega
      have hi0 : ¬ fi.kind = 0 := by omega
      have hj0 : ¬ fj.kind = 0 := by omega
      have hj1 : ¬ fj.kind ≤ 1 := by omega
      simp [flIdle, hi2, hi0, hj0, hj1] at hc

/-! ### Whatever order is picked -/
def AnyD (X : Ctx) (ops : Array Oper) (fl : Nat → Fl) (K : AS → Prop) : Nat → Array Bool → AS → Prop
  | 0, listed, σ => Region.ready .any ops listed = [] ∧ K σ
  | n + 1, listed, σ => (Region.ready .any ops listed = [] → K σ) ∧ ∀ i ∈ Region.ready .any ops listed, ∃ o σ', ops[i]? = some o ∧ St X ops (fl i) o σ σ' ∧ AnyD X ops fl K n (listed.setIfInBounds i true) σ'
def dep (ops : Array Oper) : Nat → Nat → Nat → Bool
  | 0, _, _ => false
  | n + 1, j, i => (match ops[j]? with | some o => o.after.any fun e => Region.binds .any e && (e.on == i || dep ops n e.on i) | none => false)
def Closed (ops : Array Oper) (listed : Array Bool) : Prop := ∀ (j : Nat) o, listed.getD j false = true → ops[j]? = some o → ∀ e ∈ o.after, Region.binds .any e = true → listed.getD e.on false = true
theorem dep_listed {ops : Array Oper} {listed : Array Bool} (hc : Closed ops listed) {i : Nat} : ∀ (n j : Nat), (∀ o, ops[j]? = some o → ∀ e ∈ o.after, Region.binds .any e = true → listed.getD e.on false = true) → dep ops n j i = true → listed.getD i false = true
  | 0, j, _, h => by cases h
  | n + 1, j, hj, h => by
    simp only [dep] at h
    split at h
    · rename_i o ho
      rw [← Array.any_toList, List.any_eq_true] at h
      obtain ⟨e, he', hb⟩ := h
      have he : e ∈ o.after := by simpa using he'
      simp only [Bool.and_eq_true, Bool.or_eq_true, beq_iff_eq] at hb
      have hl := hj o ho e he hb.1
      rcases hb.2 with rfl | hd
      · exact hl
      · exact dep_listed hc n e.on (fun o' ho' e' he' hb' => hc e.on o' hl ho' e' he' hb') hd
    · cases h
theorem Closed.add {ops : Array Oper} {listed : Array Bool} (hc : Closed ops listed) {j : Nat} (hr : j ∈ Region.ready .any ops listed) : Closed ops (listed.setIfInBounds j true) := by
  intro k o hk ho e he hb
  obtain ⟨_, oj, hoj, hall⟩ := mem_ready.1 hr
  by_cases hkj : j = k
  · subst hkj
    rw [hoj] at ho
    obtain rfl := Option.some.inj ho
    exact getD_set_true (hall e he hb)
  · rw [getD_set_ne false hkj] at hk
    exact getD_set_true (hc k o hk ho e he hb)
theorem anyD_first {X : Ctx} {ops : Array Oper} {fl : Nat → Fl} {K : AS → Prop} {i m : Nat} {oi : Oper} (hi : ops[i]? = some oi) : ∀ (n : Nat) (listed : Array Bool) (σ σ1 : AS), Closed ops listed →
    (∀ (j : Nat) oj, ops[j]? = some oj → j ≠ i → listed.getD j true = false → dep ops m j i = true ∨ (oi.apart ops oj = true ∧ compat (fl i) (fl j) = true)) →
    i ∈ Region.ready .any ops listed → St X ops (fl i) oi σ σ1 → AnyD X ops fl K n (listed.setIfInBounds i true) σ1 → AnyD X ops fl K (n + 1) listed σ := by
  intro n
  induction n with
  | zero =>
    intro listed σ σ1 hc hfree hr hs H
    refine ⟨fun h => (by rw [h] at hr; cases hr), fun j hj => ?_⟩
    by_cases hji : j = i
    · subst hji; exact ⟨oi, σ1, hi, hs, H⟩
    · have := ready_mono hj hji
      rw [H.1] at this; cases this
  | succ n ih =>
    intro listed σ σ1 hc hfree hr hs H
    refine ⟨fun h => (by rw [h] at hr; cases hr), fun j hj => ?_⟩
    by_cases hji : j = i
    · subst hji; exact ⟨oi, σ1, hi, hs, H⟩
    · obtain ⟨oj, σ12, hoj, hsj, H2⟩ := H.2 j (ready_mono hj hji)
      obtain ⟨hjun, oj', hoj', hall⟩ := mem_ready.1 hj
      rw [hoj] at hoj'
      obtain rfl := Option.some.inj hoj'
      have hiun := (mem_ready.1 hr).1
      rcases hfree j oj hoj hji hjun with hd | ⟨hap, hcp⟩
      · have := dep_listed hc m j (fun o ho e he hb => by rw [hoj] at ho; obtain rfl := Option.some.inj ho; exact hall e he hb) hd
        exfalso
        rcases Nat.lt_or_ge i listed.size with h' | h'
        · simp [h'] at this hiun; rw [this] at hiun; cases hiun
        · simp [Array.getElem?_eq_none h'] at hiun
      · obtain ⟨σ2, hj2, hi2⟩ := exchange hap hcp hs hsj
        refine ⟨oj, σ2, hoj, hj2, ih (listed.setIfInBounds j true) σ2 σ12 (hc.add hj) (fun k ok hk hki hun => hfree k ok hk hki ?_) (ready_mono hr (Ne.symm hji)) hi2 ?_⟩
        · by_cases hjk : j = k
          · subst hjk; exact hjun
          · rw [getD_set_ne true hjk] at hun; exact hun
        · rw [Array.setIfInBounds_comm _ _ hji]; exact H2
def LexD (X : Ctx) (ops : Array Oper) (fl : Nat → Fl) (K : AS → Prop) : List Oper → Nat → AS → Prop
  | [], _, σ => K σ
  | o :: l, k, σ => ∃ σ', St X ops (fl k) o σ σ' ∧ LexD X ops fl K l (k + 1) σ'
def pairsOk (ops : Array Oper) (fls : List Fl) : Bool :=
  (List.range ops.size).all fun i => (List.range ops.size).all fun j => decide (j ≤ i) || dep ops ops.size j i ||
    (match ops[i]?, ops[j]?, fls[i]?, fls[j]? with | some oi, some oj, some fi, some fj => oi.apart ops oj && compat fi fj | _, _, _, _ => false)
def orderOk (ops : Array Oper) : Bool := (List.range ops.size).all fun k => (match ops[k]? with | some o => o.after.all fun e => !Region.binds .any e || decide (e.on < k) | none => true)
def flOf (fls : List Fl) (i : Nat) : Fl := fls.getD i ⟨2, [], none, false, none, false, none⟩
theorem lexD_any {X : Ctx} {ops : Array Oper} {fls : List Fl} {K : AS → Prop} (ho : orderOk ops = true) (hp : pairsOk ops fls = true) : ∀ (l : List Oper) (k : Nat) (listed : Array Bool) (σ : AS), (∀ j, l[j]? = ops[k + j]?) → listed.size = ops.size → (∀ j, j < ops.size → listed.getD j true = decide (j < k)) →
    LexD X ops (flOf fls) K l k σ → AnyD X ops (flOf fls) K l.length listed σ
  | [], k, listed, σ, hl, hs, hL, h => by
    refine ⟨?_, h⟩
    apply List.eq_nil_iff_forall_not_mem.2
    intro j hj
    obtain ⟨h1, o, h2, _⟩ := mem_ready.1 hj
    have hj2 : j < ops.size := (Array.getElem?_eq_some_iff.1 h2).1
    have hk : ¬ k < ops.size := fun hk => by
      have := hl 0
      rw [Nat.add_zero, Array.getElem?_eq_getElem hk] at this
      simp at this
    rw [hL j hj2] at h1
    simp at h1
    omega
  | o :: l, k, listed, σ, hl, hs, hL, h => by
    obtain ⟨σ', hst, hrest⟩ := h
    have h0 : ops[k]? = some o := by simpa using (hl 0).symm
    have hk : k < ops.size := (Array.getElem?_eq_some_iff.1 h0).1
    have hLf : ∀ j, j < ops.size → listed.getD j false = decide (j < k) := fun j hj => by
      have := hL j hj
      rw [Array.getD_eq_getD_getElem?, Array.getElem?_eq_getElem (by omega)] at this ⊢
      exact this
    have hord := List.all_eq_true.1 ho
    have hcl : Closed ops listed := fun j oj hj hoj e he hb => by
      have hjs : j < ops.size := (Array.getElem?_eq_some_iff.1 hoj).1
      rw [hLf j hjs] at hj
      have hjk : j < k := by simpa using hj
      have := hord j (List.mem_range.2 hjs)
      rw [hoj] at this
      simp only [Array.all_eq_true_iff_forall_mem, Bool.or_eq_true, Bool.not_eq_true', decide_eq_true_eq] at this
      have h3 : e.on < j := (this e he).resolve_left (by simp [hb])
      rw [hLf e.on (by omega)]
      simp; omega
    have hready : k ∈ Region.ready .any ops listed := mem_ready.2 ⟨by rw [hL k hk]; simp, o, h0, fun e he hb => by
      have := hord k (List.mem_range.2 hk)
      rw [h0] at this
      simp only [Array.all_eq_true_iff_forall_mem, Bool.or_eq_true, Bool.not_eq_true', decide_eq_true_eq] at this
      have h3 : e.on < k := (this e he).resolve_left (by simp [hb])
      rw [hLf e.on (by omega)]
      simpa using h3⟩
    refine anyD_first (m := ops.size) h0 l.length listed σ σ' hcl (fun j oj hoj hjk hun => ?_) hready hst (lexD_any ho hp l (k + 1) _ σ' (fun j => by have := hl (j + 1); simpa [Nat.add_assoc, Nat.add_comm 1 j] using this) (by simpa using hs) (fun j hj => ?_) hrest)
    · have hjs : j < ops.size := (Array.getElem?_eq_some_iff.1 hoj).1
      rw [hL j hjs] at hun
      have hkj : ¬ j < k := by simpa using hun
      have := List.all_eq_true.1 (List.all_eq_true.1 hp k (List.mem_range.2 hk)) j (List.mem_range.2 hjs)
      simp only [Bool.or_eq_true, decide_eq_true_eq] at this
      rcases this with (h1 | h1) | h1
      · omega
      · exact .inl h1
      · rw [h0, hoj] at h1
        split at h1
        · rename_i oi oj' fi fj e1 e2 e3 e4
          cases e1; cases e2
          rw [Bool.and_eq_true] at h1
          refine .inr ⟨h1.1, ?_⟩
          unfold flOf
          rw [List.getD_eq_getElem?_getD, List.getD_eq_getElem?_getD, e3, e4]
          exact h1.2
        · cases h1
    · by_cases hjk : k = j
      · subst hjk; simp [hs, hk]
      · rw [getD_set_ne true hjk, hL j hj]
        congr 1
        apply propext
        omega

/-! ### The region -/
theorem st_wp {X : Ctx} {F : Fr} {N : Nat} {ops : Array Oper} {f : Fl} {o : Oper} {σ σ' : AS} {a : Act} {w : World} (hdo : ∀ t, o.dst = some t → t < N) (r : RelS X F N σ a w) (hst : St X ops f o σ σ') (next : Act → World → Prop) (Q : Exit → Act → World → Prop) (hn : ∀ a' w', RelS X F N σ' a' w' → next a' w') :
    if Region.wanted o (yielded ops a.tmps) = true then o.wp X.P a w next Q else next (a.put o.dst undef) w := by
  obtain ⟨β, r⟩ := r
  have wantT : gOk ops o σ.env true → Region.wanted o (yielded ops a.tmps) = true := fun hg => by
    unfold gOk at hg
    split at hg
    · rename_i hgn; simp [Region.wanted, hgn]
    · rename_i j w hgs
      obtain ⟨t, ht, hl⟩ := hg
      rcases hl with hl | ⟨hl, _⟩
      · rw [wanted_of r hgs ht hl]; simp
      · cases hl
  have wantF : gOk ops o σ.env false → Region.wanted o (yielded ops a.tmps) = false := fun hg => by
    unfold gOk at hg
    split at hg
    · cases hg
    · rename_i j w hgs
      obtain ⟨t, ht, hl⟩ := hg
      rcases hl with hl | ⟨_, hl⟩
      · rw [wanted_of r hgs ht hl]; cases w <;> rfl
      · exact wanted_un r hgs ht hl
  rcases hst with ⟨hk, rv, rd, zs, add, hst⟩ | ⟨hk, v, h', m, hst⟩
  · cases rv with
    | some v =>
      rw [if_pos (wantT hst.guard)]
      refine op_step r hdo (ef := .n rd zs add) (v := v) (nx := 0) (hst.sem v rfl) (fun rd' zs' id bx e => by cases e; exact (hst.adf id bx rfl).2) _ Q fun a' w' r' => hn a' w' (r'.congr ?_)
      refine Eqv.trans (σ := σ.fin o.dst (.n rd zs add) v 0) ?_ hst.eqv
      refine ⟨fun t => ?_, fun i => rfl⟩
      simp only [AS.fin, putO, setO]
      cases o.dst <;> rfl
    | none =>
      rw [if_neg (by rw [wantF hst.guard]; simp)]
      obtain ⟨rfl, rfl⟩ := hst.idle rfl
      refine hn _ _ (RelS.congr ?_ ⟨β, r.drop o.dst hdo⟩)
      refine Eqv.trans (σ := ⟨delO σ.env o.dst, σ.heap, σ.nx⟩) ?_ hst.eqv
      refine ⟨fun t => ?_, fun i => rfl⟩
      simp only [delO, setO]
      cases o.dst <;> rfl
  · rw [if_pos (wantT hst.guard)]
    refine op_step r hdo (ef := .e h' m) (v := v) (nx := 0) hst.sem (fun rd' zs' id bx e => by cases e) _ Q fun a' w' r' => hn a' w' (r'.congr ?_)
    refine Eqv.trans (σ := σ.fin o.dst (.e h' m) v 0) ?_ hst.eqv
    refine ⟨fun t => ?_, fun i => ?_⟩
    · cases m <;> simp only [AS.fin, putO, setO, scrubO] <;> cases o.dst <;> rfl
    · cases m <;> rfl
theorem anyD_sound {X : Ctx} {F : Fr} {N : Nat} {ops : Array Oper} {fl : Nat → Fl} {K : AS → Prop} {Q : Exit → Act → World → Prop} (hd : dstOk N ops.toList = true) (hK : ∀ σ a w, K σ → RelS X F N σ a w → Q .normal a w) : ∀ (n : Nat) (listed : Array Bool) (σ : AS) (a : Act) (w : World), RelS X F N σ a w → AnyD X ops fl K n listed σ → wpAny X.P .any ops Q n listed a w
  | 0, listed, σ, a, w, r, h => ⟨h.1, hK σ a w h.2 r⟩
  | n + 1, listed, σ, a, w, r, h => by
    refine ⟨fun h0 => hK σ a w (h.1 h0) r, fun i hi => ?_⟩
    obtain ⟨o, σ', ho, hst, hrest⟩ := h.2 i hi
    have hdo : ∀ t, o.dst = some t → t < N := fun t ht => by
      have := List.all_eq_true.1 hd o (by simpa using Array.mem_of_getElem? ho)
      rw [ht] at this; simpa using this
    have := st_wp hdo r hst (wpAny X.P .any ops Q n (listed.setIfInBounds i true)) Q fun a' w' r' => anyD_sound hd hK n _ σ' a' w' r' hrest
    unfold wpOp
    rw [ho]
    show if _ then _ else _
    split at this
    · rename_i hw; rw [if_pos hw]; exact .inl this
    · rename_i hw; rw [if_neg hw]; exact this
/-- What an operation comes to is there. -/
theorem wp_ex {P : Program} {o : Oper} {a : Act} {w : World} {next : Act → World → Prop} (h : o.wp P a w next fun _ _ _ => False) : ∃ a' w', next a' w' := by
  unfold Oper.wp at h
  generalize (execOp a.eval o).run P w = r at h
  cases r with
  | ok n w' =>
    cases n <;> simp only [Oper.upon] at h
    case value => exact ⟨_, _, h⟩
    case skip => exact ⟨_, _, h⟩
    case defer => exact ⟨_, _, h⟩
    case enter f args =>
      obtain ⟨e, w'', fr, hR, _⟩ := h []
      cases e with
      | returned v => exact ⟨_, _, hR⟩
      | panicked c => exact hR.elim
      | outgrown => obtain ⟨_, _, hf⟩ := hR; exact hf.elim
    case row row args =>
      obtain ⟨v, w'', hR, _⟩ := h default []
      exact ⟨_, _, hR⟩
  | halt x w' => cases x <;> simp only [Oper.upon] at h
theorem st_ex {X : Ctx} {F : Fr} {N : Nat} {ops : Array Oper} {f : Fl} {o : Oper} {σ σ' : AS} {a : Act} {w : World} (hdo : ∀ t, o.dst = some t → t < N) (r : RelS X F N σ a w) (hst : St X ops f o σ σ') : ∃ a' w', RelS X F N σ' a' w' := by
  have := st_wp hdo r hst (fun a' w' => RelS X F N σ' a' w') (fun _ _ _ => False) fun a' w' h => h
  split at this
  · exact wp_ex this
  · exact ⟨_, _, this⟩
theorem RelS.drew {X : Ctx} {F : Fr} {N : Nat} {σ : AS} {a : Act} {w : World} (r : RelS X F N σ a w) : RelS X F N σ a { w with drawn := w.drawn + 1 } := by
  obtain ⟨β, r⟩ := r
  have p := Post.ext (w' := w.drewN 1) r.h ⟨rfl, rfl, rfl, Nat.le_refl _, fun _ _ => rfl⟩
  exact ⟨β, p.rel, r.defers, r.size, fun t v hl => by
    obtain ⟨⟨u, hu, hr⟩, h2⟩ := r.env t v hl
    exact ⟨⟨u, hu, p.keep.repV (fun id hid => ⟨h2 id hid, by simp⟩) hr⟩, h2⟩⟩
def adO (zs : List Nat) (add : Option (Nat × Bx)) : Option Nat := match add with | some p => some p.1 | none => if zs.isEmpty then none else some 1000000
/-- The box that an operation writes into, if it's known. -/
def wrO (op : Op) (ρ : Operand → AV) : List Nat := match op with | .store _ a _ => (match ρ a with | .one (.ptr id _) => [id] | _ => []) | op => obO op ρ
def Bx.clean : Bx → Bool
  | .pu _ _ => true
  | .mx cs => cs.all AC.clean
  | .ob cs => cs.all AC.clean
/-- The boxes that are told in part only. -/
def anyIds : Hp → List Nat
  | [] => []
  | (i, (bx, _)) :: h => if bx.clean = true then anyIds h else i :: anyIds h
def isApp : Op → Bool
  | .call c => (match c.callee with | .builtin .append => true | _ => false)
  | _ => false
/-- .. or what an append moves, and what named it. -/
def wrE (op : Op) (ρ : Operand → AV) (h' : Hp) (m : Option Nat) : List Nat := if isApp op = true then (match m with | some a => a :: anyIds h' | none => []) else wrO op ρ
/-- The boxes that what moves one may change otherwise than by forgetting it, if they are known. -/
def scO (op : Op) (ρ : Operand → AV) (m : Option Nat) : Option (List Nat) := match op with
  | .call c => (match m with
    | none => none
    | some _ => (match c.callee with
      | .builtin .append => some []
      | .value _ => some ((c.args.toList.map ρ).flatMap AV.refs)
      | _ => none))
  | _ => none
/-- The boxes that an operation's values name, if all of them are told. -/
def rfO (env : List (Nat × AV)) (op : Op) (v : AV) : Option (List Nat) :=
  if v.clean = true ∧ (op.operands.toList.all fun x => (evE env x).clean) = true then some (v.refs ++ op.operands.toList.flatMap fun x => (evE env x).refs) else none
theorem rfO_spec {env : List (Nat × AV)} {op : Op} {v : AV} {l : List Nat} (h : rfO env op v = some l) : (v.clean = true ∧ ∀ i ∈ v.refs, i ∈ l) ∧ ∀ x ∈ op.operands.toList, (evE env x).clean = true ∧ ∀ i ∈ (evE env x).refs, i ∈ l := by
  unfold rfO at h
  split at h
  · rename_i hc
    simp only [Option.some.injEq] at h
    subst h
    exact ⟨⟨hc.1, fun i hi => List.mem_append.2 (.inl hi)⟩, fun x hx => ⟨List.all_eq_true.1 hc.2 x hx, fun i hi => List.mem_append.2 (.inr (List.mem_flatMap.2 ⟨x, hx, hi⟩))⟩⟩
  · cases h
theorem anyIds_not {i : Nat} : ∀ {h : Hp} {bx : Bx} {z : Bool}, i ∉ anyIds h → look h i = some (bx, z) → bx.clean = true
  | (k, (bx', z')) :: h, bx, z, hn, hl => by
    unfold anyIds at hn
    simp only [look] at hl
    by_cases hk : i = k
    · subst hk
      simp only [if_true, Option.some.injEq, Prod.mk.injEq] at hl
      obtain ⟨rfl, rfl⟩ := hl
      by_cases hc : bx'.clean = true
      · exact hc
      · rw [if_neg hc] at hn; simp at hn
    · rw [if_neg hk] at hl
      refine anyIds_not (h := h) (fun hm => hn ?_) hl
      split
      · exact hm
      · exact List.mem_cons_of_mem _ hm
theorem Bx.of_scrub_clean {m : Nat} {bx : Bx} (h : (bx.scrub m).clean = true) : bx.scrub m = bx := by
  cases bx with
  | pu e l => rfl
  | mx cs => exact congrArg Bx.mx (map_of_scrub_clean h)
  | ob cs => exact congrArg Bx.ob (map_of_scrub_clean h)
theorem app_wr {h h0 : Hp} {id : Nat} {e : Bx × Bool} (h0e : ∀ i, i ≠ id → (look h0 i).map (·.1) = (look h i).map (·.1)) {i : Nat} (hi : i ∉ id :: anyIds (put (scrubH id h0) id e)) : (look (put (scrubH id h0) id e) i).map (·.1) = (look h i).map (·.1) := by
  simp only [List.mem_cons, not_or] at hi
  rw [← h0e i hi.1]
  have hl : look (put (scrubH id h0) id e) i = (look h0 i).map fun e => (e.1.scrub id, e.2) := by rw [look_put, if_neg hi.1, look_scrubH]
  cases hq : look h0 i with
  | none => rw [hl, hq]; rfl
  | some q =>
    rw [hq] at hl
    have hc := anyIds_not hi.2 hl
    rw [hl]
    simp only [Option.map_some, Option.some.injEq]
    exact Bx.of_scrub_clean hc
def frO (env : List (Nat × AV)) (op : Op) (v : AV) : Option (Nat × Bx) → Bool
  | some (id, bx) => (acRefs bx.cells).isEmpty && v.refs.all (fun i => i == id) && op.operands.toList.all fun x => (evE env x).isPv
  | none => false
def flagOf (env : List (Nat × AV)) (o : Oper) (v : AV) : Ef → Fl
  | .n rd zs add => if rd.isEmpty = true ∧ zs.isEmpty = true ∧ add.isNone = true ∧ v.isPv = true ∧ (o.op.operands.toList.all fun x => (evE env x).isPv) = true then ⟨0, [], none, false, none, false, none⟩ else ⟨1, rd ++ zs, adO zs add, frO env o.op v add, rfO env o.op v, isLd o.op, none⟩
  | .e h' m => ⟨2, wrE o.op (evE env) h' m, m, false, none, false, scO o.op (evE env) m⟩
theorem look_frzs_fst' {h : Hp} {zs : List Nat} {i : Nat} : (look (frzs h zs) i).map (·.1) = (look h i).map (·.1) := look_frzs_fst ..
theorem viewC1_mono {h : Hp} {c : AC} {K K' : PV → List Nat → Prop} (m : ∀ p ids, K p ids → K' p ids) (hv : viewC1 h c K) : viewC1 h c K' := by
  cases c with
  | pv p => cases p <;> exact m _ _ hv
  | own id sz n =>
    simp only [viewC1] at hv ⊢
    split at hv
    · exact ⟨hv.1, m _ _ hv.2⟩
    · exact hv.elim
  | sub id sz off n =>
    simp only [viewC1] at hv ⊢
    split at hv
    · exact ⟨hv.1, m _ _ hv.2⟩
    · exact hv.elim
  | _ => exact hv.elim
theorem viewL1_mono {h : Hp} : ∀ {cs : List AC} {K K' : List PV → List Nat → Prop}, (∀ p ids, K p ids → K' p ids) → viewL1 h cs K → viewL1 h cs K'
  | [], _, _, m, hv => m _ _ hv
  | _ :: _, _, _, m, hv => viewC1_mono (fun _ _ h => viewL1_mono (fun _ _ h => m _ _ h) h) hv
theorem viewC_mono {h : Hp} {c : AC} {K K' : PV → List Nat → Prop} (m : ∀ p ids, K p ids → K' p ids) (hv : viewC h c K) : viewC h c K' := by
  cases c with
  | ptr id off =>
    simp only [viewC] at hv ⊢
    split at hv
    · exact m _ _ hv
    · exact viewL1_mono (fun _ _ h => m _ _ h) hv
    · exact hv.elim
    · exact hv.elim
  | _ => (simp only [viewC] at hv ⊢; exact viewC1_mono m hv)
theorem viewCap_mono {h : Hp} {c : Cap} {K K' : PV → List Nat → Prop} (m : ∀ p ids, K p ids → K' p ids) (hv : viewCap h c K) : viewCap h c K' := by
  cases c with
  | pv p => exact m _ _ hv
  | ptr id off => (simp only [viewCap] at hv ⊢; exact viewC_mono m hv)
theorem viewCaps_mono {h : Hp} : ∀ {cs : List Cap} {K K' : List PV → List Nat → Prop}, (∀ p ids, K p ids → K' p ids) → viewCaps h cs K → viewCaps h cs K'
  | [], _, _, m, hv => m _ _ hv
  | _ :: _, _, _, m, hv => viewCap_mono (fun _ _ h => viewCaps_mono (fun _ _ h => m _ _ h) h) hv
theorem viewA_mono {h : Hp} {x : AV} {K K' : PA → List Nat → Prop} (m : ∀ p ids, K p ids → K' p ids) (hv : viewA h x K) : viewA h x K' := by
  unfold viewA at hv ⊢
  split at hv
  · exact viewCaps_mono (fun _ _ h => m _ _ h) hv
  · exact viewC_mono (fun _ _ h => m _ _ h) hv
  · exact viewL1_mono (fun _ _ h => m _ _ h) hv
  · exact hv.elim
theorem viewX_mono {h : Hp} {x : AV} {K K' : List PV → List Nat → Prop} (m : ∀ p ids, K p ids → K' p ids) (hv : viewX h x K) : viewX h x K' := by
  unfold viewX at hv ⊢
  refine viewA_mono (fun p ids h => ?_) hv
  cases p <;> first | exact m _ _ h | exact h
theorem app_sc {h h0 : Hp} {id : Nat} {e : Bx × Bool} (h0e : ∀ i, i ≠ id → (look h0 i).map (·.1) = (look h i).map (·.1)) {i : Nat} (hi : i ≠ id) : (look (put (scrubH id h0) id e) i).map (·.1) = (look h i).map fun e => e.1.scrub id := by
  have h1 := h0e i hi
  rw [look_put, if_neg hi, look_scrubH]
  cases hq : look h0 i <;> cases hp : look h i <;> rw [hq, hp] at h1
  · rfl
  · cases h1
  · cases h1
  · simp only [Option.map_some, Option.some.injEq] at h1 ⊢
    rw [h1]
def appP (h h' : Hp) (i : Nat) : Prop := (∀ j, j ∉ i :: anyIds h' → (look h' j).map (·.1) = (look h j).map (·.1)) ∧ ∀ j, j ≠ i → (look h' j).map (·.1) = (look h j).map fun e => e.1.scrub i
theorem appP_of {h h0 : Hp} {id : Nat} {e : Bx × Bool} (h0e : ∀ i, i ≠ id → (look h0 i).map (·.1) = (look h i).map (·.1)) : appP h (put (scrubH id h0) id e) id := ⟨fun j hj => app_wr h0e hj, fun j hj => app_sc h0e hj⟩
theorem evAppend_mono {X : Ctx} {t : TypeId} {a x : AV} {h : Hp} {nx : Nat} {K K' : Hp → Nat → AV → Nat → Prop} (m : ∀ h' i v n, appP h h' i → K h' i v n → K' h' i v n) (hv : evAppend X t a x h nx K) : evAppend X t a x h nx K' := by
  unfold evAppend at hv ⊢
  split at hv
  · rename_i e _ _ _ hT
    split at hv
    · rename_i S B z hT2
      refine ⟨hv.1, hv.2.1, hv.2.2.1, ?_⟩
      have hv := hv.2.2.2
      unfold viewApp at hv ⊢
      split at hv
      · exact hv.elim
      · refine viewC_mono (fun p ids hk => ?_) hv
        split at hk
        · rename_i n cells
          refine ⟨hk.1, ?_⟩
          replace hk := hk.2
          split at hk
          · rename_i id sz q
            refine ⟨hk.1, ?_⟩
            replace hk := hk.2
            unfold evAppOwn at hk ⊢
            split at hk
            · exact ⟨hk.1, hk.2.1, hk.2.2.1, hk.2.2.2.1, hk.2.2.2.2.1, m _ _ _ _ (appP_of (h0 := frzs h ids) fun i _ => look_frzs_fst ids h i) hk.2.2.2.2.2⟩
            · exact hk.elim
          · refine ⟨hk.1, ?_⟩
            replace hk := hk.2
            unfold evAppOwn at hk ⊢
            split at hk
            · exact ⟨hk.1, hk.2.1, hk.2.2.1, hk.2.2.2.1, hk.2.2.2.2.1, m _ _ _ _ (appP_of (h0 := frzs (put h nx (.pu e [], false)) ids) fun i hi => by rw [look_frzs_fst, look_put, if_neg hi]) hk.2.2.2.2.2⟩
            · exact hk.elim
          · exact hk.elim
        · exact hk.elim
      · exact hv.elim
    · exact hv.elim
  · exact hv.elim
theorem evAppStr_mono {X : Ctx} {t t' : TypeId} {a x : AV} {h : Hp} {K K' : Hp → Nat → AV → Prop} (m : ∀ h' i v, appP h h' i → K h' i v → K' h' i v) (hv : evAppStr X t t' a x h K) : evAppStr X t t' a x h K' := by
  unfold evAppStr at hv ⊢
  split at hv
  · rename_i e _ _ _ _ _ _ hT hT'
    split at hv
    · rename_i hT2
      split at hv
      · rename_i id sz q bs
        refine ⟨hv.1, ?_⟩
        replace hv := hv.2
        split at hv
        · rename_i e' l hl
          exact ⟨hv.1, hv.2.1, hv.2.2.1, hv.2.2.2.1, m _ _ _ (appP_of (h0 := h) fun i _ => rfl) hv.2.2.2.2⟩
        · exact hv.elim
      · exact hv.elim
    · exact hv.elim
  · exact hv.elim
theorem evAppOO_mono {X : Ctx} {t : TypeId} {a x : AV} {h : Hp} {K K' : Hp → Nat → AV → Prop} (m : ∀ h' i v, appP h h' i → K h' i v → K' h' i v) (hv : evAppOO X t a x h K) : evAppOO X t a x h K' := by
  unfold evAppOO at hv ⊢
  split at hv
  · split at hv
    · refine ⟨hv.1, hv.2.1, hv.2.2.1, ?_⟩
      replace hv := hv.2.2.2
      split at hv
      · refine ⟨hv.1, hv.2.1, ?_⟩
        replace hv := hv.2.2
        split at hv
        · exact ⟨hv.1, hv.2.1, hv.2.2.1, hv.2.2.2.1, hv.2.2.2.2.1, m _ _ _ (appP_of (h0 := h) fun i _ => rfl) hv.2.2.2.2.2⟩
        · exact hv.elim
      · exact hv.elim
    · exact hv.elim
  · exact hv.elim
theorem evOp_wr {X : Ctx} {o : Oper} {ρ : Operand → AV} {h : Hp} {nx : Nat} {K : Ef → AV → Nat → Prop} (hv : evOp X o ρ h nx K) :
    evOp X o ρ h nx fun ef v n => K ef v n ∧ (∀ h' m, ef = .e h' m → wrE o.op ρ h' m ≠ [] → ∀ i, i ∉ wrE o.op ρ h' m → (look h' i).map (·.1) = (look h i).map (·.1)) := by
  by_cases hw : ∀ h' m, wrE o.op ρ h' m = []
  · have : K = fun ef v n => K ef v n ∧ (∀ h' m, ef = .e h' m → wrE o.op ρ h' m ≠ [] → ∀ i, i ∉ wrE o.op ρ h' m → (look h' i).map (·.1) = (look h i).map (·.1)) := by
      funext ef v n
      exact propext ⟨fun hk => ⟨hk, fun h' m _ h => absurd (hw h' m) h⟩, fun hk => hk.1⟩
    rw [← this]; exact hv
  · unfold wrE wrO at hw ⊢
    unfold evOp at hv ⊢
    cases ho : o.op with
    | store t a x =>
      rw [ho] at hv hw
      simp only [isApp, Bool.false_eq_true, if_false] at hv hw ⊢
      split at hv
      · rename_i id off ha
        simp only [ha]
        unfold evStore at hv ⊢
        split at hv
        · rename_i T cs h1 h2
          split at hv
          · rename_i ds h3
            exact ⟨hv.1, hv.2.1, hv.2.2, fun h' m e _ i hi => by
              cases e
              rw [look_put, if_neg (by simpa using hi)]⟩
          · exact hv.elim
        · rename_i T e l h1 h2
          refine viewX_mono (fun ps ids hk => ⟨hk.1, hk.2.1, hk.2.2.1, hk.2.2.2, fun h' m e _ i hi => ?_⟩) hv
          cases e
          rw [look_put, if_neg (by simpa using hi), look_frzs_fst]
        · exact hv.elim
      · exact hv.elim
    | call c =>
      rw [ho] at hv hw
      simp only [isApp] at hv hw ⊢
      split at hv
      · rename_i f hc; simp only [hc, Bool.false_eq_true, if_false, obO] at hw; exact absurd (fun _ _ => trivial) hw
      · rename_i hc
        simp only [hc, if_true] at hw ⊢
        split at hv
        · rename_i s x t t' h1 h2
          rcases hv with hv | hv | hv
          · exact .inl ⟨hv.1, evAppend_mono (fun h' i v n hP hK => ⟨hK, fun h2' m e _ j hj => by cases e; exact hP.1 j hj⟩) hv.2⟩
          · exact .inr (.inl (evAppStr_mono (fun h' i v hP hK => ⟨hK, fun h2' m e _ j hj => by cases e; exact hP.1 j hj⟩) hv))
          · exact .inr (.inr ⟨hv.1, evAppOO_mono (fun h' i v hP hK => ⟨hK, fun h2' m e _ j hj => by cases e; exact hP.1 j hj⟩) hv.2⟩)
        · exact hv.elim
      · rename_i hc; simp only [hc, Bool.false_eq_true, if_false, obO] at hw; exact absurd (fun _ _ => trivial) hw
      · rename_i hc; simp only [hc, Bool.false_eq_true, if_false, obO] at hw; exact absurd (fun _ _ => trivial) hw
      · rename_i h1 h2 _ _
        have hn : (match c.callee with | .builtin .append => true | _ => false) = false := by
          cases hc : c.callee with
          | builtin b => cases b <;> first | rfl | exact absurd hc h2
          | _ => rfl
        exact absurd (fun _ _ => by simp only [Bool.false_eq_true, if_false, obO]) hw
    | mapUpdate t m k x =>
      rw [ho] at hv hw
      simp only [isApp, Bool.false_eq_true, if_false] at hv hw ⊢
      obtain ⟨ef, v, nx', hs, hK⟩ := hv
      exact ⟨ef, v, nx', hs, hK, fun h' m he hne i hi => hs.wr h' m he hne i hi⟩
    | _ => rw [ho] at hw; exact absurd (fun _ _ => rfl) hw
theorem viewAs_mono {h : Hp} : ∀ {xs : List AV} {K K' : List PA → List Nat → Prop}, (∀ ps ids, K ps ids → K' ps ids) → viewAs h xs K → viewAs h xs K'
  | [], _, _, m, hv => m _ _ hv
  | _ :: _, _, _, m, hv => viewA_mono (fun _ _ h => viewAs_mono (fun _ _ h => m _ _ h) h) hv
theorem evCall_mono {X : Ctx} {fv : AV} {args : List AV} {h : Hp} {K K' : List Nat → List Nat → AV → Prop} (m : ∀ rd zs v, K rd zs v → K' rd zs v) (hv : evCall X fv args h K) : evCall X fv args h K' := by
  unfold evCall at hv ⊢
  split at hv
  · exact viewAs_mono (fun ps ids ⟨res, h1, h2⟩ => ⟨res, h1, m _ _ _ h2⟩) hv
  · exact viewAs_mono (fun ps ids h => viewCaps_mono (fun cs ids' ⟨res, h1, h2⟩ => ⟨res, h1, m _ _ _ h2⟩) h) hv
  · exact hv.elim
theorem evOp_sc {X : Ctx} {o : Oper} {ρ : Operand → AV} {h : Hp} {nx : Nat} {K : Ef → AV → Nat → Prop} (hv : evOp X o ρ h nx K) :
    evOp X o ρ h nx fun ef v n => K ef v n ∧ ∀ h' m, ef = .e h' m → ∀ l, scO o.op ρ m = some l → ∃ a, m = some a ∧ ∀ i, i ≠ a → i ∉ l → (look h' i).map (·.1) = (look h i).map fun e => e.1.scrub a := by
  by_cases hw : ∀ m, scO o.op ρ m = none
  · have : K = fun ef v n => K ef v n ∧ ∀ h' m, ef = .e h' m → ∀ l, scO o.op ρ m = some l → ∃ a, m = some a ∧ ∀ i, i ≠ a → i ∉ l → (look h' i).map (·.1) = (look h i).map fun e => e.1.scrub a := by
      funext ef v n
      exact propext ⟨fun hk => ⟨hk, fun h' m _ l hl => by rw [hw m] at hl; cases hl⟩, fun hk => hk.1⟩
    rw [← this]; exact hv
  · unfold evOp at hv ⊢
    cases ho : o.op with
    | call c =>
      rw [ho] at hv hw
      simp only at hv hw ⊢
      split at hv
      · rename_i f hc
        rcases hv with hv | ⟨y, h', m, nx', hs, hK⟩ | ⟨y, ids, n, bx, hs, hK⟩
        · exact .inl (evCall_mono (fun rd zs v hK => ⟨hK, fun h' m e => by cases e⟩) hv)
        · refine .inr (.inl ⟨y, h', m, nx', hs, hK, fun h2 m2 e l hl => ?_⟩)
          cases e
          cases m with
          | none => simp [scO] at hl
          | some a =>
            simp only [scO, hc, Option.some.injEq] at hl
            subst hl
            exact ⟨a, rfl, hs.sc a rfl⟩
        · exact .inr (.inr ⟨y, ids, n, bx, hs, hK, fun h' m e => by cases e⟩)
      · rename_i hc
        split at hv
        · rename_i s x t t' h1 h2
          have fin : ∀ {h2 : Hp} {i : Nat} {v : AV} {n : Nat}, appP h h2 i → K (.e h2 (some i)) v n → K (.e h2 (some i)) v n ∧ ∀ h' m, Ef.e h2 (some i) = .e h' m → ∀ l, scO (.call c) ρ m = some l → ∃ a, m = some a ∧ ∀ i, i ≠ a → i ∉ l → (look h' i).map (·.1) = (look h i).map fun e => e.1.scrub a := fun hP hK => ⟨hK, fun h' m e l hl => by
            cases e
            exact ⟨_, rfl, fun j hj _ => hP.2 j hj⟩⟩
          rcases hv with hv | hv | hv
          · exact .inl ⟨hv.1, evAppend_mono (fun h' i v n hP hK => fin hP hK) hv.2⟩
          · exact .inr (.inl (evAppStr_mono (fun h' i v hP hK => fin hP hK) hv))
          · exact .inr (.inr ⟨hv.1, evAppOO_mono (fun h' i v hP hK => fin hP hK) hv.2⟩)
        · exact hv.elim
      · rename_i hc; exact absurd (fun m => by simp only [scO, hc]; cases m <;> rfl) hw
      · rename_i hc; exact absurd (fun m => by simp only [scO, hc]; cases m <;> rfl) hw
      · rename_i h1 h2 _ _
        refine absurd (fun m => ?_) hw
        simp only [scO]
        cases m with
        | none => rfl
        | some a =>
          cases hc : c.callee with
          | builtin b => cases b <;> first | rfl | exact absurd hc h2
          | value f => exact absurd hc (h1 f)
          | _ => rfl
    | _ => rw [ho] at hw; exact absurd (fun m => rfl) hw
def gdoD (X : Ctx) (ops : Array Oper) (o : Oper) (σ : AS) (K : Fl → AS → Prop) : Prop :=
  match o.guard with
  | none => evOp X o (evE σ.env) σ.heap σ.nx fun ef v nx => freshE σ.heap ef ∧ K (flagOf σ.env o v ef) (σ.fin o.dst ef v nx)
  | some (j, want) =>
    (match (ops[j]?).bind (·.dst) with
     | some t => (match look σ.env t with
       | some (.one (.pv (.bool b))) =>
         (b = want → evOp X o (evE (setB σ.env t want)) σ.heap σ.nx fun ef v nx => freshE σ.heap ef ∧ K (flagOf (setB σ.env t want) o v ef) ((AS.mk (setB σ.env t want) σ.heap σ.nx).fin o.dst ef v nx)) ∧
         (b = !want → K ⟨0, [], none, false, none, false, none⟩ ⟨delO (setB σ.env t (!want)) o.dst, σ.heap, σ.nx⟩)
       | some (.tup []) => K ⟨0, [], none, false, none, false, none⟩ ⟨delO σ.env o.dst, σ.heap, σ.nx⟩
       | _ => False)
     | none => False)
def runDL (X : Ctx) (ops : Array Oper) : List Oper → List Fl → AS → (AS → Prop) → Prop
  | [], fls, σ, K => orderOk ops = true ∧ pairsOk ops fls.reverse = true ∧ K σ
  | o :: rest, fls, σ, K => gdoD X ops o σ fun f σ' => runDL X ops rest (f :: fls) σ' K
def runD (X : Ctx) (ops : Array Oper) (σ : AS) (K : AS → Prop) : Prop := runDL X ops ops.toList [] σ K
theorem look_setB {env : List (Nat × AV)} {t : Nat} {b : Bool} (h : look env t = some (vB b)) (s : Nat) : look (setB env t b) s = look env s := by
  simp only [setB, look_putE]
  split
  · rename_i e; rw [e, h]
  · rfl
/-- One operation of the text's order is a step. -/
theorem gdoD_step {X : Ctx} {ops : Array Oper} {o : Oper} {σ : AS} {K : Fl → AS → Prop} (hwf : ∀ id bx z, look σ.heap id = some (bx, z) → ∀ i ∈ acRefs bx.cells, (look σ.heap i).isSome = true) (hrf : ∀ x, ∀ id ∈ (evE σ.env x).refs, (look σ.heap id).isSome = true)
    (hdm : ∀ v h' m, SemOp X o (evE σ.env) σ.heap v h' m → ∀ i, (look σ.heap i).isSome = true → (look h' i).isSome = true)
    (h : gdoD X ops o σ K) : ∃ f σ', K f σ' ∧ St X ops f o σ σ' := by
  have main : ∀ env, (∀ s, look env s = look σ.env s) → gOk ops o σ.env true → (evOp X o (evE env) σ.heap σ.nx fun ef v nx => freshE σ.heap ef ∧ K (flagOf env o v ef) ((AS.mk env σ.heap σ.nx).fin o.dst ef v nx)) → ∃ f σ', K f σ' ∧ St X ops f o σ σ' := fun env he hg hv => by
    have hev : ∀ x, evE env x = evE σ.env x := evE_congr he
    obtain ⟨ef, v, nx, ⟨⟨⟨hf, hK⟩, hw⟩, hsc⟩, hs⟩ := evOp_sound hwf (fun x _ => by rw [hev]; exact hrf x) (evOp_sc (evOp_wr hv))
    refine ⟨_, _, hK, ?_⟩
    cases ef with
    | n rd zs add =>
      have eqv : Eqv ⟨setO σ.env o.dst (some v), upd σ.heap zs add, 0⟩ ((AS.mk env σ.heap σ.nx).fin o.dst (.n rd zs add) v nx) := by
        refine ⟨fun t => ?_, fun i => rfl⟩
        simp only [AS.fin, look_setO]
        cases hd : o.dst with
        | none => simp [putO, he]
        | some d =>
          simp only [putO, look_putE, Option.some.injEq, he]
          by_cases h1 : t = d
          · subst h1; simp [unR]
          · rw [if_neg h1, if_neg (fun e => h1 e.symm)]
      have sem : NSem X o (evE σ.env) σ.heap v rd zs add := NSem.congr hs (fun x _ => (hev x).symm) (fun _ _ => rfl)
      simp only [flagOf]
      split
      · rename_i hc
        obtain ⟨c1, c2, c3, c4, c5⟩ := hc
        have e1 : rd = [] := by simpa using c1
        have e2 : zs = [] := by simpa using c2
        have e3 : add = none := by simpa using c3
        refine .inl ⟨by simp, some v, rd, zs, add, hg, fun v' hv' => by cases hv'; exact sem, fun h => (by cases h), fun i hi => (by rw [e1] at hi; cases hi), fun i hi => (by rw [e2] at hi; cases hi), fun id bx h => (by rw [e3] at h; cases h), fun _ => ⟨e1, e2, e3, fun v' hv' => by
          cases hv'
          exact ⟨c4, fun x hx => by rw [← hev]; exact List.all_eq_true.1 c5 x hx⟩⟩, eqv, fun _ => e2, fun h => (by cases h), fun l h => (by cases h), fun h => (by cases h)⟩
      · refine .inl ⟨by simp, some v, rd, zs, add, hg, fun v' hv' => by cases hv'; exact sem, fun h => (by cases h), fun i hi => List.mem_append.2 (.inl hi), fun i hi => List.mem_append.2 (.inr hi), fun id bx h => ⟨by rw [h]; rfl, ?_⟩, fun h => by simp at h, eqv, fun h => ?_, fun h => ?_, fun l hl v' hv' => (by cases hv'; have q := rfO_spec hl; exact ⟨q.1, fun x hx => by rw [← hev]; exact q.2 x hx⟩), fun h => h⟩
        · subst h; exact hf
        · cases add with
          | some p => cases h
          | none => cases zs with | nil => rfl | cons z l => cases h
        · cases add with
          | none => cases h
          | some p =>
            obtain ⟨id, bx⟩ := p
            simp only [frO, Bool.and_eq_true, List.isEmpty_iff, List.all_eq_true, beq_iff_eq] at h
            exact ⟨v, id, bx, rfl, rfl, h.1.1, h.1.2, fun x hx => by rw [← hev]; exact h.2 x hx⟩
    | e h' m =>
      refine .inr ⟨rfl, v, h', m, rfl, hg, SemOp.congr hs (fun x _ => (hev x).symm) (fun _ => rfl) (fun _ => rfl), ?_, fun hne i hi => hw h' m rfl hne i hi, ⟨fun x _ id hid => hrf x id hid, hwf⟩, hdm v h' m (SemOp.congr hs (fun x _ => (hev x).symm) (fun _ => rfl) (fun _ => rfl)), fun l hl => hsc h' m rfl l hl⟩
      refine ⟨fun t => ?_, fun i => by cases m <;> rfl⟩
      cases m <;> simp only [AS.fin, look_setO, scrubO] <;> cases hd : o.dst <;> simp only [putO, look_putE, look_scrubEnv, he, reduceCtorEq, if_false, Option.some.injEq]
      all_goals
        rename_i d
        by_cases h1 : t = d
        · subst h1; simp [unR]
        · rw [if_neg h1, if_neg (fun e => h1 e.symm)]
  unfold gdoD at h
  split at h
  · rename_i hg
    exact main σ.env (fun _ => rfl) (by unfold gOk; rw [hg]) h
  · rename_i j want hg
    split at h
    · rename_i t ht
      split at h
      · rename_i b hl
        by_cases hb : b = want
        · subst hb
          exact main _ (look_setB hl) (by unfold gOk; rw [hg]; exact ⟨t, ht, .inl (by rw [if_pos rfl]; exact hl)⟩) (h.1 rfl)
        · have hb' : b = !want := by cases b <;> cases want <;> first | rfl | exact absurd rfl hb
          subst hb'
          refine ⟨_, _, h.2 rfl, .inl ⟨by simp, none, [], [], none, (by unfold gOk; rw [hg]; exact ⟨t, ht, .inl (by rw [if_neg (by decide)]; exact hl)⟩), fun v hv => (by cases hv), fun _ => ⟨rfl, rfl⟩, fun i hi => (by cases hi), fun i hi => (by cases hi), fun id bx h => (by cases h), fun _ => ⟨rfl, rfl, rfl, fun v hv => by cases hv⟩, ?_, fun _ => rfl, fun h => (by cases h), fun l h => (by cases h), fun h => (by cases h)⟩⟩
          refine ⟨fun s => ?_, fun i => rfl⟩
          simp only [look_setO]
          cases hd : o.dst with
          | none => simp [delO, look_setB hl]
          | some d =>
            simp only [delO, look_putE, Option.some.injEq, look_setB hl]
            by_cases h1 : s = d
            · subst h1; simp [unR]
            · rw [if_neg h1, if_neg (fun e => h1 e.symm)]
      · rename_i hl
        refine ⟨_, _, h, .inl ⟨by simp, none, [], [], none, (by unfold gOk; rw [hg]; exact ⟨t, ht, .inr ⟨rfl, hl⟩⟩), fun v hv => (by cases hv), fun _ => ⟨rfl, rfl⟩, fun i hi => (by cases hi), fun i hi => (by cases hi), fun id bx h => (by cases h), fun _ => ⟨rfl, rfl, rfl, fun v hv => by cases hv⟩, ?_, fun _ => rfl, fun h => (by cases h), fun l h => (by cases h), fun h => (by cases h)⟩⟩
        refine ⟨fun s => ?_, fun i => rfl⟩
        simp only [look_setO]
        cases hd : o.dst with
        | none => simp [delO]
        | some d =>
          simp only [delO, look_putE, Option.some.injEq]
          by_cases h1 : s = d
          · subst h1; simp [unR]
          · rw [if_neg h1, if_neg (fun e => h1 e.symm)]
      · exact h.elim
    · exact h.elim
theorem lex_of_run {X : Ctx} {F : Fr} {N : Nat} {ops : Array Oper} {K : AS → Prop} : ∀ (l : List Oper) (fls : List Fl) (σ : AS) (a : Act) (w : World), dstOk N l = true → RelS X F N σ a w → runDL X ops l fls σ K →
    ∃ tail, orderOk ops = true ∧ pairsOk ops (fls.reverse ++ tail) = true ∧ LexD X ops (flOf (fls.reverse ++ tail)) K l fls.length σ
  | [], fls, σ, a, w, _, _, h => ⟨[], h.1, by rw [List.append_nil]; exact h.2.1, h.2.2⟩
  | o :: rest, fls, σ, a, w, hd, r, h => by
    unfold dstOk at hd
    rw [List.all_cons, Bool.and_eq_true] at hd
    have hd0 : ∀ t, o.dst = some t → t < N := fun t ht => by have := hd.1; rw [ht] at this; simpa using this
    have wf : (∀ id bx z, look σ.heap id = some (bx, z) → ∀ i ∈ acRefs bx.cells, (look σ.heap i).isSome = true) ∧ ∀ x, ∀ id ∈ (evE σ.env x).refs, (look σ.heap id).isSome = true := by
      obtain ⟨β, r⟩ := r
      exact ⟨r.h.wf, fun x => (r.ev x).2⟩
    have hdm : ∀ v h' m, SemOp X o (evE σ.env) σ.heap v h' m → ∀ i, (look σ.heap i).isSome = true → (look h' i).isSome = true := fun v h' m hs i hi => by
      obtain ⟨β, r⟩ := r
      obtain ⟨_, _, hh⟩ := wp_ex (hs F β w a r.h (fun x _ => r.ev x) (fun _ _ => (look h' i).isSome = true) _ fun u w' β' hp _ _ => hp.dom i hi)
      exact hh
    obtain ⟨f, σ', h1, hst⟩ := gdoD_step wf.1 wf.2 hdm h
    obtain ⟨a', w', r'⟩ := st_ex hd0 r hst
    obtain ⟨tail, h2, h3, h4⟩ := lex_of_run rest (f :: fls) σ' a' w' hd.2 r' h1
    rw [List.reverse_cons, List.append_assoc] at h3 h4
    refine ⟨f :: tail, h2, h3, σ', ?_, h4⟩
    have : flOf (fls.reverse ++ f :: tail) fls.length = f := by
      unfold flOf
      rw [List.getD_eq_getElem?_getD, List.getElem?_append, if_neg (by simp)]
      simp
    rw [this]; exact hst
theorem runD_sound {X : Ctx} {F : Fr} {N : Nat} {id : Nat} {ops : Array Oper} {σ : AS} {a : Act} {w : World} {K : AS → Prop} {Q : Exit → Act → World → Prop} (r : RelS X F N σ a w) (hd : dstOk N ops.toList = true) (hv : runD X ops σ K) (hn : ∀ σ' a' w', K σ' → RelS X F N σ' a' w' → Q .normal a' w') :
    (Code.region id ops true).wp X.P Q a w := by
  obtain ⟨fls, h1, h2, h3⟩ := lex_of_run ops.toList [] σ a w hd r hv
  refine wp_region_any X.mixed ?_
  have := lexD_any h1 h2 ops.toList 0 (Array.replicate ops.size false) σ (fun j => by simp) (by simp) (fun j hj => by simp [hj]) h3
  rw [Array.length_toList] at this
  exact anyD_sound hd hn ops.size _ σ a _ r.drew this
/-! ### The pairs, looked through faster -/
def maskOf (ms : List Nat) (o : Oper) : Nat := o.after.toList.foldl (fun m e => if Region.binds .any e && decide (e.on < ms.length) then m ||| (2 ^ e.on ||| ms.getD e.on 0) else m) 0
def chk (ops : Array Oper) (oj : Oper) (fj : Fl) (mj : Nat) : Nat → List (Oper × Fl) → Bool
  | _, [] => true
  | i, x :: l => (mj.testBit i || (x.1.apart ops oj && compat x.2 fj)) && chk ops oj fj mj (i + 1) l
def chkAll (ops : Array Oper) : List (Oper × Fl) → List (Oper × Fl) → List Nat → Bool
  | [], _, _ => true
  | x :: rest, ea, ms => chk ops x.1 x.2 (maskOf ms x.1) 0 ea && chkAll ops rest (ea ++ [x]) (ms ++ [maskOf ms x.1])
def pairsFast (ops : Array Oper) (fls : List Fl) : Bool := decide (fls.length = ops.size) && chkAll ops (ops.toList.zip fls) [] []
theorem dep_mono {ops : Array Oper} : ∀ {n j i : Nat}, dep ops n j i = true → dep ops (n + 1) j i = true
  | 0, _, _, h => by cases h
  | n + 1, j, i, h => by
    unfold dep at h ⊢
    split at h
    · rename_i o ho
      rw [← Array.any_toList, List.any_eq_true] at h ⊢
      obtain ⟨e, he, hb⟩ := h
      refine ⟨e, he, ?_⟩
      simp only [Bool.and_eq_true, Bool.or_eq_true] at hb ⊢
      exact ⟨hb.1, hb.2.imp id fun h => dep_mono h⟩
    · cases h
theorem dep_le {ops : Array Oper} {n m j i : Nat} (h : n ≤ m) (hd : dep ops n j i = true) : dep ops m j i = true := by
  induction h with
  | refl => exact hd
  | step _ ih => exact dep_mono ih
theorem mask_fold {ms : List Nat} {i : Nat} : ∀ (l : List Edge) (m : Nat), (l.foldl (fun m e => if Region.binds .any e && decide (e.on < ms.length) then m ||| (2 ^ e.on ||| ms.getD e.on 0) else m) m).testBit i = true →
    m.testBit i = true ∨ ∃ e ∈ l, Region.binds .any e = true ∧ e.on < ms.length ∧ (e.on = i ∨ (ms.getD e.on 0).testBit i = true)
  | [], m, h => .inl h
  | e :: l, m, h => by
    rw [List.foldl_cons] at h
    rcases mask_fold l _ h with h | ⟨e', he', h⟩
    · split at h
      · rename_i hc
        simp only [Bool.and_eq_true, decide_eq_true_eq] at hc
        rw [Nat.testBit_or, Nat.testBit_or, Bool.or_eq_true, Bool.or_eq_true, Nat.testBit_two_pow, decide_eq_true_eq] at h
        rcases h with h | h
        · exact .inl h
        · exact .inr ⟨e, by simp, hc.1, hc.2, h⟩
      · exact .inl h
    · exact .inr ⟨e', by simp [he'], h⟩
theorem maskOf_dep {ops : Array Oper} {ms : List Nat} {o : Oper} {j i : Nat} (ho : ops[j]? = some o) (hl : ms.length = j) (hm : ∀ t i, t < j → (ms.getD t 0).testBit i = true → dep ops (t + 1) t i = true) (h : (maskOf ms o).testBit i = true) : dep ops (j + 1) j i = true := by
  unfold maskOf at h
  rcases mask_fold _ _ h with h | ⟨e, he, hb, hlt, h⟩
  · rw [Nat.zero_testBit] at h; cases h
  · unfold dep
    rw [ho]
    simp only
    rw [← Array.any_toList, List.any_eq_true]
    refine ⟨e, he, ?_⟩
    simp only [hb, Bool.true_and, Bool.or_eq_true, beq_iff_eq]
    rcases h with h | h
    · exact .inl h
    · exact .inr (dep_le (by omega) (hm e.on i (by omega) h))
theorem chk_spec {ops : Array Oper} {oj : Oper} {fj : Fl} {mj : Nat} : ∀ (l : List (Oper × Fl)) (i : Nat), chk ops oj fj mj i l = true → ∀ t x, l[t]? = some x → mj.testBit (i + t) = true ∨ (x.1.apart ops oj = true ∧ compat x.2 fj = true)
  | [], _, _, t, x, h => by simp at h
  | y :: l, i, hc, t, x, h => by
    simp only [chk, Bool.and_eq_true, Bool.or_eq_true] at hc
    cases t with
    | zero => simp at h; subst h; exact hc.1
    | succ t =>
      have := chk_spec l (i + 1) hc.2 t x (by simpa using h)
      rwa [Nat.add_right_comm] at this
theorem chkAll_spec {ops : Array Oper} {fls : List Fl} (hsz : fls.length = ops.size) : ∀ (rest ea : List (Oper × Fl)) (ms : List Nat), ops.toList.zip fls = ea ++ rest → ms.length = ea.length → (∀ t i, t < ea.length → (ms.getD t 0).testBit i = true → dep ops (t + 1) t i = true) → chkAll ops rest ea ms = true →
    ∀ j oj fj i oi fi, ea.length ≤ j → ops[j]? = some oj → fls[j]? = some fj → i < j → ops[i]? = some oi → fls[i]? = some fi → dep ops ops.size j i = true ∨ (oi.apart ops oj = true ∧ compat fi fj = true)
  | [], ea, ms, hz, _, _, _, j, oj, fj, i, oi, fi, hj, hoj, hfj, _, _, _ => by
    have h1 := (List.getElem?_eq_some_iff.1 hfj).1
    have h2 := congrArg List.length hz
    rw [List.length_zip, Array.length_toList, hsz, List.append_nil, Nat.min_self] at h2
    omega
  | x :: rest, ea, ms, hz, hl, hm, hc, j, oj, fj, i, oi, fi, hj, hoj, hfj, hij, hoi, hfi => by
    simp only [chkAll, Bool.and_eq_true] at hc
    have zat : ∀ (k : Nat) o f, ops[k]? = some o → fls[k]? = some f → (ops.toList.zip fls)[k]? = some (o, f) := fun k o f ho hf => by
      rw [List.getElem?_zip_eq_some]
      exact ⟨by rw [Array.getElem?_toList]; exact ho, hf⟩
    have hx : ops[ea.length]? = some x.1 := by
      have h1 : (ops.toList.zip fls)[ea.length]? = some x := by rw [hz, List.getElem?_append_right (Nat.le_refl _)]; simp
      have := (List.getElem?_zip_eq_some.1 h1).1
      rwa [Array.getElem?_toList] at this
    have hmask : ∀ i, (maskOf ms x.1).testBit i = true → dep ops (ea.length + 1) ea.length i = true := fun i h => maskOf_dep hx hl (by rw [← hl] at hm; exact fun t i ht h => hm t i (by omega) h) h
    rcases Nat.lt_or_ge ea.length j with hlt | hge
    · refine chkAll_spec hsz rest (ea ++ [x]) (ms ++ [maskOf ms x.1]) (by rw [hz]; simp) (by simp [hl]) (fun t i ht h => ?_) hc.2 j oj fj i oi fi (by simp; omega) hoj hfj hij hoi hfi
      rw [List.length_append, List.length_singleton] at ht
      rcases Nat.lt_or_ge t ea.length with h1 | h1
      · refine hm t i h1 ?_
        rwa [List.getD_eq_getElem?_getD, List.getElem?_append_left (by omega), ← List.getD_eq_getElem?_getD] at h
      · obtain rfl : t = ea.length := by omega
        rw [List.getD_eq_getElem?_getD, List.getElem?_append_right (by omega), hl, Nat.sub_self] at h
        exact hmask i (by simpa using h)
    · obtain rfl : j = ea.length := by omega
      have ej : x = (oj, fj) := by
        have h1 := zat _ _ _ hoj hfj
        rw [hz, List.getElem?_append_right (Nat.le_refl _)] at h1
        simpa using h1
      subst ej
      have ei : ea[i]? = some (oi, fi) := by
        have h1 := zat _ _ _ hoi hfi
        rwa [hz, List.getElem?_append_left hij] at h1
      rcases chk_spec ea 0 hc.1 i _ ei with h | h
      · rw [Nat.zero_add] at h
        exact .inl (dep_le (by have := (Array.getElem?_eq_some_iff.1 hoj).1; omega) (hmask i h))
      · exact .inr h
theorem pairsFast_ok {ops : Array Oper} {fls : List Fl} (h : pairsFast ops fls = true) : pairsOk ops fls = true := by
  unfold pairsFast at h
  simp only [Bool.and_eq_true, decide_eq_true_eq] at h
  obtain ⟨hsz, hc⟩ := h
  unfold pairsOk
  rw [List.all_eq_true]
  intro i hi
  rw [List.all_eq_true]
  intro j hj
  rw [List.mem_range] at hi hj
  simp only [Bool.or_eq_true, decide_eq_true_eq]
  rcases Nat.lt_or_ge i j with hij | hij
  · have ho : ∀ k, k < ops.size → ∃ o, ops[k]? = some o := fun k hk => ⟨_, Array.getElem?_eq_getElem hk⟩
    have hf : ∀ k, k < ops.size → ∃ f, fls[k]? = some f := fun k hk => ⟨_, List.getElem?_eq_getElem (by omega)⟩
    obtain ⟨oi, hoi⟩ := ho i hi
    obtain ⟨oj, hoj⟩ := ho j hj
    obtain ⟨fi, hfi⟩ := hf i hi
    obtain ⟨fj, hfj⟩ := hf j hj
    rcases chkAll_spec hsz _ [] [] rfl rfl (fun t i ht => absurd ht (by simp)) hc j oj fj i oi fi (Nat.zero_le _) hoj hfj hij hoi hfi with h | h
    · exact .inl (.inr h)
    · refine .inr ?_
      rw [hoi, hoj, hfi, hfj]
      simp only [h.1, h.2, Bool.and_self]
  · exact .inl (.inl hij)
end Go.VL

