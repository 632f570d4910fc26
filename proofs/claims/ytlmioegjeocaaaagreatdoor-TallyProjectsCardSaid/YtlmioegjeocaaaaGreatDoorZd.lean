/- Contracts over whole values, and what they lean on: part d. Each holds under the conditions that it states. -/
import Derived.Test.YtlmioegjeocaaaaGreatDoorZc
import Derived.Tactics
set_option linter.unusedVariables false
set_option linter.unusedSimpArgs false

namespace Go.VL
open Go.RowKit
set_option linter.unusedVariables false

def AV.scrub (m : Nat) : AV → AV
  | .one c => .one (c.scrub m)
  | .agg cs => .agg (cs.map (AC.scrub m))
  | .tup xs => .tup (xs.map fun x => (x.1, x.2.map (AC.scrub m)))
  | .bot => .bot
def scrubEnv (m : Nat) : List (Nat × AV) → List (Nat × AV)
  | [] => []
  | (t, v) :: l => (t, v.scrub m) :: scrubEnv m l
theorem look_scrubEnv (m t : Nat) : ∀ l : List (Nat × AV), look (scrubEnv m l) t = (look l t).map (AV.scrub m)
  | [] => rfl
  | (k, v) :: l => by
    simp only [scrubEnv, look]
    split
    · rfl
    · exact look_scrubEnv m t l
theorem RepL.scrub {w : World} {ok : Nat → Prop} {β : Bt} {cs : List AC} {vs : Array Value} (m : Nat) (h : RepL w ok β cs vs) : RepL w ok β (cs.map (AC.scrub m)) vs :=
  ⟨by simpa using h.1, fun j c hj => by
    rw [List.getElem?_map] at hj
    cases hc : cs[j]? with
    | none => rw [hc] at hj; cases hj
    | some c0 =>
      rw [hc] at hj
      simp only [Option.map_some, Option.some.injEq] at hj
      subst hj
      obtain ⟨u, hu, hr⟩ := h.2 j c0 hc
      exact ⟨u, hu, hr.scrub m⟩⟩
theorem RepV.scrub {w : World} {ok : Nat → Prop} {β : Bt} {v : AV} {u : Value} (m : Nat) (h : RepV w ok β v u) : RepV w ok β (v.scrub m) u := by
  cases v with
  | one c => exact RepC.scrub m h
  | agg cs => obtain ⟨vs, rfl, hl⟩ := h; exact ⟨vs, rfl, hl.scrub m⟩
  | tup xs =>
    obtain ⟨vs, rfl, hs, hx⟩ := h
    refine ⟨vs, rfl, by simpa using hs, fun j x hj => ?_⟩
    rw [List.getElem?_map] at hj
    cases hc : xs[j]? with
    | none => rw [hc] at hj; cases hj
    | some y =>
      rw [hc] at hj
      simp only [Option.map_some, Option.some.injEq] at hj
      subst hj
      obtain ⟨u, hu, hr⟩ := hx j y hc
      refine ⟨u, hu, ?_⟩
      obtain ⟨b, cs⟩ := y
      cases b with
      | true => obtain ⟨vs, rfl, hl⟩ := hr; exact ⟨vs, rfl, hl.scrub m⟩
      | false => obtain ⟨c, rfl, hcr⟩ := hr; exact ⟨_, rfl, RepC.scrub m hcr⟩
  | bot => trivial
theorem AV.scrub_refs {m i : Nat} {v : AV} (h : i ∈ (v.scrub m).refs) : i ∈ v.refs ∧ i ≠ m := by
  cases v with
  | one c => exact AC.scrub_refs h
  | agg cs => exact acRefs_scrub h
  | tup xs =>
    simp only [AV.scrub, AV.refs, List.mem_flatMap] at h
    obtain ⟨x, hx, hi⟩ := h
    obtain ⟨y, hy, rfl⟩ := List.mem_map.1 hx
    have := acRefs_scrub hi
    exact ⟨List.mem_flatMap.2 ⟨y, hy, this.1⟩, this.2⟩
  | bot => cases h

def putE {α : Type} (l : List (Nat × α)) (i : Nat) (y : α) : List (Nat × α) := (i, y) :: l
theorem look_putE {α : Type} (l : List (Nat × α)) (i j : Nat) (y : α) : look (putE l i y) j = if j = i then some y else look l j := rfl
def putO (env : List (Nat × AV)) : Option Tmp → AV → List (Nat × AV)
  | none, _ => env
  | some d, v => putE env d v
def delO (env : List (Nat × AV)) : Option Tmp → List (Nat × AV)
  | none => env
  | some d => putE env d (.tup [])
def AS.fin (σ : AS) (dst : Option Tmp) (ef : Ef) (v : AV) (nx : Nat) : AS :=
  match ef with
  | .n _ zs add => ⟨putO σ.env dst v, upd σ.heap zs add, nx⟩
  | .e h' none => ⟨putO σ.env dst v, h', nx⟩
  | .e h' (some m) => ⟨putO (scrubEnv m σ.env) dst v, h', nx⟩

def EnvRel (X : Ctx) (F : Fr) (env : List (Nat × AV)) (h : Hp) (β : Bt) (tmps : Array Value) (w : World) : Prop :=
  ∀ t v, look env t = some v → (∃ u, tmps[t]? = some u ∧ RepV w (F.ok w h β) β v u) ∧ ∀ id ∈ v.refs, (look h id).isSome = true
structure Rel (X : Ctx) (F : Fr) (N : Nat) (σ : AS) (a : Act) (w : World) (β : Bt) : Prop where
  h : HRel X F σ.heap β w
  defers : a.defers = []
  size : a.tmps.size = N
  env : EnvRel X F σ.env σ.heap β a.tmps w
def RelS (X : Ctx) (F : Fr) (N : Nat) (σ : AS) (a : Act) (w : World) : Prop := ∃ β, Rel X F N σ a w β
section
variable {X : Ctx} {F : Fr} {N : Nat} {σ : AS} {a : Act} {w : World} {β : Bt}
theorem Rel.ev (r : Rel X F N σ a w β) (x : Operand) : RepV w (F.ok w σ.heap β) β (evE σ.env x) (a.eval x) ∧ ∀ id ∈ (evE σ.env x).refs, (look σ.heap id).isSome = true := by
  cases x with
  | tmp t =>
    simp only [evE, Act.eval]
    cases hl : look σ.env t with
    | none => exact ⟨trivial, fun id hid => by cases hid⟩
    | some v =>
      obtain ⟨⟨u, hu, hr⟩, hw⟩ := r.env t v hl
      refine ⟨?_, hw⟩
      have : a.tmps.getD t undef = u := by simp [hu]
      rw [this]; exact hr
  | const v => exact ⟨ofVal_rep w _ β v, fun id hid => by rw [show evE σ.env (.const v) = ofVal v from rfl, ofVal_refs] at hid; cases hid⟩
  | global g => exact ⟨.lit _ rfl, fun id hid => by cases hid⟩
  | func f => exact ⟨RepP.clo f [] #[] (fun _ => undef) rfl (fun j p hj => by simp at hj) (fun j p hj => by simp at hj), fun id hid => by cases hid⟩
theorem size_put (a : Act) (d : Option Tmp) (u : Value) : (a.put d u).tmps.size = a.tmps.size := by cases d <;> simp [Act.put]
theorem env_put {env : List (Nat × AV)} {h' : Hp} {β' : Bt} {w' : World} {tmps : Array Value} {d : Option Tmp} {v : AV} {u : Value} (hd : ∀ t, d = some t → t < tmps.size)
    (he : ∀ t x, look env t = some x → (∃ y, tmps[t]? = some y ∧ RepV w' (F.ok w' h' β') β' x y) ∧ ∀ id ∈ x.refs, (look h' id).isSome = true) (hu : RepV w' (F.ok w' h' β') β' v u) (hw : ∀ id ∈ v.refs, (look h' id).isSome = true) :
    EnvRel X F (putO env d v) h' β' ((Act.mk tmps []).put d u).tmps w' := by
  cases d with
  | none => exact he
  | some d =>
    intro t x hl
    simp only [putO, look_putE] at hl
    simp only [Act.put]
    by_cases ht : t = d
    · rw [if_pos ht] at hl
      simp only [Option.some.injEq] at hl
      subst hl; subst ht
      exact ⟨⟨u, by rw [Array.getElem?_setIfInBounds_self_of_lt (hd t rfl)], hu⟩, hw⟩
    · rw [if_neg ht] at hl
      obtain ⟨⟨y, hy, hr⟩, hw'⟩ := he t x hl
      exact ⟨⟨y, by rw [Array.getElem?_setIfInBounds_ne (fun e => ht e.symm)]; exact hy, hr⟩, hw'⟩
theorem put_tmps (a : Act) (d : Option Tmp) (u : Value) : (a.put d u).tmps = ((Act.mk a.tmps []).put d u).tmps := by cases d <;> rfl
theorem put_defers' (a : Act) (d : Option Tmp) (u : Value) : (a.put d u).defers = a.defers := by cases d <;> rfl
/-- One operation, carried out. -/
theorem op_step (r : Rel X F N σ a w β) {o : Oper} (hd : ∀ t, o.dst = some t → t < N) {ef : Ef} {v : AV} {nx : Nat} (hs : EfSem X o (evE σ.env) σ.heap v ef) (hfresh : ∀ rd zs id bx, ef = .n rd zs (some (id, bx)) → look σ.heap id = none ∧ id < 1000)
    (next : Act → World → Prop) (Q : Exit → Act → World → Prop) (hn : ∀ a' w', RelS X F N (σ.fin o.dst ef v nx) a' w' → next a' w') : o.wp X.P a w next Q := by
  have main : ∀ h' m, SemOp X o (evE σ.env) σ.heap v h' m → (σ.fin o.dst ef v nx).heap = h' → (σ.fin o.dst ef v nx).env = putO (match m with | none => σ.env | some m => scrubEnv m σ.env) o.dst v → o.wp X.P a w next Q := fun h' m hsem hh he => by
    refine hsem F β w a r.h (fun x _ => r.ev x) next Q fun u w' β' hp hu hw => hn _ _ ⟨β', ?_, ?_, ?_, ?_⟩
    · rw [hh]; exact hp.rel
    · rw [put_defers']; exact r.defers
    · rw [size_put]; exact r.size
    · rw [hh, he, put_tmps]
      refine env_put (fun t ht => by rw [r.size]; exact hd t ht) (fun t x hl => ?_) hu hw
      cases m with
      | none =>
        obtain ⟨⟨y, hy, hr⟩, hw'⟩ := r.env t x hl
        exact ⟨⟨y, hy, hp.keep.repV (fun id hid => ⟨hw' id hid, by simp⟩) hr⟩, fun id hid => hp.dom id (hw' id hid)⟩
      | some m =>
        simp only at hl
        rw [look_scrubEnv] at hl
        cases hh' : look σ.env t with
        | none => rw [hh'] at hl; cases hl
        | some x0 =>
          rw [hh'] at hl
          simp only [Option.map_some, Option.some.injEq] at hl
          subst hl
          obtain ⟨⟨y, hy, hr⟩, hw'⟩ := r.env t x0 hh'
          exact ⟨⟨y, hy, hp.keep.repV (fun id hid => by
            have := AV.scrub_refs hid
            exact ⟨hw' id this.1, fun e => this.2 (by simpa using e.symm)⟩) (hr.scrub m)⟩, fun id hid => hp.dom id (hw' id (AV.scrub_refs hid).1)⟩
  cases ef with
  | n rd zs add => exact main _ none (hs σ.heap (fun _ _ => rfl) (fun id bx e => hfresh rd zs id bx (by rw [e]))) rfl rfl
  | e h' m => cases m with
    | none => exact main _ none hs rfl rfl
    | some m => exact main _ (some m) hs rfl rfl
end

/-- A new box has a new number. -/
def freshE (h : Hp) : Ef → Prop
  | .n _ _ (some (id, _)) => look h id = none ∧ id < 1000
  | _ => True
def setB (env : List (Nat × AV)) (t : Nat) (b : Bool) : List (Nat × AV) := putE env t (vB b)
/-- An operation that has several ways to go, said outright. -/
def nxOp (X : Ctx) (op : Op) (dst : Option Tmp) (σ : AS) (K : AS → Prop) : Prop :=
  ∀ o : Oper, o.op = op → o.dst = dst → ∀ N F a w, (∀ t, o.dst = some t → t < N) → RelS X F N σ a w → ∀ (next : Act → World → Prop) (Q : Exit → Act → World → Prop), (∀ σ' a' w', K σ' → RelS X F N σ' a' w' → next a' w') → o.wp X.P a w next Q
/-- One operation, under its guard. -/
def gdo (X : Ctx) (ops : Array Oper) (o : Oper) (σ : AS) (K : AS → Prop) : Prop :=
  match o.guard with
  | none => (evOp X o (evE σ.env) σ.heap σ.nx fun ef v nx => freshE σ.heap ef ∧ K (σ.fin o.dst ef v nx)) ∨ nxOp X o.op o.dst σ K
  | some (j, want) =>
    (match (ops[j]?).bind (·.dst) with
     | some t => (match look σ.env t with
       | some (.one (.pv (.bool b))) =>
         (b = want → (evOp X o (evE (setB σ.env t want)) σ.heap σ.nx fun ef v nx => freshE σ.heap ef ∧ K ((AS.mk (setB σ.env t want) σ.heap σ.nx).fin o.dst ef v nx)) ∨ nxOp X o.op o.dst ⟨setB σ.env t want, σ.heap, σ.nx⟩ K) ∧
         (b = !want → K ⟨delO (setB σ.env t (!want)) o.dst, σ.heap, σ.nx⟩)
       | some (.tup []) => K ⟨delO σ.env o.dst, σ.heap, σ.nx⟩
       | _ => False)
     | none => False)
def runL (X : Ctx) (ops : Array Oper) : List Oper → AS → (AS → Prop) → Prop
  | [], σ, K => K σ
  | o :: rest, σ, K => gdo X ops o σ fun σ' => runL X ops rest σ' K
def dstOk (N : Nat) (l : List Oper) : Bool := l.all fun o => match o.dst with | some d => decide (d < N) | none => true
section
variable {X : Ctx} {F : Fr} {N : Nat} {β : Bt}
theorem freshE_spec {h : Hp} {ef : Ef} (hf : freshE h ef) : ∀ rd zs id bx, ef = .n rd zs (some (id, bx)) → look h id = none ∧ id < 1000 := by
  rintro rd zs id bx rfl; exact hf
theorem ev_step {σ : AS} {a : Act} {w : World} (r : Rel X F N σ a w β) {o : Oper} (hd : ∀ t, o.dst = some t → t < N) {K : AS → Prop} (hv : evOp X o (evE σ.env) σ.heap σ.nx fun ef v nx => freshE σ.heap ef ∧ K (σ.fin o.dst ef v nx))
    (next : Act → World → Prop) (Q : Exit → Act → World → Prop) (hn : ∀ σ' a' w', K σ' → RelS X F N σ' a' w' → next a' w') : o.wp X.P a w next Q := by
  obtain ⟨ef, v, nx, ⟨hf, hK⟩, hs⟩ := evOp_sound r.h.wf (fun x _ => (r.ev x).2) hv
  exact op_step r hd hs (freshE_spec hf) next Q fun a' w' h' => hn _ a' w' hK h'
theorem Rel.setB {σ : AS} {a : Act} {w : World} (r : Rel X F N σ a w β) {t : Nat} {b : Bool} (hl : look σ.env t = some (vB b)) : Rel X F N ⟨setB σ.env t b, σ.heap, σ.nx⟩ a w β :=
  ⟨r.h, r.defers, r.size, fun s x hs => by
    simp only [Go.VL.setB, look_putE] at hs
    by_cases h : s = t
    · rw [if_pos h] at hs
      simp only [Option.some.injEq] at hs
      subst hs; subst h
      exact r.env s _ hl
    · rw [if_neg h] at hs; exact r.env s x hs⟩
theorem undef_rep {w : World} {ok : Nat → Prop} {β : Bt} : RepV w ok β (.tup []) undef := ⟨#[], rfl, rfl, fun j x hj => by simp at hj⟩
theorem Rel.drop {σ : AS} {a : Act} {w : World} (r : Rel X F N σ a w β) (d : Option Tmp) (hd : ∀ t, d = some t → t < N) : Rel X F N ⟨delO σ.env d, σ.heap, σ.nx⟩ (a.put d undef) w β := by
  refine ⟨r.h, by rw [put_defers']; exact r.defers, by rw [size_put]; exact r.size, ?_⟩
  cases d with
  | none => exact r.env
  | some d =>
    intro t x hl
    simp only [delO, look_putE] at hl
    by_cases ht : t = d
    · rw [if_pos ht] at hl
      simp only [Option.some.injEq] at hl
      subst hl; subst ht
      exact ⟨⟨undef, by simp only [Act.put]; rw [Array.getElem?_setIfInBounds_self_of_lt (by rw [r.size]; exact hd t rfl)], undef_rep⟩, fun id hid => by cases hid⟩
    · rw [if_neg ht] at hl
      obtain ⟨⟨y, hy, hr⟩, hw⟩ := r.env t x hl
      exact ⟨⟨y, by simp only [Act.put]; rw [Array.getElem?_setIfInBounds_ne (fun e => ht e.symm)]; exact hy, hr⟩, hw⟩
theorem wanted_un {σ : AS} {a : Act} {w : World} (r : Rel X F N σ a w β) {ops : Array Oper} {o : Oper} {j : Nat} {want : Bool} (hg : o.guard = some (j, want)) {t : Nat} (ht : (ops[j]?).bind (·.dst) = some t) (hl : look σ.env t = some (.tup [])) :
    Region.wanted o (yielded ops a.tmps) = false := by
  obtain ⟨⟨u, hu, vs, rfl, _⟩, _⟩ := r.env t _ hl
  unfold Region.wanted yielded
  rw [hg]
  simp only [ht, Option.bind_some, hu]
  cases want <;> rfl
theorem wanted_of {σ : AS} {a : Act} {w : World} (r : Rel X F N σ a w β) {ops : Array Oper} {o : Oper} {j : Nat} {want : Bool} (hg : o.guard = some (j, want)) {t : Nat} (ht : (ops[j]?).bind (·.dst) = some t) {b : Bool} (hl : look σ.env t = some (vB b)) :
    Region.wanted o (yielded ops a.tmps) = (b == want) := by
  obtain ⟨⟨u, hu, hr⟩, _⟩ := r.env t _ hl
  obtain rfl := one_bool hr
  unfold Region.wanted yielded
  rw [hg]
  simp only [ht, Option.bind_some, hu]
  cases b <;> cases want <;> rfl
theorem runL_sound {ops : Array Oper} {Q : Exit → Act → World → Prop} : ∀ (l : List Oper) {σ : AS} {a : Act} {w : World} {K : AS → Prop}, RelS X F N σ a w → dstOk N l = true → runL X ops l σ K → (∀ σ' a' w', K σ' → RelS X F N σ' a' w' → Q .normal a' w') → wpList X.P ops Q l a w
  | [], σ, a, w, K, r, _, hv, hn => hn σ a w hv r
  | o :: rest, σ, a, w, K, ⟨β, r⟩, hd, hv, hn => by
    unfold dstOk at hd
    rw [List.all_cons, Bool.and_eq_true] at hd
    have hd0 : ∀ t, o.dst = some t → t < N := fun t ht => by have := hd.1; rw [ht] at this; simpa using this
    have next : ∀ σ' a' w', runL X ops rest σ' K → RelS X F N σ' a' w' → wpList X.P ops Q rest a' w' := fun σ' a' w' h1 h2 => runL_sound rest h2 hd.2 h1 hn
    simp only [runL, gdo] at hv
    unfold wpList
    split at hv
    · rename_i hg
      rw [if_pos (by simp [Region.wanted, hg])]
      rcases hv with hv | hv
      · exact .inl (ev_step r hd0 hv _ Q next)
      · exact .inl (hv o rfl rfl N F a w hd0 ⟨β, r⟩ _ Q next)
    · rename_i j want hg
      split at hv
      · rename_i t ht
        split at hv
        · rename_i b hl
          rw [wanted_of r hg ht hl]
          by_cases hb : b = want
          · subst hb
            rw [if_pos (by simp)]
            rcases hv.1 rfl with hv | hv
            · exact .inl (ev_step (r.setB hl) hd0 hv _ Q next)
            · exact .inl (hv o rfl rfl N F a w hd0 ⟨β, r.setB hl⟩ _ Q next)
          · have hb' : b = !want := by cases b <;> cases want <;> simp_all
            rw [if_neg (by simpa using hb)]
            have r2 := r.setB hl
            rw [hb'] at r2
            exact next _ _ _ (hv.2 hb') ⟨β, r2.drop o.dst hd0⟩
        · rename_i hl
          rw [wanted_un r hg ht hl, if_neg (by simp)]
          exact next _ _ _ hv ⟨β, r.drop o.dst hd0⟩
        · exact hv.elim
      · exact hv.elim
end
end Go.VL

