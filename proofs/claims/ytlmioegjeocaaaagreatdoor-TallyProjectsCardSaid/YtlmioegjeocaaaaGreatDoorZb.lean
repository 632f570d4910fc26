/- Contracts over whole values, and what they lean on: part b. Each holds under the conditions that it states. -/
import Derived.Test.YtlmioegjeocaaaaGreatDoorZa
import Derived.Laws.StructEq
import Derived.Laws.Small
import Derived.Laws.MakeOwn
import Derived.Laws.OwnMore
set_option linter.unusedVariables false
set_option linter.unusedSimpArgs false

namespace Go.VL
open Go.RowKit
set_option linter.unusedVariables false

def evNilC (x : AV) (K : AV → Prop) : Prop :=
  match x with
  | .one (.ptr _ _) | .one (.pv (.pt _ _)) | .one (.pv (.clo _ _)) | .one (.clo _ _) => K x
  | _ => False
theorem evNilC_sound (X : Ctx) {x : AV} {K : AV → Prop} (h : evNilC x K) :
    K x ∧ ∀ w ok β u, RepV w ok β x u → (∃ a, u = .pointer (some a)) ∨ ∃ f vs, u = .func (.func f) #[] vs := by
  unfold evNilC at h
  split at h
  · refine ⟨h, fun w ok β u hu => ?_⟩
    obtain ⟨g, _, rfl⟩ := hu
    exact .inl ⟨_, rfl⟩
  · refine ⟨h, fun w ok β u hu => ?_⟩
    have hu' : RepP w ok _ u := hu
    cases hu'
    exact .inl ⟨_, rfl⟩
  · refine ⟨h, fun w ok β u hu => ?_⟩
    have hu' : RepP w ok _ u := hu
    cases hu'
    exact .inr ⟨_, _, rfl⟩
  · refine ⟨h, fun w ok β u hu => ?_⟩
    obtain ⟨vs, rfl, _⟩ := hu
    exact .inr ⟨_, _, rfl⟩
  · exact h.elim

def capOf : AV → Option Cap
  | .one (.pv p) => some (.pv p)
  | .one (.ptr id off) => some (.ptr id off)
  | _ => none
def capsOf : List AV → Option (List Cap)
  | [] => some []
  | x :: l => match capOf x, capsOf l with | some c, some cs => some (c :: cs) | _, _ => none
def pvsOfCaps : List Cap → Option (List PV)
  | [] => some []
  | .pv p :: l => (pvsOfCaps l).map (p :: ·)
  | _ => none
def evMkFn (fn : Fn) (first : List Operand) (caps : List AV) (K : AV → Prop) : Prop :=
  match fn, first, capsOf caps with
  | .func f, [], some cs => (match pvsOfCaps cs with | some ps => K (vP (.clo f ps)) | none => K (.one (.clo f cs)))
  | _, _, _ => False
theorem capsOf_rep {w : World} {ok : Nat → Prop} {β : Bt} : ∀ {xs : List AV} {cs : List Cap} {vs : List Value}, capsOf xs = some cs → xs.length = vs.length → (∀ (j : Nat) x, xs[j]? = some x → ∃ v, vs[j]? = some v ∧ RepV w ok β x v) →
    cs.length = vs.length ∧ ∀ (j : Nat) c, cs[j]? = some c → ∃ v, vs[j]? = some v ∧ RepCap w ok β c v
  | [], cs, [], h, _, _ => by simp only [capsOf, Option.some.injEq] at h; subst h; exact ⟨rfl, fun j c hj => by simp at hj⟩
  | [], _, _ :: _, _, hl, _ => by simp at hl
  | _ :: _, _, [], _, hl, _ => by simp at hl
  | x :: xs, cs, v :: vs, h, hl, hp => by
    simp only [capsOf] at h
    split at h
    · rename_i c cs' hc hcs
      simp only [Option.some.injEq] at h
      subst h
      obtain ⟨i1, i2⟩ := capsOf_rep (vs := vs) hcs (by simpa using hl) (fun j x hj => hp (j + 1) x (by simpa using hj))
      refine ⟨by simp [i1], fun j c' hj => ?_⟩
      cases j with
      | zero =>
        simp only [List.getElem?_cons_zero, Option.some.injEq] at hj
        subst hj
        obtain ⟨v', hv', hr⟩ := hp 0 x rfl
        refine ⟨v', hv', ?_⟩
        unfold capOf at hc
        split at hc <;> simp only [Option.some.injEq, reduceCtorEq] at hc <;> subst hc <;> exact hr
      | succ j => exact i2 j c' (by simpa using hj)
    · cases h
theorem capsOf_refs : ∀ {xs : List AV} {cs : List Cap}, capsOf xs = some cs → ∀ id ∈ cs.flatMap Cap.refs, ∃ x ∈ xs, id ∈ x.refs
  | [], cs, h, id, hid => by simp only [capsOf, Option.some.injEq] at h; subst h; simp at hid
  | x :: xs, cs, h, id, hid => by
    simp only [capsOf] at h
    split at h
    · rename_i c cs' hc hcs
      simp only [Option.some.injEq] at h
      subst h
      simp only [List.flatMap_cons, List.mem_append] at hid
      rcases hid with hid | hid
      · refine ⟨x, by simp, ?_⟩
        unfold capOf at hc
        split at hc <;> simp only [Option.some.injEq, reduceCtorEq] at hc <;> subst hc <;> (first | (simp [Cap.refs] at hid; done) | exact hid)
      · obtain ⟨y, hy, h1⟩ := capsOf_refs hcs id hid
        exact ⟨y, by simp [hy], h1⟩
    · cases h
theorem pvsOfCaps_spec : ∀ {cs : List Cap} {ps : List PV}, pvsOfCaps cs = some ps → cs = ps.map .pv
  | [], ps, h => by simp only [pvsOfCaps, Option.some.injEq] at h; subst h; rfl
  | .pv p :: l, ps, h => by
    simp only [pvsOfCaps, Option.map_eq_some_iff] at h
    obtain ⟨qs, hq, rfl⟩ := h
    rw [pvsOfCaps_spec hq]; rfl
  | .ptr _ _ :: l, ps, h => by simp [pvsOfCaps] at h
theorem evMkFn_sound (X : Ctx) {fn : Fn} {first : List Operand} {caps : List AV} {K : AV → Prop} (h : evMkFn fn first caps K) :
    ∃ v, K v ∧ (∀ id ∈ v.refs, ∃ x ∈ caps, id ∈ x.refs) ∧ first = [] ∧ ∀ w ok β (vs : Array Value), caps.length = vs.size → (∀ (j : Nat) x, caps[j]? = some x → ∃ v, vs[j]? = some v ∧ RepV w ok β x v) → RepV w ok β v (.func fn #[] vs) := by
  unfold evMkFn at h
  split at h
  · rename_i f cs hcs
    split at h
    · rename_i ps hps
      refine ⟨_, h, fun id hid => by simp [AV.refs, AC.refs] at hid, rfl, fun w ok β vs hl hp => ?_⟩
      obtain ⟨h1, h2⟩ := capsOf_rep (vs := vs.toList) hcs (by simpa using hl) (fun j x hj => by simpa using hp j x hj)
      have e := pvsOfCaps_spec hps
      subst e
      have h3 : ∀ (j : Nat) p, ps[j]? = some p → ∃ v, vs[j]? = some v ∧ RepP w ok p v := fun j p hj => by
        obtain ⟨v, hv, hr⟩ := h2 j (.pv p) (by simp [hj])
        exact ⟨v, by simpa using hv, hr⟩
      refine RepP.clo f ps vs (fun j => (vs[j]?).getD undef) (by simpa using h1.symm) (fun j p hj => ?_) (fun j p hj => ?_)
      · obtain ⟨v, hv, _⟩ := h3 j p hj; simp [hv]
      · obtain ⟨v, hv, hr⟩ := h3 j p hj; simp only [hv]; exact hr
    · refine ⟨_, h, fun id hid => capsOf_refs hcs id hid, rfl, fun w ok β vs hl hp => ?_⟩
      obtain ⟨h1, h2⟩ := capsOf_rep (vs := vs.toList) hcs (by simpa using hl) (fun j x hj => by simpa using hp j x hj)
      exact ⟨vs, rfl, by simpa using h1.symm, fun j c hj => by
        obtain ⟨v, hv, hr⟩ := h2 j c hj
        exact ⟨v, by simpa using hv, hr⟩⟩
  · exact h.elim

def evConv (X : Ctx) (s d : TypeId) (x : AV) (K : AV → Prop) : Prop :=
  match tinf X.P s, tinf X.P d, x with
  | some ⟨.int _, _, _, _⟩, some ⟨.int k, _, _, _⟩, .one (.pv (.int _ z)) => K (vP (.int k (k.wrap z)))
  | some ⟨.string, _, _, _⟩, some ⟨.string, _, _, _⟩, .one (.pv (.str l)) => K (vS l)
  | _, _, _ => False
theorem evConv_sound (X : Ctx) {s d : TypeId} {x : AV} {K : AV → Prop} (h : evConv X s d x K) : ∃ v, K v ∧ Acts1 X x (convert s d) v := by
  unfold evConv at h
  split at h
  · rename_i hs hd
    obtain ⟨h1, _⟩ := tinf_spec hs
    obtain ⟨h2, _⟩ := tinf_spec hd
    refine ⟨_, h, fun id hid => by simp [AV.refs, AC.refs] at hid, fun w ok β u hu => ?_⟩
    obtain ⟨rfl, _⟩ := one_int hu
    exact ⟨_, by simp only [convert, Sem.run_bind, run_underlying h1, run_underlying h2, Result.andThen_ok, Conv.intToInt]; rfl, .int _ _ (wrap_range _ _)⟩
  · rename_i hs hd
    obtain ⟨h1, _⟩ := tinf_spec hs
    obtain ⟨h2, _⟩ := tinf_spec hd
    refine ⟨_, h, fun id hid => by simp [AV.refs, AC.refs] at hid, fun w ok β u hu => ?_⟩
    obtain ⟨rfl, hl⟩ := one_str hu
    exact ⟨_, by simp only [convert, Sem.run_bind, run_underlying h1, run_underlying h2, Result.andThen_ok]; rfl, .str _ hl⟩
  · exact h.elim

/-- Structs of numbers, bools and strings, compared. -/
def eqP : PV → PV → Bool
  | .int _ a, .int _ b => a == b
  | .bool a, .bool b => a == b
  | .str a, .str b => a == b
  | _, _ => false
def eqPs : List PV → List PV → Bool
  | p :: ps, q :: qs => eqP p q && eqPs ps qs
  | _, _ => true
def fitP : TypeDesc → PV → PV → Prop
  | .int _, .int k _, .int k' _ => k = k'
  | .bool, .bool _, .bool _ => True
  | .string, .str _, .str _ => True
  | _, _, _ => False
def plF (X : Ctx) : List Field → Nat → List PV → List PV → Prop
  | [], _, [], [] => True
  | F :: fs, k, p :: ps, q :: qs => F.offset = k ∧ F.name ≠ "_" ∧ (match tinf X.P F.type with | some T => fitP T.u p q | none => False) ∧ plF X fs (k + 1) ps qs
  | _, _, _, _ => False
theorem run_eqFields {X : Ctx} {w : World} {ok : Nat → Prop} {xs ys : Array Value} (d : Nat) : ∀ (fs : List Field) (k : Nat) (ps qs : List PV), plF X fs k ps qs → (∀ (j : Nat) p, ps[j]? = some p → ∃ u : Value, xs[k + j]? = some u ∧ RepP w ok p u) → (∀ (j : Nat) p, qs[j]? = some p → ∃ u : Value, ys[k + j]? = some u ∧ RepP w ok p u) →
    (Op.eqFields (d + 1) xs ys fs).run X.P w = .ok (eqPs ps qs) w
  | [], k, [], [], _, _, _ => rfl
  | F :: fs, k, p :: ps, q :: qs, h, hx, hy => by
    obtain ⟨ho, hn, ht, hr⟩ := h
    obtain ⟨u, hu, ru⟩ := hx 0 p rfl
    obtain ⟨v, hv, rv⟩ := hy 0 q rfl
    rw [Nat.add_zero] at hu hv
    have ih := run_eqFields d fs (k + 1) ps qs hr (fun j p hj => by rw [show k + 1 + j = k + (j + 1) by omega]; exact hx (j + 1) p hj) (fun j p hj => by rw [show k + 1 + j = k + (j + 1) by omega]; exact hy (j + 1) p hj)
    split at ht
    · rename_i T hT
      obtain ⟨hu', _⟩ := tinf_spec hT
      have key : isAggU T.u = false ∧ (Op.equalIn (d + 1) F.type u v).run X.P w = .ok (eqP p q) w := by
        unfold fitP at ht
        split at ht
        · rename_i k1 k2 z1 k3 z2 hU
          subst ht
          cases ru; cases rv
          exact ⟨by rw [hU]; rfl, run_equalIn_int w d F.type _ _ _ _ (by rw [hU] at hu'; exact hu')⟩
        · rename_i b1 b2 hU
          cases ru; cases rv
          exact ⟨by rw [hU]; rfl, run_equalIn_bool' w d F.type _ _ (by rw [hU] at hu'; exact hu')⟩
        · rename_i s1 s2 hU
          cases ru; cases rv
          exact ⟨by rw [hU]; rfl, by rw [run_equalIn_string w d F.type _ _ (by rw [hU] at hu'; exact hu'), ByteArray.toList_eq, ByteArray.toList_eq]; rfl⟩
        · exact ht.elim
      have hp1 : (part F.type xs F.offset).run X.P w = .ok u w := by
        rw [ho]; simp [part, run_isAgg hu', key.1, hu]
      have hp2 : (part F.type ys F.offset).run X.P w = .ok v w := by
        rw [ho]; simp [part, run_isAgg hu', key.1, hv]
      unfold Op.eqFields
      rw [if_pos hn, Sem.run_bind, hp1, Result.andThen_ok, Sem.run_bind, hp2, Result.andThen_ok, Sem.run_bind, key.2, Result.andThen_ok]
      simp only [eqPs]
      cases eqP p q
      · rfl
      · simpa using ih
    · exact ht.elim
  | [], _, [], _ :: _, h, _, _ => h.elim
  | [], _, _ :: _, _, h, _, _ => h.elim
  | _ :: _, _, [], _, h, _, _ => h.elim
  | _ :: _, _, _ :: _, [], h, _, _ => h.elim
/-- Tests that ask the type: bools, slices against nil, interfaces against nil. -/
def evEq (X : Ctx) (op : BinOp) (t : TypeId) (y' : Operand) (x y : AV) (K : AV → Prop) : Prop :=
  match op, tinf X.P t, x, y with
  | .eql, some ⟨.bool, _, _, _⟩, .one (.pv (.bool a)), .one (.pv (.bool b)) => K (vB (a == b))
  | .neq, some ⟨.bool, _, _, _⟩, .one (.pv (.bool a)), .one (.pv (.bool b)) => K (vB (!(a == b)))
  | .eql, some ⟨.slice _, _, _, _⟩, .one (.pv .nil), .one (.pv .nil) => K (vB true)
  | .neq, some ⟨.slice _, _, _, _⟩, .one (.pv .nil), .one (.pv .nil) => K (vB false)
  | .eql, some ⟨.slice _, _, _, _⟩, .one (.pv (.sl n _)), .one (.pv .nil) => (0 < n ∧ K (vB false)) ∨ K (.one .ub)
  | .neq, some ⟨.slice _, _, _, _⟩, .one (.pv (.sl n _)), .one (.pv .nil) => (0 < n ∧ K (vB true)) ∨ K (.one .ub)
  | .eql, some ⟨.interface _, _, _, _⟩, .one (.pv .ifc), .one (.pv (.lit .nilIface)) => K (vB false)
  | .neq, some ⟨.interface _, _, _, _⟩, .one (.pv .ifc), .one (.pv (.lit .nilIface)) => K (vB true)
  | .eql, some ⟨.interface _, _, _, _⟩, .one (.pv (.lit .nilIface)), .one (.pv (.lit .nilIface)) => (∃ v, y' = .const v) ∧ K (vB true)
  | .neq, some ⟨.interface _, _, _, _⟩, .one (.pv (.lit .nilIface)), .one (.pv (.lit .nilIface)) => (∃ v, y' = .const v) ∧ K (vB false)
  | .eql, some ⟨.struct fs, _, _, _⟩, .agg cs, .agg ds => ∃ ps qs, cs = ps.map AC.pv ∧ ds = qs.map AC.pv ∧ plF X fs.toList 0 ps qs ∧ X.P.stoodInHeld t = false ∧ X.P.eqGuardType X.P.depth t = false ∧ K (vB (eqPs ps qs))
  | .neq, some ⟨.struct fs, _, _, _⟩, .agg cs, .agg ds => ∃ ps qs, cs = ps.map AC.pv ∧ ds = qs.map AC.pv ∧ plF X fs.toList 0 ps qs ∧ X.P.stoodInHeld t = false ∧ X.P.eqGuardType X.P.depth t = false ∧ K (vB (!eqPs ps qs))
  | _, _, _, _ => False
theorem one_lit {w : World} {ok : Nat → Prop} {β : Bt} {v u : Value} (h : RepV w ok β (.one (.pv (.lit v))) u) : u = v := by
  have h' : RepP w ok (.lit v) u := h
  cases h'; rfl
theorem eqIn_slice {P : Program} {w : World} (d : Nat) {t e : TypeId} (a : Option Addr) (l c : Nat) (h : P.underlying t = some (.slice e)) : (Op.equalIn (d + 1) t (.slice a l c) (.slice none 0 0)).run P w = .ok a.isNone w := by
  cases a <;> simp [Op.equalIn, run_underlying h]
theorem eqIn_ifc {P : Program} {w : World} (d : Nat) {t : TypeId} {ms : Array (String × TypeId)} (tx : TypeId) (v : Value) (h : P.underlying t = some (.interface ms)) : (Op.equalIn (d + 1) t (.iface tx v) .nilIface).run P w = .ok false w := by
  simp [Op.equalIn, run_underlying h]
theorem eqIn_nilnil {P : Program} {w : World} (d : Nat) {t : TypeId} {ms : Array (String × TypeId)} (h : P.underlying t = some (.interface ms)) : (Op.equalIn (d + 1) t .nilIface .nilIface).run P w = .ok true w := by
  simp [Op.equalIn, run_underlying h]
theorem bin_eql {P : Program} {w : World} {t : TypeId} {x' y' : Operand} {u u' : Value} {b : Bool} (hg : (eqGuard .eql t x' y' u u').run P w = .ok () w) (hb : binOp .eql t u u' = (do pure (.bool (← Op.equal t u u')))) (h : ∀ d, (Op.equalIn (d + 1) t u u').run P w = .ok b w) :
    (do eqGuard .eql t x' y' u u'; binOp .eql t u u' : Sem Value).run P w = .ok (.bool b) w := by
  have h' : (Op.equal t u u').run P w = .ok b w := h 9999
  rw [Sem.run_bind, hg, Result.andThen_ok, hb, Sem.run_bind, h']; rfl
theorem bin_neq {P : Program} {w : World} {t : TypeId} {x' y' : Operand} {u u' : Value} {b : Bool} (hg : (eqGuard .neq t x' y' u u').run P w = .ok () w) (hb : binOp .neq t u u' = (do pure (.bool (!(← Op.equal t u u'))))) (h : ∀ d, (Op.equalIn (d + 1) t u u').run P w = .ok b w) :
    (do eqGuard .neq t x' y' u u'; binOp .neq t u u' : Sem Value).run P w = .ok (.bool (!b)) w := by
  have h' : (Op.equal t u u').run P w = .ok b w := h 9999
  rw [Sem.run_bind, hg, Result.andThen_ok, hb, Sem.run_bind, h']; rfl
theorem guard_const {P : Program} {w : World} {op : BinOp} {t : TypeId} {x' : Operand} {v : Value} : (eqGuard op t x' (.const v) .nilIface .nilIface).run P w = .ok () w := by
  unfold eqGuard; cases op <;> simp
theorem evEq_sound (X : Ctx) {op : BinOp} {t : TypeId} {x' y' : Operand} {x y : AV} {K : AV → Prop} (h : evEq X op t y' x y K) :
    ∃ v, K v ∧ v.refs = [] ∧ ∀ w ok β u u', RepV w ok β x u → RepV w ok β y u' → Gives X w ok β (do eqGuard op t x' y' u u'; binOp op t u u') v := by
  unfold evEq at h
  split at h
  · rename_i hT
    obtain ⟨ht, _⟩ := tinf_spec hT
    refine ⟨_, h, rfl, fun w ok β u u' hu hu' => ?_⟩
    obtain rfl := one_bool hu
    obtain rfl := one_bool hu'
    exact ⟨_, by rw [Sem.run_bind, show (eqGuard .eql t x' y' (.bool _) (.bool _)).run X.P w = .ok () w from rfl, Result.andThen_ok, run_eql_bool _ _ _ _ ht], .bool _⟩
  · rename_i hT
    obtain ⟨ht, _⟩ := tinf_spec hT
    refine ⟨_, h, rfl, fun w ok β u u' hu hu' => ?_⟩
    obtain rfl := one_bool hu
    obtain rfl := one_bool hu'
    exact ⟨_, by rw [Sem.run_bind, show (eqGuard .neq t x' y' (.bool _) (.bool _)).run X.P w = .ok () w from rfl, Result.andThen_ok, run_neq_bool _ _ _ _ ht], .bool _⟩
  · rename_i hT
    obtain ⟨ht, _⟩ := tinf_spec hT
    refine ⟨_, h, rfl, fun w ok β u u' hu hu' => ?_⟩
    obtain rfl := one_nil hu
    obtain rfl := one_nil hu'
    exact ⟨.bool true, bin_eql rfl rfl fun d => eqIn_slice d _ _ _ ht, .bool _⟩
  · rename_i hT
    obtain ⟨ht, _⟩ := tinf_spec hT
    refine ⟨_, h, rfl, fun w ok β u u' hu hu' => ?_⟩
    obtain rfl := one_nil hu
    obtain rfl := one_nil hu'
    exact ⟨.bool false, bin_neq rfl rfl fun d => eqIn_slice d _ _ _ ht, .bool _⟩
  · rename_i n cells hT
    obtain ⟨ht, _⟩ := tinf_spec hT
    rcases h with h | h
    · refine ⟨_, h.2, rfl, fun w ok β u u' hu hu' => ?_⟩
      obtain ⟨A, cap, rfl, _, _, _, h2⟩ := one_sl hu
      obtain ⟨_, _, b, o, rfl, _⟩ := h2 h.1
      obtain rfl := one_nil hu'
      exact ⟨.bool false, bin_eql rfl rfl fun d => eqIn_slice d _ _ _ ht, .bool _⟩
    · refine ⟨_, h, rfl, fun w ok β u u' hu hu' => ?_⟩
      obtain ⟨A, cap, rfl, _⟩ := one_sl hu
      obtain rfl := one_nil hu'
      exact ⟨_, bin_eql rfl rfl fun d => eqIn_slice d _ _ _ ht, _, rfl⟩
  · rename_i n cells hT
    obtain ⟨ht, _⟩ := tinf_spec hT
    rcases h with h | h
    · refine ⟨_, h.2, rfl, fun w ok β u u' hu hu' => ?_⟩
      obtain ⟨A, cap, rfl, _, _, _, h2⟩ := one_sl hu
      obtain ⟨_, _, b, o, rfl, _⟩ := h2 h.1
      obtain rfl := one_nil hu'
      exact ⟨.bool true, bin_neq rfl rfl fun d => eqIn_slice d _ _ _ ht, .bool _⟩
    · refine ⟨_, h, rfl, fun w ok β u u' hu hu' => ?_⟩
      obtain ⟨A, cap, rfl, _⟩ := one_sl hu
      obtain rfl := one_nil hu'
      exact ⟨_, bin_neq rfl rfl fun d => eqIn_slice d _ _ _ ht, _, rfl⟩
  · rename_i hT
    obtain ⟨ht, _⟩ := tinf_spec hT
    refine ⟨_, h, rfl, fun w ok β u u' hu hu' => ?_⟩
    have hu2 : RepP w ok .ifc u := hu
    cases hu2
    obtain rfl := one_lit hu'
    exact ⟨.bool false, bin_eql rfl rfl fun d => eqIn_ifc d _ _ ht, .bool _⟩
  · rename_i hT
    obtain ⟨ht, _⟩ := tinf_spec hT
    refine ⟨_, h, rfl, fun w ok β u u' hu hu' => ?_⟩
    have hu2 : RepP w ok .ifc u := hu
    cases hu2
    obtain rfl := one_lit hu'
    exact ⟨.bool true, bin_neq rfl rfl fun d => eqIn_ifc d _ _ ht, .bool _⟩
  · rename_i hT
    obtain ⟨ht, _⟩ := tinf_spec hT
    obtain ⟨⟨v, rfl⟩, h⟩ := h
    refine ⟨_, h, rfl, fun w ok β u u' hu hu' => ?_⟩
    obtain rfl := one_lit hu
    obtain rfl := one_lit hu'
    exact ⟨.bool true, bin_eql guard_const rfl fun d => eqIn_nilnil d ht, .bool _⟩
  · rename_i hT
    obtain ⟨ht, _⟩ := tinf_spec hT
    obtain ⟨⟨v, rfl⟩, h⟩ := h
    refine ⟨_, h, rfl, fun w ok β u u' hu hu' => ?_⟩
    obtain rfl := one_lit hu
    obtain rfl := one_lit hu'
    exact ⟨.bool false, bin_neq guard_const rfl fun d => eqIn_nilnil d ht, .bool _⟩
  · rename_i fs _ _ _ cs ds hT
    obtain ⟨ht, _⟩ := tinf_spec hT
    obtain ⟨ps, qs, rfl, rfl, hpl, hst, hgd, h⟩ := h
    refine ⟨_, h, rfl, fun w ok β u u' hu hu' => ?_⟩
    obtain ⟨xs, rfl, hx⟩ := hu
    obtain ⟨ys, rfl, hy⟩ := hu'
    have hf : X.P.fieldsOf t = fs := by unfold Program.fieldsOf; rw [ht]
    have h2 := run_equalIn_struct (P := X.P) w 9999 t xs ys (by rw [hf]; exact ht) hst
    have h3 : ∀ (j : Nat) p, ps[j]? = some p → ∃ u : Value, xs[0 + j]? = some u ∧ RepP w ok p u := fun j p hj => by
      obtain ⟨u, h3, h4⟩ := hx.2 j (.pv p) (by simp [hj])
      exact ⟨u, by rw [Nat.zero_add]; exact h3, h4⟩
    have h4 : ∀ (j : Nat) p, qs[j]? = some p → ∃ u : Value, ys[0 + j]? = some u ∧ RepP w ok p u := fun j p hj => by
      obtain ⟨u, h3, h4⟩ := hy.2 j (.pv p) (by simp [hj])
      exact ⟨u, by rw [Nat.zero_add]; exact h3, h4⟩
    rw [hf, run_eqFields 9998 fs.toList 0 ps qs hpl h3 h4] at h2
    refine ⟨.bool (eqPs ps qs), ?_, .bool _⟩
    rw [Sem.run_bind, run_eqGuard_agg w _ t _ _ xs ys hgd, Result.andThen_ok, run_eql_struct w, h2]; rfl
  · rename_i fs _ _ _ cs ds hT
    obtain ⟨ht, _⟩ := tinf_spec hT
    obtain ⟨ps, qs, rfl, rfl, hpl, hst, hgd, h⟩ := h
    refine ⟨_, h, rfl, fun w ok β u u' hu hu' => ?_⟩
    obtain ⟨xs, rfl, hx⟩ := hu
    obtain ⟨ys, rfl, hy⟩ := hu'
    have hf : X.P.fieldsOf t = fs := by unfold Program.fieldsOf; rw [ht]
    have h2 := run_equalIn_struct (P := X.P) w 9999 t xs ys (by rw [hf]; exact ht) hst
    have h3 : ∀ (j : Nat) p, ps[j]? = some p → ∃ u : Value, xs[0 + j]? = some u ∧ RepP w ok p u := fun j p hj => by
      obtain ⟨u, h3, h4⟩ := hx.2 j (.pv p) (by simp [hj])
      exact ⟨u, by rw [Nat.zero_add]; exact h3, h4⟩
    have h4 : ∀ (j : Nat) p, qs[j]? = some p → ∃ u : Value, ys[0 + j]? = some u ∧ RepP w ok p u := fun j p hj => by
      obtain ⟨u, h3, h4⟩ := hy.2 j (.pv p) (by simp [hj])
      exact ⟨u, by rw [Nat.zero_add]; exact h3, h4⟩
    rw [hf, run_eqFields 9998 fs.toList 0 ps qs hpl h3 h4] at h2
    refine ⟨.bool (!eqPs ps qs), ?_, .bool _⟩
    rw [Sem.run_bind, run_eqGuard_agg w _ t _ _ xs ys hgd, Result.andThen_ok, run_neq_struct w, h2]; rfl
  · exact h.elim

/-- A load through a pointer into what is read only. -/
def evLoadPv (X : Ctx) (t : TypeId) (cells : List PV) (off : Nat) (K : AV → Prop) : Prop :=
  match tinf X.P t with
  | some T => if isAggU T.u = true then off + T.size ≤ cells.length ∧ K (.agg (((cells.drop off).take T.size).map .pv)) else off < cells.length ∧ K (vP (cells.getD off .nil))
  | none => False
theorem loadCellsFrom_run {P : Program} {w : World} {b o : Nat} : ∀ (n i : Nat) (acc : Array Value), (∀ j, i ≤ j → j < i + n → ∃ v, w.cell? ⟨b, o + j, none⟩ = some v) →
    ∃ vs : List Value, (loadCellsFrom ⟨b, o, none⟩ i n acc).run P w = .ok (acc ++ vs.toArray) w ∧ vs.length = n ∧ ∀ j, j < n → vs[j]? = w.cell? ⟨b, o + (i + j), none⟩
  | 0, i, acc, _ => ⟨[], by simp [loadCellsFrom], rfl, fun j hj => by omega⟩
  | n + 1, i, acc, h => by
    obtain ⟨v, hv⟩ := h i (Nat.le_refl _) (by omega)
    obtain ⟨vs, h1, h2, h3⟩ := loadCellsFrom_run (P := P) n (i + 1) (acc.push v) (fun j h1 h2 => h j (by omega) (by omega))
    refine ⟨v :: vs, ?_, by simp [h2], fun j hj => ?_⟩
    · simp only [loadCellsFrom, Sem.run_bind, run_load, add_none, hv]
      simp only [Result.andThen_ok, h1]
      simp
    · cases j with
      | zero => simp [hv]
      | succ j => rw [List.getElem?_cons_succ, h3 j (by omega)]; congr 2; omega
theorem loadVar_agg {P : Program} {w : World} {t : TypeId} {u : TypeDesc} {i : TypeInfo} (hu : P.underlying t = some u) (hi : P.info? t = some i) (ha : isAggU u = true) {b o : Nat} (h : ∀ j, j < i.size → ∃ v, w.cell? ⟨b, o + j, none⟩ = some v) :
    ∃ vs : List Value, (loadVar t ⟨b, o, none⟩).run P w = .ok (.agg vs.toArray) w ∧ vs.length = i.size ∧ ∀ j, j < i.size → vs[j]? = w.cell? ⟨b, o + j, none⟩ := by
  obtain ⟨vs, h1, h2, h3⟩ := loadCellsFrom_run (P := P) (w := w) (b := b) (o := o) i.size 0 #[] (fun j _ hj => h j (by omega))
  refine ⟨vs, ?_, h2, fun j hj => by rw [h3 j hj, Nat.zero_add]⟩
  simp only [loadVar, Sem.run_bind, run_isAgg hu, ha, Result.andThen_ok, if_true, run_sizeOf hi, loadCells, h1, Sem.run_pure]
  simp
theorem loadVar_one {P : Program} {w : World} {t : TypeId} {u : TypeDesc} (hu : P.underlying t = some u) (ha : ¬ isAggU u = true) {b o : Nat} {v : Value} (h : w.cell? ⟨b, o, none⟩ = some v) : (loadVar t ⟨b, o, none⟩).run P w = .ok v w := by
  simp [loadVar, run_isAgg hu, ha, h]
theorem evLoadPv_sound (X : Ctx) {t : TypeId} {cells : List PV} {off : Nat} {K : AV → Prop} (h : evLoadPv X t cells off K) : ∃ v, K v ∧ v.refs = [] ∧ ∀ w ok β u, RepV w ok β (.one (.pv (.pt cells off))) u → Gives X w ok β (Instr.loadAt t u) v := by
  unfold evLoadPv at h
  split at h
  · rename_i T hT
    obtain ⟨hu, i, hi, hs, _⟩ := tinf_spec hT
    split at h
    · rename_i ha
      have hr : (AV.agg (((cells.drop off).take T.size).map AC.pv)).refs = [] := by
        unfold AV.refs acRefs
        rw [List.flatMap_eq_nil_iff]
        intro c hc
        obtain ⟨p, _, rfl⟩ := List.mem_map.1 hc
        rfl
      refine ⟨_, h.2, hr, fun w ok β u hu' => ?_⟩
      have hu2 : RepP w ok (.pt cells off) u := hu'
      cases hu2 with
      | pt b o _ _ vals hok hcell hrep =>
      have hc : ∀ j, j < T.size → ∃ p, cells[off + j]? = some p := fun j hj => ⟨_, List.getElem?_eq_getElem (by omega)⟩
      obtain ⟨vs, h1, h2, h3⟩ := loadVar_agg (P := X.P) (w := w) hu hi ha (b := b) (o := o + off) (fun j hj => by
        obtain ⟨p, hp⟩ := hc j (by omega)
        exact ⟨_, by rw [Nat.add_assoc]; exact hcell _ p hp⟩)
      refine ⟨.agg vs.toArray, by simp [Instr.loadAt, Instr.sureAddr, h1], vs.toArray, rfl, by simp [h2, hs]; omega, fun j c hj => ?_⟩
      rw [List.getElem?_map, List.getElem?_take] at hj
      split at hj
      · rename_i hjn
        rw [List.getElem?_drop] at hj
        cases hp : cells[off + j]? with
        | none => rw [hp] at hj; cases hj
        | some p =>
          rw [hp] at hj
          simp only [Option.map_some, Option.some.injEq] at hj
          subst hj
          refine ⟨vals (off + j), ?_, hrep _ p hp⟩
          rw [List.getElem?_toArray, h3 j (by omega), Nat.add_assoc]
          exact hcell _ p hp
      · cases hj
    · rename_i ha
      refine ⟨_, h.2, rfl, fun w ok β u hu' => ?_⟩
      have hu2 : RepP w ok (.pt cells off) u := hu'
      cases hu2 with
      | pt b o _ _ vals hok hcell hrep =>
      have hp : cells[off]? = some (cells.getD off .nil) := by rw [List.getD_eq_getElem?_getD, List.getElem?_eq_getElem h.1]; rfl
      exact ⟨vals off, by simp only [Instr.loadAt, Sem.run_bind, Instr.sureAddr, Sem.run_pure, Result.andThen_ok, loadVar_one hu ha (hcell off _ hp)], hrep off _ hp⟩
  · exact h.elim
end Go.VL


namespace Go.VL
open Go.RowKit
set_option linter.unusedVariables false

def evMM (mx : Bool) (x y : AV) (K : AV → Prop) : Prop :=
  match x, y with
  | .one (.pv (.int k a)), .one (.pv (.int k' b)) => k = k' ∧ K (vP (.int k (if mx = true then max a b else min a b)))
  | _, _ => False
def evMM3 (mx : Bool) (x y z : AV) (K : AV → Prop) : Prop := evMM mx x y fun v => evMM mx v z K
def evVal (X : Ctx) (op : Op) (ρ : Operand → AV) (K : AV → Prop) : Prop :=
  match op with
  | .move x | .assign x => K (ρ x)
  | .pick c a b => (match ρ c with | .one (.pv (.bool t)) => (t = true → K (ρ a)) ∧ (t = false → K (ρ b)) | _ => False)
  | .binOp op t x y _ => evBin op (ρ x) (ρ y) K ∨ evEq X op t y (ρ x) (ρ y) K
  | .unOp op _ x => evUn op (ρ x) K
  | .convert s d x => evConv X s d (ρ x) K
  | .build t parts => evBuild X t (parts.toList.map fun p => (p.1, ρ p.2)) K
  | .field t x f => evField X t (ρ x) f K
  | .extract x i => evExtract (ρ x) i K
  | .fieldAddr t x f => evFieldAddr X t (ρ x) f K
  | .indexAddr t x i => evIndexAddr X t (ρ x) (ρ i) K
  | .index t x i => evIndex X t (ρ x) (ρ i) K
  | .slice t x lo hi mx => evSlice X t (ρ x) (lo.map ρ) (hi.map ρ) (mx.map ρ) K
  | .nilCheck x => evNilC (ρ x) K
  | .makeFunc fn first caps => evMkFn fn first.toList (caps.toList.map ρ) K
  | .makeInterface t x => (match tinf X.P t with | some ⟨.interface _, _, _, _⟩ => False | some _ => K (vP .ifc) | none => False)
  | .load t x => (match ρ x with | .one (.pv (.pt cells off)) => evLoadPv X t cells off K | _ => False)
  | .call c => (match c.callee, c.args.toList, c.argTypes.toList with
    | .builtin .len, [x], [t] => evLen X t (ρ x) K
    | .builtin .min, [x, y], _ => evMM false (ρ x) (ρ y) K
    | .builtin .max, [x, y], _ => evMM true (ρ x) (ρ y) K
    | .builtin .min, [x, y, z], _ => evMM3 false (ρ x) (ρ y) (ρ z) K
    | .builtin .max, [x, y, z], _ => evMM3 true (ρ x) (ρ y) (ρ z) K
    | _, _, _ => False)
  | _ => False

def VOk (X : Ctx) (o : Oper) (ρ : Operand → AV) (v : AV) : Prop :=
  (∀ id ∈ v.refs, ∃ x ∈ o.op.operands.toList, id ∈ (ρ x).refs) ∧ ∀ w ok β (val : Operand → Value), (∀ x ∈ o.op.operands.toList, RepV w ok β (ρ x) (val x)) → ∃ u, (execOp val o).run X.P w = .ok (.value u) w ∧ RepV w ok β v u
theorem run_v {P : Program} {w : World} {s : Sem Value} {u : Value} (h : s.run P w = .ok u w) : (do pure (Next.value (← s)) : Sem Next).run P w = .ok (.value u) w := by
  rw [Sem.run_bind, h]; rfl
theorem toList_arr1 {α : Type} {a : Array α} {x : α} (h : a.toList = [x]) : a = #[x] := by cases a; simp_all
theorem toList_arr2 {α : Type} {a : Array α} {x y : α} (h : a.toList = [x, y]) : a = #[x, y] := by cases a; simp_all
theorem toList_arr3 {α : Type} {a : Array α} {x y z : α} (h : a.toList = [x, y, z]) : a = #[x, y, z] := by cases a; simp_all
theorem evMM_sound {mx : Bool} {x y : AV} {K : AV → Prop} (h : evMM mx x y K) :
    ∃ v, K v ∧ v.refs = [] ∧ ∀ (P : Program) w ok β u u', RepV w ok β x u → RepV w ok β y u' → ∃ r, (if mx = true then Builtin.max2 u u' else Builtin.min2 u u').run P w = .ok r w ∧ RepV w ok β v r := by
  unfold evMM at h
  split at h
  · rename_i k a k' b
    obtain ⟨rfl, h⟩ := h
    refine ⟨_, h, rfl, fun P w ok β u u' hu hu' => ?_⟩
    obtain ⟨rfl, h1⟩ := one_int hu
    obtain ⟨rfl, h2⟩ := one_int hu'
    cases mx with
    | true =>
      refine ⟨.int k (max a b), ?_, .int _ _ ?_⟩
      · simp only [if_true, Builtin.max2, Sem.run_pure]
        congr 2
        split <;> omega
      · simp only [if_true]; omega
    | false =>
      refine ⟨.int k (min a b), ?_, .int _ _ ?_⟩
      · simp only [Bool.false_eq_true, if_false, Builtin.min2, Sem.run_pure]
        congr 2
        split <;> omega
      · simp only [Bool.false_eq_true, if_false]; omega
  · exact h.elim
theorem exec_builtin {P : Program} {w : World} {val : Operand → Value} {o : Oper} {c : Call} {b : Builtin} (ho : o.op = .call c) (hc : c.callee = .builtin b) :
    (execOp val o).run P w = (builtin b c.argTypes o.type (c.args.map fun | .const _ => true | _ => false) (c.args.map val)).run P w := by
  unfold execOp
  rw [ho]
  simp only [resolve, hc, Sem.run_bind, Sem.run_pure, Result.andThen_ok, invoke]
  rfl
set_option maxHeartbeats 1000000 in
theorem evVal_sound (X : Ctx) {o : Oper} {ρ : Operand → AV} {K : AV → Prop} (h : evVal X o.op ρ K) : ∃ v, K v ∧ VOk X o ρ v := by
  obtain ⟨dst, op, type, pos, after, guard⟩ := o
  simp only at h
  unfold evVal at h
  split at h
  case h_1 x =>
    exact ⟨_, h, fun id hid => ⟨x, by simp [Op.operands], hid⟩, fun w ok β val hv => ⟨val x, rfl, hv x (by simp [Op.operands])⟩⟩
  case h_2 x =>
    exact ⟨_, h, fun id hid => ⟨x, by simp [Op.operands], hid⟩, fun w ok β val hv => ⟨val x, rfl, hv x (by simp [Op.operands])⟩⟩
  case h_3 c a b =>
    split at h
    · rename_i t ht
      cases t with
      | true =>
        refine ⟨_, h.1 rfl, fun id hid => ⟨a, by simp [Op.operands], hid⟩, fun w ok β val hv => ⟨val a, ?_, hv a (by simp [Op.operands])⟩⟩
        have hc := hv c (by simp [Op.operands])
        rw [ht] at hc
        simp [execOp, one_bool hc, asBool]
      | false =>
        refine ⟨_, h.2 rfl, fun id hid => ⟨b, by simp [Op.operands], hid⟩, fun w ok β val hv => ⟨val b, ?_, hv b (by simp [Op.operands])⟩⟩
        have hc := hv c (by simp [Op.operands])
        rw [ht] at hc
        simp [execOp, one_bool hc, asBool]
    · exact h.elim
  case h_4 op t x y yt =>
    rcases h with h | h
    · obtain ⟨v, hK, hr, hg⟩ := evBin_sound X (t := t) (ox := x) (oy := y) h
      exact ⟨v, hK, fun id hid => (by rw [hr] at hid; cases hid), fun w ok β val hv => by
        obtain ⟨u, h1, h2⟩ := hg w ok β _ _ (hv x (by simp [Op.operands])) (hv y (by simp [Op.operands]))
        exact ⟨u, run_v h1, h2⟩⟩
    · obtain ⟨v, hK, hr, hg⟩ := evEq_sound X (x' := x) h
      exact ⟨v, hK, fun id hid => (by rw [hr] at hid; cases hid), fun w ok β val hv => by
        obtain ⟨u, h1, h2⟩ := hg w ok β _ _ (hv x (by simp [Op.operands])) (hv y (by simp [Op.operands]))
        exact ⟨u, run_v h1, h2⟩⟩
  case h_5 op t x =>
    obtain ⟨v, hK, hr, hg⟩ := evUn_sound X h
    exact ⟨v, hK, fun id hid => ⟨x, by simp [Op.operands], hr id hid⟩, fun w ok β val hv => by
      obtain ⟨u, h1, h2⟩ := hg w ok β _ (hv x (by simp [Op.operands]))
      exact ⟨u, run_v h1, h2⟩⟩
  case h_6 s d x =>
    obtain ⟨v, hK, hr, hg⟩ := evConv_sound X h
    exact ⟨v, hK, fun id hid => ⟨x, by simp [Op.operands], hr id hid⟩, fun w ok β val hv => by
      obtain ⟨u, h1, h2⟩ := hg w ok β _ (hv x (by simp [Op.operands]))
      exact ⟨u, run_v h1, h2⟩⟩
  case h_7 t parts =>
    obtain ⟨v, hK, hr, hg⟩ := evBuild_sound X h
    refine ⟨v, hK, fun id hid => ?_, fun w ok β val hv => ?_⟩
    · obtain ⟨p, hp, hi⟩ := hr id hid
      obtain ⟨q, hq, rfl⟩ := List.mem_map.1 hp
      exact ⟨q.2, by simp only [Op.operands]; exact List.mem_map.2 ⟨q, hq, rfl⟩, hi⟩
    · obtain ⟨u, h1, h2⟩ := hg w ok β (parts.map fun (i, x) => (i, val x)) (by simp) (fun j i x hj => by
        rw [List.getElem?_map] at hj
        cases hq : parts.toList[j]? with
        | none => rw [hq] at hj; cases hj
        | some q =>
          rw [hq] at hj
          simp only [Option.map_some, Option.some.injEq, Prod.mk.injEq] at hj
          obtain ⟨rfl, rfl⟩ := hj
          have hq' : parts[j]? = some q := by simpa using hq
          exact ⟨val q.2, by simp [hq'], hv q.2 (by simp only [Op.operands]; exact List.mem_map.2 ⟨q, List.mem_of_getElem? hq, rfl⟩)⟩)
      exact ⟨u, run_v h1, h2⟩
  case h_8 t x f =>
    obtain ⟨v, hK, hr, hg⟩ := evField_sound X h
    exact ⟨v, hK, fun id hid => ⟨x, by simp [Op.operands], hr id hid⟩, fun w ok β val hv => by
      obtain ⟨u, h1, h2⟩ := hg w ok β _ (hv x (by simp [Op.operands]))
      exact ⟨u, run_v h1, h2⟩⟩
  case h_9 x i =>
    obtain ⟨v, hK, hr, hg⟩ := evExtract_sound X h
    exact ⟨v, hK, fun id hid => ⟨x, by simp [Op.operands], hr id hid⟩, fun w ok β val hv => by
      obtain ⟨u, h1, h2⟩ := hg w ok β _ (hv x (by simp [Op.operands]))
      exact ⟨u, run_v h1, h2⟩⟩
  case h_10 t x f =>
    obtain ⟨v, hK, hr, hg⟩ := evFieldAddr_sound X h
    exact ⟨v, hK, fun id hid => ⟨x, by simp [Op.operands], hr id hid⟩, fun w ok β val hv => by
      obtain ⟨u, h1, h2⟩ := hg w ok β _ (hv x (by simp [Op.operands]))
      exact ⟨u, run_v h1, h2⟩⟩
  case h_11 t x i =>
    obtain ⟨v, hK, hr, hg⟩ := evIndexAddr_sound X h
    exact ⟨v, hK, fun id hid => ⟨x, by simp [Op.operands], hr id hid⟩, fun w ok β val hv => by
      obtain ⟨u, h1, h2⟩ := hg w ok β _ _ (hv x (by simp [Op.operands])) (hv i (by simp [Op.operands]))
      exact ⟨u, run_v h1, h2⟩⟩
  case h_12 t x i =>
    obtain ⟨v, hK, hr, hg⟩ := evIndex_sound X h
    exact ⟨v, hK, fun id hid => ⟨x, by simp [Op.operands], hr id hid⟩, fun w ok β val hv => by
      obtain ⟨u, h1, h2⟩ := hg w ok β _ _ (hv x (by simp [Op.operands])) (hv i (by simp [Op.operands]))
      exact ⟨u, run_v h1, h2⟩⟩
  case h_13 t x lo hi mx =>
    have hmx : mx = none := by
      cases mx with
      | none => rfl
      | some m => simp [evSlice] at h
    subst hmx
    obtain ⟨v, hK, hr, hg⟩ := evSlice_sound X h
    refine ⟨v, hK, fun id hid => ⟨x, by simp [Op.operands], hr id hid⟩, fun w ok β val hv => ?_⟩
    obtain ⟨u, h1, h2⟩ := hg w ok β _ (lo.map val) (hi.map val) (hv x (by simp [Op.operands])) (by
      cases lo with
      | none => trivial
      | some l => exact hv l (by simp [Op.operands])) (by
      cases hi with
      | none => trivial
      | some l => exact hv l (by simp [Op.operands]))
    exact ⟨u, run_v h1, h2⟩
  case h_14 x =>
    obtain ⟨hK, hg⟩ := evNilC_sound X h
    refine ⟨_, hK, fun id hid => ⟨x, by simp [Op.operands], hid⟩, fun w ok β val hv => ⟨val x, ?_, hv x (by simp [Op.operands])⟩⟩
    rcases hg w ok β _ (hv x (by simp [Op.operands])) with ⟨a, ha⟩ | ⟨f, vs, ha⟩ <;> simp [execOp, ha]
  case h_15 fn first caps =>
    obtain ⟨v, hK, hr, hf, hg⟩ := evMkFn_sound X h
    refine ⟨v, hK, fun id hid => ?_, fun w ok β val hv => ?_⟩
    · obtain ⟨p, hp, hi⟩ := hr id hid
      obtain ⟨q, hq, rfl⟩ := List.mem_map.1 hp
      exact ⟨q, by simp only [Op.operands]; rw [Array.toList_append]; exact List.mem_append.2 (.inr hq), hi⟩
    · have hfe : first = #[] := by cases first; simp_all
      subst hfe
      refine ⟨.func fn #[] (caps.map val), by simp [execOp, Instr.makeFunc], hg w ok β _ (by simp) fun j x hj => ?_⟩
      rw [List.getElem?_map] at hj
      cases hq : caps.toList[j]? with
      | none => rw [hq] at hj; cases hj
      | some q =>
        rw [hq] at hj
        simp only [Option.map_some, Option.some.injEq] at hj
        subst hj
        have hq' : caps[j]? = some q := by simpa using hq
        exact ⟨val q, by simp [hq'], hv q (by simp only [Op.operands]; rw [Array.toList_append]; exact List.mem_append.2 (.inr (List.mem_of_getElem? hq)))⟩
  case h_16 t x =>
    split at h
    · exact h.elim
    · rename_i T hne hT
      obtain ⟨ht, _⟩ := tinf_spec hT
      refine ⟨_, h, fun id hid => by simp [AV.refs, AC.refs] at hid, fun w ok β val hv => ⟨.iface t (val x), ?_, .ifc _ _⟩⟩
      refine run_v ?_
      simp only [Instr.makeInterface, Sem.run_bind, run_underlying ht, Result.andThen_ok]
      obtain ⟨u, a, b, c⟩ := T
      cases u <;> first | rfl | exact absurd rfl (hne _ _ _ _)
    · exact h.elim
  case h_17 t x =>
    split at h
    · rename_i cells off hx
      obtain ⟨v, hK, hr, hg⟩ := evLoadPv_sound X h
      exact ⟨v, hK, fun id hid => (by rw [hr] at hid; cases hid), fun w ok β val hv => by
        obtain ⟨u, h1, h2⟩ := hg w ok β (val x) (by rw [← hx]; exact hv x (by simp [Op.operands]))
        exact ⟨u, run_v h1, h2⟩⟩
    · exact h.elim
  case h_18 c =>
    obtain ⟨callee, args, argTypes⟩ := c
    simp only at h
    split at h
    · rename_i x t ha ht
      obtain rfl := toList_arr1 ha
      obtain rfl := toList_arr1 ht
      obtain ⟨v, hK, hr, hg⟩ := evLen_sound X (ty := type) h
      exact ⟨v, hK, fun id hid => ⟨x, by simp [Op.operands, Call.operands], hr id hid⟩, fun w ok β val hv => by
        obtain ⟨u, h1, h2⟩ := hg w ok β _ (hv x (by simp [Op.operands, Call.operands]))
        exact ⟨u, by rw [exec_builtin rfl rfl]; exact run_v (by simpa using h1), h2⟩⟩
    · rename_i x y ha
      obtain rfl := toList_arr2 ha
      obtain ⟨v, hK, hr, hg⟩ := evMM_sound h
      exact ⟨v, hK, fun id hid => (by rw [hr] at hid; cases hid), fun w ok β val hv => by
        obtain ⟨u, h1, h2⟩ := hg X.P w ok β _ _ (hv x (by simp [Op.operands, Call.operands])) (hv y (by simp [Op.operands, Call.operands]))
        exact ⟨u, by rw [exec_builtin rfl rfl]; exact run_v (by simpa [Builtin.min_] using h1), h2⟩⟩
    · rename_i x y ha
      obtain rfl := toList_arr2 ha
      obtain ⟨v, hK, hr, hg⟩ := evMM_sound h
      exact ⟨v, hK, fun id hid => (by rw [hr] at hid; cases hid), fun w ok β val hv => by
        obtain ⟨u, h1, h2⟩ := hg X.P w ok β _ _ (hv x (by simp [Op.operands, Call.operands])) (hv y (by simp [Op.operands, Call.operands]))
        exact ⟨u, by rw [exec_builtin rfl rfl]; exact run_v (by simpa [Builtin.max_] using h1), h2⟩⟩
    · rename_i x y z ha
      obtain rfl := toList_arr3 ha
      obtain ⟨v1, h', hr1, hg1⟩ := evMM_sound h
      obtain ⟨v, hK, hr, hg⟩ := evMM_sound h'
      exact ⟨v, hK, fun id hid => (by rw [hr] at hid; cases hid), fun w ok β val hv => by
        obtain ⟨u1, h1, h2⟩ := hg1 X.P w ok β _ _ (hv x (by simp [Op.operands, Call.operands])) (hv y (by simp [Op.operands, Call.operands]))
        obtain ⟨u, h3, h4⟩ := hg X.P w ok β _ _ h2 (hv z (by simp [Op.operands, Call.operands]))
        simp only [Bool.false_eq_true, if_false] at h1 h3
        exact ⟨u, by rw [exec_builtin rfl rfl]; exact run_v (by simp [Builtin.min_, h1, h3]), h4⟩⟩
    · rename_i x y z ha
      obtain rfl := toList_arr3 ha
      obtain ⟨v1, h', hr1, hg1⟩ := evMM_sound h
      obtain ⟨v, hK, hr, hg⟩ := evMM_sound h'
      exact ⟨v, hK, fun id hid => (by rw [hr] at hid; cases hid), fun w ok β val hv => by
        obtain ⟨u1, h1, h2⟩ := hg1 X.P w ok β _ _ (hv x (by simp [Op.operands, Call.operands])) (hv y (by simp [Op.operands, Call.operands]))
        obtain ⟨u, h3, h4⟩ := hg X.P w ok β _ _ h2 (hv z (by simp [Op.operands, Call.operands]))
        simp only [if_true] at h1 h3
        exact ⟨u, by rw [exec_builtin rfl rfl]; exact run_v (by simp [Builtin.max_, h1, h3]), h4⟩⟩
    · exact h.elim
  case h_19 => exact h.elim
end Go.VL


namespace Go.VL
open Go.RowKit
set_option linter.unusedVariables false

def frzs (h : Hp) : List Nat → Hp
  | [] => h
  | z :: zs => frzs (frz h z) zs
theorem isSome_frzs : ∀ (zs : List Nat) (h : Hp) (i : Nat), (look (frzs h zs) i).isSome = (look h i).isSome
  | [], h, i => rfl
  | z :: zs, h, i => by rw [frzs, isSome_frzs zs, isSome_frz]
theorem look_frz_fst (h : Hp) (id i : Nat) : (look (frz h id) i).map (·.1) = (look h i).map (·.1) := by
  rw [look_frz]; split <;> simp [Function.comp_def]
theorem look_frzs_fst : ∀ (zs : List Nat) (h : Hp) (i : Nat), (look (frzs h zs) i).map (·.1) = (look h i).map (·.1)
  | [], h, i => rfl
  | z :: zs, h, i => by rw [frzs, look_frzs_fst zs, look_frz_fst]
theorem look_frzs_some : ∀ (zs : List Nat) {h : Hp} {i : Nat} {bx : Bx} {z : Bool}, look (frzs h zs) i = some (bx, z) → ∃ z', look h i = some (bx, z') ∧ (z = false → z' = false ∧ i ∉ zs)
  | [], h, i, bx, z, hl => ⟨z, hl, fun hz => ⟨hz, by simp⟩⟩
  | y :: zs, h, i, bx, z, hl => by
    rw [frzs] at hl
    obtain ⟨z1, h1, k1⟩ := look_frzs_some zs hl
    obtain ⟨z2, h2, k2⟩ := look_frz_some h1
    refine ⟨z2, h2, fun hz => ?_⟩
    obtain ⟨e1, n1⟩ := k1 hz
    obtain ⟨e2, n2⟩ := k2 e1
    exact ⟨e2, by simp [n1, n2]⟩
section
variable {X : Ctx} {F : Fr} {h : Hp} {β : Bt} {w w' : World}
theorem HRel.frzs (r : HRel X F h β w) : ∀ zs : List Nat, HRel X F (frzs h zs) β w := fun zs => by
  induction zs generalizing h with
  | nil => exact r
  | cons z zs ih => exact ih (r.frz z)
theorem ok_frzs {b : Nat} (zs : List Nat) (hb : F.ok w h β b) : F.ok w (frzs h zs) β b := by
  induction zs generalizing h with
  | nil => exact hb
  | cons z zs ih => exact ih (ok_frz hb)
/-- A frozen box lies where nothing is written. -/
theorem HRel.ok_frozen (r : HRel X F h β w) {zs : List Nat} {id g : Nat} (hid : id ∈ zs) (hs : (look h id).isSome = true) (hg : β id = some g) : F.ok w (Go.VL.frzs h zs) β g := by
  obtain ⟨e, he⟩ := Option.isSome_iff_exists.1 hs
  have hlt := r.lt he hg
  refine ⟨hlt.1, fun hb => .inr (hlt.2.resolve_left (by omega)), fun i bx hl e' => ?_⟩
  obtain ⟨z', h1, h2⟩ := look_frzs_some zs hl
  obtain ⟨_, hn⟩ := h2 rfl
  by_cases hi : i = id
  · subst hi; exact hn hid
  · exact r.inj i id _ _ g hi h1 he e' hg
end

/-- Arguments and results, read whole. -/
inductive PA where
  | one (p : PV)
  | agg (ps : List PV)
  | tup (xs : List (Bool × List PV))
def PA.av : PA → AV
  | .one p => .one (.pv p)
  | .agg ps => .agg (ps.map .pv)
  | .tup xs => .tup (xs.map fun x => (x.1, x.2.map .pv))
theorem acRefs_pv (ps : List PV) : acRefs (ps.map .pv) = [] := by
  unfold acRefs
  rw [List.flatMap_eq_nil_iff]
  intro c hc
  obtain ⟨p, _, rfl⟩ := List.mem_map.1 hc
  rfl
theorem PA.av_refs (pa : PA) : pa.av.refs = [] := by
  cases pa with
  | one p => rfl
  | agg ps => exact acRefs_pv ps
  | tup xs =>
    simp only [PA.av, AV.refs]
    rw [List.flatMap_eq_nil_iff]
    intro x hx
    obtain ⟨y, _, rfl⟩ := List.mem_map.1 hx
    exact acRefs_pv _
abbrev β0 : Bt := fun _ => none

def viewC1 (h : Hp) : AC → (PV → List Nat → Prop) → Prop
  | .pv p, K => (match p with | .nil => K (.sl 0 []) [] | p => K p [])
  | .own id sz n, K => (match look h id with | some (.pu _ l, _) => n * sz ≤ l.length ∧ K (.sl n (l.take (n * sz))) [id] | _ => False)
  | .sub id sz off n, K => (match look h id with | some (.pu _ l, _) => off + n * sz ≤ l.length ∧ K (.sl n ((l.drop off).take (n * sz))) [id] | _ => False)
  | _, _ => False
def viewL1 (h : Hp) : List AC → (List PV → List Nat → Prop) → Prop
  | [], K => K [] []
  | c :: cs, K => viewC1 h c fun p ids => viewL1 h cs fun ps ids' => K (p :: ps) (ids ++ ids')
def viewC (h : Hp) : AC → (PV → List Nat → Prop) → Prop
  | .ptr id off, K => (match look h id with
    | some (.pu _ l, _) => K (.pt l off) [id]
    | some (.mx cs, _) => viewL1 h cs fun ps ids => K (.pt ps off) (id :: ids)
    | some (.ob _, _) => False
    | none => False)
  | c, K => viewC1 h c K
def viewCap (h : Hp) : Cap → (PV → List Nat → Prop) → Prop
  | .pv p, K => K p []
  | .ptr id off, K => viewC h (.ptr id off) K
def viewCaps (h : Hp) : List Cap → (List PV → List Nat → Prop) → Prop
  | [], K => K [] []
  | c :: cs, K => viewCap h c fun p ids => viewCaps h cs fun ps ids' => K (p :: ps) (ids ++ ids')
def viewA (h : Hp) : AV → (PA → List Nat → Prop) → Prop
  | .one (.clo f caps), K => viewCaps h caps fun ps ids => K (.one (.clo f ps)) ids
  | .one c, K => viewC h c fun p ids => K (.one p) ids
  | .agg cs, K => viewL1 h cs fun ps ids => K (.agg ps) ids
  | _, _ => False
def viewAs (h : Hp) : List AV → (List PA → List Nat → Prop) → Prop
  | [], K => K [] []
  | x :: xs, K => viewA h x fun p ids => viewAs h xs fun ps ids' => K (p :: ps) (ids ++ ids')

/-- A later heap that holds the same in some boxes. -/
def Agree (h h2 : Hp) (ids : List Nat) : Prop := ∀ id ∈ ids, (look h2 id).map (·.1) = (look h id).map (·.1)
theorem Agree.mono {h h2 : Hp} {ids ids' : List Nat} (a : Agree h h2 ids) (s : ∀ id ∈ ids', id ∈ ids) : Agree h h2 ids' := fun id hid => a id (s id hid)
/-- What may be read: what the frame may read, and the boxes named. -/
structure Wide (X : Ctx) (F : Fr) (h : Hp) (β : Bt) (w : World) (ids : List Nat) (ok' : Nat → Prop) : Prop where
  rel : HRel X F h β w
  ok : ∀ b, F.ok w h β b → ok' b
  own : ∀ id ∈ ids, ∀ g, β id = some g → ok' g
theorem Wide.mono {X : Ctx} {F : Fr} {h : Hp} {β : Bt} {w : World} {ids ids' : List Nat} {ok' : Nat → Prop} (a : Wide X F h β w ids ok') (s : ∀ id ∈ ids', id ∈ ids) : Wide X F h β w ids' ok' :=
  ⟨a.rel, a.ok, fun id hid => a.own id (s id hid)⟩
def VwC (h : Hp) (c : AC) (p : PV) (ids : List Nat) : Prop := ∀ h2, Agree h h2 ids → ∀ X F β w ok' u, Wide X F h2 β w ids ok' → RepC w (F.ok w h2 β) β c u → RepP w ok' p u
theorem box_pu {X : Ctx} {F : Fr} {h : Hp} {β : Bt} {w : World} (r : HRel X F h β w) {id g : Nat} {e : TypeId} {l : List PV} {z : Bool} (hl : look h id = some (.pu e l, z)) (hg : β id = some g) :
    ∃ arr, RowAt w id g arr e ∧ ∀ (j : Nat) p, l[j]? = some p → ∃ v, arr[j]? = some v ∧ RepP w (F.ok w h β) p v := by
  have := r.box id _ z hl
  unfold BoxRep at this
  rw [hg] at this
  obtain ⟨_, arr, e', ha, he, hc⟩ := this
  obtain rfl := he e l rfl
  refine ⟨arr, ha, fun j p hj => ?_⟩
  obtain ⟨v, hv, hr⟩ := hc j (.pv p) (by simp [Bx.cells, hj])
  exact ⟨v, hv, hr⟩
theorem cell_arr {w : World} {id g j : Nat} {arr : Array Value} {e : TypeId} (h : RowAt w id g arr e) : w.cell? ⟨g, j, none⟩ = arr[j]? := h.cell j
theorem agree_pu {h h2 : Hp} {ids : List Nat} (a : Agree h h2 ids) {id : Nat} (hid : id ∈ ids) {bx : Bx} {z : Bool} (hl : look h id = some (bx, z)) : ∃ z', look h2 id = some (bx, z') := by
  have := a id hid
  rw [hl] at this
  cases h2' : look h2 id with
  | none => rw [h2'] at this; cases this
  | some e =>
    rw [h2'] at this
    simp only [Option.map_some, Option.some.injEq] at this
    exact ⟨e.2, by rw [← this]⟩
theorem viewC1_sound {h : Hp} {c : AC} {K : PV → List Nat → Prop} (hv : viewC1 h c K) : ∃ p ids, K p ids ∧ (∀ id ∈ ids, id ∈ c.refs) ∧ VwC h c p ids := by
  unfold viewC1 at hv
  split at hv
  · rename_i p
    split at hv
    · refine ⟨_, _, hv, fun id hid => by simp at hid, fun h2 _ X F β w ok' u hw hu => ?_⟩
      have hu' : RepP w (F.ok w h2 β) .nil u := hu
      cases hu'
      exact .sl0 _ _
    · refine ⟨_, _, hv, fun id hid => by simp at hid, fun h2 _ X F β w ok' u hw hu => ?_⟩
      exact RepP.mono (fun b hb => ⟨hw.ok b hb, rfl⟩) hu
  · rename_i id sz n
    split at hv
    · rename_i e l z hl
      refine ⟨_, _, hv.2, fun i hi => hi, fun h2 ha X F β w ok' u hw hu => ?_⟩
      obtain ⟨z', hl2⟩ := agree_pu ha (by simp) hl
      rcases hu with ⟨rfl, rfl⟩ | ⟨g, cap, hg, rfl, h1, h2', h3⟩
      · simp only [Nat.zero_mul, List.take_zero]; exact .sl0 _ _
      · obtain ⟨arr, harr, hc⟩ := box_pu hw.rel hl2 hg
        refine RepP.mk_sl (sz := sz) h1 h2' (by rw [List.length_take]; have := hv.1; omega) fun _ => ⟨hw.own id (by simp) g hg, fun j p hj => ?_⟩
        rw [List.getElem?_take] at hj
        split at hj
        · obtain ⟨v, hv', hr⟩ := hc j p hj
          exact ⟨v, by rw [cell_arr harr, Nat.zero_add]; exact hv', hr.mono fun b hb => ⟨hw.ok b hb, rfl⟩⟩
        · cases hj
    · exact hv.elim
  · rename_i id sz off n
    split at hv
    · rename_i e l z hl
      refine ⟨_, _, hv.2, fun i hi => hi, fun h2 ha X F β w ok' u hw hu => ?_⟩
      obtain ⟨z', hl2⟩ := agree_pu ha (by simp) hl
      obtain ⟨A, cap, rfl, h1, h2', h3⟩ := hu
      by_cases hn : n = 0
      · subst hn; simp only [Nat.zero_mul, List.take_zero]; exact .sl0 _ _
      · rcases h3 with h3 | ⟨g, hg, rfl⟩
        · exact absurd h3 hn
        · obtain ⟨arr, harr, hc⟩ := box_pu hw.rel hl2 hg
          refine RepP.mk_sl (sz := sz) h1 h2' (by rw [List.length_take, List.length_drop]; have := hv.1; omega) fun _ => ⟨hw.own id (by simp) g hg, fun j p hj => ?_⟩
          rw [List.getElem?_take] at hj
          split at hj
          · rw [List.getElem?_drop] at hj
            obtain ⟨v, hv', hr⟩ := hc _ p hj
            exact ⟨v, by rw [cell_arr harr]; exact hv', hr.mono fun b hb => ⟨hw.ok b hb, rfl⟩⟩
          · cases hj
    · exact hv.elim
  · exact hv.elim
/-- Cells, one by one. -/
def VwL (h : Hp) (cs : List AC) (ps : List PV) (ids : List Nat) : Prop := ps.length = cs.length ∧ ∀ h2, Agree h h2 ids → ∀ X F β w ok', Wide X F h2 β w ids ok' → ∀ (j : Nat) c p u, cs[j]? = some c → ps[j]? = some p → RepC w (F.ok w h2 β) β c u → RepP w ok' p u
theorem viewL1_sound {h : Hp} : ∀ {cs : List AC} {K : List PV → List Nat → Prop}, viewL1 h cs K → ∃ ps ids, K ps ids ∧ (∀ id ∈ ids, id ∈ acRefs cs) ∧ VwL h cs ps ids
  | [], K, hv => ⟨[], [], hv, fun id hid => by simp at hid, rfl, fun h2 _ X F β w ok' _ j c p u hj => by simp at hj⟩
  | c :: cs, K, hv => by
    obtain ⟨p, ids, h1, hr, hp⟩ := viewC1_sound hv
    obtain ⟨ps, ids', h2, hr', hl, hps⟩ := viewL1_sound h1
    refine ⟨_, _, h2, fun id hid => ?_, by simp [hl], fun h3 ha X F β w ok' hw j c' p' u hj hj' hu => ?_⟩
    · rw [List.mem_append] at hid
      unfold acRefs at hr' ⊢
      rw [List.flatMap_cons, List.mem_append]
      exact hid.imp (hr id) (hr' id)
    · have a1 := ha.mono (ids' := ids) (fun id hid => List.mem_append.2 (.inl hid))
      have a2 := ha.mono (ids' := ids') (fun id hid => List.mem_append.2 (.inr hid))
      have w1 := hw.mono (ids' := ids) (fun id hid => List.mem_append.2 (.inl hid))
      have w2 := hw.mono (ids' := ids') (fun id hid => List.mem_append.2 (.inr hid))
      cases j with
      | zero =>
        simp only [List.getElem?_cons_zero, Option.some.injEq] at hj hj'
        subst hj; subst hj'
        exact hp h3 a1 X F β w ok' u w1 hu
      | succ j => exact hps h3 a2 X F β w ok' w2 j c' p' u (by simpa using hj) (by simpa using hj') hu
theorem viewC_sound {h : Hp} {c : AC} {K : PV → List Nat → Prop} (hv : viewC h c K) (hwf : ∀ id bx z, look h id = some (bx, z) → ∀ i ∈ acRefs bx.cells, (look h i).isSome = true) (hc : ∀ id ∈ c.refs, (look h id).isSome = true) :
    ∃ p ids, K p ids ∧ (∀ id ∈ ids, (look h id).isSome = true) ∧ VwC h c p ids := by
  unfold viewC at hv
  split at hv
  · rename_i id off
    split at hv
    · rename_i e l z hl
      refine ⟨_, _, hv, fun i hi => hc i hi, fun h2 ha X F β w ok' u hw hu => ?_⟩
      obtain ⟨z', hl2⟩ := agree_pu ha (by simp) hl
      obtain ⟨g, hg, rfl⟩ := hu
      obtain ⟨arr, harr, hcl⟩ := box_pu hw.rel hl2 hg
      have hcl' : ∀ (j : Nat) p, l[j]? = some p → ∃ v, w.cell? ⟨g, 0 + j, none⟩ = some v ∧ RepP w ok' p v := fun j p hj => by
        obtain ⟨v, hv', hr⟩ := hcl j p hj
        exact ⟨v, by rw [cell_arr harr, Nat.zero_add]; exact hv', hr.mono fun b hb => ⟨hw.ok b hb, rfl⟩⟩
      have := RepP.pt (w := w) (ok := ok') g 0 off l _ (hw.own id (by simp) g hg) (vals_of hcl').1 (vals_of hcl').2
      rwa [Nat.zero_add] at this
    · rename_i cs z hl
      obtain ⟨ps, ids, h1, hr, hlen, hps⟩ := viewL1_sound hv
      refine ⟨_, _, h1, fun i hi => ?_, fun h2 ha X F β w ok' u hw hu => ?_⟩
      · rcases List.mem_cons.1 hi with rfl | hi
        · rw [hl]; rfl
        · exact hwf id _ z hl i (hr i hi)
      · obtain ⟨z', hl2⟩ := agree_pu ha (by simp) hl
        obtain ⟨g, hg, rfl⟩ := hu
        have hb := hw.rel.box id _ z' hl2
        unfold BoxRep at hb
        rw [hg] at hb
        obtain ⟨_, arr, e', harr, _, hcc⟩ := hb
        have hcl' : ∀ (j : Nat) p, ps[j]? = some p → ∃ v, w.cell? ⟨g, 0 + j, none⟩ = some v ∧ RepP w ok' p v := fun j p hj => by
          have hjl : j < cs.length := by rw [← hlen]; exact (List.getElem?_eq_some_iff.1 hj).1
          obtain ⟨v, hv', hr'⟩ := hcc j cs[j] (List.getElem?_eq_getElem hjl)
          exact ⟨v, by rw [cell_arr harr, Nat.zero_add]; exact hv', hps h2 (ha.mono fun i hi => List.mem_cons.2 (.inr hi)) X F β w ok' (hw.mono fun i hi => List.mem_cons.2 (.inr hi)) j _ p v (List.getElem?_eq_getElem hjl) hj hr'⟩
        have := RepP.pt (w := w) (ok := ok') g 0 off ps _ (hw.own id (by simp) g hg) (vals_of hcl').1 (vals_of hcl').2
        rwa [Nat.zero_add] at this
    · exact hv.elim
    · exact hv.elim
  · obtain ⟨p, ids, h1, hr, hp⟩ := viewC1_sound hv
    exact ⟨p, ids, h1, fun id hid => hc id (hr id hid), hp⟩
def VwCaps (h : Hp) (cs : List Cap) (ps : List PV) (ids : List Nat) : Prop := ps.length = cs.length ∧ ∀ h2, Agree h h2 ids → ∀ X F β w ok', Wide X F h2 β w ids ok' → ∀ (j : Nat) c p u, cs[j]? = some c → ps[j]? = some p → RepCap w (F.ok w h2 β) β c u → RepP w ok' p u
theorem viewCaps_sound {h : Hp} (hwf : ∀ id bx z, look h id = some (bx, z) → ∀ i ∈ acRefs bx.cells, (look h i).isSome = true) : ∀ {cs : List Cap} {K : List PV → List Nat → Prop}, viewCaps h cs K → (∀ id ∈ cs.flatMap Cap.refs, (look h id).isSome = true) →
    ∃ ps ids, K ps ids ∧ (∀ id ∈ ids, (look h id).isSome = true) ∧ VwCaps h cs ps ids
  | [], K, hv, _ => ⟨[], [], hv, fun id hid => by simp at hid, rfl, fun h2 _ X F β w ok' _ j c p u hj => by simp at hj⟩
  | c :: cs, K, hv, hc => by
    have hcap : ∃ p ids, viewCaps h cs (fun ps ids' => K (p :: ps) (ids ++ ids')) ∧ (∀ id ∈ ids, (look h id).isSome = true) ∧ ∀ h2, Agree h h2 ids → ∀ X F β w ok' u, Wide X F h2 β w ids ok' → RepCap w (F.ok w h2 β) β c u → RepP w ok' p u := by
      cases c with
      | pv p => exact ⟨p, [], hv, fun id hid => by simp at hid, fun h2 _ X F β w ok' u hw hu => RepP.mono (fun b hb => ⟨hw.ok b hb, rfl⟩) hu⟩
      | ptr id off =>
        obtain ⟨p, ids, h1, hr, hp⟩ := viewC_sound (c := .ptr id off) (show viewC h (.ptr id off) (fun p ids => viewCaps h cs fun ps ids' => K (p :: ps) (ids ++ ids')) from hv) hwf (fun i hi => hc i (by simp only [List.flatMap_cons, List.mem_append]; exact .inl hi))
        exact ⟨p, ids, h1, hr, hp⟩
    obtain ⟨p, ids, h1, hr, hp⟩ := hcap
    obtain ⟨ps, ids', h2, hr', hl, hps⟩ := viewCaps_sound hwf h1 (fun i hi => hc i (by simp only [List.flatMap_cons, List.mem_append]; exact .inr hi))
    refine ⟨_, _, h2, fun id hid => (List.mem_append.1 hid).elim (hr id) (hr' id), by simp [hl], fun h3 ha X F β w ok' hw j c' p' u hj hj' hu => ?_⟩
    cases j with
    | zero =>
      simp only [List.getElem?_cons_zero, Option.some.injEq] at hj hj'
      subst hj; subst hj'
      exact hp h3 (ha.mono fun id hid => List.mem_append.2 (.inl hid)) X F β w ok' u (hw.mono fun id hid => List.mem_append.2 (.inl hid)) hu
    | succ j => exact hps h3 (ha.mono fun id hid => List.mem_append.2 (.inr hid)) X F β w ok' (hw.mono fun id hid => List.mem_append.2 (.inr hid)) j c' p' u (by simpa using hj) (by simpa using hj') hu
def VwA (h : Hp) (x : AV) (p : PA) (ids : List Nat) : Prop := ∀ h2, Agree h h2 ids → ∀ X F β w ok' u, Wide X F h2 β w ids ok' → RepV w (F.ok w h2 β) β x u → RepV w ok' β0 p.av u
theorem repL_pv {w : World} {ok' : Nat → Prop} {ps : List PV} {vs : Array Value} (hl : vs.size = ps.length) (h : ∀ (j : Nat) p, ps[j]? = some p → ∃ u, vs[j]? = some u ∧ RepP w ok' p u) : RepL w ok' β0 (ps.map .pv) vs :=
  ⟨by simpa using hl, fun j c hj => by
    rw [List.getElem?_map] at hj
    cases hp : ps[j]? with
    | none => rw [hp] at hj; cases hj
    | some p =>
      rw [hp] at hj
      simp only [Option.map_some, Option.some.injEq] at hj
      subst hj
      exact h j p hp⟩
theorem viewA_sound {h : Hp} (hwf : ∀ id bx z, look h id = some (bx, z) → ∀ i ∈ acRefs bx.cells, (look h i).isSome = true) {x : AV} {K : PA → List Nat → Prop} (hv : viewA h x K) (hc : ∀ id ∈ x.refs, (look h id).isSome = true) :
    ∃ p ids, K p ids ∧ (∀ id ∈ ids, (look h id).isSome = true) ∧ VwA h x p ids := by
  unfold viewA at hv
  split at hv
  · rename_i f caps
    obtain ⟨ps, ids, h1, hr, hl, hps⟩ := viewCaps_sound hwf hv hc
    refine ⟨_, _, h1, hr, fun h2 ha X F β w ok' u hw hu => ?_⟩
    obtain ⟨vs, rfl, hs, hcc⟩ := hu
    have key : ∀ (j : Nat) p, ps[j]? = some p → ∃ v, vs[j]? = some v ∧ RepP w ok' p v := fun j p hj => by
      have hjl : j < caps.length := by rw [← hl]; exact (List.getElem?_eq_some_iff.1 hj).1
      obtain ⟨v, hv', hr'⟩ := hcc j caps[j] (List.getElem?_eq_getElem hjl)
      exact ⟨v, hv', hps h2 ha X F β w ok' hw j _ p v (List.getElem?_eq_getElem hjl) hj hr'⟩
    refine RepP.clo f ps vs (fun j => (vs[j]?).getD undef) (by rw [hs, hl]) (fun j p hj => ?_) (fun j p hj => ?_)
    · obtain ⟨v, hv, _⟩ := key j p hj; simp [hv]
    · obtain ⟨v, hv, hr⟩ := key j p hj; simp only [hv]; exact hr
  · obtain ⟨p, ids, h1, hr, hp⟩ := viewC_sound hv hwf hc
    exact ⟨_, _, h1, hr, hp⟩
  · rename_i cs
    obtain ⟨ps, ids, h1, hr, hl, hps⟩ := viewL1_sound hv
    refine ⟨_, _, h1, fun id hid => hc id (hr id hid), fun h2 ha X F β w ok' u hw hu => ?_⟩
    obtain ⟨vs, rfl, hs, hcc⟩ := hu
    refine ⟨vs, rfl, repL_pv (by rw [hs, hl]) fun j p hj => ?_⟩
    have hjl : j < cs.length := by rw [← hl]; exact (List.getElem?_eq_some_iff.1 hj).1
    obtain ⟨v, hv', hr'⟩ := hcc j cs[j] (List.getElem?_eq_getElem hjl)
    exact ⟨v, hv', hps h2 ha X F β w ok' hw j _ p v (List.getElem?_eq_getElem hjl) hj hr'⟩
  · exact hv.elim
def VwAs (h : Hp) (xs : List AV) (ps : List PA) (ids : List Nat) : Prop := ps.length = xs.length ∧ ∀ h2, Agree h h2 ids → ∀ X F β w ok', Wide X F h2 β w ids ok' → ∀ (j : Nat) x p u, xs[j]? = some x → ps[j]? = some p → RepV w (F.ok w h2 β) β x u → RepV w ok' β0 p.av u
theorem viewAs_sound {h : Hp} (hwf : ∀ id bx z, look h id = some (bx, z) → ∀ i ∈ acRefs bx.cells, (look h i).isSome = true) : ∀ {xs : List AV} {K : List PA → List Nat → Prop}, viewAs h xs K → (∀ x ∈ xs, ∀ id ∈ x.refs, (look h id).isSome = true) →
    ∃ ps ids, K ps ids ∧ (∀ id ∈ ids, (look h id).isSome = true) ∧ VwAs h xs ps ids
  | [], K, hv, _ => ⟨[], [], hv, fun id hid => by simp at hid, rfl, fun h2 _ X F β w ok' _ j c p u hj => by simp at hj⟩
  | x :: xs, K, hv, hc => by
    obtain ⟨p, ids, h1, hr, hp⟩ := viewA_sound hwf hv (hc x (by simp))
    obtain ⟨ps, ids', h2, hr', hl, hps⟩ := viewAs_sound hwf h1 (fun y hy => hc y (by simp [hy]))
    refine ⟨_, _, h2, fun id hid => (List.mem_append.1 hid).elim (hr id) (hr' id), by simp [hl], fun h3 ha X F β w ok' hw j c' p' u hj hj' hu => ?_⟩
    cases j with
    | zero =>
      simp only [List.getElem?_cons_zero, Option.some.injEq] at hj hj'
      subst hj; subst hj'
      exact hp h3 (ha.mono fun id hid => List.mem_append.2 (.inl hid)) X F β w ok' u (hw.mono fun id hid => List.mem_append.2 (.inl hid)) hu
    | succ j => exact hps h3 (ha.mono fun id hid => List.mem_append.2 (.inr hid)) X F β w ok' (hw.mono fun id hid => List.mem_append.2 (.inr hid)) j c' p' u (by simpa using hj) (by simpa using hj') hu
end Go.VL


namespace Go.VL
open Go.RowKit
set_option linter.unusedVariables false

structure Post (X : Ctx) (F : Fr) (h : Hp) (β : Bt) (w : World) (h' : Hp) (β' : Bt) (w' : World) (m : Option Nat) : Prop where
  rel : HRel X F h' β' w'
  keep : Keeps (fun i => (look h i).isSome = true ∧ m ≠ some i) w (F.ok w h β) β w' (F.ok w' h' β') β'
  dom : ∀ i, (look h i).isSome = true → (look h' i).isSome = true
def SemOp (X : Ctx) (o : Oper) (ρ : Operand → AV) (h : Hp) (v : AV) (h' : Hp) (m : Option Nat) : Prop :=
  ∀ F β w (a : Act), HRel X F h β w → (∀ x ∈ o.op.operands.toList, RepV w (F.ok w h β) β (ρ x) (a.eval x) ∧ ∀ id ∈ (ρ x).refs, (look h id).isSome = true) →
  ∀ (next : Act → World → Prop) (Q : Exit → Act → World → Prop),
    (∀ u w' β', Post X F h β w h' β' w' m → RepV w' (F.ok w' h' β') β' v u → (∀ id ∈ v.refs, (look h' id).isSome = true) → next (a.put o.dst u) w') → o.wp X.P a w next Q
def upd (h : Hp) (zs : List Nat) (add : Option (Nat × Bx)) : Hp :=
  match add with
  | none => frzs h zs
  | some (id, bx) => put (frzs h zs) id (bx, false)
/-- An operation that writes nothing: what it yields wherever the boxes that it reads hold the same; the boxes that it hands on, frozen; the box that it makes. -/
def NSem (X : Ctx) (o : Oper) (ρ : Operand → AV) (h : Hp) (v : AV) (rd zs : List Nat) (add : Option (Nat × Bx)) : Prop :=
  ∀ h2, Agree h h2 rd → (∀ id bx, add = some (id, bx) → look h2 id = none ∧ id < 1000) → SemOp X o ρ h2 v (upd h2 zs add) none
theorem agree_isSome {h h2 : Hp} {ids : List Nat} (a : Agree h h2 ids) {id : Nat} (hid : id ∈ ids) (hs : (look h id).isSome = true) : (look h2 id).isSome = true := by
  have := a id hid
  cases h1 : look h id with
  | none => rw [h1] at hs; cases hs
  | some e => rw [h1] at this; cases h2' : look h2 id with
    | none => rw [h2'] at this; cases this
    | some e => rfl
theorem Post.refl {X : Ctx} {F : Fr} {h : Hp} {β : Bt} {w : World} (r : HRel X F h β w) : Post X F h β w h β w none := ⟨r, Keeps.refl _ _ _, fun _ h => h⟩
theorem upon_wp {P : Program} {o : Oper} {a : Act} {w w' : World} {u : Value} {next : Act → World → Prop} {Q : Exit → Act → World → Prop} (h : (execOp a.eval o).run P w = .ok (.value u) w') (hn : next (a.put o.dst u) w') : o.wp P a w next Q := by
  unfold Oper.wp Oper.upon
  rw [h]; exact hn
theorem upon_skip {P : Program} {o : Oper} {a : Act} {w w' : World} {next : Act → World → Prop} {Q : Exit → Act → World → Prop} (h : (execOp a.eval o).run P w = .ok .skip w') (hn : next (a.put o.dst undef) w') : o.wp P a w next Q := by
  unfold Oper.wp Oper.upon
  rw [h]; exact hn
theorem VOk.nsem {X : Ctx} {o : Oper} {ρ : Operand → AV} {v : AV} (k : VOk X o ρ v) (h : Hp) : NSem X o ρ h v [] [] none := fun h2 _ _ F β w a r hv next Q hn => by
  obtain ⟨u, h1, h3⟩ := k.2 w (F.ok w h2 β) β a.eval fun x hx => (hv x hx).1
  exact upon_wp h1 (hn u w β (Post.refl r) h3 fun id hid => by
    obtain ⟨x, hx, hi⟩ := k.1 id hid
    exact (hv x hx).2 id hi)

/-! ### A load of an own box -/
def evLoadBx (X : Ctx) (t : TypeId) (h : Hp) (id off : Nat) (K : AV → Prop) : Prop :=
  match tinf X.P t, look h id with
  | some T, some (.mx cs, _) => if isAggU T.u = true then off + T.size ≤ cs.length ∧ K (.agg ((cs.drop off).take T.size)) else (match cs[off]? with | some c => K (.one c) | none => False)
  | some T, some (.pu _ l, _) => if isAggU T.u = true then off + T.size ≤ l.length ∧ K (.agg (((l.drop off).take T.size).map .pv)) else off < l.length ∧ K (vP (l.getD off .nil))
  | _, _ => False
/-- The same, told of the box's cells. -/
theorem evLoadBx_cells {X : Ctx} {t : TypeId} {h : Hp} {id off : Nat} {K : AV → Prop} (hv : evLoadBx X t h id off K) :
    ∃ T bx z v, tinf X.P t = some T ∧ (bx.row = true ∧ look h id = some (bx, z)) ∧ K v ∧ ((isAggU T.u = true ∧ off + T.size ≤ bx.cells.length ∧ v = .agg ((bx.cells.drop off).take T.size)) ∨ (¬ isAggU T.u = true ∧ ∃ c, bx.cells[off]? = some c ∧ v = .one c)) := by
  unfold evLoadBx at hv
  split at hv
  · rename_i T cs z hT hl
    split at hv
    · rename_i ha; exact ⟨T, _, z, _, hT, ⟨rfl, hl⟩, hv.2, .inl ⟨ha, hv.1, rfl⟩⟩
    · rename_i ha
      split at hv
      · rename_i c hc; exact ⟨T, _, z, _, hT, ⟨rfl, hl⟩, hv, .inr ⟨ha, c, hc, rfl⟩⟩
      · exact hv.elim
  · rename_i T e l z hT hl
    split at hv
    · rename_i ha
      exact ⟨T, _, z, _, hT, ⟨rfl, hl⟩, hv.2, .inl ⟨ha, by simpa [Bx.cells] using hv.1, by simp [Bx.cells, List.map_take, List.map_drop]⟩⟩
    · rename_i ha
      exact ⟨T, _, z, _, hT, ⟨rfl, hl⟩, hv.2, .inr ⟨ha, _, by simp [Bx.cells, List.getD_eq_getElem?_getD, hv.1], rfl⟩⟩
  · exact hv.elim
theorem evLoadBx_sound {X : Ctx} {o : Oper} {t : TypeId} {x : Operand} (ho : o.op = .load t x) {ρ : Operand → AV} {h : Hp} {id off : Nat} (hx : ρ x = .one (.ptr id off)) {K : AV → Prop} (hv : evLoadBx X t h id off K) :
    ∃ v, K v ∧ NSem X o ρ h v [id] [] none := by
  obtain ⟨T, bx, z, v, hT, ⟨hrow, hl⟩, hK, hcase⟩ := evLoadBx_cells hv
  obtain ⟨hu, i, hi, hs, _⟩ := tinf_spec hT
  refine ⟨v, hK, fun h2 ha _ F β w a r hv' next Q hn => ?_⟩
  have hxm : x ∈ o.op.operands.toList := by rw [ho]; simp [Op.operands]
  obtain ⟨hxv, hxr⟩ := hv' x hxm
  rw [hx] at hxv
  obtain ⟨g, hg, hgv⟩ := hxv
  obtain ⟨z', hl2⟩ := agree_pu ha (by simp) hl
  have hb := r.box id bx z' hl2
  unfold BoxRep at hb
  rw [hg] at hb
  obtain ⟨_, arr, e, harr, _, hcells⟩ := hb
  have harr := harr.is hrow
  have hex : execOp a.eval o = (do pure (Next.value (← Instr.loadAt t (.pointer (some ⟨g, off, none⟩)))) : Sem Next) := by
    unfold execOp; rw [ho]; simp only [hgv]
  rcases hcase with ⟨ha', hlen, rfl⟩ | ⟨ha', c, hc, rfl⟩
  · obtain ⟨vs, h1, h2', h3⟩ := loadVar_agg (P := X.P) (w := w) hu hi ha' (b := g) (o := off) (fun j hj => by
      obtain ⟨u, hu', _⟩ := hcells (off + j) _ (List.getElem?_eq_getElem (by omega))
      exact ⟨u, by rw [cell_arr harr]; exact hu'⟩)
    refine upon_wp (u := .agg vs.toArray) (w' := w) (by rw [hex]; exact run_v (by simp [Instr.loadAt, Instr.sureAddr, h1])) (hn _ w β (Post.refl r) ⟨vs.toArray, rfl, by simp [h2', hs]; omega, fun j c hj => ?_⟩ fun i hi => ?_)
    · rw [List.getElem?_take] at hj
      split at hj
      · rename_i hjn
        rw [List.getElem?_drop] at hj
        obtain ⟨u, hu', hr⟩ := hcells _ c hj
        refine ⟨u, ?_, hr⟩
        rw [List.getElem?_toArray, h3 j (by omega), cell_arr harr]
        exact hu'
      · cases hj
    · refine r.wf id bx z' hl2 i (acRefs_sub (fun c hc => List.mem_of_mem_drop (List.mem_of_mem_take hc)) i hi)
  · obtain ⟨u, hu', hr⟩ := hcells off c hc
    exact upon_wp (u := u) (w' := w) (by rw [hex]; exact run_v (by simp only [Instr.loadAt, Sem.run_bind, Instr.sureAddr, Sem.run_pure, Result.andThen_ok]; exact loadVar_one hu ha' (by rw [cell_arr harr]; exact hu'))) (hn u w β (Post.refl r) hr fun i hi => r.wf id bx z' hl2 i (List.mem_flatMap.2 ⟨c, List.mem_of_getElem? hc, hi⟩))

/-! ### A variable made -/
theorem post_add {X : Ctx} {F : Fr} {h : Hp} {β : Bt} {w : World} {id : Nat} {bx : Bx} {arr : Array Value} {e : TypeId} (r : HRel X F h β w) (hn : look h id = none ∧ id < 1000) (hbr : bx.row = true) (he : ∀ e' l, bx = .pu e' l → e' = e)
    (hc : ∀ (j : Nat) c, bx.cells[j]? = some c → ∃ u : Value, arr[j]? = some u ∧ RepC w (F.ok w h β) β c u) (hw : ∀ i ∈ acRefs bx.cells, (look h i).isSome = true) :
    Post X F h β w (put h id (bx, false)) (upd1 β id (some w.heap.size)) (w.alloc (.cells arr e)) none where
  rel := r.add hn.1 hn.2 hbr he hc hw
  keep := by
    have := r.keeps_add (bx := bx) (o := .cells arr e) hn.1
    exact ⟨this.blk, fun i hi => this.ids i hi.1⟩
  dom := fun i hi => by rw [look_put]; split <;> simp_all
/-- Cells put into a new box. -/
theorem new_boxB {X : Ctx} {o : Oper} {ρ : Operand → AV} {h : Hp} {id : Nat} {bx : Bx} (hbr : bx.row = true) (e : TypeId) (he : ∀ e' l, bx = .pu e' l → e' = e)
    (hx : ∀ (F : Fr) (β : Bt) (w : World) (a : Act) (h2 : Hp), (∀ x ∈ o.op.operands.toList, RepV w (F.ok w h2 β) β (ρ x) (a.eval x) ∧ ∀ id ∈ (ρ x).refs, (look h2 id).isSome = true) →
      ∃ arr, (execOp a.eval o).run X.P w = .ok (.value (.pointer (some ⟨w.heap.size, 0, none⟩))) (w.alloc (.cells arr e)) ∧ RepL w (F.ok w h2 β) β bx.cells arr ∧ ∀ i ∈ acRefs bx.cells, (look h2 i).isSome = true) :
    NSem X o ρ h (.one (.ptr id 0)) [] [] (some (id, bx)) := fun h2 _ hn F β w a r hv next Q hnx => by
  obtain ⟨arr, h1, h3, h4⟩ := hx F β w a h2 hv
  refine upon_wp h1 (hnx _ _ (upd1 β id (some w.heap.size)) (post_add r (hn id _ rfl) hbr he h3.2 h4) ⟨w.heap.size, by simp [upd1], rfl⟩ fun i hi => ?_)
  simp only [AV.refs, AC.refs, List.mem_singleton] at hi
  subst hi
  show (look (put h2 i (bx, false)) i).isSome = true
  rw [look_put]; simp
theorem new_box {X : Ctx} {o : Oper} {ρ : Operand → AV} {h : Hp} {id : Nat} {cs : List AC} (e : TypeId)
    (hx : ∀ (F : Fr) (β : Bt) (w : World) (a : Act) (h2 : Hp), (∀ x ∈ o.op.operands.toList, RepV w (F.ok w h2 β) β (ρ x) (a.eval x) ∧ ∀ id ∈ (ρ x).refs, (look h2 id).isSome = true) →
      ∃ arr, (execOp a.eval o).run X.P w = .ok (.value (.pointer (some ⟨w.heap.size, 0, none⟩))) (w.alloc (.cells arr e)) ∧ RepL w (F.ok w h2 β) β cs arr ∧ ∀ i ∈ acRefs cs, (look h2 i).isSome = true) :
    NSem X o ρ h (.one (.ptr id 0)) [] [] (some (id, .mx cs)) :=
  new_boxB (bx := .mx cs) rfl e (fun e' l he => by cases he) hx
def evBox (X : Ctx) (t : TypeId) (x : AV) (h : Hp) (nx : Nat) (K : List Nat → List Nat → Option (Nat × Bx) → AV → Prop) : Prop :=
  match avCells x with
  | some cs => look h nx = none ∧ (K [] [] (some (nx, .mx cs)) (.one (.ptr nx 0)) ∨ ∃ l, cs = l.map AC.pv ∧ K [] [] (some (nx, .pu t l)) (.one (.ptr nx 0)))
  | none => False
theorem run_box {P : Program} {w : World} {t : TypeId} {v : Value} : (Instr.box t v).run P w = .ok (.pointer (some ⟨w.heap.size, 0, none⟩)) (w.alloc (.cells v.cells t)) := by
  simp [Instr.box, newVar, newRow]
def evAlloc (X : Ctx) (t : TypeId) (h : Hp) (nx : Nat) (K : List Nat → List Nat → Option (Nat × Bx) → AV → Prop) : Prop :=
  match tinf X.P t with
  | some ⟨_, _, _, some z⟩ => (match zeroCs z with | some cs => look h nx = none ∧ K [] [] (some (nx, .mx cs)) (.one (.ptr nx 0)) | none => False)
  | _ => False

/-! ### A slice made -/
def zeroPvs (z : Value) : Option (List PV) := (zeroCs z).bind fun cs => cs.foldr (fun c l => match c, l with | .pv p, some l => some (p :: l) | _, _ => none) (some [])
theorem zeroPvs_spec {z : Value} {ps : List PV} (h : zeroPvs z = some ps) : zeroCs z = some (ps.map .pv) := by
  unfold zeroPvs at h
  cases hc : zeroCs z with
  | none => rw [hc] at h; cases h
  | some cs =>
    rw [hc] at h
    simp only [Option.bind_some] at h
    clear hc
    congr 1
    induction cs generalizing ps with
    | nil => simp only [List.foldr_nil, Option.some.injEq] at h; subst h; rfl
    | cons c cs ih =>
      simp only [List.foldr_cons] at h
      split at h
      · rename_i p l hl
        simp only [Option.some.injEq] at h
        subst h
        rw [ih hl]; rfl
      · cases h
def repCells (n : Nat) (ps : List PV) : List PV := match ps with
  | [p] => List.replicate n p
  | ps => (List.replicate n ps).flatten
theorem repCells_get {n : Nat} {ps : List PV} (hp : 0 < ps.length) : (repCells n ps).length = n * ps.length ∧ ∀ j, j < n * ps.length → (repCells n ps)[j]? = ps[j % ps.length]? := by
  have key : ((List.replicate n ps).flatten).length = n * ps.length ∧ ∀ j, j < n * ps.length → ((List.replicate n ps).flatten)[j]? = ps[j % ps.length]? := by
    induction n with
    | zero => simp
    | succ n ih =>
      rw [List.replicate_succ, List.flatten_cons]
      refine ⟨by rw [List.length_append, ih.1, Nat.succ_mul]; omega, fun j hj => ?_⟩
      rw [List.getElem?_append]
      split
      · rename_i hlt; rw [Nat.mod_eq_of_lt hlt]
      · rename_i hge
        rw [ih.2 _ (by rw [Nat.succ_mul] at hj; omega), ← Nat.mod_eq_sub_mod (show ps.length ≤ j by omega)]
  unfold repCells
  split
  · rename_i p
    refine ⟨by simp, fun j hj => ?_⟩
    simp only [List.length_singleton, Nat.mul_one] at hj
    simp [hj, Nat.mod_one]
  · exact key
def evMake (X : Ctx) (t : TypeId) (ln cp : AV) (h : Hp) (nx : Nat) (K : List Nat → List Nat → Option (Nat × Bx) → AV → Prop) : Prop :=
  match tinf X.P t, ln, cp with
  | some ⟨.slice e, _, _, _⟩, .one (.pv (.int _ l)), .one (.pv (.int _ c)) =>
    (match tinf X.P e with
     | some ⟨_, S, B, some z⟩ => (match zeroPvs z with
       | some ps => ps.length = S ∧ 0 < S ∧ 0 ≤ l ∧ l ≤ c ∧ (B : Int) * c ≤ 281474976710656 ∧ c ≤ 9223372036854775807 ∧ look h nx = none ∧ K [] [] (some (nx, .pu e (repCells l.toNat ps))) (.one (.own nx S l.toNat))
       | none => False)
     | _ => False)
  | _, _, _ => False
theorem bsh_new {w : World} {arr : Array Value} {e : TypeId} : bsh (w.alloc (.cells arr e)) w.heap.size = (e, arr.size) := by
  unfold bsh; rw [heap_alloc_new]
theorem evMake_sound {X : Ctx} {o : Oper} {t : TypeId} {lo co : Operand} (ho : o.op = .makeSlice t lo co) {ρ : Operand → AV} {h : Hp} {nx : Nat} {K : List Nat → List Nat → Option (Nat × Bx) → AV → Prop} (hv : evMake X t (ρ lo) (ρ co) h nx K) :
    ∃ rd zs add v, K rd zs add v ∧ NSem X o ρ h v rd zs add := by
  unfold evMake at hv
  split at hv
  · rename_i e _ _ _ kl l kc c hT hlo hco
    obtain ⟨ht, _⟩ := tinf_spec hT
    split at hv
    · rename_i S B z hT2
      obtain ⟨_, i, hi, hs, hby, hz⟩ := tinf_spec hT2
      split at hv
      · rename_i ps hps
        obtain ⟨hl, hS, h0, hlc, hb, h63, _, hK⟩ := hv
        refine ⟨_, _, _, _, hK, fun h2 _ hn F β w a r hv' next Q hnx => ?_⟩
        have h1 := (hv' lo (by rw [ho]; simp [Op.operands])).1
        have h2' := (hv' co (by rw [ho]; simp [Op.operands])).1
        rw [hlo] at h1
        rw [hco] at h2'
        obtain ⟨e1, _⟩ := one_int h1
        obtain ⟨e2, _⟩ := one_int h2'
        simp only at hs hby hz
        have hr := run_make (P := X.P) w t e i z ht hi hz kl kc l c h0 hlc (by rw [hby]; exact hb) h63
        have hex : (execOp a.eval o).run X.P w = .ok (.value (.slice (some ⟨w.heap.size, 0, none⟩) l.toNat c.toNat)) (w.alloc (.cells (madeCells z.cells (c.toNat * i.size)) e)) := by
          unfold execOp; rw [ho]; simp only [e1, e2]
          rw [Sem.run_bind, hr]; rfl
        have hzr := zeroCs_rep (w := w) (ok := F.ok w h2 β) (β := β) (zeroPvs_spec hps)
        have hzl : z.cells.size = S := by rw [hzr.1, List.length_map, hl]
        have hg := repCells_get (n := l.toNat) (ps := ps) (by omega)
        have hle : l.toNat * S ≤ c.toNat * S := Nat.mul_le_mul_right _ (by omega)
        refine upon_wp hex (hnx _ _ (upd1 β nx (some w.heap.size)) (post_add r (hn nx _ rfl) rfl (fun e' l he => by cases he; rfl) (fun j cc hj => ?_) (fun i hi' => ?_)) (.inr ⟨w.heap.size, c.toNat, by simp [upd1], rfl, by omega, by show _ ≤ 9223372036854775807; omega, ?_⟩) fun i hi' => ?_)
        · simp only [Bx.cells, List.getElem?_map] at hj
          cases hp : (repCells l.toNat ps)[j]? with
          | none => rw [hp] at hj; cases hj
          | some p =>
            rw [hp] at hj
            simp only [Option.map_some, Option.some.injEq] at hj
            subst hj
            have hjl : j < l.toNat * ps.length := by rw [← hg.1]; exact (List.getElem?_eq_some_iff.1 hp).1
            rw [hg.2 j hjl] at hp
            obtain ⟨u, hu, hr'⟩ := hzr.2 (j % ps.length) (.pv p) (by simp [hp])
            refine ⟨u, ?_, hr'⟩
            have hjc : j < c.toNat * i.size := by rw [hs]; rw [hl] at hjl; omega
            have : z.cells[j % z.cells.size]! = u := by rw [getElem!_def, hzl, ← hl, hu]
            show (madeCells z.cells (c.toNat * i.size))[j]? = some u
            unfold madeCells
            rw [Array.getElem?_map, Array.getElem?_range, if_pos hjc]
            simp only [Option.map_some, this]
        · simp only [Bx.cells] at hi'
          rw [acRefs_pv] at hi'; cases hi'
        · rw [bsh_new, size_madeCells, hs]
        · simp only [AV.refs, AC.refs, List.mem_singleton] at hi'
          subst hi'
          show (look (put h2 i _) i).isSome = true
          rw [look_put]; simp
      · exact hv.elim
    · exact hv.elim
  · exact hv.elim
end Go.VL


namespace Go.VL
open Go.RowKit
set_option linter.unusedVariables false

theorem evBox_sound {X : Ctx} {o : Oper} {t : TypeId} {x : Operand} (ho : o.op = .box t x) {ρ : Operand → AV} {h : Hp} {nx : Nat} {K : List Nat → List Nat → Option (Nat × Bx) → AV → Prop} (hv : evBox X t (ρ x) h nx K) :
    ∃ rd zs add v, K rd zs add v ∧ NSem X o ρ h v rd zs add := by
  unfold evBox at hv
  split at hv
  · rename_i cs hcs
    have main : ∀ bx : Bx, bx.row = true → bx.cells = cs → (∀ e' l, bx = .pu e' l → e' = t) → NSem X o ρ h (.one (.ptr nx 0)) [] [] (some (nx, bx)) := fun bx hbr hb he => new_boxB hbr t he fun F β w a h2 hv' => by
      obtain ⟨h1, h3⟩ := hv' x (by rw [ho]; simp [Op.operands])
      rw [hb]
      refine ⟨(a.eval x).cells, ?_, avCells_rep hcs h1, fun i hi => h3 i (by rw [avCells_refs hcs]; exact hi)⟩
      unfold execOp; rw [ho]; simp only
      rw [Sem.run_bind, run_box]; rfl
    rcases hv.2 with hK | ⟨l, rfl, hK⟩
    · exact ⟨_, _, _, _, hK, main _ rfl rfl (fun e' l he => by cases he)⟩
    · exact ⟨_, _, _, _, hK, main (.pu t l) rfl rfl (fun e' l' he => by cases he; rfl)⟩
  · exact hv.elim
theorem evAlloc_sound {X : Ctx} {o : Oper} {t : TypeId} (ho : o.op = .alloc t) {ρ : Operand → AV} {h : Hp} {nx : Nat} {K : List Nat → List Nat → Option (Nat × Bx) → AV → Prop} (hv : evAlloc X t h nx K) :
    ∃ rd zs add v, K rd zs add v ∧ NSem X o ρ h v rd zs add := by
  unfold evAlloc at hv
  split at hv
  · rename_i z hT
    obtain ⟨ht, i, hi, _, _, hz⟩ := tinf_spec hT
    split at hv
    · rename_i cs hcs
      refine ⟨_, _, _, _, hv.2, new_box t fun F β w a h2 hv' => ?_⟩
      refine ⟨z.cells, ?_, zeroCs_rep hcs, fun i hi => by rw [zeroCs_refs hcs] at hi; cases hi⟩
      unfold execOp; rw [ho]; simp only
      have : (Instr.alloc t true (.tuple #[])).run X.P w = .ok (.pointer (some ⟨w.heap.size, 0, none⟩)) (w.alloc (.cells z.cells t)) := by
        simp [Instr.alloc, zeroValue, typeInfo, hi, hz, newVar, newRow]
      rw [Sem.run_bind, this]; rfl
    · exact hv.elim
  · exact hv.elim

/-! ### What is handed on, as one row of cells -/
def viewX (h : Hp) (x : AV) (K : List PV → List Nat → Prop) : Prop := viewA h x fun p ids => match p with | .one p => K [p] ids | .agg ps => K ps ids | .tup _ => False
def VwX (h : Hp) (x : AV) (ps : List PV) (ids : List Nat) : Prop := ∀ h2, Agree h h2 ids → ∀ X F β w ok' u, Wide X F h2 β w ids ok' → RepV w (F.ok w h2 β) β x u → RepL w ok' β0 (ps.map .pv) u.cells
theorem viewX_sound {h : Hp} (hwf : ∀ id bx z, look h id = some (bx, z) → ∀ i ∈ acRefs bx.cells, (look h i).isSome = true) {x : AV} {K : List PV → List Nat → Prop} (hv : viewX h x K) (hc : ∀ id ∈ x.refs, (look h id).isSome = true) :
    ∃ ps ids, K ps ids ∧ (∀ id ∈ ids, (look h id).isSome = true) ∧ VwX h x ps ids := by
  obtain ⟨p, ids, h1, h2, h3⟩ := viewA_sound hwf hv hc
  cases p with
  | one p =>
    refine ⟨_, _, h1, h2, fun h4 ha X F β w ok' u hw hu => ?_⟩
    have hr := h3 h4 ha X F β w ok' u hw hu
    have hr' : RepP w ok' p u := hr
    rw [cells_one hr'.oneCell]
    exact repL_pv rfl fun j q hj => by
      match j, hj with
      | 0, hj => simp at hj; subst hj; exact ⟨u, rfl, hr'⟩
  | agg ps =>
    refine ⟨_, _, h1, h2, fun h4 ha X F β w ok' u hw hu => ?_⟩
    obtain ⟨vs, rfl, hl⟩ := h3 h4 ha X F β w ok' u hw hu
    exact hl
  | tup xs => exact h1.elim
theorem Post.frzs {X : Ctx} {F : Fr} {h : Hp} {β : Bt} {w : World} (r : HRel X F h β w) (zs : List Nat) : Post X F h β w (frzs h zs) β w none :=
  ⟨r.frzs zs, ⟨fun b hb => ⟨ok_frzs zs hb, rfl⟩, fun _ _ => ⟨rfl, fun _ _ => rfl⟩⟩, fun i hi => by rw [isSome_frzs]; exact hi⟩
theorem Post.trans {X : Ctx} {F : Fr} {h h1 h2 : Hp} {β β1 β2 : Bt} {w w1 w2 : World} {m : Option Nat} (p : Post X F h β w h1 β1 w1 none) (q : Post X F h1 β1 w1 h2 β2 w2 m) : Post X F h β w h2 β2 w2 m where
  rel := q.rel
  keep := ⟨fun b hb => by
      obtain ⟨a1, a2⟩ := p.keep.blk b hb
      obtain ⟨b1, b2⟩ := q.keep.blk b a1
      exact ⟨b1, b2.trans a2⟩, fun i hi => by
      obtain ⟨a1, a2⟩ := p.keep.ids i ⟨hi.1, by simp⟩
      obtain ⟨b1, b2⟩ := q.keep.ids i ⟨p.dom i hi.1, hi.2⟩
      exact ⟨b1.trans a1, fun g hg => (b2 g (by rw [a1]; exact hg)).trans (a2 g hg)⟩⟩
  dom := fun i hi => q.dom i (p.dom i hi)
theorem look_isSome_none {h : Hp} {zs : List Nat} {id : Nat} (hn : look h id = none) : look (frzs h zs) id = none := by
  have := isSome_frzs zs h id
  rw [hn] at this
  cases hl : look (frzs h zs) id with
  | none => rfl
  | some e => rw [hl] at this; cases this
theorem wide_frzs {X : Ctx} {F : Fr} {h : Hp} {β : Bt} {w : World} (r : HRel X F h β w) {ids : List Nat} (hs : ∀ id ∈ ids, (look h id).isSome = true) : Wide X F h β w ids (F.ok w (frzs h ids) β) :=
  ⟨r, fun b hb => ok_frzs ids hb, fun id hid g hg => r.ok_frozen hid (hs id hid) hg⟩
theorem repC_pv_any {w : World} {ok : Nat → Prop} {β : Bt} {ps : List PV} {vs : Array Value} (h : RepL w ok β0 (ps.map .pv) vs) : RepL w ok β (ps.map .pv) vs :=
  ⟨h.1, fun j c hj => by
    obtain ⟨u, hu, hr⟩ := h.2 j c hj
    rw [List.getElem?_map] at hj
    cases hp : ps[j]? with
    | none => rw [hp] at hj; cases hj
    | some p =>
      rw [hp] at hj
      simp only [Option.map_some, Option.some.injEq] at hj
      subst hj
      exact ⟨u, hu, hr⟩⟩

/-! ### A slice made out of its parts -/
def viewParts (h : Hp) (S : Nat) : Nat → List (Nat × AV) → (List PV → List Nat → Prop) → Prop
  | _, [], K => K [] []
  | k, (i, x) :: rest, K => i = k ∧ viewX h x fun ps ids => ps.length = S ∧ viewParts h S (k + 1) rest fun qs ids' => K (ps ++ qs) (ids ++ ids')
def evBSl (X : Ctx) (t : TypeId) (len : Nat) (parts : List (Nat × AV)) (h : Hp) (nx : Nat) (K : List Nat → List Nat → Option (Nat × Bx) → AV → Prop) : Prop :=
  match tinf X.P t with
  | some ⟨.slice e, _, _, _⟩ =>
    (match tinf X.P e with
     | some ⟨_, S, _, some z⟩ => (zeroCs z).isSome = true ∧ z.cells.size = S ∧ 0 < S ∧ len * S ≤ 16777216 ∧ parts.length = len ∧ look h nx = none ∧ viewParts h S 0 parts fun ps ids => K ids ids (some (nx, .pu e ps)) (.one (.own nx S len))
     | _ => False)
  | _ => False
/-- The parts as they are handed on. -/
def VwParts (h : Hp) (S k : Nat) (parts : List (Nat × AV)) (ps : List PV) (ids : List Nat) : Prop :=
  ps.length = parts.length * S ∧ ∀ h2, Agree h h2 ids → ∀ X F β w ok', Wide X F h2 β w ids ok' → ∀ (vals : List (Nat × Value)) (arr : Array Value), parts.length = vals.length → (∀ (j : Nat) i x, parts[j]? = some (i, x) → ∃ v, vals[j]? = some (i, v) ∧ RepV w (F.ok w h2 β) β x v) →
    arr.size = (k + parts.length) * S → ∃ arr', Instr.fill (fun i => some (i * S, S)) arr vals = some arr' ∧ arr'.size = arr.size ∧ (∀ j, j < k * S → arr'[j]? = arr[j]?) ∧ ∀ (j : Nat) p, ps[j]? = some p → ∃ u, arr'[k * S + j]? = some u ∧ RepP w ok' p u
theorem viewParts_sound {h : Hp} {S : Nat} (hwf : ∀ id bx z, look h id = some (bx, z) → ∀ i ∈ acRefs bx.cells, (look h i).isSome = true) : ∀ {parts : List (Nat × AV)} {k : Nat} {K : List PV → List Nat → Prop}, viewParts h S k parts K → (∀ p ∈ parts, ∀ id ∈ p.2.refs, (look h id).isSome = true) →
    ∃ ps ids, K ps ids ∧ (∀ id ∈ ids, (look h id).isSome = true) ∧ VwParts h S k parts ps ids
  | [], k, K, hv, _ => ⟨[], [], hv, fun id hid => by simp at hid, by simp, fun h2 _ X F β w ok' _ vals arr hl _ _ => ⟨arr, by cases vals with | nil => rfl | cons v vs => simp at hl, rfl, fun _ _ => rfl, fun j p hj => by simp at hj⟩⟩
  | (i, x) :: rest, k, K, hv, hc => by
    obtain ⟨rfl, hv⟩ := hv
    obtain ⟨ps, ids, ⟨hps, h1⟩, hr, hp⟩ := viewX_sound hwf hv (hc (i, x) (by simp))
    obtain ⟨qs, ids', h2, hr', hq, hrest⟩ := viewParts_sound hwf h1 (fun p hp => hc p (by simp [hp]))
    refine ⟨_, _, h2, fun id hid => (List.mem_append.1 hid).elim (hr id) (hr' id), by simp only [List.length_append, List.length_cons, hps, hq, Nat.add_mul]; omega, fun h3 ha X F β w ok' hw vals arr hl hvals harr => ?_⟩
    cases vals with
    | nil => simp at hl
    | cons v vals =>
      obtain ⟨v', hv', hrv⟩ := hvals 0 i x rfl
      simp only [List.getElem?_cons_zero, Option.some.injEq] at hv'
      subst hv'
      have hcells := hp h3 (ha.mono fun id hid => List.mem_append.2 (.inl hid)) X F β w ok' v' (hw.mono fun id hid => List.mem_append.2 (.inl hid)) hrv
      have hcs : v'.cells.size = S := by rw [hcells.1, List.length_map, hps]
      have hvl : v'.cells.toList.length = S := by rw [Array.length_toList]; exact hcs
      have hsz : arr.size = i * S + S + rest.length * S := by rw [harr, List.length_cons]; simp only [Nat.add_mul, Nat.one_mul]; omega
      obtain ⟨f1, f2⟩ := foldl_set (i * S) v'.cells.toList 0 arr (by rw [hvl]; omega)
      have e : v'.cells.zipIdx.foldl (fun cs (c, j) => cs.setIfInBounds (i * S + j) c) arr = (v'.cells.toList.zipIdx 0).foldl (fun cs (c, j) => cs.setIfInBounds (i * S + j) c) arr := by
        rw [← Array.foldl_toList, Array.toList_zipIdx]
      obtain ⟨arr', g1, g2, g3, g4⟩ := hrest h3 (ha.mono fun id hid => List.mem_append.2 (.inr hid)) X F β w ok' (hw.mono fun id hid => List.mem_append.2 (.inr hid)) vals ((v'.cells.toList.zipIdx 0).foldl (fun cs (c, j) => cs.setIfInBounds (i * S + j) c) arr)
        (by simpa using hl) (fun j i x hj => hvals (j + 1) i x (by simpa using hj)) (by rw [f1, hsz]; simp only [Nat.add_mul, Nat.one_mul])
      refine ⟨arr', ?_, g2.trans f1, fun j hj => ?_, fun j p hj => ?_⟩
      · simp only [Instr.fill]
        rw [if_neg (by simp; omega), e]
        exact g1
      · rw [g3 j (by rw [Nat.add_mul]; omega), f2 j, if_neg (by omega)]
      · rw [List.getElem?_append] at hj
        split at hj
        · rename_i hlt
          rw [hps] at hlt
          rw [g3 _ (by rw [Nat.add_mul, Nat.one_mul]; omega), f2 _, if_pos (by rw [hvl]; omega)]
          obtain ⟨u, hu, hru⟩ := hcells.2 j (.pv p) (by simp [hj])
          exact ⟨u, by rw [Nat.add_zero, Nat.add_sub_cancel_left]; simpa using hu, hru⟩
        · rename_i hge
          rw [hps] at hge hj
          obtain ⟨u, hu, hru⟩ := g4 (j - S) p hj
          refine ⟨u, ?_, hru⟩
          rw [← hu]; congr 1; rw [Nat.add_mul, Nat.one_mul]; omega
theorem evBSl_sound {X : Ctx} {o : Oper} {t : TypeId} {len : Nat} {parts : Array (Nat × Operand)} (ho : o.op = .buildSlice t len parts) {ρ : Operand → AV} {h : Hp} {nx : Nat} {K : List Nat → List Nat → Option (Nat × Bx) → AV → Prop}
    (hwf : ∀ id bx z, look h id = some (bx, z) → ∀ i ∈ acRefs bx.cells, (look h i).isSome = true) (hrf : ∀ x ∈ o.op.operands.toList, ∀ id ∈ (ρ x).refs, (look h id).isSome = true)
    (hv : evBSl X t len (parts.toList.map fun p => (p.1, ρ p.2)) h nx K) : ∃ rd zs add v, K rd zs add v ∧ NSem X o ρ h v rd zs add := by
  unfold evBSl at hv
  split at hv
  · rename_i e _ _ _ hT
    obtain ⟨ht, _⟩ := tinf_spec hT
    split at hv
    · rename_i S _ z hT2
      obtain ⟨_, i, hi, hs, _, hz⟩ := tinf_spec hT2
      simp only at hs hz
      obtain ⟨hzo, hzs, hS, hlim, hpl, _, hv⟩ := hv
      obtain ⟨ps, ids, hK, hr, hpsl, hp⟩ := viewParts_sound hwf hv (fun p hp id hid => by
        obtain ⟨q, hq, rfl⟩ := List.mem_map.1 hp
        exact hrf q.2 (by rw [ho]; simp only [Op.operands]; exact List.mem_map.2 ⟨q, hq, rfl⟩) id hid)
      refine ⟨_, _, _, _, hK, fun h2 ha hn F β w a r hv' next Q hnx => ?_⟩
      have hr2 : ∀ id ∈ ids, (look h2 id).isSome = true := fun id hid => agree_isSome ha hid (hr id hid)
      rw [List.length_map] at hpl
      obtain ⟨arr', g1, g2, _, g4⟩ := hp h2 ha X F β w _ (wide_frzs r hr2) (parts.toList.map fun p => (p.1, a.eval p.2)) (madeCells (if len * S = 0 then #[] else z.cells) (len * S)) (by simp) (fun j i x hj => by
        rw [List.getElem?_map] at hj
        cases hq : parts.toList[j]? with
        | none => rw [hq] at hj; cases hj
        | some q =>
          rw [hq] at hj
          simp only [Option.map_some, Option.some.injEq, Prod.mk.injEq] at hj
          obtain ⟨rfl, rfl⟩ := hj
          exact ⟨a.eval q.2, by simp [hq], (hv' q.2 (by rw [ho]; simp only [Op.operands]; exact List.mem_map.2 ⟨q, List.mem_of_getElem? hq, rfl⟩)).1⟩)
        (by rw [size_madeCells, List.length_map, hpl, Nat.zero_add])
      have hex : (execOp a.eval o).run X.P w = .ok (.value (.slice (some ⟨w.heap.size, 0, none⟩) len len)) (w.alloc (.cells arr' e)) := by
        unfold execOp; rw [ho]; simp only
        have : (Instr.buildSlice t len (parts.map fun (i, x) => (i, a.eval x))).run X.P w = .ok (.slice (some ⟨w.heap.size, 0, none⟩) len len) (w.alloc (.cells arr' e)) := by
          unfold madeCells at g1
          have hlim' : ¬ (len * S > 2 ^ 24) := by omega
          by_cases h0 : len * S = 0
          · rw [if_pos h0] at g1
            have g1' := g1
            simp only [Instr.buildSlice, Sem.run_bind, run_underlying ht, Result.andThen_ok, run_sizeOf hi, hs, h0, show ¬ (0 > 2 ^ 24) by decide, if_false, if_true, Sem.run_pure, Array.toList_map]
            rw [h0] at g1'
            simp only [g1', newRow, Sem.run_bind, run_newObj, Result.andThen_ok, Sem.run_pure]
            rfl
          · rw [if_neg h0] at g1
            simp only [Instr.buildSlice, Sem.run_bind, run_underlying ht, Result.andThen_ok, run_sizeOf hi, hs, hlim', if_false, h0, Sem.run_pure, Array.toList_map, zeroValue, typeInfo, run_program, hi, hz, g1, newRow, run_newObj]
            rfl
        rw [Sem.run_bind, this]; rfl
      refine upon_wp hex (hnx _ _ (upd1 β nx (some w.heap.size)) ((Post.frzs r ids).trans (post_add (r.frzs ids) ⟨look_isSome_none (hn nx _ rfl).1, (hn nx _ rfl).2⟩ rfl (fun e' l he => by cases he; rfl) (fun j cc hj => ?_) (fun i hi' => ?_))) (.inr ⟨w.heap.size, len, by simp [upd1], rfl, Nat.le_refl _, ?_, ?_⟩) fun i hi' => ?_)
      · simp only [Bx.cells, List.getElem?_map] at hj
        cases hp' : ps[j]? with
        | none => rw [hp'] at hj; cases hj
        | some p =>
          rw [hp'] at hj
          simp only [Option.map_some, Option.some.injEq] at hj
          subst hj
          obtain ⟨u, hu, hru⟩ := g4 j p hp'
          exact ⟨u, by simpa using hu, hru⟩
      · simp only [Bx.cells] at hi'
        rw [acRefs_pv] at hi'; cases hi'
      · show len ≤ 9223372036854775807
        have : len ≤ len * S := Nat.le_mul_of_pos_right _ hS
        omega
      · rw [bsh_new, g2, size_madeCells]
      · simp only [AV.refs, AC.refs, List.mem_singleton] at hi'
        subst hi'
        show (look (put (frzs h2 ids) i _) i).isSome = true
        rw [look_put]; simp
    · exact hv.elim
  · exact hv.elim
end Go.VL


namespace Go.VL
open Go.RowKit
set_option linter.unusedVariables false

/-! ### Stores -/
def setM {α : Type} (l : List α) (off : Nat) (cs : List α) : List α := match cs with
  | [c] => l.set off c
  | cs => setMany l off cs
theorem setM_eq {α : Type} (l : List α) (off : Nat) (cs : List α) (h : off + cs.length ≤ l.length) : setM l off cs = setMany l off cs := by
  unfold setM
  split
  · rename_i c
    apply List.ext_getElem?
    intro j
    rw [getElem?_setMany _ _ _ h]
    simp only [List.length_singleton] at h ⊢
    by_cases hj : off = j
    · subst hj; rw [List.getElem?_set_self (by omega), if_pos (by omega)]; simp
    · rw [List.getElem?_set_ne hj, if_neg (by omega)]
  · rfl
def evStore (X : Ctx) (t : TypeId) (h : Hp) (id off : Nat) (x : AV) (K : Hp → Prop) : Prop :=
  match tinf X.P t, look h id with
  | some T, some (.mx cs, false) => (match avCells x with | some ds => ds.length = T.size ∧ off + ds.length ≤ cs.length ∧ K (put h id (.mx (setM cs off ds), false)) | none => False)
  | some T, some (.pu e l, false) => viewX h x fun ps ids => ps.length = T.size ∧ off + ps.length ≤ l.length ∧ ids.contains id = false ∧ K (put (frzs h ids) id (.pu e (setM l off ps), false))
  | _, _ => False
theorem run_storeCells_win (P : Program) (g o : Nat) (t : TypeId) (fz : Nat × Nat) : ∀ (vs : List Value) (i : Nat) (cur : Array Value) (w : World), w.heap[g]? = some (.cells cur t fz) → (fz.2 = 0 ∨ cur.size ≤ fz.1) → o + i + vs.length ≤ cur.size → (∀ v ∈ vs, v.oneCell' = true) →
    (storeCells ⟨g, o, none⟩ vs i).run P w = .ok () (w.setRow g (cur.toList.take (o + i) ++ vs ++ cur.toList.drop (o + i + vs.length)).toArray)
  | [], i, cur, w, hg, _, _, _ => by
    simp only [storeCells, List.append_nil, List.length_nil, Nat.add_zero, List.take_append_drop, Array.toArray_toList]
    rw [setRow_self w g cur t fz hg]
    rfl
  | v :: rest, i, cur, w, hg, hfz, hl, h1 => by
    have hi : o + i < cur.size := by simp at hl; omega
    have hadd : (⟨g, o, none⟩ : Addr).add i = ⟨g, o + i, none⟩ := by unfold Addr.add; split <;> simp_all
    have hcell : w.cell? ⟨g, o + i, none⟩ = some cur[o + i] := by simp [World.cell?, hg, hi]
    have hfro : w.frozen? ⟨g, o + i, none⟩ = false := by
      obtain ⟨lo, hi'⟩ := fz
      simp only at hfz
      rcases hfz with hfz | hfz
      · simp only [World.frozen?, hg, Bool.and_eq_false_iff, decide_eq_false_iff_not]
        right; omega
      · simp only [World.frozen?, hg, Bool.and_eq_false_iff, decide_eq_false_iff_not]
        left; omega
    have hst : (store ((⟨g, o, none⟩ : Addr).add i) v).run P w = .ok () (w.setRow g (cur.setIfInBounds (o + i) v)) := by
      rw [hadd, run_store P w _ v _ (h1 v (by simp)), hcell]
      simp [hfro, setCell_eq_setRow w g (o + i) cur t fz v hg]
    have ih := run_storeCells_win P g o t fz rest (i + 1) (cur.setIfInBounds (o + i) v) (w.setRow g (cur.setIfInBounds (o + i) v)) (setRow_heap w g cur _ t _ hg) (by simpa using hfz) (by simp at hl ⊢; omega) (fun x hx => h1 x (by simp [hx]))
    simp only [storeCells, Sem.run_bind, hst, Result.andThen_ok, ih, setRow_setRow]
    congr 3
    have e := list_seg_step cur.toList (o + i) v rest (by simp at hl ⊢; omega)
    simpa [Array.toList_setIfInBounds, Nat.add_assoc] using e
theorem run_storeAt {P : Program} {w : World} {t : TypeId} {i : TypeInfo} (hi : P.info? t = some i) {id g off : Nat} {v : Value} {arr : Array Value} {e : TypeId} (ha : RowAt w id g arr e) (hs : v.cells.size = i.size) (hl : off + v.cells.size ≤ arr.size) (h1 : ∀ u ∈ v.cells.toList, u.oneCell' = true) :
    (Instr.storeAt t (.pointer (some ⟨g, off, none⟩)) v).run P w = .ok () (w.setRow g (setMany arr.toList off v.cells.toList).toArray) := by
  obtain ⟨fz, ha, hf⟩ := ha
  have := run_storeCells_win P g off e fz v.cells.toList 0 arr w ha (by rcases hf with rfl | hf; exact .inl rfl; exact .inr (by omega)) (by simpa using hl) h1
  simp only [Instr.storeAt, Instr.sureAddr, Sem.run_bind, Sem.run_pure, Result.andThen_ok, storeVar, run_sizeOf hi, hs, ne_eq, not_true_eq_false, if_false, this]
  unfold setMany
  simp
theorem repL_setMany {w : World} {ok : Nat → Prop} {β : Bt} {cs ds : List AC} {arr vs : Array Value} {off : Nat} (hl : off + ds.length ≤ cs.length) (ha : cs.length ≤ arr.size) (h : ∀ (j : Nat) c, cs[j]? = some c → ∃ u, arr[j]? = some u ∧ RepC w ok β c u) (h2 : RepL w ok β ds vs) :
    ∀ (j : Nat) c, (setM cs off ds)[j]? = some c → ∃ u, (setMany arr.toList off vs.toList).toArray[j]? = some u ∧ RepC w ok β c u := by
  intro j c hj
  rw [setM_eq _ _ _ hl, getElem?_setMany _ _ _ hl] at hj
  have hv : vs.toList.length = ds.length := by rw [Array.length_toList]; exact h2.1
  rw [List.getElem?_toArray, getElem?_setMany _ _ _ (show off + vs.toList.length ≤ arr.toList.length by have hq : arr.toList.length = arr.size := Array.length_toList; omega), hv]
  by_cases hc : off ≤ j ∧ j < off + ds.length
  · rw [if_pos hc] at hj ⊢
    obtain ⟨u, hu, hr⟩ := h2.2 _ c hj
    exact ⟨u, by simpa using hu, hr⟩
  · rw [if_neg hc] at hj ⊢
    obtain ⟨u, hu, hr⟩ := h j c hj
    exact ⟨u, by simpa using hu, hr⟩
theorem mem_setM {α : Type} {l cs : List α} {off : Nat} {x : α} (h : x ∈ setM l off cs) : x ∈ l ∨ x ∈ cs := by
  unfold setM at h
  split at h
  · rcases List.mem_or_eq_of_mem_set h with h | rfl
    · exact .inl h
    · exact .inr (by simp)
  · unfold setMany at h
    rw [List.mem_append, List.mem_append] at h
    rcases h with (h | h) | h
    · exact .inl (List.mem_of_mem_take h)
    · exact .inr h
    · exact .inl (List.mem_of_mem_drop h)
theorem look_frzs_not : ∀ (zs : List Nat) (h : Hp) {id : Nat}, id ∉ zs → look (frzs h zs) id = look h id
  | [], h, id, _ => rfl
  | z :: zs, h, id, hn => by
    simp only [List.mem_cons, not_or] at hn
    rw [frzs, look_frzs_not zs _ hn.2, look_frz, if_neg hn.1]
/-- The store itself. -/
theorem store_core {X : Ctx} {F : Fr} {h : Hp} {β : Bt} {w : World} (r : HRel X F h β w) {t : TypeId} {i : TypeInfo} (hi : X.P.info? t = some i) {id g off : Nat} {bx bx' : Bx} (hl : look h id = some (bx, false)) (hg : β id = some g) {v : Value} {ds : List AC}
    (hx : RepL w (F.ok w h β) β ds v.cells) (hs : ds.length = i.size) (hd : off + ds.length ≤ bx.cells.length) (hb' : bx'.cells = setM bx.cells off ds) (he' : ∀ e' l', bx' = .pu e' l' → ∃ l, bx = .pu e' l) (hw : ∀ i ∈ acRefs ds, (look h i).isSome = true) (hbr : bx.row = true := by rfl) (hbr' : bx'.row = true := by rfl) :
    ∃ w', (Instr.storeAt t (.pointer (some ⟨g, off, none⟩)) v).run X.P w = .ok () w' ∧ Post X F h β w (put h id (bx', false)) β w' none := by
  have hb := r.box id _ _ hl
  unfold BoxRep at hb
  rw [hg] at hb
  obtain ⟨_, arr, e, harr, hpe, hcc⟩ := hb
  have harr := harr.is hbr
  have hal : bx.cells.length ≤ arr.size := by
    rcases Nat.eq_zero_or_pos bx.cells.length with h0 | h0
    · omega
    · obtain ⟨u, hu, _⟩ := hcc (bx.cells.length - 1) _ (List.getElem?_eq_getElem (by omega))
      have := (Array.getElem?_eq_some_iff.1 hu).1
      omega
  have hsz : (setMany arr.toList off v.cells.toList).toArray.size = arr.size := by
    have := hx.1
    rw [List.size_toArray, length_setMany _ _ _ (by simp only [Array.length_toList]; omega), Array.length_toList]
  have hrun := run_storeAt (P := X.P) (w := w) hi (g := g) (off := off) (v := v) harr (by rw [hx.1, hs]) (by rw [hx.1]; omega) (fun u hu => by
    obtain ⟨j, hj, rfl⟩ := List.getElem_of_mem hu
    have hjl : j < ds.length := by rw [← hx.1]; simpa using hj
    obtain ⟨u, hu', hr⟩ := hx.2 j _ (List.getElem?_eq_getElem hjl)
    have : v.cells.toList[j] = u := by
      have := hu'; rw [Array.getElem?_eq_getElem (by simpa using hj)] at this; simpa using this
    rw [this]; exact hr.oneCell)
  refine ⟨_, hrun, r.set hl hg harr hsz hbr' (fun e' l' he => ?_) (fun j c hj => ?_) (fun i hi' => ?_), ?_, fun i hi => ?_⟩
  · obtain ⟨l, rfl⟩ := he' e' l' he
    exact hpe e' l rfl
  · rw [hb'] at hj
    exact repL_setMany hd hal hcc hx j c hj
  · rw [hb'] at hi'
    obtain ⟨c, hc, hic⟩ := List.mem_flatMap.1 hi'
    rcases mem_setM hc with hc | hc
    · exact r.wf id _ _ hl i (List.mem_flatMap.2 ⟨c, hc, hic⟩)
    · exact hw i (List.mem_flatMap.2 ⟨c, hc, hic⟩)
  · have := r.set_keeps (bx' := bx') hl hg harr hsz
    exact ⟨this.blk, fun i hi => this.ids i hi.1⟩
  · rw [look_put]; split <;> simp_all
theorem evStore_sound {X : Ctx} {o : Oper} {t : TypeId} {ad x : Operand} (ho : o.op = .store t ad x) {ρ : Operand → AV} {h : Hp} {id off : Nat} (had : ρ ad = .one (.ptr id off)) {K : Hp → Prop}
    (hwf : ∀ id bx z, look h id = some (bx, z) → ∀ i ∈ acRefs bx.cells, (look h i).isSome = true) (hrf : ∀ x ∈ o.op.operands.toList, ∀ id ∈ (ρ x).refs, (look h id).isSome = true) (hv : evStore X t h id off (ρ x) K) :
    ∃ h', K h' ∧ SemOp X o ρ h .bot h' none := by
  unfold evStore at hv
  have hxm : x ∈ o.op.operands.toList := by rw [ho]; simp [Op.operands]
  have ham : ad ∈ o.op.operands.toList := by rw [ho]; simp [Op.operands]
  have hex : ∀ (a : Act) (w w' : World), (Instr.storeAt t (a.eval ad) (a.eval x)).run X.P w = .ok () w' → (execOp a.eval o).run X.P w = .ok .skip w' := fun a w w' h1 => by
    unfold execOp; rw [ho]; simp only
    rw [Sem.run_bind, h1]; rfl
  split at hv
  · rename_i T cs hT hl
    obtain ⟨_, i, hi, hs, _⟩ := tinf_spec hT
    split at hv
    · rename_i ds hds
      obtain ⟨hd1, hd2, hK⟩ := hv
      refine ⟨_, hK, fun F β w a r hv' next Q hn => ?_⟩
      have h1 := (hv' ad ham).1
      rw [had] at h1
      obtain ⟨g, hg, hgv⟩ := h1
      obtain ⟨w', hrun, hp⟩ := store_core (bx' := .mx (setM cs off ds)) r hi hl hg (avCells_rep hds (hv' x hxm).1) (by rw [hd1, hs]) hd2 rfl (fun e' l' he => by cases he) (fun i hi => (hv' x hxm).2 i (by rw [avCells_refs hds]; exact hi))
      rw [← hgv] at hrun
      exact upon_skip (hex a w _ hrun) (hn _ _ β hp trivial fun i hi => by cases hi)
    · exact hv.elim
  · rename_i T e l hT hl
    obtain ⟨_, i, hi, hs, _⟩ := tinf_spec hT
    obtain ⟨ps, ids, ⟨hp1, hp2, hnid, hK⟩, hr, hvx⟩ := viewX_sound hwf hv (hrf x hxm)
    refine ⟨_, hK, fun F β w a r hv' next Q hn => ?_⟩
    have h1 := (hv' ad ham).1
    rw [had] at h1
    obtain ⟨g, hg, hgv⟩ := h1
    have hl' : look (frzs h ids) id = some (.pu e l, false) := by rw [look_frzs_not ids h (by simpa using hnid)]; exact hl
    obtain ⟨w', hrun, hp⟩ := store_core (bx' := .pu e (setM l off ps)) (r.frzs ids) hi hl' hg (repC_pv_any (β := β) (hvx h (fun _ _ => rfl) X F β w _ _ (wide_frzs r hr) (hv' x hxm).1)) (by rw [List.length_map, hp1, hs]) (by simpa [Bx.cells] using hp2)
      (by
        simp only [Bx.cells]
        unfold setM
        match ps with
        | [] => simp [setMany]
        | [p] => simp [List.map_set]
        | p :: q :: rs => simp [setMany, List.map_take, List.map_drop])
      (fun e' l' he => by cases he; exact ⟨l, rfl⟩) (fun i hi => by rw [acRefs_pv] at hi; cases hi)
    rw [← hgv] at hrun
    exact upon_skip (hex a w _ hrun) (hn _ _ β ((Post.frzs r ids).trans hp) trivial fun i hi => by cases hi)
  · exact hv.elim

/-! ### Calls -/
def Ent (P : Program) (f : FuncId) : Prop := ∀ (args : Array Value) (w : World), (callFunc f args).run P w = .ok (.enter f args) w
theorem ent_of {P : Program} {f : FuncId} {fn : Func} {c : Code} (hf : P.funcs[f]? = some fn) (hname : (fn.name == "runtime.NumGoroutine") = false) (hb : fn.body = some c) : Ent P f := fun args w => by
  have hn : ¬ (fn.name = "runtime.NumGoroutine") := by simpa using hname
  simp [callFunc, hf, hn, hb]
/-- What a function of whole values comes to: at these arguments it returns this result, and leaves all that was there. -/
structure Spc (X : Ctx) (f : FuncId) (args : List PA) (res : PA) : Prop where
  ent : Ent X.P f
  calls : ∀ (ok : Nat → Prop) (w : World) (vals : Array Value), X.G w → (∀ b, ok b → b < w.heap.size) → vals.size = args.length → (∀ (j : Nat) pa, args[j]? = some pa → ∃ u, vals[j]? = some u ∧ RepV w ok β0 pa.av u) →
    Calls X.P f vals w fun e w' => ∃ u, e = .returned u ∧ RepV w' (fun b => b < w'.heap.size ∧ (b < w.heap.size → ok b)) β0 res.av u ∧ Below w.heap.size w w'
/-- No place in memory in it. -/
def PV.plain : PV → Bool
  | .int _ _ | .bool _ | .str _ | .lit _ | .nil | .ifc | .clo _ [] => true
  | _ => false
def PA.plain : PA → Bool
  | .one p => p.plain
  | .agg ps => ps.all PV.plain
  | .tup xs => xs.all fun x => x.2.all PV.plain
theorem RepP.plain {w w' : World} {ok ok' : Nat → Prop} {p : PV} {v : Value} (h : p.plain = true) (r : RepP w ok p v) : RepP w' ok' p v := by
  cases r with
  | int k z hz => exact .int k z hz
  | bool b => exact .bool b
  | str s hs => exact .str s hs
  | lit v hv => exact .lit v hv
  | nil => exact .nil
  | ifc t v => exact .ifc t v
  | clo f caps vs vals hs hv hr =>
    cases caps with
    | nil => exact .clo f [] vs vals hs (fun j p hj => by simp at hj) (fun j p hj => by simp at hj)
    | cons c cs => simp [PV.plain] at h
  | sl0 A cap => simp [PV.plain] at h
  | sl => simp [PV.plain] at h
  | pt => simp [PV.plain] at h
theorem repL_plain {w w' : World} {ok ok' : Nat → Prop} {β β' : Bt} {ps : List PV} {vs : Array Value} (h : ps.all PV.plain = true) (r : RepL w ok β (ps.map .pv) vs) : RepL w' ok' β' (ps.map .pv) vs :=
  ⟨r.1, fun j c hj => by
    obtain ⟨u, hu, hr⟩ := r.2 j c hj
    rw [List.getElem?_map] at hj
    cases hp : ps[j]? with
    | none => rw [hp] at hj; cases hj
    | some p =>
      rw [hp] at hj
      simp only [Option.map_some, Option.some.injEq] at hj
      subst hj
      exact ⟨u, hu, RepP.plain (List.all_eq_true.1 h p (List.mem_of_getElem? hp)) hr⟩⟩
theorem repE_plain {w w' : World} {ok ok' : Nat → Prop} {β β' : Bt} {x : Bool × List PV} {u : Value} (h : x.2.all PV.plain = true) (r : RepE w ok β (x.1, x.2.map .pv) u) : RepE w' ok' β' (x.1, x.2.map .pv) u := by
  obtain ⟨b, ps⟩ := x
  cases b with
  | true => obtain ⟨vs, rfl, hl⟩ := r; exact ⟨vs, rfl, repL_plain h hl⟩
  | false =>
    obtain ⟨c, hc, hr⟩ := r
    refine ⟨c, hc, ?_⟩
    match ps, hc with
    | [p], hc =>
      simp only [List.map_cons, List.map_nil, List.cons.injEq, and_true] at hc
      subst hc
      exact RepP.plain (by simpa using h) hr
theorem PA.repV_plain {w w' : World} {ok ok' : Nat → Prop} {β β' : Bt} {pa : PA} {u : Value} (h : pa.plain = true) (r : RepV w ok β pa.av u) : RepV w' ok' β' pa.av u := by
  cases pa with
  | one p => exact RepP.plain h r
  | agg ps => obtain ⟨vs, rfl, hl⟩ := r; exact ⟨vs, rfl, repL_plain h hl⟩
  | tup xs =>
    obtain ⟨vs, rfl, hs, hx⟩ := r
    refine ⟨vs, rfl, hs, fun j x hj => ?_⟩
    obtain ⟨u, hu, hr⟩ := hx j x hj
    refine ⟨u, hu, ?_⟩
    rw [List.getElem?_map] at hj
    cases hp : xs[j]? with
    | none => rw [hp] at hj; cases hj
    | some y =>
      rw [hp] at hj
      simp only [Option.map_some, Option.some.injEq] at hj
      subst hj
      exact repE_plain (List.all_eq_true.1 h y (List.mem_of_getElem? hp)) hr
theorem PA.repV_β {w : World} {ok : Nat → Prop} {β β' : Bt} {pa : PA} {u : Value} (r : RepV w ok β pa.av u) : RepV w ok β' pa.av u := by
  have k : Keeps (fun _ => False) w ok β w ok β' := ⟨fun b h => ⟨h, rfl⟩, fun _ h => h.elim⟩
  exact k.repV (fun id hid => by rw [PA.av_refs] at hid; cases hid) r
def evCall (X : Ctx) (fv : AV) (args : List AV) (h : Hp) (K : List Nat → List Nat → AV → Prop) : Prop :=
  match fv with
  | .one (.pv (.clo f caps)) => viewAs h args fun ps ids => ∃ res, Spc X f (ps ++ caps.map .one) res ∧ K ids (if res.plain = true then [] else ids) res.av
  | .one (.clo f caps) => viewAs h args fun ps ids => viewCaps h caps fun cs ids' => ∃ res, Spc X f (ps ++ cs.map .one) res ∧ K (ids ++ ids') (if res.plain = true then [] else ids ++ ids') res.av
  | _ => False
end Go.VL


namespace Go.VL
open Go.RowKit
set_option linter.unusedVariables false

theorem Post.ext {X : Ctx} {F : Fr} {h : Hp} {β : Bt} {w w' : World} (r : HRel X F h β w) (b : Below w.heap.size w w') : Post X F h β w h β w' none :=
  ⟨r.ext b, ⟨(r.keeps_ext b).blk, fun i hi => (r.keeps_ext b).ids i hi.1⟩, fun _ h => h⟩
theorem exec_value {P : Program} {w : World} {val : Operand → Value} {o : Oper} {c : Call} {f : Operand} {g : FuncId} {caps : Array Value} (ho : o.op = .call c) (hc : c.callee = .value f) (hf : val f = .func (.func g) #[] caps) (he : Ent P g) :
    (execOp val o).run P w = .ok (.enter g (c.args.map val ++ caps)) w := by
  unfold execOp
  rw [ho]
  simp only [resolve, hc, hf, Deferred.ofValue, Sem.run_bind, Sem.run_pure, Result.andThen_ok, invoke]
  simpa using he (c.args.map val ++ caps) w
theorem call_core {X : Ctx} {F : Fr} {h : Hp} {β : Bt} {w : World} (r : HRel X F h β w) {ids : List Nat} (hr : ∀ id ∈ ids, (look h id).isSome = true) {g : FuncId} {pas : List PA} {res : PA} (hsp : Spc X g pas res) {vals : Array Value} (hs : vals.size = pas.length)
    (hv : ∀ ok', Wide X F h β w ids ok' → ∀ (j : Nat) pa, pas[j]? = some pa → ∃ u, vals[j]? = some u ∧ RepV w ok' β0 pa.av u) :
    Calls X.P g vals w fun e w' => ∃ u, e = .returned u ∧ RepV w' (F.ok w' (frzs h (if res.plain = true then [] else ids)) β) β res.av u ∧ Post X F h β w (frzs h (if res.plain = true then [] else ids)) β w' none := by
  by_cases hp : res.plain = true
  · rw [if_pos hp]
    have hw : Wide X F h β w ids (fun b => b < w.heap.size) := ⟨r, fun b hb => hb.1, fun id hid g hg => by
      obtain ⟨e, he⟩ := Option.isSome_iff_exists.1 (hr id hid)
      exact (r.lt he hg).1⟩
    exact (hsp.calls _ w vals r.gw (fun b hb => hb) hs (hv _ hw)).mono fun e w' ⟨u, he, hu, hb⟩ => ⟨u, he, PA.repV_plain hp hu, Post.ext r hb⟩
  · rw [if_neg hp]
    have hw := wide_frzs r hr
    refine (hsp.calls _ w vals r.gw (fun b hb => hb.1) hs (hv _ hw)).mono fun e w' ⟨u, he, hu, hb⟩ => ⟨u, he, PA.repV_β (β := β0) ?_, (Post.frzs r ids).trans (Post.ext (r.frzs ids) hb)⟩
    have k : Keeps (fun _ => False) w' (fun b => b < w'.heap.size ∧ (b < w.heap.size → F.ok w (frzs h ids) β b)) β0 w' (F.ok w' (frzs h ids) β) β0 := ⟨fun b hb => ⟨⟨hb.1, fun h0 => (hb.2 (Nat.lt_of_lt_of_le h0 r.size)).2.1 h0, fun id bx hl hg => by
      have hlt := ((r.frzs ids).lt hl hg).1
      exact (hb.2 hlt).2.2 id bx hl hg⟩, rfl⟩, fun _ h => h.elim⟩
    exact k.repV (fun id hid => by rw [PA.av_refs] at hid; cases hid) hu
theorem evCall_sound {X : Ctx} {o : Oper} {c : Call} {f : Operand} (ho : o.op = .call c) (hc : c.callee = .value f) {ρ : Operand → AV} {h : Hp} {K : List Nat → List Nat → AV → Prop}
    (hwf : ∀ id bx z, look h id = some (bx, z) → ∀ i ∈ acRefs bx.cells, (look h i).isSome = true) (hrf : ∀ x ∈ o.op.operands.toList, ∀ id ∈ (ρ x).refs, (look h id).isSome = true) (hv : evCall X (ρ f) (c.args.toList.map ρ) h K) :
    ∃ rd zs v, K rd zs v ∧ NSem X o ρ h v rd zs none := by
  have hfm : f ∈ o.op.operands.toList := by rw [ho]; simp [Op.operands, Call.operands, hc]
  have ham : ∀ x ∈ c.args.toList, x ∈ o.op.operands.toList := fun x hx => by rw [ho]; simp only [Op.operands, Call.operands]; rw [Array.toList_append]; exact List.mem_append.2 (.inr hx)
  have hargs : ∀ x ∈ c.args.toList.map ρ, ∀ id ∈ x.refs, (look h id).isSome = true := fun x hx id hid => by
    obtain ⟨y, hy, rfl⟩ := List.mem_map.1 hx
    exact hrf y (ham y hy) id hid
  unfold evCall at hv
  split at hv
  · rename_i g caps hfv
    obtain ⟨ps, ids, ⟨res, hsp, hK⟩, hr, hl, hps⟩ := viewAs_sound hwf hv hargs
    refine ⟨_, _, _, hK, fun h2 ha _ F β w a r hv' next Q hn => ?_⟩
    have h1 := (hv' f hfm).1
    rw [hfv] at h1
    have h1' : RepP w (F.ok w h2 β) (.clo g caps) (a.eval f) := h1
    generalize hfe : a.eval f = fe at h1'
    cases h1' with
    | clo _ _ vs vals hs hvv hrep =>
    have hex := exec_value (P := X.P) (w := w) ho hc hfe hsp.ent
    have hcall := call_core r (ids := ids) (fun id hid => agree_isSome ha hid (hr id hid)) hsp (vals := c.args.map a.eval ++ vs) (by simp [hs, hl]) (fun ok' hw j pa hj => by
      rw [List.getElem?_append] at hj
      split at hj
      · rename_i hlt
        have hlt' : j < c.args.toList.length := by rw [hl] at hlt; simpa using hlt
        have hx : (c.args.toList.map ρ)[j]? = some (ρ c.args.toList[j]) := by rw [List.getElem?_map, List.getElem?_eq_getElem hlt']; rfl
        have := hps h2 ha X F β w ok' hw j _ pa (a.eval c.args.toList[j]) hx hj (hv' _ (ham _ (List.getElem_mem hlt'))).1
        refine ⟨_, ?_, this⟩
        rw [Array.getElem?_append, if_pos (by simpa using hlt')]
        have hlt2 : j < c.args.size := by simpa using hlt'
        simp [hlt2]
      · rename_i hge
        rw [List.getElem?_map] at hj
        cases hp : caps[j - ps.length]? with
        | none => rw [hp] at hj; cases hj
        | some p =>
          rw [hp] at hj
          simp only [Option.map_some, Option.some.injEq] at hj
          subst hj
          refine ⟨vals (j - ps.length), ?_, (hrep _ p hp).mono fun b hb => ⟨hw.ok b hb, rfl⟩⟩
          have hlen : ps.length = c.args.size := by rw [hl]; simp
          rw [Array.getElem?_append, if_neg (by rw [Array.size_map]; omega), Array.size_map, ← hlen]
          exact hvv _ p hp)
    unfold Oper.wp Oper.upon
    rw [hex]
    exact hcall.mono fun e w' ⟨u, he, hu, hp⟩ => by
      subst he
      exact hn u w' β hp hu fun id hid => by rw [PA.av_refs] at hid; cases hid
  · rename_i g caps hfv
    obtain ⟨ps, ids, hv2, hr, hl, hps⟩ := viewAs_sound hwf hv hargs
    obtain ⟨cs, ids', ⟨res, hsp, hK⟩, hr', hl', hcs⟩ := viewCaps_sound hwf hv2 (fun id hid => hrf f hfm id (by rw [hfv]; exact hid))
    refine ⟨_, _, _, hK, fun h2 ha _ F β w a r hv' next Q hn => ?_⟩
    have h1 := (hv' f hfm).1
    rw [hfv] at h1
    obtain ⟨vs, hfe, hs, hvv⟩ := h1
    have hex := exec_value (P := X.P) (w := w) ho hc hfe hsp.ent
    have hcall := call_core r (ids := ids ++ ids') (fun id hid => agree_isSome ha hid ((List.mem_append.1 hid).elim (hr id) (hr' id))) hsp (vals := c.args.map a.eval ++ vs) (by simp [hs, hl, hl']) (fun ok' hw j pa hj => by
      have a1 := ha.mono (ids' := ids) (fun id hid => List.mem_append.2 (.inl hid))
      have a2 := ha.mono (ids' := ids') (fun id hid => List.mem_append.2 (.inr hid))
      have w1 := hw.mono (ids' := ids) (fun id hid => List.mem_append.2 (.inl hid))
      have w2 := hw.mono (ids' := ids') (fun id hid => List.mem_append.2 (.inr hid))
      rw [List.getElem?_append] at hj
      split at hj
      · rename_i hlt
        have hlt' : j < c.args.toList.length := by rw [hl] at hlt; simpa using hlt
        have hx : (c.args.toList.map ρ)[j]? = some (ρ c.args.toList[j]) := by rw [List.getElem?_map, List.getElem?_eq_getElem hlt']; rfl
        have := hps h2 a1 X F β w ok' w1 j _ pa (a.eval c.args.toList[j]) hx hj (hv' _ (ham _ (List.getElem_mem hlt'))).1
        refine ⟨_, ?_, this⟩
        rw [Array.getElem?_append, if_pos (by simpa using hlt')]
        have hlt2 : j < c.args.size := by simpa using hlt'
        simp [hlt2]
      · rename_i hge
        rw [List.getElem?_map] at hj
        cases hp : cs[j - ps.length]? with
        | none => rw [hp] at hj; cases hj
        | some p =>
          rw [hp] at hj
          simp only [Option.map_some, Option.some.injEq] at hj
          subst hj
          have hjl : j - ps.length < caps.length := by rw [← hl']; exact (List.getElem?_eq_some_iff.1 hp).1
          obtain ⟨u, hu, hru⟩ := hvv _ _ (List.getElem?_eq_getElem hjl)
          refine ⟨u, ?_, hcs h2 a2 X F β w ok' w2 _ _ p u (List.getElem?_eq_getElem hjl) hp hru⟩
          have hlen : ps.length = c.args.size := by rw [hl]; simp
          rw [Array.getElem?_append, if_neg (by rw [Array.size_map]; omega), Array.size_map, ← hlen]
          exact hu)
    unfold Oper.wp Oper.upon
    rw [hex]
    exact hcall.mono fun e w' ⟨u, he, hu, hp⟩ => by
      subst he
      exact hn u w' β hp hu fun id hid => by rw [PA.av_refs] at hid; cases hid
  · exact hv.elim
end Go.VL

