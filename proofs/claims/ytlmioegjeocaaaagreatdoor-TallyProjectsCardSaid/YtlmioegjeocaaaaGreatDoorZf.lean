/- Contracts over whole values, and what they lean on: part f. Each holds under the conditions that it states. -/
import Derived.Test.YtlmioegjeocaaaaGreatDoorZe
import Derived.KernelRfl
set_option linter.unusedVariables false
set_option linter.unusedSimpArgs false

namespace Go.VL
open Go.RowKit
set_option linter.unusedVariables false

def AWp (X : Ctx) (N : Nat) (c : Code) (σ : AS) (Q : Exit → AS → Prop) : Prop :=
  ∀ F a w, RelS X F N σ a w → c.wp X.P (fun e a' w' => ∃ σ', Q e σ' ∧ RelS X F N σ' a' w') a w
/-- A loop: told apart, by what holds at its head. -/
def LoopP (X : Ctx) (N : Nat) (b : Code) (σ : AS) (Q : Exit → AS → Prop) : Prop := AWp X N (.loop b) σ Q
def thenQ (K : AS → Prop) (Q : Exit → AS → Prop) : Exit → AS → Prop
  | .normal, σ => K σ
  | e, σ => Q e σ
def blockQ (id : Nat) (Q : Exit → AS → Prop) : Exit → AS → Prop
  | .exit id', σ => if id' = id then Q .normal σ else Q (.exit id') σ
  | e, σ => Q e σ
def wpc (X : Ctx) (N : Nat) : Code → AS → (Exit → AS → Prop) → Prop
  | .skip, σ, Q => Q .normal σ
  | .region _ ops draw, σ, Q => (match draw with | true => runD X ops σ (Q .normal) | false => runL X ops ops.toList σ (Q .normal))
  | .seq a b, σ, Q => wpc X N a σ (thenQ (fun σ' => wpc X N b σ' Q) Q)
  | .cond c x y, σ, Q => (match evE σ.env c with | .one (.pv (.bool b)) => (b = true → wpc X N x σ Q) ∧ (b = false → wpc X N y σ Q) | .one .ub => wpc X N x σ Q ∧ wpc X N y σ Q | _ => False)
  | .block id b, σ, Q => wpc X N b σ (blockQ id Q)
  | .loop b, σ, Q => LoopP X N b σ Q
  | .exit id, σ, Q => Q (.exit id) σ
  | .goto l, σ, Q => Q (.goto l) σ
  | .label _, σ, Q => Q .normal σ
  | .ret, σ, Q => Q .ret σ
  | _, _, _ => False
def codeOk (N : Nat) : Code → Bool
  | .region _ ops _ => dstOk N ops.toList
  | .seq a b => codeOk N a && codeOk N b
  | .cond _ x y => codeOk N x && codeOk N y
  | .block _ b | .loop b => codeOk N b
  | _ => true
theorem wpc_sound {X : Ctx} {N : Nat} : ∀ {c : Code} {σ : AS} {Q : Exit → AS → Prop}, codeOk N c = true → wpc X N c σ Q → AWp X N c σ Q
  | .skip, σ, Q, _, h => fun F a w r => wp_skip ⟨σ, h, r⟩
  | .region id ops true, σ, Q, hok, h => fun F a w r => runD_sound r hok h fun σ' a' w' hK hr => ⟨σ', hK, hr⟩
  | .region id ops false, σ, Q, hok, h => fun F a w r => wp_region_list (runL_sound ops.toList r hok h fun σ' a' w' hK hr => ⟨σ', hK, hr⟩)
  | .seq x y, σ, Q, hok, h => fun F a w r => by
    simp only [codeOk, Bool.and_eq_true] at hok
    refine wp_seq (wp_mono (wpc_sound hok.1 h F a w r) fun e a' w' ⟨σ', hq, hr⟩ => ?_)
    cases e with
    | normal => exact wpc_sound hok.2 hq F a' w' hr
    | exit id => exact ⟨σ', hq, hr⟩
    | goto l => exact ⟨σ', hq, hr⟩
    | ret => exact ⟨σ', hq, hr⟩
    | panic c => exact ⟨σ', hq, hr⟩
    | outgrown => exact ⟨σ', hq, hr⟩
  | .cond c x y, σ, Q, hok, h => fun F a w r => by
    simp only [codeOk, Bool.and_eq_true] at hok
    simp only [wpc] at h
    obtain ⟨β, r'⟩ := r
    have hc := (r'.ev c).1
    split at h
    · rename_i b hb
      rw [hb] at hc
      exact wp_cond_split (one_bool hc) (fun ht => wpc_sound hok.1 (h.1 ht) F a w ⟨β, r'⟩) (fun hf => wpc_sound hok.2 (h.2 hf) F a w ⟨β, r'⟩)
    · rename_i hb
      rw [hb] at hc
      obtain ⟨b, hb'⟩ := hc
      exact wp_cond_split hb' (fun _ => wpc_sound hok.1 h.1 F a w ⟨β, r'⟩) (fun _ => wpc_sound hok.2 h.2 F a w ⟨β, r'⟩)
    · exact h.elim
  | .block id b, σ, Q, hok, h => fun F a w r => by
    refine wp_block (wp_mono (wpc_sound (c := b) hok h F a w r) fun e a' w' ⟨σ', hq, hr⟩ => ?_)
    cases e with
    | exit id' =>
      simp only [blockQ] at hq
      simp only [Exit.inBlock]
      split
      · rename_i he; rw [if_pos he] at hq; exact ⟨σ', hq, hr⟩
      · rename_i he; rw [if_neg he] at hq; exact ⟨σ', hq, hr⟩
    | normal => exact ⟨σ', hq, hr⟩
    | goto l => exact ⟨σ', hq, hr⟩
    | ret => exact ⟨σ', hq, hr⟩
    | panic c => exact ⟨σ', hq, hr⟩
    | outgrown => exact ⟨σ', hq, hr⟩
  | .loop b, σ, Q, hok, h => h
  | .exit id, σ, Q, _, h => fun F a w r => wp_exit ⟨σ, h, r⟩
  | .goto l, σ, Q, _, h => fun F a w r => wp_goto ⟨σ, h, r⟩
  | .label l, σ, Q, _, h => fun F a w r => wp_label ⟨σ, h, r⟩
  | .ret, σ, Q, _, h => fun F a w r => wp_ret ⟨σ, h, r⟩
  | .rangeFunc .., σ, Q, _, h => h.elim
  | .scope .., σ, Q, _, h => h.elim
  | .refuse .., σ, Q, _, h => h.elim

/-! ### What is still to be done, as data -/
inductive KI where
  | code (c : Code)
  | blk (id : Nat)
  | stop (K : AS → Prop)
def kQ (X : Ctx) (N : Nat) (R : AS → Prop) : List KI → Exit → AS → Prop
  | [], .normal, σ => R σ
  | _, .ret, σ => R σ
  | .code c :: k, .normal, σ => wpc X N c σ (kQ X N R k)
  | .blk _ :: k, .normal, σ => kQ X N R k .normal σ
  | .stop K :: _, .normal, σ => K σ
  | .blk id :: k, .exit id', σ => if id' = id then kQ X N R k .normal σ else kQ X N R k (.exit id') σ
  | .code _ :: k, .exit id, σ => kQ X N R k (.exit id) σ
  | .stop _ :: k, .exit id, σ => kQ X N R k (.exit id) σ
  | _, _, _ => False
section
variable {X : Ctx} {N : Nat} {R : AS → Prop} {k : List KI} {σ : AS}
theorem k_skip : wpc X N .skip σ (kQ X N R k) = kQ X N R k .normal σ := by simp only [wpc]
theorem k_reg (i : Nat) (ops : Array Oper) : wpc X N (.region i ops false) σ (kQ X N R k) = runL X ops ops.toList σ (kQ X N R k .normal) := by simp only [wpc]
theorem k_draw (i : Nat) (ops : Array Oper) : wpc X N (.region i ops true) σ (kQ X N R k) = runD X ops σ (kQ X N R k .normal) := by simp only [wpc]
theorem k_seq (a b : Code) : wpc X N (.seq a b) σ (kQ X N R k) = wpc X N a σ (kQ X N R (.code b :: k)) := by
  simp only [wpc]
  congr 1
  funext e σ
  cases e <;> simp only [thenQ, kQ]
theorem k_blk (id : Nat) (b : Code) : wpc X N (.block id b) σ (kQ X N R k) = wpc X N b σ (kQ X N R (.blk id :: k)) := by
  simp only [wpc]
  congr 1
  funext e σ
  cases e <;> simp only [blockQ, kQ]
theorem k_loop (b : Code) : wpc X N (.loop b) σ (kQ X N R k) = LoopP X N b σ (kQ X N R k) := by simp only [wpc]
theorem k_exit (id : Nat) : wpc X N (.exit id) σ (kQ X N R k) = kQ X N R k (.exit id) σ := by simp only [wpc]
theorem k_ret : wpc X N .ret σ (kQ X N R k) = R σ := by cases k <;> simp only [wpc, kQ]
theorem k_label (l : Nat) : wpc X N (.label l) σ (kQ X N R k) = kQ X N R k .normal σ := by simp only [wpc]
/-- A test, its value told. -/
def condP (X : Ctx) (N : Nat) (R : AS → Prop) (k : List KI) (σ : AS) (x y : Code) : AV → Prop
  | .one (.pv (.bool b)) => (b = true → wpc X N x σ (kQ X N R k)) ∧ (b = false → wpc X N y σ (kQ X N R k))
  | .one .ub => wpc X N x σ (kQ X N R k) ∧ wpc X N y σ (kQ X N R k)
  | _ => False
theorem k_cond (c : Operand) (x y : Code) : wpc X N (.cond c x y) σ (kQ X N R k) = condP X N R k σ x y (evE σ.env c) := by
  simp only [wpc]
  split
  · rename_i h; rw [h]; rfl
  · rename_i h; rw [h]; rfl
  · rename_i h1 h2
    unfold condP; split
    · rename_i hb; exact absurd hb (h1 _)
    · rename_i hb; exact absurd hb h2
    · rfl
theorem condP_bool (x y : Code) (b : Bool) : condP X N R k σ x y (.one (.pv (.bool b))) = ((b = true → wpc X N x σ (kQ X N R k)) ∧ (b = false → wpc X N y σ (kQ X N R k))) := rfl
theorem n_nil : kQ X N R [] .normal σ = R σ := by simp only [kQ]
theorem n_code (c : Code) : kQ X N R (.code c :: k) .normal σ = wpc X N c σ (kQ X N R k) := by simp only [kQ]
theorem n_blk (id : Nat) : kQ X N R (.blk id :: k) .normal σ = kQ X N R k .normal σ := by simp only [kQ]
theorem n_stop (K : AS → Prop) : kQ X N R (.stop K :: k) .normal σ = K σ := by simp only [kQ]
theorem x_code (c : Code) (id : Nat) : kQ X N R (.code c :: k) (.exit id) σ = kQ X N R k (.exit id) σ := by simp only [kQ]
theorem x_stop (K : AS → Prop) (id : Nat) : kQ X N R (.stop K :: k) (.exit id) σ = kQ X N R k (.exit id) σ := by simp only [kQ]
theorem x_blk (i id : Nat) : kQ X N R (.blk i :: k) (.exit id) σ = if id = i then kQ X N R k .normal σ else kQ X N R k (.exit id) σ := by simp only [kQ]
end

/-! ### Loops -/
/-- What is known less. -/
def AS.Le (X : Ctx) (N : Nat) (σ τ : AS) : Prop := ∀ F a w, RelS X F N σ a w → RelS X F N τ a w
theorem loop_rule {X : Ctx} {N : Nat} {b : Code} {σ : AS} {Q : Exit → AS → Prop} {G : Type} (I : G → AS) (μ : G → Nat) (hok : codeOk N b = true) (g0 : G) (h0 : σ.Le X N (I g0))
    (hr : ∀ g, wpc X N b (I g) (thenQ (fun σ' => ∃ g', σ'.Le X N (I g') ∧ μ g' < μ g) Q)) : LoopP X N b σ Q := fun F a w r fb k cs => by
  have key : ∀ n g, μ g = n → ∀ a w, RelS X F N (I g) a w → ∃ e a' w', (∃ σ', Q e σ' ∧ RelS X F N σ' a' w') ∧ Arrives X.P (lone (fb.at a (.code b :: .inLoop b :: k)) cs w) fb k cs e a' w' := by
    intro n
    induction n using Nat.strongRecOn with
    | _ n ih =>
      intro g hg a w r
      obtain ⟨e, a', w', ⟨σ', hq, hrel⟩, harr⟩ := wpc_sound hok (hr g) F a w r fb (.inLoop b :: k) cs
      cases e with
      | normal =>
        obtain ⟨g', hle, hlt⟩ := hq
        obtain ⟨e2, a2, w2, hq2, harr2⟩ := ih (μ g') (hg ▸ hlt) g' rfl a' w' (hle F a' w' hrel)
        exact ⟨e2, a2, w2, hq2, .of_steps (Steps.trans harr (.one step_inLoop)) harr2⟩
      | exit id => exact ⟨_, a', w', ⟨σ', hq, hrel⟩, .pass (x := .inLoop b) rfl (fun _ _ => .inl (by simp)) harr⟩
      | goto l => exact ⟨_, a', w', ⟨σ', hq, hrel⟩, .pass (x := .inLoop b) rfl (fun _ _ => .inl (by simp)) harr⟩
      | ret => exact ⟨_, a', w', ⟨σ', hq, hrel⟩, .pass (x := .inLoop b) rfl (fun _ _ => .inl (by simp)) harr⟩
      | panic c => exact ⟨_, a', w', ⟨σ', hq, hrel⟩, .pass (x := .inLoop b) rfl (fun _ _ => .inl (by simp)) harr⟩
      | outgrown => exact ⟨_, a', w', ⟨σ', hq, hrel⟩, .pass (x := .inLoop b) rfl (fun _ _ => .inl (by simp)) harr⟩
  obtain ⟨e, a', w', hq, harr⟩ := key _ g0 rfl a w (h0 F a w r)
  exact ⟨e, a', w', hq, .of_steps (.one step_loop) harr⟩

/-- The same, behind what is still to be done. -/
theorem loop_k {X : Ctx} {N : Nat} {R : AS → Prop} {k : List KI} {b : Code} {σ : AS} {G : Type} (I : G → AS) (μ : G → Nat) (hok : codeOk N b = true) (g0 : G) (h0 : σ.Le X N (I g0))
    (hr : ∀ g K, (∀ σ' g', σ'.Le X N (I g') → μ g' < μ g → K σ') → wpc X N b (I g) (kQ X N R (.stop K :: k))) : LoopP X N b σ (kQ X N R k) :=
  loop_rule I μ hok g0 h0 fun g => by
    have h := hr g (fun σ' => ∃ g', σ'.Le X N (I g') ∧ μ g' < μ g) fun σ' g' h1 h2 => ⟨g', h1, h2⟩
    have e : thenQ (fun σ' => ∃ g', AS.Le X N σ' (I g') ∧ μ g' < μ g) (kQ X N R k) = kQ X N R (.stop (fun σ' => ∃ g', σ'.Le X N (I g') ∧ μ g' < μ g) :: k) := by
      funext e σ
      cases e <;> simp only [thenQ, kQ]
    rw [e]; exact h
/-- A value known less: a nil slice is a slice of nothing. -/
def avLe : AV → AV → Prop
  | .one (.pv .nil), .one (.pv (.sl n cells)) => n = 0 ∧ cells = []
  | .one (.pv .nil), .one (.own _ _ n) => n = 0
  | x, y => x = y
theorem avLe_rep {w : World} {ok : Nat → Prop} {β : Bt} {x y : AV} {u : Value} (h : avLe x y) (r : RepV w ok β x u) : RepV w ok β y u := by
  unfold avLe at h
  split at h
  · obtain ⟨rfl, rfl⟩ := h
    obtain rfl := one_nil r
    exact RepP.sl0 _ _
  · subst h
    obtain rfl := one_nil r
    exact .inl ⟨rfl, rfl⟩
  · subst h; exact r
def leE (e : List (Nat × AV)) : List (Nat × AV) → Prop
  | [] => True
  | (t, v) :: l => (∃ v0, look e t = some v0 ∧ avLe v0 v) ∧ leE e l
def leH (h : Hp) : Hp → Prop
  | [] => True
  | (id, b) :: l => look h id = some b ∧ leH h l
def refsIn (h : Hp) (l : List Nat) : Bool := l.all fun id => (look h id).isSome
def wfE (h : Hp) : List (Nat × AV) → Bool
  | [] => true
  | (_, v) :: l => refsIn h v.refs && wfE h l
def bxOk (h : Hp) : Bx → Bool
  | .pu _ _ => true
  | .mx cs => refsIn h (acRefs cs)
  | .ob cs => refsIn h (acRefs cs)
def wfH (h : Hp) : Hp → Bool
  | [] => true
  | (_, (bx, _)) :: l => bxOk h bx && wfH h l
theorem look_mem {α : Type} : ∀ {l : List (Nat × α)} {t : Nat} {v : α}, look l t = some v → (t, v) ∈ l
  | (k, x) :: l, t, v, h => by
    simp only [look] at h
    split at h
    · rename_i e; simp only [Option.some.injEq] at h; subst h; subst e; simp
    · exact List.mem_cons.2 (.inr (look_mem h))
theorem leE_spec {e : List (Nat × AV)} : ∀ {l : List (Nat × AV)}, leE e l → ∀ t v, (t, v) ∈ l → ∃ v0, look e t = some v0 ∧ avLe v0 v
  | (t', v') :: l, h, t, v, hm => by
    rcases List.mem_cons.1 hm with hm | hm
    · cases hm; exact h.1
    · exact leE_spec h.2 t v hm
theorem leH_spec {e : Hp} : ∀ {l : Hp}, leH e l → ∀ t v, (t, v) ∈ l → look e t = some v
  | (t', v') :: l, h, t, v, hm => by
    rcases List.mem_cons.1 hm with hm | hm
    · cases hm; exact h.1
    · exact leH_spec h.2 t v hm
theorem wfH_spec {h : Hp} : ∀ {l : Hp}, wfH h l = true → ∀ id bx z, (id, (bx, z)) ∈ l → ∀ i ∈ acRefs bx.cells, (look h i).isSome = true
  | (_, (bx', z')) :: l, hh, id, bx, z, hm, i, hi => by
    simp only [wfH, Bool.and_eq_true] at hh
    rcases List.mem_cons.1 hm with hm | hm
    · cases hm
      cases bx' with
      | pu e l => rw [show (Bx.pu e l).cells = l.map .pv from rfl, acRefs_pv] at hi; cases hi
      | mx cs => exact List.all_eq_true.1 hh.1 i hi
      | ob cs => exact List.all_eq_true.1 hh.1 i hi
    · exact wfH_spec hh.2 id bx z hm i hi
theorem wfE_spec {h : Hp} : ∀ {l : List (Nat × AV)}, wfE h l = true → ∀ t v, (t, v) ∈ l → ∀ i ∈ v.refs, (look h i).isSome = true
  | (_, v') :: l, hh, t, v, hm, i, hi => by
    simp only [wfE, Bool.and_eq_true] at hh
    rcases List.mem_cons.1 hm with hm | hm
    · cases hm; exact List.all_eq_true.1 hh.1 i hi
    · exact wfE_spec hh.2 t v hm i hi
/-- Slots and boxes forgotten. -/
theorem le_of {X : Ctx} {N : Nat} {σ τ : AS} (he : leE σ.env τ.env) (hh : leH σ.heap τ.heap) (hw : wfE τ.heap τ.env = true) (hw2 : wfH τ.heap τ.heap = true) : σ.Le X N τ := fun F a w ⟨β, r⟩ => by
  have hl : ∀ id b, look τ.heap id = some b → look σ.heap id = some b := fun id b h => leH_spec hh id b (look_mem h)
  have hok : ∀ b, F.ok w σ.heap β b → F.ok w τ.heap β b := fun b hb => ⟨hb.1, hb.2.1, fun id bx h => hb.2.2 id bx (hl id _ h)⟩
  have k : Keeps (fun _ => True) w (F.ok w σ.heap β) β w (F.ok w τ.heap β) β := ⟨fun b hb => ⟨hok b hb, rfl⟩, fun _ _ => ⟨rfl, fun _ _ => rfl⟩⟩
  refine ⟨β, ⟨r.h.below, r.h.g, fun id bx z h => (r.h.box id bx z (hl id _ h)).keeps k rfl (fun _ _ => rfl) (fun _ _ => trivial), fun i i' e1 e2 g hne h1 h2 => r.h.inj i i' e1 e2 g hne (hl i _ h1) (hl i' _ h2), fun id bx z h => wfH_spec hw2 id bx z (look_mem h), r.h.pin.sub fun i e h => ⟨e, hl i e h⟩⟩, r.defers, r.size, fun t v h => ?_⟩
  have hm := look_mem h
  obtain ⟨v0, h0, hle⟩ := leE_spec he t v hm
  obtain ⟨⟨u, hu, hr⟩, _⟩ := r.env t v0 h0
  exact ⟨⟨u, hu, k.repV (fun _ _ => trivial) (avLe_rep hle hr)⟩, wfE_spec hw t v hm⟩
theorem AS.Le.trans {X : Ctx} {N : Nat} {σ τ υ : AS} (h : σ.Le X N τ) (k : τ.Le X N υ) : σ.Le X N υ := fun F a w r => k F a w (h F a w r)
/-- A box that has no block yet may be told of. -/
theorem le_ghost {X : Ctx} {N : Nat} {env : List (Nat × AV)} {h : Hp} {n id : Nat} {e : TypeId} (hn : look h id = none) (hid : id < 1000) : (AS.mk env h n).Le X N (AS.mk env (put h id (.pu e [], false)) n) := fun F a w ⟨β, r⟩ => by
  have p := post_ghost (e := e) r.h hn hid
  exact ⟨_, p.rel, r.defers, r.size, fun t v hl => by
    obtain ⟨⟨u, hu, hr⟩, hw⟩ := r.env t v hl
    exact ⟨⟨u, hu, p.keep.repV (fun i hi => ⟨hw i hi, by simp⟩) hr⟩, fun i hi => p.dom i (hw i hi)⟩⟩
end Go.VL


namespace Go.VL
open Go.RowKit
set_option linter.unusedVariables false

theorem load_run {X : Ctx} {t : TypeId} {h : Hp} {id off : Nat} {K : AV → Prop} (hv : evLoadBx X t h id off K) :
    ∃ v, K v ∧ ∀ F β w g, HRel X F h β w → β id = some g → ∃ u, (loadVar t ⟨g, off, none⟩).run X.P w = .ok u w ∧ RepV w (F.ok w h β) β v u ∧ ∀ i ∈ v.refs, (look h i).isSome = true := by
  obtain ⟨T, bx, z, v, hT, ⟨hrow, hl⟩, hK, hcase⟩ := evLoadBx_cells hv
  obtain ⟨hu, i, hi, hs, _⟩ := tinf_spec hT
  refine ⟨v, hK, fun F β w g r hg => ?_⟩
  have hb := r.box id bx z hl
  unfold BoxRep at hb
  rw [hg] at hb
  obtain ⟨_, arr, e, harr, _, hcells⟩ := hb
  have harr := harr.is hrow
  rcases hcase with ⟨ha', hlen, rfl⟩ | ⟨ha', c, hc, rfl⟩
  · obtain ⟨vs, h1, h2', h3⟩ := loadVar_agg (P := X.P) (w := w) hu hi ha' (b := g) (o := off) (fun j hj => by
      obtain ⟨u, hu', _⟩ := hcells (off + j) _ (List.getElem?_eq_getElem (by omega))
      exact ⟨u, by rw [cell_arr harr]; exact hu'⟩)
    refine ⟨.agg vs.toArray, h1, ⟨vs.toArray, rfl, by simp [h2', hs]; omega, fun j c hj => ?_⟩, fun i hi => r.wf id bx z hl i (acRefs_sub (fun c hc => List.mem_of_mem_drop (List.mem_of_mem_take hc)) i hi)⟩
    rw [List.getElem?_take] at hj
    split at hj
    · rename_i hjn
      rw [List.getElem?_drop] at hj
      obtain ⟨u, hu', hr⟩ := hcells _ c hj
      refine ⟨u, ?_, hr⟩
      rw [List.getElem?_toArray, h3 j (by omega), cell_arr harr]
      exact hu'
    · cases hj
  · obtain ⟨u, hu', hr⟩ := hcells off c hc
    exact ⟨u, loadVar_one hu ha' (by rw [cell_arr harr]; exact hu'), hr, fun i hi => r.wf id bx z hl i (List.mem_flatMap.2 ⟨c, List.mem_of_getElem? hc, hi⟩)⟩

def resAV (X : Ctx) (σ : AS) : ResultVar → (AV → Prop) → Prop
  | .tmp t, K => K (evE σ.env (.tmp t))
  | .cell a t, K => (match evE σ.env (.tmp a) with | .one (.ptr id off) => evLoadBx X t σ.heap id off K | _ => False)
def resAVs (X : Ctx) (σ : AS) : List ResultVar → (List AV → Prop) → Prop
  | [], K => K []
  | r :: rs, K => resAV X σ r fun v => resAVs X σ rs fun vs => K (v :: vs)
def PA.el : PA → Option (Bool × List PV)
  | .one p => some (false, [p])
  | .agg ps => some (true, ps)
  | .tup _ => none
def els : List PA → Option (List (Bool × List PV))
  | [] => some []
  | p :: ps => match p.el, els ps with | some x, some xs => some (x :: xs) | _, _ => none
def retP (X : Ctx) (rs : List ResultVar) (res : PA) (σ : AS) : Prop :=
  resAVs X σ rs fun vs => viewAs σ.heap vs fun ps _ => (match ps with | [p] => p = res | ps => (match els ps with | some xs => PA.tup xs = res | none => False))
theorem resAVs_sound {X : Ctx} {F : Fr} {N : Nat} {σ : AS} {a : Act} {w : World} {β : Bt} (r : Rel X F N σ a w β) : ∀ {rs : List ResultVar} {K : List AV → Prop}, resAVs X σ rs K →
    ∃ vs us, K vs ∧ (rs.mapM fun (x : ResultVar) => (match x with | .tmp t => pure (a.tmps.getD t undef) | .cell p t => do loadVar t (← asAddr (a.tmps.getD p undef)) : Sem Value)).run X.P w = .ok us w ∧ us.length = vs.length ∧ rs.length = vs.length ∧ (∀ v ∈ vs, ∀ i ∈ v.refs, (look σ.heap i).isSome = true) ∧
      ∀ (j : Nat) v, vs[j]? = some v → ∃ u, us[j]? = some u ∧ RepV w (F.ok w σ.heap β) β v u
  | [], K, h => ⟨[], [], h, by simp, rfl, rfl, fun v hv => (by cases hv), fun j v hj => (by simp at hj)⟩
  | rv :: rs, K, h => by
    simp only [resAVs] at h
    have one : ∃ v u, resAVs X σ rs (fun vs => K (v :: vs)) ∧ ((match rv with | .tmp t => pure (a.tmps.getD t undef) | .cell p t => do loadVar t (← asAddr (a.tmps.getD p undef)) : Sem Value)).run X.P w = .ok u w ∧ RepV w (F.ok w σ.heap β) β v u ∧ ∀ i ∈ v.refs, (look σ.heap i).isSome = true := by
      cases rv with
      | tmp t =>
        obtain ⟨h1, h2⟩ := r.ev (.tmp t)
        exact ⟨_, a.tmps.getD t undef, h, rfl, h1, h2⟩
      | cell p t =>
        simp only [resAV] at h
        obtain ⟨h1, h2⟩ := r.ev (.tmp p)
        split at h
        · rename_i id off hp
          rw [hp] at h1
          obtain ⟨g, hg, hgv⟩ := h1
          obtain ⟨v, hK, hrun⟩ := load_run h
          obtain ⟨u, hu, hr, hw⟩ := hrun F β w g r.h hg
          have hgv' : a.tmps.getD p undef = .pointer (some ⟨g, off, none⟩) := hgv
          exact ⟨v, u, hK, by simp only [hgv', asAddr, Sem.run_bind, Sem.run_pure, Result.andThen_ok, hu], hr, hw⟩
        · exact h.elim
    obtain ⟨v, u, h1, h2, h3, h4⟩ := one
    obtain ⟨vs, us, k1, k2, k3, k3', k4, k5⟩ := resAVs_sound r h1
    refine ⟨v :: vs, u :: us, k1, ?_, by simp [k3], by simp [k3'], fun x hx => ?_, fun j x hj => ?_⟩
    · rw [List.mapM_cons, Sem.run_bind, h2, Result.andThen_ok, Sem.run_bind, k2]; rfl
    · rcases List.mem_cons.1 hx with rfl | hx
      · exact h4
      · exact k4 x hx
    · cases j with
      | zero => simp only [List.getElem?_cons_zero, Option.some.injEq] at hj; subst hj; exact ⟨u, rfl, h3⟩
      | succ j => exact k5 j x (by simpa using hj)
theorem els_spec : ∀ {ps : List PA} {xs : List (Bool × List PV)}, els ps = some xs → xs.length = ps.length ∧ ∀ (j : Nat) x, xs[j]? = some x → ∃ p, ps[j]? = some p ∧ p.el = some x
  | [], xs, h => by simp only [els, Option.some.injEq] at h; subst h; exact ⟨rfl, fun j x hj => by simp at hj⟩
  | p :: ps, xs, h => by
    simp only [els] at h
    split at h
    · rename_i x xs' hx hxs
      simp only [Option.some.injEq] at h
      subst h
      obtain ⟨h1, h2⟩ := els_spec hxs
      refine ⟨by simp [h1], fun j y hj => ?_⟩
      cases j with
      | zero => simp only [List.getElem?_cons_zero, Option.some.injEq] at hj; subst hj; exact ⟨p, rfl, hx⟩
      | succ j => exact h2 j y (by simpa using hj)
    · cases h
theorem el_rep {w : World} {ok : Nat → Prop} {p : PA} {x : Bool × List PV} {u : Value} (h : p.el = some x) (r : RepV w ok β0 p.av u) : RepE w ok β0 (x.1, x.2.map .pv) u := by
  cases p with
  | one p => simp only [PA.el, Option.some.injEq] at h; subst h; exact ⟨_, rfl, r⟩
  | agg ps => simp only [PA.el, Option.some.injEq] at h; subst h; exact r
  | tup xs => cases h
theorem retP_sound {X : Ctx} {F : Fr} {N : Nat} {σ : AS} {a : Act} {w : World} {res : PA} {fn : Func} (r : RelS X F N σ a w) (h : retP X fn.results.toList res σ) :
    ∃ u, (results fn a.tmps).run X.P w = .ok u w ∧ RepV w (fun b => b < w.heap.size ∧ (b < F.w0.heap.size → F.ok0 b ∨ F.mine b)) β0 res.av u := by
  obtain ⟨β, r⟩ := r
  obtain ⟨vs, us, hv, hrun, hl, hl2, hrf, hrep⟩ := resAVs_sound r h
  obtain ⟨ps, ids, hK, hids, hpl, hps⟩ := viewAs_sound r.h.wf hv hrf
  have hw : Wide X F σ.heap β w ids (fun b => b < w.heap.size ∧ (b < F.w0.heap.size → F.ok0 b ∨ F.mine b)) := ⟨r.h, fun b hb => ⟨hb.1, hb.2.1⟩, fun id hid g hg => by
    obtain ⟨e, he⟩ := Option.isSome_iff_exists.1 (hids id hid)
    have := r.h.lt he hg
    exact ⟨this.1, fun h => .inr (this.2.resolve_left (by omega))⟩⟩
  have key : ∀ (j : Nat) p, ps[j]? = some p → ∃ u, us[j]? = some u ∧ RepV w (fun b => b < w.heap.size ∧ (b < F.w0.heap.size → F.ok0 b ∨ F.mine b)) β0 p.av u := fun j p hj => by
    have hjl : j < vs.length := by rw [← hpl]; exact (List.getElem?_eq_some_iff.1 hj).1
    obtain ⟨u, hu, hr⟩ := hrep j vs[j] (List.getElem?_eq_getElem hjl)
    exact ⟨u, hu, hps σ.heap (fun _ _ => rfl) X F β w _ hw j _ p u (List.getElem?_eq_getElem hjl) hj hr⟩
  have hres : (results fn a.tmps).run X.P w = .ok (if h : us.toArray.size = 1 then us.toArray[0] else .tuple us.toArray) w := by
    unfold results
    have e : fn.results = fn.results.toList.toArray := by simp
    rw [Sem.run_bind, e, List.mapM_toArray, Sem.run_map]
    have key2 : ∀ r : Result (List Value), r = .ok us w → (Result.andThen (Result.andThen r fun a w' => Result.ok a.toArray w') fun a w' => Sem.run X.P (pure (if h : a.size = 1 then a[0] else Value.tuple a)) w') = .ok (if h : us.toArray.size = 1 then us.toArray[0] else .tuple us.toArray) w := by rintro _ rfl; rfl
    exact key2 _ hrun
  refine ⟨_, hres, ?_⟩
  split at hK
  · rename_i p
    subst hK
    obtain ⟨u, hu, hr⟩ := key 0 p rfl
    have hs : us.toArray.size = 1 := by rw [List.size_toArray, hl, ← hpl]; rfl
    rw [dif_pos hs]
    have : us.toArray[0] = u := by
      have := (List.getElem?_eq_some_iff.1 hu).2
      simpa using this
    rw [this]; exact hr
  · rename_i hne
    split at hK
    · rename_i xs hxs
      subst hK
      obtain ⟨h1, h2⟩ := els_spec hxs
      have hs : ¬ us.toArray.size = 1 := by
        rw [List.size_toArray, hl, ← hpl]
        intro h1
        obtain ⟨p, hp⟩ := List.length_eq_one_iff.1 h1
        exact hne p hp
      rw [dif_neg hs]
      refine ⟨us.toArray, rfl, by simp [hl, h1, hpl], fun j x hj => ?_⟩
      rw [List.getElem?_map] at hj
      cases hx : xs[j]? with
      | none => rw [hx] at hj; cases hj
      | some y =>
        rw [hx] at hj
        simp only [Option.map_some, Option.some.injEq] at hj
        subst hj
        obtain ⟨p, hp, he⟩ := h2 j y hx
        obtain ⟨u, hu, hr⟩ := key j p hp
        exact ⟨u, by simpa using hu, el_rep he hr⟩
    · exact hK.elim

/-! ### What holds of every whole value -/
def PV.sane : PV → Prop
  | .int k z => k.min ≤ z ∧ z ≤ k.max
  | .str s => s.length ≤ topLen
  | .sl n cells => n ≤ topLen ∧ (n = 0 → cells = []) ∧ ∀ p, p ∈ cells → p.sane
  | .pt cells _ => ∀ p, p ∈ cells → p.sane
  | _ => True
theorem RepP.sane {w : World} {ok : Nat → Prop} {p : PV} {v : Value} (h : RepP w ok p v) : p.sane := by
  induction h with
  | int k z h => unfold PV.sane; exact h
  | bool b => unfold PV.sane; trivial
  | str s h => unfold PV.sane; exact h
  | lit v h => unfold PV.sane; trivial
  | nil => unfold PV.sane; trivial
  | sl0 A cap => unfold PV.sane; exact ⟨Nat.zero_le _, fun _ => rfl, fun p hp => by cases hp⟩
  | sl n sz cap b o cells vals hn hc hm hl hok hcell hrep ih =>
    unfold PV.sane
    refine ⟨Nat.le_trans hc hm, fun h => by omega, fun p hp => ?_⟩
    obtain ⟨j, hj⟩ := List.getElem?_of_mem hp
    exact ih j p hj
  | pt b o off cells vals hok hcell hrep ih =>
    unfold PV.sane
    intro p hp
    obtain ⟨j, hj⟩ := List.getElem?_of_mem hp
    exact ih j p hj
  | clo f caps vs vals hs hv hr => unfold PV.sane; trivial
  | ifc t v => unfold PV.sane; trivial
def PA.sane : PA → Prop
  | .one p => p.sane
  | .agg ps => ∀ p, p ∈ ps → p.sane
  | .tup _ => True
theorem PA.sane_of {w : World} {ok : Nat → Prop} {β : Bt} {p : PA} {v : Value} (h : RepV w ok β p.av v) : p.sane := by
  cases p with
  | one p => exact RepP.sane h
  | agg ps =>
    obtain ⟨vs, rfl, hl⟩ := h
    intro p hp
    obtain ⟨j, hj⟩ := List.getElem?_of_mem hp
    obtain ⟨u, _, hr⟩ := hl.2 j (.pv p) (by simp [hj])
    exact RepP.sane hr
  | tup xs => trivial
def sanes : List PA → Prop
  | [] => True
  | p :: ps => p.sane ∧ sanes ps
theorem sanes_of : ∀ {ps : List PA}, (∀ p ∈ ps, p.sane) → sanes ps
  | [], _ => trivial
  | p :: ps, h => ⟨h p (by simp), sanes_of fun q hq => h q (by simp [hq])⟩

/-- The slots at the beginning: the arguments. -/
def entryE : Nat → List PA → List (Nat × AV)
  | _, [] => []
  | k, p :: ps => (k, p.av) :: entryE (k + 1) ps
theorem look_entryE : ∀ {ps : List PA} {k t : Nat} {v : AV}, look (entryE k ps) t = some v → k ≤ t ∧ ∃ p, ps[t - k]? = some p ∧ v = p.av
  | p :: ps, k, t, v, h => by
    simp only [entryE, look] at h
    split at h
    · rename_i e
      simp only [Option.some.injEq] at h
      subst h; subst e
      exact ⟨Nat.le_refl _, p, by simp, rfl⟩
    · rename_i e
      obtain ⟨h1, q, h2, h3⟩ := look_entryE h
      refine ⟨by omega, q, ?_, h3⟩
      rw [show t - k = (t - (k + 1)) + 1 by omega, List.getElem?_cons_succ]
      exact h2
theorem spec_of {X : Ctx} {f : FuncId} {fn : Func} {c : Code} {args : List PA} {res : PA} (hf : X.P.funcs[f]? = some fn) (hname : (fn.name == "runtime.NumGoroutine") = false) (hb : fn.body = some c) (hok : codeOk fn.ntmps c = true) (hn : args.length ≤ fn.ntmps)
    (h : sanes args → ∀ R, (∀ σ, retP X fn.results.toList res σ → R σ) → wpc X fn.ntmps c ⟨entryE 0 args, [], 0⟩ (kQ X fn.ntmps R [])) : Spc X f args res where
  ent := ent_of hf hname hb
  calls := fun ok w vals hG hlt hs hv => by
    have hsane : sanes args := sanes_of fun p hp => by
      obtain ⟨j, hj⟩ := List.getElem?_of_mem hp
      obtain ⟨u, _, hr⟩ := hv j p hj
      exact PA.sane_of hr
    refine calls_of_wp hf hb ?_
    have hrel : RelS X ⟨w, ok, fun _ => False, β0⟩ fn.ntmps ⟨entryE 0 args, [], 0⟩ { tmps := vals ++ Array.replicate (fn.ntmps - vals.size) undef, defers := [] } w := by
      refine ⟨β0, ⟨BelowM.refl _ _, ⟨hG, fun b h => h.elim⟩, fun id bx z hl => (by cases hl), fun i i' e1 e2 g hne h1 => (by cases h1), fun id bx z hl => (by cases hl), fun id _ => ⟨rfl, fun g hg => by cases hg⟩⟩, rfl, by simp; omega, fun t v hl => ?_⟩
      obtain ⟨_, p, hp, rfl⟩ := look_entryE hl
      rw [Nat.sub_zero] at hp
      obtain ⟨u, hu, hr⟩ := hv t p hp
      refine ⟨⟨u, ?_, ?_⟩, fun id hid => by rw [PA.av_refs] at hid; cases hid⟩
      · rw [Array.getElem?_append, if_pos (Array.getElem?_eq_some_iff.1 hu).1]; exact hu
      · have k : Keeps (fun _ => False) w ok β0 w (Fr.ok ⟨w, ok, fun _ => False, β0⟩ w [] β0) β0 := ⟨fun b hb => ⟨⟨hlt b hb, fun _ => .inl hb, fun id bx hl => by cases hl⟩, rfl⟩, fun _ h => h.elim⟩
        exact k.repV (fun id hid => by rw [PA.av_refs] at hid; cases hid) hr
    refine wp_mono (wpc_sound hok (h hsane _ fun σ hσ => hσ) _ _ _ hrel) fun e a' w' ⟨σ', hq, hr⟩ => ?_
    have fin : retP X fn.results.toList res σ' → a'.defers = [] ∧ ∃ v, (results fn a'.tmps).run X.P w' = .ok v w' ∧ ∃ u, Ending.returned v = .returned u ∧ RepV w' (fun b => b < w'.heap.size ∧ (b < w.heap.size → ok b)) β0 res.av u ∧ Below w.heap.size w w' := fun hp => by
      obtain ⟨u, h1, h2⟩ := retP_sound hr hp
      obtain ⟨β, hr⟩ := hr
      have hb := hr.h.below
      have k : Keeps (fun _ => False) w' (fun b => b < w'.heap.size ∧ (b < w.heap.size → ok b ∨ False)) β0 w' (fun b => b < w'.heap.size ∧ (b < w.heap.size → ok b)) β0 := ⟨fun b hb => ⟨⟨hb.1, fun h => (hb.2 h).resolve_right id⟩, rfl⟩, fun _ h => h.elim⟩
      exact ⟨hr.defers, u, h1, u, rfl, k.repV (fun id hid => by rw [PA.av_refs] at hid; cases hid) h2, ⟨hb.os, hb.tape, hb.output, hb.size, fun k hk => hb.block k hk id⟩⟩
    cases e with
    | normal => exact fin hq
    | ret => exact fin hq
    | exit id => exact hq.elim
    | goto l => exact hq.elim
    | panic c => exact hq.elim
    | outgrown => exact hq.elim
end Go.VL


namespace Go.VL
open Go.RowKit
set_option linter.unusedVariables false

/-! ### Goals, closed to unfolding -/
structure Wp (X : Ctx) (N : Nat) (R : AS → Prop) (k : List KI) (c : Code) (σ : AS) : Prop where
  h : wpc X N c σ (kQ X N R k)
structure Nx (X : Ctx) (N : Nat) (R : AS → Prop) (k : List KI) (σ : AS) : Prop where
  h : kQ X N R k .normal σ
structure Ex (X : Ctx) (N : Nat) (R : AS → Prop) (k : List KI) (id : Nat) (σ : AS) : Prop where
  h : kQ X N R k (.exit id) σ
structure Lp (X : Ctx) (N : Nat) (R : AS → Prop) (k : List KI) (b : Code) (σ : AS) : Prop where
  h : LoopP X N b σ (kQ X N R k)
structure Rn (X : Ctx) (N : Nat) (R : AS → Prop) (k : List KI) (ops : Array Oper) (D : Option (List Fl)) (l : List Oper) (σ : AS) : Prop where
  h : match D with | none => runL X ops l σ (kQ X N R k .normal) | some fls => runDL X ops l fls σ (kQ X N R k .normal)
structure EvR (env : List (Nat × AV)) (x : Operand) (v : AV) : Prop where
  h : evE env x = v
class TInf (X : Ctx) (t : Nat) (T : outParam TI) : Prop where
  h : tinf X.P t = some T
theorem EvR.tmp {env : List (Nat × AV)} {t : Tmp} {v : AV} (h : look env t = some v) : EvR env (.tmp t) v := ⟨by simp only [evE, h]; rfl⟩
theorem EvR.cint {env : List (Nat × AV)} {k : IntKind} {z : Int} (h : k.min ≤ z ∧ z ≤ k.max) : EvR env (.const (.int k z)) (vP (.int k z)) := ⟨by simp [evE, ofVal, ofCell, h]⟩
theorem EvR.of {env : List (Nat × AV)} {x : Operand} {c : AC} (h : evE env x = .one c) : EvR env x (.one c) := ⟨h⟩
theorem EvR.fn {env : List (Nat × AV)} {f : FuncId} : EvR env (.func f) (.one (.pv (.clo f []))) := ⟨rfl⟩

inductive OfL : List Value → List AC → Prop
  | nil : OfL [] []
  | int {k : IntKind} {l : List Value} {cs : List AC} (h : OfL l cs) : OfL (.int k 0 :: l) (.pv (.int k 0) :: cs)
  | bool {b : Bool} {l : List Value} {cs : List AC} (h : OfL l cs) : OfL (.bool b :: l) (.pv (.bool b) :: cs)
  | str {l : List Value} {cs : List AC} (h : OfL l cs) : OfL (.string ⟨⟨[]⟩⟩ :: l) (.pv (.str []) :: cs)
  | nilS {l : List Value} {cs : List AC} (h : OfL l cs) : OfL (.slice none 0 0 :: l) (.pv .nil :: cs)
  | other {v : Value} {l : List Value} {cs : List AC} {c : AC} (h1 : v.oneCell' = true) (h2 : ofCell v = c) (h : OfL l cs) : OfL (v :: l) (c :: cs)
theorem OfL.eq {l : List Value} {cs : List AC} (h : OfL l cs) : l.all Value.oneCell' = true ∧ l.map ofCell = cs := by
  induction h with
  | nil => exact ⟨rfl, rfl⟩
  | @int k l cs _ ih =>
    refine ⟨by simp [ih.1, Value.oneCell'], ?_⟩
    rw [List.map_cons, ih.2]
    have : k.min ≤ 0 ∧ 0 ≤ k.max := by cases k <;> decide
    simp [ofCell, this]
  | bool _ ih => exact ⟨by simp [ih.1, Value.oneCell'], by rw [List.map_cons, ih.2]; rfl⟩
  | str _ ih => exact ⟨by simp [ih.1, Value.oneCell'], by rw [List.map_cons, ih.2]; simp [ofCell]⟩
  | nilS _ ih => exact ⟨by simp [ih.1, Value.oneCell'], by rw [List.map_cons, ih.2]; rfl⟩
  | other h1 h2 _ ih => exact ⟨by simp [ih.1, h1], by rw [List.map_cons, ih.2, h2]⟩
theorem EvR.ci {env : List (Nat × AV)} {k : IntKind} {z : Int} (h : (decide (k.min ≤ z) && decide (z ≤ k.max)) = true) : EvR env (.const (.int k z)) (vP (.int k z)) := by
  simp only [Bool.and_eq_true, decide_eq_true_eq] at h
  exact ⟨by simp [evE, ofVal, ofCell, h]⟩
theorem EvR.cb {env : List (Nat × AV)} {b : Bool} : EvR env (.const (.bool b)) (vB b) := ⟨rfl⟩
theorem EvR.cs {env : List (Nat × AV)} {l : List UInt8} (h : Nat.ble l.length topLen = true) : EvR env (.const (.string ⟨⟨l⟩⟩)) (vS l) := ⟨by
  have := Nat.le_of_ble_eq_true h
  simp [evE, ofVal, ofCell, this]⟩
theorem EvR.cagg {env : List (Nat × AV)} {l : List Value} {cs : List AC} (h : OfL l cs) : EvR env (.const (.agg ⟨l⟩)) (.agg cs) := ⟨by
  have := h.eq
  simp only [evE, ofVal]
  rw [if_pos (by simpa using this.1)]
  simp [this.2]⟩

section
variable {X : Ctx} {N : Nat} {R : AS → Prop} {k : List KI} {σ : AS}
/-! ### Code -/
theorem W_skip (h : Nx X N R k σ) : Wp X N R k .skip σ := ⟨by rw [k_skip]; exact h.h⟩
theorem W_seq {a b : Code} (h : Wp X N R (.code b :: k) a σ) : Wp X N R k (.seq a b) σ := ⟨by rw [k_seq]; exact h.h⟩
theorem W_blk {id : Nat} {b : Code} (h : Wp X N R (.blk id :: k) b σ) : Wp X N R k (.block id b) σ := ⟨by rw [k_blk]; exact h.h⟩
theorem W_exit {id : Nat} (h : Ex X N R k id σ) : Wp X N R k (.exit id) σ := ⟨by rw [k_exit]; exact h.h⟩
theorem W_label {l : Nat} (h : Nx X N R k σ) : Wp X N R k (.label l) σ := ⟨by rw [k_label]; exact h.h⟩
theorem W_ret (h : R σ) : Wp X N R k .ret σ := ⟨by rw [k_ret]; exact h⟩
theorem W_loop {b : Code} (h : Lp X N R k b σ) : Wp X N R k (.loop b) σ := ⟨by rw [k_loop]; exact h.h⟩
theorem W_reg {i : Nat} {l : List Oper} (h : Rn X N R k ⟨l⟩ none l σ) : Wp X N R k (.region i ⟨l⟩ false) σ := ⟨by rw [k_reg]; exact h.h⟩
theorem W_draw {i : Nat} {l : List Oper} (h : Rn X N R k ⟨l⟩ (some []) l σ) : Wp X N R k (.region i ⟨l⟩ true) σ := ⟨by rw [k_draw]; exact h.h⟩
theorem W_cond {c : Operand} {x y : Code} {b : Bool} (hc : EvR σ.env c (vB b)) (ht : b = true → Wp X N R k x σ) (hf : b = false → Wp X N R k y σ) : Wp X N R k (.cond c x y) σ :=
  ⟨by rw [k_cond, hc.h, condP_bool]; exact ⟨fun h => (ht h).h, fun h => (hf h).h⟩⟩
theorem W_cond_t {c : Operand} {x y : Code} (hc : EvR σ.env c (vB true) := by exact ⟨rfl⟩) (ht : Wp X N R k x σ) : Wp X N R k (.cond c x y) σ := W_cond hc (fun _ => ht) (fun h => by cases h)
theorem W_cond_f {c : Operand} {x y : Code} (hc : EvR σ.env c (vB false) := by exact ⟨rfl⟩) (ht : Wp X N R k y σ) : Wp X N R k (.cond c x y) σ := W_cond hc (fun h => by cases h) (fun _ => ht)
theorem W_ub {c : Operand} {x y : Code} (hc : EvR σ.env c (.one .ub) := by exact ⟨rfl⟩) (ht : Wp X N R k x σ) (hf : Wp X N R k y σ) : Wp X N R k (.cond c x y) σ :=
  ⟨by rw [k_cond, hc.h]; exact ⟨ht.h, hf.h⟩⟩
/-- The test, as what it says. -/
theorem W_if {c : Operand} {x y : Code} {p : Prop} [Decidable p] (hc : EvR σ.env c (vB (decide p)) := by exact ⟨rfl⟩) (ht : p → Wp X N R k x σ) (hf : ¬ p → Wp X N R k y σ) : Wp X N R k (.cond c x y) σ :=
  W_cond hc (fun h => ht (of_decide_eq_true h)) (fun h => hf (of_decide_eq_false h))
theorem W_ifb {c : Operand} {x y : Code} {b : Bool} (hc : EvR σ.env c (vB b) := by exact ⟨rfl⟩) (ht : b = true → Wp X N R k x σ) (hf : b = false → Wp X N R k y σ) : Wp X N R k (.cond c x y) σ := W_cond hc ht hf
theorem N_nil (h : R σ) : Nx X N R [] σ := ⟨by rw [n_nil]; exact h⟩
theorem N_code {c : Code} (h : Wp X N R k c σ) : Nx X N R (.code c :: k) σ := ⟨by rw [n_code]; exact h.h⟩
theorem N_blk {id : Nat} (h : Nx X N R k σ) : Nx X N R (.blk id :: k) σ := ⟨by rw [n_blk]; exact h.h⟩
theorem N_stop {K : AS → Prop} (h : K σ) : Nx X N R (.stop K :: k) σ := ⟨by rw [n_stop]; exact h⟩
theorem X_code {c : Code} {id : Nat} (h : Ex X N R k id σ) : Ex X N R (.code c :: k) id σ := ⟨by rw [x_code]; exact h.h⟩
theorem X_stop {K : AS → Prop} {id : Nat} (h : Ex X N R k id σ) : Ex X N R (.stop K :: k) id σ := ⟨by rw [x_stop]; exact h.h⟩
theorem X_hit {id : Nat} (h : Nx X N R k σ) : Ex X N R (.blk id :: k) id σ := ⟨by rw [x_blk, if_pos rfl]; exact h.h⟩
theorem X_miss {i id : Nat} (h : Ex X N R k id σ) (hn : (id == i) = false := by rfl) : Ex X N R (.blk i :: k) id σ := ⟨by rw [x_blk, if_neg (by simpa using hn)]; exact h.h⟩
/-- A loop; `g` runs over what tells one round from another. -/
theorem Lp.intro {b : Code} {G : Type} (I : G → AS) (P : G → Prop) (μ : G → Nat) (g0 : G) (hp : P g0) (hok : codeOk N b = true := by rfl) (h0 : σ.Le X N (I g0))
    (hr : ∀ g K, P g → (∀ σ' g', P g' → μ g' < μ g → σ'.Le X N (I g') → K σ') → Wp X N R (.stop K :: k) b (I g)) : Lp X N R k b σ :=
  ⟨loop_k (fun g : {g : G // P g} => I g.1) (fun g => μ g.1) hok ⟨g0, hp⟩ h0 fun g K hK => (hr g.1 K g.2 fun σ' g' h1 h2 h3 => hK σ' ⟨g', h1⟩ h3 h2).h⟩

theorem Lp.intro2 {b : Code} {A B : Type} (I : A → B → AS) (P : A → B → Prop) (μ : A → B → Nat) (a0 : A) (b0 : B) (hp : P a0 b0) (hok : codeOk N b = true := by rfl) (h0 : σ.Le X N (I a0 b0))
    (hr : ∀ x y K, P x y → (∀ σ' x' y', P x' y' → μ x' y' < μ x y → σ'.Le X N (I x' y') → K σ') → Wp X N R (.stop K :: k) b (I x y)) : Lp X N R k b σ :=
  Lp.intro (fun g : A × B => I g.1 g.2) (fun g => P g.1 g.2) (fun g => μ g.1 g.2) (a0, b0) hp hok h0 fun g K hP hK => hr g.1 g.2 K hP fun σ' x' y' => hK σ' (x', y')
theorem Lp.intro3 {b : Code} {A B C : Type} (I : A → B → C → AS) (P : A → B → C → Prop) (μ : A → B → C → Nat) (a0 : A) (b0 : B) (c0 : C) (hp : P a0 b0 c0) (hok : codeOk N b = true := by rfl) (h0 : σ.Le X N (I a0 b0 c0))
    (hr : ∀ x y z K, P x y z → (∀ σ' x' y' z', P x' y' z' → μ x' y' z' < μ x y z → σ'.Le X N (I x' y' z') → K σ') → Wp X N R (.stop K :: k) b (I x y z)) : Lp X N R k b σ :=
  Lp.intro (fun g : A × B × C => I g.1 g.2.1 g.2.2) (fun g => P g.1 g.2.1 g.2.2) (fun g => μ g.1 g.2.1 g.2.2) (a0, b0, c0) hp hok h0 fun g K hP hK => hr g.1 g.2.1 g.2.2 K hP fun σ' x' y' z' => hK σ' (x', y', z')
theorem Lp.intro4 {b : Code} {A B C E : Type} (I : A → B → C → E → AS) (P : A → B → C → E → Prop) (μ : A → B → C → E → Nat) (a0 : A) (b0 : B) (c0 : C) (e0 : E) (hp : P a0 b0 c0 e0) (hok : codeOk N b = true := by rfl) (h0 : σ.Le X N (I a0 b0 c0 e0))
    (hr : ∀ x y z v K, P x y z v → (∀ σ' x' y' z' v', P x' y' z' v' → μ x' y' z' v' < μ x y z v → σ'.Le X N (I x' y' z' v') → K σ') → Wp X N R (.stop K :: k) b (I x y z v)) : Lp X N R k b σ :=
  Lp.intro (fun g : A × B × C × E => I g.1 g.2.1 g.2.2.1 g.2.2.2) (fun g => P g.1 g.2.1 g.2.2.1 g.2.2.2) (fun g => μ g.1 g.2.1 g.2.2.1 g.2.2.2) (a0, b0, c0, e0) hp hok h0 fun g K hP hK => hr g.1 g.2.1 g.2.2.1 g.2.2.2 K hP fun σ' x' y' z' v' => hK σ' (x', y', z', v')

/-! ### Operations -/
inductive SkD : Option (List Fl) → Option (List Fl) → Prop
  | seq : SkD none none
  | drawn {fls : List Fl} : SkD (some fls) (some (⟨0, [], none, false, none, false, none⟩ :: fls))
structure FlR (D : Option (List Fl)) (env : List (Nat × AV)) (op : Op) (v : AV) (ef : Ef) (D' : Option (List Fl)) : Prop where
  h : match D with | none => D' = none | some fls => ∃ f, D' = some (f :: fls) ∧ ∀ o : Oper, o.op = op → flagOf env o v ef = f
theorem FlR.seq {env : List (Nat × AV)} {op : Op} {v : AV} {ef : Ef} : FlR none env op v ef none := ⟨rfl⟩
/-- What the flag is, told of the operation alone. -/
def flagP (env : List (Nat × AV)) (op : Op) (v : AV) : Ef → Fl
  | .n rd zs add => if rd.isEmpty = true ∧ zs.isEmpty = true ∧ add.isNone = true ∧ v.isPv = true ∧ (op.operands.toList.all fun x => (evE env x).isPv) = true then ⟨0, [], none, false, none, false, none⟩ else ⟨1, rd ++ zs, adO zs add, frO env op v add, rfO env op v, isLd op, none⟩
  | .e h' m => ⟨2, wrE op (evE env) h' m, m, false, none, false, scO op (evE env) m⟩
theorem flagP_eq (env : List (Nat × AV)) (o : Oper) (v : AV) (ef : Ef) : flagOf env o v ef = flagP env o.op v ef := by cases ef <;> rfl
theorem FlR.drawn {env : List (Nat × AV)} {op : Op} {v : AV} {ef : Ef} {fls : List Fl} {n : Nat} {rd : List Nat} {ad : Option Nat} {fr : Bool} {rf : Option (List Nat)} {ld : Bool} {sc : Option (List Nat)} (h : flagP env op v ef = ⟨n, rd, ad, fr, rf, ld, sc⟩) : FlR (some fls) env op v ef (some (⟨n, rd, ad, fr, rf, ld, sc⟩ :: fls)) :=
  .mk (show ∃ f, _ ∧ _ from ⟨_, rfl, fun o ho => by rw [flagP_eq, ho, h]⟩)
variable {ops : Array Oper} {D D' : Option (List Fl)} {rest : List Oper} {env : List (Nat × AV)} {h : Hp} {n n' : Nat} {dst : Option Tmp} {t d : Tmp} {op : Op} {ty a : TypeId} {ps : String} {af : Array Edge}
theorem Rn.nil (hK : Nx X N R k σ) : Rn X N R k ops none [] σ := .mk (show runL X ops [] σ _ from hK.h)
theorem Rn.nilD {fls : List Fl} (hK : Nx X N R k σ) (h1 : orderOk ops = true := by kernel_rfl) (h2 : pairsFast ops fls.reverse = true := by kernel_rfl) : Rn X N R k ops (some fls) [] σ := .mk (show runDL X ops [] fls σ _ from ⟨h1, pairsFast_ok h2, hK.h⟩)
theorem Rn.step {ef : Ef} {v : AV} (hf : freshE h ef) (hv : ∀ K : Ef → AV → Nat → Prop, K ef v n' → evOp X ⟨dst, op, ty, ps, af, none⟩ (evE env) h n K) (hfl : FlR D env op v ef D') (hK : Rn X N R k ops D' rest ((AS.mk env h n).fin dst ef v n')) :
    Rn X N R k ops D (⟨dst, op, ty, ps, af, none⟩ :: rest) ⟨env, h, n⟩ := by
  constructor
  cases D with
  | none =>
    have e := hfl.h
    simp only at e
    subst e
    exact .inl (hv (fun ef v nx => freshE h ef ∧ runL X ops rest ((AS.mk env h n).fin dst ef v nx) (kQ X N R k .normal)) ⟨hf, hK.h⟩)
  | some fls =>
    obtain ⟨f, rfl, hf2⟩ := hfl.h
    refine hv (fun ef v nx => freshE h ef ∧ runDL X ops rest (flagOf env ⟨dst, op, ty, ps, af, none⟩ v ef :: fls) ((AS.mk env h n).fin dst ef v nx) (kQ X N R k .normal)) ⟨hf, ?_⟩
    rw [hf2 _ rfl]
    exact hK.h
/-- An operation that reads its operands alone. -/
def valOp : Op → Bool
  | .load .. | .alloc .. | .box .. | .makeSlice .. | .buildSlice .. | .store .. | .call .. | .makeMap .. | .mapUpdate .. | .lookup .. | .range .. | .entry .. => false
  | _ => true
theorem Rn.val {v : AV} (hop : valOp op = true) (hv : ∀ K : AV → Prop, K v → evVal X op (evE env) K) (hfl : FlR D env op v (.n [] [] none) D') (hK : Rn X N R k ops D' rest ⟨(d, v) :: env, h, n⟩) :
    Rn X N R k ops D (⟨some d, op, ty, ps, af, none⟩ :: rest) ⟨env, h, n⟩ := by
  refine Rn.step (ef := .n [] [] none) trivial (fun K hK => ?_) hfl hK
  have := hv (fun v => K (.n [] [] none) v n) hK
  cases op <;> first | exact this | exact .inl this | cases hop

/-! Values moved -/
theorem R_move {x : Operand} {v : AV} (hx : EvR env x v := by first | exact .tmp rfl | exact .ci rfl | exact .cb | exact .cs rfl | exact .of rfl | exact .fn | (apply EvR.cagg; repeat (first | exact OfL.nil | apply OfL.int | apply OfL.bool | apply OfL.str | apply OfL.nilS | (apply OfL.other; rfl; rfl)))) (hfl : FlR D env (.move x) v (.n [] [] none) D' := by first | exact .seq | exact .drawn rfl)
    (hK : Rn X N R k ops D' rest ⟨(d, v) :: env, h, n⟩) : Rn X N R k ops D (⟨some d, .move x, ty, ps, af, none⟩ :: rest) ⟨env, h, n⟩ :=
  Rn.val rfl (fun K hK => by simp only [evVal, hx.h]; exact hK) hfl hK
theorem R_assign {x : Operand} {v : AV} (hx : EvR env x v := by first | exact .tmp rfl | exact .ci rfl | exact .cb | exact .cs rfl | exact .of rfl | exact .fn | (apply EvR.cagg; repeat (first | exact OfL.nil | apply OfL.int | apply OfL.bool | apply OfL.str | apply OfL.nilS | (apply OfL.other; rfl; rfl)))) (hfl : FlR D env (.assign x) v (.n [] [] none) D' := by first | exact .seq | exact .drawn rfl)
    (hK : Rn X N R k ops D' rest ⟨(d, v) :: env, h, n⟩) : Rn X N R k ops D (⟨some d, .assign x, ty, ps, af, none⟩ :: rest) ⟨env, h, n⟩ :=
  Rn.val rfl (fun K hK => by simp only [evVal, hx.h]; exact hK) hfl hK
theorem R_pick_t {c x y : Operand} {v : AV} (hc : EvR env c (vB true) := by exact ⟨rfl⟩) (hx : EvR env x v := by first | exact .tmp rfl | exact .ci rfl | exact .cb | exact .cs rfl | exact .of rfl | exact .fn | (apply EvR.cagg; repeat (first | exact OfL.nil | apply OfL.int | apply OfL.bool | apply OfL.str | apply OfL.nilS | (apply OfL.other; rfl; rfl)))) (hfl : FlR D env (.pick c x y) v (.n [] [] none) D' := by first | exact .seq | exact .drawn rfl)
    (hK : Rn X N R k ops D' rest ⟨(d, v) :: env, h, n⟩) : Rn X N R k ops D (⟨some d, .pick c x y, ty, ps, af, none⟩ :: rest) ⟨env, h, n⟩ :=
  Rn.val rfl (fun K hK => by simp only [evVal, hx.h, hc.h]; exact ⟨fun _ => hK, fun e => by cases e⟩) hfl hK
theorem R_pick_f {c x y : Operand} {v : AV} (hc : EvR env c (vB false) := by exact ⟨rfl⟩) (hy : EvR env y v := by first | exact .tmp rfl | exact .ci rfl | exact .cb | exact .cs rfl | exact .of rfl | exact .fn | (apply EvR.cagg; repeat (first | exact OfL.nil | apply OfL.int | apply OfL.bool | apply OfL.str | apply OfL.nilS | (apply OfL.other; rfl; rfl)))) (hfl : FlR D env (.pick c x y) v (.n [] [] none) D' := by first | exact .seq | exact .drawn rfl)
    (hK : Rn X N R k ops D' rest ⟨(d, v) :: env, h, n⟩) : Rn X N R k ops D (⟨some d, .pick c x y, ty, ps, af, none⟩ :: rest) ⟨env, h, n⟩ :=
  Rn.val rfl (fun K hK => by simp only [evVal, hy.h, hc.h]; exact ⟨fun e => (by cases e), fun _ => hK⟩) hfl hK
theorem setB_self {b b' : Bool} (hb : b = b') (hc : look env t = some (vB b)) : ∀ s, look ((t, vB b') :: env) s = look env s := fun s => by
  subst hb
  simp only [look]
  split
  · rename_i e; rw [e, hc]
  · rfl
/-- A guarded operation. -/
theorem R_guard {j : Nat} {want b : Bool} (ht : (ops[j]?).bind (·.dst) = some t) (hc : look env t = some (vB b)) {D1 D2 : Option (List Fl)}
    (h1 : b = want → Rn X N R k ops D (⟨dst, op, ty, ps, af, none⟩ :: rest) ⟨(t, vB want) :: env, h, n⟩)
    (hD : SkD D D2)
    (h2 : b = !want → Rn X N R k ops D2 rest ⟨delO ((t, vB (!want)) :: env) dst, h, n⟩) : Rn X N R k ops D (⟨dst, op, ty, ps, af, some (j, want)⟩ :: rest) ⟨env, h, n⟩ := by
  constructor
  cases hD with
  | seq =>
    simp only [runL, gdo, ht, hc]
    exact ⟨fun e => (h1 e).h, fun e => (h2 e).h⟩
  | drawn =>
    simp only [runDL, gdoD, ht, hc]
    exact ⟨fun e => (h1 e).h, fun e => (h2 e).h⟩
theorem R_g_yes {j : Nat} {want : Bool} (ht : (ops[j]?).bind (·.dst) = some t := by rfl) (hc : look env t = some (vB want) := by rfl)
    (hK : Rn X N R k ops D (⟨dst, op, ty, ps, af, none⟩ :: rest) ⟨(t, vB want) :: env, h, n⟩) : Rn X N R k ops D (⟨dst, op, ty, ps, af, some (j, want)⟩ :: rest) ⟨env, h, n⟩ :=
  R_guard (D1 := none) (D2 := D.map (⟨0, [], none, false, none, false, none⟩ :: ·)) ht hc (fun _ => hK) (by cases D; exact .seq; exact .drawn) (fun e => by cases want <;> cases e)
theorem R_g_no {j : Nat} {want b : Bool} (ht : (ops[j]?).bind (·.dst) = some t := by rfl) (hc : look env t = some (vB b) := by rfl) (hb : (b == want) = false := by rfl) {D2 : Option (List Fl)} (hD : SkD D D2 := by first | exact .seq | exact .drawn)
    (hK : Rn X N R k ops D2 rest ⟨delO ((t, vB (!want)) :: env) dst, h, n⟩) : Rn X N R k ops D (⟨dst, op, ty, ps, af, some (j, want)⟩ :: rest) ⟨env, h, n⟩ :=
  R_guard (D1 := none) ht hc (fun e => by subst e; simp at hb) hD (fun _ => hK)
theorem R_g_un {j : Nat} {want : Bool} (ht : (ops[j]?).bind (·.dst) = some t := by rfl) (hc : look env t = some (.tup []) := by rfl) {D2 : Option (List Fl)} (hD : SkD D D2 := by first | exact .seq | exact .drawn)
    (hK : Rn X N R k ops D2 rest ⟨delO env dst, h, n⟩) : Rn X N R k ops D (⟨dst, op, ty, ps, af, some (j, want)⟩ :: rest) ⟨env, h, n⟩ := by
  constructor
  cases hD with
  | seq =>
    simp only [runL, gdo, ht, hc]
    exact hK.h
  | drawn =>
    simp only [runDL, gdoD, ht, hc]
    exact hK.h
theorem R_g_if {j : Nat} {want : Bool} {p : Prop} [Decidable p] (ht : (ops[j]?).bind (·.dst) = some t := by rfl) (hc : look env t = some (vB (decide p)) := by rfl) {D2 : Option (List Fl)} (hD : SkD D D2 := by first | exact .seq | exact .drawn)
    (h1 : (if want = true then p else ¬ p) → Rn X N R k ops D (⟨dst, op, ty, ps, af, none⟩ :: rest) ⟨(t, vB want) :: env, h, n⟩)
    (h2 : (if want = true then ¬ p else p) → Rn X N R k ops D2 rest ⟨delO ((t, vB (!want)) :: env) dst, h, n⟩) : Rn X N R k ops D (⟨dst, op, ty, ps, af, some (j, want)⟩ :: rest) ⟨env, h, n⟩ :=
  R_guard (D1 := none) ht hc (fun e => h1 (by cases want <;> simp_all)) hD (fun e => h2 (by cases want <;> simp_all))
theorem R_g_b {j : Nat} {want b : Bool} (ht : (ops[j]?).bind (·.dst) = some t := by rfl) (hc : look env t = some (vB b) := by rfl) {D2 : Option (List Fl)} (hD : SkD D D2 := by first | exact .seq | exact .drawn)
    (h1 : b = want → Rn X N R k ops D (⟨dst, op, ty, ps, af, none⟩ :: rest) ⟨(t, vB want) :: env, h, n⟩)
    (h2 : b = !want → Rn X N R k ops D2 rest ⟨delO ((t, vB (!want)) :: env) dst, h, n⟩) : Rn X N R k ops D (⟨dst, op, ty, ps, af, some (j, want)⟩ :: rest) ⟨env, h, n⟩ :=
  R_guard (D1 := none) ht hc h1 hD h2
end
end Go.VL


namespace Go.VL
open Go.RowKit
set_option linter.unusedVariables false

theorem lt5h {n : Nat} (h : Nat.blt n 500 = true) : n < 500 := by simpa using h
theorem lt1k {n : Nat} (h : Nat.blt n 1000 = true) : n < 1000 := by simpa using h
theorem toNat_add (a b : Nat) : ((a : Int) + (b : Int)).toNat = a + b := by omega
theorem toNat_add1 (a : Nat) : ((a : Int) + 1).toNat = a + 1 := by omega
theorem rg_i64 {z : Int} (h0 : -9223372036854775808 ≤ z) (h1 : z ≤ 9223372036854775807) : IntKind.i64.min ≤ z ∧ z ≤ IntKind.i64.max := by rw [range_i64]; exact ⟨h0, h1⟩
def zc (z : Value) : Option (List AC) := if z.cells.toList.all Value.oneCell' = true then some (z.cells.toList.map ofCell) else none
theorem zc_eq (z : Value) : zeroCs z = zc z := by unfold zeroCs zc; rw [Array.all_toList]
def zpv (z : Value) : Option (List PV) := (zc z).bind fun cs => cs.foldr (fun c l => match c, l with | .pv p, some l => some (p :: l) | _, _ => none) (some [])
theorem zpv_eq (z : Value) : zeroPvs z = zpv z := by unfold zeroPvs zpv; rw [zc_eq]; rfl
/-- A list laid out in cells. -/
def slc {α : Type} (e : α → List PV) (l : List α) : PV := .sl l.length (l.flatMap e)
def eI (z : Int) : List PV := [.int .i64 z]
def eS (s : List UInt8) : List PV := [.str s]
def eU (b : UInt8) : List PV := [.int .u8 (b.toNat : Int)]
def eL {α : Type} (e : α → List PV) (l : List α) : List PV := [slc e l]
theorem gD {α : Type} [Inhabited α] {l : List α} {m : Nat} (h : m < l.length) : l[m]? = some (l.getD m default) := by
  rw [List.getD_eq_getElem?_getD, List.getElem?_eq_getElem h]; rfl
theorem gDI {l : List Int} {m : Nat} (h : m < l.length) : l[m]? = some (l.getD m 0) := by
  rw [List.getD_eq_getElem?_getD, List.getElem?_eq_getElem h]; rfl
theorem gDS {l : List (List UInt8)} {m : Nat} (h : m < l.length) : l[m]? = some (l.getD m []) := by
  rw [List.getD_eq_getElem?_getD, List.getElem?_eq_getElem h]; rfl
theorem flat_len {α : Type} {e : α → List PV} {S : Nat} (he : ∀ x, (e x).length = S) (l : List α) : (l.flatMap e).length = l.length * S := by
  induction l with
  | nil => simp
  | cons x l ih => rw [List.flatMap_cons, List.length_append, he, ih, List.length_cons, Nat.succ_mul]; omega
theorem flat_drop {α : Type} {e : α → List PV} {S : Nat} (he : ∀ x, (e x).length = S) : ∀ (l : List α) (m : Nat), (l.flatMap e).drop (m * S) = (l.drop m).flatMap e
  | l, 0 => by simp
  | [], m + 1 => by simp
  | x :: l, m + 1 => by
    rw [List.flatMap_cons, List.drop_succ_cons, ← flat_drop he l m, List.drop_append, List.drop_eq_nil_of_le (by rw [he, Nat.succ_mul]; omega), he, Nat.succ_mul]
    simp
theorem flat_take {α : Type} {e : α → List PV} {S : Nat} (he : ∀ x, (e x).length = S) : ∀ (l : List α) (m : Nat), (l.flatMap e).take (m * S) = (l.take m).flatMap e
  | l, 0 => by simp
  | [], m + 1 => by simp
  | x :: l, m + 1 => by
    rw [List.flatMap_cons, List.take_succ_cons, List.flatMap_cons, ← flat_take he l m, List.take_append, List.take_of_length_le (by rw [he, Nat.succ_mul]; omega), he, Nat.succ_mul]
    simp
theorem flat_part {α : Type} {e : α → List PV} {S : Nat} (he : ∀ x, (e x).length = S) {l : List α} {m : Nat} {x : α} (h : l[m]? = some x) : ((l.flatMap e).drop (m * S)).take S = e x ∧ m * S + S ≤ (l.flatMap e).length := by
  obtain ⟨hm, rfl⟩ := List.getElem?_eq_some_iff.1 h
  constructor
  · rw [flat_drop he, List.drop_eq_getElem_cons hm, List.flatMap_cons, List.take_append_of_le_length (by rw [he]; omega), List.take_of_length_le (by rw [he]; omega)]
  · rw [flat_len he, ← Nat.succ_mul]; exact Nat.mul_le_mul_right S hm
theorem flat_get {α : Type} {e : α → List PV} {S : Nat} (he : ∀ x, (e x).length = S) {l : List α} {m j : Nat} {x : α} {p : PV} (h : l[m]? = some x) (hp : (e x)[j]? = some p) : (l.flatMap e)[m * S + j]? = some p := by
  have hj : j < S := by rw [← he x]; exact (List.getElem?_eq_some_iff.1 hp).1
  obtain ⟨h1, h2⟩ := flat_part he h
  have : (((l.flatMap e).drop (m * S)).take S)[j]? = some p := by rw [h1]; exact hp
  rw [List.getElem?_take, if_pos hj, List.getElem?_drop] at this
  exact this
theorem flat_set {α : Type} {e : α → List PV} {S : Nat} (he : ∀ x, (e x).length = S) : ∀ {l : List α} {m : Nat} (x : α), m < l.length → setMany (l.flatMap e) (m * S) (e x) = (l.set m x).flatMap e
  | y :: l, 0, x, _ => by
    unfold setMany
    rw [List.set_cons_zero, List.flatMap_cons, List.flatMap_cons, he, ← he y]
    simp
  | y :: l, m + 1, x, h => by
    have ih := flat_set he x (m := m) (l := l) (by simpa using h)
    unfold setMany at ih ⊢
    rw [List.set_cons_succ, List.flatMap_cons, List.flatMap_cons, ← ih, List.take_append, List.drop_append, he, Nat.succ_mul, List.take_of_length_le (by rw [he]; omega), he, List.drop_eq_nil_of_le (by rw [he]; omega)]
    rw [show m * S + S - S = m * S by omega, show m * S + S + S - S = m * S + S by omega]
    simp
  | [], m, x, h => by simp at h

section
variable {X : Ctx} {N : Nat} {R : AS → Prop} {k : List KI} {σ : AS} {ops : Array Oper} {D D' : Option (List Fl)} {rest : List Oper} {env : List (Nat × AV)} {h : Hp} {n n' : Nat} {dst : Option Tmp} {t d : Tmp} {op : Op} {ty tx t' : TypeId} {ps : String} {af : Array Edge}
/-! ### Arithmetic and tests -/
theorem R_bin {bo : BinOp} {x y : Operand} {kx ky : IntKind} {a b : Int} {v : AV} (hx : EvR env x (.one (.pv (.int kx a)))) (hy : EvR env y (.one (.pv (.int ky b)))) (hv : ∀ K : AV → Prop, K v → evInt bo kx a ky b K)
    (hfl : FlR D env (.binOp bo tx x y t') v (.n [] [] none) D') (hK : Rn X N R k ops D' rest ⟨(d, v) :: env, h, n⟩) : Rn X N R k ops D (⟨some d, .binOp bo tx x y t', ty, ps, af, none⟩ :: rest) ⟨env, h, n⟩ :=
  Rn.val rfl (fun K hK => by simp only [evVal, hx.h, hy.h, evBin]; exact .inl (hv K hK)) hfl hK
theorem R_add {x y : Operand} {a b : Int} (hx : EvR env x (vI a) := by exact ⟨rfl⟩) (hy : EvR env y (vI b) := by exact ⟨rfl⟩) (hr : -9223372036854775808 ≤ a + b ∧ a + b ≤ 9223372036854775807 := by first | (constructor <;> omega) | (constructor <;> (first | omega | (simp only [List.length_set, List.length_append, List.length_cons, List.length_nil, List.length_take, List.length_drop, List.length_replicate, List.length_map, List.length_reverse] at * <;> omega))))
    (hfl : FlR D env (.binOp .add tx x y t') (vI (a + b)) (.n [] [] none) D' := by first | exact .seq | exact .drawn rfl) (hK : Rn X N R k ops D' rest ⟨(d, vI (a + b)) :: env, h, n⟩) :
    Rn X N R k ops D (⟨some d, .binOp .add tx x y t', ty, ps, af, none⟩ :: rest) ⟨env, h, n⟩ := R_bin hx hy (fun K hK => ⟨rfl, by rw [wrap_i64 hr.1 hr.2]; exact hK⟩) hfl hK
theorem R_sub {x y : Operand} {a b : Int} (hx : EvR env x (vI a) := by exact ⟨rfl⟩) (hy : EvR env y (vI b) := by exact ⟨rfl⟩) (hr : -9223372036854775808 ≤ a - b ∧ a - b ≤ 9223372036854775807 := by first | (constructor <;> omega) | (constructor <;> (first | omega | (simp only [List.length_set, List.length_append, List.length_cons, List.length_nil, List.length_take, List.length_drop, List.length_replicate, List.length_map, List.length_reverse] at * <;> omega))))
    (hfl : FlR D env (.binOp .sub tx x y t') (vI (a - b)) (.n [] [] none) D' := by first | exact .seq | exact .drawn rfl) (hK : Rn X N R k ops D' rest ⟨(d, vI (a - b)) :: env, h, n⟩) :
    Rn X N R k ops D (⟨some d, .binOp .sub tx x y t', ty, ps, af, none⟩ :: rest) ⟨env, h, n⟩ := R_bin hx hy (fun K hK => ⟨rfl, by rw [wrap_i64 hr.1 hr.2]; exact hK⟩) hfl hK
theorem R_mul {x y : Operand} {a b : Int} (hx : EvR env x (vI a) := by exact ⟨rfl⟩) (hy : EvR env y (vI b) := by exact ⟨rfl⟩) (hr : -9223372036854775808 ≤ a * b ∧ a * b ≤ 9223372036854775807 := by first | (constructor <;> omega) | (constructor <;> (first | omega | (simp only [List.length_set, List.length_append, List.length_cons, List.length_nil, List.length_take, List.length_drop, List.length_replicate, List.length_map, List.length_reverse] at * <;> omega))))
    (hfl : FlR D env (.binOp .mul tx x y t') (vI (a * b)) (.n [] [] none) D' := by first | exact .seq | exact .drawn rfl) (hK : Rn X N R k ops D' rest ⟨(d, vI (a * b)) :: env, h, n⟩) :
    Rn X N R k ops D (⟨some d, .binOp .mul tx x y t', ty, ps, af, none⟩ :: rest) ⟨env, h, n⟩ := R_bin hx hy (fun K hK => ⟨rfl, by rw [wrap_i64 hr.1 hr.2]; exact hK⟩) hfl hK
theorem R_quo {x y : Operand} {a b : Int} (hx : EvR env x (vI a) := by exact ⟨rfl⟩) (hy : EvR env y (vI b) := by exact ⟨rfl⟩) (ha : 0 ≤ a ∧ a ≤ 9223372036854775807 := by first | (constructor <;> omega) | (constructor <;> (first | omega | (simp only [List.length_set, List.length_append, List.length_cons, List.length_nil, List.length_take, List.length_drop, List.length_replicate, List.length_map, List.length_reverse] at * <;> omega)))) (hb : 0 < b := by omega)
    (hfl : FlR D env (.binOp .quo tx x y t') (vI (a / b)) (.n [] [] none) D' := by first | exact .seq | exact .drawn rfl) (hK : Rn X N R k ops D' rest ⟨(d, vI (a / b)) :: env, h, n⟩) :
    Rn X N R k ops D (⟨some d, .binOp .quo tx x y t', ty, ps, af, none⟩ :: rest) ⟨env, h, n⟩ := R_bin hx hy (fun K hK => ⟨rfl, by omega, by
      have h1 := Int.ediv_nonneg ha.1 (Int.le_of_lt hb)
      have h2 := Int.ediv_le_self b ha.1
      rw [Int.tdiv_eq_ediv_of_nonneg ha.1, wrap_i64 (by omega) (by omega)]; exact hK⟩) hfl hK
theorem R_rem {x y : Operand} {a b : Int} (hx : EvR env x (vI a) := by exact ⟨rfl⟩) (hy : EvR env y (vI b) := by exact ⟨rfl⟩) (ha : 0 ≤ a := by omega) (hb : 0 < b := by omega)
    (hfl : FlR D env (.binOp .rem tx x y t') (vI (a % b)) (.n [] [] none) D' := by first | exact .seq | exact .drawn rfl) (hK : Rn X N R k ops D' rest ⟨(d, vI (a % b)) :: env, h, n⟩) :
    Rn X N R k ops D (⟨some d, .binOp .rem tx x y t', ty, ps, af, none⟩ :: rest) ⟨env, h, n⟩ := R_bin hx hy (fun K hK => ⟨rfl, by omega, by rw [Int.tmod_eq_emod_of_nonneg ha]; exact hK⟩) hfl hK
theorem R_eql {x y : Operand} {kx : IntKind} {a b : Int} (hx : EvR env x (.one (.pv (.int kx a))) := by exact ⟨rfl⟩) (hy : EvR env y (.one (.pv (.int kx b))) := by exact ⟨rfl⟩)
    (hfl : FlR D env (.binOp .eql tx x y t') (vB (decide (a = b))) (.n [] [] none) D' := by first | exact .seq | exact .drawn rfl) (hK : Rn X N R k ops D' rest ⟨(d, vB (decide (a = b))) :: env, h, n⟩) :
    Rn X N R k ops D (⟨some d, .binOp .eql tx x y t', ty, ps, af, none⟩ :: rest) ⟨env, h, n⟩ := R_bin hx hy (fun K hK => ⟨rfl, hK⟩) hfl hK
theorem R_neq {x y : Operand} {kx : IntKind} {a b : Int} (hx : EvR env x (.one (.pv (.int kx a))) := by exact ⟨rfl⟩) (hy : EvR env y (.one (.pv (.int kx b))) := by exact ⟨rfl⟩)
    (hfl : FlR D env (.binOp .neq tx x y t') (vB (decide (¬ a = b))) (.n [] [] none) D' := by first | exact .seq | exact .drawn rfl) (hK : Rn X N R k ops D' rest ⟨(d, vB (decide (¬ a = b))) :: env, h, n⟩) :
    Rn X N R k ops D (⟨some d, .binOp .neq tx x y t', ty, ps, af, none⟩ :: rest) ⟨env, h, n⟩ := R_bin hx hy (fun K hK => ⟨rfl, by rw [← decide_not]; exact hK⟩) hfl hK
theorem R_lss {x y : Operand} {kx : IntKind} {a b : Int} (hx : EvR env x (.one (.pv (.int kx a))) := by exact ⟨rfl⟩) (hy : EvR env y (.one (.pv (.int kx b))) := by exact ⟨rfl⟩)
    (hfl : FlR D env (.binOp .lss tx x y t') (vB (decide (a < b))) (.n [] [] none) D' := by first | exact .seq | exact .drawn rfl) (hK : Rn X N R k ops D' rest ⟨(d, vB (decide (a < b))) :: env, h, n⟩) :
    Rn X N R k ops D (⟨some d, .binOp .lss tx x y t', ty, ps, af, none⟩ :: rest) ⟨env, h, n⟩ := R_bin hx hy (fun K hK => ⟨rfl, hK⟩) hfl hK
theorem R_leq {x y : Operand} {kx : IntKind} {a b : Int} (hx : EvR env x (.one (.pv (.int kx a))) := by exact ⟨rfl⟩) (hy : EvR env y (.one (.pv (.int kx b))) := by exact ⟨rfl⟩)
    (hfl : FlR D env (.binOp .leq tx x y t') (vB (decide (a ≤ b))) (.n [] [] none) D' := by first | exact .seq | exact .drawn rfl) (hK : Rn X N R k ops D' rest ⟨(d, vB (decide (a ≤ b))) :: env, h, n⟩) :
    Rn X N R k ops D (⟨some d, .binOp .leq tx x y t', ty, ps, af, none⟩ :: rest) ⟨env, h, n⟩ := R_bin hx hy (fun K hK => ⟨rfl, hK⟩) hfl hK
theorem R_gtr {x y : Operand} {kx : IntKind} {a b : Int} (hx : EvR env x (.one (.pv (.int kx a))) := by exact ⟨rfl⟩) (hy : EvR env y (.one (.pv (.int kx b))) := by exact ⟨rfl⟩)
    (hfl : FlR D env (.binOp .gtr tx x y t') (vB (decide (b < a))) (.n [] [] none) D' := by first | exact .seq | exact .drawn rfl) (hK : Rn X N R k ops D' rest ⟨(d, vB (decide (b < a))) :: env, h, n⟩) :
    Rn X N R k ops D (⟨some d, .binOp .gtr tx x y t', ty, ps, af, none⟩ :: rest) ⟨env, h, n⟩ := R_bin hx hy (fun K hK => ⟨rfl, hK⟩) hfl hK
theorem R_geq {x y : Operand} {kx : IntKind} {a b : Int} (hx : EvR env x (.one (.pv (.int kx a))) := by exact ⟨rfl⟩) (hy : EvR env y (.one (.pv (.int kx b))) := by exact ⟨rfl⟩)
    (hfl : FlR D env (.binOp .geq tx x y t') (vB (decide (b ≤ a))) (.n [] [] none) D' := by first | exact .seq | exact .drawn rfl) (hK : Rn X N R k ops D' rest ⟨(d, vB (decide (b ≤ a))) :: env, h, n⟩) :
    Rn X N R k ops D (⟨some d, .binOp .geq tx x y t', ty, ps, af, none⟩ :: rest) ⟨env, h, n⟩ := R_bin hx hy (fun K hK => ⟨rfl, hK⟩) hfl hK
theorem R_binS {bo : BinOp} {x y : Operand} {a b : List UInt8} {v : AV} (hx : EvR env x (vS a)) (hy : EvR env y (vS b)) (hv : ∀ K : AV → Prop, K v → evStr bo a b K)
    (hfl : FlR D env (.binOp bo tx x y t') v (.n [] [] none) D') (hK : Rn X N R k ops D' rest ⟨(d, v) :: env, h, n⟩) : Rn X N R k ops D (⟨some d, .binOp bo tx x y t', ty, ps, af, none⟩ :: rest) ⟨env, h, n⟩ :=
  Rn.val rfl (fun K hK => by simp only [evVal, hx.h, hy.h, evBin]; exact .inl (hv K hK)) hfl hK
theorem R_sadd {x y : Operand} {a b : List UInt8} (hx : EvR env x (vS a) := by exact ⟨rfl⟩) (hy : EvR env y (vS b) := by exact ⟨rfl⟩) (hr : a.length + b.length ≤ 9223372036854775807 := by first | omega | (simp only [List.length_append, List.length_cons, List.length_nil] at * <;> omega))
    (hfl : FlR D env (.binOp .add tx x y t') (vS (a ++ b)) (.n [] [] none) D' := by first | exact .seq | exact .drawn rfl) (hK : Rn X N R k ops D' rest ⟨(d, vS (a ++ b)) :: env, h, n⟩) :
    Rn X N R k ops D (⟨some d, .binOp .add tx x y t', ty, ps, af, none⟩ :: rest) ⟨env, h, n⟩ := R_binS hx hy (fun K hK => ⟨hr, hK⟩) hfl hK
theorem R_seql {x y : Operand} {a b : List UInt8} (hx : EvR env x (vS a) := by exact ⟨rfl⟩) (hy : EvR env y (vS b) := by exact ⟨rfl⟩)
    (hfl : FlR D env (.binOp .eql tx x y t') (vB (decide (a = b))) (.n [] [] none) D' := by first | exact .seq | exact .drawn rfl) (hK : Rn X N R k ops D' rest ⟨(d, vB (decide (a = b))) :: env, h, n⟩) :
    Rn X N R k ops D (⟨some d, .binOp .eql tx x y t', ty, ps, af, none⟩ :: rest) ⟨env, h, n⟩ := R_binS hx hy (fun K hK => hK) hfl hK
theorem R_sneq {x y : Operand} {a b : List UInt8} (hx : EvR env x (vS a) := by exact ⟨rfl⟩) (hy : EvR env y (vS b) := by exact ⟨rfl⟩)
    (hfl : FlR D env (.binOp .neq tx x y t') (vB (decide (¬ a = b))) (.n [] [] none) D' := by first | exact .seq | exact .drawn rfl) (hK : Rn X N R k ops D' rest ⟨(d, vB (decide (¬ a = b))) :: env, h, n⟩) :
    Rn X N R k ops D (⟨some d, .binOp .neq tx x y t', ty, ps, af, none⟩ :: rest) ⟨env, h, n⟩ := R_binS hx hy (fun K hK => by simp only [evStr, ← decide_not]; exact hK) hfl hK
theorem R_not {x : Operand} {p : Prop} [Decidable p] (hx : EvR env x (vB (decide p)) := by exact ⟨rfl⟩)
    (hfl : FlR D env (.unOp .not tx x) (vB (decide (¬ p))) (.n [] [] none) D' := by first | exact .seq | exact .drawn rfl) (hK : Rn X N R k ops D' rest ⟨(d, vB (decide (¬ p))) :: env, h, n⟩) :
    Rn X N R k ops D (⟨some d, .unOp .not tx x, ty, ps, af, none⟩ :: rest) ⟨env, h, n⟩ := Rn.val rfl (fun K hK => by simp only [evVal, hx.h, evUn, ← decide_not]; exact hK) hfl hK
theorem R_notb {x : Operand} {b : Bool} (hx : EvR env x (vB b) := by exact ⟨rfl⟩)
    (hfl : FlR D env (.unOp .not tx x) (vB (!b)) (.n [] [] none) D' := by first | exact .seq | exact .drawn rfl) (hK : Rn X N R k ops D' rest ⟨(d, vB (!b)) :: env, h, n⟩) :
    Rn X N R k ops D (⟨some d, .unOp .not tx x, ty, ps, af, none⟩ :: rest) ⟨env, h, n⟩ := Rn.val rfl (fun K hK => by simp only [evVal, hx.h, evUn]; exact hK) hfl hK
theorem R_neg {x : Operand} {a : Int} (hx : EvR env x (vI a) := by exact ⟨rfl⟩) (hr : -9223372036854775808 ≤ -a ∧ -a ≤ 9223372036854775807 := by first | (constructor <;> omega) | (constructor <;> (first | omega | (simp only [List.length_set, List.length_append, List.length_cons, List.length_nil, List.length_take, List.length_drop, List.length_replicate, List.length_map, List.length_reverse] at * <;> omega))))
    (hfl : FlR D env (.unOp .neg tx x) (vI (-a)) (.n [] [] none) D' := by first | exact .seq | exact .drawn rfl) (hK : Rn X N R k ops D' rest ⟨(d, vI (-a)) :: env, h, n⟩) :
    Rn X N R k ops D (⟨some d, .unOp .neg tx x, ty, ps, af, none⟩ :: rest) ⟨env, h, n⟩ := Rn.val rfl (fun K hK => by simp only [evVal, hx.h, evUn]; rw [show 0 - a = -a by omega, wrap_i64 hr.1 hr.2]; exact hK) hfl hK
/-! ### Lengths -/
theorem R_lenS {x : Operand} {ta : TypeId} {s b : Nat} {z : Option Value} {l : List UInt8} [hT : TInf X ta ⟨.string, s, b, z⟩] (hx : EvR env x (vS l) := by exact ⟨rfl⟩) (hfl : FlR D env (.call ⟨.builtin .len, ⟨[x]⟩, ⟨[ta]⟩⟩) (vI l.length) (.n [] [] none) D' := by first | exact .seq | exact .drawn rfl)
    (hK : Rn X N R k ops D' rest ⟨(d, vI l.length) :: env, h, n⟩) : Rn X N R k ops D (⟨some d, .call ⟨.builtin .len, ⟨[x]⟩, ⟨[ta]⟩⟩, ty, ps, af, none⟩ :: rest) ⟨env, h, n⟩ :=
  Rn.step (ef := .n [] [] none) trivial (fun K hK => by simp only [evOp, evVal, evLen, hT.h, hx.h]; exact hK) hfl hK
theorem R_len {x : Operand} {ta e : TypeId} {s b m : Nat} {z : Option Value} {cells : List PV} [hT : TInf X ta ⟨.slice e, s, b, z⟩] (hx : EvR env x (vP (.sl m cells)) := by exact ⟨rfl⟩) (hfl : FlR D env (.call ⟨.builtin .len, ⟨[x]⟩, ⟨[ta]⟩⟩) (vI m) (.n [] [] none) D' := by first | exact .seq | exact .drawn rfl)
    (hK : Rn X N R k ops D' rest ⟨(d, vI m) :: env, h, n⟩) : Rn X N R k ops D (⟨some d, .call ⟨.builtin .len, ⟨[x]⟩, ⟨[ta]⟩⟩, ty, ps, af, none⟩ :: rest) ⟨env, h, n⟩ :=
  Rn.step (ef := .n [] [] none) trivial (fun K hK => by simp only [evOp, evVal, evLen, hT.h, hx.h]; exact hK) hfl hK
theorem R_len0 {x : Operand} {ta e : TypeId} {s b : Nat} {z : Option Value} [hT : TInf X ta ⟨.slice e, s, b, z⟩] (hx : EvR env x (vP .nil) := by exact ⟨rfl⟩) (hfl : FlR D env (.call ⟨.builtin .len, ⟨[x]⟩, ⟨[ta]⟩⟩) (vI 0) (.n [] [] none) D' := by first | exact .seq | exact .drawn rfl)
    (hK : Rn X N R k ops D' rest ⟨(d, vI 0) :: env, h, n⟩) : Rn X N R k ops D (⟨some d, .call ⟨.builtin .len, ⟨[x]⟩, ⟨[ta]⟩⟩, ty, ps, af, none⟩ :: rest) ⟨env, h, n⟩ :=
  Rn.step (ef := .n [] [] none) trivial (fun K hK => by simp only [evOp, evVal, evLen, hT.h, hx.h]; exact hK) hfl hK
theorem R_lenO {x : Operand} {ta e : TypeId} {s b m id sz : Nat} {z : Option Value} [hT : TInf X ta ⟨.slice e, s, b, z⟩] (hx : EvR env x (.one (.own id sz m)) := by exact ⟨rfl⟩) (hfl : FlR D env (.call ⟨.builtin .len, ⟨[x]⟩, ⟨[ta]⟩⟩) (vI m) (.n [] [] none) D' := by first | exact .seq | exact .drawn rfl)
    (hK : Rn X N R k ops D' rest ⟨(d, vI m) :: env, h, n⟩) : Rn X N R k ops D (⟨some d, .call ⟨.builtin .len, ⟨[x]⟩, ⟨[ta]⟩⟩, ty, ps, af, none⟩ :: rest) ⟨env, h, n⟩ :=
  Rn.step (ef := .n [] [] none) trivial (fun K hK => by simp only [evOp, evVal, evLen, hT.h, hx.h]; exact hK) hfl hK
theorem R_lenU {x : Operand} {ta e : TypeId} {s b m id sz off : Nat} {z : Option Value} [hT : TInf X ta ⟨.slice e, s, b, z⟩] (hx : EvR env x (.one (.sub id sz off m)) := by exact ⟨rfl⟩) (hfl : FlR D env (.call ⟨.builtin .len, ⟨[x]⟩, ⟨[ta]⟩⟩) (vI m) (.n [] [] none) D' := by first | exact .seq | exact .drawn rfl)
    (hK : Rn X N R k ops D' rest ⟨(d, vI m) :: env, h, n⟩) : Rn X N R k ops D (⟨some d, .call ⟨.builtin .len, ⟨[x]⟩, ⟨[ta]⟩⟩, ty, ps, af, none⟩ :: rest) ⟨env, h, n⟩ :=
  Rn.step (ef := .n [] [] none) trivial (fun K hK => by simp only [evOp, evVal, evLen, hT.h, hx.h]; exact hK) hfl hK
/-! ### Elements -/
theorem R_idx {x i : Operand} {ta e : TypeId} {s b q m S B : Nat} {zz zv : Option Value} {u : TypeDesc} {cells : List PV} {kz : IntKind} {z : Int} [hT : TInf X ta ⟨.slice e, s, b, zz⟩] [hE : TInf X e ⟨u, S, B, zv⟩] (hx : EvR env x (vP (.sl q cells)) := by exact ⟨rfl⟩) (hi : EvR env i (.one (.pv (.int kz z))) := by exact ⟨rfl⟩)
    (h0 : 0 ≤ z ∧ z < q := by first | (constructor <;> omega) | (constructor <;> (first | omega | (simp only [List.length_set, List.length_append, List.length_cons, List.length_nil, List.length_take, List.length_drop, List.length_replicate, List.length_map, List.length_reverse] at * <;> omega)))) (hm : z.toNat = m := by first | (with_reducible exact Int.toNat_natCast _) | (with_reducible exact toNat_add _ _) | (with_reducible exact toNat_add1 _) | exact Eq.refl _) (hc : cells.length = q * S := by first | (refine flat_len ?_ _; intro _; rfl) | simp) (hfl : FlR D env (.indexAddr ta x i) (vP (.pt cells (m * S))) (.n [] [] none) D' := by first | exact .seq | exact .drawn rfl)
    (hK : Rn X N R k ops D' rest ⟨(d, vP (.pt cells (m * S))) :: env, h, n⟩) : Rn X N R k ops D (⟨some d, .indexAddr ta x i, ty, ps, af, none⟩ :: rest) ⟨env, h, n⟩ :=
  Rn.val rfl (fun K hK => by subst hm; simp only [evVal, evIndexAddr, hT.h, hE.h, hx.h, hi.h]; exact ⟨h0.1, by first | exact ⟨h0.2, hc, hK⟩ | exact ⟨hc, h0.2, hK⟩ | exact ⟨h0.2, hK⟩⟩) hfl hK
theorem R_idxO {x i : Operand} {ta e : TypeId} {s b q m id sz : Nat} {zz : Option Value} {T : TI} {kz : IntKind} {z : Int} [hT : TInf X ta ⟨.slice e, s, b, zz⟩] [hE : TInf X e T] (hx : EvR env x (.one (.own id sz q)) := by exact ⟨rfl⟩) (hi : EvR env i (.one (.pv (.int kz z))) := by exact ⟨rfl⟩)
    (h0 : 0 ≤ z ∧ z < q := by first | (constructor <;> omega) | (constructor <;> (first | omega | (simp only [List.length_set, List.length_append, List.length_cons, List.length_nil, List.length_take, List.length_drop, List.length_replicate, List.length_map, List.length_reverse] at * <;> omega)))) (hm : z.toNat = m := by first | (with_reducible exact Int.toNat_natCast _) | (with_reducible exact toNat_add _ _) | (with_reducible exact toNat_add1 _) | exact Eq.refl _) (hs : T.size = sz := by rfl) (hfl : FlR D env (.indexAddr ta x i) (.one (.ptr id (m * sz))) (.n [] [] none) D' := by first | exact .seq | exact .drawn rfl)
    (hK : Rn X N R k ops D' rest ⟨(d, .one (.ptr id (m * sz))) :: env, h, n⟩) : Rn X N R k ops D (⟨some d, .indexAddr ta x i, ty, ps, af, none⟩ :: rest) ⟨env, h, n⟩ :=
  Rn.val rfl (fun K hK => by subst hm; simp only [evVal, evIndexAddr, hT.h, hE.h, hx.h, hi.h]; exact ⟨h0.1, h0.2, hs, hK⟩) hfl hK
/-- One cell of a laid-out list. -/
theorem R_ld {x : Operand} {α : Type} {e : α → List PV} {l : List α} {S m : Nat} {a : α} {p : PV} {T : TI} [hT : TInf X tx T] (hx : EvR env x (vP (.pt (l.flatMap e) (m * S))) := by exact ⟨rfl⟩) (hS : ∀ x, (e x).length = S := by exact fun _ => rfl) (hag : isAggU T.u = false := by rfl)
    (hl : l[m]? = some a := by first | exact gDI (by first | omega | (simp only [List.length_set, List.length_append, List.length_cons, List.length_nil, List.length_take, List.length_drop, List.length_replicate, List.length_map, List.length_reverse] at * <;> omega)) | exact gDS (by first | omega | (simp only [List.length_set, List.length_append, List.length_cons, List.length_nil, List.length_take, List.length_drop, List.length_replicate, List.length_map, List.length_reverse] at * <;> omega)) | exact gD (by first | omega | (simp only [List.length_set, List.length_append, List.length_cons, List.length_nil, List.length_take, List.length_drop, List.length_replicate, List.length_map, List.length_reverse] at * <;> omega))) (hp : (e a)[0]? = some p := by rfl) (hfl : FlR D env (.load tx x) (vP p) (.n [] [] none) D' := by first | exact .seq | exact .drawn rfl)
    (hK : Rn X N R k ops D' rest ⟨(d, vP p) :: env, h, n⟩) : Rn X N R k ops D (⟨some d, .load tx x, ty, ps, af, none⟩ :: rest) ⟨env, h, n⟩ :=
  Rn.step (ef := .n [] [] none) trivial (fun K hK => by
    have hg := flat_get hS hl hp
    rw [Nat.add_zero] at hg
    have h1 := (List.getElem?_eq_some_iff.1 hg).1
    simp only [evOp, hx.h, evLoadPv, hT.h, hag, Bool.false_eq_true, if_false]
    exact ⟨h1, by rw [List.getD_eq_getElem?_getD, hg]; exact hK⟩) hfl hK
end
end Go.VL


namespace Go.VL
open Go.RowKit
set_option linter.unusedVariables false

/-! ### Heaps, told outright -/
inductive PutR : Hp → Nat → Bx × Bool → Hp → Prop
  | nil {i : Nat} {b : Bx × Bool} : PutR [] i b [(i, b)]
  | hit {i : Nat} {x b : Bx × Bool} {l : Hp} : PutR ((i, x) :: l) i b ((i, b) :: l)
  | miss {i j : Nat} {x b : Bx × Bool} {l l' : Hp} (hn : (i == j) = false) (h : PutR l i b l') : PutR ((j, x) :: l) i b ((j, x) :: l')
theorem PutR.eq {h h' : Hp} {i : Nat} {b : Bx × Bool} (r : PutR h i b h') : put h i b = h' := by
  induction r with
  | nil => rfl
  | hit => simp [put]
  | miss hn _ ih => simp only [put, ih]; rw [if_neg (by simpa using hn)]
inductive FrzR : Hp → List Nat → Hp → Prop
  | nil {h : Hp} : FrzR h [] h
  | cons {h h1 h2 : Hp} {z : Nat} {zs : List Nat} {bx : Bx} {b : Bool} (hl : look h z = some (bx, b)) (hp : PutR h z (bx, true) h1) (hr : FrzR h1 zs h2) : FrzR h (z :: zs) h2

/-! ### Rows of cells, told outright -/
theorem zc_of {z : Value} {cs : List AC} (h : OfL z.cells.toList cs) : zc z = some cs := by
  unfold zc; rw [if_pos h.eq.1, h.eq.2]
inductive SetR : List AC → Nat → List AC → List AC → Prop
  | done {cs : List AC} : SetR cs 0 [] cs
  | put {x d : AC} {cs ds cs' : List AC} (h : SetR cs 0 ds cs') : SetR (x :: cs) 0 (d :: ds) (d :: cs')
  | skip {x : AC} {o : Nat} {cs ds cs' : List AC} (h : SetR cs o ds cs') : SetR (x :: cs) (o + 1) ds (x :: cs')
theorem SetR.eq {cs ds cs' : List AC} {o : Nat} (h : SetR cs o ds cs') : o + ds.length ≤ cs.length ∧ setMany cs o ds = cs' := by
  induction h with
  | done => exact ⟨by simp, by simp [setMany]⟩
  | put _ ih =>
    refine ⟨by simp at ih ⊢; omega, ?_⟩
    rw [← ih.2]; simp [setMany]
  | skip _ ih =>
    refine ⟨by simp at ih ⊢; omega, ?_⟩
    rw [← ih.2]; simp [setMany, Nat.add_right_comm]
inductive CutR : List AC → Nat → Nat → List AC → Prop
  | done {cs : List AC} : CutR cs 0 0 []
  | take {x : AC} {n : Nat} {cs cs' : List AC} (h : CutR cs 0 n cs') : CutR (x :: cs) 0 (n + 1) (x :: cs')
  | skip {x : AC} {o n : Nat} {cs cs' : List AC} (h : CutR cs o n cs') : CutR (x :: cs) (o + 1) n cs'
theorem CutR.eq {cs cs' : List AC} {o n : Nat} (h : CutR cs o n cs') : o + n ≤ cs.length ∧ (cs.drop o).take n = cs' := by
  induction h with
  | done => exact ⟨by simp, by simp⟩
  | take _ ih => exact ⟨by simp at ih ⊢; omega, by rw [← ih.2]; simp⟩
  | skip _ ih => exact ⟨by simp at ih ⊢; omega, by rw [← ih.2]; simp⟩

/-! ### What is handed on -/
structure VC (h : Hp) (c : AC) (p : PV) (ids : List Nat) : Prop where
  h : ∀ K : PV → List Nat → Prop, K p ids → viewC1 h c K
structure VL (h : Hp) (cs : List AC) (ps : List PV) (ids : List Nat) : Prop where
  h : ∀ K : List PV → List Nat → Prop, K ps ids → viewL1 h cs K
structure VA (h : Hp) (x : AV) (p : PA) (ids : List Nat) : Prop where
  h : ∀ K : PA → List Nat → Prop, K p ids → viewA h x K
structure VAs (h : Hp) (xs : List AV) (ps : List PA) (ids : List Nat) : Prop where
  h : ∀ K : List PA → List Nat → Prop, K ps ids → viewAs h xs K
def PV.isNil : PV → Bool
  | .nil => true
  | _ => false
section
variable {h : Hp}
theorem VC.pv {p : PV} (hp : p.isNil = false) : VC h (.pv p) p [] := ⟨fun K hK => by cases p <;> first | exact hK | cases hp⟩
theorem VC.nil : VC h (.pv .nil) (.sl 0 []) [] := ⟨fun K hK => hK⟩
theorem VC.own {α : Type} {e : α → List PV} {l : List α} {id S n : Nat} {te : TypeId} {z : Bool} (hl : look h id = some (.pu te (l.flatMap e), z)) (hS : ∀ x, (e x).length = S) (hn : n = l.length) : VC h (.own id S n) (slc e l) [id] := ⟨fun K hK => by
  subst hn
  simp only [viewC1, hl]
  rw [← flat_len hS l, List.take_length]
  exact ⟨Nat.le_refl _, hK⟩⟩
theorem VC.ownTake {α : Type} {e : α → List PV} {l : List α} {id S n : Nat} {te : TypeId} {z : Bool} (hl : look h id = some (.pu te (l.flatMap e), z)) (hS : ∀ x, (e x).length = S) (hn : n ≤ l.length) : VC h (.own id S n) (slc e (l.take n)) [id] := ⟨fun K hK => by
  simp only [viewC1, hl, flat_len hS, flat_take hS]
  refine ⟨Nat.mul_le_mul_right S hn, ?_⟩
  have e : slc e (l.take n) = .sl n ((l.take n).flatMap e) := by simp [slc, hn]
  rw [← e]; exact hK⟩
theorem VC.sub {α : Type} {e : α → List PV} {l : List α} {id S m n : Nat} {te : TypeId} {z : Bool} (hl : look h id = some (.pu te (l.flatMap e), z)) (hS : ∀ x, (e x).length = S) (hn : m + n ≤ l.length) : VC h (.sub id S (m * S) n) (slc e ((l.drop m).take n)) [id] := ⟨fun K hK => by
  simp only [viewC1, hl, flat_len hS, flat_drop hS, flat_take hS]
  refine ⟨by rw [← Nat.add_mul]; exact Nat.mul_le_mul_right S hn, ?_⟩
  have e : slc e ((l.drop m).take n) = .sl n (((l.drop m).take n).flatMap e) := by simp only [slc, List.length_take, List.length_drop]; rw [Nat.min_eq_left (by omega)]
  rw [← e]; exact hK⟩
theorem VL.nil : VL h [] [] [] := ⟨fun K hK => hK⟩
theorem VL.cons {c : AC} {cs : List AC} {p : PV} {ps : List PV} {i j : List Nat} (h1 : VC h c p i) (h2 : VL h cs ps j) : VL h (c :: cs) (p :: ps) (i ++ j) := ⟨fun K hK => h1.h _ (h2.h _ hK)⟩
theorem VL.pvs : ∀ {ps : List PV}, (ps.all fun p => !p.isNil) = true → VL h (ps.map .pv) ps []
  | [], _ => .nil
  | p :: ps, hp => by
    simp only [List.all_cons, Bool.and_eq_true, Bool.not_eq_true'] at hp
    exact VL.cons (i := []) (j := []) (.pv hp.1) (VL.pvs hp.2)
theorem VA.one {c : AC} {p : PV} {ids : List Nat} (hc : VC h c p ids) : VA h (.one c) (.one p) ids := ⟨fun K hK => by
  have := hc.h (fun p ids => K (.one p) ids) hK
  cases c with
  | ptr id off => simp [viewC1] at this
  | clo f caps => simp [viewC1] at this
  | any => simp [viewC1] at this
  | ub => simp [viewC1] at this
  | adr id T sz => simp [viewC1] at this
  | mp id => simp [viewC1] at this
  | pv p => exact this
  | own id sz n => exact this
  | sub id sz off n => exact this⟩
theorem VA.agg {cs : List AC} {ps : List PV} {ids : List Nat} (hc : VL h cs ps ids) : VA h (.agg cs) (.agg ps) ids := ⟨fun K hK => hc.h _ hK⟩
theorem VA.ptr {id off : Nat} {te : TypeId} {l : List PV} {z : Bool} (hl : look h id = some (.pu te l, z)) : VA h (.one (.ptr id off)) (.one (.pt l off)) [id] := ⟨fun K hK => by simp only [viewA, viewC, hl]; exact hK⟩
theorem VA.ptrM {id off : Nat} {cs : List AC} {ps : List PV} {ids : List Nat} {z : Bool} (hl : look h id = some (.mx cs, z)) (hc : VL h cs ps ids) : VA h (.one (.ptr id off)) (.one (.pt ps off)) (id :: ids) := ⟨fun K hK => by simp only [viewA, viewC, hl]; exact hc.h _ hK⟩
theorem VAs.nil : VAs h [] [] [] := ⟨fun K hK => hK⟩
theorem VAs.cons {x : AV} {xs : List AV} {p : PA} {ps : List PA} {i j : List Nat} (h1 : VA h x p i) (h2 : VAs h xs ps j) : VAs h (x :: xs) (p :: ps) (i ++ j) := ⟨fun K hK => h1.h _ (h2.h _ hK)⟩
end

/-! ### What is known of arguments -/
theorem sane_slc {α : Type} {e : α → List PV} {l : List α} (h : (slc e l).sane) : l.length ≤ 9223372036854775807 ∧ ∀ x ∈ l, ∀ p ∈ e x, p.sane := by
  unfold slc PV.sane at h
  exact ⟨h.1, fun x hx p hp => h.2.2 p (List.mem_flatMap.2 ⟨x, hx, hp⟩)⟩
theorem sane_i64 {z : Int} (h : (PV.int .i64 z).sane) : -9223372036854775808 ≤ z ∧ z ≤ 9223372036854775807 := by
  unfold PV.sane at h; rw [range_i64] at h; exact h
theorem sane_I {l : List Int} (h : (slc eI l).sane) : l.length ≤ 9223372036854775807 ∧ ∀ z ∈ l, -9223372036854775808 ≤ z ∧ z ≤ 9223372036854775807 :=
  ⟨(sane_slc h).1, fun z hz => sane_i64 ((sane_slc h).2 z hz _ (by simp [eI]))⟩
theorem sane_str {s : List UInt8} (h : (PV.str s).sane) : s.length ≤ 9223372036854775807 := by unfold PV.sane at h; exact h

/-! ### Loops' ends -/
theorem avLe_refl (v : AV) : avLe v v := by
  cases v with
  | one c => cases c with
    | pv p => cases p <;> exact rfl
    | _ => exact rfl
  | _ => exact rfl
theorem avLe_eq {v w : AV} (h : v = w) : avLe v w := h ▸ avLe_refl v
theorem avLe_i {k : IntKind} {a b : Int} (h : a = b) : avLe (vP (.int k a)) (vP (.int k b)) := h ▸ avLe_refl _
theorem avLe_nil {α : Type} {e : α → List PV} : avLe (vP .nil) (vP (slc e [])) := ⟨rfl, rfl⟩
theorem avLe_nilO {id S : Nat} : avLe (vP .nil) (.one (.own id S 0)) := rfl
theorem avLe_slc {α : Type} {e : α → List PV} {l l' : List α} (h : l = l') : avLe (vP (slc e l)) (vP (slc e l')) := h ▸ avLe_refl _
theorem avLe_own {id S n m : Nat} (h : n = m) : avLe (.one (.own id S n)) (.one (.own id S m)) := h ▸ avLe_refl _
theorem le_auto {X : Ctx} {N : Nat} {env env' : List (Nat × AV)} {h h' : Hp} {n n' : Nat}
    (he : leE env env' := by repeat' (first | exact trivial | refine And.intro ⟨_, rfl, ?_⟩ ?_ | exact avLe_refl _ | exact avLe_i (by first | omega | (simp only [List.length_set, List.length_append, List.length_cons, List.length_nil, List.length_take, List.length_drop, List.length_replicate, List.length_map, List.length_reverse] <;> omega)) | exact avLe_nil | exact avLe_nilO | exact avLe_own (by first | omega | (simp only [List.length_set, List.length_append, List.length_cons, List.length_nil, List.length_take, List.length_drop, List.length_replicate, List.length_map, List.length_reverse] <;> omega))))
    (hh : leH h h' := by repeat' (first | exact trivial | refine And.intro rfl ?_)) (hw : wfE h' env' = true := by rfl) (hw2 : wfH h' h' = true := by rfl) : (AS.mk env h n).Le X N (AS.mk env' h' n') := le_of he hh hw hw2

/-- The same, a nil slice told as an own one. -/
theorem le_ghost1 {X : Ctx} {N : Nat} {env : List (Nat × AV)} {h h' : Hp} {n : Nat} {υ : AS} (id : Nat) (e : TypeId) (hn : look h id = none := by rfl) (hid : Nat.blt id 1000 = true := by rfl) (hp : PutR h id (.pu e [], false) h' := by repeat (first | exact .hit | exact .nil | (apply PutR.miss; rfl))) (hle : (AS.mk env h' n).Le X N υ) : (AS.mk env h n).Le X N υ :=
  AS.Le.trans (by rw [← hp.eq]; exact le_ghost hn (lt1k hid)) hle
section
variable {X : Ctx} {N : Nat} {R : AS → Prop} {k : List KI} {σ : AS} {ops : Array Oper} {D D' : Option (List Fl)} {rest : List Oper} {env : List (Nat × AV)} {h h' : Hp} {n n' : Nat} {dst : Option Tmp} {t d : Tmp} {op : Op} {ty tx t' : TypeId} {ps : String} {af : Array Edge}
/-! ### Returns -/
inductive RvR (X : Ctx) (σ : AS) : ResultVar → AV → Prop
  | tmp {t : Tmp} {v : AV} (hx : EvR σ.env (.tmp t) v) : RvR X σ (.tmp t) v
  | cell {a : Tmp} {t : TypeId} {id off : Nat} {cs : List AC} {z : Bool} {c : AC} {T : TI} (hx : EvR σ.env (.tmp a) (.one (.ptr id off))) (hl : look σ.heap id = some (.mx cs, z)) (hT : TInf X t T) (ha : isAggU T.u = false) (hc : cs[off]? = some c) : RvR X σ (.cell a t) (.one c)
  | cellA {a : Tmp} {t : TypeId} {id off : Nat} {cs cs' : List AC} {z : Bool} {T : TI} (hx : EvR σ.env (.tmp a) (.one (.ptr id off))) (hl : look σ.heap id = some (.mx cs, z)) (hT : TInf X t T) (ha : isAggU T.u = true) (hc : CutR cs off T.size cs') : RvR X σ (.cell a t) (.agg cs')
theorem RvR.res {X : Ctx} {σ : AS} {r : ResultVar} {v : AV} (hr : RvR X σ r v) (K : AV → Prop) (hK : K v) : resAV X σ r K := by
  cases hr with
  | tmp hx => simp only [resAV, hx.h]; exact hK
  | cell hx hl hT ha hc => simp only [resAV, hx.h, evLoadBx, hT.h, hl, ha, hc]; exact hK
  | cellA hx hl hT ha hc => simp only [resAV, hx.h, evLoadBx, hT.h, hl, ha, if_true, hc.eq.2]; exact ⟨hc.eq.1, hK⟩
theorem ret1 {rs : List ResultVar} {r1 : ResultVar} {v1 : AV} {p1 p : PA} {i1 : List Nat} (hrs : rs = [r1] := by exact rfl) (hr1 : RvR X ⟨env, h, n⟩ r1 v1 := by first | exact .tmp (by first | exact .tmp rfl | exact .of rfl) | exact .cell ⟨rfl⟩ rfl inferInstance rfl rfl | (apply RvR.cellA; exact ⟨rfl⟩; rfl; infer_instance; rfl; repeat (first | exact CutR.done | apply CutR.take | apply CutR.skip))) (hv1 : VA h v1 p1 i1 := by repeat (first | exact VA.one (.pv rfl) | exact VA.one .nil | exact VA.one (.own rfl (fun _ => rfl) (by first | rfl | omega | (simp only [List.length_set, List.length_append, List.length_cons, List.length_nil, List.length_take, List.length_drop, List.length_replicate, List.length_map, List.length_reverse] <;> omega) | simp)) | exact VA.one (.ownTake rfl (fun _ => rfl) (by first | omega | simp)) | apply VA.agg | exact VL.nil | exact VL.pvs rfl | apply VL.cons | exact VC.pv rfl | exact VC.nil | exact VC.own rfl (fun _ => rfl) (by first | rfl | omega | (simp only [List.length_set, List.length_append, List.length_cons, List.length_nil, List.length_take, List.length_drop, List.length_replicate, List.length_map, List.length_reverse] <;> omega) | simp))) (hp : p1 = p) : retP X rs p ⟨env, h, n⟩ := by
  subst hrs; subst hp
  simp only [retP, resAVs]
  exact hr1.res _ (by simp only [viewAs]; exact hv1.h _ rfl)
theorem ret2 {rs : List ResultVar} {r1 r2 : ResultVar} {v1 v2 : AV} {p1 p2 : PA} {x1 x2 : Bool × List PV} {p : PA} {i1 i2 : List Nat} (hrs : rs = [r1, r2] := by exact rfl) (hr1 : RvR X ⟨env, h, n⟩ r1 v1 := by first | exact .tmp (by first | exact .tmp rfl | exact .of rfl) | exact .cell ⟨rfl⟩ rfl inferInstance rfl rfl | (apply RvR.cellA; exact ⟨rfl⟩; rfl; infer_instance; rfl; repeat (first | exact CutR.done | apply CutR.take | apply CutR.skip))) (hv1 : VA h v1 p1 i1 := by repeat (first | exact VA.one (.pv rfl) | exact VA.one .nil | exact VA.one (.own rfl (fun _ => rfl) (by first | rfl | omega | (simp only [List.length_set, List.length_append, List.length_cons, List.length_nil, List.length_take, List.length_drop, List.length_replicate, List.length_map, List.length_reverse] <;> omega) | simp)) | exact VA.one (.ownTake rfl (fun _ => rfl) (by first | omega | simp)) | apply VA.agg | exact VL.nil | exact VL.pvs rfl | apply VL.cons | exact VC.pv rfl | exact VC.nil | exact VC.own rfl (fun _ => rfl) (by first | rfl | omega | (simp only [List.length_set, List.length_append, List.length_cons, List.length_nil, List.length_take, List.length_drop, List.length_replicate, List.length_map, List.length_reverse] <;> omega) | simp)))
    (hr2 : RvR X ⟨env, h, n⟩ r2 v2 := by first | exact .tmp (by first | exact .tmp rfl | exact .of rfl) | exact .cell ⟨rfl⟩ rfl inferInstance rfl rfl | (apply RvR.cellA; exact ⟨rfl⟩; rfl; infer_instance; rfl; repeat (first | exact CutR.done | apply CutR.take | apply CutR.skip))) (hv2 : VA h v2 p2 i2 := by repeat (first | exact VA.one (.pv rfl) | exact VA.one .nil | exact VA.one (.own rfl (fun _ => rfl) (by first | rfl | omega | (simp only [List.length_set, List.length_append, List.length_cons, List.length_nil, List.length_take, List.length_drop, List.length_replicate, List.length_map, List.length_reverse] <;> omega) | simp)) | exact VA.one (.ownTake rfl (fun _ => rfl) (by first | omega | simp)) | apply VA.agg | exact VL.nil | exact VL.pvs rfl | apply VL.cons | exact VC.pv rfl | exact VC.nil | exact VC.own rfl (fun _ => rfl) (by first | rfl | omega | (simp only [List.length_set, List.length_append, List.length_cons, List.length_nil, List.length_take, List.length_drop, List.length_replicate, List.length_map, List.length_reverse] <;> omega) | simp))) (he1 : p1.el = some x1 := by rfl) (he2 : p2.el = some x2 := by rfl) (hp : PA.tup [x1, x2] = p) : retP X rs p ⟨env, h, n⟩ := by
  subst hrs; subst hp
  simp only [retP, resAVs]
  exact hr1.res _ (hr2.res _ (by simp only [viewAs]; exact hv1.h _ (hv2.h _ (by simp only [els, he1, he2]))))
theorem ret3 {rs : List ResultVar} {r1 r2 r3 : ResultVar} {v1 v2 v3 : AV} {p1 p2 p3 : PA} {x1 x2 x3 : Bool × List PV} {p : PA} {i1 i2 i3 : List Nat} (hrs : rs = [r1, r2, r3] := by exact rfl) (hr1 : RvR X ⟨env, h, n⟩ r1 v1 := by first | exact .tmp (by first | exact .tmp rfl | exact .of rfl) | exact .cell ⟨rfl⟩ rfl inferInstance rfl rfl | (apply RvR.cellA; exact ⟨rfl⟩; rfl; infer_instance; rfl; repeat (first | exact CutR.done | apply CutR.take | apply CutR.skip))) (hv1 : VA h v1 p1 i1 := by repeat (first | exact VA.one (.pv rfl) | exact VA.one .nil | exact VA.one (.own rfl (fun _ => rfl) (by first | rfl | omega | (simp only [List.length_set, List.length_append, List.length_cons, List.length_nil, List.length_take, List.length_drop, List.length_replicate, List.length_map, List.length_reverse] <;> omega) | simp)) | exact VA.one (.ownTake rfl (fun _ => rfl) (by first | omega | simp)) | apply VA.agg | exact VL.nil | exact VL.pvs rfl | apply VL.cons | exact VC.pv rfl | exact VC.nil | exact VC.own rfl (fun _ => rfl) (by first | rfl | omega | (simp only [List.length_set, List.length_append, List.length_cons, List.length_nil, List.length_take, List.length_drop, List.length_replicate, List.length_map, List.length_reverse] <;> omega) | simp)))
    (hr2 : RvR X ⟨env, h, n⟩ r2 v2 := by first | exact .tmp (by first | exact .tmp rfl | exact .of rfl) | exact .cell ⟨rfl⟩ rfl inferInstance rfl rfl | (apply RvR.cellA; exact ⟨rfl⟩; rfl; infer_instance; rfl; repeat (first | exact CutR.done | apply CutR.take | apply CutR.skip))) (hv2 : VA h v2 p2 i2 := by repeat (first | exact VA.one (.pv rfl) | exact VA.one .nil | exact VA.one (.own rfl (fun _ => rfl) (by first | rfl | omega | (simp only [List.length_set, List.length_append, List.length_cons, List.length_nil, List.length_take, List.length_drop, List.length_replicate, List.length_map, List.length_reverse] <;> omega) | simp)) | exact VA.one (.ownTake rfl (fun _ => rfl) (by first | omega | simp)) | apply VA.agg | exact VL.nil | exact VL.pvs rfl | apply VL.cons | exact VC.pv rfl | exact VC.nil | exact VC.own rfl (fun _ => rfl) (by first | rfl | omega | (simp only [List.length_set, List.length_append, List.length_cons, List.length_nil, List.length_take, List.length_drop, List.length_replicate, List.length_map, List.length_reverse] <;> omega) | simp)))
    (hr3 : RvR X ⟨env, h, n⟩ r3 v3 := by first | exact .tmp (by first | exact .tmp rfl | exact .of rfl) | exact .cell ⟨rfl⟩ rfl inferInstance rfl rfl | (apply RvR.cellA; exact ⟨rfl⟩; rfl; infer_instance; rfl; repeat (first | exact CutR.done | apply CutR.take | apply CutR.skip))) (hv3 : VA h v3 p3 i3 := by repeat (first | exact VA.one (.pv rfl) | exact VA.one .nil | exact VA.one (.own rfl (fun _ => rfl) (by first | rfl | omega | (simp only [List.length_set, List.length_append, List.length_cons, List.length_nil, List.length_take, List.length_drop, List.length_replicate, List.length_map, List.length_reverse] <;> omega) | simp)) | exact VA.one (.ownTake rfl (fun _ => rfl) (by first | omega | simp)) | apply VA.agg | exact VL.nil | exact VL.pvs rfl | apply VL.cons | exact VC.pv rfl | exact VC.nil | exact VC.own rfl (fun _ => rfl) (by first | rfl | omega | (simp only [List.length_set, List.length_append, List.length_cons, List.length_nil, List.length_take, List.length_drop, List.length_replicate, List.length_map, List.length_reverse] <;> omega) | simp))) (he1 : p1.el = some x1 := by rfl) (he2 : p2.el = some x2 := by rfl) (he3 : p3.el = some x3 := by rfl) (hp : PA.tup [x1, x2, x3] = p) : retP X rs p ⟨env, h, n⟩ := by
  subst hrs; subst hp
  simp only [retP, resAVs]
  exact hr1.res _ (hr2.res _ (hr3.res _ (by simp only [viewAs]; exact hv1.h _ (hv2.h _ (hv3.h _ (by simp only [els, he1, he2, he3]))))))

/-! ### Slices of slices and strings -/
structure ScR (env : List (Nat × AV)) (lo hi : Option Operand) (l : Int) (hiv : Option Int) : Prop where
  h : bnds (lo.map (evE env)) (hi.map (evE env)) = some (match lo, hiv with | none, none => .all | some _, none => .from l | none, some u => .upto u | some _, some u => .both l u)
theorem R_upto {x y : Operand} {α : Type} {e : α → List PV} {l : List α} {m : Nat} {ta te : TypeId} {T : TI} {s b : Nat} {zz : Option Value} {ky : IntKind} {z : Int} [hT : TInf X ta ⟨.slice te, s, b, zz⟩] [hE : TInf X te T] (hx : EvR env x (vP (slc e l)) := by exact ⟨rfl⟩) (hy : EvR env y (.one (.pv (.int ky z))) := by exact ⟨rfl⟩)
    (hS : ∀ x, (e x).length = T.size := by exact fun _ => rfl) (h0 : 0 ≤ z ∧ z ≤ l.length := by first | (constructor <;> omega) | (constructor <;> (first | omega | (simp only [List.length_set, List.length_append, List.length_cons, List.length_nil, List.length_take, List.length_drop, List.length_replicate, List.length_map, List.length_reverse] at * <;> omega)))) (hm : z.toNat = m := by first | (with_reducible exact Int.toNat_natCast _) | (with_reducible exact toNat_add _ _) | (with_reducible exact toNat_add1 _) | exact Eq.refl _) (hfl : FlR D env (.slice ta x none (some y) none) (vP (slc e (l.take m))) (.n [] [] none) D' := by first | exact .seq | exact .drawn rfl)
    (hK : Rn X N R k ops D' rest ⟨(d, vP (slc e (l.take m))) :: env, h, n⟩) : Rn X N R k ops D (⟨some d, .slice ta x none (some y) none, ty, ps, af, none⟩ :: rest) ⟨env, h, n⟩ :=
  Rn.val rfl (fun K hK => by
    subst hm
    have e1 : slc e (l.take z.toNat) = .sl z.toNat ((l.take z.toNat).flatMap e) := by simp only [slc, List.length_take]; rw [Nat.min_eq_left (by omega)]
    simp only [evVal, evSlice, Option.map_none, Option.map_some, hx.h, hy.h, bnds, hT.h, hE.h, slc, evSlPv, flat_take hS]
    rw [← e1]
    exact ⟨h0.1, h0.2, flat_len hS l, hK⟩) hfl hK
theorem R_from {x y : Operand} {α : Type} {e : α → List PV} {l : List α} {m : Nat} {ta te : TypeId} {T : TI} {s b : Nat} {zz : Option Value} {ky : IntKind} {z : Int} [hT : TInf X ta ⟨.slice te, s, b, zz⟩] [hE : TInf X te T] (hx : EvR env x (vP (slc e l)) := by exact ⟨rfl⟩) (hy : EvR env y (.one (.pv (.int ky z))) := by exact ⟨rfl⟩)
    (hS : ∀ x, (e x).length = T.size := by exact fun _ => rfl) (h0 : 0 ≤ z ∧ z ≤ l.length := by first | (constructor <;> omega) | (constructor <;> (first | omega | (simp only [List.length_set, List.length_append, List.length_cons, List.length_nil, List.length_take, List.length_drop, List.length_replicate, List.length_map, List.length_reverse] at * <;> omega)))) (hm : z.toNat = m := by first | (with_reducible exact Int.toNat_natCast _) | (with_reducible exact toNat_add _ _) | (with_reducible exact toNat_add1 _) | exact Eq.refl _) (hfl : FlR D env (.slice ta x (some y) none none) (vP (slc e (l.drop m))) (.n [] [] none) D' := by first | exact .seq | exact .drawn rfl)
    (hK : Rn X N R k ops D' rest ⟨(d, vP (slc e (l.drop m))) :: env, h, n⟩) : Rn X N R k ops D (⟨some d, .slice ta x (some y) none none, ty, ps, af, none⟩ :: rest) ⟨env, h, n⟩ :=
  Rn.val rfl (fun K hK => by
    subst hm
    have e1 : slc e (l.drop z.toNat) = .sl (l.length - z.toNat) ((l.drop z.toNat).flatMap e) := by simp only [slc, List.length_drop]
    simp only [evVal, evSlice, Option.map_none, Option.map_some, hx.h, hy.h, bnds, hT.h, hE.h, slc, evSlPv, flat_drop hS]
    rw [← e1]
    exact ⟨h0.1, h0.2, flat_len hS l, hK⟩) hfl hK
theorem R_sall {x : Operand} {m : Nat} {cells : List PV} {ta te : TypeId} {T : TI} {s b : Nat} {zz : Option Value} [hT : TInf X ta ⟨.slice te, s, b, zz⟩] [hE : TInf X te T] (hx : EvR env x (vP (.sl m cells)) := by exact ⟨rfl⟩)
    (hfl : FlR D env (.slice ta x none none none) (vP (.sl m cells)) (.n [] [] none) D' := by first | exact .seq | exact .drawn rfl)
    (hK : Rn X N R k ops D' rest ⟨(d, vP (.sl m cells)) :: env, h, n⟩) : Rn X N R k ops D (⟨some d, .slice ta x none none none, ty, ps, af, none⟩ :: rest) ⟨env, h, n⟩ :=
  Rn.val rfl (fun K hK => by
    simp only [evVal, evSlice, Option.map_none, hx.h, bnds, hT.h, hE.h, evSlPv]
    exact hK) hfl hK
theorem R_uptoO {x y : Operand} {id S q m : Nat} {ta te : TypeId} {T : TI} {s b : Nat} {zz : Option Value} {ky : IntKind} {z : Int} [hT : TInf X ta ⟨.slice te, s, b, zz⟩] [hE : TInf X te T] (hx : EvR env x (.one (.own id S q)) := by exact ⟨rfl⟩) (hy : EvR env y (.one (.pv (.int ky z))) := by exact ⟨rfl⟩)
    (hS : T.size = S := by rfl) (h0 : 0 ≤ z ∧ z ≤ q := by first | (constructor <;> omega) | (constructor <;> (first | omega | (simp only [List.length_set, List.length_append, List.length_cons, List.length_nil, List.length_take, List.length_drop, List.length_replicate, List.length_map, List.length_reverse] at * <;> omega)))) (hm : z.toNat = m := by first | (with_reducible exact Int.toNat_natCast _) | (with_reducible exact toNat_add _ _) | (with_reducible exact toNat_add1 _) | exact Eq.refl _) (hfl : FlR D env (.slice ta x none (some y) none) (.one (.own id S m)) (.n [] [] none) D' := by first | exact .seq | exact .drawn rfl)
    (hK : Rn X N R k ops D' rest ⟨(d, .one (.own id S m)) :: env, h, n⟩) : Rn X N R k ops D (⟨some d, .slice ta x none (some y) none, ty, ps, af, none⟩ :: rest) ⟨env, h, n⟩ :=
  Rn.val rfl (fun K hK => by
    subst hm
    simp only [evVal, evSlice, Option.map_none, Option.map_some, hx.h, hy.h, bnds, hT.h, hE.h, evSlOwn]
    exact ⟨hS, h0.1, h0.2, hK⟩) hfl hK

/-! ### Parts of tuples and structs -/
theorem gF {fs : Array Field} {i : Nat} {F : Field} (h : fs.toList[i]? = some F) : fs[i]? = some F := by rw [← Array.getElem?_toList]; exact h

theorem R_ext {x : Operand} {i : Nat} {xs : List (Bool × List AC)} {c : AC} (hx : EvR env x (.tup xs) := by exact ⟨rfl⟩) (hi : xs[i]? = some (false, [c]) := by rfl) (hfl : FlR D env (.extract x i) (.one c) (.n [] [] none) D' := by first | exact .seq | exact .drawn rfl)
    (hK : Rn X N R k ops D' rest ⟨(d, .one c) :: env, h, n⟩) : Rn X N R k ops D (⟨some d, .extract x i, ty, ps, af, none⟩ :: rest) ⟨env, h, n⟩ :=
  Rn.val rfl (fun K hK => by simp only [evVal, hx.h, evExtract, hi]; exact hK) hfl hK
theorem R_extA {x : Operand} {i : Nat} {xs : List (Bool × List AC)} {cs : List AC} (hx : EvR env x (.tup xs) := by exact ⟨rfl⟩) (hi : xs[i]? = some (true, cs) := by rfl) (hfl : FlR D env (.extract x i) (.agg cs) (.n [] [] none) D' := by first | exact .seq | exact .drawn rfl)
    (hK : Rn X N R k ops D' rest ⟨(d, .agg cs) :: env, h, n⟩) : Rn X N R k ops D (⟨some d, .extract x i, ty, ps, af, none⟩ :: rest) ⟨env, h, n⟩ :=
  Rn.val rfl (fun K hK => by simp only [evVal, hx.h, evExtract, hi]; exact hK) hfl hK
theorem R_fld {x : Operand} {i : Nat} {cs : List AC} {c : AC} {fs : Array Field} {F : Field} {s b : Nat} {zz : Option Value} {T : TI} [hT : TInf X tx ⟨.struct fs, s, b, zz⟩] (hx : EvR env x (.agg cs) := by exact ⟨rfl⟩) (hF : fs.toList[i]? = some F := by rfl) (hE : TInf X F.type T := by infer_instance) (ha : isAggU T.u = false := by rfl) (hc : cs[F.offset]? = some c := by rfl)
    (hfl : FlR D env (.field tx x i) (.one c) (.n [] [] none) D' := by first | exact .seq | exact .drawn rfl)
    (hK : Rn X N R k ops D' rest ⟨(d, .one c) :: env, h, n⟩) : Rn X N R k ops D (⟨some d, .field tx x i, ty, ps, af, none⟩ :: rest) ⟨env, h, n⟩ :=
  Rn.val rfl (fun K hK => by simp only [evVal, hx.h, evField, hT.h, gF hF, evPart, hE.h, ha, hc]; exact hK) hfl hK
theorem R_fldA {x : Operand} {i : Nat} {cs cs' : List AC} {fs : Array Field} {F : Field} {s b : Nat} {zz : Option Value} {T : TI} [hT : TInf X tx ⟨.struct fs, s, b, zz⟩] (hx : EvR env x (.agg cs) := by exact ⟨rfl⟩) (hF : fs.toList[i]? = some F := by rfl) (hE : TInf X F.type T := by infer_instance) (ha : isAggU T.u = true := by rfl) (hc : CutR cs F.offset T.size cs' := by repeat (first | exact CutR.done | apply CutR.take | apply CutR.skip))
    (hfl : FlR D env (.field tx x i) (.agg cs') (.n [] [] none) D' := by first | exact .seq | exact .drawn rfl)
    (hK : Rn X N R k ops D' rest ⟨(d, .agg cs') :: env, h, n⟩) : Rn X N R k ops D (⟨some d, .field tx x i, ty, ps, af, none⟩ :: rest) ⟨env, h, n⟩ :=
  Rn.val rfl (fun K hK => by simp only [evVal, hx.h, evField, hT.h, gF hF, evPart, hE.h, ha, hc.eq.2, if_true]; exact ⟨hc.eq.1, hK⟩) hfl hK
/-- The parts of a struct, told one by one. -/
inductive FilR (X : Ctx) (fs : Array Field) (env : List (Nat × AV)) : List AC → List (Nat × Operand) → List AC → Prop
  | nil {cs : List AC} : FilR X fs env cs [] cs
  | cons {cs cs1 cs2 ds : List AC} {i : Nat} {x : Operand} {v : AV} {pl : List (Nat × Operand)} {F : Field} {T : TI} (hF : fs.toList[i]? = some F) (hT : TInf X F.type T) (hx : EvR env x v) (hd : avCells v = some ds) (hl : ds.length = T.size) (hs : SetR cs F.offset ds cs1) (hr : FilR X fs env cs1 pl cs2) : FilR X fs env cs ((i, x) :: pl) cs2
theorem FilR.eq {X : Ctx} {fs : Array Field} {env : List (Nat × AV)} {cs cs2 : List AC} {pl : List (Nat × Operand)} (r : FilR X fs env cs pl cs2) : fillA (placesOf X.P fs) cs (pl.map fun p => (p.1, evE env p.2)) = some cs2 := by
  induction r with
  | nil => rfl
  | cons hF hT hx hd hl hs _ ih =>
    simp only [List.map_cons, fillA, placesOf, gF hF, hT.h, hx.h, hd]
    rw [if_pos ⟨hl, hs.eq.1⟩, hs.eq.2]
    exact ih
theorem R_build {pl : List (Nat × Operand)} {cs0 cs : List AC} {fs : Array Field} {s b : Nat} {zz : Value} [hT : TInf X tx ⟨.struct fs, s, b, some zz⟩] (ha : allSized X.P fs = true := by kernel_rfl) (hz : OfL zz.cells.toList cs0 := by repeat (first | exact OfL.nil | apply OfL.int | apply OfL.bool | apply OfL.str | apply OfL.nilS | (apply OfL.other; rfl; rfl)))
    (hc : FilR X fs env cs0 pl cs := by repeat (first | exact .nil | (apply FilR.cons; rfl; infer_instance; (first | exact .tmp rfl | exact .ci rfl | exact .cb | exact .cs rfl | exact .of rfl | exact .fn | (apply EvR.cagg; repeat (first | exact OfL.nil | apply OfL.int | apply OfL.bool | apply OfL.str | apply OfL.nilS | (apply OfL.other; rfl; rfl)))); rfl; rfl; (repeat (first | exact SetR.done | apply SetR.put | apply SetR.skip)))))
    (hfl : FlR D env (.build tx ⟨pl⟩) (.agg cs) (.n [] [] none) D' := by first | exact .seq | exact .drawn rfl)
    (hK : Rn X N R k ops D' rest ⟨(d, .agg cs) :: env, h, n⟩) : Rn X N R k ops D (⟨some d, .build tx ⟨pl⟩, ty, ps, af, none⟩ :: rest) ⟨env, h, n⟩ :=
  Rn.val rfl (fun K hK => by simp only [evVal, evBuild, hT.h, ha, zc_eq, zc_of hz]; rw [hc.eq]; exact ⟨trivial, hK⟩) hfl hK

/-! ### Boxes -/
theorem R_make {x y : Operand} {α : Type} {e : α → List PV} {a : α} {m : Nat} {te : TypeId} {u : TypeDesc} {S B s b : Nat} {zz : Option Value} {zl : Value} {kx ky : IntKind} {l c : Int} {h' : Hp} [hT : TInf X tx ⟨.slice te, s, b, zz⟩] [hE : TInf X te ⟨u, S, B, some zl⟩] (hx : EvR env x (.one (.pv (.int kx l))) := by exact ⟨rfl⟩) (hy : EvR env y (.one (.pv (.int ky c))) := by exact ⟨rfl⟩)
    (hz : zpv zl = some (e a)) (hS : ∀ x, (e x).length = S := by exact fun _ => rfl) (hS0 : 0 < S := by exact Nat.le_of_ble_eq_true rfl) (h0 : 0 ≤ l ∧ l ≤ c := by first | (constructor <;> omega) | (constructor <;> (first | omega | (simp only [List.length_set, List.length_append, List.length_cons, List.length_nil, List.length_take, List.length_drop, List.length_replicate, List.length_map, List.length_reverse] at * <;> omega)))) (hB : (B : Int) * c ≤ 281474976710656 := by omega) (hC : c ≤ 9223372036854775807 := by omega) (hm : l.toNat = m := by first | (with_reducible exact Int.toNat_natCast _) | (with_reducible exact toNat_add _ _) | (with_reducible exact toNat_add1 _) | exact Eq.refl _) (hn : look h n = none := by rfl) (hk1 : Nat.blt n 1000 = true := by rfl)
    (hh : PutR h n (.pu te ((List.replicate m a).flatMap e), false) h' := by repeat (first | exact .hit | exact .nil | (apply PutR.miss; rfl)))
    (hfl : FlR D env (.makeSlice tx x y) (.one (.own n S m)) (.n [] [] (some (n, .pu te ((List.replicate m a).flatMap e)))) D' := by first | exact .seq | exact .drawn rfl)
    (hK : Rn X N R k ops D' rest ⟨(d, .one (.own n S m)) :: env, h', n + 1⟩) : Rn X N R k ops D (⟨some d, .makeSlice tx x y, ty, ps, af, none⟩ :: rest) ⟨env, h, n⟩ :=
  Rn.step (ef := .n [] [] (some (n, .pu te ((List.replicate m a).flatMap e)))) (n' := n + 1) ⟨hn, lt1k hk1⟩ (fun K hK => by
    subst hm
    have e1 : repCells l.toNat (e a) = (List.replicate l.toNat a).flatMap e := by
      apply List.ext_getElem?
      intro j
      have h1 := repCells_get (n := l.toNat) (ps := e a) (by rw [hS]; exact hS0)
      have h2 := flat_len hS (List.replicate l.toNat a)
      rw [List.length_replicate] at h2
      rw [hS] at h1
      by_cases hj : j < l.toNat * S
      · rw [h1.2 j hj]
        have hq : j / S < l.toNat := by rw [Nat.div_lt_iff_lt_mul hS0]; exact hj
        have hr : j % S < S := Nat.mod_lt _ hS0
        have := flat_get hS (l := List.replicate l.toNat a) (m := j / S) (j := j % S) (x := a) (p := (e a)[j % S]'(by rw [hS]; exact hr)) (by simp [hq]) (List.getElem?_eq_getElem _)
        rw [show j / S * S + j % S = j by rw [Nat.mul_comm]; exact Nat.div_add_mod j S] at this
        rw [this, List.getElem?_eq_getElem]
      · rw [List.getElem?_eq_none (by omega), List.getElem?_eq_none (by omega)]
    simp only [evOp, evMake, hT.h, hE.h, hx.h, hy.h, zpv_eq, hz]
    exact ⟨hS a, hS0, h0.1, h0.2, hB, hC, hn, by rw [e1]; exact hK⟩) hfl (by simp only [AS.fin, upd, putO, putE, frzs, hh.eq]; exact hK)
/-- One cell of a laid-out list of an own box. -/
theorem R_ldO {x : Operand} {α : Type} {e : α → List PV} {l : List α} {id S m : Nat} {te : TypeId} {zb : Bool} {a : α} {p : PV} {T : TI} [hT : TInf X tx T] (hx : EvR env x (.one (.ptr id (m * S))) := by exact ⟨rfl⟩) (hlk : look h id = some (.pu te (l.flatMap e), zb) := by rfl) (hS : ∀ x, (e x).length = S := by exact fun _ => rfl) (hag : isAggU T.u = false := by rfl)
    (hl : l[m]? = some a := by first | exact gDI (by first | omega | (simp only [List.length_set, List.length_append, List.length_cons, List.length_nil, List.length_take, List.length_drop, List.length_replicate, List.length_map, List.length_reverse] at * <;> omega)) | exact gDS (by first | omega | (simp only [List.length_set, List.length_append, List.length_cons, List.length_nil, List.length_take, List.length_drop, List.length_replicate, List.length_map, List.length_reverse] at * <;> omega)) | exact gD (by first | omega | (simp only [List.length_set, List.length_append, List.length_cons, List.length_nil, List.length_take, List.length_drop, List.length_replicate, List.length_map, List.length_reverse] at * <;> omega))) (hp : (e a)[0]? = some p := by rfl) (hfl : FlR D env (.load tx x) (vP p) (.n [id] [] none) D' := by first | exact .seq | exact .drawn rfl)
    (hK : Rn X N R k ops D' rest ⟨(d, vP p) :: env, h, n⟩) : Rn X N R k ops D (⟨some d, .load tx x, ty, ps, af, none⟩ :: rest) ⟨env, h, n⟩ :=
  Rn.step (ef := .n [id] [] none) trivial (fun K hK => by
    have hg := flat_get hS hl hp
    rw [Nat.add_zero] at hg
    have h1 := (List.getElem?_eq_some_iff.1 hg).1
    simp only [evOp, hx.h, evLoadBx, hT.h, hlk, hag, Bool.false_eq_true, if_false]
    exact ⟨h1, by rw [List.getD_eq_getElem?_getD, hg]; exact hK⟩) hfl hK
theorem R_stO {x y : Operand} {α : Type} {e : α → List PV} {l : List α} {id S m : Nat} {te : TypeId} {a : α} {p : PV} {T : TI} [hT : TInf X tx T] (hx : EvR env x (.one (.ptr id (m * S))) := by exact ⟨rfl⟩) (hlk : look h id = some (.pu te (l.flatMap e), false) := by rfl) (hS : ∀ x, (e x).length = S := by exact fun _ => rfl) (hT1 : S = T.size := by rfl)
    (hm : m < l.length := by first | omega | (simp only [List.length_set, List.length_append, List.length_cons, List.length_nil, List.length_take, List.length_drop, List.length_replicate, List.length_map, List.length_reverse] at * <;> omega)) (hy : EvR env y (vP p) := by exact ⟨rfl⟩) (hnn : p.isNil = false := by rfl) (hp : e a = [p] := by rfl) {h' : Hp} (hh : PutR h id (.pu te ((l.set m a).flatMap e), false) h' := by repeat (first | exact .hit | exact .nil | (apply PutR.miss; rfl)))
    (hfl : FlR D env (.store tx x y) .bot (.e h' none) D' := by first | exact .seq | exact .drawn rfl)
    (hK : Rn X N R k ops D' rest ⟨env, h', n⟩) : Rn X N R k ops D (⟨none, .store tx x y, ty, ps, af, none⟩ :: rest) ⟨env, h, n⟩ :=
  Rn.step (ef := .e h' none) (v := .bot) (n' := n) trivial (fun K hK => by
    have h1 : S = 1 := by rw [← hS a, hp]; rfl
    have hv := (VA.one (h := h) (VC.pv hnn)).h
    have e1 : setM (l.flatMap e) (m * S) [p] = (l.set m a).flatMap e := by
      rw [setM_eq _ _ _ (by rw [flat_len hS, h1]; simp; omega), ← hp]; exact flat_set hS a hm
    simp only [evOp, hx.h, evStore, hT.h, hlk, hy.h, viewX]
    refine hv _ ?_
    simp only [frzs, e1, hh.eq]
    exact ⟨by rw [← hT1, h1]; rfl, by rw [flat_len hS, h1]; simp; omega, rfl, hK⟩) hfl hK
end
end Go.VL

