/- Contracts over whole values, and what they lean on: part j. Each holds under the conditions that it states. -/
import Derived.Test.YtiaijoomngefnaaGreatDoorYi
set_option linter.unusedVariables false
set_option linter.unusedSimpArgs false

namespace Go.VS.YtiaijoomngefnaaGreatDoor
open Go Go.VL Go.VN Go.RowKit Go.Proofs
set_option maxRecDepth 100000
set_option linter.unusedVariables false

theorem f_opposite (s : Bool) (m : Nat) (b : List Int) : Spc X 71 [ft (s, digs m, b)] (ft (!s && !decide (m = 0), digs m, b)) := by
  refine Spc.start Tryz.func71 rfl (h := fun hs R hR => ?_)
  unfold Tryz.f71
  simp only [entryE, PA.av, List.map_cons, List.map_nil]
  have hz := f_zero (digs m)
  rw [digs_empty] at hz
  cases s with
  | true =>
    refine walk (hQ := ?_)
    exact hR _ (ret1 (hp := rfl))
  | false =>
    by_cases h1 : m = 0
    · simp only [h1, decide_true] at hz hR
      simp only [h1]
      refine walk (hQ := ?_)
      refine R_call hz (hK := ?_)
      refine walk (hQ := ?_)
      exact hR _ (ret1 (hp := rfl))
    · simp only [h1, decide_false] at hz hR
      refine walk (hQ := ?_)
      refine R_call hz (hK := ?_)
      refine walk (hQ := ?_)
      exact hR _ (ret1 (hp := rfl))
theorem f_SubN (s : Bool) (m n : Nat) (t : Bool) (p q : Nat) (hf : VF (s, digs m, digs n)) (hg : VF (t, digs p, digs q)) : Spc X 30 [ft (s, digs m, digs n), ft (t, digs p, digs q)] (fr (addF (s, digs m, digs n) (!t && !decide (p = 0), digs p, digs q))) := by
  refine Spc.start Tryz.func30 rfl (h := fun hs R hR => ?_)
  unfold Tryz.f30
  simp only [entryE, PA.av, List.map_cons, List.map_nil]
  have hA := f_Add (s, digs m, digs n) (!t && !decide (p = 0), digs p, digs q)
  refine walk (hQ := ?_)
  refine R_call (f_ValidT hf) (hK := ?_)
  refine walk (hQ := ?_)
  refine R_call (f_ValidT hg) (hK := ?_)
  refine walk (hQ := ?_)
  refine R_call (f_opposite t p (digs q)) (hK := ?_)
  refine walk (hQ := ?_)
  refine R_call hA (hK := ?_)
  refine walk (hQ := ?_)
  exact hR _ (ret2 (hp := rfl))
theorem oppF_N {f : FrN} (h : VF f) : oppF f = (!f.1 && !decide (nm f = 0), digs (nm f), digs (dn f)) := by
  unfold oppF
  rw [h.num, digs_empty, ← h.den]
theorem f_Sub (f g : FrN) : Spc X 30 [ft f, ft g] (fr (subF f g)) := by
  unfold subF
  by_cases hv : validF f = true
  · by_cases hw : validF g = true
    · rw [if_pos ⟨hv, hw⟩]
      have hf := validF_VF hv
      have hg := validF_VF hw
      have h1 := f_SubN f.1 (nm f) (dn f) g.1 (nm g) (dn g) (by rw [← hf.eta]; exact hf) (by rw [← hg.eta]; exact hg)
      rw [← hf.eta, ← hg.eta, ← oppF_N hg] at h1
      exact h1
    · rw [if_neg (fun h => hw h.2)]
      refine Spc.start Tryz.func30 rfl (h := fun hs R hR => ?_)
      unfold Tryz.f30
      simp only [entryE, PA.av, List.map_cons, List.map_nil]
      refine walk (hQ := ?_)
      refine R_call (f_ValidT (validF_VF hv)) (hK := ?_)
      refine walk (hQ := ?_)
      refine R_call (f_ValidF (Bool.eq_false_iff.2 hw)) (hK := ?_)
      refine walk (hQ := ?_)
      exact hR _ (ret2 (hp := rfl))
  · rw [if_neg (fun h => hv h.1)]
    refine Spc.start Tryz.func30 rfl (h := fun hs R hR => ?_)
    unfold Tryz.f30
    simp only [entryE, PA.av, List.map_cons, List.map_nil]
    refine walk (hQ := ?_)
    refine R_call (f_ValidF (Bool.eq_false_iff.2 hv)) (hK := ?_)
    refine walk (hQ := ?_)
    exact hR _ (ret2 (hp := rfl))
theorem f_MulN (s : Bool) (m n : Nat) (t : Bool) (p q : Nat) (hf : VF (s, digs m, digs n)) (hg : VF (t, digs p, digs q)) : Spc X 40 [ft (s, digs m, digs n), ft (t, digs p, digs q)] (fr (mulN s m n t p q)) := by
  refine Spc.start Tryz.func40 rfl (h := fun hs R hR => ?_)
  unfold Tryz.f40
  simp only [entryE, PA.av, List.map_cons, List.map_nil]
  unfold mulN at hR
  have la := hf.ln
  have lb := hf.ld
  have lc := hg.ln
  have ld := hg.ld
  have pb := hf.pos
  have pd := hg.pos
  rw [nm_mk] at la lc
  rw [dn_mk] at lb ld pb pd
  have pn : 0 < n * q := Nat.mul_pos pb pd
  refine walk (hQ := ?_)
  refine R_call (f_ValidT hf) (hK := ?_)
  refine walk (hQ := ?_)
  refine R_call (f_ValidT hg) (hK := ?_)
  have hp := f_products [(digs m, digs p), (digs n, digs q)] (by simp)
  rw [prod2 la lc lb ld] at hp
  refine walk (hQ := ?_)
  refine R_bsl eP (l := [(digs m, digs p), (digs n, digs q)]) (hK := ?_)
  refine walk (hQ := ?_)
  by_cases h1 : fits (m * p) = true ∧ fits (n * q) = true
  · rw [if_pos h1] at hp hR
    refine R_callF hp (hK := ?_)
    refine walk (hQ := ?_)
    have hb : (decide ¬ s = t) = (s != t) := by cases s <;> cases t <;> rfl
    have hred := f_reduce (decide ¬ s = t) _ _ pn (fits_le h1.1) (fits_le h1.2)
    rw [← hb] at hR
    refine R_call hred (hK := ?_)
    refine walk (hQ := ?_)
    exact hR _ (ret2 (hp := rfl))
  · rw [if_neg h1] at hp hR
    refine R_callF hp (hK := ?_)
    refine walk (hQ := ?_)
    exact hR _ (ret2 (hp := rfl))
theorem f_Mul (f g : FrN) : Spc X 40 [ft f, ft g] (fr (mulF f g)) := by
  unfold mulF
  by_cases hv : validF f = true
  · by_cases hw : validF g = true
    · rw [if_pos ⟨hv, hw⟩]
      have hf := validF_VF hv
      have hg := validF_VF hw
      have h1 := f_MulN f.1 (nm f) (dn f) g.1 (nm g) (dn g) (by rw [← hf.eta]; exact hf) (by rw [← hg.eta]; exact hg)
      rw [← hf.eta, ← hg.eta] at h1
      exact h1
    · rw [if_neg (fun h => hw h.2)]
      refine Spc.start Tryz.func40 rfl (h := fun hs R hR => ?_)
      unfold Tryz.f40
      simp only [entryE, PA.av, List.map_cons, List.map_nil]
      refine walk (hQ := ?_)
      refine R_call (f_ValidT (validF_VF hv)) (hK := ?_)
      refine walk (hQ := ?_)
      refine R_call (f_ValidF (Bool.eq_false_iff.2 hw)) (hK := ?_)
      refine walk (hQ := ?_)
      exact hR _ (ret2 (hp := rfl))
  · rw [if_neg (fun h => hv h.1)]
    refine Spc.start Tryz.func40 rfl (h := fun hs R hR => ?_)
    unfold Tryz.f40
    simp only [entryE, PA.av, List.map_cons, List.map_nil]
    refine walk (hQ := ?_)
    refine R_call (f_ValidF (Bool.eq_false_iff.2 hv)) (hK := ?_)
    refine walk (hQ := ?_)
    exact hR _ (ret2 (hp := rfl))
theorem f_DivN (s : Bool) (m n : Nat) (t : Bool) (p q : Nat) (hf : VF (s, digs m, digs n)) (hg : VF (t, digs p, digs q)) : Spc X 42 [ft (s, digs m, digs n), ft (t, digs p, digs q)] (fr (if (digs p).isEmpty = true then (zF, 6) else mulN s m n t q p)) := by
  refine Spc.start Tryz.func42 rfl (h := fun hs R hR => ?_)
  unfold Tryz.f42
  simp only [entryE, PA.av, List.map_cons, List.map_nil]
  have la := hf.ln
  have lb := hf.ld
  have lc := hg.ln
  have ld := hg.ld
  have pb := hf.pos
  have pd := hg.pos
  rw [nm_mk] at la lc
  rw [dn_mk] at lb ld pb pd
  have hz := f_zero (digs p)
  rw [digs_empty] at hz
  rw [digs_empty] at hR
  refine walk (hQ := ?_)
  refine R_call (f_ValidT hf) (hK := ?_)
  refine walk (hQ := ?_)
  refine R_call (f_ValidT hg) (hK := ?_)
  refine walk (hQ := ?_)
  by_cases h1 : p = 0
  · simp only [h1, decide_true, if_true] at hz hR
    simp only [h1]
    refine R_call hz (hK := ?_)
    refine walk (hQ := ?_)
    exact hR _ (ret2 (hp := rfl))
  · simp only [h1, decide_false, Bool.false_eq_true, if_false] at hz hR
    have hcop := hg.cop
    rw [nm_mk, dn_mk] at hcop
    have hsw : VF (t, digs q, digs p) := VF.mk' (by omega) (by rw [Nat.gcd_comm]; exact hcop) (fun h => by omega) ld lc
    refine R_call hz (hK := ?_)
    refine walk (hQ := ?_)
    refine R_call (f_MulN s m n t q p hf hsw) (hK := ?_)
    refine walk (hQ := ?_)
    exact hR _ (ret2 (hp := rfl))
theorem f_Div (f g : FrN) : Spc X 42 [ft f, ft g] (fr (divF f g)) := by
  unfold divF
  by_cases hv : validF f = true
  · by_cases hw : validF g = true
    · rw [if_pos ⟨hv, hw⟩]
      have hf := validF_VF hv
      have hg := validF_VF hw
      have h1 := f_DivN f.1 (nm f) (dn f) g.1 (nm g) (dn g) (by rw [← hf.eta]; exact hf) (by rw [← hg.eta]; exact hg)
      rw [← hf.eta, ← hg.eta, ← hg.num] at h1
      exact h1
    · rw [if_neg (fun h => hw h.2)]
      refine Spc.start Tryz.func42 rfl (h := fun hs R hR => ?_)
      unfold Tryz.f42
      simp only [entryE, PA.av, List.map_cons, List.map_nil]
      refine walk (hQ := ?_)
      refine R_call (f_ValidT (validF_VF hv)) (hK := ?_)
      refine walk (hQ := ?_)
      refine R_call (f_ValidF (Bool.eq_false_iff.2 hw)) (hK := ?_)
      refine walk (hQ := ?_)
      exact hR _ (ret2 (hp := rfl))
  · rw [if_neg (fun h => hv h.1)]
    refine Spc.start Tryz.func42 rfl (h := fun hs R hR => ?_)
    unfold Tryz.f42
    simp only [entryE, PA.av, List.map_cons, List.map_nil]
    refine walk (hQ := ?_)
    refine R_call (f_ValidF (Bool.eq_false_iff.2 hv)) (hK := ?_)
    refine walk (hQ := ?_)
    exact hR _ (ret2 (hp := rfl))
end Go.VS.YtiaijoomngefnaaGreatDoor


namespace Go.VS.YtiaijoomngefnaaGreatDoor
open Go Go.VL Go.VN Go.RowKit Go.Proofs
set_option maxRecDepth 100000
set_option linter.unusedVariables false

theorem r_GcdN (m n : Nat) (hm : (digs m).length ≤ 200) (hn : (digs n).length ≤ 200) : Spc X 56 [nt (digs m), nt (digs n)] (nr (digs (Nat.gcd m n), 0)) := by
  have h := r_Gcd (digs m) (digs n)
  unfold gcdR at h
  rw [if_pos ⟨valid_N m hm, valid_N n hn⟩, val_digs, val_digs, Int.toNat_natCast, Int.toNat_natCast] at h
  exact h
theorem r_DivN (m n : Nat) (hm : (digs m).length ≤ 200) (hn : (digs n).length ≤ 200) (h0 : n ≠ 0) : Spc X 65 [nt (digs m), nt (digs n)] (nr2 (digs (m / n), digs (m % n), 0)) := by
  have h := r_Div (digs m) (digs n)
  unfold divR at h
  rw [if_pos ⟨valid_N m hm, valid_N n hn⟩, val_digs, val_digs, Int.toNat_natCast, Int.toNat_natCast, if_neg h0] at h
  exact h
theorem same_one (n : Nat) : decide (digs n = digs 1) = decide (n = 1) := by
  rw [Bool.eq_iff_iff, decide_eq_true_eq, decide_eq_true_eq]
  exact ⟨fun h => digs_inj h, fun h => by rw [h]⟩
theorem g_zero (a : List Int) : Spc X 55 [nt a] (.one (.bool a.isEmpty)) := by
  refine Spc.start Tryz.func55 rfl (h := fun hs R hR => ?_)
  unfold Tryz.f55
  simp only [entryE, PA.av, List.map_cons, List.map_nil]
  refine walk (hQ := ?_)
  have e : decide ((a.length : Int) = 0) = a.isEmpty := by
    cases a with
    | nil => rfl
    | cons x l => simp; omega
  exact hR _ (ret1 (hp := by rw [← e]))
theorem g_lowest (b : Bool) (p q : Nat) (h0 : 0 < q) (lp : (digs p).length ≤ 200) (lq : (digs q).length ≤ 200) : Spc X 67 [.one (.bool b), nt (digs p), nt (digs q)] (ft (redN b p q)) := by
  refine Spc.start Tryz.func67 rfl (h := fun hs R hR => ?_)
  unfold Tryz.f67
  simp only [entryE, PA.av, List.map_cons, List.map_nil]
  have hg : 0 < Nat.gcd p q := Nat.gcd_pos_of_pos_right p h0
  have lg : (digs (Nat.gcd p q)).length ≤ 200 := Nat.le_trans (len_of_lt (Nat.gcd_le_right p h0)) lq
  refine walk (hQ := ?_)
  refine R_call (r_GcdN p q lp lq) (hK := ?_)
  refine walk (hQ := ?_)
  refine R_call (r_DivN p _ lp lg (by omega)) (hK := ?_)
  refine walk (hQ := ?_)
  refine R_call (r_DivN q _ lq lg (by omega)) (hK := ?_)
  refine walk (hQ := ?_)
  have hz := g_zero (digs (p / Nat.gcd p q))
  rw [digs_empty] at hz
  unfold redN at hR
  cases b with
  | false =>
    refine walk (hQ := ?_)
    exact hR _ (ret1 (hp := rfl))
  | true =>
    refine walk (hQ := ?_)
    by_cases h1 : p / Nat.gcd p q = 0
    · simp only [h1, decide_true] at hz hR
      simp only [h1]
      refine R_call hz (hK := ?_)
      refine walk (hQ := ?_)
      exact hR _ (ret1 (hp := rfl))
    · simp only [h1, decide_false] at hz hR
      refine R_call hz (hK := ?_)
      refine walk (hQ := ?_)
      exact hR _ (ret1 (hp := rfl))
theorem g_Valid (f : FrN) : Spc X 17 [ft f] (.one (.bool (validF f))) := by
  obtain ⟨n, a, b⟩ := f
  refine Spc.start Tryz.func17 rfl (h := fun hs R hR => ?_)
  unfold Tryz.f17
  simp only [entryE, PA.av, List.map_cons, List.map_nil]
  have va := r_Valid a
  have vb := r_Valid b
  have za := g_zero a
  have zb := g_zero b
  refine walk (hQ := ?_)
  cases ha : validB a with
  | false =>
    rw [ha] at va
    have e : validF (n, a, b) = false := by unfold validF; simp [ha]
    rw [e] at hR
    refine R_call va (hK := ?_)
    refine walk (hQ := ?_)
    exact hR _ (ret1 (hp := rfl))
  | true =>
  rw [ha] at va
  refine R_call va (hK := ?_)
  refine walk (hQ := ?_)
  cases hb : validB b with
  | false =>
    rw [hb] at vb
    have e : validF (n, a, b) = false := by unfold validF; simp [hb]
    rw [e] at hR
    refine R_call vb (hK := ?_)
    refine walk (hQ := ?_)
    exact hR _ (ret1 (hp := rfl))
  | true =>
  rw [hb] at vb
  refine R_call vb (hK := ?_)
  refine walk (hQ := ?_)
  cases hc : b.isEmpty with
  | true =>
    rw [hc] at zb
    have e : validF (n, a, b) = false := by unfold validF; simp [hc]
    rw [e] at hR
    refine R_call zb (hK := ?_)
    refine walk (hQ := ?_)
    exact hR _ (ret1 (hp := rfl))
  | false =>
  rw [hc] at zb
  refine R_call zb (hK := ?_)
  refine walk (hQ := ?_)
  have key : (a.isEmpty && n) = false → validF (n, a, b) = decide (Nat.gcd (val a).toNat (val b).toNat = 1) := fun h => validF_gcd ha hb hc h
  obtain ⟨ea, la, da⟩ := valid_digs ha
  obtain ⟨eb, lb, db⟩ := valid_digs hb
  cases hd : a.isEmpty with
  | true =>
    rw [hd] at za
    refine R_call za (hK := ?_)
    cases n with
    | true =>
      have e : validF (true, a, b) = false := by unfold validF; simp [hd]
      rw [e] at hR
      refine walk (hQ := ?_)
      exact hR _ (ret1 (hp := rfl))
    | false =>
      rw [key (by simp)] at hR
      generalize (val a).toNat = p at *
      generalize (val b).toNat = q at *
      subst ea eb
      refine walk (hQ := ?_)
      refine R_call (r_GcdN p q la lb) (hK := ?_)
      refine walk (hQ := ?_)
      refine R_call (r_Small 1) (hK := ?_)
      refine walk (hQ := ?_)
      refine R_call (r_Same _ _) (hK := ?_)
      refine walk (hQ := ?_)
      rw [← same_one] at hR
      exact hR _ (ret1 (hp := rfl))
  | false =>
    rw [hd] at za
    refine R_call za (hK := ?_)
    rw [key (by simp [hd])] at hR
    generalize (val a).toNat = p at *
    generalize (val b).toNat = q at *
    subst ea eb
    refine walk (hQ := ?_)
    refine R_call (r_GcdN p q la lb) (hK := ?_)
    refine walk (hQ := ?_)
    refine R_call (r_Small 1) (hK := ?_)
    refine walk (hQ := ?_)
    refine R_call (r_Same _ _) (hK := ?_)
    refine walk (hQ := ?_)
    rw [← same_one] at hR
    exact hR _ (ret1 (hp := rfl))
theorem g_ValidT {f : FrN} (h : VF f) : Spc X 17 [ft f] (.one (.bool true)) := by
  have := g_Valid f
  rwa [h.valid] at this
theorem g_ValidF {f : FrN} (h : validF f = false) : Spc X 17 [ft f] (.one (.bool false)) := by
  have := g_Valid f
  rwa [h] at this
def prodP (a b c d : List Int) : List Int × List Int × Int := if (mulR a b).2 ≠ 0 then ((mulR a b).1, (mulR a b).1, (mulR a b).2) else ((mulR a b).1, (mulR c d).1, (mulR c d).2)
theorem g_products (a b c d : List Int) : Spc X 75 [nt a, nt b, nt c, nt d] (nr2 (prodP a b c d)) := by
  refine Spc.start Tryz.func75 rfl (h := fun hs R hR => ?_)
  unfold Tryz.f75
  simp only [entryE, PA.av, List.map_cons, List.map_nil]
  unfold prodP at hR
  refine walk (hQ := ?_)
  refine R_call (r_Mul a b) (hK := ?_)
  refine walk (hQ := ?_)
  refine W_if (ht := fun h0 => ?_) (hf := fun h0 => ?_)
  · rw [if_pos h0] at hR
    refine walk (hQ := ?_)
    exact hR _ (ret3 (hp := rfl))
  · rw [if_neg h0] at hR
    refine walk (hQ := ?_)
    refine R_call (r_Mul c d) (hK := ?_)
    refine walk (hQ := ?_)
    exact hR _ (ret3 (hp := rfl))
theorem prodP_ok {a b c d : Nat} (ha : (digs a).length ≤ 200) (hb : (digs b).length ≤ 200) (hc : (digs c).length ≤ 200) (hd : (digs d).length ≤ 200) (h1 : fits (a * b) = true) (h2 : fits (c * d) = true) : prodP (digs a) (digs b) (digs c) (digs d) = (digs (a * b), digs (c * d), 0) := by
  unfold prodP
  rw [mulR_N ha hb, mulR_N hc hd, if_pos h1, if_pos h2, if_neg (by simp)]
theorem prodP_bad {a b c d : Nat} (ha : (digs a).length ≤ 200) (hb : (digs b).length ≤ 200) (hc : (digs c).length ≤ 200) (hd : (digs d).length ≤ 200) (h : ¬ (fits (a * b) = true ∧ fits (c * d) = true)) : ∃ x y, prodP (digs a) (digs b) (digs c) (digs d) = (x, y, 3) := by
  unfold prodP
  rw [mulR_N ha hb, mulR_N hc hd]
  by_cases h1 : fits (a * b) = true
  · have h2 : ¬ fits (c * d) = true := fun h2 => h ⟨h1, h2⟩
    rw [if_pos h1, if_neg h2, if_neg (by simp)]
    exact ⟨_, _, rfl⟩
  · rw [if_neg h1, if_pos (by simp)]
    exact ⟨_, _, rfl⟩
end Go.VS.YtiaijoomngefnaaGreatDoor


namespace Go.VS.YtiaijoomngefnaaGreatDoor
open Go Go.VL Go.VN Go.RowKit Go.Proofs
set_option maxRecDepth 100000
set_option linter.unusedVariables false

theorem len_le {m n : Nat} (h : m ≤ n) (hn : (digs n).length ≤ 200) : (digs m).length ≤ 200 := Nat.le_trans (len_of_lt h) hn
theorem cmp_ge (m n : Nat) : 0 ≤ cmpL (digs m) (digs n) ↔ n ≤ m := by
  have := cmp_lt m n
  omega
theorem g_AddN (s : Bool) (m n : Nat) (t : Bool) (p q : Nat) (hf : VF (s, digs m, digs n)) (hg : VF (t, digs p, digs q)) : Spc X 38 [ft (s, digs m, digs n), ft (t, digs p, digs q)] (fr (addN s m n t p q)) := by
  refine Spc.start Tryz.func38 rfl (h := fun hs R hR => ?_)
  unfold Tryz.f38
  simp only [entryE, PA.av, List.map_cons, List.map_nil]
  unfold addN at hR
  have la := hf.ln
  have lb := hf.ld
  have lc := hg.ln
  have ld := hg.ld
  have pb := hf.pos
  have pd := hg.pos
  rw [nm_mk] at la lc
  rw [dn_mk] at lb ld pb pd
  have pn : 0 < n * q := Nat.mul_pos pb pd
  refine walk (hQ := ?_)
  refine R_call (g_ValidT hf) (hK := ?_)
  refine walk (hQ := ?_)
  refine R_call (g_ValidT hg) (hK := ?_)
  have hp := g_products (digs m) (digs q) (digs p) (digs n)
  refine walk (hQ := ?_)
  by_cases h1 : fits (m * q) = true ∧ fits (p * n) = true
  · rw [prodP_ok la ld lc lb h1.1 h1.2] at hp
    have l1 := fits_le h1.1
    have l2 := fits_le h1.2
    refine R_call hp (hK := ?_)
    have hm := r_Mul (digs n) (digs q)
    rw [mulR_N lb ld] at hm
    refine walk (hQ := ?_)
    by_cases h2 : fits (n * q) = true
    · rw [if_pos h2] at hm
      rw [if_pos ⟨h1.1, h1.2, h2⟩] at hR
      have l3 := fits_le h2
      refine R_call hm (hK := ?_)
      refine walk (hQ := ?_)
      refine W_ifb (ht := fun h3 => ?_) (hf := fun h3 => ?_)
      · have e : s = t := by simpa using h3
        subst e
        rw [if_pos rfl] at hR
        have hA := r_Add (digs (m * q)) (digs (p * n))
        rw [addR_N l1 l2] at hA
        refine walk (hQ := ?_)
        by_cases h4 : fits (m * q + p * n) = true
        · rw [if_pos h4] at hA hR
          refine R_call hA (hK := ?_)
          refine walk (hQ := ?_)
          refine R_call (g_lowest s _ _ pn (fits_le h4) l3) (hK := ?_)
          refine walk (hQ := ?_)
          exact hR _ (ret2 (hp := rfl))
        · rw [if_neg h4] at hA hR
          refine R_call hA (hK := ?_)
          refine walk (hQ := ?_)
          exact hR _ (ret2 (hp := rfl))
      · have e : ¬ s = t := by simpa using h3
        rw [if_neg e] at hR
        refine walk (hQ := ?_)
        refine R_call (r_Cmp _ _) (hK := ?_)
        refine walk (hQ := ?_)
        refine W_if (ht := fun h4 => ?_) (hf := fun h4 => ?_)
        · have h5 : p * n ≤ m * q := (cmp_ge _ _).1 h4
          rw [if_neg (by omega)] at hR
          have hS := r_Sub (digs (m * q)) (digs (p * n))
          rw [subR_N l1 l2 h5] at hS
          refine walk (hQ := ?_)
          refine R_call hS (hK := ?_)
          refine walk (hQ := ?_)
          refine R_call (g_lowest s _ _ pn (len_le (Nat.sub_le _ _) l1) l3) (hK := ?_)
          refine walk (hQ := ?_)
          exact hR _ (ret2 (hp := rfl))
        · have h5 : m * q < p * n := by
            rcases Nat.lt_or_ge (m * q) (p * n) with h | h
            · exact h
            · exact absurd ((cmp_ge _ _).2 h) h4
          rw [if_pos h5] at hR
          have hS := r_Sub (digs (p * n)) (digs (m * q))
          rw [subR_N l2 l1 (by omega)] at hS
          refine walk (hQ := ?_)
          refine R_call hS (hK := ?_)
          refine walk (hQ := ?_)
          refine R_call (g_lowest t _ _ pn (len_le (Nat.sub_le _ _) l2) l3) (hK := ?_)
          refine walk (hQ := ?_)
          exact hR _ (ret2 (hp := rfl))
    · rw [if_neg h2] at hm
      rw [if_neg (fun h => h2 h.2.2)] at hR
      refine R_call hm (hK := ?_)
      refine walk (hQ := ?_)
      exact hR _ (ret2 (hp := rfl))
  · obtain ⟨x, y, e⟩ := prodP_bad la ld lc lb h1
    rw [e] at hp
    rw [if_neg (fun h => h1 ⟨h.1, h.2.1⟩)] at hR
    refine R_call hp (hK := ?_)
    refine walk (hQ := ?_)
    exact hR _ (ret2 (hp := rfl))
theorem g_Add (f g : FrN) : Spc X 38 [ft f, ft g] (fr (addF f g)) := by
  unfold addF
  by_cases hv : validF f = true
  · by_cases hw : validF g = true
    · rw [if_pos ⟨hv, hw⟩]
      have hf := validF_VF hv
      have hg := validF_VF hw
      have h1 := g_AddN f.1 (nm f) (dn f) g.1 (nm g) (dn g) (by rw [← hf.eta]; exact hf) (by rw [← hg.eta]; exact hg)
      rw [← hf.eta, ← hg.eta] at h1
      exact h1
    · rw [if_neg (fun h => hw h.2)]
      refine Spc.start Tryz.func38 rfl (h := fun hs R hR => ?_)
      unfold Tryz.f38
      simp only [entryE, PA.av, List.map_cons, List.map_nil]
      refine walk (hQ := ?_)
      refine R_call (g_ValidT (validF_VF hv)) (hK := ?_)
      refine walk (hQ := ?_)
      refine R_call (g_ValidF (Bool.eq_false_iff.2 hw)) (hK := ?_)
      refine walk (hQ := ?_)
      exact hR _ (ret2 (hp := rfl))
  · rw [if_neg (fun h => hv h.1)]
    refine Spc.start Tryz.func38 rfl (h := fun hs R hR => ?_)
    unfold Tryz.f38
    simp only [entryE, PA.av, List.map_cons, List.map_nil]
    refine walk (hQ := ?_)
    refine R_call (g_ValidF (Bool.eq_false_iff.2 hv)) (hK := ?_)
    refine walk (hQ := ?_)
    exact hR _ (ret2 (hp := rfl))
theorem g_opposite (s : Bool) (m : Nat) (b : List Int) : Spc X 78 [ft (s, digs m, b)] (ft (!s && !decide (m = 0), digs m, b)) := by
  refine Spc.start Tryz.func78 rfl (h := fun hs R hR => ?_)
  unfold Tryz.f78
  simp only [entryE, PA.av, List.map_cons, List.map_nil]
  have hz := g_zero (digs m)
  rw [digs_empty] at hz
  cases s with
  | true =>
    refine walk (hQ := ?_)
    exact hR _ (ret1 (hp := rfl))
  | false =>
    by_cases h1 : m = 0
    · simp only [h1, decide_true] at hz hR
      simp only [h1]
      refine walk (hQ := ?_)
      refine R_call hz (hK := ?_)
      refine walk (hQ := ?_)
      exact hR _ (ret1 (hp := rfl))
    · simp only [h1, decide_false] at hz hR
      refine walk (hQ := ?_)
      refine R_call hz (hK := ?_)
      refine walk (hQ := ?_)
      exact hR _ (ret1 (hp := rfl))
theorem g_SubN (s : Bool) (m n : Nat) (t : Bool) (p q : Nat) (hf : VF (s, digs m, digs n)) (hg : VF (t, digs p, digs q)) : Spc X 39 [ft (s, digs m, digs n), ft (t, digs p, digs q)] (fr (addF (s, digs m, digs n) (!t && !decide (p = 0), digs p, digs q))) := by
  refine Spc.start Tryz.func39 rfl (h := fun hs R hR => ?_)
  unfold Tryz.f39
  simp only [entryE, PA.av, List.map_cons, List.map_nil]
  have hA := g_Add (s, digs m, digs n) (!t && !decide (p = 0), digs p, digs q)
  have hz := g_zero (digs p)
  rw [digs_empty] at hz
  refine walk (hQ := ?_)
  refine R_call (g_ValidT hf) (hK := ?_)
  refine walk (hQ := ?_)
  refine R_call (g_ValidT hg) (hK := ?_)
  refine walk (hQ := ?_)
  refine R_call (g_opposite t p (digs q)) (hK := ?_)
  refine walk (hQ := ?_)
  by_cases h1 : p = 0
  · simp only [h1, decide_true, Bool.not_true, Bool.and_false] at hz hR hA
    simp only [h1]
    refine R_call hz (hK := ?_)
    refine walk (hQ := ?_)
    refine R_call hA (hK := ?_)
    refine walk (hQ := ?_)
    exact hR _ (ret2 (hp := rfl))
  · simp only [h1, decide_false] at hz
    refine R_call hz (hK := ?_)
    refine walk (hQ := ?_)
    refine R_call hA (hK := ?_)
    refine walk (hQ := ?_)
    exact hR _ (ret2 (hp := rfl))
theorem g_Sub (f g : FrN) : Spc X 39 [ft f, ft g] (fr (subF f g)) := by
  unfold subF
  by_cases hv : validF f = true
  · by_cases hw : validF g = true
    · rw [if_pos ⟨hv, hw⟩]
      have hf := validF_VF hv
      have hg := validF_VF hw
      have h1 := g_SubN f.1 (nm f) (dn f) g.1 (nm g) (dn g) (by rw [← hf.eta]; exact hf) (by rw [← hg.eta]; exact hg)
      rw [← hf.eta, ← hg.eta, ← oppF_N hg] at h1
      exact h1
    · rw [if_neg (fun h => hw h.2)]
      refine Spc.start Tryz.func39 rfl (h := fun hs R hR => ?_)
      unfold Tryz.f39
      simp only [entryE, PA.av, List.map_cons, List.map_nil]
      refine walk (hQ := ?_)
      refine R_call (g_ValidT (validF_VF hv)) (hK := ?_)
      refine walk (hQ := ?_)
      refine R_call (g_ValidF (Bool.eq_false_iff.2 hw)) (hK := ?_)
      refine walk (hQ := ?_)
      exact hR _ (ret2 (hp := rfl))
  · rw [if_neg (fun h => hv h.1)]
    refine Spc.start Tryz.func39 rfl (h := fun hs R hR => ?_)
    unfold Tryz.f39
    simp only [entryE, PA.av, List.map_cons, List.map_nil]
    refine walk (hQ := ?_)
    refine R_call (g_ValidF (Bool.eq_false_iff.2 hv)) (hK := ?_)
    refine walk (hQ := ?_)
    exact hR _ (ret2 (hp := rfl))
theorem g_MulN (s : Bool) (m n : Nat) (t : Bool) (p q : Nat) (hf : VF (s, digs m, digs n)) (hg : VF (t, digs p, digs q)) : Spc X 41 [ft (s, digs m, digs n), ft (t, digs p, digs q)] (fr (mulN s m n t p q)) := by
  refine Spc.start Tryz.func41 rfl (h := fun hs R hR => ?_)
  unfold Tryz.f41
  simp only [entryE, PA.av, List.map_cons, List.map_nil]
  unfold mulN at hR
  have la := hf.ln
  have lb := hf.ld
  have lc := hg.ln
  have ld := hg.ld
  have pb := hf.pos
  have pd := hg.pos
  rw [nm_mk] at la lc
  rw [dn_mk] at lb ld pb pd
  have pn : 0 < n * q := Nat.mul_pos pb pd
  refine walk (hQ := ?_)
  refine R_call (g_ValidT hf) (hK := ?_)
  refine walk (hQ := ?_)
  refine R_call (g_ValidT hg) (hK := ?_)
  have hp := g_products (digs m) (digs p) (digs n) (digs q)
  refine walk (hQ := ?_)
  by_cases h1 : fits (m * p) = true ∧ fits (n * q) = true
  · rw [prodP_ok la lc lb ld h1.1 h1.2] at hp
    rw [if_pos h1] at hR
    refine R_call hp (hK := ?_)
    refine walk (hQ := ?_)
    have hb : (decide ¬ s = t) = (s != t) := by cases s <;> cases t <;> rfl
    have hred := g_lowest (decide ¬ s = t) _ _ pn (fits_le h1.1) (fits_le h1.2)
    rw [← hb] at hR
    refine R_call hred (hK := ?_)
    refine walk (hQ := ?_)
    exact hR _ (ret2 (hp := rfl))
  · obtain ⟨x, y, e⟩ := prodP_bad la lc lb ld h1
    rw [e] at hp
    rw [if_neg h1] at hR
    refine R_call hp (hK := ?_)
    refine walk (hQ := ?_)
    exact hR _ (ret2 (hp := rfl))
theorem g_Mul (f g : FrN) : Spc X 41 [ft f, ft g] (fr (mulF f g)) := by
  unfold mulF
  by_cases hv : validF f = true
  · by_cases hw : validF g = true
    · rw [if_pos ⟨hv, hw⟩]
      have hf := validF_VF hv
      have hg := validF_VF hw
      have h1 := g_MulN f.1 (nm f) (dn f) g.1 (nm g) (dn g) (by rw [← hf.eta]; exact hf) (by rw [← hg.eta]; exact hg)
      rw [← hf.eta, ← hg.eta] at h1
      exact h1
    · rw [if_neg (fun h => hw h.2)]
      refine Spc.start Tryz.func41 rfl (h := fun hs R hR => ?_)
      unfold Tryz.f41
      simp only [entryE, PA.av, List.map_cons, List.map_nil]
      refine walk (hQ := ?_)
      refine R_call (g_ValidT (validF_VF hv)) (hK := ?_)
      refine walk (hQ := ?_)
      refine R_call (g_ValidF (Bool.eq_false_iff.2 hw)) (hK := ?_)
      refine walk (hQ := ?_)
      exact hR _ (ret2 (hp := rfl))
  · rw [if_neg (fun h => hv h.1)]
    refine Spc.start Tryz.func41 rfl (h := fun hs R hR => ?_)
    unfold Tryz.f41
    simp only [entryE, PA.av, List.map_cons, List.map_nil]
    refine walk (hQ := ?_)
    refine R_call (g_ValidF (Bool.eq_false_iff.2 hv)) (hK := ?_)
    refine walk (hQ := ?_)
    exact hR _ (ret2 (hp := rfl))
theorem g_DivN (s : Bool) (m n : Nat) (t : Bool) (p q : Nat) (hf : VF (s, digs m, digs n)) (hg : VF (t, digs p, digs q)) : Spc X 43 [ft (s, digs m, digs n), ft (t, digs p, digs q)] (fr (if (digs p).isEmpty = true then (zF, 6) else mulN s m n t q p)) := by
  refine Spc.start Tryz.func43 rfl (h := fun hs R hR => ?_)
  unfold Tryz.f43
  simp only [entryE, PA.av, List.map_cons, List.map_nil]
  unfold mulN at hR
  have la := hf.ln
  have lb := hf.ld
  have lc := hg.ln
  have ld := hg.ld
  have pb := hf.pos
  have pd := hg.pos
  rw [nm_mk] at la lc
  rw [dn_mk] at lb ld pb pd
  have hz := g_zero (digs p)
  rw [digs_empty] at hz
  rw [digs_empty] at hR
  refine walk (hQ := ?_)
  refine R_call (g_ValidT hf) (hK := ?_)
  refine walk (hQ := ?_)
  refine R_call (g_ValidT hg) (hK := ?_)
  refine walk (hQ := ?_)
  by_cases h0 : p = 0
  · simp only [h0, decide_true, if_true] at hz hR
    simp only [h0]
    refine R_call hz (hK := ?_)
    refine walk (hQ := ?_)
    exact hR _ (ret2 (hp := rfl))
  · simp only [h0, decide_false, Bool.false_eq_true, if_false] at hz hR
    have pn : 0 < n * p := Nat.mul_pos pb (by omega)
    refine R_call hz (hK := ?_)
    have hp := g_products (digs m) (digs q) (digs n) (digs p)
    refine walk (hQ := ?_)
    by_cases h1 : fits (m * q) = true ∧ fits (n * p) = true
    · rw [prodP_ok la ld lb lc h1.1 h1.2] at hp
      rw [if_pos h1] at hR
      refine R_call hp (hK := ?_)
      refine walk (hQ := ?_)
      have hb : (decide ¬ s = t) = (s != t) := by cases s <;> cases t <;> rfl
      have hred := g_lowest (decide ¬ s = t) _ _ pn (fits_le h1.1) (fits_le h1.2)
      rw [← hb] at hR
      refine R_call hred (hK := ?_)
      refine walk (hQ := ?_)
      exact hR _ (ret2 (hp := rfl))
    · obtain ⟨x, y, e⟩ := prodP_bad la ld lb lc h1
      rw [e] at hp
      rw [if_neg h1] at hR
      refine R_call hp (hK := ?_)
      refine walk (hQ := ?_)
      exact hR _ (ret2 (hp := rfl))
theorem g_Div (f g : FrN) : Spc X 43 [ft f, ft g] (fr (divF f g)) := by
  unfold divF
  by_cases hv : validF f = true
  · by_cases hw : validF g = true
    · rw [if_pos ⟨hv, hw⟩]
      have hf := validF_VF hv
      have hg := validF_VF hw
      have h1 := g_DivN f.1 (nm f) (dn f) g.1 (nm g) (dn g) (by rw [← hf.eta]; exact hf) (by rw [← hg.eta]; exact hg)
      rw [← hf.eta, ← hg.eta, ← hg.num] at h1
      exact h1
    · rw [if_neg (fun h => hw h.2)]
      refine Spc.start Tryz.func43 rfl (h := fun hs R hR => ?_)
      unfold Tryz.f43
      simp only [entryE, PA.av, List.map_cons, List.map_nil]
      refine walk (hQ := ?_)
      refine R_call (g_ValidT (validF_VF hv)) (hK := ?_)
      refine walk (hQ := ?_)
      refine R_call (g_ValidF (Bool.eq_false_iff.2 hw)) (hK := ?_)
      refine walk (hQ := ?_)
      exact hR _ (ret2 (hp := rfl))
  · rw [if_neg (fun h => hv h.1)]
    refine Spc.start Tryz.func43 rfl (h := fun hs R hR => ?_)
    unfold Tryz.f43
    simp only [entryE, PA.av, List.map_cons, List.map_nil]
    refine walk (hQ := ?_)
    refine R_call (g_ValidF (Bool.eq_false_iff.2 hv)) (hK := ?_)
    refine walk (hQ := ?_)
    exact hR _ (ret2 (hp := rfl))
end Go.VS.YtiaijoomngefnaaGreatDoor


namespace Go.VS.YtiaijoomngefnaaGreatDoor
open Go Go.VL Go.VN Go.RowKit Go.Proofs
set_option maxRecDepth 100000
set_option linter.unusedVariables false

theorem f_New (a b : List Int) : Spc X 26 [nt a, nt b] (fr (newF a b)) := by
  refine Spc.start Tryz.func26 rfl (h := fun hs R hR => ?_)
  unfold Tryz.f26
  simp only [entryE, PA.av, List.map_cons, List.map_nil]
  unfold newF at hR
  have va := s_Valid a
  have vb := s_Valid b
  have zb := f_zero b
  refine walk (hQ := ?_)
  cases ha : validB a with
  | false =>
    rw [ha] at va
    rw [ha, if_neg (by simp)] at hR
    refine R_call va (hK := ?_)
    refine walk (hQ := ?_)
    exact hR _ (ret2 (hp := rfl))
  | true =>
  rw [ha] at va
  refine R_call va (hK := ?_)
  refine walk (hQ := ?_)
  cases hb : validB b with
  | false =>
    rw [hb] at vb
    rw [hb, if_neg (by simp)] at hR
    refine R_call vb (hK := ?_)
    refine walk (hQ := ?_)
    exact hR _ (ret2 (hp := rfl))
  | true =>
  rw [hb] at vb
  rw [if_pos ⟨ha, hb⟩] at hR
  refine R_call vb (hK := ?_)
  refine walk (hQ := ?_)
  cases hc : b.isEmpty with
  | true =>
    rw [hc] at zb
    rw [hc, if_pos rfl] at hR
    refine R_call zb (hK := ?_)
    refine walk (hQ := ?_)
    exact hR _ (ret2 (hp := rfl))
  | false =>
    rw [hc] at zb
    rw [hc, if_neg (by simp)] at hR
    obtain ⟨ea, la, da⟩ := valid_digs ha
    obtain ⟨eb, lb, db⟩ := valid_digs hb
    generalize (val a).toNat = m at *
    generalize (val b).toNat = n at *
    subst ea eb
    rw [digs_empty] at hc
    have hn : 0 < n := Nat.pos_of_ne_zero (by simpa using hc)
    refine R_call zb (hK := ?_)
    refine walk (hQ := ?_)
    refine R_call (f_reduce false m n hn la lb) (hK := ?_)
    refine walk (hQ := ?_)
    exact hR _ (ret2 (hp := rfl))
theorem g_New (a b : List Int) : Spc X 27 [nt a, nt b] (fr (newF a b)) := by
  refine Spc.start Tryz.func27 rfl (h := fun hs R hR => ?_)
  unfold Tryz.f27
  simp only [entryE, PA.av, List.map_cons, List.map_nil]
  unfold newF at hR
  have va := r_Valid a
  have vb := r_Valid b
  have zb := g_zero b
  refine walk (hQ := ?_)
  cases ha : validB a with
  | false =>
    rw [ha] at va
    rw [ha, if_neg (by simp)] at hR
    refine R_call va (hK := ?_)
    refine walk (hQ := ?_)
    exact hR _ (ret2 (hp := rfl))
  | true =>
  rw [ha] at va
  refine R_call va (hK := ?_)
  refine walk (hQ := ?_)
  cases hb : validB b with
  | false =>
    rw [hb] at vb
    rw [hb, if_neg (by simp)] at hR
    refine R_call vb (hK := ?_)
    refine walk (hQ := ?_)
    exact hR _ (ret2 (hp := rfl))
  | true =>
  rw [hb] at vb
  rw [if_pos ⟨ha, hb⟩] at hR
  refine R_call vb (hK := ?_)
  refine walk (hQ := ?_)
  cases hc : b.isEmpty with
  | true =>
    rw [hc] at zb
    rw [hc, if_pos rfl] at hR
    refine R_call zb (hK := ?_)
    refine walk (hQ := ?_)
    exact hR _ (ret2 (hp := rfl))
  | false =>
    rw [hc] at zb
    rw [hc, if_neg (by simp)] at hR
    obtain ⟨ea, la, da⟩ := valid_digs ha
    obtain ⟨eb, lb, db⟩ := valid_digs hb
    generalize (val a).toNat = m at *
    generalize (val b).toNat = n at *
    subst ea eb
    rw [digs_empty] at hc
    have hn : 0 < n := Nat.pos_of_ne_zero (by simpa using hc)
    refine R_call zb (hK := ?_)
    refine walk (hQ := ?_)
    refine R_call (g_lowest false m n hn la lb) (hK := ?_)
    refine walk (hQ := ?_)
    exact hR _ (ret2 (hp := rfl))
theorem of_num (m : Nat) (h : m ≤ 1000000000000000) : (digs m).length ≤ 200 := by
  have := digs_len m (by omega)
  omega
theorem bne_dec (p q : Prop) [Decidable p] [Decidable q] : (decide ¬ (decide p = decide q)) = (decide p != decide q) := by
  by_cases hp : p <;> by_cases hq : q <;> simp [hp, hq]
theorem f_Of (a b : Int) : Spc X 24 [.one (.int .i64 a), .one (.int .i64 b)] (fr (ofF a b)) := by
  refine Spc.start Tryz.func24 rfl (h := fun hs R hR => ?_)
  unfold Tryz.f24
  simp only [entryE, PA.av, List.map_cons, List.map_nil]
  have sa := sane_i64 hs.1
  have sb := sane_i64 hs.2.1
  unfold ofF at hR
  refine walk (hQ := ?_)
  refine W_if (ht := fun h0 => ?_) (hf := fun h0 => ?_)
  · rw [if_pos h0] at hR
    refine walk (hQ := ?_)
    exact hR _ (ret2 (hp := rfl))
  rw [if_neg h0] at hR
  refine walk (hQ := ?_)
  refine R_g_if (h1 := fun h1 => ?_) (h2 := fun h1 => ?_)
  case refine_2 =>
    simp only [Bool.false_eq_true, if_false, Decidable.not_not] at h1
    rw [if_pos (by omega)] at hR
    refine walk (hQ := ?_)
    exact hR _ (ret2 (hp := rfl))
  simp only [Bool.false_eq_true, if_false] at h1
  refine walk (hQ := ?_)
  refine W_if (ht := fun h2 => ?_) (hf := fun h2 => ?_)
  · rw [if_pos (by omega)] at hR
    refine walk (hQ := ?_)
    exact hR _ (ret2 (hp := rfl))
  rw [if_neg (by omega)] at hR
  refine walk (hQ := ?_)
  have e1 : max a (-a) = (a.natAbs : Int) := by omega
  have e2 : max b (-b) = (b.natAbs : Int) := by omega
  rw [e1]
  refine R_call (f_number a.natAbs (by omega)) (hK := ?_)
  refine walk (hQ := ?_)
  rw [e2]
  refine R_call (f_number b.natAbs (by omega)) (hK := ?_)
  refine walk (hQ := ?_)
  rw [← bne_dec] at hR
  refine R_call (f_reduce _ a.natAbs b.natAbs (by omega) (of_num _ (by omega)) (of_num _ (by omega))) (hK := ?_)
  refine walk (hQ := ?_)
  exact hR _ (ret2 (hp := rfl))
theorem g_Of (a b : Int) : Spc X 25 [.one (.int .i64 a), .one (.int .i64 b)] (fr (ofF a b)) := by
  refine Spc.start Tryz.func25 rfl (h := fun hs R hR => ?_)
  unfold Tryz.f25
  simp only [entryE, PA.av, List.map_cons, List.map_nil]
  have sa := sane_i64 hs.1
  have sb := sane_i64 hs.2.1
  unfold ofF at hR
  refine walk (hQ := ?_)
  refine W_if (ht := fun h0 => ?_) (hf := fun h0 => ?_)
  · rw [if_pos h0] at hR
    refine walk (hQ := ?_)
    exact hR _ (ret2 (hp := rfl))
  rw [if_neg h0] at hR
  refine walk (hQ := ?_)
  refine R_g_if (h1 := fun h1 => ?_) (h2 := fun h1 => ?_)
  case refine_2 =>
    simp only [Bool.false_eq_true, if_false, Decidable.not_not] at h1
    rw [if_pos (by omega)] at hR
    refine walk (hQ := ?_)
    exact hR _ (ret2 (hp := rfl))
  simp only [Bool.false_eq_true, if_false] at h1
  refine walk (hQ := ?_)
  refine R_g_if (h1 := fun h2 => ?_) (h2 := fun h2 => ?_)
  case refine_2 =>
    simp only [Bool.false_eq_true, if_false, Decidable.not_not] at h2
    rw [if_pos (by omega)] at hR
    refine walk (hQ := ?_)
    exact hR _ (ret2 (hp := rfl))
  simp only [Bool.false_eq_true, if_false] at h2
  refine walk (hQ := ?_)
  refine R_g_if (h1 := fun h3 => ?_) (h2 := fun h3 => ?_)
  case refine_2 =>
    simp only [Bool.false_eq_true, if_false, Decidable.not_not] at h3
    rw [if_pos (by omega)] at hR
    refine walk (hQ := ?_)
    exact hR _ (ret2 (hp := rfl))
  simp only [Bool.false_eq_true, if_false] at h3
  refine walk (hQ := ?_)
  refine W_if (ht := fun h4 => ?_) (hf := fun h4 => ?_)
  · rw [if_pos (by omega)] at hR
    refine walk (hQ := ?_)
    exact hR _ (ret2 (hp := rfl))
  rw [if_neg (by omega)] at hR
  rw [← bne_dec] at hR
  have gl := g_lowest (decide ¬ (decide (a < 0) = decide (b < 0))) a.natAbs b.natAbs (by omega) (of_num _ (by omega)) (of_num _ (by omega))
  have sm1 := r_Small a.natAbs
  have sm2 := r_Small b.natAbs
  refine walk (hQ := ?_)
  refine W_if (ht := fun h5 => ?_) (hf := fun h5 => ?_)
  · have e1 : (0 : Int) - a = (a.natAbs : Int) := by omega
    refine walk (hQ := ?_)
    refine W_if (ht := fun h6 => ?_) (hf := fun h6 => ?_)
    · have e2 : (0 : Int) - b = (b.natAbs : Int) := by omega
      refine walk (hQ := ?_)
      rw [e1]
      refine R_call sm1 (hK := ?_)
      refine walk (hQ := ?_)
      rw [e2]
      refine R_call sm2 (hK := ?_)
      refine walk (hQ := ?_)
      refine R_call gl (hK := ?_)
      refine walk (hQ := ?_)
      exact hR _ (ret2 (hp := rfl))
    · have e2 : b = (b.natAbs : Int) := by omega
      refine walk (hQ := ?_)
      rw [e1]
      refine R_call sm1 (hK := ?_)
      refine walk (hQ := ?_)
      rw [← e2] at sm2
      refine R_call sm2 (hK := ?_)
      refine walk (hQ := ?_)
      refine R_call gl (hK := ?_)
      refine walk (hQ := ?_)
      exact hR _ (ret2 (hp := rfl))
  · have e1 : a = (a.natAbs : Int) := by omega
    refine walk (hQ := ?_)
    refine W_if (ht := fun h6 => ?_) (hf := fun h6 => ?_)
    · have e2 : (0 : Int) - b = (b.natAbs : Int) := by omega
      rw [← e1] at sm1
      refine walk (hQ := ?_)
      refine R_call sm1 (hK := ?_)
      refine walk (hQ := ?_)
      rw [e2]
      refine R_call sm2 (hK := ?_)
      refine walk (hQ := ?_)
      refine R_call gl (hK := ?_)
      refine walk (hQ := ?_)
      exact hR _ (ret2 (hp := rfl))
    · have e2 : b = (b.natAbs : Int) := by omega
      rw [← e1] at sm1
      rw [← e2] at sm2
      refine walk (hQ := ?_)
      refine R_call sm1 (hK := ?_)
      refine walk (hQ := ?_)
      refine R_call sm2 (hK := ?_)
      refine walk (hQ := ?_)
      refine R_call gl (hK := ?_)
      refine walk (hQ := ?_)
      exact hR _ (ret2 (hp := rfl))
theorem g_Same (f g : FrN) : Spc X 19 [ft f, ft g] (.one (.bool (decide (f = g)))) := by
  obtain ⟨s, a, b⟩ := f
  obtain ⟨t, c, d⟩ := g
  refine Spc.start Tryz.func19 rfl (h := fun hs R hR => ?_)
  unfold Tryz.f19
  simp only [entryE, PA.av, List.map_cons, List.map_nil]
  have key : decide ((s, a, b) = (t, c, d)) = (decide (s = t) && (decide (a = c) && decide (b = d))) := by
    rw [Bool.eq_iff_iff]
    simp
  rw [key] at hR
  have h1 := r_Same a c
  have h2 := r_Same b d
  by_cases e1 : s = t
  · subst e1
    by_cases e2 : a = c
    · subst e2
      simp only [decide_true, Bool.true_and] at h1 hR
      by_cases e3 : b = d
      · subst e3
        simp only [decide_true] at h2 hR
        cases s
        all_goals
          refine walk (hQ := ?_)
          refine R_call h1 (hK := ?_)
          refine walk (hQ := ?_)
          refine R_call h2 (hK := ?_)
          refine walk (hQ := ?_)
          exact hR _ (ret1 (hp := rfl))
      · simp only [e3, decide_false] at h2 hR
        cases s
        all_goals
          refine walk (hQ := ?_)
          refine R_call h1 (hK := ?_)
          refine walk (hQ := ?_)
          refine R_call h2 (hK := ?_)
          refine walk (hQ := ?_)
          exact hR _ (ret1 (hp := rfl))
    · simp only [e2, decide_true, decide_false, Bool.true_and, Bool.false_and] at h1 hR
      cases s
      all_goals
        refine walk (hQ := ?_)
        refine R_call h1 (hK := ?_)
        refine walk (hQ := ?_)
        exact hR _ (ret1 (hp := rfl))
  · simp only [e1, decide_false, Bool.false_and] at hR
    cases s <;> cases t
    all_goals
      first
      | exact absurd rfl e1
      | (refine walk (hQ := ?_)
         exact hR _ (ret1 (hp := rfl)))
theorem g_Few (l : List FrN) (most : Int) (hl : l.length ≤ 1000000) (hb : ∀ f ∈ l, f.2.1.length ≤ 1000000000000000 ∧ f.2.2.length ≤ 1000000000000000) : Spc X 13 [.one (slc eF l), .one (.int .i64 most)] (.one (.bool (l.all fun f => decide ((f.2.1.length : Int) + f.2.2.length ≤ most)))) := by
  refine Spc.start Tryz.func13 rfl (h := fun hs R hR => ?_)
  unfold Tryz.f13
  simp only [entryE, PA.av, List.map_cons, List.map_nil]
  refine walk (hQ := ?_)
  refine Lp.intro (fun (i : Nat) => ⟨[(0, vP (slc eF l)), (1, vP (.int .i64 most)), (5, vI i)], [], 0⟩) (fun i => i ≤ l.length ∧ ((l.take i).all fun f => decide ((f.2.1.length : Int) + f.2.2.length ≤ most)) = true) (fun i => l.length - i) 0 ⟨Nat.zero_le _, by simp⟩ (h0 := le_auto) (hr := fun i K ⟨hi, ho⟩ hK => ?_)
  refine walk (hQ := ?_)
  refine W_if (ht := fun h1 => ?_) (hf := fun h1 => ?_)
  · have hil : i < l.length := by omega
    have e0 : l.getD i default = l[i] := by rw [List.getD_eq_getElem?_getD, List.getElem?_eq_getElem hil]; rfl
    have hbi := hb _ (List.getElem_mem hil)
    rw [← e0] at hbi
    have hf := r_Few2 (l.getD i default).2.1 (l.getD i default).2.2 most hbi.1 hbi.2
    refine walk (hQ := ?_)
    refine R_bsl eN (l := [(l.getD i default).2.1, (l.getD i default).2.2]) (hK := ?_)
    refine walk (hQ := ?_)
    have key : (l.getD i default ∈ l) := by rw [e0]; exact List.getElem_mem hil
    by_cases h2 : ((l.getD i default).2.1.length : Int) + (l.getD i default).2.2.length ≤ most
    · simp only [h2, decide_true] at hf
      refine R_callP (ids' := []) hf (hK := ?_)
      refine walk (hQ := ?_)
      refine hK _ (i + 1) ⟨by omega, ?_⟩ (by omega) le_auto
      rw [List.take_succ_eq_append_getElem hil, List.all_append, ho, ← e0]
      simp only [List.all_cons, List.all_nil, h2, decide_true]
      rfl
    · simp only [h2, decide_false] at hf
      have hno : (l.all fun f => decide ((f.2.1.length : Int) + f.2.2.length ≤ most)) = false := by
        rw [List.all_eq_false]
        exact ⟨_, key, by rw [decide_eq_true_eq]; exact h2⟩
      rw [hno] at hR
      refine R_callP (ids' := []) hf (hK := ?_)
      refine walk (hQ := ?_)
      exact hR _ (ret1 (hp := rfl))
  · obtain rfl : i = l.length := by omega
    rw [List.take_length] at ho
    rw [ho] at hR
    refine walk (hQ := ?_)
    exact hR _ (ret1 (hp := rfl))
theorem g_Made (a b : Int) : Spc X 32 [.one (.int .i16 a), .one (.int .u8 b)] (ft (ofF a (1 + b)).1) := by
  refine Spc.start Tryz.func32 rfl (h := fun hs R hR => ?_)
  unfold Tryz.f32
  simp only [entryE, PA.av, List.map_cons, List.map_nil]
  have ho := g_Of a (1 + b)
  have sa : -32768 ≤ a ∧ a ≤ 32767 := by
    have h : (PV.int .i16 a).sane := hs.1
    unfold PV.sane at h
    exact h
  have sb : 0 ≤ b ∧ b ≤ 255 := by
    have h : (PV.int .u8 b).sane := hs.2.1
    unfold PV.sane at h
    exact h
  refine walk (hQ := ?_)
  refine R_call ho (hK := ?_)
  refine walk (hQ := ?_)
  exact hR _ (ret1 (hp := rfl))
theorem g_Zero : Spc X 31 [] (ft (false, [], digs 1)) := by
  refine Spc.start Tryz.func31 rfl (h := fun hs R hR => ?_)
  unfold Tryz.f31
  simp only [entryE, PA.av, List.map_cons, List.map_nil]
  refine walk (hQ := ?_)
  refine R_call (r_Small 1) (hK := ?_)
  refine walk (hQ := ?_)
  exact hR _ (ret1 (hp := rfl))
end Go.VS.YtiaijoomngefnaaGreatDoor


namespace Go.VS.YtiaijoomngefnaaGreatDoor
open Go Go.VL Go.VN Go.RowKit Go.Proofs
set_option maxRecDepth 100000
set_option linter.unusedVariables false

theorem fmt_len {a : List Int} (h : validB a = true) : (fmtL a).length ≤ 801 := by
  have := (fmtL_dec h).2.2
  have := (validB_parts h).1
  omega
theorem fmtR_ok {a : List Int} (h : validB a = true) : fmtR a = (fmtL a, 0) := by unfold fmtR; rw [if_pos h]
theorem digs1 : digs 1 = [1] := by rw [digs_pos 1 (by decide)]; rw [show (1 : Nat) / 10000 = 0 from rfl, digs_zero]; rfl
theorem validF_parts {f : FrN} (h : validF f = true) : validB f.2.1 = true ∧ validB f.2.2 = true := by
  unfold validF at h
  simp only [Bool.and_eq_true] at h
  exact ⟨h.1.1.1.1, h.1.1.1.2⟩
theorem f_Format (f : FrN) : Spc X 14 [ft f] (sr (fmtF f)) := by
  obtain ⟨s, a, b⟩ := f
  refine Spc.start Tryz.func14 rfl (h := fun hs R hR => ?_)
  unfold Tryz.f14
  simp only [entryE, PA.av, List.map_cons, List.map_nil]
  unfold fmtF at hR
  refine walk (hQ := ?_)
  cases hv : validF (s, a, b) with
  | false =>
    rw [hv, if_neg (by simp)] at hR
    refine R_call (f_ValidF hv) (hK := ?_)
    refine walk (hQ := ?_)
    exact hR _ (ret2 (hp := rfl))
  | true =>
  rw [hv, if_pos rfl] at hR
  obtain ⟨ha, hb⟩ := validF_parts hv
  simp only at ha hb
  have f1 := s_Format a
  have f2 := s_Format b
  rw [fmtR_ok ha] at f1
  rw [fmtR_ok hb] at f2
  have l1 := fmt_len ha
  have l2 := fmt_len hb
  have h1 := fmt_one hb
  unfold fmtB at hR
  simp only at hR
  refine R_call (f_ValidT (validF_VF hv)) (hK := ?_)
  refine walk (hQ := ?_)
  refine R_call f1 (hK := ?_)
  cases s with
  | true =>
    refine walk (hQ := ?_)
    refine R_call f2 (hK := ?_)
    refine walk (hQ := ?_)
    refine W_if (ht := fun h3 => ?_) (hf := fun h3 => ?_)
    · rw [if_neg (fun e => h3 (h1.2 e))] at hR
      refine walk (hQ := ?_)
      exact hR _ (ret2 (hp := rfl))
    · rw [if_pos (h1.1 (Decidable.not_not.1 h3))] at hR
      refine walk (hQ := ?_)
      exact hR _ (ret2 (hp := by simp))
  | false =>
    refine walk (hQ := ?_)
    refine R_call f2 (hK := ?_)
    refine walk (hQ := ?_)
    refine W_if (ht := fun h3 => ?_) (hf := fun h3 => ?_)
    · rw [if_neg (fun e => h3 (h1.2 e))] at hR
      refine walk (hQ := ?_)
      exact hR _ (ret2 (hp := rfl))
    · rw [if_pos (h1.1 (Decidable.not_not.1 h3))] at hR
      refine walk (hQ := ?_)
      exact hR _ (ret2 (hp := by simp))
theorem g_Format (f : FrN) : Spc X 15 [ft f] (sr (fmtF f)) := by
  obtain ⟨s, a, b⟩ := f
  refine Spc.start Tryz.func15 rfl (h := fun hs R hR => ?_)
  unfold Tryz.f15
  simp only [entryE, PA.av, List.map_cons, List.map_nil]
  unfold fmtF at hR
  refine walk (hQ := ?_)
  cases hv : validF (s, a, b) with
  | false =>
    rw [hv, if_neg (by simp)] at hR
    refine R_call (g_ValidF hv) (hK := ?_)
    refine walk (hQ := ?_)
    exact hR _ (ret2 (hp := rfl))
  | true =>
  rw [hv, if_pos rfl] at hR
  obtain ⟨ha, hb⟩ := validF_parts hv
  simp only at ha hb
  have f1 := r_Format a
  have f2 := r_Format b
  rw [fmtR_ok ha] at f1
  rw [fmtR_ok hb] at f2
  have l1 := fmt_len ha
  have l2 := fmt_len hb
  have h1 := r_Same b (digs 1)
  rw [digs1] at h1
  have h0 := r_Small 1
  rw [digs1] at h0
  unfold fmtB at hR
  simp only at hR
  refine R_call (g_ValidT (validF_VF hv)) (hK := ?_)
  refine walk (hQ := ?_)
  refine R_call f1 (hK := ?_)
  by_cases h3 : b = [1]
  · simp only [h3, decide_true, if_true] at h1 hR
    simp only [h3]
    cases s
    all_goals
      refine walk (hQ := ?_)
      refine R_call h0 (hK := ?_)
      refine walk (hQ := ?_)
      refine R_call h1 (hK := ?_)
      refine walk (hQ := ?_)
      exact hR _ (ret2 (hp := by simp))
  · simp only [h3, decide_false, if_false] at h1 hR
    cases s
    all_goals
      refine walk (hQ := ?_)
      refine R_call h0 (hK := ?_)
      refine walk (hQ := ?_)
      refine R_call h1 (hK := ?_)
      refine walk (hQ := ?_)
      refine R_call f2 (hK := ?_)
      refine walk (hQ := ?_)
      exact hR _ (ret2 (hp := by simp))
theorem rest_eq (s : List UInt8) : (if s.take [(45 : UInt8)].length = [45] then s.drop [(45 : UInt8)].length else s) = restS s ∧ decide (s.take [(45 : UInt8)].length = [45]) = decide (s.head? = some 45) := by
  unfold restS
  cases s with
  | nil => exact ⟨rfl, rfl⟩
  | cons x l => simp
theorem rest_len (s : List UInt8) : (restS s).length ≤ s.length := by
  unfold restS
  split
  · rw [List.length_drop]; omega
  · exact Nat.le_refl _
theorem f_Parse (s : List UInt8) (hl : s.length ≤ 1000000) : Spc X 18 [.one (.str s)] (fr (parseF s)) := by
  refine Spc.start Tryz.func18 rfl (h := fun hs R hR => ?_)
  unfold Tryz.f18
  simp only [entryE, PA.av, List.map_cons, List.map_nil]
  have hc := s_CutPrefix s [45]
  obtain ⟨e1, e2⟩ := rest_eq s
  rw [e1, e2] at hc
  have hrl := rest_len s
  have hk := s_Cut1 (restS s) 47 (by omega)
  unfold parseF at hR
  have hden : (if 47 ∈ restS s then (restS s).drop ((cutL 47 (restS s)).length + 1) else []) = if 47 ∈ restS s then denS (restS s) else [] := by
    unfold denS
    by_cases h : 47 ∈ restS s
    · simp only [h, if_true]
    · simp only [h, if_false]
  rw [hden] at hk
  have p1 := s_Parse (cutL 47 (restS s))
  have p2 := s_Parse (denS (restS s))
  have hF := f_Format (outS s)
  have hout : outS s = (decide (s.head? = some 45), (parseL (cutL 47 (restS s))).1, (parseL (denS (restS s))).1) := rfl
  refine walk (hQ := ?_)
  refine R_call hc (hK := ?_)
  refine walk (hQ := ?_)
  refine R_call hk (hK := ?_)
  by_cases hm : 47 ∈ restS s
  case' pos =>
    simp only [hm, decide_true, if_true]
  case' neg =>
    simp only [hm, decide_false, if_false]
    have h49 : denS (restS s) = [49] := by unfold denS; rw [if_neg hm]
    rw [h49] at p2 hR
    rw [h49] at hout
    generalize parseL [49] = Q at *
  all_goals
    refine walk (hQ := ?_)
    refine R_call p1 (hK := ?_)
    refine walk (hQ := ?_)
    refine R_call p2 (hK := ?_)
    refine walk (hQ := ?_)
    rw [hout] at hR hF
    refine R_g_if (h1 := fun h1 => ?_) (h2 := fun h1 => ?_)
    · simp only [Bool.false_eq_true, if_false, Decidable.not_not] at h1
      refine walk (hQ := ?_)
      refine W_if (ht := fun h2 => ?_) (hf := fun h2 => ?_)
      · rw [if_pos (.inr h2)] at hR
        refine walk (hQ := ?_)
        exact hR _ (ret2 (hp := rfl))
      · rw [if_neg (fun h => h.elim (fun h => h h1) h2)] at hR
        refine walk (hQ := ?_)
        refine R_call hF (hK := ?_)
        refine walk (hQ := ?_)
        refine R_g_if (h1 := fun h3 => ?_) (h2 := fun h3 => ?_)
        · simp only [Bool.false_eq_true, if_false, Decidable.not_not] at h3
          refine walk (hQ := ?_)
          refine W_if (ht := fun h4 => ?_) (hf := fun h4 => ?_)
          · rw [if_pos (.inr h4)] at hR
            refine walk (hQ := ?_)
            exact hR _ (ret2 (hp := rfl))
          · rw [if_neg (fun h => h.elim (fun h => h h3) h4)] at hR
            refine walk (hQ := ?_)
            exact hR _ (ret2 (hp := rfl))
        · simp only [Bool.false_eq_true, if_false, Decidable.not_not] at h3
          rw [if_pos (.inl h3)] at hR
          refine walk (hQ := ?_)
          exact hR _ (ret2 (hp := rfl))
    · simp only [Bool.false_eq_true, if_false, Decidable.not_not] at h1
      rw [if_pos (.inl h1)] at hR
      refine walk (hQ := ?_)
      exact hR _ (ret2 (hp := rfl))
set_option maxHeartbeats 2000000 in
theorem g_Parse (s : List UInt8) (hl : s.length ≤ 1000000) : Spc X 20 [.one (.str s)] (fr (parseF s)) := by
  refine Spc.start Tryz.func20 rfl (h := fun hs R hR => ?_)
  unfold Tryz.f20
  simp only [entryE, PA.av, List.map_cons, List.map_nil]
  have hrl := rest_len s
  have hz := r_Small 1
  rw [digs1] at hz
  have h49 : 47 ∉ restS s → denS (restS s) = [49] := fun hm => by unfold denS; rw [if_neg hm]
  have hdn : ∀ i, (cutL 47 (restS s)).length = i → 47 ∈ restS s → denS (restS s) = (restS s).drop (i + 1) := fun i hi hm => by unfold denS; rw [if_pos hm, hi]
  have p1 := r_Parse (cutL 47 (restS s)) (by
    have := (indexByte_cut 47 (restS s))
    have h2 : (cutL 47 (restS s)).length ≤ (restS s).length := (List.takeWhile_sublist _).length_le
    omega)
  have p2 := r_Parse (denS (restS s)) (by
    unfold denS
    split
    · rw [List.length_drop]; omega
    · decide)
  have hF := g_Format (outS s)
  have hout : outS s = (decide (s.head? = some 45), (parseL (cutL 47 (restS s))).1, (parseL (denS (restS s))).1) := rfl
  unfold parseF at hR
  rw [hout] at hR hF
  refine walk (hQ := ?_)
  refine R_call hz (hK := ?_)
  refine walk (hQ := ?_)
  refine R_g_if (h1 := fun h0 => ?_) (h2 := fun h0 => ?_)
  case' refine_1 =>
    simp only [if_true] at h0
    have hne : s ≠ [] := h0
    have hpos : 0 < s.length := List.length_pos_iff.2 hne
    refine walk (hQ := ?_)
    refine W_if (ht := fun h1 => ?_) (hf := fun h1 => ?_)
  case' refine_1.refine_1 =>
    have hh : s.head? = some 45 := by
      match s, hne, h1 with
      | x :: l, _, h1 =>
        have h1' : ((x.toNat : Nat) : Int) = 45 := h1
        have : x = 45 := UInt8.toNat_inj.1 (by show x.toNat = 45; omega)
        rw [this]; rfl
    have hr : s.drop 1 = restS s := by unfold restS; rw [if_pos hh]
    have hb : decide (s.head? = some 45) = true := decide_eq_true hh
    refine walk (hQ := ?_)
    rw [show Int.toNat 1 = 1 from rfl, hr]
  case' refine_1.refine_2 =>
    have hh : ¬ s.head? = some 45 := fun e => h1 (by
      match s, e with
      | x :: l, e => simp at e; subst e; rfl)
    have hr : s = restS s := by unfold restS; rw [if_neg hh]
    have hb : decide (s.head? = some 45) = false := decide_eq_false hh
    refine walk (hQ := ?_)
  case' refine_2 =>
    have hh : ¬ s.head? = some 45 := fun e => by
      simp only [if_true, Decidable.not_not] at h0
      have h0' : s = [] := h0
      rw [h0'] at e; cases e
    have hr : s = restS s := by unfold restS; rw [if_neg hh]
    have hb : decide (s.head? = some 45) = false := decide_eq_false hh
    refine walk (hQ := ?_)
  case refine_1.refine_1 =>
    rw [hb] at hF hR
    clear hb hout h0 hh
    generalize restS s = t at *
    refine Lp.intro (fun (i : Nat) => ⟨[(0, vS s), (2, .one (.ptr 0 0)), (4, vS t), (5, .one (.ptr 1 0)), (6, vI i)], [(0, (.mx [.pv (.bool false), .pv .nil, .pv .nil], false)), (1, (.mx [.pv (.bool true), .pv .nil, .pv (slc eI [1])], false))], 2⟩) (fun i => i ≤ t.length ∧ 47 ∉ t.take i) (fun i => t.length - i) 0 ⟨Nat.zero_le _, by simp⟩ (h0 := le_auto) (hr := fun i K ⟨hi, hn⟩ hK => ?_)
    have key := t.getD i 0
    refine walk (hQ := ?_)
    refine R_g_if (h1 := fun h2 => ?_) (h2 := fun h2 => ?_)
    · simp only [if_true] at h2
      have hil : i < t.length := by omega
      have hsi : t.getD i 0 = t[i] := by simp [List.getD_eq_getElem?_getD, hil]
      refine walk (hQ := ?_)
      refine W_if (ht := fun h3 => ?_) (hf := fun h3 => ?_)
      · refine walk (hQ := ?_)
        refine hK _ (i + 1) ⟨by omega, ?_⟩ (by omega) le_auto
        rw [List.take_succ_eq_append_getElem hil]
        intro hm
        rcases List.mem_append.1 hm with h | h
        · exact hn h
        · exact h3 (by have e := List.mem_singleton.1 h; rw [hsi, ← e]; rfl)
      · have h47 : t[i]? = some 47 := by
          rw [List.getElem?_eq_getElem hil, ← hsi]
          congr 1
          exact UInt8.toNat_inj.1 (by have h3' := Decidable.not_not.1 h3; show (t.getD i 0).toNat = 47; omega)
        obtain ⟨c1, c2, c3⟩ := cut_at hi hn (.inr h47)
        have hm := c3.2 hil
        have hd := hdn i c2 hm
        rw [hd] at p2 hR hF
        rw [← c1] at p1 hR hF
        refine walk (hQ := ?_)
        refine R_call p1 (hK := ?_)
        refine walk (hQ := ?_)
        refine R_g_if (h1 := fun h4 => ?_) (h2 := fun h4 => ?_)
        case refine_2 => simp only [if_true] at h4; omega
        refine walk (hQ := ?_)
        refine W_if (ht := fun h5 => ?_) (hf := fun h5 => ?_)
        · refine walk (hQ := ?_)
          refine R_call p2 (hK := ?_)
          refine walk (hQ := ?_)
          refine W_if (ht := fun h6 => ?_) (hf := fun h6 => ?_)
          · rw [if_pos (.inr h6)] at hR
            refine walk (hQ := ?_)
            exact hR _ (ret2 (hp := rfl))
          · rw [if_neg (fun h => h.elim (fun h => h h5) h6)] at hR
            refine walk (hQ := ?_)
            refine R_call hF (hK := ?_)
            refine walk (hQ := ?_)
            refine R_g_if (h1 := fun h7 => ?_) (h2 := fun h7 => ?_)
            · simp only [Bool.false_eq_true, if_false, Decidable.not_not] at h7
              refine walk (hQ := ?_)
              refine W_if (ht := fun h8 => ?_) (hf := fun h8 => ?_)
              · rw [if_pos (.inr h8)] at hR
                refine walk (hQ := ?_)
                exact hR _ (ret2 (hp := rfl))
              · rw [if_neg (fun h => h.elim (fun h => h h7) h8)] at hR
                refine walk (hQ := ?_)
                exact hR _ (ret2 (hp := rfl))
            · simp only [Bool.false_eq_true, if_false, Decidable.not_not] at h7
              rw [if_pos (.inl h7)] at hR
              refine walk (hQ := ?_)
              exact hR _ (ret2 (hp := rfl))
        · refine walk (hQ := ?_)
          refine W_if (ht := fun h6 => ?_) (hf := fun h6 => absurd (Decidable.not_not.1 h6) h5)
          rw [if_pos (.inl h6)] at hR
          refine walk (hQ := ?_)
          exact hR _ (ret2 (hp := rfl))
    · simp only [if_true] at h2
      obtain rfl : i = t.length := by omega
      obtain ⟨c1, c2, c3⟩ := cut_at hi hn (.inl rfl)
      have hm : 47 ∉ t := fun h => by have := c3.1 h; omega
      have hd := h49 hm
      rw [hd, parse_one] at p2
      rw [hd, parse_one] at hR hF
      rw [← c1] at p1 hR hF
      refine walk (hQ := ?_)
      refine R_call p1 (hK := ?_)
      refine walk (hQ := ?_)
      simp only [] at hF hR
      refine R_g_if (h1 := fun h4 => ?_) (h2 := fun h4 => ?_)
      case refine_1 => simp only [if_true] at h4; omega
      refine walk (hQ := ?_)
      refine W_if (ht := fun h6 => ?_) (hf := fun h6 => ?_)
      · rw [if_pos (.inl h6)] at hR
        refine walk (hQ := ?_)
        exact hR _ (ret2 (hp := rfl))
      · rw [if_neg (fun h => h.elim h6 (fun h => h rfl))] at hR
        refine walk (hQ := ?_)
        refine R_call hF (hK := ?_)
        refine walk (hQ := ?_)
        refine R_g_if (h1 := fun h7 => ?_) (h2 := fun h7 => ?_)
        · simp only [Bool.false_eq_true, if_false, Decidable.not_not] at h7
          refine walk (hQ := ?_)
          refine W_if (ht := fun h8 => ?_) (hf := fun h8 => ?_)
          · rw [if_pos (.inr h8)] at hR
            refine walk (hQ := ?_)
            exact hR _ (ret2 (hp := rfl))
          · rw [if_neg (fun h => h.elim (fun h => h h7) h8)] at hR
            refine walk (hQ := ?_)
            exact hR _ (ret2 (hp := rfl))
        · simp only [Bool.false_eq_true, if_false, Decidable.not_not] at h7
          rw [if_pos (.inl h7)] at hR
          refine walk (hQ := ?_)
          exact hR _ (ret2 (hp := rfl))
  case refine_1.refine_2 =>
    rw [hb] at hF hR
    clear hb hout h0 hh
    generalize restS s = t at *
    subst hr
    refine Lp.intro (fun (i : Nat) => ⟨[(0, vS s), (2, .one (.ptr 0 0)), (4, vS s), (5, .one (.ptr 1 0)), (6, vI i)], [(0, (.mx [.pv (.bool false), .pv .nil, .pv .nil], false)), (1, (.mx [.pv (.bool false), .pv .nil, .pv (slc eI [1])], false))], 2⟩) (fun i => i ≤ s.length ∧ 47 ∉ s.take i) (fun i => s.length - i) 0 ⟨Nat.zero_le _, by simp⟩ (h0 := le_auto) (hr := fun i K ⟨hi, hn⟩ hK => ?_)
    have key := s.getD i 0
    refine walk (hQ := ?_)
    refine R_g_if (h1 := fun h2 => ?_) (h2 := fun h2 => ?_)
    · simp only [if_true] at h2
      have hil : i < s.length := by omega
      have hsi : s.getD i 0 = s[i] := by simp [List.getD_eq_getElem?_getD, hil]
      refine walk (hQ := ?_)
      refine W_if (ht := fun h3 => ?_) (hf := fun h3 => ?_)
      · refine walk (hQ := ?_)
        refine hK _ (i + 1) ⟨by omega, ?_⟩ (by omega) le_auto
        rw [List.take_succ_eq_append_getElem hil]
        intro hm
        rcases List.mem_append.1 hm with h | h
        · exact hn h
        · exact h3 (by have e := List.mem_singleton.1 h; rw [hsi, ← e]; rfl)
      · have h47 : s[i]? = some 47 := by
          rw [List.getElem?_eq_getElem hil, ← hsi]
          congr 1
          exact UInt8.toNat_inj.1 (by have h3' := Decidable.not_not.1 h3; show (s.getD i 0).toNat = 47; omega)
        obtain ⟨c1, c2, c3⟩ := cut_at hi hn (.inr h47)
        have hm := c3.2 hil
        have hd := hdn i c2 hm
        rw [hd] at p2 hR hF
        rw [← c1] at p1 hR hF
        refine walk (hQ := ?_)
        refine R_call p1 (hK := ?_)
        refine walk (hQ := ?_)
        refine R_g_if (h1 := fun h4 => ?_) (h2 := fun h4 => ?_)
        case refine_2 => simp only [if_true] at h4; omega
        refine walk (hQ := ?_)
        refine W_if (ht := fun h5 => ?_) (hf := fun h5 => ?_)
        · refine walk (hQ := ?_)
          refine R_call p2 (hK := ?_)
          refine walk (hQ := ?_)
          refine W_if (ht := fun h6 => ?_) (hf := fun h6 => ?_)
          · rw [if_pos (.inr h6)] at hR
            refine walk (hQ := ?_)
            exact hR _ (ret2 (hp := rfl))
          · rw [if_neg (fun h => h.elim (fun h => h h5) h6)] at hR
            refine walk (hQ := ?_)
            refine R_call hF (hK := ?_)
            refine walk (hQ := ?_)
            refine R_g_if (h1 := fun h7 => ?_) (h2 := fun h7 => ?_)
            · simp only [Bool.false_eq_true, if_false, Decidable.not_not] at h7
              refine walk (hQ := ?_)
              refine W_if (ht := fun h8 => ?_) (hf := fun h8 => ?_)
              · rw [if_pos (.inr h8)] at hR
                refine walk (hQ := ?_)
                exact hR _ (ret2 (hp := rfl))
              · rw [if_neg (fun h => h.elim (fun h => h h7) h8)] at hR
                refine walk (hQ := ?_)
                exact hR _ (ret2 (hp := rfl))
            · simp only [Bool.false_eq_true, if_false, Decidable.not_not] at h7
              rw [if_pos (.inl h7)] at hR
              refine walk (hQ := ?_)
              exact hR _ (ret2 (hp := rfl))
        · refine walk (hQ := ?_)
          refine W_if (ht := fun h6 => ?_) (hf := fun h6 => absurd (Decidable.not_not.1 h6) h5)
          rw [if_pos (.inl h6)] at hR
          refine walk (hQ := ?_)
          exact hR _ (ret2 (hp := rfl))
    · simp only [if_true] at h2
      obtain rfl : i = s.length := by omega
      obtain ⟨c1, c2, c3⟩ := cut_at hi hn (.inl rfl)
      have hm : 47 ∉ s := fun h => by have := c3.1 h; omega
      have hd := h49 hm
      rw [hd, parse_one] at p2
      rw [hd, parse_one] at hR hF
      rw [← c1] at p1 hR hF
      refine walk (hQ := ?_)
      refine R_call p1 (hK := ?_)
      refine walk (hQ := ?_)
      simp only [] at hF hR
      refine R_g_if (h1 := fun h4 => ?_) (h2 := fun h4 => ?_)
      case refine_1 => simp only [if_true] at h4; omega
      refine walk (hQ := ?_)
      refine W_if (ht := fun h6 => ?_) (hf := fun h6 => ?_)
      · rw [if_pos (.inl h6)] at hR
        refine walk (hQ := ?_)
        exact hR _ (ret2 (hp := rfl))
      · rw [if_neg (fun h => h.elim h6 (fun h => h rfl))] at hR
        refine walk (hQ := ?_)
        refine R_call hF (hK := ?_)
        refine walk (hQ := ?_)
        refine R_g_if (h1 := fun h7 => ?_) (h2 := fun h7 => ?_)
        · simp only [Bool.false_eq_true, if_false, Decidable.not_not] at h7
          refine walk (hQ := ?_)
          refine W_if (ht := fun h8 => ?_) (hf := fun h8 => ?_)
          · rw [if_pos (.inr h8)] at hR
            refine walk (hQ := ?_)
            exact hR _ (ret2 (hp := rfl))
          · rw [if_neg (fun h => h.elim (fun h => h h7) h8)] at hR
            refine walk (hQ := ?_)
            exact hR _ (ret2 (hp := rfl))
        · simp only [Bool.false_eq_true, if_false, Decidable.not_not] at h7
          rw [if_pos (.inl h7)] at hR
          refine walk (hQ := ?_)
          exact hR _ (ret2 (hp := rfl))
  case refine_2 =>
    rw [hb] at hF hR
    clear hb hout h0 hh
    generalize restS s = t at *
    subst hr
    refine Lp.intro (fun (i : Nat) => ⟨[(0, vS s), (2, .one (.ptr 0 0)), (4, vS s), (5, .one (.ptr 1 0)), (6, vI i)], [(0, (.mx [.pv (.bool false), .pv .nil, .pv .nil], false)), (1, (.mx [.pv (.bool false), .pv .nil, .pv (slc eI [1])], false))], 2⟩) (fun i => i ≤ s.length ∧ 47 ∉ s.take i) (fun i => s.length - i) 0 ⟨Nat.zero_le _, by simp⟩ (h0 := le_auto) (hr := fun i K ⟨hi, hn⟩ hK => ?_)
    have key := s.getD i 0
    refine walk (hQ := ?_)
    refine R_g_if (h1 := fun h2 => ?_) (h2 := fun h2 => ?_)
    · simp only [if_true] at h2
      have hil : i < s.length := by omega
      have hsi : s.getD i 0 = s[i] := by simp [List.getD_eq_getElem?_getD, hil]
      refine walk (hQ := ?_)
      refine W_if (ht := fun h3 => ?_) (hf := fun h3 => ?_)
      · refine walk (hQ := ?_)
        refine hK _ (i + 1) ⟨by omega, ?_⟩ (by omega) le_auto
        rw [List.take_succ_eq_append_getElem hil]
        intro hm
        rcases List.mem_append.1 hm with h | h
        · exact hn h
        · exact h3 (by have e := List.mem_singleton.1 h; rw [hsi, ← e]; rfl)
      · have h47 : s[i]? = some 47 := by
          rw [List.getElem?_eq_getElem hil, ← hsi]
          congr 1
          exact UInt8.toNat_inj.1 (by have h3' := Decidable.not_not.1 h3; show (s.getD i 0).toNat = 47; omega)
        obtain ⟨c1, c2, c3⟩ := cut_at hi hn (.inr h47)
        have hm := c3.2 hil
        have hd := hdn i c2 hm
        rw [hd] at p2 hR hF
        rw [← c1] at p1 hR hF
        refine walk (hQ := ?_)
        refine R_call p1 (hK := ?_)
        refine walk (hQ := ?_)
        refine R_g_if (h1 := fun h4 => ?_) (h2 := fun h4 => ?_)
        case refine_2 => simp only [if_true] at h4; omega
        refine walk (hQ := ?_)
        refine W_if (ht := fun h5 => ?_) (hf := fun h5 => ?_)
        · refine walk (hQ := ?_)
          refine R_call p2 (hK := ?_)
          refine walk (hQ := ?_)
          refine W_if (ht := fun h6 => ?_) (hf := fun h6 => ?_)
          · rw [if_pos (.inr h6)] at hR
            refine walk (hQ := ?_)
            exact hR _ (ret2 (hp := rfl))
          · rw [if_neg (fun h => h.elim (fun h => h h5) h6)] at hR
            refine walk (hQ := ?_)
            refine R_call hF (hK := ?_)
            refine walk (hQ := ?_)
            refine R_g_if (h1 := fun h7 => ?_) (h2 := fun h7 => ?_)
            · simp only [Bool.false_eq_true, if_false, Decidable.not_not] at h7
              refine walk (hQ := ?_)
              refine W_if (ht := fun h8 => ?_) (hf := fun h8 => ?_)
              · rw [if_pos (.inr h8)] at hR
                refine walk (hQ := ?_)
                exact hR _ (ret2 (hp := rfl))
              · rw [if_neg (fun h => h.elim (fun h => h h7) h8)] at hR
                refine walk (hQ := ?_)
                exact hR _ (ret2 (hp := rfl))
            · simp only [Bool.false_eq_true, if_false, Decidable.not_not] at h7
              rw [if_pos (.inl h7)] at hR
              refine walk (hQ := ?_)
              exact hR _ (ret2 (hp := rfl))
        · refine walk (hQ := ?_)
          refine W_if (ht := fun h6 => ?_) (hf := fun h6 => absurd (Decidable.not_not.1 h6) h5)
          rw [if_pos (.inl h6)] at hR
          refine walk (hQ := ?_)
          exact hR _ (ret2 (hp := rfl))
    · simp only [if_true] at h2
      obtain rfl : i = s.length := by omega
      obtain ⟨c1, c2, c3⟩ := cut_at hi hn (.inl rfl)
      have hm : 47 ∉ s := fun h => by have := c3.1 h; omega
      have hd := h49 hm
      rw [hd, parse_one] at p2
      rw [hd, parse_one] at hR hF
      rw [← c1] at p1 hR hF
      refine walk (hQ := ?_)
      refine R_call p1 (hK := ?_)
      refine walk (hQ := ?_)
      simp only [] at hF hR
      refine R_g_if (h1 := fun h4 => ?_) (h2 := fun h4 => ?_)
      case refine_1 => simp only [if_true] at h4; omega
      refine walk (hQ := ?_)
      refine W_if (ht := fun h6 => ?_) (hf := fun h6 => ?_)
      · rw [if_pos (.inl h6)] at hR
        refine walk (hQ := ?_)
        exact hR _ (ret2 (hp := rfl))
      · rw [if_neg (fun h => h.elim h6 (fun h => h rfl))] at hR
        refine walk (hQ := ?_)
        refine R_call hF (hK := ?_)
        refine walk (hQ := ?_)
        refine R_g_if (h1 := fun h7 => ?_) (h2 := fun h7 => ?_)
        · simp only [Bool.false_eq_true, if_false, Decidable.not_not] at h7
          refine walk (hQ := ?_)
          refine W_if (ht := fun h8 => ?_) (hf := fun h8 => ?_)
          · rw [if_pos (.inr h8)] at hR
            refine walk (hQ := ?_)
            exact hR _ (ret2 (hp := rfl))
          · rw [if_neg (fun h => h.elim (fun h => h h7) h8)] at hR
            refine walk (hQ := ?_)
            exact hR _ (ret2 (hp := rfl))
        · simp only [Bool.false_eq_true, if_false, Decidable.not_not] at h7
          rw [if_pos (.inl h7)] at hR
          refine walk (hQ := ?_)
          exact hR _ (ret2 (hp := rfl))
end Go.VS.YtiaijoomngefnaaGreatDoor


namespace Go.VS.YtiaijoomngefnaaGreatDoor
open Go Go.VL Go.VN Go.RowKit Go.Proofs
set_option maxRecDepth 100000
set_option linter.unusedVariables false

theorem mulS_step (m d j : Nat) (hj : j < d) (M : List Int × Int) (hM : M = mulR (mulS (m * 2 * 10 ^ j)).1 (digs 10)) (h0 : (mulS (m * 2 * 10 ^ j)).2 = 0) : M = mulS (m * 2 * 10 ^ (j + 1)) := by
  have l10 : (digs 10).length ≤ 200 := of_num 10 (by decide)
  subst hM
  unfold mulS at h0 ⊢
  by_cases h : fits (m * 2 * 10 ^ j) = true
  · rw [if_pos h, mulR_N (fits_le h) l10, Nat.mul_assoc (m * 2), ← Nat.pow_succ]
  · rw [if_neg h] at h0; cases h0
theorem mulS_bad (m j : Nat) (h0 : ¬ (mulS (m * 2 * 10 ^ j)).2 = 0) : mulS (m * 2 * 10 ^ j) = ([], 3) ∧ ¬ fits (m * 2 * 10 ^ j) = true := by
  unfold mulS at h0 ⊢
  by_cases h : fits (m * 2 * 10 ^ j) = true
  · rw [if_pos h] at h0; exact absurd rfl h0
  · rw [if_neg h]; exact ⟨rfl, h⟩
theorem mulS_good (n : Nat) (h0 : (mulS n).2 = 0) : mulS n = (digs n, 0) ∧ fits n = true := by
  unfold mulS at h0 ⊢
  by_cases h : fits n = true
  · rw [if_pos h]; exact ⟨rfl, h⟩
  · rw [if_neg h] at h0; cases h0
theorem mulS_up (m j : Nat) (h : ¬ fits (m * 2 * 10 ^ j) = true) : ¬ fits (m * 2 * 10 ^ (j + 1)) = true := fun h1 => h (fits_mono (by rw [Nat.pow_succ, ← Nat.mul_assoc]; exact Nat.le_mul_of_pos_right _ (by decide)) h1)
theorem mulS_start (m : Nat) (hm : (digs m).length ≤ 200) : mulR (digs m) (digs 2) = mulS (m * 2 * 10 ^ 0) := by
  rw [mulR_N hm (of_num 2 (by decide)), Nat.pow_zero, Nat.mul_one]; rfl
theorem mulS_top (m j d : Nat) (hj : j ≤ d) (h : ¬ fits (m * 2 * 10 ^ j) = true) : ¬ fits (m * 2 * 10 ^ d) = true := fun h1 => h (fits_mono (Nat.mul_le_mul_left _ (Nat.pow_le_pow_right (by decide) hj)) h1)
theorem f_scaled (s : Bool) (m n d : Nat) (lm : (digs m).length ≤ 200) (ln : (digs n).length ≤ 200) (hn : 0 < n) (hd : d ≤ 20) : Spc X 61 [ft (s, digs m, digs n), .one (.int .i64 d)] (nr (scN m n d)) := by
  refine Spc.start Tryz.func61 rfl (h := fun hs R hR => ?_)
  unfold Tryz.f61
  simp only [entryE, PA.av, List.map_cons, List.map_nil]
  unfold scN at hR
  have l2 : (digs 2).length ≤ 200 := of_num 2 (by decide)
  have hM := s_Mul (digs m) (digs 2)
  rw [mulS_start m lm] at hM
  refine walk (hQ := ?_)
  refine R_call (f_number 2 (by decide)) (hK := ?_)
  refine walk (hQ := ?_)
  refine R_call hM (hK := ?_)
  refine walk (hQ := ?_)
  refine Lp.intro (fun (j : Nat) => ⟨[(2, .one (.ptr 0 0)), (4, .one (.ptr 1 0)), (6, .one (.ptr 2 0)), (7, vI (mulS (m * 2 * 10 ^ j)).2), (18, vI d), (19, vI j)], [(0, (.mx [.pv (.bool s), .pv (slc eI (digs m)), .pv (slc eI (digs n))], false)), (1, (.mx [.pv .nil], false)), (2, (.mx [.pv (slc eI (mulS (m * 2 * 10 ^ j)).1)], false))], 3⟩) (fun j => j ≤ d) (fun j => d - j) 0 (Nat.zero_le _) (h0 := le_auto) (hr := fun j K hj hK => ?_)
  have hstep := mulS_step m d j
  have hbad := mulS_bad m j
  have hgood := mulS_good (m * 2 * 10 ^ j)
  have hup := mulS_up m j
  have hM2 := s_Mul (mulS (m * 2 * 10 ^ j)).1 (digs 10)
  refine walk (hQ := ?_)
  refine W_if (ht := fun h1 => ?_) (hf := fun h1 => ?_)
  · refine walk (hQ := ?_)
    refine W_if (ht := fun h2 => ?_) (hf := fun h2 => ?_)
    · rw [hstep (by omega) _ rfl h2] at hM2
      refine walk (hQ := ?_)
      refine R_call (f_number 10 (by decide)) (hK := ?_)
      refine walk (hQ := ?_)
      refine R_call hM2 (hK := ?_)
      refine walk (hQ := ?_)
      exact hK _ (j + 1) (by omega) (by omega) le_auto
    · obtain ⟨h3, h4⟩ := hbad h2
      have h5 : mulS (m * 2 * 10 ^ (j + 1)) = ([], 3) := by unfold mulS; rw [if_neg (hup h4)]
      rw [h3]
      refine walk (hQ := ?_)
      refine hK _ (j + 1) (by omega) (by omega) ?_
      rw [h5]
      exact le_auto
  · obtain rfl : j = d := by omega
    refine walk (hQ := ?_)
    refine W_if (ht := fun h2 => ?_) (hf := fun h2 => ?_)
    · obtain ⟨h3, h4⟩ := hgood h2
      rw [h3]
      have hA := s_Add (digs (m * 2 * 10 ^ j)) (digs n)
      rw [addR_N (fits_le h4) ln] at hA
      refine walk (hQ := ?_)
      by_cases h5 : fits (m * 2 * 10 ^ j + n) = true
      · rw [if_pos h5] at hA
        refine R_call hA (hK := ?_)
        have hQ2 := s_Mul (digs n) (digs 2)
        rw [mulR_N ln l2] at hQ2
        refine walk (hQ := ?_)
        refine R_call (f_number 2 (by decide)) (hK := ?_)
        refine walk (hQ := ?_)
        by_cases h6 : fits (n * 2) = true
        · rw [if_pos h6] at hQ2
          rw [if_pos ⟨h5, h6⟩] at hR
          refine R_call hQ2 (hK := ?_)
          refine walk (hQ := ?_)
          refine R_call (s_DivN _ _ (fits_le h5) (fits_le h6) (by omega)) (hK := ?_)
          refine walk (hQ := ?_)
          exact hR _ (ret2 (hp := rfl))
        · rw [if_neg h6] at hQ2
          rw [if_neg (fun h => h6 h.2)] at hR
          refine R_call hQ2 (hK := ?_)
          refine walk (hQ := ?_)
          exact hR _ (ret2 (hp := rfl))
      · rw [if_neg h5] at hA
        rw [if_neg (fun h => h5 h.1)] at hR
        refine R_call hA (hK := ?_)
        refine walk (hQ := ?_)
        exact hR _ (ret2 (hp := rfl))
    · obtain ⟨h3, h4⟩ := hbad h2
      rw [h3]
      rw [if_neg (fun h => h4 (fits_mono (Nat.le_add_right _ _) h.1))] at hR
      refine walk (hQ := ?_)
      exact hR _ (ret2 (hp := rfl))
theorem digs_ok {n : Nat} (h : fits n = true) : fmtR (digs n) = (fmtL (digs n), 0) := fmtR_ok (valid_N n (fits_le h))
theorem div_fits {a b : Nat} (h : fits a = true) : fits (a / b) = true := fits_mono (Nat.div_le_self _ _) h
theorem f_DecN (s : Bool) (m n d : Nat) (hf : VF (s, digs m, digs n)) (hd : d ≤ 20) : Spc X 21 [ft (s, digs m, digs n), .one (.int .i64 d)] (sr (decN s m n d)) := by
  refine Spc.start Tryz.func21 rfl (h := fun hs R hR => ?_)
  unfold Tryz.f21
  simp only [entryE, PA.av, List.map_cons, List.map_nil]
  have lm := hf.ln
  have ln := hf.ld
  have pn := hf.pos
  rw [nm_mk] at lm
  rw [dn_mk] at ln pn
  have hsc := f_scaled s m n d lm ln pn hd
  unfold scN at hsc
  unfold decN at hR
  refine walk (hQ := ?_)
  refine R_call (f_ValidT hf) (hK := ?_)
  refine walk (hQ := ?_)
  refine W_if (ht := fun h2 => ?_) (hf := fun h2 => ?_)
  case refine_1 => omega
  refine walk (hQ := ?_)
  by_cases h3 : fits (m * 2 * 10 ^ d + n) = true ∧ fits (n * 2) = true
  · rw [if_pos h3] at hsc hR
    have hN := div_fits (b := n * 2) h3.1
    unfold decT at hR
    generalize (m * 2 * 10 ^ d + n) / (n * 2) = N at *
    have hfm := s_Format (digs N)
    rw [digs_ok hN] at hfm
    have hls := fmt_len (valid_N N (fits_le hN))
    have hz := f_zero (digs N)
    rw [digs_empty] at hz
    generalize fmtL (digs N) = S at *
    refine R_call hsc (hK := ?_)
    refine walk (hQ := ?_)
    refine R_call hfm (hK := ?_)
    refine walk (hQ := ?_)
    refine W_if (ht := fun h4 => ?_) (hf := fun h4 => ?_)
    case' pos.refine_1 =>
      have e1 : (d : Int) + 1 - (S.length : Int) = ((d + 1 - S.length : Nat) : Int) := by omega
      have hrep := s_Repeat [48] (d + 1 - S.length) (by simp only [List.length_cons, List.length_nil]; omega) (by omega)
      rw [repeat_rep] at hrep
      have hlr : (List.replicate (d + 1 - S.length) (48 : UInt8)).length ≤ 100 := by rw [List.length_replicate]; omega
      refine walk (hQ := ?_)
      rw [e1]
      refine R_call hrep (hK := ?_)
      refine walk (hQ := ?_)
      rw [show List.replicate (d + 1 - S.length) 48 ++ S = padZ d S from rfl]
    case' pos.refine_2 =>
      refine walk (hQ := ?_)
      rw [show S = padZ d S from (padZ_no (by omega)).symm]
    all_goals
      have hp1 := padZ_len d S
      have hp2 := padZ_len2 d S
      generalize padZ d S = c at *
      have e2 : ((c.length : Int) - d).toNat = c.length - d := by omega
      have hl1 : (c.take ((c.length : Int) - d).toNat).length ≤ 1000 := by rw [List.length_take]; omega
      have hl2 : (c.drop ((c.length : Int) - d).toNat).length ≤ 1000 := by rw [List.length_drop]; omega
      refine walk (hQ := ?_)
      refine W_if (ht := fun h5 => ?_) (hf := fun h5 => ?_)
      case' refine_1 =>
        have hdot : c.take (c.length - d) ++ [46] ++ c.drop (c.length - d) = dotS d c := by unfold dotS; rw [if_neg (by omega)]
        refine walk (hQ := ?_)
        rw [e2, hdot]
        rw [e2] at hl1 hl2
        have hT : (dotS d c).length ≤ 3000 := by
          rw [← hdot, List.length_append, List.length_append]
          simp only [List.length_cons, List.length_nil]
          omega
        generalize dotS d c = T at *
      case' refine_2 =>
        have hdot : dotS d c = c := by unfold dotS; rw [if_pos (by omega)]
        rw [hdot] at hR
        refine walk (hQ := ?_)
        have hT : c.length ≤ 3000 := by omega
        clear hdot hl1 hl2 e2
        generalize c = T at *
      all_goals
        cases s with
        | false =>
          refine walk (hQ := ?_)
          exact hR _ (ret2 (hp := rfl))
        | true =>
          by_cases h6 : N = 0
          · simp only [h6, decide_true] at hz hR
            simp only [h6]
            refine walk (hQ := ?_)
            refine R_call hz (hK := ?_)
            refine walk (hQ := ?_)
            exact hR _ (ret2 (hp := rfl))
          · simp only [h6, decide_false] at hz hR
            refine walk (hQ := ?_)
            refine R_call hz (hK := ?_)
            refine walk (hQ := ?_)
            exact hR _ (ret2 (hp := rfl))
  · rw [if_neg h3] at hsc hR
    refine R_call hsc (hK := ?_)
    refine walk (hQ := ?_)
    exact hR _ (ret2 (hp := rfl))
end Go.VS.YtiaijoomngefnaaGreatDoor


namespace Go.VS.YtiaijoomngefnaaGreatDoor
open Go Go.VL Go.VN Go.RowKit Go.Proofs
set_option maxRecDepth 100000
set_option linter.unusedVariables false

set_option maxHeartbeats 1000000 in
theorem g_DecN (s : Bool) (m n d : Nat) (hf : VF (s, digs m, digs n)) (hd : d ≤ 20) : Spc X 22 [ft (s, digs m, digs n), .one (.int .i64 d)] (sr (decN s m n d)) := by
  refine Spc.start Tryz.func22 rfl (h := fun hs R hR => ?_)
  unfold Tryz.f22
  simp only [entryE, PA.av, List.map_cons, List.map_nil]
  have lm := hf.ln
  have ln := hf.ld
  have pn := hf.pos
  rw [nm_mk] at lm
  rw [dn_mk] at ln pn
  unfold decN at hR
  have l2 : (digs 2).length ≤ 200 := of_num 2 (by decide)
  have hM := r_Mul (digs m) (digs 2)
  rw [mulS_start m lm] at hM
  refine walk (hQ := ?_)
  refine R_call (g_ValidT hf) (hK := ?_)
  refine walk (hQ := ?_)
  refine W_if (ht := fun h2 => ?_) (hf := fun h2 => ?_)
  case refine_1 => omega
  refine walk (hQ := ?_)
  refine R_call (r_Small 2) (hK := ?_)
  refine walk (hQ := ?_)
  refine R_call hM (hK := ?_)
  refine walk (hQ := ?_)
  refine Lp.intro (fun (j : Nat) => ⟨[(1, vI d), (2, .one (.ptr 0 0)), (6, .one (.ptr 1 0)), (7, vI (mulS (m * 2 * 10 ^ j)).2), (8, vI j)], [(0, (.mx [.pv (.bool s), .pv (slc eI (digs m)), .pv (slc eI (digs n))], false)), (1, (.mx [.pv (slc eI (mulS (m * 2 * 10 ^ j)).1)], false))], 2⟩) (fun j => j ≤ d) (fun j => d - j) 0 (Nat.zero_le _) (h0 := le_auto) (hr := fun j K hj hK => ?_)
  have hstep := mulS_step m d j
  have hbad := mulS_bad m j
  have hgood := mulS_good (m * 2 * 10 ^ j)
  have htop := mulS_top m j d hj
  have hM2 := r_Mul (mulS (m * 2 * 10 ^ j)).1 (digs 10)
  have hq2 := r_Mul (digs n) (digs 2)
  rw [mulR_N ln l2] at hq2
  refine walk (hQ := ?_)
  refine R_g_if (h1 := fun h1 => ?_) (h2 := fun h1 => ?_)
  · simp only [if_true] at h1
    refine walk (hQ := ?_)
    refine W_if (ht := fun h3 => ?_) (hf := fun h3 => ?_)
    · rw [hstep (by omega) _ rfl h3] at hM2
      refine walk (hQ := ?_)
      refine R_call (r_Small 10) (hK := ?_)
      refine walk (hQ := ?_)
      refine R_call hM2 (hK := ?_)
      refine walk (hQ := ?_)
      exact hK _ (j + 1) (by omega) (by omega) le_auto
    · obtain ⟨h4, h5⟩ := hbad h3
      rw [h4]
      rw [if_neg (fun h => htop h5 (fits_mono (Nat.le_add_right _ _) h.1))] at hR
      refine walk (hQ := ?_)
      refine R_call (r_Small 2) (hK := ?_)
      refine walk (hQ := ?_)
      refine R_call hq2 (hK := ?_)
      refine walk (hQ := ?_)
      exact hR _ (ret2 (hp := rfl))
  · simp only [if_true] at h1
    obtain rfl : j = d := by omega
    refine walk (hQ := ?_)
    refine W_if (ht := fun h3 => ?_) (hf := fun h3 => ?_)
    · obtain ⟨h4, h5⟩ := hgood h3
      rw [h4]
      have hA := r_Add (digs (m * 2 * 10 ^ j)) (digs n)
      rw [addR_N (fits_le h5) ln] at hA
      refine walk (hQ := ?_)
      by_cases h6 : fits (m * 2 * 10 ^ j + n) = true
      · rw [if_pos h6] at hA
        refine R_call hA (hK := ?_)
        refine walk (hQ := ?_)
        refine R_call (r_Small 2) (hK := ?_)
        refine walk (hQ := ?_)
        by_cases h7 : fits (n * 2) = true
        · rw [if_pos h7] at hq2
          rw [if_pos ⟨h6, h7⟩] at hR
          have hD := r_DivN _ _ (fits_le h6) (fits_le h7) (by omega)
          have hN := div_fits (b := n * 2) h6
          unfold decT at hR
          generalize (m * 2 * 10 ^ j + n) / (n * 2) = N at *
          have hfm := r_Format (digs N)
          rw [digs_ok hN] at hfm
          have hls := fmt_len (valid_N N (fits_le hN))
          have hz := g_zero (digs N)
          rw [digs_empty] at hz
          generalize fmtL (digs N) = S at *
          refine R_call hq2 (hK := ?_)
          refine walk (hQ := ?_)
          refine R_call hD (hK := ?_)
          refine walk (hQ := ?_)
          refine R_call hfm (hK := ?_)
          refine walk (hQ := ?_)
          refine Lp.intro (fun (k : Nat) => ⟨[(1, vI j), (2, .one (.ptr 0 0)), (11, .one (.ptr 3 0)), (14, vS (List.replicate k 48 ++ S))], [(0, (.mx [.pv (.bool s), .pv (slc eI (digs m)), .pv (slc eI (digs n))], false)), (3, (.mx [.pv (slc eI (digs N))], false))], 5⟩) (fun k => k ≤ j + 1 - S.length) (fun k => j + 1 - k) 0 (Nat.zero_le _) (h0 := le_auto) (hr := fun k K2 hk hK2 => ?_)
          have hlk : (List.replicate k (48 : UInt8) ++ S).length = k + S.length := by rw [List.length_append, List.length_replicate]
          refine walk (hQ := ?_)
          refine W_if (ht := fun h8 => ?_) (hf := fun h8 => ?_)
          · rw [hlk] at h8
            have e3 : (48 : UInt8) :: (List.replicate k 48 ++ S) = List.replicate (k + 1) 48 ++ S := by rw [List.replicate_succ, List.cons_append]
            refine walk (hQ := ?_)
            refine hK2 _ (k + 1) (by omega) (by omega) ?_
            rw [← e3]
            exact le_auto
          · rw [hlk] at h8
            have e4 : List.replicate k 48 ++ S = padZ j S := by unfold padZ; rw [show j + 1 - S.length = k by omega]
            rw [e4]
            have hp1 := padZ_len j S
            have hp2 := padZ_len2 j S
            clear hK2 hlk h8 e4 hk
            generalize padZ j S = c at *
            have e2 : ((c.length : Int) - j).toNat = c.length - j := by omega
            have hl1 : (c.take ((c.length : Int) - j).toNat).length ≤ 1000 := by rw [List.length_take]; omega
            have hl2 : (c.drop ((c.length : Int) - j).toNat).length ≤ 1000 := by rw [List.length_drop]; omega
            refine walk (hQ := ?_)
            refine W_if (ht := fun h9 => ?_) (hf := fun h9 => ?_)
            case' refine_1 =>
              have hdot : c.take (c.length - j) ++ [46] ++ c.drop (c.length - j) = dotS j c := by unfold dotS; rw [if_neg (by omega)]
              refine walk (hQ := ?_)
              rw [e2, hdot]
              rw [e2] at hl1 hl2
              have hT : (dotS j c).length ≤ 3000 := by
                rw [← hdot, List.length_append, List.length_append]
                simp only [List.length_cons, List.length_nil]
                omega
              generalize dotS j c = T at *
            case' refine_2 =>
              have hdot : dotS j c = c := by unfold dotS; rw [if_pos (by omega)]
              rw [hdot] at hR
              refine walk (hQ := ?_)
              have hT : c.length ≤ 3000 := by omega
              clear hdot hl1 hl2 e2
              generalize c = T at *
            all_goals
              cases s with
              | false =>
                refine walk (hQ := ?_)
                exact hR _ (ret2 (hp := rfl))
              | true =>
                by_cases h6 : N = 0
                · simp only [h6, decide_true] at hz hR
                  simp only [h6]
                  refine walk (hQ := ?_)
                  refine R_call hz (hK := ?_)
                  refine walk (hQ := ?_)
                  exact hR _ (ret2 (hp := rfl))
                · simp only [h6, decide_false] at hz hR
                  refine walk (hQ := ?_)
                  refine R_call hz (hK := ?_)
                  refine walk (hQ := ?_)
                  exact hR _ (ret2 (hp := rfl))
        · rw [if_neg h7] at hq2
          rw [if_neg (fun h => h7 h.2)] at hR
          refine R_call hq2 (hK := ?_)
          refine walk (hQ := ?_)
          exact hR _ (ret2 (hp := rfl))
      · rw [if_neg h6] at hA
        rw [if_neg (fun h => h6 h.1)] at hR
        refine R_call hA (hK := ?_)
        refine walk (hQ := ?_)
        refine R_call (r_Small 2) (hK := ?_)
        refine walk (hQ := ?_)
        refine R_call hq2 (hK := ?_)
        refine walk (hQ := ?_)
        exact hR _ (ret2 (hp := rfl))
    · obtain ⟨h4, h5⟩ := hbad h3
      rw [h4]
      rw [if_neg (fun h => h5 (fits_mono (Nat.le_add_right _ _) h.1))] at hR
      refine walk (hQ := ?_)
      refine R_call (r_Small 2) (hK := ?_)
      refine walk (hQ := ?_)
      refine R_call hq2 (hK := ?_)
      refine walk (hQ := ?_)
      exact hR _ (ret2 (hp := rfl))
theorem f_Decimal (f : FrN) (d : Int) : Spc X 21 [ft f, .one (.int .i64 d)] (sr (decF f d)) := by
  unfold decF
  by_cases hv : validF f = true
  · rw [if_pos hv]
    have hf := validF_VF hv
    by_cases hd : d < 0 ∨ d > 20
    · rw [if_pos hd]
      refine Spc.start Tryz.func21 rfl (h := fun hs R hR => ?_)
      unfold Tryz.f21
      simp only [entryE, PA.av, List.map_cons, List.map_nil]
      refine walk (hQ := ?_)
      refine R_call (f_ValidT hf) (hK := ?_)
      refine walk (hQ := ?_)
      refine R_g_if (h1 := fun h1 => ?_) (h2 := fun h1 => ?_)
      · simp only [Bool.false_eq_true, if_false] at h1
        refine walk (hQ := ?_)
        refine W_if (ht := fun h2 => ?_) (hf := fun h2 => absurd hd (by omega))
        refine walk (hQ := ?_)
        exact hR _ (ret2 (hp := rfl))
      · refine walk (hQ := ?_)
        exact hR _ (ret2 (hp := rfl))
    · rw [if_neg hd]
      obtain ⟨k, rfl⟩ := Int.eq_ofNat_of_zero_le (show 0 ≤ d by omega)
      rw [Int.toNat_natCast]
      have h1 := f_DecN f.1 (nm f) (dn f) k (by rw [← hf.eta]; exact hf) (by omega)
      rw [← hf.eta] at h1
      exact h1
  · rw [if_neg hv]
    refine Spc.start Tryz.func21 rfl (h := fun hs R hR => ?_)
    unfold Tryz.f21
    simp only [entryE, PA.av, List.map_cons, List.map_nil]
    refine walk (hQ := ?_)
    refine R_call (f_ValidF (Bool.eq_false_iff.2 hv)) (hK := ?_)
    refine walk (hQ := ?_)
    exact hR _ (ret2 (hp := rfl))
theorem g_Decimal (f : FrN) (d : Int) : Spc X 22 [ft f, .one (.int .i64 d)] (sr (decF f d)) := by
  unfold decF
  by_cases hv : validF f = true
  · rw [if_pos hv]
    have hf := validF_VF hv
    by_cases hd : d < 0 ∨ d > 20
    · rw [if_pos hd]
      refine Spc.start Tryz.func22 rfl (h := fun hs R hR => ?_)
      unfold Tryz.f22
      simp only [entryE, PA.av, List.map_cons, List.map_nil]
      refine walk (hQ := ?_)
      refine R_call (g_ValidT hf) (hK := ?_)
      refine walk (hQ := ?_)
      refine R_g_if (h1 := fun h1 => ?_) (h2 := fun h1 => ?_)
      · simp only [Bool.false_eq_true, if_false] at h1
        refine walk (hQ := ?_)
        refine W_if (ht := fun h2 => ?_) (hf := fun h2 => absurd hd (by omega))
        refine walk (hQ := ?_)
        exact hR _ (ret2 (hp := rfl))
      · refine walk (hQ := ?_)
        exact hR _ (ret2 (hp := rfl))
    · rw [if_neg hd]
      obtain ⟨k, rfl⟩ := Int.eq_ofNat_of_zero_le (show 0 ≤ d by omega)
      rw [Int.toNat_natCast]
      have h1 := g_DecN f.1 (nm f) (dn f) k (by rw [← hf.eta]; exact hf) (by omega)
      rw [← hf.eta] at h1
      exact h1
  · rw [if_neg hv]
    refine Spc.start Tryz.func22 rfl (h := fun hs R hR => ?_)
    unfold Tryz.f22
    simp only [entryE, PA.av, List.map_cons, List.map_nil]
    refine walk (hQ := ?_)
    refine R_call (g_ValidF (Bool.eq_false_iff.2 hv)) (hK := ?_)
    refine walk (hQ := ?_)
    exact hR _ (ret2 (hp := rfl))
end Go.VS.YtiaijoomngefnaaGreatDoor


namespace Go.VS.YtiaijoomngefnaaGreatDoor
open Go Go.VL Go.VN Go.RowKit Go.Proofs
set_option maxRecDepth 100000
set_option linter.unusedVariables false


theorem f_sign (s : Bool) (m : Nat) (b : List Int) : Spc X 68 [ft (s, digs m, b)] (.one (.int .i64 (sgF s m))) := by
  refine Spc.start Tryz.func68 rfl (h := fun hs R hR => ?_)
  unfold Tryz.f68
  simp only [entryE, PA.av, List.map_cons, List.map_nil]
  have hz := f_zero (digs m)
  rw [digs_empty] at hz
  unfold sgF at hR
  cases s with
  | true =>
    refine walk (hQ := ?_)
    exact hR _ (ret1 (hp := rfl))
  | false =>
    by_cases h1 : m = 0
    · simp only [h1, decide_true, Bool.false_eq_true, if_false, if_true] at hz hR
      simp only [h1]
      refine walk (hQ := ?_)
      refine R_call hz (hK := ?_)
      refine walk (hQ := ?_)
      exact hR _ (ret1 (hp := rfl))
    · simp only [h1, decide_false, Bool.false_eq_true, if_false] at hz hR
      refine walk (hQ := ?_)
      refine R_call hz (hK := ?_)
      refine walk (hQ := ?_)
      exact hR _ (ret1 (hp := rfl))
theorem f_wide (a b : List Int) (ha : Dig a) (hb : Dig b) (la : a.length ≤ 1000000) (lb : b.length ≤ 1000000) : Spc X 69 [nt a, nt b] (nt (digs (val a * val b).toNat)) := by
  refine Spc.start Tryz.func69 rfl (h := fun hs R hR => ?_)
  unfold Tryz.f69
  simp only [entryE, PA.av, List.map_cons, List.map_nil]
  refine walk (hQ := ?_)
  refine Lp.intro2 (fun (i : Nat) (out : List Int) => ⟨[(3, .one (.ptr 1 0)), (4, .one (.ptr 2 0)), (5, .one (.own 3 1 (a.length + b.length))), (21, vP (slc eI a)), (22, vI a.length), (23, vI i)], [(1, (.mx [.pv (slc eI b)], false)), (2, (.mx [.pv .nil], false)), (3, (.pu 3 (out.flatMap eI), false))], 4⟩)
    (fun i out => Outer a b out (a.length + b.length) i ∧ i ≤ a.length) (fun i _ => a.length - i) 0 _ ⟨Outer.start a b _, Nat.zero_le _⟩ (h0 := le_auto) (hr := fun i out0 K ⟨hO, hi⟩ hK => ?_)
  have hlen := hO.len
  refine walk (hQ := ?_)
  refine W_if (ht := fun h1 => ?_) (hf := fun h1 => ?_)
  · refine walk (hQ := ?_)
    refine Lp.intro3 (fun (j : Nat) (out : List Int) (c : Int) => ⟨[(3, .one (.ptr 1 0)), (4, .one (.ptr 2 0)), (5, .one (.own 3 1 (a.length + b.length))), (6, vI i), (7, vI (a.getD i 0)), (8, vI c), (21, vP (slc eI a)), (22, vI a.length), (23, vI i), (29, vP (slc eI b)), (30, vI b.length), (31, vI j)], [(1, (.mx [.pv (slc eI b)], false)), (2, (.mx [.pv .nil], false)), (3, (.pu 3 (out.flatMap eI), false))], 4⟩)
      (fun j out c => Inner a b out0 out i j c ∧ j ≤ b.length) (fun j _ _ => b.length - j) 0 _ 0 ⟨Inner.start hO.dig hO.top, Nat.zero_le _⟩ (h0 := le_auto) (hr := fun j out c K' ⟨hI, hj⟩ hK' => ?_)
    have hlen' : out.length = a.length + b.length := by rw [hI.len, hlen]
    have hx : 0 ≤ a.getD i 0 ∧ a.getD i 0 < 10000 := dig_rd ha i
    have hc0 := hI.c0
    have hc1 := hI.c1
    refine walk (hQ := ?_)
    refine W_if (ht := fun h2 => ?_) (hf := fun h2 => ?_)
    · have hy : 0 ≤ b.getD j 0 ∧ b.getD j 0 < 10000 := dig_rd hb j
      have ho : 0 ≤ out.getD (i + j) 0 ∧ out.getD (i + j) 0 < 10000 := dig_rd hI.dig (i + j : Nat)
      have hxy := mul_le_ hx.1 hx.2 hy.1 hy.2
      refine walk (hQ := ?_)
      refine hK' _ (j + 1) _ _ ⟨hI.next (q := (out.getD (i + j) 0 + a.getD i 0 * b.getD j 0 + c) / 10000) (r := (out.getD (i + j) 0 + a.getD i 0 * b.getD j 0 + c) % 10000) (by omega) (by omega) (by omega) (by omega) (by omega) (by omega) ?_, by omega⟩ (by omega) ?_
      · have h9 := Int.mul_ediv_add_emod (out.getD (i + j) 0 + a.getD i 0 * b.getD j 0 + c) 10000
        show c + (out.getD (i + j) 0 + a.getD i 0 * b.getD j 0) = _
        omega
      · exact le_auto
    · obtain rfl : j = b.length := by omega
      have h3 : out.getD (i + b.length) 0 = 0 := hI.top (i + b.length) (Nat.le_refl _)
      refine walk (hQ := ?_)
      exact hK _ (i + 1) _ ⟨hO.next hI (by omega) (by omega), by omega⟩ (by omega) le_auto
  · obtain rfl : i = a.length := by omega
    have hdone := hO.done
    refine walk (hQ := ?_)
    refine Lp.intro (fun (l : List Int) => ⟨[(4, .one (.ptr 2 0)), (5, vP (slc eI l))], [(2, (.mx [.pv .nil], false))], 4⟩) (fun l => tr l = digs (val a * val b).toNat ∧ l.length ≤ 2000000) (fun l => l.length) out0 ⟨hdone, by omega⟩ (h0 := le_autoV) (hr := fun l K2 ⟨ht, hl⟩ hK2 => ?_)
    refine walk (hQ := ?_)
    refine R_g_if (h1 := fun h2 => ?_) (h2 := fun h2 => ?_)
    · simp only [if_true] at h2
      refine walk (hQ := ?_)
      have e1 : ((l.length : Int) - 1).toNat = l.length - 1 := by omega
      obtain ⟨q, hq⟩ : ∃ q, l.length = q + 1 := ⟨l.length - 1, by omega⟩
      have hs : l = l.take q ++ [l.getD q 0] := by
        rw [← take_snoc (by omega), ← hq, List.take_length]
      rw [e1, hq, Nat.add_sub_cancel]
      refine W_if (ht := fun h3 => ?_) (hf := fun h3 => ?_)
      · refine walk (hQ := ?_)
        refine hK2 _ (l.take q) ⟨?_, by rw [List.length_take]; omega⟩ (by rw [List.length_take]; omega) ?_
        · rw [hs, h3, tr_zero] at ht; exact ht
        · have e2 : ((l.length : Int) - 1).toNat = q := by omega
          rw [e2]
          exact le_auto
      · refine walk (hQ := ?_)
        have e5 : tr l = l := by
          have := tr_last (l.take q) _ h3
          rwa [← hs] at this
        refine hR _ (ret1 (hp := ?_))
        rw [← ht, e5]
    · simp only [if_true] at h2
      have h3 : l = [] := List.eq_nil_of_length_eq_zero (by omega)
      subst h3
      refine walk (hQ := ?_)
      refine hR _ (ret1 (hp := ?_))
      rw [← ht]; rfl
end Go.VS.YtiaijoomngefnaaGreatDoor


namespace Go.VS.YtiaijoomngefnaaGreatDoor
open Go Go.VL Go.VN Go.RowKit Go.Proofs
set_option maxRecDepth 100000
set_option linter.unusedVariables false

theorem f_CmpN (s : Bool) (m n : Nat) (t : Bool) (p q : Nat) (hf : VF (s, digs m, digs n)) (hg : VF (t, digs p, digs q)) : Spc X 28 [ft (s, digs m, digs n), ft (t, digs p, digs q)] (.one (.int .i64 (sgn (sgI s m * q) (sgI t p * n)))) := by
  refine Spc.start Tryz.func28 rfl (h := fun hs R hR => ?_)
  unfold Tryz.f28
  simp only [entryE, PA.av, List.map_cons, List.map_nil]
  have la := hf.ln
  have lb := hf.ld
  have lc := hg.ln
  have ld := hg.ld
  have pb := hf.pos
  have pd := hg.pos
  rw [nm_mk] at la lc
  rw [dn_mk] at lb ld pb pd
  have sf := hf.sig
  have sg := hg.sig
  rw [nm_mk] at sf sg
  obtain ⟨c1, c2, c3, _⟩ := cmp_math (s := s) (t := t) (m := m) (n := n) (p := p) (q := q) pb pd sf sg
  have w1 := f_wide (digs m) (digs q) (dig_digs m) (dig_digs q) (by omega) (by omega)
  have w2 := f_wide (digs p) (digs n) (dig_digs p) (dig_digs n) (by omega) (by omega)
  rw [val_digs, val_digs, ← Int.natCast_mul, Int.toNat_natCast] at w1 w2
  have hc := s_Cmp (digs (m * q)) (digs (p * n))
  rw [cmp_digs] at hc
  refine walk (hQ := ?_)
  refine R_call (f_ValidT hf) (hK := ?_)
  refine walk (hQ := ?_)
  refine R_call (f_ValidT hg) (hK := ?_)
  refine walk (hQ := ?_)
  refine R_call (f_sign s m (digs n)) (hK := ?_)
  refine walk (hQ := ?_)
  refine R_call (f_sign t p (digs q)) (hK := ?_)
  refine walk (hQ := ?_)
  refine W_if (ht := fun h1 => ?_) (hf := fun h1 => ?_)
  · refine walk (hQ := ?_)
    refine W_if (ht := fun h2 => ?_) (hf := fun h2 => ?_)
    · rw [c1 h2] at hR
      refine walk (hQ := ?_)
      exact hR _ (ret1 (hp := rfl))
    · rw [c2 (by omega)] at hR
      refine walk (hQ := ?_)
      exact hR _ (ret1 (hp := rfl))
  · rw [c3 (Decidable.not_not.1 h1)] at hR
    have hb : -1 ≤ sgn ((m * q : Nat) : Int) ((p * n : Nat) : Int) ∧ sgn ((m * q : Nat) : Int) ((p * n : Nat) : Int) ≤ 1 := by rw [← cmp_digs]; exact cmpL_abs _ _
    refine walk (hQ := ?_)
    refine R_call w1 (hK := ?_)
    refine walk (hQ := ?_)
    refine R_call w2 (hK := ?_)
    refine walk (hQ := ?_)
    refine R_call hc (hK := ?_)
    generalize sgn ((m * q : Nat) : Int) ((p * n : Nat) : Int) = V at *
    cases s with
    | true =>
      refine walk (hQ := ?_)
      exact hR _ (ret1 (hp := rfl))
    | false =>
      refine walk (hQ := ?_)
      exact hR _ (ret1 (hp := rfl))
theorem f_Cmp (f g : FrN) : Spc X 28 [ft f, ft g] (.one (.int .i64 (cmpF f g))) := by
  by_cases hv : validF f = true
  · by_cases hw : validF g = true
    · have hf := validF_VF hv
      have hg := validF_VF hw
      have h0 := cmpF_N (s := f.1) (m := nm f) (n := dn f) (t := g.1) (p := nm g) (q := dn g) (by rw [← hf.eta]; exact hf) (by rw [← hg.eta]; exact hg)
      have h1 := f_CmpN f.1 (nm f) (dn f) g.1 (nm g) (dn g) (by rw [← hf.eta]; exact hf) (by rw [← hg.eta]; exact hg)
      rw [← h0, ← hf.eta, ← hg.eta] at h1
      exact h1
    · rw [show cmpF f g = 0 by unfold cmpF; rw [if_neg (fun h => hw h.2)]]
      refine Spc.start Tryz.func28 rfl (h := fun hs R hR => ?_)
      unfold Tryz.f28
      simp only [entryE, PA.av, List.map_cons, List.map_nil]
      refine walk (hQ := ?_)
      refine R_call (f_ValidT (validF_VF hv)) (hK := ?_)
      refine walk (hQ := ?_)
      refine R_call (f_ValidF (Bool.eq_false_iff.2 hw)) (hK := ?_)
      refine walk (hQ := ?_)
      exact hR _ (ret1 (hp := rfl))
  · rw [show cmpF f g = 0 by unfold cmpF; rw [if_neg (fun h => hv h.1)]]
    refine Spc.start Tryz.func28 rfl (h := fun hs R hR => ?_)
    unfold Tryz.f28
    simp only [entryE, PA.av, List.map_cons, List.map_nil]
    refine walk (hQ := ?_)
    refine R_call (f_ValidF (Bool.eq_false_iff.2 hv)) (hK := ?_)
    refine walk (hQ := ?_)
    exact hR _ (ret1 (hp := rfl))
theorem g_ordN : ∀ (k p q r s : Nat), 0 < q → 0 < s → q + s ≤ k → (digs p).length ≤ 200 → (digs q).length ≤ 200 → (digs r).length ≤ 200 → (digs s).length ≤ 200 → Spc X 70 [nt (digs p), nt (digs q), nt (digs r), nt (digs s)] (.one (.int .i64 (ordN k p q r s)))
  | 0, _, _, _, _, hq, _, hk, _, _, _, _ => by omega
  | k + 1, p, q, r, s, hq, hs0, hk, lp, lq, lr, ls => by
    refine Spc.start Tryz.func70 rfl (h := fun hs R hR => ?_)
    unfold Tryz.f70
    simp only [entryE, PA.av, List.map_cons, List.map_nil]
    have d1 := r_DivN p q lp lq (by omega)
    have d2 := r_DivN r s lr ls (by omega)
    have m1 := Nat.mod_lt p hq
    have m2 := Nat.mod_lt r hs0
    have ih := fun (hx : 0 < p % q) (hy : 0 < r % s) => g_ordN k s (r % s) q (p % q) hy hx (by omega) ls (len_le (Nat.le_of_lt m2) ls) lq (len_le (Nat.le_of_lt m1) lq)
    rw [ordN] at hR
    have hc1 := r_Cmp (digs (p / q)) (digs (r / s))
    have hc2 := r_Cmp (digs (p % q)) (digs (r % s))
    rw [cmp_digs] at hc1 hc2
    have z1 := g_zero (digs (p % q))
    have z2 := g_zero (digs (r % s))
    rw [digs_empty] at z1 z2
    generalize p / q = a at *
    generalize r / s = b at *
    generalize p % q = x at *
    generalize r % s = y at *
    refine walk (hQ := ?_)
    refine R_call d1 (hK := ?_)
    refine walk (hQ := ?_)
    refine R_call d2 (hK := ?_)
    refine walk (hQ := ?_)
    refine R_call hc1 (hK := ?_)
    refine walk (hQ := ?_)
    refine W_if (ht := fun h1 => ?_) (hf := fun h1 => ?_)
    · rw [if_pos h1] at hR
      refine walk (hQ := ?_)
      exact hR _ (ret1 (hp := rfl))
    rw [if_neg h1] at hR
    refine walk (hQ := ?_)
    by_cases hx : x = 0
    · rw [if_pos (.inl hx)] at hR
      simp only [hx, decide_true] at z1 hR hc2
      simp only [hx]
      refine R_call z1 (hK := ?_)
      refine walk (hQ := ?_)
      refine R_call hc2 (hK := ?_)
      refine walk (hQ := ?_)
      exact hR _ (ret1 (hp := rfl))
    · simp only [hx, decide_false] at z1
      refine R_call z1 (hK := ?_)
      refine walk (hQ := ?_)
      by_cases hy : y = 0
      · rw [if_pos (.inr hy)] at hR
        simp only [hy, decide_true] at z2 hR hc2
        simp only [hy]
        refine R_call z2 (hK := ?_)
        refine walk (hQ := ?_)
        refine R_call hc2 (hK := ?_)
        refine walk (hQ := ?_)
        exact hR _ (ret1 (hp := rfl))
      · rw [if_neg (fun h => h.elim hx hy)] at hR
        simp only [hy, decide_false] at z2
        refine R_call z2 (hK := ?_)
        refine walk (hQ := ?_)
        refine R_call (ih (Nat.pos_of_ne_zero hx) (Nat.pos_of_ne_zero hy)) (hK := ?_)
        refine walk (hQ := ?_)
        exact hR _ (ret1 (hp := rfl))
theorem g_order (p q r s : Nat) (hq : 0 < q) (hs0 : 0 < s) (lp : (digs p).length ≤ 200) (lq : (digs q).length ≤ 200) (lr : (digs r).length ≤ 200) (ls : (digs s).length ≤ 200) : Spc X 70 [nt (digs p), nt (digs q), nt (digs r), nt (digs s)] (.one (.int .i64 (sgn (p * s : Nat) (r * q : Nat)))) := by
  have := g_ordN (q + s) p q r s hq hs0 (Nat.le_refl _) lp lq lr ls
  rwa [ordN_eq _ _ _ _ _ hq hs0 (Nat.le_refl _)] at this
theorem g_CmpN (s : Bool) (m n : Nat) (t : Bool) (p q : Nat) (hf : VF (s, digs m, digs n)) (hg : VF (t, digs p, digs q)) : Spc X 29 [ft (s, digs m, digs n), ft (t, digs p, digs q)] (.one (.int .i64 (sgn (sgI s m * q) (sgI t p * n)))) := by
  refine Spc.start Tryz.func29 rfl (h := fun hs R hR => ?_)
  unfold Tryz.f29
  simp only [entryE, PA.av, List.map_cons, List.map_nil]
  have la := hf.ln
  have lb := hf.ld
  have lc := hg.ln
  have ld := hg.ld
  have pb := hf.pos
  have pd := hg.pos
  rw [nm_mk] at la lc
  rw [dn_mk] at lb ld pb pd
  have sf := hf.sig
  have sg := hg.sig
  rw [nm_mk] at sf sg
  obtain ⟨_, _, c3, c4, c5, c6⟩ := cmp_math (s := s) (t := t) (m := m) (n := n) (p := p) (q := q) pb pd sf sg
  have o1 := g_order m n p q pb pd la lb lc ld
  have o2 := g_order p q m n pd pb lc ld la lb
  refine walk (hQ := ?_)
  refine R_call (g_ValidT hf) (hK := ?_)
  refine walk (hQ := ?_)
  refine R_call (g_ValidT hg) (hK := ?_)
  cases s with
  | true =>
    cases t with
    | true =>
      rw [c6 rfl rfl] at hR
      refine walk (hQ := ?_)
      refine R_call o2 (hK := ?_)
      refine walk (hQ := ?_)
      exact hR _ (ret1 (hp := rfl))
    | false =>
      rw [c4 rfl rfl] at hR
      refine walk (hQ := ?_)
      exact hR _ (ret1 (hp := rfl))
  | false =>
    cases t with
    | true =>
      rw [c5 rfl rfl] at hR
      refine walk (hQ := ?_)
      exact hR _ (ret1 (hp := rfl))
    | false =>
      have c7 : sgn (sgI false m * q) (sgI false p * n) = sgn (m * q : Nat) (p * n : Nat) := by unfold sgI; simp
      rw [c7] at hR
      refine walk (hQ := ?_)
      refine R_call o1 (hK := ?_)
      refine walk (hQ := ?_)
      exact hR _ (ret1 (hp := rfl))
theorem g_Cmp (f g : FrN) : Spc X 29 [ft f, ft g] (.one (.int .i64 (cmpF f g))) := by
  by_cases hv : validF f = true
  · by_cases hw : validF g = true
    · have hf := validF_VF hv
      have hg := validF_VF hw
      have h0 := cmpF_N (s := f.1) (m := nm f) (n := dn f) (t := g.1) (p := nm g) (q := dn g) (by rw [← hf.eta]; exact hf) (by rw [← hg.eta]; exact hg)
      have h1 := g_CmpN f.1 (nm f) (dn f) g.1 (nm g) (dn g) (by rw [← hf.eta]; exact hf) (by rw [← hg.eta]; exact hg)
      rw [← h0, ← hf.eta, ← hg.eta] at h1
      exact h1
    · rw [show cmpF f g = 0 by unfold cmpF; rw [if_neg (fun h => hw h.2)]]
      refine Spc.start Tryz.func29 rfl (h := fun hs R hR => ?_)
      unfold Tryz.f29
      simp only [entryE, PA.av, List.map_cons, List.map_nil]
      refine walk (hQ := ?_)
      refine R_call (g_ValidT (validF_VF hv)) (hK := ?_)
      refine walk (hQ := ?_)
      refine R_call (g_ValidF (Bool.eq_false_iff.2 hw)) (hK := ?_)
      refine walk (hQ := ?_)
      exact hR _ (ret1 (hp := rfl))
  · rw [show cmpF f g = 0 by unfold cmpF; rw [if_neg (fun h => hv h.1)]]
    refine Spc.start Tryz.func29 rfl (h := fun hs R hR => ?_)
    unfold Tryz.f29
    simp only [entryE, PA.av, List.map_cons, List.map_nil]
    refine walk (hQ := ?_)
    refine R_call (g_ValidF (Bool.eq_false_iff.2 hv)) (hK := ?_)
    refine walk (hQ := ?_)
    exact hR _ (ret1 (hp := rfl))
end Go.VS.YtiaijoomngefnaaGreatDoor

