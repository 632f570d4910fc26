/- Fractions: rows copied, sums of rows. Their arguments: rows of fractions, not too long. No condition. -/
import Derived.Test.YtiaijoomngefnaaGreatDoorZVLaw03b
import Derived.Test.YtiaijoomngefnaaGreatDoorZVLGhost
namespace Go.VS.YtiaijoomngefnaaGreatDoor
open Go Go.VL Go.VN Go.RowKit Go.Proofs
set_option maxRecDepth 100000
set_option linter.unusedVariables false

theorem o_cloneF (l : List FrN) (ll : l.length ≤ 1000000) : SpcS X 35 [vP (slc eF l)] [] (.one (.own 0 3 l.length)) [(0, (.pu 26 (l.flatMap eF), false))] := by
  refine SpcS.startL 0 Tryz.func35 rfl (h := fun hs hs2 R hR => ?_)
  unfold Tryz.f35
  simp only [entryV]
  by_cases h0 : l = []
  · subst h0
    refine walk (hQ := ?_)
    refine W_ub (ht := ?_) (hf := ?_)
    · refine walk (hQ := ?_)
      exact hR _ ⟨[(2, .one (.own 0 3 0))], [(0, (.pu 26 [], false))], 0⟩ (le_ghost1 0 26 (hle := le_auto)) (retS1 (hy := rfl) (hle := ⟨rfl, trivial⟩))
    · refine walk (hQ := ?_)
      rw [show ([] : List Int).flatMap eI = ([] : List FrN).flatMap eF from rfl]
      refine walk (hQ := ?_)
      exact hR _ _ AS.Le.rfl' (retS1 (hy := rfl) (hle := ⟨rfl, trivial⟩))
  · have h1 := List.length_pos_iff.2 h0
    refine walk (hQ := ?_)
    rw [show ([] : List Int).flatMap eI = ([] : List FrN).flatMap eF from rfl]
    refine walk (hQ := ?_)
    refine hR _ _ AS.Le.rfl' (retS1 (hy := ?_) (hle := ?_))
    · simp
    · exact ⟨rfl, trivial⟩
theorem s_cloneF (l : List FrN) (ll : l.length ≤ 1000000) : Spc X 35 [.one (slc eF l)] (.one (slc eF l)) := by
  refine Spc.start Tryz.func35 rfl (h := fun hs R hR => ?_)
  unfold Tryz.f35
  simp only [entryE, PA.av]
  by_cases h0 : l = []
  · subst h0
    refine walk (hQ := ?_)
    refine W_ub (ht := ?_) (hf := ?_)
    · refine walk (hQ := ?_)
      exact hR _ (ret1 (hp := rfl))
    · refine walk (hQ := ?_)
      rw [show ([] : List Int).flatMap eI = ([] : List FrN).flatMap eF from rfl]
      refine walk (hQ := ?_)
      exact hR _ (ret1 (hp := rfl))
  · have h1 := List.length_pos_iff.2 h0
    refine walk (hQ := ?_)
    rw [show ([] : List Int).flatMap eI = ([] : List FrN).flatMap eF from rfl]
    refine walk (hQ := ?_)
    exact hR _ (ret1 (hp := rfl))
theorem all_no {l : List FrN} {i : Nat} (hil : i < l.length) (h : validF l[i] = false) : l.all validF = false := by
  rw [List.all_eq_false]
  exact ⟨l[i], List.getElem_mem hil, by rw [h]; decide⟩
theorem take_all {l : List FrN} {i : Nat} (hil : i < l.length) (ho : (l.take i).all validF = true) (h : validF l[i] = true) : (l.take (i + 1)).all validF = true := by
  rw [List.take_succ_eq_append_getElem hil, List.all_append, ho]
  simp [h]
/-- How a box may hold the sum so far. -/
def Holds (c : List PV) (out : FrN) : Prop := c = eF out ∨ (c = [.bool false, .nil, slc eI [1]] ∧ out = (false, [], [1]))
theorem f_Sum (l : List FrN) (ll : l.length ≤ 1000000) : Spc X 34 [.one (slc eF l)] (fr (sumF l)) := by
  refine Spc.start Tryz.func34 rfl (h := fun hs R hR => ?_)
  unfold Tryz.f34
  simp only [entryE, PA.av, List.map_cons, List.map_nil]
  unfold sumF at hR
  refine walk (hQ := ?_)
  refine Lp.intro (fun (i : Nat) => ⟨[(0, vP (slc eF l)), (2, .one (.ptr 0 0)), (11, vP (slc eF l)), (12, vI l.length), (13, vI i)], [(0, (.mx [.pv (.bool false), .pv .nil, .pv .nil], false))], 1⟩) (fun i => i ≤ l.length ∧ (l.take i).all validF = true) (fun i => l.length - i) 0 ⟨Nat.zero_le _, by simp⟩ (h0 := le_auto) (hr := fun i K ⟨hi, ho⟩ hK => ?_)
  refine walk (hQ := ?_)
  refine W_if (ht := fun h1 => ?_) (hf := fun h1 => ?_)
  · have hil : i < l.length := by omega
    have e0 : l.getD i default = l[i] := by rw [List.getD_eq_getElem?_getD, List.getElem?_eq_getElem hil]; rfl
    cases hv : validF l[i] with
    | false =>
      rw [all_no hil hv, if_neg (by decide)] at hR
      refine walk (hQ := ?_)
      rw [e0]
      refine R_call (f_ValidF hv) (hK := ?_)
      refine walk (hQ := ?_)
      exact hR _ (ret2 (hp := rfl))
    | true =>
      refine walk (hQ := ?_)
      rw [e0]
      refine R_call (f_ValidT (validF_VF hv)) (hK := ?_)
      refine walk (hQ := ?_)
      exact hK _ (i + 1) ⟨by omega, take_all hil ho hv⟩ (by omega) le_auto
  · obtain rfl : i = l.length := by omega
    rw [List.take_length] at ho
    rw [if_pos ho] at hR
    have hz := f_number 1 (by decide)
    rw [digs1] at hz
    refine walk (hQ := ?_)
    refine R_call hz (hK := ?_)
    refine walk (hQ := ?_)
    refine Lp.intro3 (fun (i : Nat) (out : FrN) (c : List PV) => ⟨[(2, .one (.ptr 0 0)), (6, .one (.ptr 1 0)), (24, vP (slc eF l)), (25, vI l.length), (26, vI i)], [(0, (.mx [.pv (.bool false), .pv .nil, .pv .nil], false)), (1, (.mx (c.map .pv), false))], 2⟩) (fun i out c => i ≤ l.length ∧ foldF (false, [], [1]) l = foldF out (l.drop i) ∧ Holds c out) (fun i _ _ => l.length - i) 0 (false, [], [1]) [.bool false, .nil, slc eI [1]] ⟨Nat.zero_le _, by rw [List.drop_zero], .inr ⟨rfl, rfl⟩⟩ (h0 := le_auto) (hr := fun i out c K2 ⟨hi2, hfo, hh⟩ hK2 => ?_)
    rcases hh with hh | ⟨hh, ho2⟩
    · subst hh
      refine walk (hQ := ?_)
      refine W_if (ht := fun h2 => ?_) (hf := fun h2 => ?_)
      · have hil : i < l.length := by omega
        have e0 : l.getD i default = l[i] := by rw [List.getD_eq_getElem?_getD, List.getElem?_eq_getElem hil]; rfl
        have hstep := foldF_cons out l i hil
        have hA := f_Add out l[i]
        refine walk (hQ := ?_)
        rw [e0]
        refine R_call hA (hK := ?_)
        refine walk (hQ := ?_)
        refine W_if (ht := fun h3 => ?_) (hf := fun h3 => ?_)
        · rw [hfo, hstep, if_pos h3] at hR
          refine walk (hQ := ?_)
          exact hR _ (ret2 (hp := rfl))
        · rw [hstep, if_neg h3] at hfo
          refine walk (hQ := ?_)
          exact hK2 _ (i + 1) _ (eF (addF out l[i]).1) ⟨by omega, hfo, .inl rfl⟩ (by omega) le_auto
      · obtain rfl : i = l.length := by omega
        rw [List.drop_length] at hfo
        rw [hfo] at hR
        refine walk (hQ := ?_)
        exact hR _ (ret2 (hp := rfl))
    · subst hh ho2
      refine walk (hQ := ?_)
      refine W_if (ht := fun h2 => ?_) (hf := fun h2 => ?_)
      · have hil : i < l.length := by omega
        have e0 : l.getD i default = l[i] := by rw [List.getD_eq_getElem?_getD, List.getElem?_eq_getElem hil]; rfl
        have hstep := foldF_cons (false, [], [1]) l i hil
        have hA := f_Add (false, [], [1]) l[i]
        refine walk (hQ := ?_)
        rw [e0]
        refine R_call hA (hK := ?_)
        refine walk (hQ := ?_)
        refine W_if (ht := fun h3 => ?_) (hf := fun h3 => ?_)
        · rw [hfo, hstep, if_pos h3] at hR
          refine walk (hQ := ?_)
          exact hR _ (ret2 (hp := rfl))
        · rw [hstep, if_neg h3] at hfo
          refine walk (hQ := ?_)
          exact hK2 _ (i + 1) _ (eF (addF (false, [], [1]) l[i]).1) ⟨by omega, hfo, .inl rfl⟩ (by omega) le_auto
      · obtain rfl : i = l.length := by omega
        rw [List.drop_length] at hfo
        rw [hfo] at hR
        refine walk (hQ := ?_)
        exact hR _ (ret2 (hp := rfl))
theorem g_Sum (l : List FrN) (ll : l.length ≤ 1000000) : Spc X 36 [.one (slc eF l)] (fr (sumF l)) := by
  refine Spc.start Tryz.func36 rfl (h := fun hs R hR => ?_)
  unfold Tryz.f36
  simp only [entryE, PA.av, List.map_cons, List.map_nil]
  unfold sumF at hR
  refine walk (hQ := ?_)
  refine Lp.intro (fun (i : Nat) => ⟨[(0, vP (slc eF l)), (2, .one (.ptr 0 0)), (4, vI i)], [(0, (.mx [.pv (.bool false), .pv .nil, .pv .nil], false))], 1⟩) (fun i => i ≤ l.length ∧ (l.take i).all validF = true) (fun i => l.length - i) 0 ⟨Nat.zero_le _, by simp⟩ (h0 := le_auto) (hr := fun i K ⟨hi, ho⟩ hK => ?_)
  refine walk (hQ := ?_)
  refine W_if (ht := fun h1 => ?_) (hf := fun h1 => ?_)
  · have hil : i < l.length := by omega
    have e0 : l.getD i default = l[i] := by rw [List.getD_eq_getElem?_getD, List.getElem?_eq_getElem hil]; rfl
    cases hv : validF l[i] with
    | false =>
      rw [all_no hil hv, if_neg (by decide)] at hR
      refine walk (hQ := ?_)
      rw [e0]
      refine R_call (g_ValidF hv) (hK := ?_)
      refine walk (hQ := ?_)
      exact hR _ (ret2 (hp := rfl))
    | true =>
      refine walk (hQ := ?_)
      rw [e0]
      refine R_call (g_ValidT (validF_VF hv)) (hK := ?_)
      refine walk (hQ := ?_)
      exact hK _ (i + 1) ⟨by omega, take_all hil ho hv⟩ (by omega) le_auto
  · obtain rfl : i = l.length := by omega
    rw [List.take_length] at ho
    rw [if_pos ho] at hR
    have hz := g_Zero
    rw [digs1] at hz
    refine walk (hQ := ?_)
    refine R_call hz (hK := ?_)
    refine walk (hQ := ?_)
    refine Lp.intro3 (fun (i : Nat) (out : FrN) (c : List PV) => ⟨[(0, vP (slc eF l)), (2, .one (.ptr 0 0)), (5, .one (.ptr 1 0)), (6, vI i)], [(0, (.mx [.pv (.bool false), .pv .nil, .pv .nil], false)), (1, (.mx (c.map .pv), false))], 2⟩) (fun i out c => i ≤ l.length ∧ foldF (false, [], [1]) l = foldF out (l.drop i) ∧ Holds c out) (fun i _ _ => l.length - i) 0 (false, [], [1]) (eF (false, [], [1])) ⟨Nat.zero_le _, by rw [List.drop_zero], .inl rfl⟩ (h0 := le_auto) (hr := fun i out c K2 ⟨hi2, hfo, hh⟩ hK2 => ?_)
    rcases hh with hh | ⟨hh, ho2⟩
    · subst hh
      refine walk (hQ := ?_)
      refine W_if (ht := fun h2 => ?_) (hf := fun h2 => ?_)
      · have hil : i < l.length := by omega
        have e0 : l.getD i default = l[i] := by rw [List.getD_eq_getElem?_getD, List.getElem?_eq_getElem hil]; rfl
        have hstep := foldF_cons out l i hil
        have hA := g_Add out l[i]
        refine walk (hQ := ?_)
        rw [e0]
        refine R_call hA (hK := ?_)
        refine walk (hQ := ?_)
        refine W_if (ht := fun h3 => ?_) (hf := fun h3 => ?_)
        · rw [hfo, hstep, if_pos h3] at hR
          refine walk (hQ := ?_)
          exact hR _ (ret2 (hp := rfl))
        · rw [hstep, if_neg h3] at hfo
          refine walk (hQ := ?_)
          exact hK2 _ (i + 1) _ (eF (addF out l[i]).1) ⟨by omega, hfo, .inl rfl⟩ (by omega) le_auto
      · obtain rfl : i = l.length := by omega
        rw [List.drop_length] at hfo
        rw [hfo] at hR
        refine walk (hQ := ?_)
        exact hR _ (ret2 (hp := rfl))
    · subst hh ho2
      refine walk (hQ := ?_)
      refine W_if (ht := fun h2 => ?_) (hf := fun h2 => ?_)
      · have hil : i < l.length := by omega
        have e0 : l.getD i default = l[i] := by rw [List.getD_eq_getElem?_getD, List.getElem?_eq_getElem hil]; rfl
        have hstep := foldF_cons (false, [], [1]) l i hil
        have hA := g_Add (false, [], [1]) l[i]
        refine walk (hQ := ?_)
        rw [e0]
        refine R_call hA (hK := ?_)
        refine walk (hQ := ?_)
        refine W_if (ht := fun h3 => ?_) (hf := fun h3 => ?_)
        · rw [hfo, hstep, if_pos h3] at hR
          refine walk (hQ := ?_)
          exact hR _ (ret2 (hp := rfl))
        · rw [hstep, if_neg h3] at hfo
          refine walk (hQ := ?_)
          exact hK2 _ (i + 1) _ (eF (addF (false, [], [1]) l[i]).1) ⟨by omega, hfo, .inl rfl⟩ (by omega) le_auto
      · obtain rfl : i = l.length := by omega
        rw [List.drop_length] at hfo
        rw [hfo] at hR
        refine walk (hQ := ?_)
        exact hR _ (ret2 (hp := rfl))
end Go.VS.YtiaijoomngefnaaGreatDoor
