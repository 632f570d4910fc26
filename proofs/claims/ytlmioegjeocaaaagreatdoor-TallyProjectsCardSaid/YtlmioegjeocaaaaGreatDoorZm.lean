/- Contracts over whole values, and what they lean on: part m. Each holds under the conditions that it states. -/
import Derived.Test.YtlmioegjeocaaaaGreatDoorZl
import Derived.Lib.ItoaLen
import Derived.Lib.SmallJoins
set_option linter.unusedVariables false
set_option linter.unusedSimpArgs false

namespace Go.VS.YtlmioegjeocaaaaGreatDoor
open Go Go.VL Go.VN Go.RowKit Go.Proofs
set_option maxRecDepth 100000
set_option linter.unusedVariables false
set_option linter.unusedSimpArgs false
theorem gt_step {l : TL} {i : Nat} (hi : i < l.length) (k : List UInt8) : gt (l.drop i) k = if (l.map Prod.fst).getD i [] = k then (l.map Prod.snd).getD i 0 else gt (l.drop (i + 1)) k := by
  rw [getD_map1, getD_map2, List.drop_eq_getElem_cons hi, List.getD_eq_getElem?_getD, List.getElem?_eq_getElem hi]
  rfl
theorem r_Get (l : TL) (key : List UInt8) : Spc X 25 [.agg (eTl (tlT l)), .one (.str key)] (.one (.int .i64 (gt l key))) := by
  refine Spc.start Tryz.func25 rfl (h := fun hs R hR => ?_)
  unfold Tryz.f25
  simp only [entryE, PA.av]
  have lk := (sane_slc (hs.1 (slc eS (tlT l).ks) (by simp [eTl]))).1
  have hla : (l.map Prod.fst).length = l.length := by simp
  have hlb : (l.map Prod.snd).length = l.length := by simp
  have hstep := fun i hi => gt_step (l := l) (i := i) hi key
  simp only [tlT, eTl] at *
  generalize l.map Prod.fst = KS at *
  generalize l.map Prod.snd = CS at *
  refine walk (hQ := ?_)
  refine Lp.intro (fun (i : Nat) => ⟨[(1, vS key), (2, .one (.ptr 0 0)), (5, vI i)], [(0, (.mx [.pv (slc eS KS), .pv (slc eI CS)], false))], 1⟩) (fun i => i ≤ l.length ∧ gt l key = gt (l.drop i) key) (fun i => l.length - i) 0 ⟨Nat.zero_le _, rfl⟩ (h0 := le_auto) (hr := fun i K ⟨hi, ho⟩ hK => ?_)
  refine walk (hQ := ?_)
  refine W_if (ht := fun h1 => ?_) (hf := fun h1 => ?_)
  · have hil : i < l.length := by omega
    have hst := hstep i hil
    refine walk (hQ := ?_)
    refine W_if (ht := fun h2 => ?_) (hf := fun h2 => ?_)
    · rw [if_pos h2] at hst
      refine walk (hQ := ?_)
      exact hR _ (ret1 (hp := by rw [ho, hst]))
    · rw [if_neg h2] at hst
      refine walk (hQ := ?_)
      exact hK _ (i + 1) ⟨by omega, ho.trans hst⟩ (by omega) le_autoL
  · refine walk (hQ := ?_)
    exact hR _ (ret1 (hp := by rw [ho, List.drop_eq_nil_of_le (by omega)]; rfl))
theorem st_step {l : TL} {i : Nat} (hi : i < l.length) (k : List UInt8) (n : Int) (d : Bool) : stL k n d (l.drop i) = if d = false ∧ lexLt ((l.map Prod.fst).getD i []) k = false then (k, n) :: (if (l.map Prod.fst).getD i [] = k then stL k n true (l.drop (i + 1)) else ((l.map Prod.fst).getD i [], (l.map Prod.snd).getD i 0) :: stL k n true (l.drop (i + 1))) else if (l.map Prod.fst).getD i [] = k then stL k n d (l.drop (i + 1)) else ((l.map Prod.fst).getD i [], (l.map Prod.snd).getD i 0) :: stL k n d (l.drop (i + 1)) := by
  rw [getD_map1, getD_map2, List.drop_eq_getElem_cons hi, List.getD_eq_getElem?_getD, List.getElem?_eq_getElem hi]
  show stL k n d (l[i] :: _) = _
  obtain ⟨a, m⟩ := l[i]
  rfl
theorem r_set (l : TL) (key : List UInt8) (n : Int) (hl : l.length ≤ 90000) : Spc X 49 [.agg (eTl (tlT l)), .one (.str key), .one (.int .i64 n)] (.agg (eTl (tlT (setT l key n)))) := by
  refine Spc.start Tryz.func49 rfl (h := fun hs R hR => ?_)
  unfold Tryz.f49
  simp only [entryE, PA.av]
  have hla : (l.map Prod.fst).length = l.length := by simp
  have hlb : (l.map Prod.snd).length = l.length := by simp
  have hstep := fun i hi d => st_step (l := l) (i := i) hi key n d
  unfold setT at hR
  simp only [tlT, eTl] at *
  generalize l.map Prod.fst = KS at *
  generalize l.map Prod.snd = CS at *
  refine walk (hQ := ?_)
  refine Lp.intro4 (fun (oks : List (List UInt8)) (ocs : List Int) (d : Bool) (i : Nat) => ⟨[(1, vS key), (2, vI n), (3, .one (.ptr 0 0)), (6, .one (.ptr 1 0)), (7, .one (.ptr 2 0)), (8, vB d), (9, vI i)], [(0, (.mx [.pv (slc eS KS), .pv (slc eI CS)], false)), (1, (.mx [.pv .nil, .pv .nil], false)), (2, (.mx [.own 3 1 oks.length, .own 4 1 ocs.length], false)), (3, (.pu 9 (oks.flatMap eS), false)), (4, (.pu 3 (ocs.flatMap eI), false))], 5⟩) (fun oks ocs d i => i ≤ l.length ∧ ∃ out : TL, oks = out.map Prod.fst ∧ ocs = out.map Prod.snd ∧ out ++ stL key n d (l.drop i) = stL key n (decide (n = 0)) l ∧ out.length ≤ 2 * i) (fun oks ocs d i => l.length - i) [] [] (decide (n = 0)) 0 ⟨Nat.zero_le _, [], rfl, rfl, rfl, by simp⟩ (h0 := le_ghost1 3 9 (hle := le_ghost1 4 3 (hle := le_retell 2 (cs := [.pv .nil, .pv .nil]) (cs' := [.own 3 1 0, .own 4 1 0]) rfl ⟨rfl, rfl, trivial⟩ rfl (by repeat (first | exact .hit | (apply PutR.miss; rfl))) le_auto))) (hr := fun oks ocs d i K ⟨hi, out, hok, hoc, ho, hol⟩ hK => ?_)
  have hokl : oks.length ≤ 2 * i := by rw [hok, List.length_map]; exact hol
  have hocl : ocs.length ≤ 2 * i := by rw [hoc, List.length_map]; exact hol
  refine walk (hQ := ?_)
  refine W_if (ht := fun h1 => ?_) (hf := fun h1 => ?_)
  · have hil : i < l.length := by omega
    have hst := hstep i hil d
    rw [hst] at ho
    clear hst hstep
    cases d with
    | true =>
      rw [if_neg (by simp)] at ho
      refine walk (hQ := ?_)
      refine W_if (ht := fun h2 => ?_) (hf := fun h2 => ?_)
      · rw [if_neg h2] at ho
        refine walk (hQ := ?_)
        exact hK _ (oks ++ [KS.getD i []]) (ocs ++ [CS.getD i 0]) true (i + 1) ⟨by omega, out ++ [(KS.getD i [], CS.getD i 0)], by rw [hok]; simp, by rw [hoc]; simp, by rw [List.append_assoc]; exact ho, by simp; omega⟩ (by omega) le_autoL
      · rw [if_pos (by simpa using h2)] at ho
        refine walk (hQ := ?_)
        exact hK _ oks ocs true (i + 1) ⟨by omega, out, hok, hoc, ho, by omega⟩ (by omega) le_autoL
    | false =>
      refine walk (hQ := ?_)
      generalize hB : lexLt (KS.getD i []) key = B at *
      refine W_ifb (ht := fun h2 => ?_) (hf := fun h2 => ?_)
      · rw [if_pos ⟨rfl, by simpa using h2⟩] at ho
        refine walk (hQ := ?_)
        refine W_if (ht := fun h3 => ?_) (hf := fun h3 => ?_)
        · rw [if_neg h3] at ho
          refine walk (hQ := ?_)
          exact hK _ (oks ++ [key] ++ [KS.getD i []]) (ocs ++ [n] ++ [CS.getD i 0]) true (i + 1) ⟨by omega, out ++ [(key, n)] ++ [(KS.getD i [], CS.getD i 0)], by rw [hok]; simp, by rw [hoc]; simp, by rw [List.append_assoc, List.append_assoc]; exact ho, by simp; omega⟩ (by omega) le_autoL
        · rw [if_pos (by simpa using h3)] at ho
          refine walk (hQ := ?_)
          exact hK _ (oks ++ [key]) (ocs ++ [n]) true (i + 1) ⟨by omega, out ++ [(key, n)], by rw [hok]; simp, by rw [hoc]; simp, by rw [List.append_assoc]; exact ho, by simp; omega⟩ (by omega) le_autoL
      · rw [if_neg (by rintro ⟨_, h⟩; rw [h] at h2; cases h2)] at ho
        refine walk (hQ := ?_)
        refine W_if (ht := fun h3 => ?_) (hf := fun h3 => ?_)
        · rw [if_neg h3] at ho
          refine walk (hQ := ?_)
          exact hK _ (oks ++ [KS.getD i []]) (ocs ++ [CS.getD i 0]) false (i + 1) ⟨by omega, out ++ [(KS.getD i [], CS.getD i 0)], by rw [hok]; simp, by rw [hoc]; simp, by rw [List.append_assoc]; exact ho, by simp; omega⟩ (by omega) le_autoL
        · rw [if_pos (by simpa using h3)] at ho
          refine walk (hQ := ?_)
          exact hK _ oks ocs false (i + 1) ⟨by omega, out, hok, hoc, ho, by omega⟩ (by omega) le_autoL
  · rw [List.drop_eq_nil_of_le (by omega)] at ho
    cases d with
    | true =>
      refine walk (hQ := ?_)
      refine hR _ (ret1 (hp := ?_))
      rw [← ho, hok, hoc]; simp [stL]
    | false =>
      refine walk (hQ := ?_)
      refine hR _ (ret1 (hp := ?_))
      rw [← ho, hok, hoc]; simp [stL]
end Go.VS.YtlmioegjeocaaaaGreatDoor


namespace Go.VS.YtlmioegjeocaaaaGreatDoor
open Go Go.VL Go.VN Go.RowKit Go.Proofs
set_option maxRecDepth 100000
set_option linter.unusedVariables false
set_option linter.unusedSimpArgs false
theorem r_given (t : Tal) (k : List UInt8) (n : Int) : Spc X 60 [.agg (eTl t), .one (.str k), .one (.int .i64 n)] (.one (.int .i64 (givE t k n))) := by
  refine Spc.start Tryz.func60 rfl (h := fun hs R hR => ?_)
  unfold Tryz.f60
  simp only [entryE, PA.av]
  have k1 := r_Valid t
  have k2 := r_Key k
  unfold givE at hR
  generalize validE t = V at *
  generalize keyE k = E at *
  obtain ⟨ks, cs⟩ := t
  simp only [eTl] at *
  repeat' (first | refine R_call k1 (hK := ?_) | refine R_call k2 (hK := ?_) | refine walkP (hQ := ?_) | refine W_if (ht := fun h => ?_) (hf := fun h => ?_) | refine W_ifb (ht := fun h => ?_) (hf := fun h => ?_) | (refine R_g_if (h1 := fun h => ?_) (h2 := fun h => ?_) <;> simp only [Bool.false_eq_true, if_false, if_true, Decidable.not_not] at h))
  all_goals refine hR _ (ret1 (hp := ?_))
  all_goals (congr 2; grind)
theorem r_both (a b : Tal) : Spc X 62 [.agg (eTl a), .agg (eTl b)] (.one (.int .i64 (if validE a ≠ 0 then validE a else validE b))) := by
  refine Spc.start Tryz.func62 rfl (h := fun hs R hR => ?_)
  unfold Tryz.f62
  simp only [entryE, PA.av]
  have k1 := r_Valid a
  have k2 := r_Valid b
  generalize validE a = V at *
  generalize validE b = E at *
  obtain ⟨ks, cs⟩ := a
  obtain ⟨ks2, cs2⟩ := b
  simp only [eTl] at *
  repeat' (first | refine R_call k1 (hK := ?_) | refine R_call k2 (hK := ?_) | refine walkP (hQ := ?_) | refine W_if (ht := fun h => ?_) (hf := fun h => ?_) | refine W_ifb (ht := fun h => ?_) (hf := fun h => ?_) | (refine R_g_if (h1 := fun h => ?_) (h2 := fun h => ?_) <;> simp only [Bool.false_eq_true, if_false, if_true, Decidable.not_not] at h))
  all_goals refine hR _ (ret1 (hp := ?_))
  all_goals (congr 2; grind)
theorem r_Add (t : Tal) (key : List UInt8) (n : Int) : Spc X 27 [.agg (eTl t), .one (.str key), .one (.int .i64 n)] (taR (addR t key n)) := by
  refine Spc.start Tryz.func27 rfl (h := fun hs R hR => ?_)
  unfold Tryz.f27
  simp only [entryE, PA.av]
  have k1 := r_given t key n
  unfold addR at hR
  by_cases hg : givE t key n = 0
  · obtain ⟨⟨l, rfl, hv⟩, hk, h0, h1⟩ := givE_0 hg
    rw [hg] at k1
    rw [if_neg (by rw [hg]; simp), toL_tlT] at hR
    have hgn := gt_nn hv.pos key
    have hgl := gt_le (l := l) (b := 1000000) (by omega) hv.le key
    have k2 := r_Get l key
    have k3 := r_set l key (gt l key + n) (by have := hv.1; omega)
    have hml : ((tlT (setT l key (gt l key + n))).ks).length = (setT l key (gt l key + n)).length := by simp [tlT]
    generalize setT l key (gt l key + n) = M at *
    simp only [tlT, eTl] at *
    generalize gt l key = G at *
    repeat' (first | refine R_call k1 (hK := ?_) | refine R_call k2 (hK := ?_) | refine R_call k3 (hK := ?_) | refine walkP (hQ := ?_) | refine W_if (ht := fun h => ?_) (hf := fun h => ?_) | refine W_ifb (ht := fun h => ?_) (hf := fun h => ?_) | (refine R_g_if (h1 := fun h => ?_) (h2 := fun h => ?_) <;> simp only [Bool.false_eq_true, if_false, if_true, Decidable.not_not] at h))
    all_goals refine hR _ (ret2 (hp := ?_))
    all_goals first | (rw [if_pos (by omega)]; rfl) | (rw [if_neg (by omega)]; rfl)
  · rw [if_pos hg] at hR
    generalize givE t key n = E at *
    obtain ⟨ks, cs⟩ := t
    simp only [eTl] at *
    refine walk (hQ := ?_)
    refine R_call k1 (hK := ?_)
    refine walk (hQ := ?_)
    refine W_if (ht := fun h1 => ?_) (hf := fun h1 => ?_)
    · refine walk (hQ := ?_)
      exact hR _ (ret2 (hp := rfl))
    · exact absurd h1 (by omega)
theorem r_Remove (t : Tal) (key : List UInt8) (n : Int) : Spc X 29 [.agg (eTl t), .one (.str key), .one (.int .i64 n)] (taR (remR t key n)) := by
  refine Spc.start Tryz.func29 rfl (h := fun hs R hR => ?_)
  unfold Tryz.f29
  simp only [entryE, PA.av]
  have k1 := r_given t key n
  unfold remR at hR
  by_cases hg : givE t key n = 0
  · obtain ⟨⟨l, rfl, hv⟩, hk, h0, h1⟩ := givE_0 hg
    rw [hg] at k1
    rw [if_neg (by rw [hg]; simp), toL_tlT] at hR
    have hgn := gt_nn hv.pos key
    have hgl := gt_le (l := l) (b := 1000000) (by omega) hv.le key
    have k2 := r_Get l key
    have k3 := r_set l key (gt l key - n) (by have := hv.1; omega)
    generalize setT l key (gt l key - n) = M at *
    simp only [tlT, eTl] at *
    generalize gt l key = G at *
    repeat' (first | refine R_call k1 (hK := ?_) | refine R_call k2 (hK := ?_) | refine R_call k3 (hK := ?_) | refine walkP (hQ := ?_) | refine W_if (ht := fun h => ?_) (hf := fun h => ?_) | refine W_ifb (ht := fun h => ?_) (hf := fun h => ?_) | (refine R_g_if (h1 := fun h => ?_) (h2 := fun h => ?_) <;> simp only [Bool.false_eq_true, if_false, if_true, Decidable.not_not] at h))
    all_goals refine hR _ (ret2 (hp := ?_))
    all_goals first | (rw [if_pos (by omega)]; rfl) | (rw [if_neg (by omega)]; rfl)
  · rw [if_pos hg] at hR
    generalize givE t key n = E at *
    obtain ⟨ks, cs⟩ := t
    simp only [eTl] at *
    refine walk (hQ := ?_)
    refine R_call k1 (hK := ?_)
    refine walk (hQ := ?_)
    refine W_if (ht := fun h1 => ?_) (hf := fun h1 => ?_)
    · refine walk (hQ := ?_)
      exact hR _ (ret2 (hp := rfl))
    · exact absurd h1 (by omega)
def underB (p k : List UInt8) : Bool := decide (p = []) || decide (k = p) || Lib.hasPrefix k (p ++ [47])
theorem s_HasPrefix (s t : List UInt8) : Spc X 51 [.one (.str s), .one (.str t)] (.one (.bool (Lib.hasPrefix s t))) :=
  spc_str2 (ent_of2 (P := X.P) Tryz.func51 (by kernel_rfl) (by kernel_rfl)) fun w hG h0 _ => (Tryz.strings_HasPrefix ⟨s.toArray⟩ ⟨t.toArray⟩ w).mono fun e w' ⟨he, hw⟩ => ⟨_, he, .bool _, by rw [hw]; exact Below.refl _ _⟩
theorem pre_slash : ∀ (p k : List UInt8), Lib.hasPrefix k (p ++ [47]) = decide (p.length < k.length ∧ k.take p.length = p ∧ ((k.getD p.length 0).toNat : Int) = 47)
  | [], [] => by simp [Lib.hasPrefix]
  | [], c :: k => by
    have : ((c.toNat : Int) = 47) ↔ c = 47 := ⟨fun h => UInt8.toNat_inj.1 (by show c.toNat = 47; omega), fun h => by rw [h]; rfl⟩
    simp only [Lib.hasPrefix, List.nil_append, List.isPrefixOf, List.length_nil, List.length_cons, List.take_zero, List.getD_cons_zero, this]
    by_cases h : c = 47
    · subst h; simp
    · have h2 : ¬ (47 : UInt8) = c := fun e => h e.symm
      simp [h, h2]
  | a :: p, [] => by simp [Lib.hasPrefix]
  | a :: p, c :: k => by
    have ih := pre_slash p k
    simp only [Lib.hasPrefix, List.cons_append, List.isPrefixOf, List.length_cons, List.take_succ_cons, List.getD_cons_succ] at *
    rw [ih]
    by_cases h : a = c
    · subst h; simp
    · have h2 : ¬ c = a := fun e => h e.symm
      simp [h, h2]
theorem r_Under (k p : List UInt8) : Spc X 53 [.one (.str k), .one (.str p)] (.one (.bool (underB p k))) := by
  refine Spc.start Tryz.func53 rfl (h := fun hs R hR => ?_)
  unfold Tryz.f53
  simp only [entryE, PA.av]
  unfold underB at hR
  have l1 := sane_str hs.1
  have l2 := sane_str hs.2.1
  have lz : p.length = 0 ↔ p = [] := List.length_eq_zero_iff
  repeat' (first | refine walkP (hQ := ?_) | refine W_if (ht := fun h => ?_) (hf := fun h => ?_) | refine W_ifb (ht := fun h => ?_) (hf := fun h => ?_) | (refine R_g_if (h1 := fun h => ?_) (h2 := fun h => ?_) <;> simp only [Bool.false_eq_true, if_false, if_true, Decidable.not_not] at h))
  all_goals refine hR _ (ret1 (hp := ?_))
  all_goals (congr 2; rw [pre_slash]; first | grind | skip)
theorem tot_step {f : List UInt8 → Bool} {l : TL} {i : Nat} (hi : i < l.length) : totL f (l.drop i) = (if f ((l.map Prod.fst).getD i []) = true then (l.map Prod.snd).getD i 0 else 0) + totL f (l.drop (i + 1)) := by
  rw [getD_map1, getD_map2, List.drop_eq_getElem_cons hi, List.getD_eq_getElem?_getD, List.getElem?_eq_getElem hi]
  rfl
theorem tot_bound {f : List UInt8 → Bool} : ∀ {l : TL}, (∀ x ∈ l, 0 ≤ x.2 ∧ x.2 ≤ 10000000) → 0 ≤ totL f l ∧ totL f l ≤ 10000000 * l.length
  | [], _ => by simp [totL]
  | (a, n) :: l, h => by
    have ih := tot_bound (f := f) (l := l) fun x hx => h x (by simp [hx])
    have h0 := h (a, n) (by simp)
    simp only [totL, List.length_cons] at *
    split <;> omega
theorem r_Total (l : TL) (p : List UInt8) (hl : l.length ≤ 90000) (hb : ∀ x ∈ l, 0 ≤ x.2 ∧ x.2 ≤ 10000000) : Spc X 20 [.agg (eTl (tlT l)), .one (.str p)] (.one (.int .i64 (totL (underB p) l))) := by
  refine Spc.start Tryz.func20 rfl (h := fun hs R hR => ?_)
  unfold Tryz.f20
  simp only [entryE, PA.av]
  have k1 := fun k => r_Under k p
  have hla : (l.map Prod.fst).length = l.length := by simp
  have hlb : (l.map Prod.snd).length = l.length := by simp
  have hstep := fun i hi => tot_step (f := underB p) (l := l) (i := i) hi
  have htot := tot_bound (f := underB p) hb
  have hrest := fun i => tot_bound (f := underB p) (l := l.drop i) fun x hx => hb x (List.mem_of_mem_drop hx)
  have hgd := fun i (hi : i < l.length) => hb (l.getD i ([], 0)) (by rw [List.getD_eq_getElem?_getD, List.getElem?_eq_getElem hi]; exact List.getElem_mem hi)
  simp only [← getD_map2] at hgd
  simp only [tlT, eTl] at *
  generalize l.map Prod.fst = KS at *
  generalize l.map Prod.snd = CS at *
  refine walk (hQ := ?_)
  refine Lp.intro2 (fun (s : Int) (i : Nat) => ⟨[(1, vS p), (2, .one (.ptr 0 0)), (5, vI s), (6, vI i)], [(0, (.mx [.pv (slc eS KS), .pv (slc eI CS)], false))], 1⟩) (fun s i => i ≤ l.length ∧ s + totL (underB p) (l.drop i) = totL (underB p) l ∧ 0 ≤ s) (fun s i => l.length - i) 0 0 ⟨Nat.zero_le _, by simp, by omega⟩ (h0 := le_auto) (hr := fun s i K ⟨hi, ho, h0⟩ hK => ?_)
  refine walk (hQ := ?_)
  refine W_if (ht := fun h1 => ?_) (hf := fun h1 => ?_)
  · have hil : i < l.length := by omega
    have hst := hstep i hil
    have hg := hgd i hil
    have hr1 := hrest (i + 1)
    have k2 := k1 (KS.getD i [])
    generalize hU : underB p (KS.getD i []) = U at *
    refine walk (hQ := ?_)
    refine R_call k2 (hK := ?_)
    refine walk (hQ := ?_)
    refine W_ifb (ht := fun h2 => ?_) (hf := fun h2 => ?_)
    · rw [if_pos h2] at hst
      refine walk (hQ := ?_)
      exact hK _ (s + CS.getD i 0) (i + 1) ⟨by omega, by omega, by omega⟩ (by omega) le_auto
    · rw [if_neg (by rw [h2]; simp)] at hst
      refine walk (hQ := ?_)
      exact hK _ s (i + 1) ⟨by omega, by omega, by omega⟩ (by omega) le_auto
  · refine walk (hQ := ?_)
    exact hR _ (ret1 (hp := by rw [← ho, List.drop_eq_nil_of_le (by omega)]; show PA.one (PV.int .i64 s) = PA.one (PV.int .i64 (s + 0)); rw [Int.add_zero]))
theorem t_Total (l : TL) (p : List UInt8) (hl : l.length ≤ 90000) (hpl : p.length ≤ 100000) (hb : ∀ x ∈ l, 0 ≤ x.2 ∧ x.2 ≤ 10000000) : Spc X 18 [.agg (eTl (tlT l)), .one (.str p)] (.one (.int .i64 (totL (underB p) l))) := by
  refine Spc.start Tryz.func18 rfl (h := fun hs R hR => ?_)
  unfold Tryz.f18
  simp only [entryE, PA.av]
  have k1 := fun k => s_HasPrefix k (p ++ [47])
  have hla : (l.map Prod.fst).length = l.length := by simp
  have hlb : (l.map Prod.snd).length = l.length := by simp
  have hstep := fun i hi => tot_step (f := underB p) (l := l) (i := i) hi
  have htot := tot_bound (f := underB p) hb
  have hrest := fun i => tot_bound (f := underB p) (l := l.drop i) fun x hx => hb x (List.mem_of_mem_drop hx)
  have hgd := fun i (hi : i < l.length) => hb (l.getD i ([], 0)) (by rw [List.getD_eq_getElem?_getD, List.getElem?_eq_getElem hi]; exact List.getElem_mem hi)
  simp only [← getD_map2] at hgd
  simp only [tlT, eTl] at *
  generalize l.map Prod.fst = KS at *
  generalize l.map Prod.snd = CS at *
  refine walk (hQ := ?_)
  refine Lp.intro2 (fun (s : Int) (i : Nat) => ⟨[(1, vS p), (2, .one (.ptr 0 0)), (5, vI s), (9, vP (slc eS KS)), (10, vI KS.length), (11, vI i)], [(0, (.mx [.pv (slc eS KS), .pv (slc eI CS)], false))], 1⟩) (fun s i => i ≤ l.length ∧ s + totL (underB p) (l.drop i) = totL (underB p) l ∧ 0 ≤ s) (fun s i => l.length - i) 0 0 ⟨Nat.zero_le _, by simp, by omega⟩ (h0 := le_auto) (hr := fun s i K ⟨hi, ho, h0⟩ hK => ?_)
  refine walk (hQ := ?_)
  refine W_if (ht := fun h1 => ?_) (hf := fun h1 => ?_)
  · have hil : i < l.length := by omega
    have hst := hstep i hil
    have hg := hgd i hil
    have hr1 := hrest (i + 1)
    have k2 := k1 (KS.getD i [])
    have hU : underB p (KS.getD i []) = (decide (p = []) || decide (KS.getD i [] = p) || Lib.hasPrefix (KS.getD i []) (p ++ [47])) := rfl
    repeat' (first | refine R_call k2 (hK := ?_) | refine walkP (hQ := ?_) | refine W_if (ht := fun h => ?_) (hf := fun h => ?_) | refine W_ifb (ht := fun h => ?_) (hf := fun h => ?_) | (refine R_g_if (h1 := fun h => ?_) (h2 := fun h => ?_) <;> simp only [Bool.false_eq_true, if_false, if_true, Decidable.not_not] at h))
    · have e : underB p (KS.getD i []) = true := by grind
      rw [if_pos e] at hst
      exact hK _ (s + CS.getD i 0) (i + 1) ⟨by omega, by omega, by omega⟩ (by omega) le_auto
    · have e : underB p (KS.getD i []) = false := by grind
      rw [if_neg (by rw [e]; simp)] at hst
      exact hK _ s (i + 1) ⟨by omega, by omega, by omega⟩ (by omega) le_auto
    · have e : underB p (KS.getD i []) = true := by grind
      rw [if_pos e] at hst
      exact hK _ (s + CS.getD i 0) (i + 1) ⟨by omega, by omega, by omega⟩ (by omega) le_auto
    · have e : underB p (KS.getD i []) = true := by grind
      rw [if_pos e] at hst
      exact hK _ (s + CS.getD i 0) (i + 1) ⟨by omega, by omega, by omega⟩ (by omega) le_auto
  · refine walk (hQ := ?_)
    exact hR _ (ret1 (hp := by rw [← ho, List.drop_eq_nil_of_le (by omega)]; show PA.one (PV.int .i64 s) = PA.one (PV.int .i64 (s + 0)); rw [Int.add_zero]))
theorem nth_key {l : TL} {i : Nat} (hi : i < l.length) : ((l.map Prod.fst).getD i [], (l.map Prod.snd).getD i 0) = l.getD i ([], 0) := by rw [getD_map1, getD_map2]
theorem mg_step {l : TL} {i : Nat} (hi : i < l.length) (A T : TL) : mgL A T (l.drop i) = if 1000000 < gt A ((l.map Prod.fst).getD i []) + (l.map Prod.snd).getD i 0 then none else mgL A (setT T ((l.map Prod.fst).getD i []) (gt A ((l.map Prod.fst).getD i []) + (l.map Prod.snd).getD i 0)) (l.drop (i + 1)) := by
  rw [getD_map1, getD_map2, List.drop_eq_getElem_cons hi, List.getD_eq_getElem?_getD, List.getElem?_eq_getElem hi]
  rfl
theorem mn_step {l : TL} {i : Nat} (hi : i < l.length) (A T : TL) : mnL A T (l.drop i) = if gt A ((l.map Prod.fst).getD i []) < (l.map Prod.snd).getD i 0 then none else mnL A (setT T ((l.map Prod.fst).getD i []) (gt A ((l.map Prod.fst).getD i []) - (l.map Prod.snd).getD i 0)) (l.drop (i + 1)) := by
  rw [getD_map1, getD_map2, List.drop_eq_getElem_cons hi, List.getD_eq_getElem?_getD, List.getElem?_eq_getElem hi]
  rfl
theorem set_id {l : TL} (h : VT l) : setT l [] 0 = l := by
  show stL [] 0 true l = l
  rw [stL_true]
  refine List.filter_eq_self.2 fun x hx => decide_eq_true fun q => ?_
  have := (h.2.2 x hx).1
  rw [q] at this
  exact absurd this (by decide)
theorem r_Merge (a b : Tal) : Spc X 35 [.agg (eTl a), .agg (eTl b)] (taR (mrgR a b)) := by
  refine Spc.start Tryz.func35 rfl (h := fun hs R hR => ?_)
  unfold Tryz.f35
  simp only [entryE, PA.av]
  have k1 := r_both a b
  unfold mrgR at hR
  by_cases ha : validE a = 0
  · by_cases hb : validE b = 0
    · obtain ⟨A, rfl, hA⟩ := valid_of ha
      obtain ⟨B, rfl, hB⟩ := valid_of hb
      rw [if_neg (by rw [ha]; simp), if_neg (by rw [hb]; simp), toL_tlT, toL_tlT] at hR
      rw [if_neg (by rw [ha]; simp), hb] at k1
      have k2 := r_set A [] 0 (by have := hA.1; omega)
      rw [set_id hA] at k2
      have k3 := fun k => r_Get A k
      have k4 := fun T k n h => r_set T k n h
      have hAl := hA.1
      have hBl := hB.1
      have hla : (B.map Prod.fst).length = B.length := by simp
      have hlb : (B.map Prod.snd).length = B.length := by simp
      have hstep := fun i hi T => mg_step (l := B) (i := i) hi A T
      have hgA := fun k => (⟨gt_nn hA.pos k, gt_le (l := A) (b := 1000000) (by omega) hA.le k⟩ : 0 ≤ gt A k ∧ gt A k ≤ 1000000)
      have hgB := fun i (hi : i < B.length) => (hB.2.2 (B.getD i ([], 0)) (by rw [List.getD_eq_getElem?_getD, List.getElem?_eq_getElem hi]; exact List.getElem_mem hi)).2
      simp only [← getD_map2] at hgB
      have hlrg : largeL (mrg A B) = true ↔ mgL A A B = none ∨ ∃ T, mgL A A B = some T ∧ 2000 < T.length := by
        unfold largeL
        rw [mrg_any hA hB]
        cases hq : B.any fun x => decide (1000000 < gt A x.1 + x.2) with
        | true => simp [mgL_none A B A hq]
        | false => rw [mgL_some A B A hq, mgF_eq hA.2.1 hB.2.1 hA.pos hB.pos]; simp
      have hlrg2 : ∀ T, mgL A A B = some T → T = mrg A B := fun T h => by
        cases hq : B.any fun x => decide (1000000 < gt A x.1 + x.2) with
        | true => rw [mgL_none A B A hq] at h; cases h
        | false => rw [mgL_some A B A hq, mgF_eq hA.2.1 hB.2.1 hA.pos hB.pos] at h; exact (Option.some.inj h).symm
      simp only [tlT, eTl] at *
      generalize hKB : B.map Prod.fst = KB at *
      generalize hCB : B.map Prod.snd = CB at *
      generalize hKA : A.map Prod.fst = KA at *
      generalize hCA : A.map Prod.snd = CA at *
      refine walk (hQ := ?_)
      refine R_call k1 (hK := ?_)
      refine walk (hQ := ?_)
      refine R_call k2 (hK := ?_)
      refine walk (hQ := ?_)
      refine Lp.intro2 (fun (T : TL) (i : Nat) => ⟨[(2, .one (.ptr 0 0)), (3, .one (.ptr 1 0)), (4, .one (.ptr 2 0)), (7, .one (.ptr 3 0)), (8, vI i)], [(0, (.mx [.pv (slc eS KA), .pv (slc eI CA)], false)), (1, (.mx [.pv (slc eS KB), .pv (slc eI CB)], false)), (2, (.mx [.pv .nil, .pv .nil], false)), (3, (.mx [.pv (slc eS (T.map Prod.fst)), .pv (slc eI (T.map Prod.snd))], false))], 4⟩) (fun T i => i ≤ B.length ∧ mgL A T (B.drop i) = mgL A A B ∧ SK T ∧ T.length ≤ A.length + i) (fun T i => B.length - i) A 0 ⟨Nat.zero_le _, rfl, hA.2.1, by omega⟩ (h0 := by rw [hKA, hCA]; exact le_auto) (hr := fun T i K ⟨hi, ho, hT, htl⟩ hK => ?_)
      refine walk (hQ := ?_)
      refine W_if (ht := fun h1 => ?_) (hf := fun h1 => ?_)
      · have hil : i < B.length := by omega
        have hst := hstep i hil T
        have g1 := hgA (KB.getD i [])
        have g2 := hgB i hil
        have k5 := k3 (KB.getD i [])
        refine walk (hQ := ?_)
        refine R_call k5 (hK := ?_)
        refine walk (hQ := ?_)
        refine W_if (ht := fun h2 => ?_) (hf := fun h2 => ?_)
        · rw [if_pos (by omega)] at hst
          rw [← ho, hst] at hlrg
          rw [if_pos (hlrg.2 (.inl rfl))] at hR
          refine walk (hQ := ?_)
          exact hR _ (ret2 (hp := rfl))
        · rw [if_neg (by omega)] at hst
          have k6 := k4 T (KB.getD i []) (gt A (KB.getD i []) + CB.getD i 0) (by omega)
          have hsl := set_len hT (KB.getD i []) (gt A (KB.getD i []) + CB.getD i 0)
          have hsk := set_SK hT (KB.getD i []) (gt A (KB.getD i []) + CB.getD i 0)
          generalize setT T (KB.getD i []) (gt A (KB.getD i []) + CB.getD i 0) = T' at *
          refine walk (hQ := ?_)
          refine R_call k6 (hK := ?_)
          refine walk (hQ := ?_)
          exact hK _ T' (i + 1) ⟨by omega, by rw [← ho, hst], hsk, by omega⟩ (by omega) le_auto
      · rw [List.drop_eq_nil_of_le (by omega)] at ho
        have ho' : mgL A A B = some T := ho.symm
        have hTm := hlrg2 T ho'
        rw [ho'] at hlrg
        refine walk (hQ := ?_)
        refine W_if (ht := fun h2 => ?_) (hf := fun h2 => ?_)
        · rw [if_pos (hlrg.2 (.inr ⟨T, rfl, by simp only [List.length_map] at h2; omega⟩))] at hR
          refine walk (hQ := ?_)
          exact hR _ (ret2 (hp := rfl))
        · rw [if_neg (fun h => by
            rcases hlrg.1 h with h | ⟨T2, h, h3⟩
            · cases h
            · simp only [Option.some.injEq] at h
              subst h
              simp only [List.length_map] at h2
              omega), ← hTm] at hR
          refine walk (hQ := ?_)
          exact hR _ (ret2 (hp := rfl))
    · rw [if_neg (by rw [ha]; simp), if_pos hb] at hR
      rw [if_neg (by rw [ha]; simp)] at k1
      generalize validE b = E at *
      obtain ⟨ks, cs⟩ := a
      obtain ⟨ks2, cs2⟩ := b
      simp only [eTl] at *
      refine walk (hQ := ?_)
      refine R_call k1 (hK := ?_)
      refine walk (hQ := ?_)
      refine W_if (ht := fun h1 => ?_) (hf := fun h1 => ?_)
      · refine walk (hQ := ?_)
        exact hR _ (ret2 (hp := rfl))
      · exact absurd h1 (by omega)
  · rw [if_pos ha] at hR k1
    generalize validE a = E at *
    obtain ⟨ks, cs⟩ := a
    obtain ⟨ks2, cs2⟩ := b
    simp only [eTl] at *
    refine walk (hQ := ?_)
    refine R_call k1 (hK := ?_)
    refine walk (hQ := ?_)
    refine W_if (ht := fun h1 => ?_) (hf := fun h1 => ?_)
    · refine walk (hQ := ?_)
      exact hR _ (ret2 (hp := rfl))
    · exact absurd h1 (by omega)
end Go.VS.YtlmioegjeocaaaaGreatDoor


namespace Go.VS.YtlmioegjeocaaaaGreatDoor
open Go Go.VL Go.VN Go.RowKit Go.Proofs
set_option maxRecDepth 100000
set_option linter.unusedVariables false
set_option linter.unusedSimpArgs false
theorem r_Minus (a b : Tal) : Spc X 37 [.agg (eTl a), .agg (eTl b)] (taR (minR a b)) := by
  refine Spc.start Tryz.func37 rfl (h := fun hs R hR => ?_)
  unfold Tryz.f37
  simp only [entryE, PA.av]
  have k1 := r_both a b
  unfold minR at hR
  by_cases ha : validE a = 0
  · by_cases hb : validE b = 0
    · obtain ⟨A, rfl, hA⟩ := valid_of ha
      obtain ⟨B, rfl, hB⟩ := valid_of hb
      rw [if_neg (by rw [ha]; simp), if_neg (by rw [hb]; simp), toL_tlT, toL_tlT] at hR
      rw [if_neg (by rw [ha]; simp), hb] at k1
      have k2 := r_set A [] 0 (by have := hA.1; omega)
      rw [set_id hA] at k2
      have k3 := fun k => r_Get A k
      have k4 := fun T k n h => r_set T k n h
      have hAl := hA.1
      have hBl := hB.1
      have hla : (B.map Prod.fst).length = B.length := by simp
      have hlb : (B.map Prod.snd).length = B.length := by simp
      have hstep := fun i hi T => mn_step (l := B) (i := i) hi A T
      have hgA := fun k => (⟨gt_nn hA.pos k, gt_le (l := A) (b := 1000000) (by omega) hA.le k⟩ : 0 ≤ gt A k ∧ gt A k ≤ 1000000)
      have hgB := fun i (hi : i < B.length) => (hB.2.2 (B.getD i ([], 0)) (by rw [List.getD_eq_getElem?_getD, List.getElem?_eq_getElem hi]; exact List.getElem_mem hi)).2
      simp only [← getD_map2] at hgB
      have hno : mnL A A B = none ↔ B.any (fun x => decide (gt A x.1 < x.2)) = true := by
        cases hq : B.any fun x => decide (gt A x.1 < x.2) with
        | true => simp [mnL_none A B A hq]
        | false => simp [mnL_some A B A hq]
      have hso : ∀ T, mnL A A B = some T → T = minL A B := fun T h => by
        cases hq : B.any fun x => decide (gt A x.1 < x.2) with
        | true => rw [mnL_none A B A hq] at h; cases h
        | false =>
          rw [mnL_some A B A hq, mnF_eq hA.2.1 hB.2.1 hA.pos hB.pos fun x hx => by
            rw [List.any_eq_false] at hq
            have := hq x hx
            simpa using this] at h
          exact (Option.some.inj h).symm
      simp only [tlT, eTl] at *
      generalize hKB : B.map Prod.fst = KB at *
      generalize hCB : B.map Prod.snd = CB at *
      generalize hKA : A.map Prod.fst = KA at *
      generalize hCA : A.map Prod.snd = CA at *
      refine walk (hQ := ?_)
      refine R_call k1 (hK := ?_)
      refine walk (hQ := ?_)
      refine R_call k2 (hK := ?_)
      refine walk (hQ := ?_)
      refine Lp.intro2 (fun (T : TL) (i : Nat) => ⟨[(2, .one (.ptr 0 0)), (3, .one (.ptr 1 0)), (4, .one (.ptr 2 0)), (7, .one (.ptr 3 0)), (8, vI i)], [(0, (.mx [.pv (slc eS KA), .pv (slc eI CA)], false)), (1, (.mx [.pv (slc eS KB), .pv (slc eI CB)], false)), (2, (.mx [.pv .nil, .pv .nil], false)), (3, (.mx [.pv (slc eS (T.map Prod.fst)), .pv (slc eI (T.map Prod.snd))], false))], 4⟩) (fun T i => i ≤ B.length ∧ mnL A T (B.drop i) = mnL A A B ∧ SK T ∧ T.length ≤ A.length + i) (fun T i => B.length - i) A 0 ⟨Nat.zero_le _, rfl, hA.2.1, by omega⟩ (h0 := by rw [hKA, hCA]; exact le_auto) (hr := fun T i K ⟨hi, ho, hT, htl⟩ hK => ?_)
      refine walk (hQ := ?_)
      refine W_if (ht := fun h1 => ?_) (hf := fun h1 => ?_)
      · have hil : i < B.length := by omega
        have hst := hstep i hil T
        have g1 := hgA (KB.getD i [])
        have g2 := hgB i hil
        have k5 := k3 (KB.getD i [])
        refine walk (hQ := ?_)
        refine R_call k5 (hK := ?_)
        refine walk (hQ := ?_)
        refine W_if (ht := fun h2 => ?_) (hf := fun h2 => ?_)
        · rw [if_pos (by omega)] at hst
          rw [if_pos (hno.1 (by rw [← ho, hst]))] at hR
          refine walk (hQ := ?_)
          exact hR _ (ret2 (hp := rfl))
        · rw [if_neg (by omega)] at hst
          have k6 := k4 T (KB.getD i []) (gt A (KB.getD i []) - CB.getD i 0) (by omega)
          have hsl := set_len hT (KB.getD i []) (gt A (KB.getD i []) - CB.getD i 0)
          have hsk := set_SK hT (KB.getD i []) (gt A (KB.getD i []) - CB.getD i 0)
          generalize setT T (KB.getD i []) (gt A (KB.getD i []) - CB.getD i 0) = T' at *
          refine walk (hQ := ?_)
          refine R_call k6 (hK := ?_)
          refine walk (hQ := ?_)
          exact hK _ T' (i + 1) ⟨by omega, by rw [← ho, hst], hsk, by omega⟩ (by omega) le_auto
      · rw [List.drop_eq_nil_of_le (by omega)] at ho
        have ho' : mnL A A B = some T := ho.symm
        rw [if_neg (fun h => by rw [hno.2 h] at ho'; cases ho'), ← hso T ho'] at hR
        refine walk (hQ := ?_)
        exact hR _ (ret2 (hp := rfl))
    · rw [if_neg (by rw [ha]; simp), if_pos hb] at hR
      rw [if_neg (by rw [ha]; simp)] at k1
      generalize validE b = E at *
      obtain ⟨ks, cs⟩ := a
      obtain ⟨ks2, cs2⟩ := b
      simp only [eTl] at *
      refine walk (hQ := ?_)
      refine R_call k1 (hK := ?_)
      refine walk (hQ := ?_)
      refine W_if (ht := fun h1 => ?_) (hf := fun h1 => ?_)
      · refine walk (hQ := ?_)
        exact hR _ (ret2 (hp := rfl))
      · exact absurd h1 (by omega)
  · rw [if_pos ha] at hR k1
    generalize validE a = E at *
    obtain ⟨ks, cs⟩ := a
    obtain ⟨ks2, cs2⟩ := b
    simp only [eTl] at *
    refine walk (hQ := ?_)
    refine R_call k1 (hK := ?_)
    refine walk (hQ := ?_)
    refine W_if (ht := fun h1 => ?_) (hf := fun h1 => ?_)
    · refine walk (hQ := ?_)
      exact hR _ (ret2 (hp := rfl))
    · exact absurd h1 (by omega)
theorem dropc {l : TL} {i : Nat} (hi : i < l.length) : l.drop i = ((l.map Prod.fst).getD i [], (l.map Prod.snd).getD i 0) :: l.drop (i + 1) := by
  rw [getD_map1, getD_map2, List.drop_eq_getElem_cons hi, List.getD_eq_getElem?_getD, List.getElem?_eq_getElem hi]
  rfl
set_option maxHeartbeats 4000000 in
theorem t_Merge (a b : Tal) : Spc X 34 [.agg (eTl a), .agg (eTl b)] (taR (mrgR a b)) := by
  refine Spc.start Tryz.func34 rfl (h := fun hs R hR => ?_)
  unfold Tryz.f34
  simp only [entryE, PA.av]
  have k1 := t_both a b
  unfold mrgR at hR
  by_cases ha : validE a = 0
  · by_cases hb : validE b = 0
    · obtain ⟨A, rfl, hA⟩ := valid_of ha
      obtain ⟨B, rfl, hB⟩ := valid_of hb
      rw [if_neg (by rw [ha]; simp), if_neg (by rw [hb]; simp), toL_tlT, toL_tlT] at hR
      rw [if_neg (by rw [ha]; simp), hb] at k1
      have k2 := fun M => t_large M
      have hAl := hA.1
      have hBl := hB.1
      have hla : (A.map Prod.fst).length = A.length := by simp
      have hlb : (A.map Prod.snd).length = A.length := by simp
      have hlc : (B.map Prod.fst).length = B.length := by simp
      have hld : (B.map Prod.snd).length = B.length := by simp
      have stA := fun i hi => dropc (l := A) (i := i) hi
      have stB := fun i hi => dropc (l := B) (i := i) hi
      have gA := fun i (hi : i < A.length) => (hA.2.2 (A.getD i ([], 0)) (by rw [List.getD_eq_getElem?_getD, List.getElem?_eq_getElem hi]; exact List.getElem_mem hi)).2
      have gB := fun i (hi : i < B.length) => (hB.2.2 (B.getD i ([], 0)) (by rw [List.getD_eq_getElem?_getD, List.getElem?_eq_getElem hi]; exact List.getElem_mem hi)).2
      simp only [← getD_map2] at gA gB
      simp only [tlT, eTl] at *
      generalize hKB : B.map Prod.fst = KB at *
      generalize hCB : B.map Prod.snd = CB at *
      generalize hKA : A.map Prod.fst = KA at *
      generalize hCA : A.map Prod.snd = CA at *
      refine walk (hQ := ?_)
      refine R_call k1 (hK := ?_)
      refine walk (hQ := ?_)
      refine Lp.intro4 (fun (oks : List (List UInt8)) (ocs : List Int) (i k : Nat) => ⟨[(2, .one (.ptr 0 0)), (3, .one (.ptr 1 0)), (4, .one (.ptr 2 0)), (7, .one (.ptr 3 0)), (8, vI i), (9, vI k)], [(0, (.mx [.pv (slc eS KA), .pv (slc eI CA)], false)), (1, (.mx [.pv (slc eS KB), .pv (slc eI CB)], false)), (2, (.mx [.pv .nil, .pv .nil], false)), (3, (.mx [.own 4 1 oks.length, .own 5 1 ocs.length], false)), (4, (.pu 9 (oks.flatMap eS), false)), (5, (.pu 3 (ocs.flatMap eI), false))], 6⟩) (fun oks ocs i k => i ≤ A.length ∧ k ≤ B.length ∧ ∃ out : TL, oks = out.map Prod.fst ∧ ocs = out.map Prod.snd ∧ out ++ mrg (A.drop i) (B.drop k) = mrg A B ∧ out.length ≤ i + k) (fun oks ocs i k => A.length - i + (B.length - k)) [] [] 0 0 ⟨Nat.zero_le _, Nat.zero_le _, [], rfl, rfl, rfl, by simp⟩ (h0 := le_ghost1 4 9 (hle := le_ghost1 5 3 (hle := le_retell 3 (cs := [.pv .nil, .pv .nil]) (cs' := [.own 4 1 0, .own 5 1 0]) rfl ⟨rfl, rfl, trivial⟩ rfl (by repeat (first | exact .hit | (apply PutR.miss; rfl))) le_auto))) (hr := fun oks ocs i k K ⟨hi, hk, out, hok, hoc, ho, hol⟩ hK => ?_)
      have hokl : oks.length ≤ i + k := by rw [hok, List.length_map]; exact hol
      have hocl : ocs.length ≤ i + k := by rw [hoc, List.length_map]; exact hol
      have tkA : i < A.length → (k = B.length ∨ lexLt (KA.getD i []) (KB.getD k []) = true) → k ≤ B.length → out ++ [(KA.getD i [], CA.getD i 0)] ++ mrg (A.drop (i + 1)) (B.drop k) = mrg A B := fun h1 h2 h3 => by
        rw [← ho, List.append_assoc]
        congr 1
        rw [stA i h1]
        rcases Nat.lt_or_ge k B.length with h4 | h4
        · rw [stB k h4, mrg_cons, if_pos (h2.resolve_left (by omega))]; rfl
        · rw [List.drop_eq_nil_of_le h4, mrg_nil, mrg_nil]; rfl
      have tkB : k < B.length → (i = A.length ∨ (lexLt (KA.getD i []) (KB.getD k []) = false ∧ lexLt (KB.getD k []) (KA.getD i []) = true)) → out ++ [(KB.getD k [], CB.getD k 0)] ++ mrg (A.drop i) (B.drop (k + 1)) = mrg A B := fun h1 h2 => by
        rw [← ho, List.append_assoc]
        congr 1
        rw [stB k h1]
        rcases Nat.lt_or_ge i A.length with h4 | h4
        · have h5 := h2.resolve_left (by omega)
          rw [stA i h4, mrg_cons, if_neg (by rw [h5.1]; simp), if_pos h5.2]; rfl
        · rw [List.drop_eq_nil_of_le h4, mrg, mrg]; rfl
      have tkC : i < A.length → k < B.length → lexLt (KA.getD i []) (KB.getD k []) = false → lexLt (KB.getD k []) (KA.getD i []) = false → out ++ [(KA.getD i [], CA.getD i 0 + CB.getD k 0)] ++ mrg (A.drop (i + 1)) (B.drop (k + 1)) = mrg A B := fun h1 h2 h3 h4 => by
        rw [← ho, List.append_assoc]
        congr 1
        rw [stA i h1, stB k h2, mrg_cons, if_neg (by rw [h3]; simp), if_neg (by rw [h4]; simp)]; rfl
      have g1 := gA i
      have g2 := gB k
      clear stA stB gA gB
      repeat' (first | refine walkP (hQ := ?_) | refine W_if (ht := fun h => ?_) (hf := fun h => ?_) | refine W_ifb (ht := fun h => ?_) (hf := fun h => ?_) | (refine R_g_if (h1 := fun h => ?_) (h2 := fun h => ?_) <;> simp only [Bool.false_eq_true, if_false, if_true, Decidable.not_not] at h))
      all_goals try (exfalso; omega)
      · exact hK _ (oks ++ [KB.getD k []]) (ocs ++ [CB.getD k 0]) i (k + 1) ⟨hi, by omega, out ++ [(KB.getD k [], CB.getD k 0)], by rw [hok]; simp, by rw [hoc]; simp, tkB (by omega) (.inl (by omega)), by simp; omega⟩ (by omega) le_autoL
      · have hM : out = mrg A B := by
          rw [← ho, List.drop_eq_nil_of_le (by omega), List.drop_eq_nil_of_le (by omega), mrg_nil, List.append_nil]
        rw [← hM] at hR
        have k3 := k2 out
        rw [← hok, ← hoc] at k3
        rw [← hok, ← hoc] at hR
        generalize largeL out = L at *
        refine R_callP (ids' := [4, 5]) k3 (hK := ?_)
        refine walk (hQ := ?_)
        refine W_ifb (ht := fun h1 => ?_) (hf := fun h1 => ?_)
        · rw [if_pos h1] at hR
          refine walk (hQ := ?_)
          exact hR _ (ret2 (hp := rfl))
        · rw [if_neg (by rw [h1]; simp)] at hR
          refine walk (hQ := ?_)
          exact hR _ (ret2 (hp := rfl))
      · exact hK _ (oks ++ [KA.getD i []]) (ocs ++ [CA.getD i 0]) (i + 1) k ⟨by omega, hk, out ++ [(KA.getD i [], CA.getD i 0)], by rw [hok]; simp, by rw [hoc]; simp, tkA (by omega) (.inr (by assumption)) hk, by simp; omega⟩ (by omega) le_autoL
      · exact hK _ (oks ++ [KB.getD k []]) (ocs ++ [CB.getD k 0]) i (k + 1) ⟨hi, by omega, out ++ [(KB.getD k [], CB.getD k 0)], by rw [hok]; simp, by rw [hoc]; simp, tkB (by omega) (.inr ⟨by assumption, by assumption⟩), by simp; omega⟩ (by omega) le_autoL
      · exact hK _ (oks ++ [KA.getD i []]) (ocs ++ [CA.getD i 0 + CB.getD k 0]) (i + 1) (k + 1) ⟨by omega, by omega, out ++ [(KA.getD i [], CA.getD i 0 + CB.getD k 0)], by rw [hok]; simp, by rw [hoc]; simp, tkC (by omega) (by omega) (by assumption) (by assumption), by simp; omega⟩ (by omega) le_autoL
      · exact hK _ (oks ++ [KA.getD i []]) (ocs ++ [CA.getD i 0]) (i + 1) k ⟨by omega, hk, out ++ [(KA.getD i [], CA.getD i 0)], by rw [hok]; simp, by rw [hoc]; simp, tkA (by omega) (.inl (by omega)) hk, by simp; omega⟩ (by omega) le_autoL
    · rw [if_neg (by rw [ha]; simp), if_pos hb] at hR
      rw [if_neg (by rw [ha]; simp)] at k1
      generalize validE b = E at *
      obtain ⟨ks, cs⟩ := a
      obtain ⟨ks2, cs2⟩ := b
      simp only [eTl] at *
      refine walk (hQ := ?_)
      refine R_call k1 (hK := ?_)
      refine walk (hQ := ?_)
      refine W_if (ht := fun h1 => ?_) (hf := fun h1 => ?_)
      · refine walk (hQ := ?_)
        exact hR _ (ret2 (hp := rfl))
      · exact absurd h1 (by omega)
  · rw [if_pos ha] at hR k1
    generalize validE a = E at *
    obtain ⟨ks, cs⟩ := a
    obtain ⟨ks2, cs2⟩ := b
    simp only [eTl] at *
    refine walk (hQ := ?_)
    refine R_call k1 (hK := ?_)
    refine walk (hQ := ?_)
    refine W_if (ht := fun h1 => ?_) (hf := fun h1 => ?_)
    · refine walk (hQ := ?_)
      exact hR _ (ret2 (hp := rfl))
    · exact absurd h1 (by omega)
end Go.VS.YtlmioegjeocaaaaGreatDoor


namespace Go.VS.YtlmioegjeocaaaaGreatDoor
open Go Go.VL Go.VN Go.RowKit Go.Proofs
set_option maxRecDepth 100000
set_option linter.unusedVariables false
set_option linter.unusedSimpArgs false
theorem min_step {A B : TL} {i : Nat} (hi : i < A.length) : minL (A.drop i) B = if 0 < (A.map Prod.snd).getD i 0 - gt B ((A.map Prod.fst).getD i []) then ((A.map Prod.fst).getD i [], (A.map Prod.snd).getD i 0 - gt B ((A.map Prod.fst).getD i [])) :: minL (A.drop (i + 1)) B else minL (A.drop (i + 1)) B := by
  rw [dropc hi]
  unfold minL
  rw [List.filterMap_cons]
  simp only
  split
  · rename_i h; split at h
    · cases h
    · rename_i h2; rw [if_neg h2]
  · rename_i y h; split at h
    · rename_i h2; rw [if_pos h2]; simp only [Option.some.injEq] at h; rw [h]
    · cases h
set_option maxHeartbeats 4000000 in
theorem t_Minus (a b : Tal) : Spc X 36 [.agg (eTl a), .agg (eTl b)] (taR (minR a b)) := by
  refine Spc.start Tryz.func36 rfl (h := fun hs R hR => ?_)
  unfold Tryz.f36
  simp only [entryE, PA.av]
  have k1 := t_both a b
  unfold minR at hR
  by_cases ha : validE a = 0
  · by_cases hb : validE b = 0
    · obtain ⟨A, rfl, hA⟩ := valid_of ha
      obtain ⟨B, rfl, hB⟩ := valid_of hb
      rw [if_neg (by rw [ha]; simp), if_neg (by rw [hb]; simp), toL_tlT, toL_tlT] at hR
      rw [if_neg (by rw [ha]; simp), hb] at k1
      have hAl := hA.1
      have hBl := hB.1
      have kA := fun k => t_Get A k hA.2.1 (by omega)
      have kB := fun k => t_Get B k hB.2.1 (by omega)
      have hla : (A.map Prod.fst).length = A.length := by simp
      have hlb : (A.map Prod.snd).length = A.length := by simp
      have hlc : (B.map Prod.fst).length = B.length := by simp
      have hld : (B.map Prod.snd).length = B.length := by simp
      have stA := fun i hi => min_step (A := A) (B := B) (i := i) hi
      have stB : ∀ i, i < B.length → B.drop i = ((B.map Prod.fst).getD i [], (B.map Prod.snd).getD i 0) :: B.drop (i + 1) := fun i hi => dropc hi
      have gA := fun i (hi : i < A.length) => (hA.2.2 (A.getD i ([], 0)) (by rw [List.getD_eq_getElem?_getD, List.getElem?_eq_getElem hi]; exact List.getElem_mem hi)).2
      simp only [← getD_map2] at gA
      have hgB := fun k => (⟨gt_nn hB.pos k, gt_le (l := B) (b := 1000000) (by omega) hB.le k⟩ : 0 ≤ gt B k ∧ gt B k ≤ 1000000)
      simp only [tlT, eTl] at *
      generalize hKB : B.map Prod.fst = KB at *
      generalize hCB : B.map Prod.snd = CB at *
      generalize hKA : A.map Prod.fst = KA at *
      generalize hCA : A.map Prod.snd = CA at *
      refine walk (hQ := ?_)
      refine R_call k1 (hK := ?_)
      refine walk (hQ := ?_)
      refine Lp.intro (fun (i : Nat) => ⟨[(2, .one (.ptr 0 0)), (3, .one (.ptr 1 0)), (4, .one (.ptr 2 0)), (21, vP (slc eS KB)), (22, vI KB.length), (23, vI i)], [(0, (.mx [.pv (slc eS KA), .pv (slc eI CA)], false)), (1, (.mx [.pv (slc eS KB), .pv (slc eI CB)], false)), (2, (.mx [.pv .nil, .pv .nil], false))], 3⟩) (fun i => i ≤ B.length ∧ (B.drop i).any (fun x => decide (gt A x.1 < x.2)) = B.any (fun x => decide (gt A x.1 < x.2))) (fun i => B.length - i) 0 ⟨Nat.zero_le _, rfl⟩ (h0 := le_auto) (hr := fun i K ⟨hi, ho⟩ hK => ?_)
      refine walk (hQ := ?_)
      refine W_if (ht := fun h1 => ?_) (hf := fun h1 => ?_)
      · have hil : i < B.length := by omega
        rw [stB i hil, List.any_cons] at ho
        have k2 := kA (KB.getD i [])
        refine walk (hQ := ?_)
        refine R_call k2 (hK := ?_)
        refine walk (hQ := ?_)
        refine W_if (ht := fun h2 => ?_) (hf := fun h2 => ?_)
        · rw [decide_eq_true (by omega), Bool.true_or] at ho
          rw [if_pos ho.symm] at hR
          refine walk (hQ := ?_)
          exact hR _ (ret2 (hp := rfl))
        · rw [decide_eq_false (by omega), Bool.false_or] at ho
          refine walk (hQ := ?_)
          exact hK _ (i + 1) ⟨by omega, ho⟩ (by omega) le_auto
      · rw [List.drop_eq_nil_of_le (by omega)] at ho
        rw [if_neg (by rw [← ho]; simp)] at hR
        clear ho hK
        refine walk (hQ := ?_)
        refine Lp.intro3 (fun (oks : List (List UInt8)) (ocs : List Int) (i : Nat) => ⟨[(2, .one (.ptr 0 0)), (3, .one (.ptr 1 0)), (4, .one (.ptr 2 0)), (9, .one (.ptr 3 0)), (40, vP (slc eS KA)), (41, vI KA.length), (42, vI i)], [(0, (.mx [.pv (slc eS KA), .pv (slc eI CA)], false)), (1, (.mx [.pv (slc eS KB), .pv (slc eI CB)], false)), (2, (.mx [.pv .nil, .pv .nil], false)), (3, (.mx [.own 4 1 oks.length, .own 5 1 ocs.length], false)), (4, (.pu 9 (oks.flatMap eS), false)), (5, (.pu 3 (ocs.flatMap eI), false))], 6⟩) (fun oks ocs i => i ≤ A.length ∧ ∃ out : TL, oks = out.map Prod.fst ∧ ocs = out.map Prod.snd ∧ out ++ minL (A.drop i) B = minL A B ∧ out.length ≤ i) (fun oks ocs i => A.length - i) [] [] 0 ⟨Nat.zero_le _, [], rfl, rfl, rfl, by simp⟩ (h0 := le_ghost1 4 9 (hle := le_ghost1 5 3 (hle := le_retell 3 (cs := [.pv .nil, .pv .nil]) (cs' := [.own 4 1 0, .own 5 1 0]) rfl ⟨rfl, rfl, trivial⟩ rfl (by repeat (first | exact .hit | (apply PutR.miss; rfl))) le_auto))) (hr := fun oks ocs i K ⟨hi, out, hok, hoc, ho, hol⟩ hK => ?_)
        have hokl : oks.length ≤ i := by rw [hok, List.length_map]; exact hol
        have hocl : ocs.length ≤ i := by rw [hoc, List.length_map]; exact hol
        refine walk (hQ := ?_)
        refine W_if (ht := fun h1 => ?_) (hf := fun h1 => ?_)
        · have hil : i < A.length := by omega
          have hst := stA i hil
          have g1 := gA i hil
          have g2 := hgB (KA.getD i [])
          have k2 := kB (KA.getD i [])
          rw [hst] at ho
          clear hst stA stB
          refine walk (hQ := ?_)
          refine R_call k2 (hK := ?_)
          refine walk (hQ := ?_)
          refine W_if (ht := fun h2 => ?_) (hf := fun h2 => ?_)
          · rw [if_pos (by omega)] at ho
            refine walk (hQ := ?_)
            exact hK _ (oks ++ [KA.getD i []]) (ocs ++ [CA.getD i 0 - gt B (KA.getD i [])]) (i + 1) ⟨by omega, out ++ [(KA.getD i [], CA.getD i 0 - gt B (KA.getD i []))], by rw [hok]; simp, by rw [hoc]; simp, by rw [List.append_assoc]; exact ho, by simp; omega⟩ (by omega) le_autoL
          · rw [if_neg (by omega)] at ho
            refine walk (hQ := ?_)
            exact hK _ oks ocs (i + 1) ⟨by omega, out, hok, hoc, ho, by omega⟩ (by omega) le_auto
        · rw [List.drop_eq_nil_of_le (by omega)] at ho
          have hM : out = minL A B := by rw [← ho]; exact (List.append_nil out).symm
          rw [← hM, ← hok, ← hoc] at hR
          refine walk (hQ := ?_)
          exact hR _ (ret2 (hp := rfl))
    · rw [if_neg (by rw [ha]; simp), if_pos hb] at hR
      rw [if_neg (by rw [ha]; simp)] at k1
      generalize validE b = E at *
      obtain ⟨ks, cs⟩ := a
      obtain ⟨ks2, cs2⟩ := b
      simp only [eTl] at *
      refine walk (hQ := ?_)
      refine R_call k1 (hK := ?_)
      refine walk (hQ := ?_)
      refine W_if (ht := fun h1 => ?_) (hf := fun h1 => ?_)
      · refine walk (hQ := ?_)
        exact hR _ (ret2 (hp := rfl))
      · exact absurd h1 (by omega)
  · rw [if_pos ha] at hR k1
    generalize validE a = E at *
    obtain ⟨ks, cs⟩ := a
    obtain ⟨ks2, cs2⟩ := b
    simp only [eTl] at *
    refine walk (hQ := ?_)
    refine R_call k1 (hK := ?_)
    refine walk (hQ := ?_)
    refine W_if (ht := fun h1 => ?_) (hf := fun h1 => ?_)
    · refine walk (hQ := ?_)
      exact hR _ (ret2 (hp := rfl))
    · exact absurd h1 (by omega)
end Go.VS.YtlmioegjeocaaaaGreatDoor


namespace Go.VS.YtlmioegjeocaaaaGreatDoor
open Go Go.VL Go.VN Go.RowKit Go.Proofs
set_option maxRecDepth 100000
set_option linter.unusedVariables false
set_option linter.unusedSimpArgs false
theorem s_cloneI (a : List Int) (la : a.length ≤ 1000000) : Spc X 47 [.one (slc eI a)] (.one (slc eI a)) := by
  refine Spc.start Tryz.func47 rfl (h := fun hs R hR => ?_)
  unfold Tryz.f47
  simp only [entryE, PA.av]
  by_cases h0 : a = []
  · subst h0
    refine walk (hQ := ?_)
    refine W_ub (ht := ?_) (hf := ?_)
    · refine walk (hQ := ?_)
      exact hR _ (ret1 (hp := rfl))
    · refine walk (hQ := ?_)
      exact hR _ (ret1 (hp := rfl))
  · have h1 := List.length_pos_iff.2 h0
    refine walk (hQ := ?_)
    exact hR _ (ret1 (hp := rfl))
theorem s_cloneS (a : List (List UInt8)) (la : a.length ≤ 1000000) : Spc X 46 [.one (slc eS a)] (.one (slc eS a)) := by
  refine Spc.start Tryz.func46 rfl (h := fun hs R hR => ?_)
  unfold Tryz.f46
  simp only [entryE, PA.av]
  by_cases h0 : a = []
  · subst h0
    refine walk (hQ := ?_)
    refine W_ub (ht := ?_) (hf := ?_)
    · refine walk (hQ := ?_)
      exact hR _ (ret1 (hp := rfl))
    · refine walk (hQ := ?_)
      rw [show ([] : List Int).flatMap eI = ([] : List (List UInt8)).flatMap eS from rfl]
      refine walk (hQ := ?_)
      exact hR _ (ret1 (hp := rfl))
  · have h1 := List.length_pos_iff.2 h0
    refine walk (hQ := ?_)
    rw [show ([] : List Int).flatMap eI = ([] : List (List UInt8)).flatMap eS from rfl]
    refine walk (hQ := ?_)
    exact hR _ (ret1 (hp := rfl))
theorem l_copied (t : Tal) (hk : t.ks.length ≤ 100000) (hc : t.cs.length ≤ 100000) : Spc X 14 [.agg (eTl t)] (.agg (eTl t)) := by
  refine Spc.start Tryz.func14 rfl (h := fun hs R hR => ?_)
  unfold Tryz.f14
  simp only [entryE, PA.av]
  have k1 := s_cloneS t.ks (by omega)
  have k2 := s_cloneI t.cs (by omega)
  obtain ⟨ks, cs⟩ := t
  simp only [eTl] at *
  refine walk (hQ := ?_)
  refine R_call k1 (hK := ?_)
  refine walk (hQ := ?_)
  refine R_call k2 (hK := ?_)
  refine walk (hQ := ?_)
  exact hR _ (ret1 (hp := rfl))
theorem listS_ext {a b : List (List UInt8)} (hl : a.length = b.length) (h : ∀ j, j < a.length → a.getD j [] = b.getD j []) : a = b := by
  apply List.ext_getElem hl
  intro j h1 h2
  have := h j h1
  rw [List.getD_eq_getElem?_getD, List.getD_eq_getElem?_getD, List.getElem?_eq_getElem h1, List.getElem?_eq_getElem h2] at this
  exact this
theorem listI_ext {a b : List Int} (hl : a.length = b.length) (h : ∀ j, j < a.length → a.getD j 0 = b.getD j 0) : a = b := by
  apply List.ext_getElem hl
  intro j h1 h2
  have := h j h1
  rw [List.getD_eq_getElem?_getD, List.getD_eq_getElem?_getD, List.getElem?_eq_getElem h1, List.getElem?_eq_getElem h2] at this
  exact this
theorem r_Same (a b : Tal) : Spc X 16 [.agg (eTl a), .agg (eTl b)] (.one (.bool (decide (a = b)))) := by
  refine Spc.start Tryz.func16 rfl (h := fun hs R hR => ?_)
  unfold Tryz.f16
  simp only [entryE, PA.av]
  have l1 := (sane_slc (hs.1 (slc eS a.ks) (by simp [eTl]))).1
  have l2 := (sane_slc (hs.1 (slc eI a.cs) (by simp [eTl]))).1
  obtain ⟨ks, cs⟩ := a
  obtain ⟨ks2, cs2⟩ := b
  simp only [eTl, Tal.mk.injEq] at *
  have hF : ¬ (ks = ks2 ∧ cs = cs2) → ∀ σ, retP X Tryz.f16.results.toList (.one (.bool false)) σ → R σ := fun h => by rw [decide_eq_false h] at hR; exact hR
  have hT : (ks = ks2 ∧ cs = cs2) → ∀ σ, retP X Tryz.f16.results.toList (.one (.bool true)) σ → R σ := fun h => by rw [decide_eq_true h] at hR; exact hR
  clear hR
  by_cases hl : ks.length = ks2.length ∧ cs.length = cs2.length
  · obtain ⟨e1, e2⟩ := hl
    repeat' (first | refine walkP (hQ := ?_) | refine W_if (ht := fun h => ?_) (hf := fun h => ?_) | refine W_ifb (ht := fun h => ?_) (hf := fun h => ?_) | (refine R_g_if (h1 := fun h => ?_) (h2 := fun h => ?_) <;> simp only [Bool.false_eq_true, if_false, if_true, Decidable.not_not] at h))
    all_goals try (exfalso; omega)
    refine Lp.intro (fun (i : Nat) => ⟨[(2, .one (.ptr 0 0)), (3, .one (.ptr 1 0)), (5, vI i)], [(0, (.mx [.pv (slc eS ks), .pv (slc eI cs)], false)), (1, (.mx [.pv (slc eS ks2), .pv (slc eI cs2)], false))], 2⟩) (fun i => i ≤ ks.length ∧ ∀ j, j < i → ks.getD j [] = ks2.getD j []) (fun i => ks.length - i) 0 ⟨Nat.zero_le _, fun j hj => by omega⟩ (h0 := le_auto) (hr := fun i K ⟨hi, ho⟩ hK => ?_)
    refine walk (hQ := ?_)
    refine W_if (ht := fun h1 => ?_) (hf := fun h1 => ?_)
    · have hil : i < ks.length := by omega
      refine walk (hQ := ?_)
      refine W_if (ht := fun h2 => ?_) (hf := fun h2 => ?_)
      · refine walk (hQ := ?_)
        exact hF (fun h => h2 (by rw [h.1])) _ (ret1 (hp := rfl))
      · refine walk (hQ := ?_)
        exact hK _ (i + 1) ⟨by omega, fun j hj => by
          rcases Nat.lt_or_ge j i with h | h
          · exact ho j h
          · obtain rfl : j = i := by omega
            simpa using h2⟩ (by omega) le_auto
    · have hk : ks = ks2 := listS_ext e1 fun j hj => ho j (by omega)
      clear ho hK
      refine walk (hQ := ?_)
      refine Lp.intro (fun (i : Nat) => ⟨[(2, .one (.ptr 0 0)), (3, .one (.ptr 1 0)), (6, vI i)], [(0, (.mx [.pv (slc eS ks), .pv (slc eI cs)], false)), (1, (.mx [.pv (slc eS ks2), .pv (slc eI cs2)], false))], 2⟩) (fun i => i ≤ cs.length ∧ ∀ j, j < i → cs.getD j 0 = cs2.getD j 0) (fun i => cs.length - i) 0 ⟨Nat.zero_le _, fun j hj => by omega⟩ (h0 := le_auto) (hr := fun i K ⟨hi, ho⟩ hK => ?_)
      refine walk (hQ := ?_)
      refine W_if (ht := fun h1 => ?_) (hf := fun h1 => ?_)
      · have hil : i < cs.length := by omega
        refine walk (hQ := ?_)
        refine W_if (ht := fun h2 => ?_) (hf := fun h2 => ?_)
        · refine walk (hQ := ?_)
          exact hF (fun h => h2 (by rw [h.2])) _ (ret1 (hp := rfl))
        · refine walk (hQ := ?_)
          exact hK _ (i + 1) ⟨by omega, fun j hj => by
            rcases Nat.lt_or_ge j i with h | h
            · exact ho j h
            · obtain rfl : j = i := by omega
              simpa using h2⟩ (by omega) le_auto
      · refine walk (hQ := ?_)
        exact hT ⟨hk, listI_ext e2 fun j hj => ho j (by omega)⟩ _ (ret1 (hp := rfl))
  · have hR := hF (fun h => hl ⟨by rw [h.1], by rw [h.2]⟩)
    clear hF hT
    repeat' (first | refine walkP (hQ := ?_) | refine W_if (ht := fun h => ?_) (hf := fun h => ?_) | refine W_ifb (ht := fun h => ?_) (hf := fun h => ?_) | (refine R_g_if (h1 := fun h => ?_) (h2 := fun h => ?_) <;> simp only [Bool.false_eq_true, if_false, if_true, Decidable.not_not] at h) | exact hR _ (ret1 (hp := rfl)))
    all_goals (exfalso; omega)
def sumK (l : List (List UInt8)) : Int := (l.map fun s => (s.length : Int)).sum
def fewT (t : Tal) : Bool := if (60 < t.ks.length ∧ t.ks.length ≤ 2000) ∨ 2010 < t.ks.length ∨ 2020 < t.cs.length then false else decide (sumK t.ks ≤ 20000)
theorem sumK_next {l : List (List UInt8)} {i : Nat} (h : i < l.length) : sumK (l.take (i + 1)) = sumK (l.take i) + (l.getD i []).length := by
  unfold sumK
  rw [List.take_succ_eq_append_getElem h, List.map_append, List.sum_append, List.getD_eq_getElem?_getD, List.getElem?_eq_getElem h]; simp
theorem sumK_bd : ∀ {l : List (List UInt8)}, (∀ s ∈ l, s.length ≤ 140737488355328) → 0 ≤ sumK l ∧ sumK l ≤ 140737488355328 * l.length
  | [], _ => by simp [sumK]
  | x :: l, h => by
    have ih := sumK_bd (l := l) fun s hs => h s (by simp [hs])
    have := h x (by simp)
    unfold sumK at ih ⊢
    rw [List.map_cons, List.sum_cons, List.length_cons]
    push_cast
    omega
theorem r_Few (t : Tal) (hb : ∀ s ∈ t.ks, s.length ≤ 140737488355328) : Spc X 12 [.agg (eTl t)] (.one (.bool (fewT t))) := by
  refine Spc.start Tryz.func12 rfl (h := fun hs R hR => ?_)
  unfold Tryz.f12
  simp only [entryE, PA.av]
  unfold fewT at hR
  obtain ⟨ks, cs⟩ := t
  simp only [eTl] at *
  by_cases hq : (60 < ks.length ∧ ks.length ≤ 2000) ∨ 2010 < ks.length ∨ 2020 < cs.length
  · rw [if_pos hq] at hR
    repeat' (first | refine walkP (hQ := ?_) | refine W_if (ht := fun h => ?_) (hf := fun h => ?_) | refine W_ifb (ht := fun h => ?_) (hf := fun h => ?_) | (refine R_g_if (h1 := fun h => ?_) (h2 := fun h => ?_) <;> simp only [Bool.false_eq_true, if_false, if_true, Decidable.not_not] at h) | exact hR _ (ret1 (hp := rfl)))
    all_goals (exfalso; omega)
  · rw [if_neg hq] at hR
    repeat' (first | refine walkP (hQ := ?_) | refine W_if (ht := fun h => ?_) (hf := fun h => ?_) | refine W_ifb (ht := fun h => ?_) (hf := fun h => ?_) | (refine R_g_if (h1 := fun h => ?_) (h2 := fun h => ?_) <;> simp only [Bool.false_eq_true, if_false, if_true, Decidable.not_not] at h))
    all_goals try (exfalso; omega)
    all_goals
      refine Lp.intro (fun (i : Nat) => ⟨[(1, .one (.ptr 0 0)), (3, vI (sumK (ks.take i))), (4, vI i)], [(0, (.mx [.pv (slc eS ks), .pv (slc eI cs)], false))], 1⟩) (fun i => i ≤ ks.length) (fun i => ks.length - i) 0 (Nat.zero_le _) (h0 := le_auto) (hr := fun i K hi hK => ?_)
      refine walk (hQ := ?_)
      refine W_if (ht := fun h1 => ?_) (hf := fun h1 => ?_)
      · have hil : i < ks.length := by omega
        have hn := sumK_next hil
        have hb1 := sumK_bd (l := ks.take i) fun s hs => hb s (List.mem_of_mem_take hs)
        have hb2 := hb (ks.getD i []) (by rw [List.getD_eq_getElem?_getD, List.getElem?_eq_getElem hil]; exact List.getElem_mem hil)
        have hlt : (ks.take i).length ≤ 2010 := by rw [List.length_take]; omega
        refine walk (hQ := ?_)
        refine hK _ (i + 1) (by omega) (by omega) ?_
        rw [hn]
        exact le_auto
      · obtain rfl : i = ks.length := by omega
        rw [List.take_length] at *
        refine walk (hQ := ?_)
        exact hR _ (ret1 (hp := rfl))
theorem r_Cut (s : List UInt8) (p : Nat) (hp : 1 ≤ p) (hpl : p ≤ 1000000) : Spc X 48 [.one (.str s), .one (.int .i64 (p : Int))] (.one (.str (cutP p s))) := by
  refine Spc.start Tryz.func48 rfl (h := fun hs R hR => ?_)
  unfold Tryz.f48
  simp only [entryE, PA.av]
  have ls := sane_str hs.1
  have hU : ∀ c : UInt8, ((c.toNat : Int) = 47) ↔ c = 47 := fun c => ⟨fun h => UInt8.toNat_inj.1 (by show c.toNat = 47; omega), fun h => by rw [h]; rfl⟩
  refine walk (hQ := ?_)
  refine Lp.intro2 (fun (q i : Nat) => ⟨[(0, vS s), (1, vI q), (5, vI i)], [], 0⟩) (fun q i => i ≤ s.length ∧ 1 ≤ q ∧ q ≤ p ∧ cutP p s = s.take i ++ cutP q (s.drop i)) (fun q i => s.length - i) p 0 ⟨Nat.zero_le _, hp, Nat.le_refl _, by simp⟩ (h0 := le_auto) (hr := fun q i K ⟨hi, hq, hqp, ho⟩ hK => ?_)
  refine walk (hQ := ?_)
  refine W_if (ht := fun h1 => ?_) (hf := fun h1 => ?_)
  · have hil : i < s.length := by omega
    have hd : s.drop i = s.getD i 0 :: s.drop (i + 1) := by
      rw [List.drop_eq_getElem_cons hil, List.getD_eq_getElem?_getD, List.getElem?_eq_getElem hil]; rfl
    have ht : s.take (i + 1) = s.take i ++ [s.getD i 0] := by
      rw [List.take_succ_eq_append_getElem hil, List.getD_eq_getElem?_getD, List.getElem?_eq_getElem hil]; rfl
    rw [hd, cutP] at ho
    refine walk (hQ := ?_)
    refine W_if (ht := fun h2 => ?_) (hf := fun h2 => ?_)
    · rw [if_pos ((hU _).1 h2)] at ho
      refine walk (hQ := ?_)
      refine W_if (ht := fun h3 => ?_) (hf := fun h3 => ?_)
      · rw [if_pos (by omega), List.append_nil] at ho
        refine walk (hQ := ?_)
        exact hR _ (ret1 (hp := by rw [ho]))
      · rw [if_neg (by omega)] at ho
        refine walk (hQ := ?_)
        exact hK _ (q - 1) (i + 1) ⟨by omega, by omega, by omega, by rw [ht, List.append_assoc]; exact ho⟩ (by omega) le_auto
    · rw [if_neg (fun h => h2 ((hU _).2 h))] at ho
      refine walk (hQ := ?_)
      refine W_if (ht := fun h3 => ?_) (hf := fun h3 => ?_)
      · exact absurd h3 (by omega)
      · refine walk (hQ := ?_)
        exact hK _ q (i + 1) ⟨by omega, by omega, by omega, by rw [ht, List.append_assoc]; exact ho⟩ (by omega) le_auto
  · rw [List.drop_eq_nil_of_le (by omega), List.take_of_length_le (by omega)] at ho
    refine walk (hQ := ?_)
    exact hR _ (ret1 (hp := by rw [ho]; simp [cutP]))
end Go.VS.YtlmioegjeocaaaaGreatDoor


namespace Go.VL
open Go.VN
set_option linter.unusedVariables false
set_option linter.unusedSimpArgs false
theorem lexLt_iff : ∀ x y : List UInt8, lexLt x y = true ↔ x < y
  | x, [] => by simp [lexLt]
  | [], y :: ys => by simp [lexLt]
  | x :: xs, y :: ys => by
    have ih := lexLt_iff xs ys
    rw [List.cons_lt_cons_iff, ← ih, lexLt, Bool.or_eq_true, Bool.and_eq_true, decide_eq_true_eq, decide_eq_true_eq]
theorem leB_iff (x y : List UInt8) : decide (x ≤ y) = !lexLt y x := by
  have h : x ≤ y ↔ ¬ y < x := Iff.rfl
  cases hq : lexLt y x with
  | true => rw [decide_eq_false (fun hc => (h.1 hc) ((lexLt_iff y x).1 hq))]; rfl
  | false => rw [decide_eq_true (h.2 fun hc => by rw [(lexLt_iff y x).2 hc] at hq; cases hq)]; rfl
theorem sort_strict {l : List (List UInt8)} (hn : l.Nodup) : (l.mergeSort fun x y => decide (x ≤ y)).Pairwise fun x y => lexLt x y = true := by
  have h1 := List.pairwise_mergeSort (le := fun x y : List UInt8 => decide (x ≤ y)) (fun a b c h1 h2 => by
    rw [leB_iff] at *
    simp only [Bool.not_eq_true'] at *
    cases hq : lexLt c a with
    | false => rfl
    | true =>
      have h3 := lexLt_le h2 hq
      rw [h3] at h1; cases h1) (fun a b => by
    rw [leB_iff, leB_iff]
    cases hq : lexLt b a with
    | false => rfl
    | true => rw [lexLt_asym hq]; rfl) l
  have h2 : (l.mergeSort fun x y => decide (x ≤ y)).Nodup := (List.mergeSort_perm l _).nodup_iff.2 hn
  refine (List.Pairwise.and h1 h2).imp fun {a b} ⟨h3, h4⟩ => ?_
  rw [leB_iff] at h3
  simp only [Bool.not_eq_true'] at h3
  cases hq : lexLt a b with
  | true => rfl
  | false => have := lexLt_tri hq h4; rw [this] at h3; cases h3
theorem prj_final {c : List UInt8 → List UInt8} {l : TL} (hl : Pos l) {ks : List (List UInt8)} (hk : ks.Perm ((l.foldl (accM c) []).map Prod.fst)) :
    ((ks.mergeSort fun x y => decide (x ≤ y)).map fun k => (k, gt (l.foldl (accM c) []) k)) = l.foldl (accR c) [] := by
  have hnd := accM_nodup c l [] (by simp)
  have hmem : ∀ k, k ∈ (ks.mergeSort fun x y => decide (x ≤ y)) ↔ k ∈ (l.foldl (accM c) []).map Prod.fst := fun k => by rw [List.mem_mergeSort]; exact hk.mem_iff
  refine tl_ext ?_ (accR_SK c l [] List.Pairwise.nil) ?_ (accR_Pos c l [] List.Pairwise.nil (by intro x hx; cases hx) hl) fun k => ?_
  · have := sort_strict (hk.nodup_iff.2 hnd)
    unfold SK
    rw [List.pairwise_map]
    exact this
  · intro x hx
    obtain ⟨k, hk2, rfl⟩ := List.mem_map.1 hx
    exact accM_Pos c hl ((hmem k).1 hk2)
  · rw [withC_gt, accR_gt c k l [] List.Pairwise.nil, accM_gt, show gt [] k = 0 from rfl]
    split
    · rfl
    · rename_i hn
      have h0 : gt (l.foldl (accM c) []) k = 0 := gt_out fun x hx q => hn ((hmem k).2 (List.mem_map.2 ⟨x, hx, q⟩))
      rw [accM_gt] at h0
      exact h0.symm
def prjR (t : Tal) (p : Int) : Tal × Int :=
  if validE t ≠ 0 then (zT, validE t) else if p < 1 ∨ 30 < p then (zT, 6) else
  if ((toL t).foldl (accR (cutP p.toNat)) []).any (fun x => decide (1000000 < x.2)) = true then (zT, 3) else (tlT ((toL t).foldl (accR (cutP p.toNat)) []), 0)
theorem accR_len (c : List UInt8 → List UInt8) : ∀ (l T : TL), SK T → (l.foldl (accR c) T).length ≤ T.length + l.length
  | [], T, _ => by simp
  | x :: l, T, h => by
    have h1 := accR_len c l _ (set_SK h (c x.1) (gt T (c x.1) + x.2))
    have h2 := set_len h (c x.1) (gt T (c x.1) + x.2)
    rw [List.foldl_cons]
    simp only [List.length_cons]
    show (l.foldl (accR c) (accR c T x)).length ≤ _
    unfold accR at *
    omega
theorem accM_len (c : List UInt8 → List UInt8) : ∀ (l M : TL), (l.foldl (accM c) M).length ≤ M.length + l.length
  | [], M => by simp
  | x :: l, M => by
    have h1 := accM_len c l (accM c M x)
    have h2 : (accM c M x).length ≤ M.length + 1 := by
      have := congrArg List.length (mPut_keys (key := Prod.fst) (c x.1, gt M (c x.1) + x.2) M)
      unfold accM
      rw [List.length_map] at this
      rw [this]
      split <;> simp
    rw [List.foldl_cons]
    simp only [List.length_cons]; omega
/-- Entries handed out one by one, each once. -/
theorem seen_perm {α : Type} {f : Nat → α} {c : Nat} {l : List α} (hl : l = (List.range c).map f) {seen : List Nat} (hn : seen.Nodup) (hlt : ∀ i ∈ seen, i < c) (hall : ∀ i, i < c → i ∈ seen) : (seen.map f).Perm l := by
  rw [hl]
  refine List.Perm.map f ?_
  refine (List.perm_ext_iff_of_nodup hn List.nodup_range).2 fun i => ?_
  rw [List.mem_range]
  exact ⟨hlt i, hall i⟩
end Go.VL


namespace Go.VS.YtlmioegjeocaaaaGreatDoor
open Go Go.VL Go.VN Go.RowKit Go.Proofs
set_option maxRecDepth 100000
set_option linter.unusedVariables false
set_option linter.unusedSimpArgs false
theorem pr_step {l : TL} {i : Nat} (hi : i < l.length) (c : List UInt8 → List UInt8) (T : TL) : prR c T (l.drop i) = if 1000000 < gt T (c ((l.map Prod.fst).getD i [])) + (l.map Prod.snd).getD i 0 then none else prR c (setT T (c ((l.map Prod.fst).getD i [])) (gt T (c ((l.map Prod.fst).getD i [])) + (l.map Prod.snd).getD i 0)) (l.drop (i + 1)) := by
  rw [dropc hi]; rfl
theorem key_len {k : List UInt8} (h : keyE k = 0) : k.length ≤ 60 := by
  unfold keyE at h
  split at h
  · cases h
  · omega
theorem r_Project (t : Tal) (p : Int) : Spc X 15 [.agg (eTl t), .one (.int .i64 p)] (taR (prjR t p)) := by
  refine Spc.start Tryz.func15 rfl (h := fun hs R hR => ?_)
  unfold Tryz.f15
  simp only [entryE, PA.av]
  have k1 := r_Valid t
  unfold prjR at hR
  by_cases hv : validE t = 0
  · obtain ⟨A, rfl, hA⟩ := valid_of hv
    rw [if_neg (by rw [hv]; simp), toL_tlT] at hR
    rw [hv] at k1
    by_cases hp : p < 1 ∨ 30 < p
    · rw [if_pos hp] at hR
      simp only [tlT, eTl] at *
      generalize A.map Prod.fst = KA at *
      generalize A.map Prod.snd = CA at *
      repeat' (first | refine R_call k1 (hK := ?_) | refine walkP (hQ := ?_) | refine W_if (ht := fun h => ?_) (hf := fun h => ?_) | refine W_ifb (ht := fun h => ?_) (hf := fun h => ?_) | (refine R_g_if (h1 := fun h => ?_) (h2 := fun h => ?_) <;> simp only [Bool.false_eq_true, if_false, if_true, Decidable.not_not] at h) | exact hR _ (ret2 (hp := rfl)))
      all_goals (exfalso; omega)
    · rw [if_neg hp] at hR
      obtain ⟨q, rfl⟩ := Int.eq_ofNat_of_zero_le (show 0 ≤ p by omega)
      rw [Int.toNat_natCast] at hR
      have hAl := hA.1
      have hla : (A.map Prod.fst).length = A.length := by simp
      have hlb : (A.map Prod.snd).length = A.length := by simp
      have k2 := fun s => r_Cut s q (by omega) (by omega)
      have k3 := fun T k => r_Get T k
      have k4 := fun T k n h => r_set T k n h
      have hstep := fun i hi T => pr_step (l := A) (i := i) hi (cutP q) T
      have gA := fun i (hi : i < A.length) => (hA.2.2 (A.getD i ([], 0)) (by rw [List.getD_eq_getElem?_getD, List.getElem?_eq_getElem hi]; exact List.getElem_mem hi)).2
      simp only [← getD_map2] at gA
      have hfin := prR_eq (cutP q) A [] List.Pairwise.nil (by intro x hx; cases hx) hA.pos (by intro x hx; cases hx)
      generalize A.foldl (accR (cutP q)) [] = F at *
      simp only [tlT, eTl] at *
      generalize A.map Prod.fst = KA at *
      generalize A.map Prod.snd = CA at *
      repeat' (first | refine R_call k1 (hK := ?_) | refine walkP (hQ := ?_) | refine W_if (ht := fun h => ?_) (hf := fun h => ?_) | refine W_ifb (ht := fun h => ?_) (hf := fun h => ?_) | (refine R_g_if (h1 := fun h => ?_) (h2 := fun h => ?_) <;> simp only [Bool.false_eq_true, if_false, if_true, Decidable.not_not] at h))
      all_goals try (exfalso; omega)
      refine Lp.intro2 (fun (T : TL) (i : Nat) => ⟨[(1, vI (q : Int)), (2, .one (.ptr 0 0)), (4, .one (.ptr 1 0)), (7, .one (.ptr 2 0)), (8, vI i)], [(0, (.mx [.pv (slc eS KA), .pv (slc eI CA)], false)), (1, (.mx [.pv .nil, .pv .nil], false)), (2, (.mx [.pv (slc eS (T.map Prod.fst)), .pv (slc eI (T.map Prod.snd))], false))], 3⟩) (fun T i => i ≤ A.length ∧ prR (cutP q) T (A.drop i) = prR (cutP q) [] A ∧ SK T ∧ Pos T ∧ (∀ x ∈ T, x.2 ≤ 1000000) ∧ T.length ≤ i) (fun T i => A.length - i) [] 0 ⟨Nat.zero_le _, rfl, List.Pairwise.nil, (fun x hx => by cases hx), (fun x hx => by cases hx), by simp⟩ (h0 := le_retell 2 (cs := [.pv .nil, .pv .nil]) (cs' := [.pv (slc eS []), .pv (slc eI [])]) rfl ⟨avLe_nil, avLe_nil, trivial⟩ rfl (by repeat (first | exact .hit | (apply PutR.miss; rfl))) le_auto) (hr := fun T i K ⟨hi, ho, hT, hP, hB, htl⟩ hK => ?_)
      refine walk (hQ := ?_)
      refine W_if (ht := fun h1 => ?_) (hf := fun h1 => ?_)
      · have hil : i < A.length := by omega
        have hst := hstep i hil T
        have g1 := gA i hil
        have k5 := k2 (KA.getD i [])
        generalize cutP q (KA.getD i []) = ck at *
        have g2 := gt_nn hP ck
        have g3 := gt_le (l := T) (b := 1000000) (by omega) hB ck
        have k6 := k3 T ck
        refine walk (hQ := ?_)
        refine R_call k5 (hK := ?_)
        refine walk (hQ := ?_)
        refine R_call k6 (hK := ?_)
        refine walk (hQ := ?_)
        refine W_if (ht := fun h2 => ?_) (hf := fun h2 => ?_)
        · rw [if_pos (by omega)] at hst
          rw [← ho, hst] at hfin
          have hany : F.any (fun x => decide (1000000 < x.2)) = true := by
            cases hq : F.any fun x => decide (1000000 < x.2) with
            | true => rfl
            | false => rw [hq] at hfin; cases hfin
          rw [if_pos hany] at hR
          refine walk (hQ := ?_)
          exact hR _ (ret2 (hp := rfl))
        · rw [if_neg (by omega)] at hst
          have k7 := k4 T ck (gt T ck + CA.getD i 0) (by omega)
          have hsl := set_len hT ck (gt T ck + CA.getD i 0)
          have hsk := set_SK hT ck (gt T ck + CA.getD i 0)
          have hsp := set_Pos hT hP (k := ck) (n := gt T ck + CA.getD i 0) (by omega)
          have hsb : ∀ x ∈ setT T ck (gt T ck + CA.getD i 0), x.2 ≤ 1000000 := fun x hx => by
            rcases set_mem hT hx with ⟨rfl, _⟩ | hx
            · show gt T ck + CA.getD i 0 ≤ 1000000; omega
            · exact hB x hx
          generalize setT T ck (gt T ck + CA.getD i 0) = T' at *
          refine walk (hQ := ?_)
          refine R_call k7 (hK := ?_)
          refine walk (hQ := ?_)
          exact hK _ T' (i + 1) ⟨by omega, by rw [← ho, hst], hsk, hsp, hsb, by omega⟩ (by omega) le_auto
      · rw [List.drop_eq_nil_of_le (by omega), prR, hfin] at ho
        split at ho
        · cases ho
        · rename_i hany
          simp only [Option.some.injEq] at ho
          rw [if_neg hany, ← ho] at hR
          refine walk (hQ := ?_)
          exact hR _ (ret2 (hp := rfl))
  · rw [if_pos hv] at hR
    generalize validE t = E at *
    obtain ⟨ks, cs⟩ := t
    simp only [eTl] at *
    refine walk (hQ := ?_)
    refine R_call k1 (hK := ?_)
    refine walk (hQ := ?_)
    refine W_if (ht := fun h1 => ?_) (hf := fun h1 => ?_)
    · refine walk (hQ := ?_)
      exact hR _ (ret2 (hp := rfl))
    · exact absurd h1 (by omega)
end Go.VS.YtlmioegjeocaaaaGreatDoor


namespace Go.VL
open Go.RowKit
set_option linter.unusedVariables false
theorem bxOk_map {α : Type} {h : Hp} {e : α → List PV} {l : List α} : bxOk h (mapB e l) = true := by
  show refsIn h (acRefs (mapB e l).cells) = true
  rw [map_refs]; rfl
theorem bxOk_iter {h : Hp} {m c : Nat} {seen : List Nat} (hm : (look h m).isSome = true) : bxOk h (iterB m c seen) = true := by
  show refsIn h (acRefs (iterB m c seen).cells) = true
  rw [iter_refs]; simp [refsIn, hm]
theorem scrub_map {α : Type} {m : Nat} {e : α → List PV} {l : List α} : Bx.scrub m (mapB e l) = mapB e l := by
  unfold mapB
  show Bx.ob (List.map (AC.scrub m) _) = _
  congr 1
  show _ :: _ :: _ = _
  congr 2
  rw [List.map_map]; rfl
theorem scrub_iter {m id c : Nat} {seen : List Nat} (h : (id == m) = false) : Bx.scrub m (iterB id c seen) = iterB id c seen := by
  have h : ¬ id = m := by simpa using h
  unfold iterB
  show Bx.ob (List.map (AC.scrub m) _) = _
  congr 1
  simp only [List.map_cons, List.map_map]
  congr 1
  congr 1
  simp only [AC.scrub, AC.refs, List.contains_cons, List.contains_nil, Bool.or_false, beq_iff_eq]
  rw [if_neg fun e => h e.symm]
theorem nodup_len : ∀ {n : Nat} {l : List Nat}, l.Nodup → (∀ i ∈ l, i < n) → l.length ≤ n
  | 0, l, _, h => by
    cases l with
    | nil => simp
    | cons a l => have := h a (by simp); omega
  | n + 1, l, hn, h => by
    by_cases hm : n ∈ l
    · have h1 := nodup_len (n := n) (hn.erase n) fun i hi => by
        have := (List.Nodup.mem_erase_iff hn).1 hi
        have h2 := h i this.2
        have h3 := this.1
        omega
      rw [List.length_erase_of_mem hm] at h1
      have := List.length_pos_of_mem hm
      omega
    · have h1 := nodup_len (n := n) hn fun i hi => by
        have h2 := h i hi
        have : i ≠ n := fun e => hm (e ▸ hi)
        omega
      omega
theorem and_ok {a b : Bool} (ha : a = true) (hb : b = true) : (a && b) = true := by rw [ha, hb]; rfl
theorem le_autoM {X : Ctx} {N : Nat} {env env' : List (Nat × AV)} {h h' : Hp} {n n' : Nat}
    (he : leE env env' := by repeat' (first | exact trivial | refine And.intro ⟨_, rfl, ?_⟩ ?_ | exact avLe_refl _ | exact avLe_i (by first | omega | (simp only [List.length_set, List.length_append, List.length_cons, List.length_nil, List.length_take, List.length_drop, List.length_replicate, List.length_map, List.length_reverse] <;> omega)) | exact avLe_nil | exact avLe_nilO | exact avLe_own (by first | omega | (simp only [List.length_set, List.length_append, List.length_cons, List.length_nil, List.length_take, List.length_drop, List.length_replicate, List.length_map, List.length_reverse] <;> omega))))
    (hh : leH h h' := by first | ((repeat (first | exact trivial | refine And.intro rfl ?_)); done) | ((try simp only [List.length_append, List.length_set, scrub_map, scrub_iter, Nat.reduceBEq]); (repeat (first | exact trivial | refine And.intro rfl ?_)))) (hw : wfE h' env' = true := by rfl) (hw2 : wfH h' h' = true := by repeat (first | exact bxOk_map | exact bxOk_iter rfl | exact rfl | refine and_ok ?_ ?_)) : (AS.mk env h n).Le X N (AS.mk env' h' n') := le_of he hh hw hw2
end Go.VL


namespace Go.VS.YtlmioegjeocaaaaGreatDoor
open Go Go.VL Go.VN Go.RowKit Go.Proofs
set_option maxRecDepth 100000
set_option linter.unusedVariables false
set_option linter.unusedSimpArgs false
abbrev eKV (x : List UInt8 × Int) : List PV := [.str x.1, .int .i64 x.2]
theorem lookP (k : List UInt8) (M : TL) : (match mGet Prod.fst k M with | some a => PV.int .i64 a.2 | none => PV.int .i64 0) = PV.int .i64 (gt M k) := by
  rw [← mGet_gt]; cases mGet Prod.fst k M <;> rfl
theorem split_ne (s : List UInt8) : 0 < (splitL 47 s).length := by
  obtain ⟨h, t, e, _⟩ := hasE_split s
  rw [e]; simp
theorem split_len : ∀ s : List UInt8, (splitL 47 s).length ≤ s.length + 1
  | [] => by simp [splitL, spK]
  | x :: s => by
    have ih := split_len s
    obtain ⟨h, t, e, _⟩ := hasE_split s
    unfold splitL at *
    rw [spK]
    split
    · simp only [List.length_cons]; omega
    · rw [e] at ih ⊢; simp only [consH, List.length_cons] at *; omega
theorem take_min (l : List (List UInt8)) (q : Nat) : l.take (min q l.length) = l.take q := by
  rcases Nat.le_total q l.length with h | h
  · rw [Nat.min_eq_left h]
  · rw [Nat.min_eq_right h, List.take_length, List.take_of_length_le h]
set_option maxHeartbeats 4000000 in
theorem t_Project (t : Tal) (p : Int) : Spc X 13 [.agg (eTl t), .one (.int .i64 p)] (taR (prjR t p)) := by
  refine Spc.start Tryz.func13 rfl (h := fun hs R hR => ?_)
  unfold Tryz.f13
  simp only [entryE, PA.av]
  have k1 := t_Valid t
  unfold prjR at hR
  by_cases hv : validE t = 0
  · obtain ⟨A, rfl, hA⟩ := valid_of hv
    rw [if_neg (by rw [hv]; simp), toL_tlT] at hR
    rw [hv] at k1
    by_cases hp : p < 1 ∨ 30 < p
    · rw [if_pos hp] at hR
      simp only [tlT, eTl] at *
      generalize A.map Prod.fst = KA at *
      generalize A.map Prod.snd = CA at *
      repeat' (first | refine R_call k1 (hK := ?_) | refine walkP (hQ := ?_) | refine W_if (ht := fun h => ?_) (hf := fun h => ?_) | refine W_ifb (ht := fun h => ?_) (hf := fun h => ?_) | (refine R_g_if (h1 := fun h => ?_) (h2 := fun h => ?_) <;> simp only [Bool.false_eq_true, if_false, if_true, Decidable.not_not] at h) | exact hR _ (ret2 (hp := rfl)))
      all_goals (exfalso; omega)
    · rw [if_neg hp] at hR
      obtain ⟨q, rfl⟩ := Int.eq_ofNat_of_zero_le (show 0 ≤ p by omega)
      rw [Int.toNat_natCast] at hR
      have hAl := hA.1
      have hla : (A.map Prod.fst).length = A.length := by simp
      have hlb : (A.map Prod.snd).length = A.length := by simp
      have k8 := fun M => t_large M
      have gA := fun i (hi : i < A.length) => (hA.2.2 (A.getD i ([], 0)) (by rw [List.getD_eq_getElem?_getD, List.getElem?_eq_getElem hi]; exact List.getElem_mem hi))
      simp only [← getD_map2, ← getD_map1] at gA
      have hfin := fun ks h => prj_final (c := cutP q) hA.pos (ks := ks) h
      have hFl := accR_len (cutP q) A [] List.Pairwise.nil
      have hstM : ∀ i, i < A.length → (A.take (i + 1)).foldl (accM (cutP q)) [] = mPut Prod.fst (cutP q ((A.map Prod.fst).getD i []), gt ((A.take i).foldl (accM (cutP q)) []) (cutP q ((A.map Prod.fst).getD i [])) + (A.map Prod.snd).getD i 0) ((A.take i).foldl (accM (cutP q)) []) := fun i hi => by
        rw [List.take_succ_eq_append_getElem hi, List.foldl_append, getD_map1, getD_map2, List.getD_eq_getElem?_getD, List.getElem?_eq_getElem hi]; rfl
      have hbM : ∀ i k, 0 ≤ gt ((A.take i).foldl (accM (cutP q)) []) k ∧ gt ((A.take i).foldl (accM (cutP q)) []) k ≤ 10000000 * 2000 := fun i k => by
        have h1 := accM_gt (cutP q) k (A.take i) []
        have h2 := tot_bound (f := fun a => decide (cutP q a = k)) (l := A.take i) fun x hx => by have := (hA.2.2 x (List.mem_of_mem_take hx)).2; omega
        have h3 : (A.take i).length ≤ 2000 := by rw [List.length_take]; omega
        rw [h1]; unfold sumC; rw [show gt [] k = 0 from rfl]; omega
      have hlM := fun i => accM_len (cutP q) (A.take i) []
      have hMA : A.take A.length = A := List.take_length
      simp only [tlT, eTl] at *
      generalize A.map Prod.fst = KA at *
      generalize A.map Prod.snd = CA at *
      repeat' (first | refine R_call k1 (hK := ?_) | refine walkP (hQ := ?_) | refine W_if (ht := fun h => ?_) (hf := fun h => ?_) | refine W_ifb (ht := fun h => ?_) (hf := fun h => ?_) | (refine R_g_if (h1 := fun h => ?_) (h2 := fun h => ?_) <;> simp only [Bool.false_eq_true, if_false, if_true, Decidable.not_not] at h))
      all_goals try (exfalso; omega)
      refine R_mkmap eKV (hK := ?_)
      refine walk (hQ := ?_)
      refine Lp.intro2 (fun (M : TL) (i : Nat) => ⟨[(1, vI (q : Int)), (2, .one (.ptr 0 0)), (4, .one (.ptr 1 0)), (7, .one (.mp 2)), (30, vP (slc eS KA)), (31, vI KA.length), (32, vI i)], [(0, (.mx [.pv (slc eS KA), .pv (slc eI CA)], false)), (1, (.mx [.pv .nil, .pv .nil], false)), (2, (mapB eKV M, false))], 3⟩) (fun M i => i ≤ A.length ∧ M = (A.take i).foldl (accM (cutP q)) []) (fun M i => A.length - i) [] 0 ⟨Nat.zero_le _, rfl⟩ (h0 := le_autoM) (hr := fun M i K ⟨hi, ho⟩ hK => ?_)
      refine walk (hQ := ?_)
      refine W_if (ht := fun h1 => ?_) (hf := fun h1 => ?_)
      · have hil : i < A.length := by omega
        have hst := hstM i hil
        have g1 := gA i hil
        have gk := key_len g1.1
        rw [← ho] at hst
        have g2 := hbM i (cutP q (KA.getD i []))
        rw [← ho] at g2
        have k2 := s_Split 47 (KA.getD i []) (by omega)
        have hn := split_ne (KA.getD i [])
        have hsl := split_len (KA.getD i [])
        have hjc := join_cut (KA.getD i []) q (by omega)
        have hcl := cutP_len (KA.getD i []) q
        rw [← take_min] at hjc
        have k3 := s_Join ((splitL 47 (KA.getD i [])).take (min q (splitL 47 (KA.getD i [])).length)) [47] (by rw [List.length_take]; omega) (by rw [List.length_take]; omega) (by rw [hjc]; omega)
        rw [hjc] at k3
        generalize splitL 47 (KA.getD i []) = SP at *
        generalize hck : cutP q (KA.getD i []) = ck at *
        refine walk (hQ := ?_)
        refine R_call k2 (hK := ?_)
        refine walk (hQ := ?_)
        rw [show (min (q : Int) (SP.length : Int)).toNat = min q SP.length by omega]
        refine R_call k3 (hK := ?_)
        refine walk (hQ := ?_)
        refine R_lookS (s := ck) (key := Prod.fst) (v := fun x => PV.int .i64 x.2) (l := M) (zp := .int .i64 0) (p := .int .i64 (gt M ck)) (hp := by rw [← mGet_gt]; cases mGet Prod.fst ck M <;> rfl) (hK := ?_)
        refine walk (hQ := ?_)
        refine R_mupS (key := Prod.fst) (v := fun x => PV.int .i64 x.2) (l := M) (ck, gt M ck + CA.getD i 0) (hK := ?_)
        refine walk (hQ := ?_)
        exact hK _ (mPut Prod.fst (ck, gt M ck + CA.getD i 0) M) (i + 1) ⟨by omega, hst.symm⟩ (by omega) le_autoM
      · obtain rfl : i = A.length := by omega
        rw [hMA] at ho
        have hM1 := hlM A.length
        rw [hMA, ← ho] at hM1
        simp only [List.length_nil, Nat.zero_add] at hM1
        have hbM1 := fun k => hbM A.length k
        rw [hMA, ← ho] at hbM1
        rw [← ho] at hfin
        clear hK hbM hlM hstM
        refine walk (hQ := ?_)
        refine R_range (e1 := fun x : List UInt8 × Int => PV.str x.1) (e2 := fun x => PV.int .i64 x.2) (l := M) (c := M.length) (hK := ?_)
        refine walk (hQ := ?_)
        refine Lp.intro2 (fun (oks : List (List UInt8)) (seen : List Nat) => ⟨[(4, .one (.ptr 1 0)), (7, .one (.mp 2)), (11, .one (.ptr 3 0)), (56, .one (.ptr 4 0))], [(1, (.mx [.pv .nil, .pv .nil], false)), (2, (mapB eKV M, false)), (3, (.mx [.own 5 1 oks.length, .pv .nil], false)), (4, (iterB 2 M.length seen, false)), (5, (.pu 9 (oks.flatMap eS), false))], 6⟩) (fun oks seen => seen.Nodup ∧ (∀ i ∈ seen, i < M.length) ∧ oks = seen.map fun i => (M.getD i ([], 0)).1) (fun oks seen => M.length - seen.length) [] [] ⟨List.nodup_nil, (fun i h => by cases h), rfl⟩ (h0 := le_ghost1 5 9 (hle := le_retell 3 (cs := [.pv .nil, .pv .nil]) (cs' := [.own 5 1 0, .pv .nil]) rfl ⟨rfl, avLe_refl _, trivial⟩ rfl (by repeat (first | exact .hit | (apply PutR.miss; rfl))) le_autoM)) (hr := fun oks seen K ⟨hn, hlt, hok⟩ hK => ?_)
        have hsl : seen.length ≤ M.length := by
          exact nodup_len hn hlt
        have hol : oks.length = seen.length := by rw [hok, List.length_map]
        refine walk (hQ := ?_)
        refine R_next (e1 := fun x : List UInt8 × Int => PV.str x.1) (e2 := fun x => PV.int .i64 x.2) (l := M) (c := M.length) (h1 := fun i hi hns => ?_) (h2 := fun hall => ?_)
        · have hsl2 : seen.length < M.length := by
            have h5 : (i :: seen).Nodup := List.nodup_cons.2 ⟨hns, hn⟩
            have := nodup_len h5 (n := M.length) (fun j hj => by
              rcases List.mem_cons.1 hj with rfl | hj
              · exact hi
              · exact hlt j hj)
            rw [List.length_cons] at this
            omega
          have hMi : M[i]? = some (M.getD i ([], 0)) := by rw [List.getD_eq_getElem?_getD, List.getElem?_eq_getElem hi]; rfl
          generalize hx : M.getD i ([], 0) = x at *
          refine walk (hQ := ?_)
          refine R_entry (e1 := fun x : List UInt8 × Int => PV.str x.1) (e2 := fun x => PV.int .i64 x.2) (l := M) (c := M.length) (a := x) (hi := hMi) (hK := ?_)
          refine walk (hQ := ?_)
          exact hK _ (oks ++ [x.1]) (seen ++ [i]) ⟨List.nodup_append.2 ⟨hn, by simp, fun a ha b hb => by rw [List.mem_singleton] at hb; subst hb; exact fun e => hns (e ▸ ha)⟩, (fun j hj => by
            rcases List.mem_append.1 hj with h | h
            · exact hlt j h
            · rw [List.mem_singleton] at h; subst h; exact hi), by rw [List.map_append, hok, List.map_singleton, hx]⟩ (by rw [List.length_append]; simp; omega) le_autoM
        · have hperm : oks.Perm (M.map Prod.fst) := by
            rw [hok]
            refine seen_perm (c := M.length) ?_ hn hlt hall
            apply List.ext_getElem (by simp)
            intro j h1 h2
            simp only [List.length_map] at h1
            simp [List.getD_eq_getElem?_getD, List.getElem?_eq_getElem h1]
          have hF := hfin oks hperm
          have hol2 : oks.length = M.length := by have := hperm.length_eq; simpa using this
          have k6 := s_SortS oks (by omega)
          have hsl3 : (sortS oks).length = oks.length := List.length_mergeSort _
          change (sortS oks).map _ = _ at hF
          generalize hso : sortS oks = SO at *
          clear hK
          refine walk (hQ := ?_)
          refine R_callM k6 (hK := ?_)
          refine walk (hQ := ?_)
          refine Lp.intro2 (fun (ocs : List Int) (i : Nat) => ⟨[(4, .one (.ptr 1 0)), (7, .one (.mp 2)), (11, .one (.ptr 3 0)), (71, .one (.own 5 1 oks.length)), (72, vI oks.length), (73, vI i)], [(1, (.mx [.pv .nil, .pv .nil], false)), (2, (mapB eKV M, false)), (3, (.mx [.own 5 1 oks.length, .own 6 1 ocs.length], false)), (5, (.pu 9 (SO.flatMap eS), false)), (6, (.pu 3 (ocs.flatMap eI), false))], 7⟩) (fun ocs i => i ≤ SO.length ∧ ocs = (SO.take i).map (gt M)) (fun ocs i => SO.length - i) [] 0 ⟨Nat.zero_le _, rfl⟩ (h0 := le_ghost1 6 3 (hle := le_retell 3 (cs := [.own 5 1 oks.length, .pv .nil]) (cs' := [.own 5 1 oks.length, .own 6 1 0]) rfl ⟨avLe_refl _, rfl, trivial⟩ rfl (by repeat (first | exact .hit | (apply PutR.miss; rfl))) le_autoM)) (hr := fun ocs i K ⟨hi, hoc⟩ hK => ?_)
          have hocl : ocs.length = i := by rw [hoc, List.length_map, List.length_take]; omega
          refine walk (hQ := ?_)
          refine W_if (ht := fun h2 => ?_) (hf := fun h2 => ?_)
          · have hil : i < SO.length := by omega
            have hnx : (SO.take (i + 1)).map (gt M) = (SO.take i).map (gt M) ++ [gt M (SO.getD i [])] := by
              rw [List.take_succ_eq_append_getElem hil, List.map_append, List.getD_eq_getElem?_getD, List.getElem?_eq_getElem hil]; rfl
            have hb2 := hbM1 (SO.getD i [])
            refine walk (hQ := ?_)
            refine R_lookS (s := SO.getD i []) (key := Prod.fst) (v := fun x => PV.int .i64 x.2) (l := M) (zp := .int .i64 0) (p := .int .i64 (gt M (SO.getD i []))) (hp := by rw [← mGet_gt]; cases mGet Prod.fst (SO.getD i []) M <;> rfl) (hK := ?_)
            refine walk (hQ := ?_)
            exact hK _ (ocs ++ [gt M (SO.getD i [])]) (i + 1) ⟨by omega, by rw [hoc, hnx]⟩ (by omega) le_autoM
          · obtain rfl : i = SO.length := by omega
            rw [List.take_length] at hoc
            have k9 := k8 (A.foldl (accR (cutP q)) [])
            rw [← hF] at k9 hR
            have e1 : ((SO.map fun k => (k, gt M k)).map Prod.fst) = SO := by rw [List.map_map]; exact List.map_id _
            have e2 : ((SO.map fun k => (k, gt M k)).map Prod.snd) = ocs := by rw [List.map_map, hoc]; rfl
            have hlg : largeL (SO.map fun k => (k, gt M k)) = (SO.map fun k => (k, gt M k)).any fun x => decide (1000000 < x.2) := by
              unfold largeL
              rw [decide_eq_false (by rw [List.length_map]; omega), Bool.false_or]
            rw [e1, e2] at hR k9
            rw [hlg] at k9
            generalize ((SO.map fun k => (k, gt M k)).any fun x => decide (1000000 < x.2)) = L at *
            refine walk (hQ := ?_)
            refine R_callP (ids' := [5, 6]) k9 (hK := ?_)
            refine walk (hQ := ?_)
            refine W_ifb (ht := fun h3 => ?_) (hf := fun h3 => ?_)
            · rw [if_pos h3] at hR
              refine walk (hQ := ?_)
              exact hR _ (ret2 (hp := rfl))
            · rw [if_neg (by rw [h3]; simp)] at hR
              refine walk (hQ := ?_)
              exact hR _ (ret2 (hp := rfl))
  · rw [if_pos hv] at hR
    generalize validE t = E at *
    obtain ⟨ks, cs⟩ := t
    simp only [eTl] at *
    refine walk (hQ := ?_)
    refine R_call k1 (hK := ?_)
    refine walk (hQ := ?_)
    refine W_if (ht := fun h1 => ?_) (hf := fun h1 => ?_)
    · refine walk (hQ := ?_)
      exact hR _ (ret2 (hp := rfl))
    · exact absurd h1 (by omega)
end Go.VS.YtlmioegjeocaaaaGreatDoor


namespace Go.VS.YtlmioegjeocaaaaGreatDoor
open Go Go.VL Go.RowKit Go.Proofs
set_option maxRecDepth 100000
set_option linter.unusedVariables false

def bdR : Go.Shelf.Ren := ⟨fun | 169 => 68 | 240 => 92 | 276 => 123 | n => n, fun | 0 => 0 | 3 => 3 | 4 => 4 | 5 => 5 | 9 => 9 | 20 => 20 | 37 => 41 | 70 => 83 | 72 => 85 | 127 => 101 | 164 => 129 | n => n, fun | n => n⟩
theorem bd240 : Go.Proofs.Lays.n240 Tryz.prog bdR := {
  mixed := by kernel_rfl
  f240 := by kernel_rfl
  f276 := by kernel_rfl
  t0 := by kernel_rfl
  a0 := fun _ => by kernel_rfl
  z0 := fun _ => by kernel_rfl
  v0 := fun _ => by kernel_rfl
  t4 := by kernel_rfl
  a4 := fun _ => by kernel_rfl
  z4 := fun _ => by kernel_rfl
  v4 := fun _ => by kernel_rfl
  t9 := by kernel_rfl
  a9 := fun _ => by kernel_rfl
  z9 := fun _ => by kernel_rfl
  v9 := fun _ => by kernel_rfl
  t20 := by kernel_rfl
  a20 := fun _ => by kernel_rfl
  z20 := fun _ => by kernel_rfl
  v20 := fun _ => by kernel_rfl
  t70 := by kernel_rfl
  a70 := fun _ => by kernel_rfl
  z70 := fun _ => by kernel_rfl
  v70 := fun _ => by kernel_rfl
  t72 := by kernel_rfl
  a72 := fun _ => by kernel_rfl
  z72 := fun _ => by kernel_rfl
  v72 := fun _ => by kernel_rfl
  t164 := by kernel_rfl
  a164 := fun _ => by kernel_rfl
  z164 := fun _ => by kernel_rfl
  v164 := fun _ => by kernel_rfl }
theorem bd169 : Go.Proofs.Lays.n169 Tryz.prog bdR := {
  mixed := by kernel_rfl
  f169 := by kernel_rfl
  t0 := by kernel_rfl
  a0 := fun _ => by kernel_rfl
  z0 := fun _ => by kernel_rfl
  v0 := fun _ => by kernel_rfl
  t3 := by kernel_rfl
  a3 := fun _ => by kernel_rfl
  z3 := fun _ => by kernel_rfl
  v3 := fun _ => by kernel_rfl
  t9 := by kernel_rfl
  a9 := fun _ => by kernel_rfl
  z9 := fun _ => by kernel_rfl
  v9 := fun _ => by kernel_rfl
  t37 := by kernel_rfl
  a37 := fun _ => by kernel_rfl
  z37 := fun _ => by kernel_rfl
  v37 := fun _ => by kernel_rfl
  t70 := by kernel_rfl
  a70 := fun _ => by kernel_rfl
  z70 := fun _ => by kernel_rfl
  v70 := fun _ => by kernel_rfl
  t72 := by kernel_rfl
  a72 := fun _ => by kernel_rfl
  z72 := fun _ => by kernel_rfl
  v72 := fun _ => by kernel_rfl
  t127 := by kernel_rfl
  a127 := fun _ => by kernel_rfl
  z127 := fun _ => by kernel_rfl
  v127 := fun _ => by kernel_rfl }
theorem bdX : Go.Proofs.Builder.Extra Tryz.prog bdR := {
  sizeBuilder := by kernel_rfl
  liesBuilder := by kernel_rfl
  t5 := by kernel_rfl
  a5 := fun _ => by kernel_rfl
  z5 := fun _ => by kernel_rfl
  v5 := fun _ => by kernel_rfl
  infoByte := by kernel_rfl
  cellsByte := by kernel_rfl
  sizeByte := by kernel_rfl
  neB5 := by decide }
theorem s_copyCheck {te : TypeId} {n : Nat} {l : List UInt8} : SpcS X 92 [.one (.ptr 1000 0)] (bdH 85 te n l) (.tup []) (bdH 85 te n l) := copyCheck_spc (X := X) bd240 bdX.toX72
theorem s_String (l : List UInt8) : SpcS X 68 [.one (.ptr 1000 0)] (bdH 85 5 l.length l) (.one (.pv (.str l))) [(1000, (.mx [.any, .any], false))] := string_spc (X := X) bd169 bdX
theorem s_WriteString (l s : List UInt8) {n : Nat} (hn : n = l.length) (hb : n + s.length ≤ 140737488355328) : SpcS X 67 [.one (.ptr 1000 0), vS s] (bdH 85 5 n l) (.tup [(false, [.pv (.int .i64 s.length)]), (false, [.pv (.lit .nilIface)])]) (bdH 85 5 (n + s.length) (l ++ s)) := by
  refine SpcS.start 1 Tryz.func67 rfl (h := fun hs hH R hR => ?_)
  unfold Tryz.f67
  simp only [entryV, bdH]
  refine walk (hQ := ?_)
  refine R_callB 0 s_copyCheck (hK := ?_)
  refine walk (hQ := ?_)
  refine hR _ (retS2 (hy := rfl) (hle := ⟨rfl, rfl, trivial⟩))
end Go.VS.YtlmioegjeocaaaaGreatDoor


namespace Go.VL
open Go.VN
set_option linter.unusedVariables false
set_option linter.unusedSimpArgs false
instance (l : List UInt8) : Decidable (Go.VN.Dec l) := by unfold Go.VN.Dec; infer_instance
def lineB (x : List UInt8 × Int) : List UInt8 := x.1 ++ (32 :: Lib.itoa x.2) ++ [10]
def fmtT (l : TL) : List UInt8 := l.flatMap lineB
/-- What stands behind the first byte c. -/
def cutR (c : UInt8) (s : List UInt8) : List UInt8 := s.drop ((cutL c s).length + 1)
theorem cut_eq {c : UInt8} {s : List UInt8} (h : c ∈ s) : s = cutL c s ++ c :: cutR c s := ((indexByte_cut c s).1 h).2
theorem cutL_all {c : UInt8} {s : List UInt8} (h : c ∉ s) : cutL c s = s := ((indexByte_cut c s).2 h).2
theorem cutL_app {c : UInt8} : ∀ {k r : List UInt8}, c ∉ k → cutL c (k ++ c :: r) = k
  | [], r, _ => by simp [cutL]
  | x :: k, r, h => by
    have ih := cutL_app (c := c) (k := k) (r := r) fun hk => h (by simp [hk])
    unfold cutL at *
    rw [List.cons_append, List.takeWhile_cons, if_pos, ih]
    have : x ≠ c := fun e => h (by simp [e])
    simpa using this
theorem cutL_not (c : UInt8) (s : List UInt8) : c ∉ cutL c s := fun h => by
  unfold cutL at h
  have := List.all_eq_true.1 (List.all_takeWhile (l := s) (p := fun x => x != c)) c h
  simp at this
theorem cutR_app {c : UInt8} {k r : List UInt8} (h : c ∉ k) : cutR c (k ++ c :: r) = r := by
  unfold cutR
  rw [cutL_app h, List.drop_append, List.drop_eq_nil_of_le (by omega), Nat.add_sub_cancel_left]; rfl
def okD (d : List UInt8) : Prop := d ≠ [] ∧ d.length ≤ 7 ∧ ¬ (1 < d.length ∧ d.getD 0 0 = 48) ∧ Go.VN.Dec d
instance (d : List UInt8) : Decidable (okD d) := by unfold okD; infer_instance
def lnT (s : List UInt8) : Option (List UInt8 × Int) := if 32 ∈ s ∧ okD (cutR 32 s) then some (cutL 32 s, (dv (cutR 32 s) : Int)) else none
theorem okD_back {d : List UInt8} (h : okD d) : Lib.itoa (dv d : Int) = d := by
  obtain ⟨h1, _, h2, h3⟩ := h
  rw [itoa_nat]
  cases d with
  | nil => exact absurd rfl h1
  | cons c l =>
    by_cases hc : c = 48
    · subst hc
      cases l with
      | nil => unfold Lib.decDigits; rfl
      | cons y l => exact absurd ⟨by simp, rfl⟩ h2
    · exact dec_dv l.length c l rfl h3 hc
theorem decDigits_len7 {n : Nat} (h : n < 10000000) : (Lib.decDigits n).length ≤ 7 := by
  rw [Lib.decDigits_length]
  have h1 := Lib.nDigits_pos n
  by_cases h0 : n = 0
  · subst h0; rw [Lib.nDigits_small (by omega)]; omega
  · rcases Nat.lt_or_ge 7 (Lib.nDigits n) with h2 | h2
    · exfalso
      have hk : ∀ k, k ≤ 6 → ¬ (10 ^ k ≤ n ∧ n < 10 ^ (k + 1)) := fun k hk ⟨a, b⟩ => by
        have := Lib.nDigits_unique k n a b
        omega
      have hp : ∀ k, k ≤ 7 → n < 10 ^ k → False := fun k => by
        induction k with
        | zero => intro _ h; omega
        | succ k ih =>
          intro hk2 h
          rcases Nat.lt_or_ge n (10 ^ k) with h3 | h3
          · exact ih (by omega) h3
          · exact hk k (by omega) ⟨h3, h⟩
      exact hp 7 (Nat.le_refl _) h
    · exact h2
theorem okD_itoa {n : Int} (h0 : 0 ≤ n) (h : n < 10000000) : okD (Lib.itoa n) ∧ (dv (Lib.itoa n) : Int) = n := by
  obtain ⟨m, rfl⟩ := Int.eq_ofNat_of_zero_le h0
  rw [itoa_nat, dv_decDigits]
  refine ⟨⟨decDigits_ne m, decDigits_len7 (by omega), ?_, dec_decDigits m⟩, rfl⟩
  rintro ⟨h1, h2⟩
  rcases Nat.eq_zero_or_pos m with rfl | hm
  · have : Lib.decDigits 0 = [48] := by unfold Lib.decDigits; rfl
    rw [this] at h1; simp at h1
  · have := decDigits_head m hm
    cases hd : Lib.decDigits m with
    | nil => exact decDigits_ne m hd
    | cons a l => rw [hd] at h2 this; simp at h2 this; exact this h2
theorem lnT_line {x : List UInt8 × Int} (hk : (32 : UInt8) ∉ x.1) (h0 : 0 ≤ x.2) (h : x.2 < 10000000) : lnT (x.1 ++ 32 :: Lib.itoa x.2) = some x := by
  obtain ⟨h1, h2⟩ := okD_itoa h0 h
  unfold lnT
  rw [cutR_app hk, cutL_app hk, if_pos ⟨by simp, h1⟩, h2]
theorem lnT_back {s : List UInt8} {x : List UInt8 × Int} (h : lnT s = some x) : s = x.1 ++ 32 :: Lib.itoa x.2 := by
  unfold lnT at h
  split at h
  · rename_i hh
    simp only [Option.some.injEq] at h
    subst h
    show s = cutL 32 s ++ 32 :: Lib.itoa (dv (cutR 32 s) : Int)
    rw [okD_back hh.2]
    exact cut_eq hh.1
  · cases h
def parT (s : List UInt8) : TL × Bool :=
  if h : s = [] then ([], true) else
  if h2 : (10 : UInt8) ∈ s then (match lnT (cutL 10 s) with | some x => (x :: (parT (cutR 10 s)).1, (parT (cutR 10 s)).2) | none => ([], false)) else ([], false)
termination_by s.length
decreasing_by
  all_goals
    have : 0 < s.length := List.length_pos_iff.2 h
    unfold cutR
    rw [List.length_drop]
    omega
theorem parT_nil : parT [] = ([], true) := by rw [parT]; rfl
theorem parT_no {s : List UInt8} (h : s ≠ []) (h2 : (10 : UInt8) ∉ s) : parT s = ([], false) := by rw [parT, dif_neg h, dif_neg h2]
theorem parT_bad {s : List UInt8} (h2 : (10 : UInt8) ∈ s) (h3 : lnT (cutL 10 s) = none) : parT s = ([], false) := by
  rw [parT, dif_neg (by rintro rfl; cases h2), dif_pos h2, h3]
theorem parT_ok {s : List UInt8} {x : List UInt8 × Int} (h2 : (10 : UInt8) ∈ s) (h3 : lnT (cutL 10 s) = some x) : parT s = (x :: (parT (cutR 10 s)).1, (parT (cutR 10 s)).2) := by
  rw [parT, dif_neg (by rintro rfl; cases h2), dif_pos h2, h3]
theorem parT_fmt : ∀ {l : TL}, (∀ x ∈ l, (32 : UInt8) ∉ x.1 ∧ (10 : UInt8) ∉ x.1 ∧ 0 ≤ x.2 ∧ x.2 < 10000000) → parT (fmtT l) = (l, true)
  | [], _ => parT_nil
  | x :: l, h => by
    obtain ⟨h1, h2, h3, h4⟩ := h x (by simp)
    have hd : (10 : UInt8) ∉ x.1 ++ 32 :: Lib.itoa x.2 := by
      intro hm
      rcases List.mem_append.1 hm with hm | hm
      · exact h2 hm
      · rcases List.mem_cons.1 hm with hm | hm
        · cases hm
        · have := (okD_itoa h3 h4).1.2.2.2 _ hm
          have e : (10 : UInt8).toNat = 10 := rfl
          omega
    have e : fmtT (x :: l) = (x.1 ++ 32 :: Lib.itoa x.2) ++ 10 :: fmtT l := by
      unfold fmtT lineB
      rw [List.flatMap_cons, List.append_assoc]; rfl
    rw [e, parT_ok (x := x) (by simp) (by rw [cutL_app hd]; exact lnT_line h1 h3 h4), cutR_app hd, parT_fmt fun y hy => h y (by simp [hy])]
theorem fmt_parT (s : List UInt8) (h : (parT s).2 = true) : fmtT (parT s).1 = s := by
  by_cases hs : s = []
  · subst hs; rw [parT_nil]; rfl
  · by_cases h10 : (10 : UInt8) ∈ s
    · cases hl : lnT (cutL 10 s) with
      | none => rw [parT_bad h10 hl] at h; cases h
      | some x =>
        rw [parT_ok h10 hl] at h ⊢
        have ih := fmt_parT (cutR 10 s) h
        have e : fmtT (x :: (parT (cutR 10 s)).1) = (x.1 ++ 32 :: Lib.itoa x.2) ++ 10 :: fmtT (parT (cutR 10 s)).1 := by
          unfold fmtT lineB
          rw [List.flatMap_cons, List.append_assoc]; rfl
        show fmtT (x :: (parT (cutR 10 s)).1) = s
        rw [e, ih, ← lnT_back hl]
        exact (cut_eq h10).symm
    · rw [parT_no hs h10] at h; cases h
termination_by s.length
decreasing_by
  have : 0 < s.length := List.length_pos_iff.2 hs
  unfold cutR
  rw [List.length_drop]
  omega
theorem parT_len (s : List UInt8) : (parT s).1.length ≤ s.length := by
  by_cases hs : s = []
  · subst hs; rw [parT_nil]; simp
  · by_cases h10 : (10 : UInt8) ∈ s
    · cases hl : lnT (cutL 10 s) with
      | none => rw [parT_bad h10 hl]; simp
      | some x =>
        have ih := parT_len (cutR 10 s)
        have : 0 < s.length := List.length_pos_iff.2 hs
        rw [parT_ok h10 hl]
        have : (cutR 10 s).length + 1 ≤ s.length := by unfold cutR; rw [List.length_drop]; omega
        simp only [List.length_cons]; omega
    · rw [parT_no hs h10]; simp
termination_by s.length
decreasing_by
  have : 0 < s.length := List.length_pos_iff.2 hs
  unfold cutR
  rw [List.length_drop]
  omega
/-- What Parse returns. -/
def prsT (s : List UInt8) : TL × Int × Int :=
  if 200000 < s.length then ([], 0, 3) else if (parT s).2 = false then ([], ((parT s).1.length : Int) + 1, 2) else
  if 2000 < (parT s).1.length then ([], 0, 3) else if (scanE (entE (tlT (parT s).1)) 0 (parT s).1.length).1 = 0 then ((parT s).1, 0, 0) else ([], ((scanE (entE (tlT (parT s).1)) 0 (parT s).1.length).2 : Int) + 1, (scanE (entE (tlT (parT s).1)) 0 (parT s).1.length).1)
end Go.VL


namespace Go.VS.YtlmioegjeocaaaaGreatDoor
open Go Go.VL Go.VN Go.RowKit Go.Proofs
set_option maxRecDepth 100000
set_option linter.unusedVariables false
set_option linter.unusedSimpArgs false
theorem s_Itoa (z : Int) : Spc X 65 [.one (.int .i64 z)] (.one (.str (Lib.itoa z))) :=
  spc_int (ent_of2 (P := X.P) Tryz.func65 (by kernel_rfl) (by kernel_rfl)) fun w hG h0 h1 => (Tryz.strconv_Itoa z h0 h1 w hG.2).mono fun e w' ⟨he, k, os, hw⟩ => ⟨_, he, .str _ (Nat.le_trans (Lib.itoa_length_le z h0 h1) (by decide)), by rw [hw]; exact Lib.below_grow _ w (Nat.le_refl _) k os⟩
theorem itoa_rec (n : Nat) (h : ¬ n < 10) : Lib.itoa (n : Int) = Lib.itoa ((n / 10 : Nat) : Int) ++ Lib.itoa ((n % 10 : Nat) : Int) := by
  rw [itoa_nat, itoa_nat, itoa_nat]
  have h1 : Lib.decDigits (n % 10) = [UInt8.ofNat (48 + n % 10)] := Lib.decDigits_one (Nat.mod_lt _ (by decide))
  rw [h1]
  conv => lhs; unfold Lib.decDigits
  rw [dif_neg h]
theorem r_digits : ∀ (k n : Nat), n < 10 ^ (k + 1) → k ≤ 8 → Spc X 69 [.one (.int .i64 (n : Int))] (.one (.str (Lib.itoa (n : Int)))) := fun k => by
  induction k with
  | zero =>
    intro n hn _
    simp only [Nat.zero_add, Nat.pow_one] at hn
    refine Spc.start Tryz.func69 rfl (h := fun hs R hR => ?_)
    unfold Tryz.f69
    simp only [entryE, PA.av]
    rw [itoa_nat, Lib.decDigits_one hn] at hR
    refine walk (hQ := ?_)
    refine W_if (ht := fun h1 => ?_) (hf := fun h1 => ?_)
    · refine walk (hQ := ?_)
      rw [show ((48 : Int) + (n : Int)) = ((UInt8.ofNat (48 + n)).toNat : Int) by simp; omega]
      refine R_bsl eU (l := [UInt8.ofNat (48 + n)]) (hK := ?_)
      refine walk (hQ := ?_)
      exact hR _ (ret1 (hp := rfl))
    · exact absurd h1 (by omega)
  | succ k ih =>
    intro n hn hk
    refine Spc.start Tryz.func69 rfl (h := fun hs R hR => ?_)
    unfold Tryz.f69
    simp only [entryE, PA.av]
    have hnb : n < 10000000000 := Nat.lt_of_lt_of_le hn (Nat.pow_le_pow_right (show 0 < 10 by decide) (show k + 1 + 1 ≤ 10 by omega))
    have k1 := ih (n / 10) (by rw [Nat.pow_succ] at hn; omega) (by omega)
    have k2 := ih (n % 10) (Nat.lt_of_lt_of_le (Nat.mod_lt _ (by decide)) (by have := Nat.pow_le_pow_right (show 0 < 10 by decide) (show 1 ≤ k + 1 by omega); omega)) (by omega)
    by_cases h0 : n < 10
    · rw [itoa_nat, Lib.decDigits_one h0] at hR
      refine walk (hQ := ?_)
      refine W_if (ht := fun h1 => ?_) (hf := fun h1 => ?_)
      · refine walk (hQ := ?_)
        rw [show ((48 : Int) + (n : Int)) = ((UInt8.ofNat (48 + n)).toNat : Int) by simp; omega]
        refine R_bsl eU (l := [UInt8.ofNat (48 + n)]) (hK := ?_)
        refine walk (hQ := ?_)
        exact hR _ (ret1 (hp := rfl))
      · exact absurd h1 (by omega)
    · rw [itoa_rec n h0] at hR
      have l1 := Lib.itoa_length_le ((n / 10 : Nat) : Int) (by omega) (by omega)
      have l2 := Lib.itoa_length_le ((n % 10 : Nat) : Int) (by omega) (by omega)
      rw [show ((n / 10 : Nat) : Int) = (n : Int) / 10 by omega] at *
      rw [show ((n % 10 : Nat) : Int) = (n : Int) % 10 by omega] at *
      generalize Lib.itoa ((n : Int) / 10) = A at *
      generalize Lib.itoa ((n : Int) % 10) = B at *
      refine walk (hQ := ?_)
      refine W_if (ht := fun h1 => ?_) (hf := fun h1 => ?_)
      · exact absurd h1 (by omega)
      · refine walk (hQ := ?_)
        refine R_call k1 (hK := ?_)
        refine walk (hQ := ?_)
        refine R_call k2 (hK := ?_)
        refine walk (hQ := ?_)
        exact hR _ (ret1 (hp := rfl))
theorem line_len {x : List UInt8 × Int} (hk : keyE x.1 = 0) (h0 : 0 ≤ x.2) (h1 : x.2 ≤ 1000000) : (lineB x).length ≤ 70 := by
  have h2 := key_len hk
  have h3 := (okD_itoa h0 (show x.2 < 10000000 by omega)).1.2.1
  unfold lineB
  simp only [List.length_append, List.length_cons, List.length_nil]; omega
theorem fmt_len {l : TL} (h : ∀ x ∈ l, keyE x.1 = 0 ∧ 1 ≤ x.2 ∧ x.2 ≤ 1000000) : (fmtT l).length ≤ 70 * l.length := by
  induction l with
  | nil => simp [fmtT]
  | cons x l ih =>
    have h0 := h x (by simp)
    have h1 := line_len h0.1 (by omega) h0.2.2
    have h2 := ih fun y hy => h y (by simp [hy])
    unfold fmtT at *
    rw [List.flatMap_cons, List.length_append, List.length_cons]; omega
def fmtR (t : Tal) : List UInt8 × Int := if validE t ≠ 0 then ([], validE t) else (fmtT (toL t), 0)
theorem fmt_next {l : TL} {i : Nat} (hi : i < l.length) : fmtT (l.take (i + 1)) = fmtT (l.take i) ++ ((l.map Prod.fst).getD i [] ++ [32] ++ Lib.itoa ((l.map Prod.snd).getD i 0) ++ [10]) := by
  rw [List.take_succ_eq_append_getElem hi, getD_map1, getD_map2, List.getD_eq_getElem?_getD, List.getElem?_eq_getElem hi]
  unfold fmtT lineB
  rw [List.flatMap_append]
  simp
theorem t_Format (t : Tal) : Spc X 40 [.agg (eTl t)] (.tup [(false, [.str (fmtR t).1]), (false, [.int .i64 (fmtR t).2])]) := by
  refine Spc.start Tryz.func40 rfl (h := fun hs R hR => ?_)
  unfold Tryz.f40
  simp only [entryE, PA.av]
  have k1 := t_Valid t
  unfold fmtR at hR
  by_cases hv : validE t = 0
  · obtain ⟨A, rfl, hA⟩ := valid_of hv
    rw [if_neg (by rw [hv]; simp), toL_tlT] at hR
    rw [hv] at k1
    have hAl := hA.1
    have hla : (A.map Prod.fst).length = A.length := by simp
    have hlb : (A.map Prod.snd).length = A.length := by simp
    have gA := fun i (hi : i < A.length) => (hA.2.2 (A.getD i ([], 0)) (by rw [List.getD_eq_getElem?_getD, List.getElem?_eq_getElem hi]; exact List.getElem_mem hi))
    simp only [← getD_map2, ← getD_map1] at gA
    have hnx := fun i hi => fmt_next (l := A) (i := i) hi
    have hfl := fun i => fmt_len (l := A.take i) fun x hx => hA.2.2 x (List.mem_of_mem_take hx)
    have hMA : A.take A.length = A := List.take_length
    simp only [tlT, eTl] at *
    generalize A.map Prod.fst = KA at *
    generalize A.map Prod.snd = CA at *
    refine walk (hQ := ?_)
    refine R_call k1 (hK := ?_)
    refine walk (hQ := ?_)
    refine Lp.intro2 (fun (T : List UInt8) (i : Nat) => ⟨[(1, .one (.ptr 0 0)), (5, .one (.ptr 1 0)), (14, vP (slc eS KA)), (15, vI KA.length), (16, vI i)], [(0, (.mx [.pv (slc eS KA), .pv (slc eI CA)], false)), (1, (.mx [.adr 1 85 2, .own 2 1 T.length], false)), (2, (.pu 5 (T.flatMap eU), false))], 3⟩) (fun T i => i ≤ A.length ∧ T = fmtT (A.take i)) (fun T i => A.length - i) [] 0 ⟨Nat.zero_le _, rfl⟩ (h0 := le_auto) (hr := fun T i K ⟨hi, hT⟩ hK => ?_)
    have hTl := hfl i
    rw [← hT, List.length_take] at hTl
    refine walk (hQ := ?_)
    refine W_if (ht := fun h2 => ?_) (hf := fun h2 => ?_)
    · have hil : i < A.length := by omega
      have g1 := gA i hil
      have gk := key_len g1.1
      have hn := hnx i hil
      rw [← hT] at hn
      have k2 := s_Itoa (CA.getD i 0)
      have hil2 := (okD_itoa (n := CA.getD i 0) (by omega) (by omega)).1.2.1
      generalize Lib.itoa (CA.getD i 0) = IT at *
      refine walk (hQ := ?_)
      refine R_call k2 (hK := ?_)
      refine walk (hQ := ?_)
      refine R_callB 2 (s_WriteString T (KA.getD i [] ++ [32] ++ IT ++ [10]) rfl (by simp only [List.length_append, List.length_cons, List.length_nil]; omega)) (hK := ?_)
      refine walk (hQ := ?_)
      refine hK _ (T ++ (KA.getD i [] ++ [32] ++ IT ++ [10])) (i + 1) ⟨by omega, hn.symm⟩ (by omega) ?_
      rw [@List.length_append _ T]
      exact le_auto (hh := ⟨rfl, rfl, rfl, trivial⟩)
    · obtain rfl : i = A.length := by omega
      rw [hMA] at hT
      rw [← hT] at hR
      refine walk (hQ := ?_)
      refine R_callBC 2 (s_String T) (hK := ?_)
      refine walk (hQ := ?_)
      exact hR _ (ret2 (hp := rfl))
  · rw [if_pos hv] at hR
    generalize validE t = E at *
    obtain ⟨ks, cs⟩ := t
    simp only [eTl] at *
    refine walk (hQ := ?_)
    refine R_call k1 (hK := ?_)
    refine walk (hQ := ?_)
    refine W_if (ht := fun h1 => ?_) (hf := fun h1 => ?_)
    · refine walk (hQ := ?_)
      exact hR _ (ret2 (hp := rfl))
    · exact absurd h1 (by omega)
theorem r_Format (t : Tal) : Spc X 41 [.agg (eTl t)] (.tup [(false, [.str (fmtR t).1]), (false, [.int .i64 (fmtR t).2])]) := by
  refine Spc.start Tryz.func41 rfl (h := fun hs R hR => ?_)
  unfold Tryz.f41
  simp only [entryE, PA.av]
  have k1 := r_Valid t
  unfold fmtR at hR
  by_cases hv : validE t = 0
  · obtain ⟨A, rfl, hA⟩ := valid_of hv
    rw [if_neg (by rw [hv]; simp), toL_tlT] at hR
    rw [hv] at k1
    have hAl := hA.1
    have hla : (A.map Prod.fst).length = A.length := by simp
    have hlb : (A.map Prod.snd).length = A.length := by simp
    have gA := fun i (hi : i < A.length) => (hA.2.2 (A.getD i ([], 0)) (by rw [List.getD_eq_getElem?_getD, List.getElem?_eq_getElem hi]; exact List.getElem_mem hi))
    simp only [← getD_map2, ← getD_map1] at gA
    have hnx := fun i hi => fmt_next (l := A) (i := i) hi
    have hfl := fun i => fmt_len (l := A.take i) fun x hx => hA.2.2 x (List.mem_of_mem_take hx)
    have hMA : A.take A.length = A := List.take_length
    simp only [tlT, eTl] at *
    generalize A.map Prod.fst = KA at *
    generalize A.map Prod.snd = CA at *
    refine walk (hQ := ?_)
    refine R_call k1 (hK := ?_)
    refine walk (hQ := ?_)
    refine Lp.intro2 (fun (T : List UInt8) (i : Nat) => ⟨[(1, .one (.ptr 0 0)), (5, .one (.own 1 1 T.length)), (6, vI i)], [(0, (.mx [.pv (slc eS KA), .pv (slc eI CA)], false)), (1, (.pu 5 (T.flatMap eU), false))], 2⟩) (fun T i => i ≤ A.length ∧ T = fmtT (A.take i)) (fun T i => A.length - i) [] 0 ⟨Nat.zero_le _, rfl⟩ (h0 := le_ghost1 1 5 (hle := le_auto)) (hr := fun T i K ⟨hi, hT⟩ hK => ?_)
    have hTl := hfl i
    rw [← hT, List.length_take] at hTl
    refine walk (hQ := ?_)
    refine W_if (ht := fun h2 => ?_) (hf := fun h2 => ?_)
    · have hil : i < A.length := by omega
      have g1 := gA i hil
      have gk := key_len g1.1
      have hn := hnx i hil
      rw [← hT] at hn
      obtain ⟨m, hm⟩ := Int.eq_ofNat_of_zero_le (show 0 ≤ CA.getD i 0 by omega)
      have k2 := r_digits 6 m (by rw [show (10 : Nat) ^ (6 + 1) = 10000000 from rfl]; omega) (by omega)
      rw [← hm] at k2
      have hil2 := (okD_itoa (n := CA.getD i 0) (by omega) (by omega)).1.2.1
      generalize Lib.itoa (CA.getD i 0) = IT at *
      refine walk (hQ := ?_)
      rw [← @List.length_append _ T (KA.getD i [])]
      refine R_bsl eU (l := [32]) (hK := ?_)
      refine walk (hQ := ?_)
      rw [← @List.length_append _ (T ++ KA.getD i []) [32]]
      refine R_call k2 (hK := ?_)
      refine walk (hQ := ?_)
      rw [← @List.length_append _ (T ++ KA.getD i [] ++ [32]) IT]
      refine R_bsl eU (l := [10]) (hK := ?_)
      refine walk (hQ := ?_)
      refine hK _ (T ++ KA.getD i [] ++ [32] ++ IT ++ [10]) (i + 1) ⟨by omega, by rw [hn]; simp⟩ (by omega) ?_
      exact le_autoL
    · obtain rfl : i = A.length := by omega
      rw [hMA] at hT
      rw [← hT] at hR
      refine walk (hQ := ?_)
      exact hR _ (ret2 (hp := rfl))
  · rw [if_pos hv] at hR
    generalize validE t = E at *
    obtain ⟨ks, cs⟩ := t
    simp only [eTl] at *
    refine walk (hQ := ?_)
    refine R_call k1 (hK := ?_)
    refine walk (hQ := ?_)
    refine W_if (ht := fun h1 => ?_) (hf := fun h1 => ?_)
    · refine walk (hQ := ?_)
      exact hR _ (ret2 (hp := rfl))
    · exact absurd h1 (by omega)
end Go.VS.YtlmioegjeocaaaaGreatDoor

