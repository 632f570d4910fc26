/- Contracts over whole values, and what they lean on: part i. Each holds under the conditions that it states. -/
import Derived.Test.YtekfjbjdlenhoaaGreatDoorZh
import Derived.Lib.Join
set_option linter.unusedVariables false
set_option linter.unusedSimpArgs false

namespace Go.VN
open Go.RowKit Go.VL
set_option linter.unusedVariables false
theorem sdE_nuc0 {k : Int} {s : List UInt8} (h : nuc (k, 0, s) = true) : sdE (k, 0, s) ≠ 0 := by
  unfold nuc at h
  simp only [Bool.or_eq_true, decide_eq_true_eq] at h
  unfold sdE qty
  rcases h with rfl | rfl <;> simp
theorem rdG_rdS (w : List UInt8) : toO (rdG w) = rdS w := by
  unfold rdS rdG rdF toO
  by_cases h0 : 47 ∈ w ∧ w.drop ((cutL 47 w).length + 1) ≠ []
  · rw [if_pos h0, if_pos h0]
    simp only
    generalize w.drop ((cutL 47 w).length + 1) = t
    generalize hk : Lib.indexByte ltrs (t.getD 0 0) + 1 = k
    cases hn : nuc (k, 0, cutL 47 w) with
    | true =>
      have h2 := sdE_nuc0 hn
      by_cases h1 : t.length = 2 ∧ 49 ≤ (t.getD 1 0).toNat ∧ (t.getD 1 0).toNat ≤ 51
      · simp only [h1, and_self, if_true]
      · simp only [h1, and_false, if_false, if_true, decide_eq_false h2, Bool.and_false, Bool.false_eq_true]
    | false =>
      by_cases h1 : t.length = 1
      · simp only [h1, Bool.false_eq_true, false_and, if_false, if_true, decide_true, Bool.true_and]
      · simp only [h1, Bool.false_eq_true, false_and, if_false, decide_false, Bool.false_and]
  · rw [if_neg h0, if_neg h0]
theorem joinS_join : ∀ l : List (List UInt8), joinS l = Lib.join l [32]
  | [] => rfl
  | [x] => by simp [joinS, Lib.join, List.intercalate]
  | x :: y :: l => by
    have ih := joinS_join (y :: l)
    rw [joinS, ih]
    simp [Lib.join, List.intercalate, List.intersperse]
end Go.VN
namespace Go.VN
open Go.RowKit Go.VL
theorem spK_mem (k : Bool) (c : UInt8) : ∀ (s : List UInt8), ∀ w ∈ spK k c s, w.length ≤ s.length
  | [], w, h => by
    simp only [spK, List.mem_singleton] at h
    rw [h]; simp
  | x :: s, w, h => by
    have ih := spK_mem k c s
    rw [spK] at h
    by_cases hx : x = c
    · rw [if_pos hx] at h
      rcases List.mem_cons.1 h with h | h
      · rw [h]; cases k <;> simp
      · have := ih w h; rw [List.length_cons]; omega
    · rw [if_neg hx] at h
      cases he : spK k c s with
      | nil =>
        rw [he] at h
        simp only [consH, List.mem_singleton] at h
        rw [h]; simp
      | cons y l =>
        rw [he] at h ih
        simp only [consH] at h
        rcases List.mem_cons.1 h with h | h
        · have := ih y (by simp)
          rw [h, List.length_cons, List.length_cons]; omega
        · have := ih w (by simp [h])
          rw [List.length_cons]; omega
theorem rdAll_app : ∀ (a b : List (List UInt8)), rdAll (a ++ b) = (rdAll a).bind fun x => (rdAll b).map fun y => x ++ y
  | [], b => by simp [rdAll]
  | w :: a, b => by
    have ih := rdAll_app a b
    rw [List.cons_append, rdAll, rdAll, ih]
    cases rdS w with
    | none => rfl
    | some x => cases rdAll a with
      | none => rfl
      | some y => cases rdAll b <;> rfl
theorem rdAll_len : ∀ {l : List (List UInt8)} {out : List Snd}, rdAll l = some out → out.length = l.length
  | [], out, h => by simp only [rdAll, Option.some.injEq] at h; rw [← h]; rfl
  | w :: l, out, h => by
    rw [rdAll] at h
    cases hw : rdS w with
    | none => rw [hw] at h; cases h
    | some x =>
      cases hl : rdAll l with
      | none => rw [hw, hl] at h; cases h
      | some y =>
        rw [hw, hl] at h
        have := rdAll_len hl
        cases h
        simp [this]
theorem rdAll_next {l : List (List UInt8)} {i : Nat} {w : List UInt8} {out : List Snd} (h : l[i]? = some w) (ho : rdAll (l.take i) = some out) : (rdS w = none → rdAll l = none) ∧ ∀ x, rdS w = some x → rdAll (l.take (i + 1)) = some (out ++ [x]) := by
  obtain ⟨hi, rfl⟩ := List.getElem?_eq_some_iff.1 h
  constructor
  · intro hn
    have e : l = l.take i ++ l[i] :: l.drop (i + 1) := by
      rw [← List.drop_eq_getElem_cons hi, List.take_append_drop]
    rw [e, rdAll_app, ho]
    simp only [Option.bind_some]
    rw [rdAll, hn]; rfl
  · intro x hx
    rw [List.take_succ_eq_append_getElem hi, rdAll_app, ho]
    simp only [Option.bind_some, rdAll, hx]; rfl
end Go.VN
namespace Go.VN
open Go.RowKit Go.VL
theorem spK_ne (k : Bool) (c : UInt8) (s : List UInt8) : 0 < (spK k c s).length := by rw [spK_len k c s.length s (Nat.le_refl _)]; omega
def lastAdd (l : List (List UInt8)) (x : UInt8) : List (List UInt8) := l.set (l.length - 1) (l.getD (l.length - 1) [] ++ [x])
theorem lastAdd_cons {a : List UInt8} {l : List (List UInt8)} (h : 0 < l.length) (x : UInt8) : lastAdd (a :: l) x = a :: lastAdd l x := by
  match l, h with
  | b :: l, _ => unfold lastAdd; simp
theorem splitL_snoc (c x : UInt8) : ∀ p : List UInt8, splitL c (p ++ [x]) = if x = c then splitL c p ++ [[]] else lastAdd (splitL c p) x
  | [] => by
    by_cases h : x = c <;> simp [splitL, spK, h, consH, lastAdd]
  | y :: p => by
    have ih := splitL_snoc c x p
    have hp : 0 < (splitL c p).length := spK_ne false c p
    rw [List.cons_append]
    unfold splitL at ih hp ⊢
    rw [spK, spK, ih]
    by_cases hy : y = c
    · rw [if_pos hy, if_pos hy]
      by_cases hx : x = c
      · rw [if_pos hx, if_pos hx]; rfl
      · rw [if_neg hx, if_neg hx, lastAdd_cons hp]
    · rw [if_neg hy, if_neg hy]
      match hl : spK false c p, hp with
      | a :: l, _ =>
        by_cases hx : x = c
        · rw [if_pos hx, if_pos hx]; rfl
        · rw [if_neg hx, if_neg hx]
          cases l with
          | nil => simp [consH, lastAdd]
          | cons b l =>
            rw [lastAdd_cons (a := a) (l := b :: l) (by simp)]
            show (y :: a) :: lastAdd (b :: l) x = lastAdd ((y :: a) :: (b :: l)) x
            rw [lastAdd_cons (a := y :: a) (l := b :: l) (by simp)]
end Go.VN
namespace Go.VN
open Go.RowKit Go.VL
abbrev lts : List UInt8 := [32, 118, 100, 109, 108, 110, 115, 120, 103, 98]
theorem lts_tab : ∀ n < 256, ∀ k < 10, 1 ≤ k → (lts.getD k 0 = UInt8.ofNat n ↔ Lib.indexByte ltrs (UInt8.ofNat n) + 1 = (k : Int)) := by decide +kernel
theorem lts_at (c : UInt8) {k : Nat} (h1 : 1 ≤ k) (h2 : k < 10) : lts.getD k 0 = c ↔ Lib.indexByte ltrs c + 1 = (k : Int) := by
  have := lts_tab c.toNat c.toNat_lt k h2 h1
  rwa [UInt8.ofNat_toNat] at this
theorem ltrs_le (c : UInt8) : Lib.indexByte ltrs c ≤ 8 := by
  by_cases hm : c ∈ ltrs
  · rw [((indexByte_cut c ltrs).1 hm).1]
    have := cut_len c hm
    simp only [List.length_cons, List.length_nil] at this
    omega
  · rw [((indexByte_cut c ltrs).2 hm).1]; omega
end Go.VN
namespace Go.VN
open Go.RowKit Go.VL
theorem joinS_len {B : Nat} : ∀ {l : List (List UInt8)}, (∀ w ∈ l, w.length ≤ B) → (joinS l).length ≤ l.length * (B + 1)
  | [], _ => by simp [joinS]
  | [x], h => by have := h x (by simp); simp [joinS]; omega
  | x :: y :: l, h => by
    have ih := joinS_len (l := y :: l) fun w hw => h w (by simp [hw])
    have := h x (by simp)
    rw [joinS, List.length_append, List.length_append, List.length_singleton, List.length_cons, Nat.succ_mul]
    omega
def oO {α : Type} (z : α) (o : Option α) : α × Bool := match o with | none => (z, false) | some x => (x, true)
end Go.VN


namespace Go.VS.YtekfjbjdlenhoaaGreatDoor
open Go Go.VL Go.VN Go.RowKit Go.Proofs
set_option maxRecDepth 100000
set_option linter.unusedVariables false
set_option linter.unusedSimpArgs false

theorem s_Join (l : List (List UInt8)) (sep : List UInt8) (h0 : 0 < l.length) (hN : l.length ≤ 1000000) (hl : (Lib.join l sep).length ≤ 140737488355328) : Spc X 73 [.one (slc eS l), .one (.str sep)] (.one (.str (Lib.join l sep))) :=
  spc_calls (ent_of2 (P := X.P) Tryz.func73 (by kernel_rfl) (by kernel_rfl)) fun ok w vals hG hlt hs hv => by
    obtain ⟨u, hu, hr⟩ := hv 0 _ rfl
    obtain ⟨v, hv, hq⟩ := hv 1 _ rfl
    obtain ⟨rfl, hz⟩ := one_str hq
    obtain ⟨A, cap, rfl, h1, _, h3, hpos⟩ := one_sl hr
    obtain ⟨_, sz, b, o, rfl, hl', hok, hc⟩ := hpos h0
    rw [vals2 hs hu hv]
    have em : (l.map fun s => (⟨s.toArray⟩ : ByteArray)).map (fun x => x.data.toList) = l := by
      rw [List.map_map]; exact List.map_id'' (fun _ => rfl) l
    have el : (l.map fun s => (⟨s.toArray⟩ : ByteArray)).length = l.length := List.length_map ..
    have hj := Tryz.strings_Join b o cap (l.map fun s => ⟨s.toArray⟩) ⟨sep.toArray⟩ w (fun j x hj => by
      rw [List.getElem?_map] at hj
      cases hx : l[j]? with
      | none => rw [hx] at hj; cases hj
      | some y =>
        rw [hx] at hj
        cases hj
        have hp : (l.flatMap eS)[j]? = some (.str y) := by
          have := flat_get (e := eS) (S := 1) (fun _ => rfl) hx (show (eS y)[0]? = some (.str y) from rfl)
          simpa using this
        obtain ⟨v, hv, hrv⟩ := hc j _ hp
        cases hrv
        exact hv) (hlt _ hok) (by omega) (by omega) (by rw [em]; exact hl)
    rw [em, el] at hj
    refine hj.mono fun e w' ⟨he, hb⟩ => ?_
    exact ⟨_, he, .str _ (Nat.le_trans hl (by decide)), hb⟩
theorem s_Index1 (s : List UInt8) (c : UInt8) (hl : s.length ≤ 140737488355328) : Spc X 116 [.one (.str s), .one (.str [c])] (.one (.int .i64 (Lib.indexByte s c))) :=
  spc_str2 (ent_of2 (P := X.P) Tryz.func116 (by kernel_rfl) (by kernel_rfl)) fun w hG h0 _ => (Tryz.stringslite_Index_one ⟨s.toArray⟩ c w).mono fun e w' ⟨he, hw⟩ => ⟨_, he, .int _ _ ((Go.VL.range_i64 _).2 (by
    have h1 := Lib.indexByte_ge s c
    have h2 : Lib.indexByte s c ≤ 140737488355328 := by
      by_cases hm : c ∈ s
      · rw [((indexByte_cut c s).1 hm).1]
        have := cut_len c hm
        omega
      · rw [((indexByte_cut c s).2 hm).1]; omega
    constructor <;> omega)), by rw [hw]; exact Below.refl _ _⟩
theorem s_cut1 (s : List UInt8) (c : UInt8) (hl : s.length ≤ 140737488355328) : Spc X 161 [.one (.str s), .one (.str [c])] (.tup [(false, [.str (cutL c s)]), (false, [.str (if c ∈ s then s.drop ((cutL c s).length + 1) else [])]), (false, [.bool (decide (c ∈ s))])]) := by
  refine Spc.start Tryz.func161 rfl (h := fun hs R hR => ?_)
  unfold Tryz.f161
  simp only [entryE, PA.av]
  refine walk (hQ := ?_)
  refine R_call (s_Index1 s c hl) (hK := ?_)
  by_cases hm : c ∈ s
  · obtain ⟨h3, h4⟩ := (indexByte_cut c s).1 hm
    have h6 := cut_len c hm
    have h7 : s.take (cutL c s).length = cutL c s := (congrArg (List.take (cutL c s).length) h4).trans (List.take_left' rfl)
    rw [h3]
    simp only [hm, decide_true, if_true] at hR
    refine walk (hQ := ?_)
    rw [h7]
    exact hR _ (ret3 (hp := rfl))
  · obtain ⟨h3, h4⟩ := (indexByte_cut c s).2 hm
    rw [h3]
    simp only [hm, decide_false, if_false] at hR
    rw [h4] at hR
    refine walk (hQ := ?_)
    exact hR _ (ret3 (hp := rfl))
theorem s_Cut1 (s : List UInt8) (c : UInt8) (hl : s.length ≤ 140737488355328) : Spc X 147 [.one (.str s), .one (.str [c])] (.tup [(false, [.str (cutL c s)]), (false, [.str (if c ∈ s then s.drop ((cutL c s).length + 1) else [])]), (false, [.bool (decide (c ∈ s))])]) := by
  refine Spc.start Tryz.func147 rfl (h := fun hs R hR => ?_)
  unfold Tryz.f147
  simp only [entryE, PA.av]
  refine walk (hQ := ?_)
  refine R_call (s_cut1 s c hl) (hK := ?_)
  refine walk (hQ := ?_)
  exact hR _ (ret3 (hp := rfl))
end Go.VS.YtekfjbjdlenhoaaGreatDoor


namespace Go.VS.YtekfjbjdlenhoaaGreatDoor
open Go Go.VL Go.VN Go.RowKit Go.Proofs
set_option maxRecDepth 100000
set_option linter.unusedVariables false

theorem f_small (c : UInt8) : Spc X 125 [.one (.int .u8 c.toNat)] (.one (.bool (sml c))) := by
  refine Spc.start Tryz.func125 rfl (h := fun hs R hR => ?_)
  unfold Tryz.f125
  simp only [entryE, PA.av]
  refine walk (hQ := ?_)
  refine R_g_if (h1 := fun h1 => ?_) (h2 := fun h1 => ?_) <;> simp only [if_true] at h1 <;> refine walk (hQ := ?_) <;> refine hR _ (ret1 (hp := ?_)) <;> unfold sml <;> congr 2 <;> rw [Bool.eq_iff_iff] <;> simp <;> omega
theorem f_digit (c : UInt8) : Spc X 126 [.one (.int .u8 c.toNat)] (.one (.bool (dgt c))) := by
  refine Spc.start Tryz.func126 rfl (h := fun hs R hR => ?_)
  unfold Tryz.f126
  simp only [entryE, PA.av]
  refine walk (hQ := ?_)
  refine R_g_if (h1 := fun h1 => ?_) (h2 := fun h1 => ?_) <;> simp only [if_true] at h1 <;> refine walk (hQ := ?_) <;> refine hR _ (ret1 (hp := ?_)) <;> unfold dgt <;> congr 2 <;> rw [Bool.eq_iff_iff] <;> simp <;> omega
theorem g_small (c : UInt8) : Spc X 129 [.one (.int .u8 c.toNat)] (.one (.bool (sml c))) := by
  refine Spc.start Tryz.func129 rfl (h := fun hs R hR => ?_)
  unfold Tryz.f129
  simp only [entryE, PA.av]
  refine walk (hQ := ?_)
  refine R_g_if (h1 := fun h1 => ?_) (h2 := fun h1 => ?_) <;> simp only [if_true] at h1 <;> refine walk (hQ := ?_) <;> refine hR _ (ret1 (hp := ?_)) <;> unfold sml <;> congr 2 <;> rw [Bool.eq_iff_iff] <;> simp <;> omega
theorem g_digit (c : UInt8) : Spc X 130 [.one (.int .u8 c.toNat)] (.one (.bool (dgt c))) := by
  refine Spc.start Tryz.func130 rfl (h := fun hs R hR => ?_)
  unfold Tryz.f130
  simp only [entryE, PA.av]
  refine walk (hQ := ?_)
  refine R_g_if (h1 := fun h1 => ?_) (h2 := fun h1 => ?_) <;> simp only [if_true] at h1 <;> refine walk (hQ := ?_) <;> refine hR _ (ret1 (hp := ?_)) <;> unfold dgt <;> congr 2 <;> rw [Bool.eq_iff_iff] <;> simp <;> omega
theorem f_digits (s : List UInt8) : Spc X 118 [.one (.str s)] (.one (.int .i64 (digL s))) := by
  refine Spc.start Tryz.func118 rfl (h := fun hs R hR => ?_)
  unfold Tryz.f118
  simp only [entryE, PA.av]
  have ls := sane_str hs.1
  refine walk (hQ := ?_)
  refine Lp.intro (fun (i : Nat) => ⟨[(0, vS s), (3, vI i)], [], 0⟩) (fun i => i ≤ s.length ∧ digL s = i + digL (s.drop i)) (fun i => s.length - i) 0 ⟨Nat.zero_le _, by simp⟩ (h0 := le_auto) (hr := fun i K ⟨hi, ho⟩ hK => ?_)
  refine walk (hQ := ?_)
  refine R_g_if (h1 := fun h1 => ?_) (h2 := fun h1 => ?_)
  · simp only [if_true] at h1
    have hil : i < s.length := by omega
    have e0 : s[i] = s.getD i 0 := by rw [List.getD_eq_getElem?_getD, List.getElem?_eq_getElem hil]; rfl
    rw [List.drop_eq_getElem_cons hil, e0] at ho
    have hd := f_digit (s.getD i 0)
    refine walk (hQ := ?_)
    generalize s.getD i 0 = c at *
    refine R_call hd (hK := ?_)
    refine walk (hQ := ?_)
    refine W_ifb (ht := fun h2 => ?_) (hf := fun h2 => ?_)
    · refine walk (hQ := ?_)
      exact hK _ (i + 1) ⟨by omega, by rw [ho, digL, if_pos h2]; omega⟩ (by omega) le_auto
    · refine walk (hQ := ?_)
      refine hR _ (ret1 (hp := ?_))
      rw [ho, digL, if_neg (by rw [h2]; decide)]; simp
  · simp only [if_true] at h1
    obtain rfl : i = s.length := by omega
    refine walk (hQ := ?_)
    refine hR _ (ret1 (hp := ?_))
    rw [ho, List.drop_length, digL]; simp
theorem g_digits (s : List UInt8) : Spc X 133 [.one (.str s)] (.one (.int .i64 (digL s))) := by
  refine Spc.start Tryz.func133 rfl (h := fun hs R hR => ?_)
  unfold Tryz.f133
  simp only [entryE, PA.av]
  have ls := sane_str hs.1
  refine walk (hQ := ?_)
  refine Lp.intro (fun (i : Nat) => ⟨[(0, vS s), (3, vI i)], [], 0⟩) (fun i => i ≤ s.length ∧ digL s = i + digL (s.drop i)) (fun i => s.length - i) 0 ⟨Nat.zero_le _, by simp⟩ (h0 := le_auto) (hr := fun i K ⟨hi, ho⟩ hK => ?_)
  refine walk (hQ := ?_)
  refine R_g_if (h1 := fun h1 => ?_) (h2 := fun h1 => ?_)
  · simp only [if_true] at h1
    have hil : i < s.length := by omega
    have e0 : s[i] = s.getD i 0 := by rw [List.getD_eq_getElem?_getD, List.getElem?_eq_getElem hil]; rfl
    rw [List.drop_eq_getElem_cons hil, e0] at ho
    have hd := g_digit (s.getD i 0)
    refine walk (hQ := ?_)
    generalize s.getD i 0 = c at *
    refine R_call hd (hK := ?_)
    refine walk (hQ := ?_)
    refine W_ifb (ht := fun h2 => ?_) (hf := fun h2 => ?_)
    · refine walk (hQ := ?_)
      exact hK _ (i + 1) ⟨by omega, by rw [ho, digL, if_pos h2]; omega⟩ (by omega) le_auto
    · refine walk (hQ := ?_)
      refine hR _ (ret1 (hp := ?_))
      rw [ho, digL, if_neg (by rw [h2]; decide)]; simp
  · simp only [if_true] at h1
    obtain rfl : i = s.length := by omega
    refine walk (hQ := ?_)
    refine hR _ (ret1 (hp := ?_))
    rw [ho, List.drop_length, digL]; simp

theorem nm2_take {c : UInt8} {l : List UInt8} (h : (sml c || dgt c) = true) : nm2 (c :: l) = 1 + nm2 l := by
  cases l with
  | nil => simp [nm2, h]
  | cons d l => rw [nm2, if_pos h]
theorem nm2_dash {c d : UInt8} {l : List UInt8} (h : ¬ (sml c || dgt c) = true) (h1 : c = 45) (h2 : (sml d || dgt d) = true) : nm2 (c :: d :: l) = 2 + nm2 l := by
  rw [nm2, if_neg h, if_pos ⟨h1, h2⟩]
theorem nm2_stop1 {c : UInt8} (h : ¬ (sml c || dgt c) = true) : nm2 [c] = 0 := by rw [nm2, if_neg h]
theorem nm2_stop {c d : UInt8} {l : List UInt8} (h : ¬ (sml c || dgt c) = true) (h2 : ¬ (c = 45 ∧ (sml d || dgt d) = true)) : nm2 (c :: d :: l) = 0 := by
  rw [nm2, if_neg h, if_neg h2]
theorem f_name (s : List UInt8) : Spc X 97 [.one (.str s)] (.one (.int .i64 (nmL s))) := by
  refine Spc.start Tryz.func97 rfl (h := fun hs R hR => ?_)
  unfold Tryz.f97
  simp only [entryE, PA.av]
  have ls := sane_str hs.1
  cases s with
  | nil =>
    refine walk (hQ := ?_)
    exact hR _ (ret1 (hp := rfl))
  | cons c0 s0 =>
  have hsm := f_small c0
  have hl0 : (c0 :: s0).length = s0.length + 1 := rfl
  refine walk (hQ := ?_)
  refine R_call hsm (hK := ?_)
  refine walk (hQ := ?_)
  refine W_ifb (ht := fun h2 => ?_) (hf := fun h2 => ?_)
  · refine walk (hQ := ?_)
    refine hR _ (ret1 (hp := ?_))
    unfold nmL
    simp only
    rw [if_neg (by simpa using h2)]; rfl
  have h3 : sml c0 = true := by simpa using h2
  have hn : nmL (c0 :: s0) = 1 + nm2 s0 := by unfold nmL; simp only; rw [if_pos h3]
  rw [hn] at hR
  have e1 : (c0 :: s0).drop 1 = s0 := rfl
  clear h2 h3 hn hsm
  generalize c0 :: s0 = s at *
  refine walk (hQ := ?_)
  refine Lp.intro (fun (i : Nat) => ⟨[(0, vS s), (3, vI i)], [], 0⟩) (fun i => 1 ≤ i ∧ i ≤ s.length ∧ 1 + nm2 s0 = i + nm2 (s.drop i)) (fun i => s.length - i) 1 ⟨by omega, by omega, by rw [e1]⟩ (h0 := le_auto) (hr := fun i K ⟨hi1, hi, ho⟩ hK => ?_)
  refine walk (hQ := ?_)
  refine W_if (ht := fun h1 => ?_) (hf := fun h1 => ?_)
  · have hil : i < s.length := by omega
    have e0 : s[i] = s.getD i 0 := by rw [List.getD_eq_getElem?_getD, List.getElem?_eq_getElem hil]; rfl
    rw [List.drop_eq_getElem_cons hil, e0] at ho
    have hd := f_digit (s.getD i 0)
    have hsm := f_small (s.getD i 0)
    refine walk (hQ := ?_)
    generalize s.getD i 0 = c at *
    refine R_call hsm (hK := ?_)
    refine walk (hQ := ?_)
    refine R_g_b (h1 := fun h2 => ?_) (h2 := fun h2 => ?_)
    · refine walk (hQ := ?_)
      refine R_call hd (hK := ?_)
      refine walk (hQ := ?_)
      refine W_ifb (ht := fun h3 => ?_) (hf := fun h3 => ?_)
      · refine walk (hQ := ?_)
        exact hK _ (i + 1) ⟨by omega, by omega, by rw [ho, nm2_take (by rw [h2, h3]; rfl)]; omega⟩ (by omega) le_auto
      · have hno : ¬ (sml c || dgt c) = true := by rw [h2, h3]; decide
        refine walk (hQ := ?_)
        refine R_g_if (h1 := fun h4 => ?_) (h2 := fun h4 => ?_)
        · simp only [if_true] at h4
          have h4' : c = 45 := UInt8.toNat_inj.1 (show c.toNat = 45 by omega)
          refine walk (hQ := ?_)
          refine R_g_if (h1 := fun h5 => ?_) (h2 := fun h5 => ?_)
          · simp only [if_true] at h5
            have hil2 : i + 1 < s.length := by omega
            have e2 : s[i + 1] = s.getD (i + 1) 0 := by rw [List.getD_eq_getElem?_getD, List.getElem?_eq_getElem hil2]; rfl
            rw [List.drop_eq_getElem_cons hil2, e2] at ho
            have hd2 := f_digit (s.getD (i + 1) 0)
            have hsm2 := f_small (s.getD (i + 1) 0)
            refine walk (hQ := ?_)
            refine R_call hsm2 (hK := ?_)
            refine walk (hQ := ?_)
            refine R_g_b (h1 := fun h6 => ?_) (h2 := fun h6 => ?_)
            · refine walk (hQ := ?_)
              refine R_call hd2 (hK := ?_)
              refine walk (hQ := ?_)
              refine W_ifb (ht := fun h7 => ?_) (hf := fun h7 => ?_)
              · refine walk (hQ := ?_)
                exact hK _ (i + 1 + 1) ⟨by omega, by omega, by rw [ho, nm2_dash hno h4' (by rw [h6, h7]; rfl)]; omega⟩ (by omega) le_auto
              · refine walk (hQ := ?_)
                refine hR _ (ret1 (hp := ?_))
                rw [ho, nm2_stop hno (fun h => by have := h.2; rw [h6, h7] at this; cases this)]; simp
            · refine walk (hQ := ?_)
              exact hK _ (i + 1 + 1) ⟨by omega, by omega, by rw [ho, nm2_dash hno h4' (by rw [h6]; rfl)]; omega⟩ (by omega) le_auto
          · simp only [if_true] at h5
            rw [List.drop_eq_nil_of_le (show s.length ≤ i + 1 by omega)] at ho
            refine walk (hQ := ?_)
            refine hR _ (ret1 (hp := ?_))
            rw [ho, nm2_stop1 hno]; simp
        · simp only [if_true] at h4
          have hz : nm2 (c :: s.drop (i + 1)) = 0 := by
            cases s.drop (i + 1) with
            | nil => exact nm2_stop1 hno
            | cons d l => exact nm2_stop hno fun h => h4 (by rw [h.1]; rfl)
          refine walk (hQ := ?_)
          refine hR _ (ret1 (hp := ?_))
          rw [ho, hz]; simp
    · refine walk (hQ := ?_)
      exact hK _ (i + 1) ⟨by omega, by omega, by rw [ho, nm2_take (by rw [h2]; rfl)]; omega⟩ (by omega) le_auto
  · obtain rfl : i = s.length := by omega
    refine walk (hQ := ?_)
    refine hR _ (ret1 (hp := ?_))
    rw [ho, List.drop_length, nm2]; simp
theorem g_name (s : List UInt8) : Spc X 100 [.one (.str s)] (.one (.int .i64 (nmL s))) := by
  refine Spc.start Tryz.func100 rfl (h := fun hs R hR => ?_)
  unfold Tryz.f100
  simp only [entryE, PA.av]
  have ls := sane_str hs.1
  cases s with
  | nil =>
    refine walk (hQ := ?_)
    exact hR _ (ret1 (hp := rfl))
  | cons c0 s0 =>
  have hsm := g_small c0
  have hl0 : (c0 :: s0).length = s0.length + 1 := rfl
  refine walk (hQ := ?_)
  refine R_call hsm (hK := ?_)
  refine walk (hQ := ?_)
  refine W_ifb (ht := fun h2 => ?_) (hf := fun h2 => ?_)
  · refine walk (hQ := ?_)
    refine hR _ (ret1 (hp := ?_))
    unfold nmL
    simp only
    rw [if_neg (by simpa using h2)]; rfl
  have h3 : sml c0 = true := by simpa using h2
  have hn : nmL (c0 :: s0) = 1 + nm2 s0 := by unfold nmL; simp only; rw [if_pos h3]
  rw [hn] at hR
  have e1 : (c0 :: s0).drop 1 = s0 := rfl
  clear h2 h3 hn hsm
  generalize c0 :: s0 = s at *
  refine walk (hQ := ?_)
  refine Lp.intro (fun (i : Nat) => ⟨[(0, vS s), (3, vI i)], [], 0⟩) (fun i => 1 ≤ i ∧ i ≤ s.length ∧ 1 + nm2 s0 = i + nm2 (s.drop i)) (fun i => s.length - i) 1 ⟨by omega, by omega, by rw [e1]⟩ (h0 := le_auto) (hr := fun i K ⟨hi1, hi, ho⟩ hK => ?_)
  refine walk (hQ := ?_)
  refine W_if (ht := fun h1 => ?_) (hf := fun h1 => ?_)
  · have hil : i < s.length := by omega
    have e0 : s[i] = s.getD i 0 := by rw [List.getD_eq_getElem?_getD, List.getElem?_eq_getElem hil]; rfl
    rw [List.drop_eq_getElem_cons hil, e0] at ho
    have hd := g_digit (s.getD i 0)
    have hsm := g_small (s.getD i 0)
    refine walk (hQ := ?_)
    refine R_call hsm (hK := ?_)
    refine walk (hQ := ?_)
    refine R_g_b (h1 := fun h2 => ?_) (h2 := fun h2 => ?_)
    · refine walk (hQ := ?_)
      refine R_call hd (hK := ?_)
      refine walk (hQ := ?_)
      refine W_ifb (ht := fun h3 => ?_) (hf := fun h3 => ?_)
      · refine walk (hQ := ?_)
        exact hK _ (i + 1) ⟨by omega, by omega, by rw [ho, nm2_take (by rw [h2, h3]; rfl)]; omega⟩ (by omega) le_auto
      · have hno : ¬ (sml (s.getD i 0) || dgt (s.getD i 0)) = true := by rw [h2, h3]; decide
        refine walk (hQ := ?_)
        refine R_g_if (h1 := fun h4 => ?_) (h2 := fun h4 => ?_)
        · have h4' : (s.getD i 0) = 45 := UInt8.toNat_inj.1 (show (s.getD i 0).toNat = 45 by simp only [Bool.false_eq_true, if_false] at h4; omega)
          refine walk (hQ := ?_)
          refine R_g_if (h1 := fun h5 => ?_) (h2 := fun h5 => ?_)
          · simp only [Bool.false_eq_true, if_false] at h5
            have hil2 : i + 1 < s.length := by omega
            have e2 : s[i + 1] = s.getD (i + 1) 0 := by rw [List.getD_eq_getElem?_getD, List.getElem?_eq_getElem hil2]; rfl
            rw [List.drop_eq_getElem_cons hil2, e2] at ho
            have hd2 := g_digit (s.getD (i + 1) 0)
            have hsm2 := g_small (s.getD (i + 1) 0)
            refine walk (hQ := ?_)
            refine R_call hsm2 (hK := ?_)
            refine walk (hQ := ?_)
            refine R_g_b (h1 := fun h6 => ?_) (h2 := fun h6 => ?_)
            · have h6' : sml (s.getD (i + 1) 0) = false := by simpa using h6
              refine walk (hQ := ?_)
              refine R_call hd2 (hK := ?_)
              refine walk (hQ := ?_)
              refine W_ifb (ht := fun h7 => ?_) (hf := fun h7 => ?_)
              · have h7' : dgt (s.getD (i + 1) 0) = false := by simpa using h7
                refine walk (hQ := ?_)
                refine hR _ (ret1 (hp := ?_))
                rw [ho, nm2_stop hno (fun h => by have := h.2; rw [h6', h7'] at this; cases this)]; simp
              · have h7' : dgt (s.getD (i + 1) 0) = true := by simpa using h7
                refine walk (hQ := ?_)
                exact hK _ (i + 1 + 1) ⟨by omega, by omega, by rw [ho, nm2_dash hno h4' (by rw [h6', h7']; rfl)]; omega⟩ (by omega) le_auto
            · have h6' : sml (s.getD (i + 1) 0) = true := by simpa using h6
              refine walk (hQ := ?_)
              exact hK _ (i + 1 + 1) ⟨by omega, by omega, by rw [ho, nm2_dash hno h4' (by rw [h6']; rfl)]; omega⟩ (by omega) le_auto
          · simp only [Bool.false_eq_true, if_false] at h5
            rw [List.drop_eq_nil_of_le (show s.length ≤ i + 1 by omega)] at ho
            refine walk (hQ := ?_)
            refine hR _ (ret1 (hp := ?_))
            rw [ho, nm2_stop1 hno]; simp
        · have h4' : ¬ s.getD i 0 = 45 := fun h => by rw [h] at h4; simp at h4
          have hz : nm2 (s.getD i 0 :: s.drop (i + 1)) = 0 := by
            cases s.drop (i + 1) with
            | nil => exact nm2_stop1 hno
            | cons d l => exact nm2_stop hno fun h => h4' h.1
          refine walk (hQ := ?_)
          refine hR _ (ret1 (hp := ?_))
          rw [ho, hz]; simp
    · refine walk (hQ := ?_)
      exact hK _ (i + 1) ⟨by omega, by omega, by rw [ho, nm2_take (by rw [h2]; rfl)]; omega⟩ (by omega) le_auto
  · obtain rfl : i = s.length := by omega
    refine walk (hQ := ?_)
    refine hR _ (ret1 (hp := ?_))
    rw [ho, List.drop_length, nm2]; simp
theorem f_IsName (s : List UInt8) : Spc X 60 [.one (.str s)] (.one (.bool (isNm s))) := by
  refine Spc.start Tryz.func60 rfl (h := fun hs R hR => ?_)
  unfold Tryz.f60
  simp only [entryE, PA.av]
  have ls := sane_str hs.1
  cases s with
  | nil =>
    refine walk (hQ := ?_)
    exact hR _ (ret1 (hp := rfl))
  | cons c0 s0 =>
  have hl0 : (c0 :: s0).length = s0.length + 1 := rfl
  refine walk (hQ := ?_)
  refine R_g_if (h1 := fun h1 => ?_) (h2 := fun h1 => ?_)
  · simp only [if_true] at h1
    refine walk (hQ := ?_)
    refine R_call (f_name _) (hK := ?_)
    refine walk (hQ := ?_)
    refine hR _ (ret1 (hp := ?_))
    congr 2
    unfold isNm
    rw [Bool.eq_iff_iff]
    simp only [decide_eq_true_eq, List.isEmpty_cons, Bool.not_false, Bool.true_and, Bool.and_eq_true]
    omega
  · simp only [if_true] at h1
    refine walk (hQ := ?_)
    refine hR _ (ret1 (hp := ?_))
    congr 2
    unfold isNm
    rw [Bool.eq_iff_iff]
    simp only [decide_eq_true_eq, List.isEmpty_cons, Bool.not_false, Bool.true_and, Bool.and_eq_true]
    constructor
    · intro h; cases h
    · intro h; omega
theorem g_IsName (s : List UInt8) : Spc X 65 [.one (.str s)] (.one (.bool (isNm s))) := by
  refine Spc.start Tryz.func65 rfl (h := fun hs R hR => ?_)
  unfold Tryz.f65
  simp only [entryE, PA.av]
  have ls := sane_str hs.1
  cases s with
  | nil =>
    refine walk (hQ := ?_)
    exact hR _ (ret1 (hp := rfl))
  | cons c0 s0 =>
  have hl0 : (c0 :: s0).length = s0.length + 1 := rfl
  refine walk (hQ := ?_)
  refine R_g_if (h1 := fun h1 => ?_) (h2 := fun h1 => ?_)
  · simp only [if_true] at h1
    refine walk (hQ := ?_)
    refine R_call (g_name _) (hK := ?_)
    refine walk (hQ := ?_)
    refine hR _ (ret1 (hp := ?_))
    congr 2
    unfold isNm
    rw [Bool.eq_iff_iff]
    simp only [decide_eq_true_eq, List.isEmpty_cons, Bool.not_false, Bool.true_and, Bool.and_eq_true]
    omega
  · simp only [if_true] at h1
    refine walk (hQ := ?_)
    refine hR _ (ret1 (hp := ?_))
    congr 2
    unfold isNm
    rw [Bool.eq_iff_iff]
    simp only [decide_eq_true_eq, List.isEmpty_cons, Bool.not_false, Bool.true_and, Bool.and_eq_true]
    constructor
    · intro h; cases h
    · intro h; omega
theorem digL_all : ∀ {s : List UInt8}, digL s = s.length → Dec s
  | [], _ => fun c hc => by cases hc
  | c :: s, h => by
    rw [digL] at h
    split at h
    · rename_i hc
      have := digL_all (s := s) (by simp only [List.length_cons] at h; omega)
      intro x hx
      rcases List.mem_cons.1 hx with rfl | hx
      · unfold dgt at hc
        simp only [Bool.and_eq_true, decide_eq_true_eq] at hc
        exact hc
      · exact this x hx
    · simp at h
theorem take_dv {s : List UInt8} {i : Nat} (h : i < s.length) : dv (s.take (i + 1)) = dv (s.take i) * 10 + (s[i].toNat - 48) := by
  rw [List.take_succ_eq_append_getElem h, dv_snoc]
theorem take_lt {s : List UInt8} (hd : Dec s) (hl : s.length ≤ 6) (i : Nat) : dv (s.take i) < 1000000 := by
  have h1 := dv_lt (l := s.take i) fun c hc => hd c (List.mem_of_mem_take hc)
  have h2 : 10 ^ (s.take i).length ≤ 10 ^ 6 := Nat.pow_le_pow_right (by decide) (by rw [List.length_take]; omega)
  exact Nat.lt_of_lt_of_le h1 h2
theorem f_Number (s : List UInt8) : Spc X 82 [.one (.str s)] (.tup [(false, [.int .i64 (numF s).1]), (false, [.bool (numF s).2])]) := by
  refine Spc.start Tryz.func82 rfl (h := fun hs R hR => ?_)
  unfold Tryz.f82
  simp only [entryE, PA.av]
  have ls := sane_str hs.1
  cases s with
  | nil =>
    refine walk (hQ := ?_)
    exact hR _ (ret2 (hp := rfl))
  | cons c0 s0 =>
  have hl0 : (c0 :: s0).length = s0.length + 1 := rfl
  have hh : (c0 :: s0).head? = some ((c0 :: s0).getD (Int.toNat 0) 0) := rfl
  have hne : (c0 :: s0).isEmpty = false := rfl
  have hdg := f_digits (c0 :: s0)
  have hlp : 0 < (c0 :: s0).length := by omega
  refine walk (hQ := ?_)
  have bad : badN (c0 :: s0) = true → ∀ σ, retP X Tryz.f82.results.toList (.tup [(false, [.int .i64 0]), (false, [.bool false])]) σ → R σ := fun h σ hσ => hR σ (by unfold numF; rw [if_pos h]; exact hσ)
  have good : ¬ badN (c0 :: s0) = true → ∀ σ, retP X Tryz.f82.results.toList (.tup [(false, [.int .i64 (dv (c0 :: s0))]), (false, [.bool true])]) σ → R σ := fun h σ hσ => hR σ (by unfold numF; rw [if_neg h]; exact hσ)
  have hbad : badN (c0 :: s0) = true ↔ (6 < (c0 :: s0).length ∨ digL (c0 :: s0) ≠ (c0 :: s0).length ∨ (1 < (c0 :: s0).length ∧ (c0 :: s0).getD (Int.toNat 0) 0 = 48)) := by
    unfold badN
    rw [hne, hh]
    simp only [Bool.false_or, Bool.or_eq_true, Bool.and_eq_true, decide_eq_true_eq, Option.some.injEq]
    rw [or_assoc]
  clear hR
  generalize c0 :: s0 = s at *
  refine R_g_if (h1 := fun h1 => ?_) (h2 := fun h1 => ?_)
  · simp only [Bool.false_eq_true, if_false] at h1
    refine walk (hQ := ?_)
    refine R_call hdg (hK := ?_)
    refine walk (hQ := ?_)
    refine R_g_if (h1 := fun h2 => ?_) (h2 := fun h2 => ?_)
    · simp only [Bool.false_eq_true, if_false, Decidable.not_not] at h2
      have hdec := digL_all (s := s) (by omega)
      refine walk (hQ := ?_)
      have fin : ¬ (1 < s.length ∧ s.getD (Int.toNat 0) 0 = 48) → ¬ badN s = true := fun h hb => by
        rcases hbad.1 hb with h3 | h3 | h3
        · omega
        · omega
        · exact h h3
      refine R_g_if (h1 := fun h3 => ?_) (h2 := fun h3 => ?_)
      case' refine_1 =>
        simp only [if_true] at h3
        refine walk (hQ := ?_)
        refine W_if (ht := fun h4 => ?_) (hf := fun h4 => ?_)
        case refine_1 =>
          refine walk (hQ := ?_)
          exact bad (hbad.2 (.inr (.inr ⟨by omega, UInt8.toNat_inj.1 (show (s.getD (Int.toNat 0) 0).toNat = 48 by omega)⟩))) _ (ret2 (hp := rfl))
        have hb := fin fun h => h4 (by rw [h.2]; rfl)
      case' refine_2 =>
        simp only [if_true] at h3
        have hb := fin fun h => by omega
      all_goals
        refine walk (hQ := ?_)
        refine Lp.intro (fun (i : Nat) => ⟨[(0, vS s), (4, vI (dv (s.take i))), (32, vP (slc eU s)), (33, vI s.length), (34, vI i)], [], 0⟩) (fun i => i ≤ s.length) (fun i => s.length - i) 0 (Nat.zero_le _) (h0 := le_auto) (hr := fun i K hi hK => ?_)
        have hlt := take_lt hdec (by omega) i
        refine walk (hQ := ?_)
        refine W_if (ht := fun h5 => ?_) (hf := fun h5 => ?_)
        · have hil : i < s.length := by omega
          have hc := hdec _ (List.getElem_mem hil)
          have hst := take_dv hil
          have e0 : s[i] = s.getD i default := by rw [List.getD_eq_getElem?_getD, List.getElem?_eq_getElem hil]; rfl
          rw [e0] at hc hst
          refine walk (hQ := ?_)
          refine R_subw (hK := ?_)
          rw [wrap_u8 (by omega) (by omega)]
          refine walk (hQ := ?_)
          exact hK _ (i + 1) (by omega) (by omega) le_auto
        · obtain rfl : i = s.length := by omega
          rw [List.take_length]
          refine walk (hQ := ?_)
          exact good hb _ (ret2 (hp := rfl))
    · simp only [Bool.false_eq_true, if_false] at h2
      refine walk (hQ := ?_)
      exact bad (hbad.2 (.inr (.inl (by omega)))) _ (ret2 (hp := rfl))
  · simp only [Bool.false_eq_true, if_false, Decidable.not_not] at h1
    refine walk (hQ := ?_)
    exact bad (hbad.2 (.inl (by omega))) _ (ret2 (hp := rfl))
theorem g_Number (s : List UInt8) : Spc X 104 [.one (.str s)] (.tup [(false, [.int .i64 (numF s).1]), (false, [.bool (numF s).2])]) := by
  refine Spc.start Tryz.func104 rfl (h := fun hs R hR => ?_)
  unfold Tryz.f104
  simp only [entryE, PA.av]
  have ls := sane_str hs.1
  cases s with
  | nil =>
    refine walk (hQ := ?_)
    exact hR _ (ret2 (hp := rfl))
  | cons c0 s0 =>
  have hl0 : (c0 :: s0).length = s0.length + 1 := rfl
  have hh : (c0 :: s0).head? = some ((c0 :: s0).getD (Int.toNat 0) 0) := rfl
  have hne : (c0 :: s0).isEmpty = false := rfl
  have hdg := g_digits (c0 :: s0)
  have hlp : 0 < (c0 :: s0).length := by omega
  refine walk (hQ := ?_)
  have bad : badN (c0 :: s0) = true → ∀ σ, retP X Tryz.f104.results.toList (.tup [(false, [.int .i64 0]), (false, [.bool false])]) σ → R σ := fun h σ hσ => hR σ (by unfold numF; rw [if_pos h]; exact hσ)
  have good : ¬ badN (c0 :: s0) = true → ∀ σ, retP X Tryz.f104.results.toList (.tup [(false, [.int .i64 (dv (c0 :: s0))]), (false, [.bool true])]) σ → R σ := fun h σ hσ => hR σ (by unfold numF; rw [if_neg h]; exact hσ)
  have hbad : badN (c0 :: s0) = true ↔ (6 < (c0 :: s0).length ∨ digL (c0 :: s0) ≠ (c0 :: s0).length ∨ (1 < (c0 :: s0).length ∧ (c0 :: s0).getD (Int.toNat 0) 0 = 48)) := by
    unfold badN
    rw [hne, hh]
    simp only [Bool.false_or, Bool.or_eq_true, Bool.and_eq_true, decide_eq_true_eq, Option.some.injEq]
    rw [or_assoc]
  clear hR
  generalize c0 :: s0 = s at *
  refine R_g_if (h1 := fun h1 => ?_) (h2 := fun h1 => ?_)
  · simp only [Bool.false_eq_true, if_false] at h1
    refine walk (hQ := ?_)
    refine R_call hdg (hK := ?_)
    refine walk (hQ := ?_)
    refine R_g_if (h1 := fun h2 => ?_) (h2 := fun h2 => ?_)
    · simp only [Bool.false_eq_true, if_false, Decidable.not_not] at h2
      have hdec := digL_all (s := s) (by omega)
      refine walk (hQ := ?_)
      have fin : ¬ (1 < s.length ∧ s.getD (Int.toNat 0) 0 = 48) → ¬ badN s = true := fun h hb => by
        rcases hbad.1 hb with h3 | h3 | h3
        · omega
        · omega
        · exact h h3
      refine R_g_if (h1 := fun h3 => ?_) (h2 := fun h3 => ?_)
      case' refine_1 =>
        simp only [if_true] at h3
        refine walk (hQ := ?_)
        refine W_if (ht := fun h4 => ?_) (hf := fun h4 => ?_)
        case refine_1 =>
          refine walk (hQ := ?_)
          exact bad (hbad.2 (.inr (.inr ⟨by omega, UInt8.toNat_inj.1 (show (s.getD (Int.toNat 0) 0).toNat = 48 by omega)⟩))) _ (ret2 (hp := rfl))
        have hb := fin fun h => by omega
      case' refine_2 =>
        simp only [if_true] at h3
        have hb := fin fun h => h3 (by rw [h.2]; rfl)
      all_goals
        refine walk (hQ := ?_)
        refine Lp.intro (fun (i : Nat) => ⟨[(0, vS s), (4, vI (dv (s.take i))), (5, vI i)], [], 0⟩) (fun i => i ≤ s.length) (fun i => s.length - i) 0 (Nat.zero_le _) (h0 := le_auto) (hr := fun i K hi hK => ?_)
        have hlt := take_lt hdec (by omega) i
        refine walk (hQ := ?_)
        refine W_if (ht := fun h5 => ?_) (hf := fun h5 => ?_)
        · have hil : i < s.length := by omega
          have hc := hdec _ (List.getElem_mem hil)
          have hst := take_dv hil
          have e0 : s[i] = s.getD i 0 := by rw [List.getD_eq_getElem?_getD, List.getElem?_eq_getElem hil]; rfl
          rw [e0] at hc hst
          refine walk (hQ := ?_)
          refine R_subw (hK := ?_)
          rw [wrap_u8 (by omega) (by omega)]
          refine walk (hQ := ?_)
          exact hK _ (i + 1) (by omega) (by omega) le_auto
        · obtain rfl : i = s.length := by omega
          rw [List.take_length]
          refine walk (hQ := ?_)
          exact good hb _ (ret2 (hp := rfl))
    · simp only [Bool.false_eq_true, if_false] at h2
      refine walk (hQ := ?_)
      exact bad (hbad.2 (.inr (.inl (by omega)))) _ (ret2 (hp := rfl))
  · simp only [Bool.false_eq_true, if_false, Decidable.not_not] at h1
    refine walk (hQ := ?_)
    exact bad (hbad.2 (.inl (by omega))) _ (ret2 (hp := rfl))
end Go.VS.YtekfjbjdlenhoaaGreatDoor


namespace Go.VL
open Go.RowKit
set_option linter.unusedVariables false
section
variable {X : Ctx} {N : Nat} {R : AS → Prop} {k : List KI} {σ : AS} {ops : Array Oper} {D D' : Option (List Fl)} {rest : List Oper} {env env' : List (Nat × AV)} {h h' : Hp} {n n' : Nat} {dst : Option Tmp} {t d : Tmp} {op : Op} {ty tx t' : TypeId} {ps : String} {af : Array Edge}
theorem R_steql {x y : Operand} {α : Type} [DecidableEq α] (e : α → List PV) (a b : α) {cs ds : List AC} {fs : Array Field} {s q : Nat} {zz : Option Value} [hT : TInf X tx ⟨.struct fs, s, q, zz⟩] (hq : eqPs (e a) (e b) = decide (a = b)) (hp : plF X fs.toList 0 (e a) (e b)) (hx : EvR env x (.agg cs) := by exact ⟨rfl⟩) (hy : EvR env y (.agg ds) := by exact ⟨rfl⟩)
    (hc : (e a).map AC.pv = cs := by exact rfl) (hd : (e b).map AC.pv = ds := by exact rfl) (hs : X.P.stoodInHeld tx = false := by kernel_rfl) (hg : X.P.eqGuardType X.P.depth tx = false := by kernel_rfl)
    (hfl : FlR D env (.binOp .eql tx x y t') (vB (decide (a = b))) (.n [] [] none) D' := by first | exact .seq | exact .drawn rfl)
    (hK : Rn X N R k ops D' rest ⟨(d, vB (decide (a = b))) :: env, h, n⟩) : Rn X N R k ops D (⟨some d, .binOp .eql tx x y t', ty, ps, af, none⟩ :: rest) ⟨env, h, n⟩ :=
  Rn.val rfl (fun K hK => by
    simp only [evVal, hx.h, hy.h, evBin, evEq, hT.h]
    exact .inr ⟨e a, e b, hc.symm, hd.symm, hp, hs, hg, by rw [hq]; exact hK⟩) hfl hK
theorem R_stneq {x y : Operand} {α : Type} [DecidableEq α] (e : α → List PV) (a b : α) {cs ds : List AC} {fs : Array Field} {s q : Nat} {zz : Option Value} [hT : TInf X tx ⟨.struct fs, s, q, zz⟩] (hq : eqPs (e a) (e b) = decide (a = b)) (hp : plF X fs.toList 0 (e a) (e b)) (hx : EvR env x (.agg cs) := by exact ⟨rfl⟩) (hy : EvR env y (.agg ds) := by exact ⟨rfl⟩)
    (hc : (e a).map AC.pv = cs := by exact rfl) (hd : (e b).map AC.pv = ds := by exact rfl) (hs : X.P.stoodInHeld tx = false := by kernel_rfl) (hg : X.P.eqGuardType X.P.depth tx = false := by kernel_rfl)
    (hfl : FlR D env (.binOp .neq tx x y t') (vB (decide (¬ a = b))) (.n [] [] none) D' := by first | exact .seq | exact .drawn rfl)
    (hK : Rn X N R k ops D' rest ⟨(d, vB (decide (¬ a = b))) :: env, h, n⟩) : Rn X N R k ops D (⟨some d, .binOp .neq tx x y t', ty, ps, af, none⟩ :: rest) ⟨env, h, n⟩ :=
  Rn.val rfl (fun K hK => by
    simp only [evVal, hx.h, hy.h, evBin, evEq, hT.h]
    exact .inr ⟨e a, e b, hc.symm, hd.symm, hp, hs, hg, by rw [hq, ← decide_not]; exact hK⟩) hfl hK
end
end Go.VL


namespace Go.VS.YtekfjbjdlenhoaaGreatDoor
open Go Go.VL Go.VN Go.RowKit Go.Proofs
set_option maxRecDepth 100000
set_option linter.unusedVariables false

theorem f_Nucleus (s : Snd) : Spc X 33 [.agg (eSd s)] (.one (.bool (nuc s))) := by
  refine Spc.start Tryz.func33 rfl (h := fun hs R hR => ?_)
  unfold Tryz.f33
  simp only [entryE, PA.av, List.map_cons, List.map_nil]
  refine walk (hQ := ?_)
  first
  | (refine hR _ (ret1 (hp := ?_))
     congr 2
     rw [Bool.eq_iff_iff]
     simp only [nuc, Bool.or_eq_true, Bool.and_eq_true, decide_eq_true_eq, Bool.not_eq_true', decide_eq_false_iff_not, Bool.true_eq, Bool.false_eq_true, iff_true, true_iff, false_iff, iff_false]
     try omega)
  | (refine R_g_if (h1 := fun h1 => ?_) (h2 := fun h1 => ?_)
     all_goals
       simp only [Bool.false_eq_true, if_false, if_true, Decidable.not_not] at h1
       refine walk (hQ := ?_)
       refine hR _ (ret1 (hp := ?_))
       congr 2
       rw [Bool.eq_iff_iff]
       simp only [nuc, Bool.or_eq_true, Bool.and_eq_true, decide_eq_true_eq, Bool.not_eq_true', decide_eq_false_iff_not, Bool.true_eq, Bool.false_eq_true, iff_true, true_iff, false_iff, iff_false]
       try omega
    )
theorem g_Nucleus (s : Snd) : Spc X 57 [.agg (eSd s)] (.one (.bool (nuc s))) := by
  refine Spc.start Tryz.func57 rfl (h := fun hs R hR => ?_)
  unfold Tryz.f57
  simp only [entryE, PA.av, List.map_cons, List.map_nil]
  refine walk (hQ := ?_)
  first
  | (refine hR _ (ret1 (hp := ?_))
     congr 2
     rw [Bool.eq_iff_iff]
     simp only [nuc, Bool.or_eq_true, Bool.and_eq_true, decide_eq_true_eq, Bool.not_eq_true', decide_eq_false_iff_not, Bool.true_eq, Bool.false_eq_true, iff_true, true_iff, false_iff, iff_false]
     try omega)
  | (refine R_g_if (h1 := fun h1 => ?_) (h2 := fun h1 => ?_)
     all_goals
       simp only [Bool.false_eq_true, if_false, if_true, Decidable.not_not] at h1
       refine walk (hQ := ?_)
       refine hR _ (ret1 (hp := ?_))
       congr 2
       rw [Bool.eq_iff_iff]
       simp only [nuc, Bool.or_eq_true, Bool.and_eq_true, decide_eq_true_eq, Bool.not_eq_true', decide_eq_false_iff_not, Bool.true_eq, Bool.false_eq_true, iff_true, true_iff, false_iff, iff_false]
       try omega
    )
theorem g_letter (c : UInt8) : Spc X 132 [.one (.int .u8 c.toNat)] (.one (.bool (wrt c))) := by
  have e95 : c = 95 ↔ c.toNat = 95 := ⟨fun h => by rw [h]; rfl, fun h => UInt8.toNat_inj.1 h⟩
  have e94 : c = 94 ↔ c.toNat = 94 := ⟨fun h => by rw [h]; rfl, fun h => UInt8.toNat_inj.1 h⟩
  have e39 : c = 39 ↔ c.toNat = 39 := ⟨fun h => by rw [h]; rfl, fun h => UInt8.toNat_inj.1 h⟩
  refine Spc.start Tryz.func132 rfl (h := fun hs R hR => ?_)
  unfold Tryz.f132
  simp only [entryE, PA.av, List.map_cons, List.map_nil]
  refine walk (hQ := ?_)
  first
  | (refine hR _ (ret1 (hp := ?_))
     congr 2
     rw [Bool.eq_iff_iff]
     simp only [wrt, sml, dgt, e95, e94, e39, Bool.or_eq_true, Bool.and_eq_true, decide_eq_true_eq, Bool.not_eq_true', decide_eq_false_iff_not, Bool.true_eq, Bool.false_eq_true, iff_true, true_iff, false_iff, iff_false]
     try omega)
  | (refine R_g_if (h1 := fun h1 => ?_) (h2 := fun h1 => ?_)
     all_goals
       simp only [Bool.false_eq_true, if_false, if_true, Decidable.not_not] at h1
       refine walk (hQ := ?_)
       first
       | (refine hR _ (ret1 (hp := ?_))
          congr 2
          rw [Bool.eq_iff_iff]
          simp only [wrt, sml, dgt, e95, e94, e39, Bool.or_eq_true, Bool.and_eq_true, decide_eq_true_eq, Bool.not_eq_true', decide_eq_false_iff_not, Bool.true_eq, Bool.false_eq_true, iff_true, true_iff, false_iff, iff_false]
          try omega)
       | (refine R_g_if (h1 := fun h1 => ?_) (h2 := fun h1 => ?_)
          all_goals
            simp only [Bool.false_eq_true, if_false, if_true, Decidable.not_not] at h1
            refine walk (hQ := ?_)
            first
            | (refine hR _ (ret1 (hp := ?_))
               congr 2
               rw [Bool.eq_iff_iff]
               simp only [wrt, sml, dgt, e95, e94, e39, Bool.or_eq_true, Bool.and_eq_true, decide_eq_true_eq, Bool.not_eq_true', decide_eq_false_iff_not, Bool.true_eq, Bool.false_eq_true, iff_true, true_iff, false_iff, iff_false]
               try omega)
            | (refine R_g_if (h1 := fun h1 => ?_) (h2 := fun h1 => ?_)
               all_goals
                 simp only [Bool.false_eq_true, if_false, if_true, Decidable.not_not] at h1
                 refine walk (hQ := ?_)
                 first
                 | (refine hR _ (ret1 (hp := ?_))
                    congr 2
                    rw [Bool.eq_iff_iff]
                    simp only [wrt, sml, dgt, e95, e94, e39, Bool.or_eq_true, Bool.and_eq_true, decide_eq_true_eq, Bool.not_eq_true', decide_eq_false_iff_not, Bool.true_eq, Bool.false_eq_true, iff_true, true_iff, false_iff, iff_false]
                    try omega)
                 | (refine R_g_if (h1 := fun h1 => ?_) (h2 := fun h1 => ?_)
                    all_goals
                      simp only [Bool.false_eq_true, if_false, if_true, Decidable.not_not] at h1
                      refine walk (hQ := ?_)
                      first
                      | (refine hR _ (ret1 (hp := ?_))
                         congr 2
                         rw [Bool.eq_iff_iff]
                         simp only [wrt, sml, dgt, e95, e94, e39, Bool.or_eq_true, Bool.and_eq_true, decide_eq_true_eq, Bool.not_eq_true', decide_eq_false_iff_not, Bool.true_eq, Bool.false_eq_true, iff_true, true_iff, false_iff, iff_false]
                         try omega)
                      | (refine R_g_if (h1 := fun h1 => ?_) (h2 := fun h1 => ?_)
                         all_goals
                           simp only [Bool.false_eq_true, if_false, if_true, Decidable.not_not] at h1
                           refine walk (hQ := ?_)
                           first
                           | (refine hR _ (ret1 (hp := ?_))
                              congr 2
                              rw [Bool.eq_iff_iff]
                              simp only [wrt, sml, dgt, e95, e94, e39, Bool.or_eq_true, Bool.and_eq_true, decide_eq_true_eq, Bool.not_eq_true', decide_eq_false_iff_not, Bool.true_eq, Bool.false_eq_true, iff_true, true_iff, false_iff, iff_false]
                              try omega)
                           | (refine R_g_if (h1 := fun h1 => ?_) (h2 := fun h1 => ?_)
                              all_goals
                                simp only [Bool.false_eq_true, if_false, if_true, Decidable.not_not] at h1
                                refine walk (hQ := ?_)
                                refine hR _ (ret1 (hp := ?_))
                                congr 2
                                rw [Bool.eq_iff_iff]
                                simp only [wrt, sml, dgt, e95, e94, e39, Bool.or_eq_true, Bool.and_eq_true, decide_eq_true_eq, Bool.not_eq_true', decide_eq_false_iff_not, Bool.true_eq, Bool.false_eq_true, iff_true, true_iff, false_iff, iff_false]
                                try omega
                             )
                        )
                   )
              )
         )
    )
theorem f_quantity (s : Snd) : Spc X 106 [.agg (eSd s)] (.one (.bool (qty s))) := by
  refine Spc.start Tryz.func106 rfl (h := fun hs R hR => ?_)
  unfold Tryz.f106
  simp only [entryE, PA.av, List.map_cons, List.map_nil]
  refine walk (hQ := ?_)
  refine W_if (ht := fun h2 => ?_) (hf := fun h2 => ?_)
  · unfold qty at hR
    rw [if_pos h2] at hR
    refine walk (hQ := ?_)
    first
    | (refine hR _ (ret1 (hp := ?_))
       congr 2
       rw [Bool.eq_iff_iff]
       simp only [h2, Bool.or_eq_true, Bool.and_eq_true, decide_eq_true_eq, Bool.not_eq_true', decide_eq_false_iff_not, Bool.true_eq, Bool.false_eq_true, iff_true, true_iff, false_iff, iff_false]
       try omega)
    | (refine R_g_if (h1 := fun h1 => ?_) (h2 := fun h1 => ?_)
       all_goals
         simp only [Bool.false_eq_true, if_false, if_true, Decidable.not_not] at h1
         refine walk (hQ := ?_)
         refine hR _ (ret1 (hp := ?_))
         congr 2
         rw [Bool.eq_iff_iff]
         simp only [h2, Bool.or_eq_true, Bool.and_eq_true, decide_eq_true_eq, Bool.not_eq_true', decide_eq_false_iff_not, Bool.true_eq, Bool.false_eq_true, iff_true, true_iff, false_iff, iff_false]
         try omega
      )
  · unfold qty at hR
    rw [if_neg h2] at hR
    refine walk (hQ := ?_)
    refine W_if (ht := fun h3 => ?_) (hf := fun h3 => ?_)
    · rw [if_pos h3] at hR
      refine walk (hQ := ?_)
      exact hR _ (ret1 (hp := rfl))
    · rw [if_neg h3] at hR
      refine walk (hQ := ?_)
      exact hR _ (ret1 (hp := rfl))
theorem g_order (a b : Int) : Spc X 103 [.one (.int .i64 a), .one (.int .i64 b)] (.one (.int .i64 (sgn a b))) := by
  refine Spc.start Tryz.func103 rfl (h := fun hs R hR => ?_)
  unfold Tryz.f103
  simp only [entryE, PA.av, List.map_cons, List.map_nil]
  unfold sgn at hR
  refine walk (hQ := ?_)
  refine W_if (ht := fun h1 => ?_) (hf := fun h1 => ?_)
  · rw [if_pos h1] at hR
    refine walk (hQ := ?_)
    exact hR _ (ret1 (hp := rfl))
  · rw [if_neg h1] at hR
    refine walk (hQ := ?_)
    refine W_if (ht := fun h2 => ?_) (hf := fun h2 => ?_)
    · rw [if_pos (by omega)] at hR
      refine walk (hQ := ?_)
      exact hR _ (ret1 (hp := rfl))
    · rw [if_neg (by omega)] at hR
      refine walk (hQ := ?_)
      exact hR _ (ret1 (hp := rfl))
def gwR : Go.Shelf.Ren := ⟨fun | 15 => 134 | 17 => 107 | 20 => 152 | n => n, fun | 0 => 0 | 3 => 3 | 4 => 4 | 9 => 9 | 21 => 21 | 23 => 128 | n => n, fun | n => n⟩
theorem gw17 : Go.Proofs.LaysGw.n17 Tryz.prog gwR := {
  mixed := by kernel_rfl
  f15 := by kernel_rfl
  f17 := by kernel_rfl
  f20 := by kernel_rfl
  t0 := by kernel_rfl
  a0 := fun _ => by kernel_rfl
  z0 := fun _ => by kernel_rfl
  v0 := fun _ => by kernel_rfl
  i0 := by kernel_rfl
  t3 := by kernel_rfl
  a3 := fun _ => by kernel_rfl
  z3 := fun _ => by kernel_rfl
  v3 := fun _ => by kernel_rfl
  i3 := by kernel_rfl
  t4 := by kernel_rfl
  a4 := fun _ => by kernel_rfl
  z4 := fun _ => by kernel_rfl
  v4 := fun _ => by kernel_rfl
  i4 := by kernel_rfl
  t9 := by kernel_rfl
  a9 := fun _ => by kernel_rfl
  z9 := fun _ => by kernel_rfl
  v9 := fun _ => by kernel_rfl
  i9 := by kernel_rfl
  t21 := by kernel_rfl
  a21 := fun _ => by kernel_rfl
  z21 := fun _ => by kernel_rfl
  v21 := fun _ => by kernel_rfl
  i21 := by kernel_rfl
  t23 := by kernel_rfl
  a23 := fun _ => by kernel_rfl
  z23 := fun _ => by kernel_rfl
  v23 := fun _ => by kernel_rfl
  i23 := by kernel_rfl }
theorem run_written (r : Nat) (w : World) : Calls Tryz.prog 109 #[.int .i32 r] w fun e w' => e = .returned (.bool (wrR r)) ∧ w' = w := by
  have e : ∀ z : Int, z = (r : Int) → True := fun _ _ => trivial
  unfold wrR
  by_cases h1 : 97 ≤ r <;> by_cases h2 : r ≤ 122 <;> by_cases h3 : 48 ≤ r <;> by_cases h4 : r ≤ 57 <;> by_cases h5 : r = 95 <;> by_cases h6 : r = 94 <;> by_cases h7 : r = 39
  all_goals first | (exfalso; omega) | skip
  all_goals
    have z1 : (97 : Int) ≤ (r : Int) ↔ 97 ≤ r := by omega
    have z2 : (r : Int) ≤ 122 ↔ r ≤ 122 := by omega
    have z3 : (48 : Int) ≤ (r : Int) ↔ 48 ≤ r := by omega
    have z4 : (r : Int) ≤ 57 ↔ r ≤ 57 := by omega
    have z5 : (r : Int) = 95 ↔ r = 95 := by omega
    have z6 : (r : Int) = 94 ↔ r = 94 := by omega
    have z7 : (r : Int) = 39 ↔ r = 39 := by omega
    go_enter Tryz.func109, Tryz.ntmps109
    go_wp2
    all_goals first | (exfalso; omega) | (go_ret; exact ⟨by simp [h1, h2, h3, h4, h5, h6, h7, z5, z6, z7], rfl⟩)
theorem valid1_gives (w : World) : Go.Proofs.PredAtRunes Tryz.prog 108 #[] (fun r => !wrR r) w := fun W r _ _ => by
  unfold Go.Proofs.FnGives
  show Calls Tryz.prog 108 #[.int .i32 r] W _
  go_enter Tryz.func108, Tryz.ntmps108
  go_wp2_with (go_at_call 109; refine (run_written r W).mono ?_; rintro e w' ⟨rfl, rfl⟩)
  all_goals (go_ret; exact ⟨by simp [*], 0, rfl⟩)
theorem s_ContainsW (s : List UInt8) : Spc X 107 [.one (.str s), .one (.clo 108 [])] (.one (.bool (!(s.all wrt)))) :=
  spc_calls (ent_of2 (P := X.P) Tryz.func107 (by kernel_rfl) (by kernel_rfl)) fun ok w vals hG hlt hs hv => by
    obtain ⟨u, hu, hr⟩ := hv 0 _ rfl
    obtain ⟨v, hv, hq⟩ := hv 1 _ rfl
    obtain ⟨rfl, hz⟩ := one_str hr
    have hq' : RepP w ok (.clo 108 []) v := hq
    obtain ⟨vs, rfl, hvs⟩ : ∃ vs : Array Value, v = .func (.func 108) #[] vs ∧ vs.size = 0 := by
      cases hq' with
      | clo f caps vs vals h1 h2 h3 => exact ⟨vs, rfl, h1⟩
    obtain rfl : vs = #[] := Array.size_eq_zero_iff.1 hvs
    rw [vals2 hs hu hv]
    refine (Any.strings_ContainsFunc_runes gw17 108 #[] (enters_of Tryz.func108 (by kernel_rfl) rfl) _ ⟨s.toArray⟩ w (valid1_gives w)).mono fun e w' ⟨he, hb⟩ => ?_
    exact ⟨_, he, by rw [idx_wrt0]; exact .bool _, hb⟩
end Go.VS.YtekfjbjdlenhoaaGreatDoor


namespace Go.VS.YtekfjbjdlenhoaaGreatDoor
open Go Go.VL Go.VN Go.RowKit Go.Proofs
set_option maxRecDepth 100000
set_option linter.unusedVariables false

theorem f_SValid (s : Snd) : Spc X 72 [.agg (eSd s)] (.one (.int .i64 (sdE s))) := by
  refine Spc.start Tryz.func72 rfl (h := fun hs R hR => ?_)
  unfold Tryz.f72
  simp only [entryE, PA.av, List.map_cons, List.map_nil]
  have hq := f_quantity s
  have hc := s_ContainsW s.2.2
  unfold sdE at hR
  refine walk (hQ := ?_)
  refine R_g_if (h1 := fun h1 => ?_) (h2 := fun h1 => ?_)
  case refine_2 =>
    simp only [Bool.false_eq_true, if_false, Decidable.not_not] at h1
    rw [if_pos (.inl h1)] at hR
    refine walk (hQ := ?_)
    exact hR _ (ret1 (hp := rfl))
  simp only [Bool.false_eq_true, if_false] at h1
  refine walk (hQ := ?_)
  refine W_if (ht := fun h2 => ?_) (hf := fun h2 => ?_)
  · rw [if_pos (.inr h2)] at hR
    refine walk (hQ := ?_)
    exact hR _ (ret1 (hp := rfl))
  rw [if_neg (by omega)] at hR
  refine walk (hQ := ?_)
  refine R_call hq (hK := ?_)
  cases hqq : qty s with
  | false =>
    rw [if_pos hqq] at hR
    refine walk (hQ := ?_)
    exact hR _ (ret1 (hp := rfl))
  | true =>
  rw [hqq, if_neg (by decide)] at hR
  refine walk (hQ := ?_)
  refine W_if (ht := fun h3 => ?_) (hf := fun h3 => ?_)
  · rw [if_pos h3] at hR
    refine walk (hQ := ?_)
    exact hR _ (ret1 (hp := rfl))
  rw [if_neg h3] at hR
  refine walk (hQ := ?_)
  refine W_if (ht := fun h4 => ?_) (hf := fun h4 => ?_)
  · rw [if_pos (by omega)] at hR
    refine walk (hQ := ?_)
    exact hR _ (ret1 (hp := rfl))
  rw [if_neg (by omega)] at hR
  refine walk (hQ := ?_)
  refine R_call hc (hK := ?_)
  cases hw : s.2.2.all wrt with
  | false =>
    rw [hw, if_neg (by decide)] at hR
    refine walk (hQ := ?_)
    exact hR _ (ret1 (hp := rfl))
  | true =>
    rw [hw, if_pos rfl] at hR
    refine walk (hQ := ?_)
    exact hR _ (ret1 (hp := rfl))
theorem all_take {α : Type} {p : α → Bool} {l : List α} {i : Nat} (h : i < l.length) (ho : (l.take i).all p = true) (hp : p l[i] = true) : (l.take (i + 1)).all p = true := by
  rw [List.take_succ_eq_append_getElem h, List.all_append, ho]
  simp [hp]
theorem all_not {α : Type} {p : α → Bool} {l : List α} {i : Nat} (h : i < l.length) (hp : p l[i] = false) : l.all p = false := by
  rw [List.all_eq_false]
  exact ⟨l[i], List.getElem_mem h, by rw [hp]; decide⟩
theorem g_SValid (s : Snd) : Spc X 102 [.agg (eSd s)] (.one (.int .i64 (sdE s))) := by
  refine Spc.start Tryz.func102 rfl (h := fun hs R hR => ?_)
  unfold Tryz.f102
  simp only [entryE, PA.av, List.map_cons, List.map_nil]
  have hss : s.2.2.length ≤ 9223372036854775807 := by
    have := hs.1 (.str s.2.2) (by simp [eSd])
    unfold PV.sane at this
    exact this
  unfold sdE at hR
  refine walk (hQ := ?_)
  refine R_g_if (h1 := fun h1 => ?_) (h2 := fun h1 => ?_)
  case refine_2 =>
    simp only [Bool.false_eq_true, if_false, Decidable.not_not] at h1
    rw [if_pos (.inl h1)] at hR
    refine walk (hQ := ?_)
    exact hR _ (ret1 (hp := rfl))
  simp only [Bool.false_eq_true, if_false] at h1
  refine walk (hQ := ?_)
  refine W_if (ht := fun h2 => ?_) (hf := fun h2 => ?_)
  · rw [if_pos (.inr h2)] at hR
    refine walk (hQ := ?_)
    exact hR _ (ret1 (hp := rfl))
  rw [if_neg (by omega)] at hR
  refine walk (hQ := ?_)
  refine W_if (ht := fun h3 => ?_) (hf := fun h3 => ?_)
  case' refine_1 =>
    have hq : qty s = (decide (1 ≤ s.2.1) && decide (s.2.1 ≤ 3)) := by unfold qty; rw [if_pos h3]
    refine walk (hQ := ?_)
    refine R_g_if (h1 := fun h4 => ?_) (h2 := fun h4 => ?_)
    case' refine_1 =>
      simp only [if_true] at h4
      rw [decide_eq_true h4, Bool.true_and] at hq
      refine walk (hQ := ?_)
      refine W_if (ht := fun h5 => absurd h5 (by omega)) (hf := fun h5 => ?_)
      refine walk (hQ := ?_)
    case' refine_2 =>
      simp only [if_true] at h4
      rw [decide_eq_false h4, Bool.false_and] at hq
      refine walk (hQ := ?_)
      refine W_if (ht := fun h5 => absurd h5 (by omega)) (hf := fun h5 => ?_)
      rw [if_pos hq] at hR
      refine walk (hQ := ?_)
      exact hR _ (ret1 (hp := rfl))
  case' refine_2 =>
    refine walk (hQ := ?_)
    refine W_if (ht := fun h5 => ?_) (hf := fun h5 => ?_)
    case' refine_1 =>
      have hq : qty s = decide (s.2.1 = 2) := by unfold qty; rw [if_neg h3, if_pos h5]
      refine walk (hQ := ?_)
    case' refine_2 =>
      have hq : qty s = decide (s.2.1 = 0) := by unfold qty; rw [if_neg h3, if_neg h5]
      refine walk (hQ := ?_)
  all_goals
    refine W_if (ht := fun h6 => ?_) (hf := fun h6 => ?_)
    · have hqq : qty s = false := by rw [hq]; exact decide_eq_false h6
      rw [if_pos hqq] at hR
      refine walk (hQ := ?_)
      exact hR _ (ret1 (hp := rfl))
    have hqq : qty s = true := by rw [hq]; exact decide_eq_true (Decidable.not_not.1 h6)
    rw [hqq, if_neg (by decide)] at hR
    refine walk (hQ := ?_)
    refine W_if (ht := fun h7 => ?_) (hf := fun h7 => ?_)
    · rw [if_pos h7] at hR
      refine walk (hQ := ?_)
      exact hR _ (ret1 (hp := rfl))
    rw [if_neg h7] at hR
    refine walk (hQ := ?_)
    refine W_if (ht := fun h8 => ?_) (hf := fun h8 => ?_)
    · rw [if_pos (by omega)] at hR
      refine walk (hQ := ?_)
      exact hR _ (ret1 (hp := rfl))
    rw [if_neg (by omega)] at hR
    refine walk (hQ := ?_)
    refine Lp.intro (fun (i : Nat) => ⟨[(1, .one (.ptr 0 0)), (4, vI i)], [(0, (.mx [.pv (.int .i64 s.1), .pv (.int .i64 s.2.1), .pv (.str s.2.2)], false))], 1⟩) (fun i => i ≤ s.2.2.length ∧ (s.2.2.take i).all wrt = true) (fun i => s.2.2.length - i) 0 ⟨Nat.zero_le _, by simp⟩ (h0 := le_auto) (hr := fun i K ⟨hi, ho⟩ hK => ?_)
    refine walk (hQ := ?_)
    refine W_if (ht := fun h9 => ?_) (hf := fun h9 => ?_)
    · have hil : i < s.2.2.length := by omega
      have e0 : s.2.2[i] = s.2.2.getD i 0 := by rw [List.getD_eq_getElem?_getD, List.getElem?_eq_getElem hil]; rfl
      have hl := g_letter (s.2.2.getD i 0)
      refine walk (hQ := ?_)
      refine R_call hl (hK := ?_)
      cases hw : wrt (s.2.2.getD i 0) with
      | false =>
        rw [all_not hil (by rw [e0]; exact hw), if_neg (by decide)] at hR
        refine walk (hQ := ?_)
        exact hR _ (ret1 (hp := rfl))
      | true =>
        refine walk (hQ := ?_)
        exact hK _ (i + 1) ⟨by omega, all_take hil ho (by rw [e0]; exact hw)⟩ (by omega) le_auto
    · obtain rfl : i = s.2.2.length := by omega
      rw [List.take_length] at ho
      rw [if_pos ho] at hR
      refine walk (hQ := ?_)
      exact hR _ (ret1 (hp := rfl))
theorem g_Compare (a b : Snd) : Spc X 67 [.agg (eSd a), .agg (eSd b)] (.one (.int .i64 (cmpSd a b))) := by
  refine Spc.start Tryz.func67 rfl (h := fun hs R hR => ?_)
  unfold Tryz.f67
  simp only [entryE, PA.av, List.map_cons, List.map_nil]
  unfold cmpSd at hR
  refine walk (hQ := ?_)
  refine R_call (g_order _ _) (hK := ?_)
  refine walk (hQ := ?_)
  refine W_if (ht := fun h1 => ?_) (hf := fun h1 => ?_)
  · rw [if_pos h1] at hR
    refine walk (hQ := ?_)
    exact hR _ (ret1 (hp := rfl))
  rw [if_neg h1] at hR
  refine walk (hQ := ?_)
  refine R_call (g_order _ _) (hK := ?_)
  refine walk (hQ := ?_)
  refine W_if (ht := fun h2 => ?_) (hf := fun h2 => ?_)
  · rw [if_pos h2] at hR
    refine walk (hQ := ?_)
    exact hR _ (ret1 (hp := rfl))
  rw [if_neg h2] at hR
  refine walk (hQ := ?_)
  refine W_ifb (ht := fun h3 => ?_) (hf := fun h3 => ?_)
  · rw [if_pos h3] at hR
    refine walk (hQ := ?_)
    exact hR _ (ret1 (hp := rfl))
  rw [if_neg (by rw [h3]; decide)] at hR
  refine walk (hQ := ?_)
  refine W_ifb (ht := fun h4 => ?_) (hf := fun h4 => ?_)
  · rw [if_pos h4] at hR
    refine walk (hQ := ?_)
    exact hR _ (ret1 (hp := rfl))
  rw [if_neg (by rw [h4]; decide)] at hR
  refine walk (hQ := ?_)
  exact hR _ (ret1 (hp := rfl))
theorem g_SSame (a b : List Snd) : Spc X 41 [.one (slc eSd a), .one (slc eSd b)] (.one (.bool (decide (a = b)))) := by
  refine Spc.start Tryz.func41 rfl (h := fun hs R hR => ?_)
  unfold Tryz.f41
  simp only [entryE, PA.av]
  have la := (sane_slc hs.1).1
  have lb := (sane_slc hs.2.1).1
  refine walk (hQ := ?_)
  refine W_if (ht := fun h1 => ?_) (hf := fun h1 => ?_)
  · rw [decide_eq_false (fun h => h1 (by rw [h]))] at hR
    refine walk (hQ := ?_)
    exact hR _ (ret1 (hp := rfl))
  have hll : a.length = b.length := by omega
  refine walk (hQ := ?_)
  refine Lp.intro (fun (i : Nat) => ⟨[(0, vP (slc eSd a)), (1, vP (slc eSd b)), (5, vI i)], [], 0⟩) (fun i => i ≤ a.length ∧ a.take i = b.take i) (fun i => a.length - i) 0 ⟨Nat.zero_le _, by simp⟩ (h0 := le_auto) (hr := fun i K ⟨hi, ho⟩ hK => ?_)
  refine walk (hQ := ?_)
  refine W_if (ht := fun h2 => ?_) (hf := fun h2 => ?_)
  · have hia : i < a.length := by omega
    have hib : i < b.length := by omega
    have ea : a[i] = a.getD i default := by rw [List.getD_eq_getElem?_getD, List.getElem?_eq_getElem hia]; rfl
    have eb : b[i] = b.getD i default := by rw [List.getD_eq_getElem?_getD, List.getElem?_eq_getElem hib]; rfl
    have hc := g_Compare (a.getD i default) (b.getD i default)
    have hz := cmpSd_zero (a.getD i default) (b.getD i default)
    refine walk (hQ := ?_)
    refine R_call hc (hK := ?_)
    refine walk (hQ := ?_)
    refine W_if (ht := fun h3 => ?_) (hf := fun h3 => ?_)
    · rw [decide_eq_false (fun h => h3 (hz.2 (by rw [h])))] at hR
      refine walk (hQ := ?_)
      exact hR _ (ret1 (hp := rfl))
    · refine walk (hQ := ?_)
      exact hK _ (i + 1) ⟨by omega, eq_take hia hib ho (by rw [ea, eb]; exact hz.1 (Decidable.not_not.1 h3))⟩ (by omega) le_auto
  · obtain rfl : i = a.length := by omega
    rw [List.take_length, hll, List.take_length] at ho
    rw [decide_eq_true ho] at hR
    refine walk (hQ := ?_)
    exact hR _ (ret1 (hp := rfl))
def fewS (l : List Snd) (n : Int) : Bool := decide ((l.length : Int) ≤ n) && l.all fun s => decide (s.2.2.length ≤ 40)
theorem g_SFew (l : List Snd) (n : Int) : Spc X 12 [.one (slc eSd l), .one (.int .i64 n)] (.one (.bool (fewS l n))) := by
  refine Spc.start Tryz.func12 rfl (h := fun hs R hR => ?_)
  unfold Tryz.f12
  simp only [entryE, PA.av]
  have la := (sane_slc hs.1).1
  unfold fewS at hR
  refine walk (hQ := ?_)
  refine W_if (ht := fun h1 => ?_) (hf := fun h1 => ?_)
  · rw [decide_eq_false (by omega), Bool.false_and] at hR
    refine walk (hQ := ?_)
    exact hR _ (ret1 (hp := rfl))
  rw [decide_eq_true (by omega), Bool.true_and] at hR
  refine walk (hQ := ?_)
  refine Lp.intro (fun (i : Nat) => ⟨[(0, vP (slc eSd l)), (5, vI i)], [], 0⟩) (fun i => i ≤ l.length ∧ (l.take i).all (fun s => decide (s.2.2.length ≤ 40)) = true) (fun i => l.length - i) 0 ⟨Nat.zero_le _, by simp⟩ (h0 := le_auto) (hr := fun i K ⟨hi, ho⟩ hK => ?_)
  refine walk (hQ := ?_)
  refine W_if (ht := fun h2 => ?_) (hf := fun h2 => ?_)
  · have hia : i < l.length := by omega
    have ea : l[i] = l.getD i default := by rw [List.getD_eq_getElem?_getD, List.getElem?_eq_getElem hia]; rfl
    refine walk (hQ := ?_)
    refine W_if (ht := fun h3 => ?_) (hf := fun h3 => ?_)
    · rw [all_not hia (by rw [ea]; exact decide_eq_false (by omega))] at hR
      refine walk (hQ := ?_)
      exact hR _ (ret1 (hp := rfl))
    · refine walk (hQ := ?_)
      exact hK _ (i + 1) ⟨by omega, all_take hia ho (by rw [ea]; exact decide_eq_true (by omega))⟩ (by omega) le_auto
  · obtain rfl : i = l.length := by omega
    rw [List.take_length] at ho
    rw [ho] at hR
    refine walk (hQ := ?_)
    exact hR _ (ret1 (hp := rfl))
end Go.VS.YtekfjbjdlenhoaaGreatDoor


namespace Go.VS.YtekfjbjdlenhoaaGreatDoor
open Go Go.VL Go.VN Go.RowKit Go.Proofs
set_option maxRecDepth 100000
set_option linter.unusedVariables false

theorem s_IndexB (s : List UInt8) (c : UInt8) (hl : s.length ≤ 140737488355328) : Spc X 148 [.one (.str s), .one (.int .u8 (c.toNat : Int))] (.one (.int .i64 (Lib.indexByte s c))) :=
  spc_strU8 (ent_of2 (P := X.P) Tryz.func148 (by kernel_rfl) (by kernel_rfl)) fun w hG h0 => (Tryz.strings_IndexByte ⟨s.toArray⟩ c.toNat w).mono fun e w' ⟨he, hw⟩ => ⟨_, by rw [he, show ((c.toNat : Int).toNat.toUInt8) = c by simp], .int _ _ ((Go.VL.range_i64 _).2 (by
    have h1 := Lib.indexByte_ge s c
    have h2 : Lib.indexByte s c ≤ 140737488355328 := by
      by_cases hm : c ∈ s
      · obtain ⟨h3, h4⟩ := (indexByte_cut c s).1 hm
        have h5 := congrArg List.length h4
        rw [List.length_append, List.length_cons] at h5
        omega
      · rw [((indexByte_cut c s).2 hm).1]; omega
    constructor <;> omega)), by rw [hw]; exact Below.refl _ _⟩
theorem f_letter (c : UInt8) : Spc X 151 [.one (.int .u8 c.toNat)] (.one (.bool (ltr c))) := by
  refine Spc.start Tryz.func151 rfl (h := fun hs R hR => ?_)
  unfold Tryz.f151
  simp only [entryE, PA.av]
  have k1 := s_IndexB [32, 46, 44, 59, 58, 33, 63, 34, 45, 91, 93, 60, 62, 123, 125] c (by simp)
  have k2 : decide (Lib.indexByte [32, 46, 44, 59, 58, 33, 63, 34, 45, 91, 93, 60, 62, 123, 125] c < 0) = !([32, 46, 44, 59, 58, 33, 63, 34, 45, 91, 93, 60, 62, 123, 125] : List UInt8).contains c := by
    by_cases hm : c ∈ ([32, 46, 44, 59, 58, 33, 63, 34, 45, 91, 93, 60, 62, 123, 125] : List UInt8)
    · rw [((indexByte_cut c _).1 hm).1, List.contains_iff_mem.2 hm]
      simp
    · rw [((indexByte_cut c _).2 hm).1]
      have : ([32, 46, 44, 59, 58, 33, 63, 34, 45, 91, 93, 60, 62, 123, 125] : List UInt8).contains c = false := by
        rw [Bool.eq_false_iff]; exact fun h => hm (List.contains_iff_mem.1 h)
      rw [this]; rfl
  have h9 : ltr c = (decide (32 ≤ c.toNat) && decide (c.toNat ≤ 126) && decide (Lib.indexByte [32, 46, 44, 59, 58, 33, 63, 34, 45, 91, 93, 60, 62, 123, 125] c < 0)) := by rw [k2]; rfl
  rw [h9] at hR
  refine walk (hQ := ?_)
  refine R_g_if (h1 := fun h1 => ?_) (h2 := fun h1 => ?_) <;> simp only [if_true] at h1
  · rw [decide_eq_true (show 32 ≤ c.toNat by omega), Bool.true_and] at hR
    refine walk (hQ := ?_)
    refine R_g_if (h1 := fun h2 => ?_) (h2 := fun h2 => ?_) <;> simp only [if_true] at h2
    · rw [decide_eq_true (show c.toNat ≤ 126 by omega), Bool.true_and] at hR
      refine walk (hQ := ?_)
      refine R_call k1 (hK := ?_)
      refine walk (hQ := ?_)
      exact hR _ (ret1 (hp := rfl))
    · rw [decide_eq_false (show ¬ c.toNat ≤ 126 by omega), Bool.false_and] at hR
      refine walk (hQ := ?_)
      exact hR _ (ret1 (hp := rfl))
  · rw [decide_eq_false (show ¬ 32 ≤ c.toNat by omega), Bool.false_and, Bool.false_and] at hR
    refine walk (hQ := ?_)
    exact hR _ (ret1 (hp := rfl))
theorem f_TValid (s : List UInt8) : Spc X 150 [.one (.str s)] (.one (.int .i64 (tvE s))) := by
  refine Spc.start Tryz.func150 rfl (h := fun hs R hR => ?_)
  unfold Tryz.f150
  simp only [entryE, PA.av]
  unfold tvE at hR
  refine walk (hQ := ?_)
  refine W_if (ht := fun h1 => ?_) (hf := fun h1 => ?_)
  · rw [if_pos (by omega)] at hR
    refine walk (hQ := ?_)
    exact hR _ (ret1 (hp := rfl))
  rw [if_neg (by omega)] at hR
  refine walk (hQ := ?_)
  refine Lp.intro (fun (i : Nat) => ⟨[(0, vS s), (9, vP (slc eU s)), (10, vI s.length), (11, vI i)], [], 0⟩) (fun i => i ≤ s.length ∧ (s.take i).all vis = true) (fun i => s.length - i) 0 ⟨Nat.zero_le _, by simp⟩ (h0 := le_auto) (hr := fun i K ⟨hi, ho⟩ hK => ?_)
  refine walk (hQ := ?_)
  refine W_if (ht := fun h2 => ?_) (hf := fun h2 => ?_)
  · have hil : i < s.length := by omega
    have e0 : s[i] = s.getD i default := by rw [List.getD_eq_getElem?_getD, List.getElem?_eq_getElem hil]; rfl
    have e1 := List.take_succ_eq_append_getElem hil
    rw [e0] at e1
    have hm : s.getD i default ∈ s := e0 ▸ List.getElem_mem hil
    refine walk (hQ := ?_)
    generalize s.getD i default = c at *
    refine R_g_if (h1 := fun h3 => ?_) (h2 := fun h3 => ?_) <;> simp only [Bool.false_eq_true, if_false, if_true, Decidable.not_not] at h3
    · refine walk (hQ := ?_)
      refine W_if (ht := fun h4 => ?_) (hf := fun h4 => ?_)
      · rw [if_neg (fun h => by have := List.all_eq_true.1 h c hm; unfold vis at this; simp at this; omega)] at hR
        refine walk (hQ := ?_)
        exact hR _ (ret1 (hp := rfl))
      · refine walk (hQ := ?_)
        exact hK _ (i + 1) ⟨by omega, by rw [e1, List.all_append, ho]; unfold vis; simp; omega⟩ (by omega) le_auto
    · rw [if_neg (fun h => by have := List.all_eq_true.1 h c hm; unfold vis at this; simp at this; omega)] at hR
      refine walk (hQ := ?_)
      exact hR _ (ret1 (hp := rfl))
  · obtain rfl : i = s.length := by omega
    rw [List.take_length] at ho
    rw [if_pos ho] at hR
    refine walk (hQ := ?_)
    exact hR _ (ret1 (hp := rfl))
theorem f_Fold (s : List UInt8) : Spc X 127 [.one (.str s)] (.one (.str (foldS s))) := by
  refine Spc.start Tryz.func127 rfl (h := fun hs R hR => ?_)
  unfold Tryz.f127
  simp only [entryE, PA.av]
  have ls := sane_str hs.1
  refine W_seq ?_
  refine W_reg ?_
  refine R_assign (hK := ?_)
  refine Rn.nil ?_
  refine N_code ?_
  refine W_seq ?_
  refine W_reg ?_
  refine R_move (hK := ?_)
  refine R_cvSBo 500 (hK := ?_)
  refine walk (hQ := ?_)
  refine Lp.intro2 (fun (cur : List UInt8) (i : Nat) => ⟨[(0, vS s), (3, .one (.own 500 1 s.length)), (8, .one (.own 500 1 s.length)), (9, vI s.length), (10, vI i)], [(500, (.pu 5 (cur.flatMap eU), false))], 1⟩) (fun cur i => i ≤ s.length ∧ cur = foldS (s.take i) ++ s.drop i) (fun cur i => s.length - i) s 0 ⟨Nat.zero_le _, by simp [foldS]⟩ (h0 := le_auto) (hr := fun cur i K ⟨hi, ho⟩ hK => ?_)
  have hlen : cur.length = s.length := by rw [ho, List.length_append, foldS_len, List.length_take, List.length_drop]; omega
  refine walk (hQ := ?_)
  refine W_if (ht := fun h2 => ?_) (hf := fun h2 => ?_)
  · have hil : i < s.length := by omega
    have hat : cur[i]? = some s[i] := by rw [ho]; exact fold_at hil
    have e0 : cur.getD i default = s[i] := by rw [List.getD_eq_getElem?_getD, hat]; rfl
    have hnx := fold_next hil
    rw [← ho, ← e0] at hnx
    refine walk (hQ := ?_)
    rw [← e0] at hat
    generalize cur.getD i default = c at *
    refine R_g_if (h1 := fun h3 => ?_) (h2 := fun h3 => ?_) <;> simp only [if_true] at h3
    · refine walk (hQ := ?_)
      refine W_if (ht := fun h4 => ?_) (hf := fun h4 => ?_)
      · refine walk (hQ := ?_)
        refine R_subw (hK := ?_)
        rw [wrap_u8 (by omega) (by omega)]
        refine R_addw (hK := ?_)
        rw [wrap_u8 (by omega) (by omega), show (c.toNat : Int) - 65 + 97 = ((lowB c).toNat : Int) by rw [lowB_up (by omega)]; omega]
        refine walk (hQ := ?_)
        exact hK _ _ (i + 1) ⟨by omega, hnx⟩ (by omega) le_auto
      · refine walk (hQ := ?_)
        have e5 : cur = foldS (s.take (i + 1)) ++ s.drop (i + 1) := by
          rw [lowB_no (by omega)] at hnx
          rw [← hnx, set_self? hat]
        exact hK _ cur (i + 1) ⟨by omega, e5⟩ (by omega) le_auto
    · refine walk (hQ := ?_)
      have e5 : cur = foldS (s.take (i + 1)) ++ s.drop (i + 1) := by
        rw [lowB_no (by omega)] at hnx
        rw [← hnx, set_self? hat]
      exact hK _ cur (i + 1) ⟨by omega, e5⟩ (by omega) le_auto
  · obtain rfl : i = s.length := by omega
    rw [List.take_length, List.drop_length, List.append_nil] at ho
    subst ho
    refine walk (hQ := ?_)
    exact hR _ (ret1 (hp := rfl))
theorem f_Words (s : List UInt8) : Spc X 128 [.one (.str s)] (.tup [(false, [slc eSp (wdsF s).1]), (false, [.int .i64 (wdsF s).2])]) := by
  refine Spc.start Tryz.func128 rfl (h := fun hs R hR => ?_)
  unfold Tryz.f128
  simp only [entryE, PA.av]
  have ls := sane_str hs.1
  have k1 := f_TValid s
  have hlv : tvE s = 0 → s.length ≤ 120 := fun h => by
    unfold tvE at h
    by_cases h1 : 120 < s.length
    · rw [if_pos h1] at h; cases h
    · omega
  unfold wdsF at hR
  refine walk (hQ := ?_)
  generalize tvE s = v at *
  refine R_call k1 (hK := ?_)
  refine walk (hQ := ?_)
  refine W_if (ht := fun h1 => ?_) (hf := fun h1 => ?_)
  · rw [if_pos h1] at hR
    refine walk (hQ := ?_)
    exact hR _ (ret2 (hp := rfl))
  rw [if_neg h1] at hR
  have hlv := hlv (Decidable.not_not.1 h1)
  refine walk (hQ := ?_)
  refine Lp.intro2 (fun (out : List Spn) (i : Nat) => ⟨[(0, vS s), (5, .one (.own 0 2 out.length)), (15, vP (slc eU s)), (16, vI s.length), (17, vI i)], [(0, (.pu 143 (out.flatMap eSp), false))], 1⟩) (fun out i => i ≤ s.length ∧ wdsL i (s.drop i) out = wdsL 0 s [] ∧ out.length ≤ i ∧ ∀ p ∈ out, 0 ≤ p.1 ∧ 0 ≤ p.2 ∧ p.2 ≤ i) (fun out i => s.length - i) [] 0 ⟨Nat.zero_le _, by simp, by simp, by simp⟩ (h0 := le_ghost1 0 143 (hle := le_auto)) (hr := fun out i K ⟨hi, ho, hol, hob⟩ hK => ?_)
  refine walk (hQ := ?_)
  refine W_if (ht := fun h2 => ?_) (hf := fun h2 => ?_)
  · have hil : i < s.length := by omega
    have e0 : s[i] = s.getD i default := by rw [List.getD_eq_getElem?_getD, List.getElem?_eq_getElem hil]; rfl
    rw [List.drop_eq_getElem_cons hil, e0, wdsL] at ho
    have k2 := f_letter (s.getD i default)
    refine walk (hQ := ?_)
    generalize s.getD i default = c at *
    refine R_call k2 (hK := ?_)
    refine walk (hQ := ?_)
    unfold wStep at ho
    cases hl : ltr c with
    | false =>
      rw [if_pos hl] at ho
      refine walk (hQ := ?_)
      exact hK _ out (i + 1) ⟨by omega, ho, by omega, fun p hp => by have := hob p hp; omega⟩ (by omega) le_auto
    | true =>
      rw [if_neg (by rw [hl]; decide)] at ho
      refine walk (hQ := ?_)
      refine R_g_if (h1 := fun h3 => ?_) (h2 := fun h3 => ?_) <;> simp only [if_true] at h3
      · have h0 : 0 < out.length := by omega
        have hla : out[out.length - 1]? = some (out.getD (out.length - 1) (0, 0)) := by
          rw [List.getD_eq_getElem?_getD, List.getElem?_eq_getElem (by omega)]; rfl
        have hmm : out.getD (out.length - 1) (0, 0) ∈ out := List.mem_of_getElem? hla
        have hbd := hob _ hmm
        generalize out.getD (out.length - 1) (0, 0) = q at *
        refine walk (hQ := ?_)
        rw [show ((out.length : Int) - 1).toNat = out.length - 1 by omega]
        refine walk (hQ := ?_)
        refine R_ldOF (e := eSp) hla (hK := ?_)
        refine walk (hQ := ?_)
        refine W_if (ht := fun h4 => ?_) (hf := fun h4 => ?_)
        · rw [if_pos ⟨h0, h4⟩, ← h4] at ho
          refine walk (hQ := ?_)
          rw [show ((out.length : Int) - 1).toNat = out.length - 1 by omega]
          refine walk (hQ := ?_)
          refine R_ldOF (e := eSp) hla (hK := ?_)
          refine walk (hQ := ?_)
          rw [show ((out.length : Int) - 1).toNat = out.length - 1 by omega]
          refine walk (hQ := ?_)
          refine R_stOF (e := eSp) (b := (q.1, q.2 + 1)) (p := .int .i64 (q.2 + 1)) hla rfl (hK := ?_)
          refine walk (hQ := ?_)
          refine hK _ (out.set (out.length - 1) (q.1, q.2 + 1)) (i + 1) ⟨by omega, ho, by rw [List.length_set]; omega, fun p hp => ?_⟩ (by omega) (by rw [List.length_set]; exact le_auto)
          rcases List.mem_or_eq_of_mem_set hp with hp | hp
          · have := hob p hp; omega
          · rw [hp]; simp only; omega
        · rw [if_neg (fun h => h4 h.2)] at ho
          refine walk (hQ := ?_)
          refine R_bsl eSp (l := [((i : Int), (i : Int) + 1)]) (hK := ?_)
          refine walk (hQ := ?_)
          refine hK _ (out ++ [((i : Int), (i : Int) + 1)]) (i + 1) ⟨by omega, ho, by rw [List.length_append, List.length_singleton]; omega, fun p hp => ?_⟩ (by omega) (by rw [List.length_append]; exact le_auto)
          rcases List.mem_append.1 hp with hp | hp
          · have := hob p hp; omega
          · rw [List.mem_singleton.1 hp]; simp only; omega
      · rw [if_neg (by omega)] at ho
        refine walk (hQ := ?_)
        refine R_bsl eSp (l := [((i : Int), (i : Int) + 1)]) (hK := ?_)
        refine walk (hQ := ?_)
        refine hK _ (out ++ [((i : Int), (i : Int) + 1)]) (i + 1) ⟨by omega, ho, by rw [List.length_append, List.length_singleton]; omega, fun p hp => ?_⟩ (by omega) (by rw [List.length_append]; exact le_auto)
        rcases List.mem_append.1 hp with hp | hp
        · have := hob p hp; omega
        · rw [List.mem_singleton.1 hp]; simp only; omega
  · obtain rfl : i = s.length := by omega
    rw [List.drop_length, wdsL] at ho
    rw [← ho] at hR
    refine walk (hQ := ?_)
    exact hR _ (ret2 (hp := rfl))
end Go.VS.YtekfjbjdlenhoaaGreatDoor


namespace Go.VS.YtekfjbjdlenhoaaGreatDoor
open Go Go.VL Go.VN Go.RowKit Go.Proofs
set_option maxRecDepth 100000
set_option linter.unusedVariables false
set_option linter.unusedSimpArgs false

abbrev sdR (p : Snd × Bool) : PA := .tup [(true, eSd p.1), (false, [.bool p.2])]
theorem f_read (w : List UInt8) (hl : w.length ≤ 1000000) : Spc X 117 [.one (.str w)] (sdR (rdF w)) := by
  refine Spc.start Tryz.func117 rfl (h := fun hs R hR => ?_)
  unfold Tryz.f117
  simp only [entryE, PA.av]
  have k1 := s_Cut1 w 47 (by omega)
  unfold rdF at hR
  refine walk (hQ := ?_)
  by_cases hm : 47 ∈ w
  · simp only [hm, true_and, decide_true, if_true] at hR k1
    generalize w.drop ((cutL 47 w).length + 1) = t at *
    generalize cutL 47 w = hd at *
    refine R_call k1 (hK := ?_)
    refine walk (hQ := ?_)
    refine W_if (ht := fun h1 => ?_) (hf := fun h1 => ?_)
    · rw [if_neg (fun h => h h1)] at hR
      refine walk (hQ := ?_)
      exact hR _ (ret2 (hp := rfl))
    · rw [if_pos h1] at hR
      have htl : 0 < t.length := by
        rcases Nat.eq_zero_or_pos t.length with h | h
        · exact absurd (List.eq_nil_of_length_eq_zero h) h1
        · exact h
      have k2 := s_IndexB ltrs (t.getD 0 0) (by simp)
      have hz1 := Lib.indexByte_ge ltrs (t.getD 0 0)
      have hz2 : Lib.indexByte ltrs (t.getD 0 0) ≤ 9 := by
        by_cases hm : t.getD 0 0 ∈ ltrs
        · rw [((indexByte_cut _ ltrs).1 hm).1]
          have := cut_len (t.getD 0 0) hm
          simp only [List.length_cons, List.length_nil] at this
          omega
        · rw [((indexByte_cut _ ltrs).2 hm).1]; omega
      refine walk (hQ := ?_)
      rw [show t.getD (Int.toNat 0) 0 = t.getD 0 0 from rfl]
      generalize Lib.indexByte ltrs (t.getD 0 0) = z at *
      refine R_call k2 (hK := ?_)
      have k3 := f_Nucleus (z + 1, 0, hd)
      refine walk (hQ := ?_)
      cases hn : nuc (z + 1, 0, hd) with
      | true =>
        rw [hn] at k3
        rw [hn, if_pos rfl] at hR
        refine R_call k3 (hK := ?_)
        refine walk (hQ := ?_)
        refine R_g_if (h1 := fun h2 => ?_) (h2 := fun h2 => ?_) <;> simp only [Bool.false_eq_true, if_false, if_true, Decidable.not_not] at h2
        · have h2' : t.length = 2 := by omega
          refine walk (hQ := ?_)
          rw [show t.getD (Int.toNat 1) 0 = t.getD 1 0 from rfl]
          generalize hqe : t.getD 1 0 = q at *
          refine R_g_if (h1 := fun h3 => ?_) (h2 := fun h3 => ?_) <;> simp only [Bool.false_eq_true, if_false, if_true, Decidable.not_not] at h3
          · refine walk (hQ := ?_)
            rw [show t.getD (Int.toNat 1) 0 = q from hqe]
            refine W_if (ht := fun h4 => ?_) (hf := fun h4 => ?_)
            · rw [if_neg (by omega)] at hR
              refine walk (hQ := ?_)
              exact hR _ (ret2 (hp := rfl))
            · rw [if_pos (by omega)] at hR
              have k4 := f_SValid (z + 1, (q.toNat : Int) - 48, hd)
              refine walk (hQ := ?_)
              rw [show t.getD (Int.toNat 1) 0 = q from hqe]
              refine R_subw (hK := ?_)
              rw [wrap_u8 (by omega) (by omega)]
              refine walk (hQ := ?_)
              generalize sdE (z + 1, (q.toNat : Int) - 48, hd) = v at *
              refine R_call k4 (hK := ?_)
              refine walk (hQ := ?_)
              exact hR _ (ret2 (hp := rfl))
          · rw [if_neg (by omega)] at hR
            refine walk (hQ := ?_)
            exact hR _ (ret2 (hp := rfl))
        · rw [if_neg (by omega)] at hR
          refine walk (hQ := ?_)
          exact hR _ (ret2 (hp := rfl))
      | false =>
        rw [hn] at k3
        rw [hn, if_neg (by decide)] at hR
        refine R_call k3 (hK := ?_)
        refine walk (hQ := ?_)
        refine W_if (ht := fun h2 => ?_) (hf := fun h2 => ?_)
        · rw [if_neg (by omega)] at hR
          refine walk (hQ := ?_)
          exact hR _ (ret2 (hp := rfl))
        · rw [if_pos (by omega)] at hR
          have k4 := f_SValid (z + 1, 0, hd)
          refine walk (hQ := ?_)
          generalize sdE (z + 1, 0, hd) = v at *
          refine R_call k4 (hK := ?_)
          refine walk (hQ := ?_)
          exact hR _ (ret2 (hp := rfl))
  · simp only [hm, false_and, decide_false, if_false] at hR k1
    refine R_call k1 (hK := ?_)
    refine walk (hQ := ?_)
    exact hR _ (ret2 (hp := rfl))
abbrev sdP (p : List Snd × Int) : PA := .tup [(false, [slc eSd p.1]), (false, [.int .i64 p.2])]
theorem f_SParse (s : List UInt8) : Spc X 81 [.one (.str s)] (sdP (prsSd s)) := by
  refine Spc.start Tryz.func81 rfl (h := fun hs R hR => ?_)
  unfold Tryz.f81
  simp only [entryE, PA.av]
  unfold prsSd at hR
  refine walk (hQ := ?_)
  refine W_if (ht := fun h1 => ?_) (hf := fun h1 => ?_)
  · rw [if_pos (by omega)] at hR
    refine walk (hQ := ?_)
    exact hR _ (ret2 (hp := rfl))
  rw [if_neg (by omega)] at hR
  refine walk (hQ := ?_)
  refine W_if (ht := fun h2 => ?_) (hf := fun h2 => ?_)
  · rw [if_pos h2] at hR
    refine walk (hQ := ?_)
    exact hR _ (ret2 (hp := rfl))
  rw [if_neg h2] at hR
  have k1 := s_Split 32 s (by omega)
  have hlw : ∀ w ∈ splitL 32 s, w.length ≤ s.length := spK_mem false 32 s
  have hll : (splitL 32 s).length ≤ 4001 := by
    have : (splitL 32 s).length = s.count 32 + 1 := spK_len false 32 s.length s (Nat.le_refl _)
    have := List.count_le_length (a := 32) (l := s)
    omega
  refine walk (hQ := ?_)
  generalize splitL 32 s = L at *
  refine R_call k1 (hK := ?_)
  refine walk (hQ := ?_)
  refine Lp.intro2 (fun (out : List Snd) (i : Nat) => ⟨[(4, .one (.own 0 3 out.length)), (15, vP (slc eS L)), (16, vI L.length), (17, vI i)], [(0, (.pu 51 (out.flatMap eSd), false))], 1⟩) (fun out i => i ≤ L.length ∧ rdAll (L.take i) = some out) (fun out i => L.length - i) [] 0 ⟨Nat.zero_le _, rfl⟩ (h0 := le_ghost1 0 51 (hle := le_auto)) (hr := fun out i K ⟨hi, ho⟩ hK => ?_)
  have hol := rdAll_len ho
  rw [List.length_take] at hol
  refine walk (hQ := ?_)
  refine W_if (ht := fun h4 => ?_) (hf := fun h4 => ?_)
  · have hil : i < L.length := by omega
    have e0 := getD_some hil
    have hn := rdAll_next e0 ho
    have k2 := f_read (L.getD i default) (by have := hlw _ (List.mem_of_getElem? e0); omega)
    refine walk (hQ := ?_)
    unfold rdS toO at hn
    generalize L.getD i default = w at *
    generalize rdF w = P at *
    obtain ⟨⟨x1, x2, x3⟩, ok⟩ := P
    simp only [sdR, eSd] at *
    refine R_call k2 (hK := ?_)
    refine walk (hQ := ?_)
    cases ok with
    | false =>
      rw [hn.1 (by simp)] at hR
      refine walk (hQ := ?_)
      exact hR _ (ret2 (hp := rfl))
    | true =>
      refine walk (hQ := ?_)
      refine R_bsl eSd (l := [(x1, x2, x3)]) (hK := ?_)
      refine walk (hQ := ?_)
      refine hK _ (out ++ [(x1, x2, x3)]) (i + 1) ⟨by omega, hn.2 (x1, x2, x3) (by simp)⟩ (by omega) ?_
      rw [List.length_append]
      exact le_auto
  · obtain rfl : i = L.length := by omega
    rw [List.take_length] at ho
    rw [ho] at hR
    simp only at hR
    refine walk (hQ := ?_)
    refine W_if (ht := fun h5 => ?_) (hf := fun h5 => ?_)
    · rw [if_pos (by omega)] at hR
      refine walk (hQ := ?_)
      exact hR _ (ret2 (hp := rfl))
    · rw [if_neg (by omega)] at hR
      refine walk (hQ := ?_)
      exact hR _ (ret2 (hp := rfl))
end Go.VS.YtekfjbjdlenhoaaGreatDoor


namespace Go.VS.YtekfjbjdlenhoaaGreatDoor
open Go Go.VL Go.VN Go.RowKit Go.Proofs
set_option maxRecDepth 100000
set_option linter.unusedVariables false
set_option linter.unusedSimpArgs false

theorem g_split (s : List UInt8) (hl : s.length ≤ 1000000) : Spc X 84 [.one (.str s)] (.one (slc eS (splitL 32 s))) := by
  refine Spc.start Tryz.func84 rfl (h := fun hs R hR => ?_)
  unfold Tryz.f84
  simp only [entryE, PA.av]
  refine walk (hQ := ?_)
  refine Lp.intro2 (fun (out : List (List UInt8)) (i : Nat) => ⟨[(0, vS s), (3, .one (.own 0 1 out.length)), (4, vI i)], [(0, (.pu 9 (out.flatMap eS), false))], 1⟩) (fun out i => i ≤ s.length ∧ out = splitL 32 (s.take i)) (fun out i => s.length - i) [[]] 0 ⟨Nat.zero_le _, rfl⟩ (h0 := le_auto) (hr := fun out i K ⟨hi, ho⟩ hK => ?_)
  have hol : out.length ≤ i + 1 ∧ 0 < out.length := by
    have h1 : (splitL 32 (s.take i)).length = (s.take i).count 32 + 1 := spK_len false 32 _ _ (Nat.le_refl _)
    have h2 := List.count_le_length (a := 32) (l := s.take i)
    rw [List.length_take] at h2
    rw [ho]; omega
  refine walk (hQ := ?_)
  refine W_if (ht := fun h4 => ?_) (hf := fun h4 => ?_)
  · have hil : i < s.length := by omega
    have e0 : s[i]? = some (s.getD i 0) := by rw [List.getD_eq_getElem?_getD, List.getElem?_eq_getElem hil]; rfl
    have e2 : (s.drop i).take 1 = [s.getD i 0] := by
      rw [List.drop_eq_getElem_cons hil]
      rw [List.getElem?_eq_getElem hil, Option.some.injEq] at e0
      rw [e0]; rfl
    have e1 : splitL 32 (s.take (i + 1)) = if s.getD i 0 = 32 then out ++ [[]] else lastAdd out (s.getD i 0) := by
      rw [List.getElem?_eq_getElem hil, Option.some.injEq] at e0
      rw [List.take_succ_eq_append_getElem hil, e0, splitL_snoc, ho]
    refine walk (hQ := ?_)
    generalize hc : s.getD i 0 = c at *
    refine W_if (ht := fun h5 => ?_) (hf := fun h5 => ?_)
    · have h5' : c = 32 := UInt8.toNat_inj.1 (show c.toNat = 32 by omega)
      rw [if_pos h5'] at e1
      refine walk (hQ := ?_)
      refine hK _ (out ++ [[]]) (i + 1) ⟨by omega, e1.symm⟩ (by omega) ?_
      rw [List.length_append]
      exact le_auto
    · have h5' : ¬ c = 32 := fun e => h5 (by rw [e]; rfl)
      rw [if_neg h5'] at e1
      refine walk (hQ := ?_)
      have hx : (out.getD (out.length - 1) []).length ≤ s.length := by
        have hm : out.getD (out.length - 1) [] ∈ splitL 32 (s.take i) := by
          rw [← ho, List.getD_eq_getElem?_getD, List.getElem?_eq_getElem (by omega)]
          exact List.getElem_mem _
        have := spK_mem false 32 _ _ hm
        rw [List.length_take] at this
        omega
      rw [show i + 1 - i = 1 by omega, e2, show ((out.length : Int) - 1).toNat = out.length - 1 by omega]
      refine walk (hQ := ?_)
      rw [show ((out.length : Int) - 1).toNat = out.length - 1 by omega]
      refine hK _ (lastAdd out c) (i + 1) ⟨by omega, e1.symm⟩ (by omega) ?_
      unfold lastAdd
      rw [List.length_set]
      exact le_auto
  · obtain rfl : i = s.length := by omega
    rw [List.take_length] at ho
    rw [← ho] at hR
    refine walk (hQ := ?_)
    exact hR _ (ret1 (hp := rfl))
theorem g_lets : Spc X 75 [] (.one (.str lts)) := by
  refine Spc.start Tryz.func75 rfl (h := fun hs R hR => ?_)
  unfold Tryz.f75
  simp only [entryE]
  refine walk (hQ := ?_)
  exact hR _ (ret1 (hp := rfl))
theorem g_one (w : List UInt8) (hl : w.length ≤ 1000000) : Spc X 85 [.one (.str w)] (sdR (rdG w)) := by
  refine Spc.start Tryz.func85 rfl (h := fun hs R hR => ?_)
  unfold Tryz.f85
  simp only [entryE, PA.av]
  unfold rdG at hR
  refine walk (hQ := ?_)
  refine Lp.intro (fun (i : Nat) => ⟨[(0, vS w), (2, .one (.ptr 0 0)), (4, vI i)], [(0, (.mx [.pv (.int .i64 0), .pv (.int .i64 0), .pv (.str [])], false))], 1⟩) (fun i => i ≤ w.length ∧ 47 ∉ w.take i) (fun i => w.length - i) 0 ⟨Nat.zero_le _, by simp⟩ (h0 := le_auto) (hr := fun i K ⟨hi, ho⟩ hK => ?_)
  refine walk (hQ := ?_)
  refine R_g_if (h1 := fun h1 => ?_) (h2 := fun h1 => ?_) <;> simp only [Bool.false_eq_true, if_false, if_true, Decidable.not_not] at h1
  · have hil : i < w.length := by omega
    have e0 : w[i]? = some (w.getD i 0) := by rw [List.getD_eq_getElem?_getD, List.getElem?_eq_getElem hil]; rfl
    have hst : ¬ w.getD i 0 = 47 → 47 ∉ w.take (i + 1) := fun h hm => by
      rw [List.getElem?_eq_getElem hil, Option.some.injEq] at e0
      rw [List.take_succ_eq_append_getElem hil, e0, List.mem_append, List.mem_singleton] at hm
      rcases hm with hm | hm
      · exact ho hm
      · exact h hm.symm
    refine walk (hQ := ?_)
    generalize w.getD i 0 = c at *
    refine W_if (ht := fun h2 => ?_) (hf := fun h2 => ?_)
    · refine walk (hQ := ?_)
      exact hK _ (i + 1) ⟨by omega, hst fun e => h2 (by rw [e]; rfl)⟩ (by omega) le_auto
    · have hc : c = 47 := UInt8.toNat_inj.1 (show c.toNat = 47 by omega)
      rw [hc] at e0
      obtain ⟨c1, c2, c3⟩ := cut_at hi ho (.inr e0)
      have hm : 47 ∈ w := c3.2 hil
      simp only [hm, true_and, c2] at hR
      rw [← c1] at hR
      refine walk (hQ := ?_)
      refine W_if (ht := fun _ => ?_) (hf := fun h9 => absurd h1 h9)
      refine walk (hQ := ?_)
      have htl2 : (w.drop (i + 1)).length ≤ w.length := by rw [List.length_drop]; omega
      generalize w.drop (i + 1) = t at *
      generalize hhd : w.take i = hd at *
      refine W_if (ht := fun h3 => ?_) (hf := fun h3 => ?_)
      · rw [if_neg (fun h => h h3)] at hR
        refine walk (hQ := ?_)
        exact hR _ (ret2 (hp := rfl))
      rw [if_pos h3] at hR
      have htl : 0 < t.length := by
        rcases Nat.eq_zero_or_pos t.length with h | h
        · exact absurd (List.eq_nil_of_length_eq_zero h) h3
        · exact h
      have hz1 := Lib.indexByte_ge ltrs (t.getD 0 0)
      have hz2 := ltrs_le (t.getD 0 0)
      have hat := fun k (h1 : 1 ≤ k) (h2 : k < 10) => lts_at (t.getD 0 0) h1 h2
      generalize hze : Lib.indexByte ltrs (t.getD 0 0) = z at *
      refine walk (hQ := ?_)
      rw [hhd]
      refine Lp.intro (fun (k : Nat) => ⟨[(0, vS w), (2, .one (.ptr 0 0)), (5, vS t), (6, .one (.ptr 1 0)), (7, vI k)], [(0, (.mx [.pv (.int .i64 0), .pv (.int .i64 0), .pv (.str [])], false)), (1, (.mx [.pv (.int .i64 (if z + 1 < k then z + 1 else 0)), .pv (.int .i64 0), .pv (.str hd)], false))], 2⟩) (fun k => 1 ≤ k ∧ k ≤ 10) (fun k => 10 - k) 1 (by omega) (h0 := by rw [show (if z + 1 < ((1 : Nat) : Int) then z + 1 else 0) = 0 by split <;> omega]; exact le_auto) (hr := fun k K2 hk hK2 => ?_)
      refine walk (hQ := ?_)
      refine R_call g_lets (hK := ?_)
      refine walk (hQ := ?_)
      refine W_if (ht := fun h4 => ?_) (hf := fun h4 => ?_)
      · simp only [List.length_cons, List.length_nil] at h4
        refine walk (hQ := ?_)
        refine R_call g_lets (hK := ?_)
        have hil : k < lts.length := by simp only [List.length_cons, List.length_nil]; omega
        have hkz := hat k hk.1 (by omega)
        refine walk (hQ := ?_)
        rw [show t.getD (Int.toNat 0) 0 = t.getD 0 0 from rfl]
        refine W_if (ht := fun h5 => ?_) (hf := fun h5 => ?_)
        · have hz := hkz.1 (UInt8.toNat_inj.1 (by omega))
          refine walk (hQ := ?_)
          refine hK2 _ (k + 1) ⟨by omega, by omega⟩ (by omega) ?_
          rw [show (if z + 1 < ((k + 1 : Nat) : Int) then z + 1 else 0) = (k : Int) by rw [if_pos (by omega)]; omega]
          exact le_auto
        · have hz : ¬ z + 1 = (k : Int) := fun h => h5 (by rw [hkz.2 h])
          refine walk (hQ := ?_)
          refine hK2 _ (k + 1) ⟨by omega, by omega⟩ (by omega) ?_
          rw [show (if z + 1 < ((k + 1 : Nat) : Int) then z + 1 else 0) = (if z + 1 < (k : Int) then z + 1 else 0) by split <;> split <;> omega]
          exact le_auto
      · simp only [List.length_cons, List.length_nil] at h4
        obtain rfl : k = 10 := by omega
        rw [show (if z + 1 < ((10 : Nat) : Int) then z + 1 else 0) = z + 1 by rw [if_pos (by omega)]]
        have hu1 : (t.drop 1).length = t.length - 1 := List.length_drop ..
        have hu2 : (t.drop 1).getD 0 0 = t.getD 1 0 := by rw [List.getD_eq_getElem?_getD, List.getD_eq_getElem?_getD, List.getElem?_drop]
        refine walk (hQ := ?_)
        rw [show t.drop (Int.toNat 1) = t.drop 1 from rfl]
        generalize t.drop 1 = u at *
        have k3 := g_Nucleus (z + 1, 0, hd)
        have k4 := g_SValid (z + 1, 0, hd)
        cases hn : nuc (z + 1, 0, hd) with
        | true =>
          rw [hn] at k3
          simp only [hn, true_and] at hR
          refine R_call k3 (hK := ?_)
          refine walk (hQ := ?_)
          refine R_g_if (h1 := fun h5 => ?_) (h2 := fun h5 => ?_) <;> simp only [Bool.false_eq_true, if_false, if_true, Decidable.not_not] at h5
          · refine walk (hQ := ?_)
            rw [show u.getD (Int.toNat 0) 0 = t.getD 1 0 from hu2]
            generalize hqe : t.getD 1 0 = q at *
            refine R_g_if (h1 := fun h6 => ?_) (h2 := fun h6 => ?_) <;> simp only [Bool.false_eq_true, if_false, if_true, Decidable.not_not] at h6
            · refine walk (hQ := ?_)
              rw [show u.getD (Int.toNat 0) 0 = q from hu2]
              refine W_if (ht := fun h7 => ?_) (hf := fun h7 => ?_)
              · rw [if_pos (by omega)] at hR
                have k5 := g_SValid (z + 1, (q.toNat : Int) - 48, hd)
                refine walk (hQ := ?_)
                rw [show u.getD (Int.toNat 0) 0 = q from hu2]
                refine walk (hQ := ?_)
                generalize sdE (z + 1, (q.toNat : Int) - 48, hd) = v at *
                refine R_call k5 (hK := ?_)
                refine walk (hQ := ?_)
                exact hR _ (ret2 (hp := rfl))
              · rw [if_neg (by omega)] at hR
                refine walk (hQ := ?_)
                refine R_g_if (h1 := fun h9 => ?_) (h2 := fun h9 => ?_) <;> simp only [Bool.false_eq_true, if_false, if_true, Decidable.not_not] at h9
                · have hl1 : t.length = 1 := by have := congrArg List.length h9; simp only [List.length_nil] at this; omega
                  rw [decide_eq_true hl1, Bool.true_and] at hR
                  refine walk (hQ := ?_)
                  generalize sdE (z + 1, 0, hd) = v at *
                  refine R_call k4 (hK := ?_)
                  refine walk (hQ := ?_)
                  exact hR _ (ret2 (hp := rfl))
                · have hl1 : ¬ t.length = 1 := fun h => h9 (List.eq_nil_of_length_eq_zero (by omega))
                  rw [decide_eq_false hl1, Bool.false_and] at hR
                  refine walk (hQ := ?_)
                  exact hR _ (ret2 (hp := rfl))
            · rw [if_neg (by omega)] at hR
              refine walk (hQ := ?_)
              refine R_g_if (h1 := fun h9 => ?_) (h2 := fun h9 => ?_) <;> simp only [Bool.false_eq_true, if_false, if_true, Decidable.not_not] at h9
              · have hl1 : t.length = 1 := by have := congrArg List.length h9; simp only [List.length_nil] at this; omega
                rw [decide_eq_true hl1, Bool.true_and] at hR
                refine walk (hQ := ?_)
                generalize sdE (z + 1, 0, hd) = v at *
                refine R_call k4 (hK := ?_)
                refine walk (hQ := ?_)
                exact hR _ (ret2 (hp := rfl))
              · have hl1 : ¬ t.length = 1 := fun h => h9 (List.eq_nil_of_length_eq_zero (by omega))
                rw [decide_eq_false hl1, Bool.false_and] at hR
                refine walk (hQ := ?_)
                exact hR _ (ret2 (hp := rfl))
          · rw [if_neg (by omega)] at hR
            refine walk (hQ := ?_)
            refine R_g_if (h1 := fun h9 => ?_) (h2 := fun h9 => ?_) <;> simp only [Bool.false_eq_true, if_false, if_true, Decidable.not_not] at h9
            · have hl1 : t.length = 1 := by have := congrArg List.length h9; simp only [List.length_nil] at this; omega
              rw [decide_eq_true hl1, Bool.true_and] at hR
              refine walk (hQ := ?_)
              generalize sdE (z + 1, 0, hd) = v at *
              refine R_call k4 (hK := ?_)
              refine walk (hQ := ?_)
              exact hR _ (ret2 (hp := rfl))
            · have hl1 : ¬ t.length = 1 := fun h => h9 (List.eq_nil_of_length_eq_zero (by omega))
              rw [decide_eq_false hl1, Bool.false_and] at hR
              refine walk (hQ := ?_)
              exact hR _ (ret2 (hp := rfl))
        | false =>
          rw [hn] at k3
          simp only [hn, Bool.false_eq_true, false_and, if_false] at hR
          refine R_call k3 (hK := ?_)
          refine walk (hQ := ?_)
          refine R_g_if (h1 := fun h9 => ?_) (h2 := fun h9 => ?_) <;> simp only [Bool.false_eq_true, if_false, if_true, Decidable.not_not] at h9
          · have hl1 : t.length = 1 := by have := congrArg List.length h9; simp only [List.length_nil] at this; omega
            rw [decide_eq_true hl1, Bool.true_and] at hR
            refine walk (hQ := ?_)
            generalize sdE (z + 1, 0, hd) = v at *
            refine R_call k4 (hK := ?_)
            refine walk (hQ := ?_)
            exact hR _ (ret2 (hp := rfl))
          · have hl1 : ¬ t.length = 1 := fun h => h9 (List.eq_nil_of_length_eq_zero (by omega))
            rw [decide_eq_false hl1, Bool.false_and] at hR
            refine walk (hQ := ?_)
            exact hR _ (ret2 (hp := rfl))
  · obtain ⟨c1, c2, c3⟩ := cut_at hi ho (.inl (by omega))
    have hm : ¬ 47 ∈ w := fun h => by have := c3.1 h; omega
    rw [if_neg (fun h => hm h.1)] at hR
    refine walk (hQ := ?_)
    refine W_if (ht := fun h9 => absurd h9 (by omega)) (hf := fun _ => ?_)
    refine walk (hQ := ?_)
    exact hR _ (ret2 (hp := rfl))
theorem g_SParse (s : List UInt8) : Spc X 56 [.one (.str s)] (sdP (prsSd s)) := by
  refine Spc.start Tryz.func56 rfl (h := fun hs R hR => ?_)
  unfold Tryz.f56
  simp only [entryE, PA.av]
  unfold prsSd at hR
  refine walk (hQ := ?_)
  refine W_if (ht := fun h1 => ?_) (hf := fun h1 => ?_)
  · rw [if_pos (by omega)] at hR
    refine walk (hQ := ?_)
    exact hR _ (ret2 (hp := rfl))
  rw [if_neg (by omega)] at hR
  refine walk (hQ := ?_)
  refine W_if (ht := fun h2 => ?_) (hf := fun h2 => ?_)
  · rw [if_pos h2] at hR
    refine walk (hQ := ?_)
    exact hR _ (ret2 (hp := rfl))
  rw [if_neg h2] at hR
  have k1 := g_split s (by omega)
  have hlw : ∀ w ∈ splitL 32 s, w.length ≤ s.length := spK_mem false 32 s
  have hll : (splitL 32 s).length ≤ 4001 := by
    have : (splitL 32 s).length = s.count 32 + 1 := spK_len false 32 s.length s (Nat.le_refl _)
    have := List.count_le_length (a := 32) (l := s)
    omega
  refine walk (hQ := ?_)
  generalize splitL 32 s = L at *
  refine R_call k1 (hK := ?_)
  refine walk (hQ := ?_)
  refine Lp.intro2 (fun (out : List Snd) (i : Nat) => ⟨[(4, .one (.own 0 3 out.length)), (5, vP (slc eS L)), (6, vI i)], [(0, (.pu 51 (out.flatMap eSd), false))], 1⟩) (fun out i => i ≤ L.length ∧ rdAll (L.take i) = some out) (fun out i => L.length - i) [] 0 ⟨Nat.zero_le _, rfl⟩ (h0 := le_ghost1 0 51 (hle := le_auto)) (hr := fun out i K ⟨hi, ho⟩ hK => ?_)
  have hol := rdAll_len ho
  rw [List.length_take] at hol
  refine walk (hQ := ?_)
  refine W_if (ht := fun h4 => ?_) (hf := fun h4 => ?_)
  · have hil : i < L.length := by omega
    have e0 := getD_some hil
    have hn := rdAll_next e0 ho
    have k2 := g_one (L.getD i default) (by have := hlw _ (List.mem_of_getElem? e0); omega)
    refine walk (hQ := ?_)
    rw [← rdG_rdS] at hn
    unfold toO at hn
    generalize L.getD i default = w at *
    generalize rdG w = P at *
    obtain ⟨⟨x1, x2, x3⟩, ok⟩ := P
    simp only [sdR, eSd] at *
    refine R_call k2 (hK := ?_)
    refine walk (hQ := ?_)
    cases ok with
    | false =>
      rw [hn.1 (by simp)] at hR
      refine walk (hQ := ?_)
      exact hR _ (ret2 (hp := rfl))
    | true =>
      refine walk (hQ := ?_)
      refine R_bsl eSd (l := [(x1, x2, x3)]) (hK := ?_)
      refine walk (hQ := ?_)
      refine hK _ (out ++ [(x1, x2, x3)]) (i + 1) ⟨by omega, hn.2 (x1, x2, x3) (by simp)⟩ (by omega) ?_
      rw [List.length_append]
      exact le_auto
  · obtain rfl : i = L.length := by omega
    rw [List.take_length] at ho
    rw [ho] at hR
    simp only at hR
    refine walk (hQ := ?_)
    refine W_if (ht := fun h5 => ?_) (hf := fun h5 => ?_)
    · rw [if_pos (by omega)] at hR
      refine walk (hQ := ?_)
      exact hR _ (ret2 (hp := rfl))
    · rw [if_neg (by omega)] at hR
      refine walk (hQ := ?_)
      exact hR _ (ret2 (hp := rfl))
end Go.VS.YtekfjbjdlenhoaaGreatDoor


namespace Go.VS.YtekfjbjdlenhoaaGreatDoor
open Go Go.VL Go.VN Go.RowKit Go.Proofs
set_option maxRecDepth 100000
set_option linter.unusedVariables false
set_option linter.unusedSimpArgs false

theorem l_sounds (s : List UInt8) : Spc X 32 [.one (.str s)] (.one (slc eSd (prsSd s).1)) := by
  refine Spc.start Tryz.func32 rfl (h := fun hs R hR => ?_)
  unfold Tryz.f32
  simp only [entryE, PA.av]
  have k1 := g_SParse s
  generalize prsSd s = P at *
  refine walk (hQ := ?_)
  refine R_call k1 (hK := ?_)
  refine walk (hQ := ?_)
  exact hR _ (ret1 (hp := rfl))
theorem s_EqualI (a b : List Int) : Spc X 15 [.one (slc eI a), .one (slc eI b)] (.one (.bool (decide (a = b)))) := by
  refine Spc.start Tryz.func15 rfl (h := fun hs R hR => ?_)
  unfold Tryz.f15
  simp only [entryE, PA.av]
  have la := (sane_slc hs.1).1
  have lb := (sane_slc hs.2.1).1
  refine walk (hQ := ?_)
  refine W_if (ht := fun h1 => ?_) (hf := fun h1 => ?_)
  · rw [decide_eq_false (fun h => h1 (by rw [h]))] at hR
    refine walk (hQ := ?_)
    exact hR _ (ret1 (hp := rfl))
  have hll : a.length = b.length := by omega
  refine walk (hQ := ?_)
  refine Lp.intro (fun (i : Nat) => ⟨[(0, vP (slc eI a)), (1, vP (slc eI b)), (12, vI a.length), (13, vI i)], [], 0⟩) (fun i => i ≤ a.length ∧ a.take i = b.take i) (fun i => a.length - i) 0 ⟨Nat.zero_le _, by simp⟩ (h0 := le_auto) (hr := fun i K ⟨hi, ho⟩ hK => ?_)
  refine walk (hQ := ?_)
  refine W_if (ht := fun h2 => ?_) (hf := fun h2 => ?_)
  · have hia : i < a.length := by omega
    have hib : i < b.length := by omega
    have ea : a[i] = a.getD i 0 := by rw [List.getD_eq_getElem?_getD, List.getElem?_eq_getElem hia]; rfl
    have eb : b[i] = b.getD i 0 := by rw [List.getD_eq_getElem?_getD, List.getElem?_eq_getElem hib]; rfl
    refine walk (hQ := ?_)
    refine W_if (ht := fun h3 => ?_) (hf := fun h3 => ?_)
    · rw [decide_eq_false (fun h => h3 (by rw [h]))] at hR
      refine walk (hQ := ?_)
      exact hR _ (ret1 (hp := rfl))
    · refine walk (hQ := ?_)
      exact hK _ (i + 1) ⟨by omega, eq_take hia hib ho (by rw [ea, eb]; exact Decidable.not_not.1 h3)⟩ (by omega) le_auto
  · obtain rfl : i = a.length := by omega
    rw [List.take_length, hll, List.take_length] at ho
    rw [decide_eq_true ho] at hR
    refine walk (hQ := ?_)
    exact hR _ (ret1 (hp := rfl))
end Go.VS.YtekfjbjdlenhoaaGreatDoor


namespace Go.VS.YtekfjbjdlenhoaaGreatDoor
open Go Go.VL Go.VN Go.RowKit Go.Proofs
set_option maxRecDepth 100000
set_option linter.unusedVariables false
set_option linter.unusedSimpArgs false

theorem f_places : Spc X 46 [] (.one (slc eS plcs)) := by
  refine Spc.start Tryz.func46 rfl (h := fun hs R hR => ?_)
  unfold Tryz.f46
  simp only [entryE]
  refine walk (hQ := ?_)
  exact hR _ (ret1 (hp := rfl))
abbrev sgR (p : Sgn × Bool) : PA := .tup [(true, eSg p.1), (false, [.bool p.2])]
theorem f_sign (s : List UInt8) (hl : s.length ≤ 20000) : Spc X 55 [.one (.str s)] (sgR (oO zSg (sgOf (splitL 32 s)))) := by
  refine Spc.start Tryz.func55 rfl (h := fun hs R hR => ?_)
  unfold Tryz.f55
  simp only [entryE, PA.av]
  have k1 := s_Split 32 s (by omega)
  have hlw : ∀ w ∈ splitL 32 s, w.length ≤ s.length := spK_mem false 32 s
  have hll : (splitL 32 s).length ≤ 20001 := by
    have : (splitL 32 s).length = s.count 32 + 1 := spK_len false 32 s.length s (Nat.le_refl _)
    have := List.count_le_length (a := 32) (l := s)
    omega
  unfold sgOf at hR
  generalize splitL 32 s = L at *
  refine walk (hQ := ?_)
  refine R_call k1 (hK := ?_)
  refine walk (hQ := ?_)
  refine R_g_if (h1 := fun h1 => ?_) (h2 := fun h1 => ?_) <;> simp only [Bool.false_eq_true, if_false, if_true, Decidable.not_not] at h1
  · have hL0 : 3 < L.length := by omega
    have hhd : L.head? = some (L.getD 0 []) := by
      match L, hL0 with
      | a :: L, _ => rfl
    refine walk (hQ := ?_)
    rw [show L.getD (Int.toNat 0) [] = L.getD 0 [] from rfl]
    refine W_if (ht := fun h2 => ?_) (hf := fun h2 => ?_)
    · rw [if_pos (.inr (by rw [hhd, h2]))] at hR
      refine walk (hQ := ?_)
      exact hR _ (ret2 (hp := rfl))
    · rw [if_neg (by rintro (h | h); omega; rw [hhd] at h; exact h2 (Option.some.inj h))] at hR
      have hM : ∀ w ∈ (L.drop 1).take (L.length - 3), w.length ≤ s.length := fun w hw => hlw w (List.mem_of_mem_drop (List.mem_of_mem_take hw))
      have hMl : ((L.drop 1).take (L.length - 3)).length = L.length - 3 := by rw [List.length_take, List.length_drop]; omega
      have hjl := joinS_len hM
      have hmul : ((L.drop 1).take (L.length - 3)).length * (s.length + 1) ≤ 20001 * 20001 := Nat.mul_le_mul (by omega) (by omega)
      have k2 := s_Join ((L.drop 1).take (L.length - 3)) [32] (by omega) (by omega) (by rw [← joinS_join]; omega)
      rw [← joinS_join] at k2
      have k3 := f_SParse (joinS ((L.drop 1).take (L.length - 3)))
      have k4 := f_Number (L.getD (L.length - 2) [])
      have k5 := s_IndexStr plcs (L.getD (L.length - 1) [])
      generalize prsSd (joinS ((L.drop 1).take (L.length - 3))) = sd at *
      generalize numF (L.getD (L.length - 2) []) = nu at *
      refine walk (hQ := ?_)
      rw [show ((L.length : Int) - 2).toNat - Int.toNat 1 = L.length - 3 by omega, show L.drop (Int.toNat 1) = L.drop 1 from rfl]
      refine R_call k2 (hK := ?_)
      refine walk (hQ := ?_)
      refine R_call k3 (hK := ?_)
      refine walk (hQ := ?_)
      rw [show ((L.length : Int) - 2).toNat = L.length - 2 by omega]
      refine R_call k4 (hK := ?_)
      refine walk (hQ := ?_)
      refine R_call f_places (hK := ?_)
      refine walk (hQ := ?_)
      rw [show ((L.length : Int) - 1).toNat = L.length - 1 by omega]
      generalize ixP (fun y => decide (L.getD (L.length - 1) [] = y)) plcs = z at *
      refine R_call k5 (hK := ?_)
      refine walk (hQ := ?_)
      unfold sgMk at hR
      refine R_g_if (h1 := fun h3 => ?_) (h2 := fun h3 => ?_) <;> simp only [Bool.false_eq_true, if_false, if_true, Decidable.not_not] at h3
      · refine walk (hQ := ?_)
        refine R_g_if (h1 := fun h4 => ?_) (h2 := fun h4 => ?_) <;> simp only [Bool.false_eq_true, if_false, if_true, Decidable.not_not] at h4
        · refine walk (hQ := ?_)
          cases hb : nu.2 with
          | true =>
            refine walk (hQ := ?_)
            refine W_if (ht := fun h5 => ?_) (hf := fun h5 => ?_)
            · rw [if_pos (.inl h5)] at hR
              refine walk (hQ := ?_)
              exact hR _ (ret2 (hp := rfl))
            · rw [if_neg (by rintro (h | h | h | h); exact h5 h; exact h h3; exact h4 (by rw [h]; rfl); rw [hb] at h; cases h)] at hR
              refine walk (hQ := ?_)
              trace_state
              exact hR _ (ret2 (hp := rfl))
          | false =>
            rw [if_pos (.inr (.inr (.inr hb)))] at hR
            refine walk (hQ := ?_)
            exact hR _ (ret2 (hp := rfl))
        · rw [if_pos (.inr (.inr (.inl (List.eq_nil_of_length_eq_zero (by omega)))))] at hR
          refine walk (hQ := ?_)
          cases hb : nu.2 <;> refine walk (hQ := ?_) <;> exact hR _ (ret2 (hp := rfl))
      · rw [if_pos (.inr (.inl h3))] at hR
        refine walk (hQ := ?_)
        cases hb : nu.2 <;> refine walk (hQ := ?_) <;> exact hR _ (ret2 (hp := rfl))
  · rw [if_pos (.inl (by omega))] at hR
    refine walk (hQ := ?_)
    exact hR _ (ret2 (hp := rfl))
end Go.VS.YtekfjbjdlenhoaaGreatDoor

