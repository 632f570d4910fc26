/- Contracts over whole values, and what they lean on: part k. Each holds under the conditions that it states. -/
import Derived.Test.YtekfjbjdlenhoaaGreatDoorZj
set_option linter.unusedVariables false
set_option linter.unusedSimpArgs false

namespace Go.VS.YtekfjbjdlenhoaaGreatDoor
open Go Go.VL Go.VN Go.RowKit Go.Proofs
set_option maxRecDepth 100000
set_option linter.unusedVariables false
set_option linter.unusedSimpArgs false

theorem f_Fits (o : Ort) (i : Int) (b a : List Snd) : Spc X 13 [orA o, .one (.int .i64 i), .one (slc eSd b), .one (slc eSd a)] (.one (.bool (fitsO o i b a))) := by
  obtain ⟨nme, l⟩ := o
  refine Spc.start Tryz.func13 rfl (h := fun hs R hR => ?_)
  unfold Tryz.f13
  simp only [entryE, PA.av, eO, List.map_cons, List.map_nil]
  unfold fitsO at hR
  simp only at hR
  have la := (sane_slc hs.2.2.1).1
  have lb := (sane_slc hs.2.2.2.1).1
  refine walk (hQ := ?_)
  refine R_g_if (h1 := fun h1 => ?_) (h2 := fun h1 => ?_) <;> simp only [Bool.false_eq_true, if_false, if_true, Decidable.not_not] at h1
  · refine walk (hQ := ?_)
    refine W_if (ht := fun h2 => ?_) (hf := fun h2 => ?_)
    · rw [if_pos (by omega)] at hR
      refine walk (hQ := ?_)
      exact hR _ (ret1 (hp := rfl))
    rw [if_neg (by omega)] at hR
    refine walk (hQ := ?_)
    refine R_g_if (h1 := fun h3 => ?_) (h2 := fun h3 => ?_) <;> simp only [Bool.false_eq_true, if_false, if_true, Decidable.not_not] at h3
    · have hbg := begs_pos (l := a) (by omega)
      have k1 := f_Nucleus (a.getD 0 default)
      refine walk (hQ := ?_)
      rw [show a.getD (Int.toNat 0) default = a.getD 0 default from rfl]
      generalize a.getD 0 default = x at *
      rw [← hbg] at k1
      cases hb : begs a with
      | true =>
        rw [hb] at k1
        refine R_call k1 (hK := ?_)
        refine walk (hQ := ?_)
        rw [show l.getD i.toNat default = l.getD i.toNat zSg from rfl]
        generalize (l.getD i.toNat zSg).2.2.2 = w at *
        refine W_if (ht := fun w0 => ?_) (hf := fun w0 => ?_)
        · rw [w0, fitW0] at hR
          refine walk (hQ := ?_)
          exact hR _ (ret1 (hp := rfl))
        refine walk (hQ := ?_)
        refine W_if (ht := fun w1 => ?_) (hf := fun w1 => ?_)
        · rw [w1, fitW1, hb] at hR
          refine walk (hQ := ?_)
          exact hR _ (ret1 (hp := rfl))
        refine walk (hQ := ?_)
        refine W_if (ht := fun w2 => ?_) (hf := fun w2 => ?_)
        · rw [w2, fitW2, hb, empty_dec] at hR
          refine walk (hQ := ?_)
          exact hR _ (ret1 (hp := rfl))
        refine walk (hQ := ?_)
        refine W_if (ht := fun w3 => ?_) (hf := fun w3 => ?_)
        · rw [w3, fitW3, hb] at hR
          refine walk (hQ := ?_)
          refine R_g_if (h1 := fun h7 => ?_) (h2 := fun h7 => ?_) <;> simp only [Bool.false_eq_true, if_false, if_true, Decidable.not_not] at h7
          · have he := ends_pos (l := b) (by omega)
            have k2 := f_Nucleus (b.getD (b.length - 1) default)
            rw [he, Bool.true_and] at hR
            refine walk (hQ := ?_)
            rw [show ((b.length : Int) - 1).toNat = b.length - 1 by omega]
            refine walk (hQ := ?_)
            generalize b.getD (b.length - 1) default = y at *
            refine R_call k2 (hK := ?_)
            refine walk (hQ := ?_)
            exact hR _ (ret1 (hp := rfl))
          · rw [ends_nil (l := b) (by omega)] at hR
            refine walk (hQ := ?_)
            exact hR _ (ret1 (hp := rfl))
        refine walk (hQ := ?_)
        refine W_if (ht := fun w4 => ?_) (hf := fun w4 => ?_)
        · rw [w4, fitW4, hb] at hR
          refine walk (hQ := ?_)
          exact hR _ (ret1 (hp := rfl))
        rw [fitWx w0 w1 w2 w3 w4] at hR
        refine walk (hQ := ?_)
        exact hR _ (ret1 (hp := rfl))
      | false =>
        rw [hb] at k1
        refine R_call k1 (hK := ?_)
        refine walk (hQ := ?_)
        rw [show l.getD i.toNat default = l.getD i.toNat zSg from rfl]
        generalize (l.getD i.toNat zSg).2.2.2 = w at *
        refine W_if (ht := fun w0 => ?_) (hf := fun w0 => ?_)
        · rw [w0, fitW0] at hR
          refine walk (hQ := ?_)
          exact hR _ (ret1 (hp := rfl))
        refine walk (hQ := ?_)
        refine W_if (ht := fun w1 => ?_) (hf := fun w1 => ?_)
        · rw [w1, fitW1, hb] at hR
          refine walk (hQ := ?_)
          exact hR _ (ret1 (hp := rfl))
        refine walk (hQ := ?_)
        refine W_if (ht := fun w2 => ?_) (hf := fun w2 => ?_)
        · rw [w2, fitW2, hb, empty_dec] at hR
          refine walk (hQ := ?_)
          exact hR _ (ret1 (hp := rfl))
        refine walk (hQ := ?_)
        refine W_if (ht := fun w3 => ?_) (hf := fun w3 => ?_)
        · rw [w3, fitW3, hb] at hR
          refine walk (hQ := ?_)
          exact hR _ (ret1 (hp := rfl))
        refine walk (hQ := ?_)
        refine W_if (ht := fun w4 => ?_) (hf := fun w4 => ?_)
        · rw [w4, fitW4, hb] at hR
          refine walk (hQ := ?_)
          exact hR _ (ret1 (hp := rfl))
        rw [fitWx w0 w1 w2 w3 w4] at hR
        refine walk (hQ := ?_)
        exact hR _ (ret1 (hp := rfl))
    · have hb := begs_nil (l := a) (by omega)
      refine walk (hQ := ?_)
      rw [show l.getD i.toNat default = l.getD i.toNat zSg from rfl]
      generalize (l.getD i.toNat zSg).2.2.2 = w at *
      refine W_if (ht := fun w0 => ?_) (hf := fun w0 => ?_)
      · rw [w0, fitW0] at hR
        refine walk (hQ := ?_)
        exact hR _ (ret1 (hp := rfl))
      refine walk (hQ := ?_)
      refine W_if (ht := fun w1 => ?_) (hf := fun w1 => ?_)
      · rw [w1, fitW1, hb] at hR
        refine walk (hQ := ?_)
        exact hR _ (ret1 (hp := rfl))
      refine walk (hQ := ?_)
      refine W_if (ht := fun w2 => ?_) (hf := fun w2 => ?_)
      · rw [w2, fitW2, hb, empty_dec] at hR
        refine walk (hQ := ?_)
        exact hR _ (ret1 (hp := rfl))
      refine walk (hQ := ?_)
      refine W_if (ht := fun w3 => ?_) (hf := fun w3 => ?_)
      · rw [w3, fitW3, hb] at hR
        refine walk (hQ := ?_)
        exact hR _ (ret1 (hp := rfl))
      refine walk (hQ := ?_)
      refine W_if (ht := fun w4 => ?_) (hf := fun w4 => ?_)
      · rw [w4, fitW4, hb] at hR
        refine walk (hQ := ?_)
        exact hR _ (ret1 (hp := rfl))
      rw [fitWx w0 w1 w2 w3 w4] at hR
      refine walk (hQ := ?_)
      exact hR _ (ret1 (hp := rfl))
  · rw [if_pos (by omega)] at hR
    refine walk (hQ := ?_)
    exact hR _ (ret1 (hp := rfl))
theorem g_begins (l : List Snd) : Spc X 34 [.one (slc eSd l)] (.one (.bool (begs l))) := by
  refine Spc.start Tryz.func34 rfl (h := fun hs R hR => ?_)
  unfold Tryz.f34
  simp only [entryE, PA.av]
  have la := (sane_slc hs.1).1
  refine walk (hQ := ?_)
  refine R_g_if (h1 := fun h3 => ?_) (h2 := fun h3 => ?_) <;> simp only [Bool.false_eq_true, if_false, if_true, Decidable.not_not] at h3
  · have hbg := begs_pos (l := l) (by omega)
    have k1 := g_Nucleus (l.getD 0 default)
    rw [hbg] at hR
    refine walk (hQ := ?_)
    rw [show l.getD (Int.toNat 0) default = l.getD 0 default from rfl]
    generalize l.getD 0 default = x at *
    refine R_call k1 (hK := ?_)
    refine walk (hQ := ?_)
    exact hR _ (ret1 (hp := rfl))
  · rw [begs_nil (l := l) (by omega)] at hR
    refine walk (hQ := ?_)
    exact hR _ (ret1 (hp := rfl))
theorem g_ends (l : List Snd) : Spc X 35 [.one (slc eSd l)] (.one (.bool (ends l))) := by
  refine Spc.start Tryz.func35 rfl (h := fun hs R hR => ?_)
  unfold Tryz.f35
  simp only [entryE, PA.av]
  have la := (sane_slc hs.1).1
  refine walk (hQ := ?_)
  refine R_g_if (h1 := fun h3 => ?_) (h2 := fun h3 => ?_) <;> simp only [Bool.false_eq_true, if_false, if_true, Decidable.not_not] at h3
  · have hbg := ends_pos (l := l) (by omega)
    have k1 := g_Nucleus (l.getD (l.length - 1) default)
    rw [hbg] at hR
    refine walk (hQ := ?_)
    rw [show ((l.length : Int) - 1).toNat = l.length - 1 by omega]
    refine walk (hQ := ?_)
    generalize l.getD (l.length - 1) default = x at *
    refine R_call k1 (hK := ?_)
    refine walk (hQ := ?_)
    exact hR _ (ret1 (hp := rfl))
  · rw [ends_nil (l := l) (by omega)] at hR
    refine walk (hQ := ?_)
    exact hR _ (ret1 (hp := rfl))
theorem g_Fits (o : Ort) (i : Int) (b a : List Snd) : Spc X 14 [orA o, .one (.int .i64 i), .one (slc eSd b), .one (slc eSd a)] (.one (.bool (fitsO o i b a))) := by
  obtain ⟨nme, l⟩ := o
  refine Spc.start Tryz.func14 rfl (h := fun hs R hR => ?_)
  unfold Tryz.f14
  simp only [entryE, PA.av, eO, List.map_cons, List.map_nil]
  unfold fitsO at hR
  simp only at hR
  have la := (sane_slc hs.2.2.1).1
  have lb := (sane_slc hs.2.2.2.1).1
  refine walk (hQ := ?_)
  refine R_g_if (h1 := fun h1 => ?_) (h2 := fun h1 => ?_) <;> simp only [Bool.false_eq_true, if_false, if_true, Decidable.not_not] at h1
  · refine walk (hQ := ?_)
    refine W_if (ht := fun h2 => ?_) (hf := fun h2 => ?_)
    · rw [if_pos (by omega)] at hR
      refine walk (hQ := ?_)
      exact hR _ (ret1 (hp := rfl))
    rw [if_neg (by omega)] at hR
    refine walk (hQ := ?_)
    rw [show l.getD i.toNat default = l.getD i.toNat zSg from rfl]
    generalize (l.getD i.toNat zSg).2.2.2 = w at *
    refine W_if (ht := fun w0 => ?_) (hf := fun w0 => ?_)
    · rw [w0, fitW0] at hR
      refine walk (hQ := ?_)
      exact hR _ (ret1 (hp := rfl))
    refine walk (hQ := ?_)
    refine W_if (ht := fun w1 => ?_) (hf := fun w1 => ?_)
    · rw [w1, fitW1] at hR
      refine walk (hQ := ?_)
      refine R_call (g_begins a) (hK := ?_)
      refine walk (hQ := ?_)
      exact hR _ (ret1 (hp := rfl))
    refine walk (hQ := ?_)
    refine W_if (ht := fun w2 => ?_) (hf := fun w2 => ?_)
    · rw [w2, fitW2, Bool.and_comm, empty_dec] at hR
      refine walk (hQ := ?_)
      refine R_g_if (h1 := fun h7 => ?_) (h2 := fun h7 => ?_) <;> simp only [Bool.false_eq_true, if_false, if_true, Decidable.not_not] at h7
      · rw [decide_eq_true h7, Bool.true_and] at hR
        refine walk (hQ := ?_)
        refine R_call (g_begins a) (hK := ?_)
        refine walk (hQ := ?_)
        exact hR _ (ret1 (hp := rfl))
      · rw [decide_eq_false h7, Bool.false_and] at hR
        refine walk (hQ := ?_)
        exact hR _ (ret1 (hp := rfl))
    refine walk (hQ := ?_)
    refine W_if (ht := fun w3 => ?_) (hf := fun w3 => ?_)
    · rw [w3, fitW3, Bool.and_comm] at hR
      refine walk (hQ := ?_)
      have k2 := g_ends b
      cases he : ends b with
      | true =>
        rw [he] at k2
        rw [he, Bool.true_and] at hR
        refine R_call k2 (hK := ?_)
        refine walk (hQ := ?_)
        refine R_call (g_begins a) (hK := ?_)
        refine walk (hQ := ?_)
        exact hR _ (ret1 (hp := rfl))
      | false =>
        rw [he] at k2
        rw [he, Bool.false_and] at hR
        refine R_call k2 (hK := ?_)
        refine walk (hQ := ?_)
        exact hR _ (ret1 (hp := rfl))
    refine walk (hQ := ?_)
    refine W_if (ht := fun w4 => ?_) (hf := fun w4 => ?_)
    · rw [w4, fitW4] at hR
      refine walk (hQ := ?_)
      refine R_call (g_begins a) (hK := ?_)
      refine walk (hQ := ?_)
      exact hR _ (ret1 (hp := rfl))
    rw [fitWx w0 w1 w2 w3 w4] at hR
    refine walk (hQ := ?_)
    exact hR _ (ret1 (hp := rfl))
  · rw [if_pos (by omega)] at hR
    refine walk (hQ := ?_)
    exact hR _ (ret1 (hp := rfl))
theorem f_Find (o : Ort) (s : List UInt8) (la : o.2.length ≤ 1000000000000) : Spc X 16 [orA o, .one (.str s)] (.one (slc eI (findL s 0 o.2))) := by
  obtain ⟨nme, l⟩ := o
  refine Spc.start Tryz.func16 rfl (h := fun hs R hR => ?_)
  unfold Tryz.f16
  simp only [entryE, PA.av, eO, List.map_cons, List.map_nil]
  simp only at la
  refine walk (hQ := ?_)
  refine Lp.intro2 (fun (out : List Int) (i : Nat) => ⟨[(1, vS s), (2, .one (.ptr 0 0)), (5, .one (.own 1 1 out.length)), (9, vP (slc eSg l)), (10, vI l.length), (11, vI i)], [(0, (.mx [.pv (.str nme), .pv (slc eSg l)], false)), (1, (.pu 3 (out.flatMap eI), false))], 2⟩) (fun out i => i ≤ l.length ∧ out = findL s 0 (l.take i)) (fun out i => l.length - i) [] 0 ⟨Nat.zero_le _, by simp [findL]⟩ (h0 := le_ghost1 1 3 (hle := le_auto)) (hr := fun out i K ⟨hi, ho⟩ hK => ?_)
  have hol : out.length ≤ l.length := by
    have := findL_len s (l.take i) 0
    rw [← ho, List.length_take] at this
    omega
  refine walk (hQ := ?_)
  refine W_if (ht := fun h4 => ?_) (hf := fun h4 => ?_)
  · have hil : i < l.length := by omega
    have e0 := getD_some hil
    have hn := findL_next (s := s) e0
    rw [← ho] at hn
    refine walk (hQ := ?_)
    generalize l.getD i default = x at *
    obtain ⟨xa, xb, xc, xd⟩ := x
    simp only [eSg, List.map_cons, List.map_nil] at *
    refine walk (hQ := ?_)
    refine W_if (ht := fun h5 => ?_) (hf := fun h5 => ?_)
    · rw [if_pos h5] at hn
      refine walk (hQ := ?_)
      exact hK _ (out ++ [(i : Int)]) (i + 1) ⟨by omega, hn.symm⟩ (by omega) (by rw [List.length_append]; exact le_auto)
    · rw [if_neg h5, List.append_nil] at hn
      refine walk (hQ := ?_)
      exact hK _ out (i + 1) ⟨by omega, hn.symm⟩ (by omega) le_auto
  · obtain rfl : i = l.length := by omega
    rw [List.take_length] at ho
    rw [← ho] at hR
    refine walk (hQ := ?_)
    exact hR _ (ret1 (hp := rfl))
theorem g_Find (o : Ort) (s : List UInt8) (la : o.2.length ≤ 1000000000000) : Spc X 17 [orA o, .one (.str s)] (.one (slc eI (findL s 0 o.2))) := by
  obtain ⟨nme, l⟩ := o
  refine Spc.start Tryz.func17 rfl (h := fun hs R hR => ?_)
  unfold Tryz.f17
  simp only [entryE, PA.av, eO, List.map_cons, List.map_nil]
  simp only at la
  refine walk (hQ := ?_)
  refine Lp.intro2 (fun (out : List Int) (i : Nat) => ⟨[(1, vS s), (2, .one (.ptr 0 0)), (5, .one (.own 1 1 out.length)), (6, vI i)], [(0, (.mx [.pv (.str nme), .pv (slc eSg l)], false)), (1, (.pu 3 (out.flatMap eI), false))], 2⟩) (fun out i => i ≤ l.length ∧ out = findL s 0 (l.take i)) (fun out i => l.length - i) [] 0 ⟨Nat.zero_le _, by simp [findL]⟩ (h0 := le_ghost1 1 3 (hle := le_auto)) (hr := fun out i K ⟨hi, ho⟩ hK => ?_)
  have hol : out.length ≤ l.length := by
    have := findL_len s (l.take i) 0
    rw [← ho, List.length_take] at this
    omega
  refine walk (hQ := ?_)
  refine W_if (ht := fun h4 => ?_) (hf := fun h4 => ?_)
  · have hil : i < l.length := by omega
    have e0 := getD_some hil
    have hn := findL_next (s := s) e0
    rw [← ho] at hn
    refine walk (hQ := ?_)
    generalize l.getD i default = x at *
    refine W_if (ht := fun h5 => ?_) (hf := fun h5 => ?_)
    · rw [if_pos h5] at hn
      refine walk (hQ := ?_)
      exact hK _ (out ++ [(i : Int)]) (i + 1) ⟨by omega, hn.symm⟩ (by omega) (by rw [List.length_append]; exact le_auto)
    · rw [if_neg h5, List.append_nil] at hn
      refine walk (hQ := ?_)
      exact hK _ out (i + 1) ⟨by omega, hn.symm⟩ (by omega) le_auto
  · obtain rfl : i = l.length := by omega
    rw [List.take_length] at ho
    rw [← ho] at hR
    refine walk (hQ := ?_)
    exact hR _ (ret1 (hp := rfl))
end Go.VS.YtekfjbjdlenhoaaGreatDoor


namespace Go.VN
open Go.RowKit Go.VL
set_option maxRecDepth 100000
theorem lat_f1 : fitsO LAT 28 [] (prsSd [97, 47, 118, 51]).1 = true := by decide +kernel
theorem lat_f2 : fitsO LAT 28 [] (prsSd [116, 47, 109]).1 = false := by decide +kernel
theorem lat_f3 : fitsO LAT 28 (prsSd [97, 47, 118, 51]).1 [] = false := by decide +kernel
theorem alp_4 : insL 0 4 [112, 104, 101, 95] = [95, 101, 104, 112] := by
  simp [insL, Go.Sort.insertionSort, Go.Sort.insOuter, Go.Sort.insInner, Go.Sort.swp, ltU]
end Go.VN


namespace Go.VS.YtekfjbjdlenhoaaGreatDoor
open Go Go.VL Go.VN Go.RowKit Go.Proofs
set_option maxRecDepth 100000
set_option linter.unusedVariables false
set_option linter.unusedSimpArgs false

theorem l_awake : Spc X 10 [] (.one (.bool true)) := by
  refine Spc.start Tryz.func10 rfl (h := fun hs R hR => ?_)
  unfold Tryz.f10
  simp only [entryE]
  have k1 := f_Latin
  have ka := l_sounds [97, 47, 118, 51]
  have kt := l_sounds [116, 47, 109]
  have k2 := f_Find LAT [105] (by rw [lat_len.1]; decide)
  have k3 := f_Find LAT [113, 117] (by rw [lat_len.1]; decide)
  have k4 := f_Fits LAT 28 [] (prsSd [97, 47, 118, 51]).1
  have k5 := f_Fits LAT 28 [] (prsSd [116, 47, 109]).1
  have k6 := f_Fits LAT 28 (prsSd [97, 47, 118, 51]).1 []
  have k7 := s_EqualI [2, 22, 23] [2, 22, 23]
  have k8 := s_EqualI [28] [28]
  rw [lat_i] at k2
  rw [lat_qu] at k3
  rw [lat_f1] at k4
  rw [lat_f2] at k5
  rw [lat_f3] at k6
  rw [decide_eq_true rfl] at k7 k8
  have k9 := f_Alphabet ([], [([112, 104], [], 0, 0), ([101, 95], [], 0, 0)]) [95, 101, 104, 112] (by decide) alp_4 (fun i hi => by match i with | 0 => decide | 1 => decide | 2 => decide | n + 3 => exact absurd (show n + 3 + 1 < 4 from hi) (by omega))
  generalize LAT = L at *
  generalize (prsSd [97, 47, 118, 51]).1 = A at *
  generalize (prsSd [116, 47, 109]).1 = T at *
  refine walk (hQ := ?_)
  refine R_call k1 (hK := ?_)
  refine walk (hQ := ?_)
  refine R_call ka (hK := ?_)
  refine walk (hQ := ?_)
  refine R_call kt (hK := ?_)
  refine walk (hQ := ?_)
  refine R_call k2 (hK := ?_)
  refine walk (hQ := ?_)
  refine R_callP (ids' := []) k7 (hK := ?_)
  refine walk (hQ := ?_)
  refine R_call k3 (hK := ?_)
  refine walk (hQ := ?_)
  refine R_callP (ids' := []) k8 (hK := ?_)
  refine walk (hQ := ?_)
  refine R_call k4 (hK := ?_)
  refine walk (hQ := ?_)
  refine R_call k5 (hK := ?_)
  refine walk (hQ := ?_)
  refine R_call k6 (hK := ?_)
  refine walk (hQ := ?_)
  refine R_bsl eSg (l := [([112, 104], [], 0, 0), ([101, 95], [], 0, 0)]) (hK := ?_)
  refine walk (hQ := ?_)
  refine R_callP (ids' := []) k9 (hK := ?_)
  refine walk (hQ := ?_)
  exact hR _ (ret1 (hp := rfl))
end Go.VS.YtekfjbjdlenhoaaGreatDoor


namespace Go.VS.YtekfjbjdlenhoaaGreatDoor
open Go Go.VL Go.VN Go.RowKit Go.Proofs
set_option maxRecDepth 100000
set_option linter.unusedVariables false
set_option linter.unusedSimpArgs false

def sumT (l : List Sgn) : Int := (l.map fun s => (s.1.length : Int)).sum
def fewO (o : Ort) : Bool := if 60 < o.1.length ∨ 130 < o.2.length then false else if (o.2.all fun s => fewS s.2.1 6) = true then decide (sumT o.2 ≤ 1500) else false
theorem sumT_next {l : List Sgn} {i : Nat} {x : Sgn} (h : l[i]? = some x) : sumT (l.take (i + 1)) = sumT (l.take i) + x.1.length := by
  obtain ⟨hi, rfl⟩ := List.getElem?_eq_some_iff.1 h
  unfold sumT
  rw [List.take_succ_eq_append_getElem hi, List.map_append, List.sum_append]; simp
theorem sumT_bd : ∀ {l : List Sgn}, (∀ s ∈ l, s.1.length ≤ 140737488355328) → 0 ≤ sumT l ∧ sumT l ≤ 140737488355328 * l.length
  | [], _ => by simp [sumT]
  | x :: l, h => by
    have ih := sumT_bd (l := l) fun s hs => h s (by simp [hs])
    have := h x (by simp)
    unfold sumT at ih ⊢
    rw [List.map_cons, List.sum_cons, List.length_cons]
    push_cast
    omega
theorem g_Few (o : Ort) (ht : ∀ s ∈ o.2, s.1.length ≤ 140737488355328) : Spc X 11 [orA o] (.one (.bool (fewO o))) := by
  obtain ⟨nme, l⟩ := o
  refine Spc.start Tryz.func11 rfl (h := fun hs R hR => ?_)
  unfold Tryz.f11
  simp only [entryE, PA.av, eO, List.map_cons, List.map_nil]
  unfold fewO at hR
  simp only at hR ht
  refine walk (hQ := ?_)
  refine R_g_if (h1 := fun h1 => ?_) (h2 := fun h1 => ?_) <;> simp only [Bool.false_eq_true, if_false, if_true, Decidable.not_not] at h1
  · refine walk (hQ := ?_)
    refine W_if (ht := fun h2 => ?_) (hf := fun h2 => ?_)
    · rw [if_pos (by omega)] at hR
      refine walk (hQ := ?_)
      exact hR _ (ret1 (hp := rfl))
    rw [if_neg (by omega)] at hR
    refine walk (hQ := ?_)
    refine Lp.intro (fun (i : Nat) => ⟨[(1, .one (.ptr 0 0)), (3, vI (sumT (l.take i))), (4, vI i)], [(0, (.mx [.pv (.str nme), .pv (slc eSg l)], false))], 1⟩) (fun i => i ≤ l.length ∧ ∀ s ∈ l.take i, fewS s.2.1 6 = true) (fun i => l.length - i) 0 ⟨Nat.zero_le _, by simp⟩ (h0 := le_auto) (hr := fun i K ⟨hi, ho⟩ hK => ?_)
    have hsb := sumT_bd (l := l.take i) fun s hs => ht s (List.mem_of_mem_take hs)
    rw [List.length_take, Nat.min_eq_left hi] at hsb
    refine walk (hQ := ?_)
    refine W_if (ht := fun h3 => ?_) (hf := fun h3 => ?_)
    · have hil : i < l.length := by omega
      have e0 := getD_some hil
      have k1 := g_SFew (l.getD i default).2.1 6
      have hx := ht _ (List.mem_of_getElem? e0)
      have hst := take_succ_all (P := fun s => fewS s.2.1 6 = true) e0 ho
      have hsum := sumT_next e0
      have hbd : fewS (l.getD i default).2.1 6 = false → ¬ (l.all fun s => fewS s.2.1 6) = true := fun h h2 => by
        have := List.all_eq_true.1 h2 _ (List.mem_of_getElem? e0)
        rw [h] at this; cases this
      refine walk (hQ := ?_)
      cases hf : fewS (l.getD i default).2.1 6 with
      | true =>
        rw [hf] at k1
        refine R_call k1 (hK := ?_)
        refine walk (hQ := ?_)
        refine hK _ (i + 1) ⟨by omega, hst hf⟩ (by omega) ?_
        rw [hsum]
        exact le_auto
      | false =>
        rw [hf] at k1
        rw [if_neg (hbd hf)] at hR
        refine R_call k1 (hK := ?_)
        refine walk (hQ := ?_)
        exact hR _ (ret1 (hp := rfl))
    · obtain rfl : i = l.length := by omega
      rw [List.take_length] at ho ⊢
      rw [if_pos (List.all_eq_true.2 ho)] at hR
      refine walk (hQ := ?_)
      exact hR _ (ret1 (hp := rfl))
  · rw [if_pos (by omega)] at hR
    refine walk (hQ := ?_)
    exact hR _ (ret1 (hp := rfl))
end Go.VS.YtekfjbjdlenhoaaGreatDoor


namespace Go.VS.YtekfjbjdlenhoaaGreatDoor
open Go Go.VL Go.VN Go.RowKit Go.Proofs
set_option maxRecDepth 100000
set_option linter.unusedVariables false
set_option linter.unusedSimpArgs false

theorem law_Valid (o : Ort) (ht : ∀ s ∈ o.2, s.1.length ≤ 140737488355328) : Spc X 6 [orA o] (.one (.bool true)) := by
  refine Spc.start Tryz.func6 rfl (h := fun hs R hR => ?_)
  unfold Tryz.f6
  simp only [entryE]
  have k1 := g_Few o ht
  have k2 := f_OValid o
  have k3 := g_OValid o
  generalize fewO o = w at *
  generalize chkO o = c at *
  obtain ⟨nme, l⟩ := o
  simp only [PA.av, eO, List.map_cons, List.map_nil] at *
  refine walk (hQ := ?_)
  refine R_call l_awake (hK := ?_)
  refine walk (hQ := ?_)
  refine R_call k1 (hK := ?_)
  refine walk (hQ := ?_)
  cases w with
  | false =>
    refine walk (hQ := ?_)
    refine R_call l_awake (hK := ?_)
    refine walk (hQ := ?_)
    exact hR _ (ret1 (hp := rfl))
  | true =>
    refine walk (hQ := ?_)
    refine R_call k2 (hK := ?_)
    refine walk (hQ := ?_)
    refine R_call k3 (hK := ?_)
    refine walk (hQ := ?_)
    rw [decide_eq_true (show c.2 = c.2 from rfl)]
    refine walk (hQ := ?_)
    exact hR _ (ret1 (hp := rfl))
theorem law_Fits (o : Ort) (i : Int) (b a : List Snd) (ht : ∀ s ∈ o.2, s.1.length ≤ 140737488355328) : Spc X 3 [orA o, .one (.int .i64 i), .agg [slc eSd b, slc eSd a]] (.one (.bool true)) := by
  refine Spc.start Tryz.func3 rfl (h := fun hs R hR => ?_)
  unfold Tryz.f3
  simp only [entryE]
  have k1 := g_Few o ht
  have k2 := g_SFew b 20
  have k3 := g_SFew a 20
  have k4 := f_Fits o i b a
  have k5 := g_Fits o i b a
  generalize fewO o = w at *
  generalize fewS b 20 = wb at *
  generalize fewS a 20 = wa at *
  generalize fitsO o i b a = c at *
  obtain ⟨nme, l⟩ := o
  simp only [PA.av, eO, List.map_cons, List.map_nil] at *
  refine walk (hQ := ?_)
  refine R_call l_awake (hK := ?_)
  refine walk (hQ := ?_)
  refine R_call k1 (hK := ?_)
  refine walk (hQ := ?_)
  cases w with
  | false =>
    refine walk (hQ := ?_)
    refine R_call l_awake (hK := ?_)
    refine walk (hQ := ?_)
    exact hR _ (ret1 (hp := rfl))
  | true =>
  refine walk (hQ := ?_)
  refine R_call k2 (hK := ?_)
  refine walk (hQ := ?_)
  cases wb with
  | false =>
    refine walk (hQ := ?_)
    refine R_call l_awake (hK := ?_)
    refine walk (hQ := ?_)
    exact hR _ (ret1 (hp := rfl))
  | true =>
  refine walk (hQ := ?_)
  refine R_call k3 (hK := ?_)
  refine walk (hQ := ?_)
  cases wa with
  | false =>
    refine walk (hQ := ?_)
    refine R_call l_awake (hK := ?_)
    refine walk (hQ := ?_)
    exact hR _ (ret1 (hp := rfl))
  | true =>
  refine walk (hQ := ?_)
  refine R_call k4 (hK := ?_)
  refine walk (hQ := ?_)
  refine R_call k5 (hK := ?_)
  refine walk (hQ := ?_)
  rw [decide_eq_true (show c = c from rfl)]
  refine walk (hQ := ?_)
  exact hR _ (ret1 (hp := rfl))
abbrev DSd := (Dec.i64.pair (Dec.i64.pair Dec.str)).map (γ := Snd) (f := eSd) (C := fun s => s.2.2.length ≤ 140737488351232) (fun x h => ⟨x, rfl, h.2.2⟩)
abbrev DSg := (Dec.str.pair ((Dec.sl DSd (b := 32)).pair (Dec.i64.pair Dec.i64))).map (γ := Sgn) (f := eSg) (C := fun s => s.1.length ≤ 140737488351232 ∧ s.2.1.length * 32 ≤ 140737488351232 ∧ ∀ x ∈ s.2.1, x.2.2.length ≤ 140737488351232) (fun x h => ⟨x, rfl, h.1, h.2.1⟩)
abbrev DO := (Dec.str.pair (Dec.sl DSg (b := 56))).map (γ := Ort) (f := eO) (C := fun o => o.1.length ≤ 140737488351232 ∧ o.2.length * 56 ≤ 140737488351232 ∧ ∀ s ∈ o.2, s.1.length ≤ 140737488351232) (fun x h => ⟨x, rfl, h.1, h.2.1, fun s hs => (h.2.2 s hs).1⟩)
end Go.VS.YtekfjbjdlenhoaaGreatDoor

