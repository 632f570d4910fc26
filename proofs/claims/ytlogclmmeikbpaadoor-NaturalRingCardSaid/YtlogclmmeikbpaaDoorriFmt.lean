/- The contract of natural.Format. It holds where the world holds strconv's table (GL). -/
import Derived.Test.YtlogclmmeikbpaaDoorriGiven
namespace Go.Proofs.YtlogclmmeikbpaaDoor.Given
open Go.RowKit Go.Proofs.YtlogclmmeikbpaaDoorW.PrintWords Go.Proofs.YtlogclmmeikbpaaDoorW.PrintLast Go.Proofs.YtlogclmmeikbpaaDoorW.PrintMore Go.Proofs.YtlogclmmeikbpaaDoor Go.Proofs.YtlogclmmeikbpaaDoor.P
set_option linter.unusedVariables false

/-- A digit's four places. -/
def pad4 (d : Int) : List UInt8 := ([48, 48, 48, 48] : List UInt8).drop (Lib.itoa d).length ++ Lib.itoa d
def fmtL (l : List Int) : List UInt8 := match l.reverse with
  | [] => [48]
  | d :: r => Lib.itoa d ++ r.flatMap pad4
def natural_Format.f (l0_0 : List Int) : Option (ByteArray × Int) := if validB l0_0 = true then some (⟨(fmtL l0_0).toArray⟩, 0) else some (⟨#[]⟩, 1)

theorem itoa_len (d : Int) (h0 : 0 ≤ d) (h1 : d < 10000) : (Lib.itoa d).length ≤ 4 := by
  unfold Lib.itoa
  rw [if_neg (by omega)]
  obtain ⟨n, rfl⟩ := Int.eq_ofNat_of_zero_le h0
  rw [Int.toNat_natCast]
  have hn : n < 10000 := by omega
  unfold Lib.decDigits; split
  · simp
  unfold Lib.decDigits; split
  · simp
  unfold Lib.decDigits; split
  · simp
  unfold Lib.decDigits; split
  · simp
  omega
theorem pad4_len (d : Int) (h0 : 0 ≤ d) (h1 : d < 10000) : (pad4 d).length = 4 := by
  have := itoa_len d h0 h1
  unfold pad4
  simp
  omega
theorem valid_digits {l : List Int} (h : validB l = true) : l.length ≤ 200 ∧ ∀ d ∈ l, 0 ≤ d ∧ d < 10000 := by
  unfold validB at h
  simp only [Bool.and_eq_true, decide_eq_true_eq, List.all_eq_true] at h
  exact ⟨h.1.1, h.2⟩
theorem flat_len (r : List Int) (h : ∀ d ∈ r, 0 ≤ d ∧ d < 10000) : (r.flatMap pad4).length = 4 * r.length := by
  induction r with
  | nil => rfl
  | cons d r ih =>
    rw [List.flatMap_cons, List.length_append, ih (fun x hx => h x (List.mem_cons_of_mem _ hx)), pad4_len d (h d (by simp)).1 (h d (by simp)).2, List.length_cons]
    omega
theorem box_below (w w1 : World) (o : Obj) (hb : Below (w.alloc o).heap.size (w.alloc o) w1) : Below w.heap.size w w1 := below_then ((Below.refl _ _).alloc (Nat.le_refl _) _) (by simp) hb

theorem pad_str (d : Int) : (({ data := #[48, 48, 48, 48] } : ByteArray).extract (Lib.itoa d).length 4 ++ { data := (Lib.itoa d).toArray }).data.toList = pad4 d := by
  unfold pad4
  rw [ByteArray.data_append, Array.toList_append, Lib.extract_data]
  have h : (List.drop (Lib.itoa d).length ([48, 48, 48, 48] : List UInt8)).length ≤ 4 - (Lib.itoa d).length := by simp
  show List.take _ (List.drop _ [48, 48, 48, 48]) ++ _ = _
  rw [List.take_of_length_le h]
theorem size_list (l : List UInt8) (n : Nat) (h : l.length ≤ n) : (⟨l.toArray⟩ : ByteArray).size ≤ n := h
/-- The text behind j rounds. -/
def fmtTo (l : List Int) (j : Nat) : List UInt8 := Lib.itoa (l.getD (l.length - 1) 0) ++ ((l.reverse.drop 1).take j).flatMap pad4
theorem fmtTo_end (l : List Int) (h0 : 0 < l.length) : fmtTo l (l.length - 1) = fmtL l := by
  unfold fmtTo fmtL
  cases hr : l.reverse with
  | nil => have h9 : l.reverse.length = 0 := by rw [hr]; rfl
           rw [List.length_reverse] at h9; omega
  | cons d r =>
    have hl : l.length = r.length + 1 := by have := congrArg List.length hr; simpa using this
    have hd : l.getD (l.length - 1) 0 = d := by
      have h1 : l = (d :: r).reverse := by rw [← hr, List.reverse_reverse]
      rw [h1]
      simp
    rw [hd]
    simp only [List.drop_succ_cons, List.drop_zero]
    rw [List.take_of_length_le (by omega)]
theorem fmtTo_succ (l : List Int) (j : Nat) (hj : j + 1 < l.length) : fmtTo l (j + 1) = fmtTo l j ++ pad4 (l.getD (l.length - 2 - j) 0) := by
  unfold fmtTo
  have hlen : (l.reverse.drop 1).length = l.length - 1 := by simp
  rw [List.take_add_one, List.flatMap_append, List.append_assoc]
  congr 2
  have hx : (l.reverse.drop 1)[j]? = some (l.getD (l.length - 2 - j) 0) := by
    rw [List.getElem?_drop, List.getElem?_reverse (by omega), List.getD_eq_getElem?_getD, List.getElem?_eq_getElem (by omega), List.getElem?_eq_getElem (by omega)]
    simp
    congr 1
    omega
  rw [hx]
  simp
theorem getD_mem (l : List Int) (j : Nat) (h : j < l.length) : l.getD j 0 ∈ l := by
  rw [List.getD_eq_getElem?_getD, List.getElem?_eq_getElem h]
  simp
theorem fmtTo_len (l : List Int) (hd : ∀ d ∈ l, 0 ≤ d ∧ d < 10000) (h0 : 0 < l.length) (j : Nat) : (fmtTo l j).length ≤ 4 + 4 * j := by
  unfold fmtTo
  have h1 := hd _ (getD_mem l (l.length - 1) (by omega))
  have h2 := itoa_len _ h1.1 h1.2
  rw [List.length_append, flat_len _ (fun d hx => hd d (List.mem_reverse.1 (List.mem_of_mem_drop (List.mem_of_mem_take hx))))]
  have : ((l.reverse.drop 1).take j).length ≤ j := List.length_take_le _ _
  omega
set_option maxHeartbeats 4000000 in
set_option maxRecDepth 1000000 in
theorem format_main (b off c0_0 : Nat) (l0_0 : List Int) (w : World) (hr0_0 : Kd.C (Kd.int .i64) w (some ⟨b, off, none⟩) l0_0.length l0_0) (hc0_0 : l0_0.length ≤ c0_0) (hG : GL w) (hv : validB l0_0 = true) (hl : l0_0.length ≤ 200) (hd : ∀ d ∈ l0_0, 0 ≤ d ∧ d < 10000) (h0 : 0 < l0_0.length)
    (hc : ∀ j, j < l0_0.length → w.cell? ⟨b, off + j, none⟩ = some (.int .i64 (l0_0.getD j 0))) :
    Calls Tryd.prog 18 #[.agg #[.slice (some ⟨b, off, none⟩) l0_0.length c0_0]] w fun e w' => e = .returned (.tuple #[.string ⟨(fmtL l0_0).toArray⟩, .int .i64 0]) ∧ Below w.heap.size w w' := by
  have hc1 := fun (W : World) (hb : Below w.heap.size w W) => natural_Valid.calls (some ⟨b, off, none⟩) c0_0 l0_0 true W (Kd.C_below hr0_0 hb) hc0_0 (by rw [natural_Valid.f, hv])
  have hlen : (l0_0.length == 0) = false := beq_eq_false_iff_ne.2 (by omega)
  have hlen2 : ((l0_0.length : Int) == 0) = false := beq_eq_false_iff_ne.2 (by omega)
  have HV := Aside0.mk hv
  have HD := Aside0.mk hd
  have HC := Aside0.mk hc
  clear hv hd hc
  go_enter Tryd.func18, Tryd.ntmps18
  go_upto_region 7 with (go_at_call 24; refine (hc1 _ ((Below.refl _ _).alloc (Nat.le_refl _) _)).mono ?_; rintro e w1 ⟨rfl, hb⟩; have hbox := pw_cell_below hb (show (w.alloc (.cells #[.slice (some ⟨b, off, none⟩) l0_0.length c0_0] 24)).cell? ⟨w.heap.size, 0, none⟩ = some (.slice (some ⟨b, off, none⟩) l0_0.length c0_0) by simp); have hsz : w.heap.size < w1.heap.size := by (have := hb.size; simp at this; omega))
  have hbw : Below w.heap.size w w1 := box_below _ _ _ hb
  have hG1 := hG.below hbw
  have HC1 : ∀ j, j < l0_0.length → w1.cell? ⟨b, off + j, none⟩ = some (.int .i64 (l0_0.getD j 0)) := fun j hj => pw_cell_below hbw (HC.out j hj)
  have HBL := Tryd.Bld.new w1
  have hbox3 := pw_cell_below HBL.2 hbox
  have hlast := pw_cell_below HBL.2 (HC1 (l0_0.length - 1) (by omega))
  have hdl := HD.out _ (getD_mem l0_0 (l0_0.length - 1) (by omega))
  have H1 := Aside0.mk HC1
  have Hbx := Aside0.mk hbox
  clear HC1 hbox HC hb hc1 hr0_0
  have hidx : ((l0_0.length : Int) - 1).toNat = l0_0.length - 1 := by omega
  have hil := itoa_len _ hdl.1 hdl.2
  have Hst : Aside0 (([] : List UInt8) ++ Lib.itoa (l0_0.getD (l0_0.length - 1) 0) = fmtTo l0_0 0) := ⟨by simp [fmtTo]⟩
  generalize l0_0.getD (l0_0.length - 1) 0 = d0 at hlast hdl hil Hst
  obtain ⟨hd1, hd2⟩ := hdl
  have hsz0 : (⟨(Lib.itoa d0).toArray⟩ : ByteArray).size ≤ 4 := size_list _ _ hil
  go_wp2_with (first | (go_at_call 47; refine (Tryd.itoa_below d0 (by omega) (by omega) _ (hG1.below HBL.2)).mono ?_; rintro e w4 ⟨rfl, hb4⟩; have HB4 := HBL.step hb4) | (go_at_call 46; refine (HB4.write _ (by simp only [List.length_nil]; omega)).mono ?_; rintro e w5 ⟨rfl, HB5⟩))
  rw [Hst.out] at HB5
  have HB5' := Aside0.mk HB5
  clear HB5 HB4 hb4 hlast hil hsz0 hd1 hd2 hbox3 HBL Hst
  go_loopw [6] (fun i wr => ∃ z : Int, -1 ≤ z ∧ z + 2 ≤ l0_0.length ∧ i = .int .i64 z ∧ Aside0 (Tryd.Bld w1 (fmtTo l0_0 ((l0_0.length : Int) - 2 - z).toNat) wr)) (fun i _ => (intOf i + 1).toNat)
  case atStart => exact ⟨(l0_0.length : Int) - 1 - 1, by omega, by omega, rfl, by rw [show ((l0_0.length : Int) - 2 - ((l0_0.length : Int) - 1 - 1)).toNat = 0 from by omega]; exact HB5'⟩
  case round =>
    obtain ⟨z, hz1, hz2, rfl, HB⟩ := hrel
    by_cases hz : 0 ≤ z
    · obtain ⟨p, rfl⟩ := Int.eq_ofNat_of_zero_le hz
      have hp : p < l0_0.length := by omega
      have hcell := pw_cell_below HB.out.2 (H1.out p hp)
      have hbx := pw_cell_below HB.out.2 Hbx.out
      have hdl := HD.out _ (getD_mem l0_0 p hp)
      have hil := itoa_len _ hdl.1 hdl.2
      have hlen4 : (fmtTo l0_0 ((l0_0.length : Int) - 2 - p).toNat).length ≤ 4 + 4 * ((l0_0.length : Int) - 2 - p).toNat := fmtTo_len l0_0 HD.out h0 _
      have Hst : Aside0 (fmtTo l0_0 ((l0_0.length : Int) - 2 - (p - 1)).toNat = fmtTo l0_0 ((l0_0.length : Int) - 2 - p).toNat ++ pad4 (l0_0.getD p 0)) := ⟨by
        have := fmtTo_succ l0_0 ((l0_0.length : Int) - 2 - p).toNat (by omega)
        rw [show ((l0_0.length : Int) - 2 - p).toNat + 1 = ((l0_0.length : Int) - 2 - (p - 1)).toNat from by omega, show l0_0.length - 2 - ((l0_0.length : Int) - 2 - p).toNat = p from by omega] at this
        exact this⟩
      generalize hgen : l0_0.getD p 0 = d at hcell hdl hil Hst
      clear hgen
      obtain ⟨hd1, hd2⟩ := hdl
      have hsz : (⟨(Lib.itoa d).toArray⟩ : ByteArray).size ≤ 4 := size_list _ _ hil
      have HL4 := Aside0.mk hlen4
      clear hlen4
      go_wp2_with (first | (go_at_call 47; refine (Tryd.itoa_below d (by omega) (by omega) _ (hG1.below HB.out.2)).mono ?_; rintro e w4 ⟨rfl, hb4⟩; have HB4 := HB.out.step hb4))
      have hs1 : (({ data := #[48, 48, 48, 48] } : ByteArray).extract (Lib.itoa d).length 4 ++ { data := (Lib.itoa d).toArray }).data.toList = pad4 d := pad_str _
      have hs2 : (({ data := #[48, 48, 48, 48] } : ByteArray).extract (Lib.itoa d).length 4 ++ { data := (Lib.itoa d).toArray }).size ≤ 8 := by
        have h1 : (({ data := #[48, 48, 48, 48] } : ByteArray).extract (Lib.itoa d).length 4 ++ { data := (Lib.itoa d).toArray }).data.toList.length = (pad4 d).length := by rw [hs1]
        rw [Array.length_toList] at h1
        show _ ≤ 8
        have h2 := pad4_len d hd1 hd2
        have h3 : (({ data := #[48, 48, 48, 48] } : ByteArray).extract (Lib.itoa d).length 4 ++ { data := (Lib.itoa d).toArray }).size = (pad4 d).length := h1
        omega
      have h5 := HL4.out
      refine (HB4.write _ (by omega)).mono ?_
      rintro e w5 ⟨rfl, HB5⟩
      rw [hs1, ← Hst.out] at HB5
      have HB5' := Aside0.mk HB5
      clear HB5 h5 hs1 hs2 HB4 hb4 hcell hbx hil hsz HL4 Hst hd1 hd2
      go_wp2
      go_roundw
      case rel => exact ⟨(p : Int) - 1, by omega, by omega, rfl, HB5'⟩
      case measure => simp [intOf]
    · obtain rfl : z = -1 := by omega
      have HB' : Aside0 (Tryd.Bld w1 (fmtL l0_0) wr) := ⟨by
        have := HB.out
        rw [show ((l0_0.length : Int) - 2 - (-1)).toNat = l0_0.length - 1 from by omega, fmtTo_end l0_0 h0] at this
        exact this⟩
      clear HB
      go_wp2_with (go_at_call 48; refine HB'.out.string.mono ?_; rintro e w6 ⟨rfl, HB6⟩)
      go_ret2
      exact ⟨rfl, below_then hbw (Below.size hbw) HB6.2⟩
set_option maxHeartbeats 4000000 in
set_option maxRecDepth 1000000 in
theorem natural_Format.calls (A0_0 : Option Addr) (c0_0 : Nat) (l0_0 : List Int) (r1 : ByteArray) (r2 : Int) (w : World) (hr0_0 : Kd.C (Kd.int .i64) w A0_0 l0_0.length l0_0) (hc0_0 : l0_0.length ≤ c0_0) (hG : GL w) (h : natural_Format.f l0_0 = some (r1, r2)) :
    Calls Tryd.prog 18 #[.agg #[.slice A0_0 l0_0.length c0_0]] w fun e w' => e = .returned (.tuple #[.string r1, .int .i64 r2]) ∧ Below w.heap.size w w' := by
  have hm := Kd.C_max hr0_0
  by_cases hv : validB l0_0 = true
  · rw [natural_Format.f, if_pos hv] at h
    simp only [Option.some.injEq, Prod.mk.injEq] at h
    obtain ⟨rfl, rfl⟩ := h
    obtain ⟨hl, hd⟩ := valid_digits hv
    rcases read_ints hr0_0 with rfl | ⟨b, off, rfl, hc⟩
    · have hc1 := fun (W : World) (hb : Below w.heap.size w W) => natural_Valid.calls A0_0 c0_0 [] true W (Kd.C_below hr0_0 hb) hc0_0 rfl
      clear hd hv
      go_enter Tryd.func18, Tryd.ntmps18
      go_wp2_with (go_at_call 24; refine (hc1 _ ((Below.refl _ _).alloc (Nat.le_refl _) _)).mono ?_; rintro e w1 ⟨rfl, hb⟩; have hbox := pw_cell_below hb (show (w.alloc (.cells #[.slice A0_0 ([] : List Int).length c0_0] 24)).cell? ⟨w.heap.size, 0, none⟩ = some (.slice A0_0 ([] : List Int).length c0_0) by simp))
      go_ret2
      exact ⟨rfl, box_below _ _ _ hb⟩
    · have hc1 := fun (W : World) (hb : Below w.heap.size w W) => natural_Valid.calls (some ⟨b, off, none⟩) c0_0 l0_0 true W (Kd.C_below hr0_0 hb) hc0_0 (by rw [natural_Valid.f, hv])
      rcases Nat.eq_zero_or_pos l0_0.length with h0 | h0
      · obtain rfl : l0_0 = [] := List.eq_nil_of_length_eq_zero h0
        clear hd hv
        go_enter Tryd.func18, Tryd.ntmps18
        go_wp2_with (go_at_call 24; refine (hc1 _ ((Below.refl _ _).alloc (Nat.le_refl _) _)).mono ?_; rintro e w1 ⟨rfl, hb⟩; have hbox := pw_cell_below hb (show (w.alloc (.cells #[.slice (some ⟨b, off, none⟩) ([] : List Int).length c0_0] 24)).cell? ⟨w.heap.size, 0, none⟩ = some (.slice (some ⟨b, off, none⟩) ([] : List Int).length c0_0) by simp))
        go_ret2
        exact ⟨rfl, box_below _ _ _ hb⟩
      · exact format_main b off c0_0 l0_0 w hr0_0 hc0_0 hG hv hl hd h0 hc
  · rw [natural_Format.f, if_neg hv] at h
    simp only [Option.some.injEq, Prod.mk.injEq] at h
    obtain ⟨rfl, rfl⟩ := h
    have hv' : validB l0_0 = false := by simpa using hv
    clear hv
    have hc1 := fun (W : World) (hb : Below w.heap.size w W) => natural_Valid.calls A0_0 c0_0 l0_0 false W (Kd.C_below hr0_0 hb) hc0_0 (by rw [natural_Valid.f, hv'])
    go_enter Tryd.func18, Tryd.ntmps18
    go_wp2_with (go_at_call 24; refine (hc1 _ ((Below.refl _ _).alloc (Nat.le_refl _) _)).mono ?_; rintro e w1 ⟨rfl, hb⟩)
    go_ret2
    exact ⟨rfl, box_below _ _ _ hb⟩
end Go.Proofs.YtlogclmmeikbpaaDoor.Given

