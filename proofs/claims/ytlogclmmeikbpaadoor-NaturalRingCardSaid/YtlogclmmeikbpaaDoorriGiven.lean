/- Contracts of the functions that the printed texts take as given: slices.Clone, strings.Trim, strconv.Atoi (out of the library's contracts), natural.Valid. Each holds where its Lean function gives an answer. -/
import Derived.Test.YtlogclmmeikbpaaDoorriPx0
import Derived.Test.YtlogclmmeikbpaaDoorriShelf
namespace Go.Proofs.YtlogclmmeikbpaaDoor.Given
open Go.RowKit Go.Proofs.YtlogclmmeikbpaaDoorW.PrintWords Go.Proofs.YtlogclmmeikbpaaDoorW.PrintLast Go.Proofs.YtlogclmmeikbpaaDoorW.PrintMore Go.Proofs.YtlogclmmeikbpaaDoor Go.Proofs.YtlogclmmeikbpaaDoor.P
set_option linter.unusedVariables false

theorem spot_of_cell {w : World} {ad : Addr} {v : Value} (h : w.cell? (ad.add 0) = some v) : ad = ⟨ad.block, ad.off, none⟩ := by
  have e : ad.add 0 = ad := by simp [Addr.add]
  rw [e] at h
  obtain ⟨b, o, s⟩ := ad
  cases s with
  | none => rfl
  | some k =>
    unfold World.cell? at h
    split at h <;> simp at h
theorem add_none (b o j : Nat) : (⟨b, o, none⟩ : Addr).add j = ⟨b, o + j, none⟩ := by unfold Addr.add; split <;> simp_all
/-- What a read slice of ints is in the library's contracts' words. -/
theorem read_ints {w : World} {A : Option Addr} {l : List Int} (h : Kd.C (Kd.int .i64) w A l.length l) : l = [] ∨ ∃ b off, A = some ⟨b, off, none⟩ ∧ ∀ j, j < l.length → w.cell? ⟨b, off + j, none⟩ = some (.int .i64 (l.getD j 0)) := by
  have h2 := Kd.reads_of_C (d := (0 : Int)) h
  rcases Nat.eq_zero_or_pos l.length with h0 | h0
  · exact .inl (List.eq_nil_of_length_eq_zero h0)
  · obtain ⟨ad, e, hc⟩ := h2.2.2 h0
    have hs := spot_of_cell (hc 0 h0)
    refine .inr ⟨ad.block, ad.off, by rw [e, ← hs], fun j hj => ?_⟩
    have := hc j hj
    rwa [hs, add_none] at this

def slices_Clone_int_int.f (l0 : List Int) : Option (List Int) := if l0.length ≤ 17592186044416 then some l0 else none
set_option maxHeartbeats 1000000 in
theorem slices_Clone_int_int.calls (A0 : Option Addr) (c0 : Nat) (l0 : List Int) (r : List Int) (w : World) (hr0 : Kd.C (Kd.int .i64) w A0 l0.length l0) (hc0 : l0.length ≤ c0) (h : slices_Clone_int_int.f l0 = some r) :
    Calls Tryd.prog 43 #[.slice A0 l0.length c0] w fun e w' => ∃ v0_ : Value, e = .returned (v0_) ∧ Kd.R (Kd.int .i64) 3 w' w.heap.size (fun _ => True) v0_ r ∧ Below w.heap.size w w' := by
  unfold slices_Clone_int_int.f at h
  split at h
  · rename_i hl
    obtain rfl := Option.some.inj h
    rcases read_ints hr0 with rfl | ⟨b, off, rfl, hc⟩
    · cases A0 with
      | none => exact (Tryd.slices_Clone_int_nil 0 c0 w).mono fun e w' ⟨he, hw⟩ => ⟨_, he, by subst hw; exact ⟨Kd.R_nil _ _ _ _ _, Below.refl _ _⟩⟩
      | some a => exact (Tryd.slices_Clone_int_zero a c0 w).mono fun e w' ⟨v, he, ho, _, hb⟩ => ⟨v, he, Kd.R_of_own (by simpa [encs] using ho) (fun _ _ => trivial), hb⟩
    · exact (Tryd.slices_Clone_int b off l0.length c0 l0 w (Nat.le_refl _) (by omega) hc).mono fun e w' ⟨v, he, ho, _, hb⟩ => ⟨v, he, Kd.R_of_own (by simpa [encs] using ho) (fun _ _ => trivial), hb⟩
  · cases h

/-- strings.Trim at a cutset of ASCII. -/
def strings_Trim.f (a0 a1 : ByteArray) : Option ByteArray := if a0.size ≤ 9223372036854775807 ∧ a1.size < 4294967281 ∧ (a1.data.toList.all fun b => decide (b.toNat < 128)) = true then some ⟨(Lib.trimS a0.data.toList a1.data.toList).toArray⟩ else none
theorem strings_Trim.calls (a0 a1 : ByteArray) (r : ByteArray) (w : World) (h : strings_Trim.f a0 a1 = some r) :
    Calls Tryd.prog 49 #[.string a0, .string a1] w fun e w' => e = .returned (.string r) ∧ Below w.heap.size w w' := by
  unfold strings_Trim.f at h
  split at h
  · rename_i hl
    obtain rfl := Option.some.inj h
    exact Any.strings_Trim_laid Tryd.lays160 (by kernel_rfl) a0 a1 w hl.1 hl.2.1 (fun j b hb => by
      have := List.all_eq_true.1 hl.2.2 b (List.mem_of_getElem? hb)
      simpa using this)
  · cases h

/-- strconv.Atoi where it gives a number. -/
def strconv_Atoi.f (a0 : ByteArray) : Option (Int × Option Int) := if a0.size ≤ 9223372036854775806 then (match Lib.atoiAll a0.data.toList with | .ok v => some (v, none) | _ => none) else none
theorem below_bytesWorld (w : World) (e : TypeId) (t : ByteArray) : Below w.heap.size w (Lib.bytesWorld w e t) := bytes_below (Below.refl _ _) (Nat.le_refl _) e t
theorem strconv_Atoi.calls (a0 : ByteArray) (r1 : Int) (r2 : Option Int) (w : World) (h : strconv_Atoi.f a0 = some (r1, r2)) :
    Calls Tryd.prog 50 #[.string a0] w fun e w' => e = .returned (.tuple #[.int .i64 r1, errW r2]) ∧ Below w.heap.size w w' := by
  unfold strconv_Atoi.f at h
  split at h
  · rename_i hl
    split at h
    · rename_i v hv
      simp only [Option.some.injEq, Prod.mk.injEq] at h
      obtain ⟨rfl, rfl⟩ := h
      exact (Tryd.strconv_Atoi_ok a0 hl _ hv w).mono fun e w' ⟨he, hw⟩ => ⟨he, by
        rcases hw with rfl | ⟨t, rfl⟩
        · exact Below.refl _ _
        · exact below_bytesWorld _ _ _⟩
    · cases h
  · cases h

/-- natural.Valid's answer. -/
def validB (l : List Int) : Bool := decide (l.length ≤ 200) && !(l.getLast? == some 0) && l.all fun d => decide (0 ≤ d) && decide (d < 10000)
def badB (d : Int) : Bool := decide (d < 0) || decide (d ≥ 10000)
theorem bad_calls (d : Int) (w : World) : Calls Tryd.prog 54 #[.int .i64 d] w fun e w' => e = .returned (.bool (badB d)) ∧ w' = w := by
  by_cases h : d < 0
  · have e : badB d = true := by simp [badB, h]
    rw [e]
    have hd : decide (d < 0) = true := by simpa using h
    go_enter Tryd.func54, Tryd.ntmps54
    go_wp2
    go_ret
    exact ⟨rfl, rfl⟩
  · have hd : decide (d < 0) = false := by simpa using h
    by_cases h2 : d < 10000
    · have e : badB d = false := by simp [badB, h, h2]
      rw [e]
      have hd2 : decide (10000 ≤ d) = false := by simpa using h2
      go_enter Tryd.func54, Tryd.ntmps54
      go_wp2
      go_ret
      exact ⟨rfl, rfl⟩
    · have e : badB d = true := by unfold badB; rw [decide_eq_true (show d ≥ 10000 by omega)]; simp
      rw [e]
      have hd2 : decide (10000 ≤ d) = true := by simp; omega
      go_enter Tryd.func54, Tryd.ntmps54
      go_wp2
      go_ret
      exact ⟨rfl, rfl⟩
theorem contains_bad (A0 : Option Addr) (c0 : Nat) (l0 : List Int) (w : World) (hr0 : Kd.C (Kd.int .i64) w A0 l0.length l0) :
    Calls Tryd.prog 53 #[.slice A0 l0.length c0, .func (.func 54) #[] #[]] w fun e w' => e = .returned (.bool (l0.any badB)) ∧ ∃ q, w' = w.drewN q := by
  have hm := Kd.C_max hr0
  rcases read_ints hr0 with rfl | ⟨b, off, rfl, hc⟩
  · exact (Tryd.slices_ContainsFunc_empty (α := Int) A0 c0 (.func (.func 54) #[] #[]) w).mono fun e w' ⟨he, hw⟩ => ⟨he, 0, hw⟩
  · have := Tryd.slices_ContainsFunc (Value.int .i64) badB 54 #[] (enters_of Tryd.func54 (by kernel_rfl) rfl) b off l0.length c0 l0 w (fun W x hb => by
      exact (bad_calls x W).mono fun e w' ⟨he, hw⟩ => ⟨he, 0, hw⟩) (Nat.le_refl _) hm (fun j hj => by rw [hc j hj]; simp [List.getD_eq_getElem?_getD, hj])
    simpa using this
theorem any_congr_ {α : Type} (l : List α) (p q : α → Bool) (h : ∀ d, p d = q d) : l.any p = l.any q := by rw [funext h]
def natural_Valid.f (l0_0 : List Int) : Option Bool := some (validB l0_0)
set_option maxHeartbeats 2000000 in
theorem natural_Valid.calls (A0_0 : Option Addr) (c0_0 : Nat) (l0_0 : List Int) (r : Bool) (w : World) (hr0_0 : Kd.C (Kd.int .i64) w A0_0 l0_0.length l0_0) (hc0_0 : l0_0.length ≤ c0_0) (h : natural_Valid.f l0_0 = some r) :
    Calls Tryd.prog 24 #[.agg #[.slice A0_0 l0_0.length c0_0]] w fun e w' => e = .returned (.bool r) ∧ Below w.heap.size w w' := by
  have hr : r = validB l0_0 := (Option.some.inj h).symm
  have hm := Kd.C_max hr0_0
  clear h
  by_cases h200 : 200 < l0_0.length
  · obtain rfl : r = false := by rw [hr]; unfold validB; rw [decide_eq_false (by omega)]; simp
    clear hr
    go_enter Tryd.func24, Tryd.ntmps24
    go_wp2
    go_ret
    exact ⟨rfl, (Below.refl _ _).alloc (Nat.le_refl _) _⟩
  · rcases read_ints hr0_0 with rfl | ⟨b, off, rfl, hc⟩
    · obtain rfl : r = true := by rw [hr]; rfl
      clear hr
      have hcall := fun (W : World) (hb : Below w.heap.size w W) => contains_bad A0_0 c0_0 [] W (Kd.C_below hr0_0 hb)
      go_enter Tryd.func24, Tryd.ntmps24
      go_wp2_with (go_at_call 53; refine (hcall _ ((Below.refl _ _).alloc (Nat.le_refl _) _)).mono ?_; rintro e w' ⟨rfl, q, rfl⟩)
      go_ret
      exact ⟨rfl, pw_below_drewN ((Below.refl _ _).alloc (Nat.le_refl _) _) _⟩
    · rcases Nat.eq_zero_or_pos l0_0.length with h0 | h0
      · obtain rfl : l0_0 = [] := List.eq_nil_of_length_eq_zero h0
        obtain rfl : r = true := by rw [hr]; rfl
        clear hr
        have hcall := fun (W : World) (hb : Below w.heap.size w W) => contains_bad (some ⟨b, off, none⟩) c0_0 [] W (Kd.C_below hr0_0 hb)
        go_enter Tryd.func24, Tryd.ntmps24
        go_wp2_with (go_at_call 53; refine (hcall _ ((Below.refl _ _).alloc (Nat.le_refl _) _)).mono ?_; rintro e w' ⟨rfl, q, rfl⟩)
        go_ret
        exact ⟨rfl, pw_below_drewN ((Below.refl _ _).alloc (Nat.le_refl _) _) _⟩
      · have hcell : (w.alloc (.cells #[.slice (some ⟨b, off, none⟩) l0_0.length c0_0] 24)).cell? ⟨b, off + (l0_0.length - 1), none⟩ = some (.int .i64 (l0_0.getD (l0_0.length - 1) 0)) := pw_cell_below ((Below.refl _ _).alloc (Nat.le_refl _) _) (hc _ (by omega))
        have hlast : l0_0.getLast? = some (l0_0.getD (l0_0.length - 1) 0) := by
          rw [List.getLast?_eq_getElem?, List.getD_eq_getElem?_getD, List.getElem?_eq_getElem (by omega)]; rfl
        generalize hx : l0_0.getD (l0_0.length - 1) 0 = x at hcell hlast
        clear hx
        have h1 : decide (0 < l0_0.length) = true := by simpa using h0
        have h2 : decide (200 < l0_0.length) = false := by simpa using h200
        by_cases hz : x = 0
        · obtain rfl : r = false := by rw [hr]; unfold validB; rw [hlast, hz]; simp
          subst hz
          clear hr hlast
          go_enter Tryd.func24, Tryd.ntmps24
          go_wp2
          go_ret
          exact ⟨rfl, (Below.refl _ _).alloc (Nat.le_refl _) _⟩
        · obtain rfl : r = !(l0_0.any badB) := by
            rw [hr]; unfold validB; rw [hlast, decide_eq_true (show l0_0.length ≤ 200 by omega)]
            have hz2 : (some x == some (0 : Int)) = false := by simpa using hz
            rw [hz2]
            simp only [Bool.not_false, Bool.and_self, Bool.true_and]
            rw [List.all_eq_not_any_not]
            congr 1
            refine any_congr_ _ _ _ fun d => ?_
            unfold badB
            rw [Bool.eq_iff_iff]
            simp
          clear hr hlast
          have hz1 : (x == 0) = false := by simpa using hz
          have hcall := fun (W : World) (hb : Below w.heap.size w W) => contains_bad (some ⟨b, off, none⟩) c0_0 l0_0 W (Kd.C_below hr0_0 hb)
          go_enter Tryd.func24, Tryd.ntmps24
          go_wp2_with (go_at_call 53; refine (hcall _ ((Below.refl _ _).alloc (Nat.le_refl _) _)).mono ?_; rintro e w' ⟨rfl, q, rfl⟩)
          go_ret
          exact ⟨rfl, pw_below_drewN ((Below.refl _ _).alloc (Nat.le_refl _) _) _⟩
end Go.Proofs.YtlogclmmeikbpaaDoor.Given

