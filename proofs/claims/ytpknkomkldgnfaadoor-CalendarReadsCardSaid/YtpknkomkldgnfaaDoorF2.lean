/- Contracts of FirstDay, LastDay, December, Fold, of the program and of the reference. -/
import Derived.Test.YtpknkomkldgnfaaDoorF1
namespace Go.Proofs.YtpknkomkldgnfaaDoor
open Go.RowKit Go.Sort Cal
theorem num_first (p : Int) (h0 : 0 ≤ p) (h1 : p ≤ 5999) : num (1900 + p / 12) (p % 12 + 1) 1 = fday p := by
  have lb := len_bd (1900 + p / 12) (p % 12 + 1)
  have hv : vd (1900 + p / 12) (p % 12 + 1) 1 = true := (vd_iff _ _ _).2 ⟨by omega, by omega, by omega, by omega, by omega, by omega⟩
  unfold num fday
  rw [if_pos hv, if_pos ⟨h0, h1⟩]
  have e : (12 * (1900 + p / 12 - 1900) + (p % 12 + 1) - 1).toNat = p.toNat := by omega
  rw [e]; omega
theorem num_zero (y : Int) : num y 0 1 = -1 := num_no _ _ _ (by simp [vd])
theorem firstDay_any (p : Int) (w : World) (hlo : -9223372036854775808 ≤ p) (hhi : p ≤ 9223372036854775807) :
    Calls Tryd.prog 25 #[.int .i64 p] w fun e w' => e = .returned (.int .i64 (fday p)) ∧ Below w.heap.size w w' := by
  by_cases h0 : 0 ≤ p
  · have hmx : max p (-1) = p := by omega
    by_cases h1 : p ≤ 5999
    · have HM : Hid (monthOf p = p % 12 + 1) := Lib.hid (by unfold monthOf; rw [if_pos ⟨h0, h1⟩])
      have HN : Hid (num (1900 + p / 12) (p % 12 + 1) 1 = fday p) := Lib.hid (num_first p h0 h1)
      go_enter Tryd.func25, Tryd.ntmps25
      go_wp2_with (first
        | (go_at_call 23; refine (Month_any _ _).mono ?_; rintro e w' ⟨rfl, rfl⟩; rw [HM.out])
        | (go_at_call 16; refine (number_any (1900 + p / 12) (p % 12 + 1) 1 _).mono ?_; rintro e w1 ⟨rfl, hb⟩; rw [HN.out])
        | fail)
      go_ret
      exact ⟨rfl, hb⟩
    · have HM : Hid (monthOf p = 0) := Lib.hid (by unfold monthOf; rw [if_neg (by omega)])
      have HN : Hid (num (1900 + p / 12) 0 1 = fday p) := Lib.hid (by rw [num_zero]; unfold fday; rw [if_neg (by omega)])
      go_enter Tryd.func25, Tryd.ntmps25
      go_wp2_with (first
        | (go_at_call 23; refine (Month_any _ _).mono ?_; rintro e w' ⟨rfl, rfl⟩; rw [HM.out])
        | (go_at_call 16; refine (number_any (1900 + p / 12) 0 1 _).mono ?_; rintro e w1 ⟨rfl, hb⟩; rw [HN.out])
        | fail)
      go_ret
      exact ⟨rfl, hb⟩
  · have hmx : max p (-1) = -1 := by omega
    have HM : Hid (monthOf p = 0) := Lib.hid (by unfold monthOf; rw [if_neg (by omega)])
    have HN : Hid (num 1900 0 1 = fday p) := Lib.hid (by rw [num_zero]; unfold fday; rw [if_neg (by omega)])
    go_enter Tryd.func25, Tryd.ntmps25
    go_wp2_with (first
        | (go_at_call 23; refine (Month_any _ _).mono ?_; rintro e w' ⟨rfl, rfl⟩; rw [HM.out])
        | (go_at_call 16; refine (number_any 1900 0 1 _).mono ?_; rintro e w1 ⟨rfl, hb⟩; rw [HN.out])
        | fail)
    go_ret
    exact ⟨rfl, hb⟩
theorem rMonth_any (p : Int) (w : World) : Calls Tryd.prog 24 #[.int .i64 p] w fun e w' => e = .returned (.int .i64 (monthOf p)) ∧ w = w' := by
  by_cases h0 : p < 0
  · have HM : Hid (monthOf p = 0) := Lib.hid (by unfold monthOf; rw [if_neg (by omega)])
    go_enter Tryd.func24, Tryd.ntmps24
    go_wp2
    go_ret
    exact ⟨ret_int HM.out.symm, rfl⟩
  · by_cases h1 : 5999 < p
    · have HM : Hid (monthOf p = 0) := Lib.hid (by unfold monthOf; rw [if_neg (by omega)])
      go_enter Tryd.func24, Tryd.ntmps24
      go_wp2
      go_ret
      exact ⟨ret_int HM.out.symm, rfl⟩
    · have HM : Hid (monthOf p = p % 12 + 1) := Lib.hid (by unfold monthOf; rw [if_pos (by omega)])
      go_enter Tryd.func24, Tryd.ntmps24
      go_wp2
      go_ret
      exact ⟨ret_int HM.out.symm, rfl⟩
/-- The last day of a month. -/
def lday (p : Int) : Int := if 0 ≤ p ∧ p ≤ 5999 then fday p + len (1900 + p / 12) (p % 12 + 1) - 1 else -1
theorem fday_bd (p : Int) : -1 ≤ fday p ∧ fday p ≤ 190000 := by
  unfold fday; split
  · have := fd_hi p.toNat; omega
  · omega
theorem lastDay_any (p : Int) (w : World) : Calls Tryd.prog 27 #[.int .i64 p] w fun e w' => e = .returned (.int .i64 (lday p)) ∧ Below w.heap.size w w' := by
  have fb := fday_bd p
  by_cases h : 0 ≤ p ∧ p ≤ 5999
  · have HM : Hid (monthOf p = p % 12 + 1) := Lib.hid (by unfold monthOf; rw [if_pos h])
    have HL : Hid (lday p = fday p + len (1900 + p / 12) (p % 12 + 1) - 1) := Lib.hid (by unfold lday; rw [if_pos h])
    have lb := len_bd (1900 + p / 12) (p % 12 + 1)
    obtain ⟨h0, h1⟩ := h
    have hm := isMonth_yes h0 h1
    go_enter Tryd.func27, Tryd.ntmps27
    go_wp2_with (first
        | (go_at_call 54; refine (month_any _ _).mono ?_; rintro e w' ⟨rfl, rfl⟩)
        | (go_at_call 25; refine (firstDay_any _ _ (by omega) (by omega)).mono ?_; rintro e w1 ⟨rfl, hb⟩)
        | (go_at_call 23; refine (Month_any _ _).mono ?_; rintro e w' ⟨rfl, rfl⟩; rw [HM.out])
        | (go_at_call 47; refine (length_any _ _ _ (by omega) (by omega) (by omega)).mono ?_; rintro e w2 ⟨rfl, hb2⟩)
        | fail)
    go_ret
    exact ⟨ret_int HL.out.symm, hb.trans (hb2.mono hb.size)⟩
  · have HL : Hid (lday p = -1) := Lib.hid (by unfold lday; rw [if_neg h])
    have hm := isMonth_no (p := p) (by omega)
    clear h
    go_enter Tryd.func27, Tryd.ntmps27
    go_wp2_with (go_at_call 54; refine (month_any _ _).mono ?_; rintro e w' ⟨rfl, rfl⟩)
    go_ret
    exact ⟨ret_int HL.out.symm, Below.refl _ _⟩
theorem rlastDay_any (p : Int) (w : World) : Calls Tryd.prog 28 #[.int .i64 p] w fun e w' => e = .returned (.int .i64 (lday p)) ∧ w = w' := by
  have fb := fday_bd p
  by_cases h0 : p < 0
  · have HL : Hid (lday p = -1) := Lib.hid (by unfold lday; rw [if_neg (by omega)])
    go_enter Tryd.func28, Tryd.ntmps28
    go_wp2_with fail
    go_ret
    exact ⟨ret_int HL.out.symm, rfl⟩
  · by_cases h1 : 5999 < p
    · have HL : Hid (lday p = -1) := Lib.hid (by unfold lday; rw [if_neg (by omega)])
      go_enter Tryd.func28, Tryd.ntmps28
      go_wp2_with fail
      go_ret
      exact ⟨ret_int HL.out.symm, rfl⟩
    · have HL : Hid (lday p = fday p + len (1900 + p / 12) (p % 12 + 1) - 1) := Lib.hid (by unfold lday; rw [if_pos (by omega)])
      have lb := len_bd (1900 + p / 12) (p % 12 + 1)
      go_enter Tryd.func28, Tryd.ntmps28
      go_wp2_with (first
        | (go_at_call 26; refine (rfirst_any _ _).mono ?_; rintro e w1 ⟨rfl, rfl⟩)
        | (go_at_call 48; refine (rlength_any _ _ _ (by omega)).mono ?_; rintro e w2 ⟨rfl, rfl⟩)
        | fail)
      go_ret
      exact ⟨ret_int HL.out.symm, rfl⟩
/-- The December before. -/
def decOf (p : Int) : Int := if 12 ≤ p ∧ p ≤ 5999 then p / 12 * 12 - 1 else -1
theorem december_any (p : Int) (w : World) : Calls Tryd.prog 29 #[.int .i64 p] w fun e w' => e = .returned (.int .i64 (decOf p)) ∧ w = w' := by
  by_cases h : 0 ≤ p ∧ p ≤ 5999
  · have HL : Hid (decOf p = p / 12 * 12 - 1) := Lib.hid (by unfold decOf; split <;> omega)
    obtain ⟨h0, h1⟩ := h
    have hm := isMonth_yes h0 h1
    have hmx : max (p / 12 * 12 - 1) (-1) = p / 12 * 12 - 1 := by omega
    go_enter Tryd.func29, Tryd.ntmps29
    go_wp2_with (go_at_call 54; refine (month_any _ _).mono ?_; rintro e w' ⟨rfl, rfl⟩)
    go_ret
    exact ⟨ret_int HL.out.symm, rfl⟩
  · have HL : Hid (decOf p = -1) := Lib.hid (by unfold decOf; rw [if_neg (by omega)])
    have hm := isMonth_no (p := p) (by omega)
    clear h
    go_enter Tryd.func29, Tryd.ntmps29
    go_wp2_with (go_at_call 54; refine (month_any _ _).mono ?_; rintro e w' ⟨rfl, rfl⟩)
    go_ret
    exact ⟨ret_int HL.out.symm, rfl⟩
theorem rdecember_any (p : Int) (w : World) : Calls Tryd.prog 30 #[.int .i64 p] w fun e w' => e = .returned (.int .i64 (decOf p)) ∧ w = w' := by
  by_cases h0 : p < 12
  · have HL : Hid (decOf p = -1) := Lib.hid (by unfold decOf; rw [if_neg (by omega)])
    go_enter Tryd.func30, Tryd.ntmps30
    go_wp2
    go_ret
    exact ⟨ret_int HL.out.symm, rfl⟩
  · by_cases h1 : 5999 < p
    · have HL : Hid (decOf p = -1) := Lib.hid (by unfold decOf; rw [if_neg (by omega)])
      go_enter Tryd.func30, Tryd.ntmps30
      go_wp2
      go_ret
      exact ⟨ret_int HL.out.symm, rfl⟩
    · have HL : Hid (decOf p = p / 12 * 12 - 1) := Lib.hid (by unfold decOf; rw [if_pos (by omega)])
      go_enter Tryd.func30, Tryd.ntmps30
      go_wp2
      go_ret
      exact ⟨ret_int HL.out.symm, rfl⟩
/-- A raw number brought to 0 .. n - 1. -/
def foldZ (v n : Int) : Int := (v % 18446744073709551616) % n
theorem fold_bd (v n : Int) (h1 : 1 ≤ n) : 0 ≤ foldZ v n ∧ foldZ v n < n := ⟨Int.emod_nonneg _ (by omega), Int.emod_lt_of_pos _ (by omega)⟩
theorem fold_eq (v n : Int) (h1 : 1 ≤ n) (h2 : n ≤ 1000000) : wrap64 ((IntKind.u64.wrap v).tmod n) = foldZ v n := by
  have e : IntKind.u64.wrap v = v % 18446744073709551616 := by rw [IntKind.wrap_u64]
  have h := fold_bd v n h1
  rw [e, Int.tmod_eq_emod_of_nonneg (Int.emod_nonneg _ (by decide))]
  exact IntWalk.wrap64_in _ ⟨by unfold foldZ at h; omega, by unfold foldZ at h; omega⟩
theorem fold_any (v n : Int) (w : World) (h1 : 1 ≤ n) (h2 : n ≤ 1000000) :
    Calls Tryd.prog 19 #[.int .i64 v, .int .i64 n] w fun e w' => e = .returned (.int .i64 (foldZ v n)) ∧ w = w' := by
  have hmx : max n 1 = n := by omega
  go_enter Tryd.func19, Tryd.ntmps19
  go_wp2
  go_ret
  exact ⟨ret_int (fold_eq v n h1 h2), rfl⟩
end Go.Proofs.YtpknkomkldgnfaaDoor
