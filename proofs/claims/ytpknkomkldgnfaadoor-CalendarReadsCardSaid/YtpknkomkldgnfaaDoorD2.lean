/- Contracts of PeriodOf, Weekday and the reference's DateOf, PeriodOf, Weekday: any number. -/
import Derived.Test.YtpknkomkldgnfaaDoorD1
namespace Go.Proofs.YtpknkomkldgnfaaDoor
open Go.RowKit Go.Sort Cal
def perOf (n : Int) : Int := if 0 ≤ n ∧ n ≤ 182620 then (per n : Int) else -1
theorem rper_no (n : Int) (w : World) (h : n < 0 ∨ 182620 < n) :
    Calls Tryd.prog 36 #[.int .i64 n] w fun e w' => e = .returned (.int .i64 (-1)) ∧ w = w' := by
  rcases h with h | h
  · go_enter Tryd.func36, Tryd.ntmps36
    go_wp2
    go_ret
    exact ⟨rfl, rfl⟩
  · have h' : ¬ n < 0 := by omega
    have h2 : 182621 ≤ n := by omega
    go_enter Tryd.func36, Tryd.ntmps36
    go_wp2
    go_ret
    exact ⟨rfl, rfl⟩
theorem rper_yes (n : Int) (w : World) (h0 : 0 ≤ n) (h1 : n ≤ 182620) :
    Calls Tryd.prog 36 #[.int .i64 n] w fun e w' => e = .returned (.int .i64 (per n)) ∧ w = w' := by
  have h2 : ¬ 182621 ≤ n := by omega
  go_enter Tryd.func36, Tryd.ntmps36
  go_wp2_with fail
  go_loop [3, 4] (fun p s => ∃ k : Nat, k ≤ 6000 ∧ fd k ≤ n ∧ p = .int .i64 k ∧ s = .int .i64 (fd k)) (fun p _ => 6000 - (intOf p).toNat)
  case atStart => exact ⟨0, by omega, h0, rfl, rfl⟩
  case round =>
    obtain ⟨k, hk, hkn, rfl, rfl⟩ := hrel
    have hf := fd_hi k
    have hl := len_bd (1900 + (k : Int) / 12) ((k : Int) % 12 + 1)
    have HS : Hid (fd (k + 1) = fd k + len (1900 + (k : Int) / 12) ((k : Int) % 12 + 1)) := Lib.hid (fd_succ k)
    by_cases hle : fd k + len (1900 + (k : Int) / 12) ((k : Int) % 12 + 1) ≤ n
    · have hk6 : k < 6000 := by
        by_cases e : k = 6000
        · subst e; have := fd_end; omega
        · omega
      go_wp2_with (go_at_call 48; refine (rlength_any _ _ _ (by omega)).mono ?_; rintro e w' ⟨rfl, rfl⟩)
      go_round
      case rel => exact ⟨k + 1, by omega, by rw [HS.out]; exact hle, by go_num, by rw [HS.out]⟩
      case measure => simp [intOf]; omega
    · have HP : Hid (per n = k) := Lib.hid (per_of k n h0 (by omega) hkn (by rw [HS.out]; omega))
      go_wp2_with (go_at_call 48; refine (rlength_any _ _ _ (by omega)).mono ?_; rintro e w' ⟨rfl, rfl⟩)
      go_ret
      exact ⟨by rw [HP.out]; rfl, rfl⟩
theorem rper_any (n : Int) (w : World) :
    Calls Tryd.prog 36 #[.int .i64 n] w fun e w' => e = .returned (.int .i64 (perOf n)) ∧ w = w' := by
  by_cases h : 0 ≤ n ∧ n ≤ 182620
  · rw [show perOf n = per n from by unfold perOf; rw [if_pos h]]
    exact rper_yes n w h.1 h.2
  · rw [show perOf n = -1 from by unfold perOf; rw [if_neg h]]
    exact rper_no n w (by omega)
def zeroV : Value := .agg #[.int .i64 0, .int .i64 0, .int .i64 0]
theorem rdate_no (n : Int) (w : World) (h : n < 0 ∨ 182620 < n) :
    Calls Tryd.prog 33 #[.int .i64 n] w fun e w' => e = .returned (.tuple #[.agg #[.int .i64 0, .int .i64 0, .int .i64 0], .bool false]) ∧ Below w.heap.size w w' := by
  go_enter Tryd.func33, Tryd.ntmps33
  go_wp2_with (go_at_call 36; refine (rper_no n _ h).mono ?_; rintro e w' ⟨rfl, rfl⟩)
  go_returns
  exact ⟨rfl, by go_grown⟩
theorem fday_per (n : Int) (h0 : 0 ≤ n) (h1 : n ≤ 182620) : fday (per n) = fd (per n) := by
  have := per_lt n h0 (by omega)
  unfold fday
  rw [if_pos (by omega), Int.toNat_natCast]
theorem rdate_yes (n : Int) (w : World) (h0 : 0 ≤ n) (h1 : n ≤ 182620) :
    Calls Tryd.prog 33 #[.int .i64 n] w fun e w' => e = .returned (.tuple #[dateV n, .bool true]) ∧ Below w.heap.size w w' := by
  have HF := Lib.hid (fday_per n h0 h1)
  have hp := per_lt n h0 (by omega)
  have hf := fd_hi (per n)
  have HV : Hid (dateV n = .agg #[.int .i64 (1900 + (per n : Int) / 12), .int .i64 ((per n : Int) % 12 + 1), .int .i64 (n - fd (per n) + 1)]) := Lib.hid rfl
  go_enter Tryd.func33, Tryd.ntmps33
  go_wp2_with (first
    | (go_at_call 36; refine (rper_yes n _ h0 h1).mono ?_; rintro e w' ⟨rfl, rfl⟩)
    | (go_at_call 26; refine (rfirst_any (per n) _).mono ?_; rintro e w' ⟨rfl, rfl⟩; rw [HF.out])
    | fail)
  go_returns
  exact ⟨by rw [HV.out], by go_grown⟩
theorem per_no (n : Int) (w : World) (h : n < 0 ∨ 182620 < n) :
    Calls Tryd.prog 35 #[.int .i64 n] w fun e w' => e = .returned (.int .i64 (-1)) ∧ Below w.heap.size w w' := by
  go_enter Tryd.func35, Tryd.ntmps35
  go_wp2_with (first | (go_at_call 31; refine (dateOf_no n _ h).mono ?_; rintro e w1 ⟨rfl, hb⟩) | fail)
  go_ret
  exact ⟨rfl, hb.alloc hb.size _⟩
theorem per_yes (n : Int) (w : World) (h0 : 0 ≤ n) (h1 : n ≤ 182620) :
    Calls Tryd.prog 35 #[.int .i64 n] w fun e w' => e = .returned (.int .i64 (per n)) ∧ Below w.heap.size w w' := by
  have hp := per_lt n h0 (by omega)
  have HV : Hid (dateV n = .agg #[.int .i64 (1900 + (per n : Int) / 12), .int .i64 ((per n : Int) % 12 + 1), .int .i64 (n - fd (per n) + 1)]) := Lib.hid rfl
  go_enter Tryd.func35, Tryd.ntmps35
  go_wp2_with (first | (go_at_call 31; refine (dateOf_yes n _ h0 h1).mono ?_; rintro e w1 ⟨rfl, hb⟩; rw [HV.out]) | fail)
  go_ret
  exact ⟨ret_int (by omega), hb.alloc hb.size _⟩
theorem per_any (n : Int) (w : World) :
    Calls Tryd.prog 35 #[.int .i64 n] w fun e w' => e = .returned (.int .i64 (perOf n)) ∧ Below w.heap.size w w' := by
  by_cases h : 0 ≤ n ∧ n ≤ 182620
  · rw [show perOf n = per n from by unfold perOf; rw [if_pos h]]
    exact per_yes n w h.1 h.2
  · rw [show perOf n = -1 from by unfold perOf; rw [if_neg h]]
    exact per_no n w (by omega)
def wday (n : Int) : Int := if 0 ≤ n ∧ n ≤ 182620 then n % 7 else -1
theorem wday_any (n : Int) (w : World) : Calls Tryd.prog 32 #[.int .i64 n] w fun e w' => e = .returned (.int .i64 (wday n)) ∧ w = w' := by
  by_cases h : 0 ≤ n ∧ n ≤ 182620
  · have HL : Hid (wday n = n % 7) := Lib.hid (by unfold wday; rw [if_pos h])
    obtain ⟨h0, h1⟩ := h
    have hv := isDay_yes h0 h1
    go_enter Tryd.func32, Tryd.ntmps32
    go_wp2_with (go_at_call 51; refine (isvalid_any _ _).mono ?_; rintro e w' ⟨rfl, rfl⟩)
    go_ret
    exact ⟨ret_int HL.out.symm, rfl⟩
  · have HL : Hid (wday n = -1) := Lib.hid (by unfold wday; rw [if_neg h])
    have hv := isDay_no (n := n) (by omega)
    clear h
    go_enter Tryd.func32, Tryd.ntmps32
    go_wp2_with (go_at_call 51; refine (isvalid_any _ _).mono ?_; rintro e w' ⟨rfl, rfl⟩)
    go_ret
    exact ⟨ret_int HL.out.symm, rfl⟩
theorem rwday_any (n : Int) (w : World) : Calls Tryd.prog 34 #[.int .i64 n] w fun e w' => e = .returned (.int .i64 (wday n)) ∧ w = w' := by
  by_cases h0 : n < 0
  · have HL : Hid (wday n = -1) := Lib.hid (by unfold wday; rw [if_neg (by omega)])
    go_enter Tryd.func34, Tryd.ntmps34
    go_wp2
    go_ret
    exact ⟨ret_int HL.out.symm, rfl⟩
  · by_cases h1 : 182621 ≤ n
    · have HL : Hid (wday n = -1) := Lib.hid (by unfold wday; rw [if_neg (by omega)])
      go_enter Tryd.func34, Tryd.ntmps34
      go_wp2
      go_ret
      exact ⟨ret_int HL.out.symm, rfl⟩
    · have HL : Hid (wday n = n % 7) := Lib.hid (by unfold wday; rw [if_pos (by omega)])
      go_enter Tryd.func34, Tryd.ntmps34
      go_wp2
      go_ret
      exact ⟨ret_int HL.out.symm, rfl⟩
end Go.Proofs.YtpknkomkldgnfaaDoor
