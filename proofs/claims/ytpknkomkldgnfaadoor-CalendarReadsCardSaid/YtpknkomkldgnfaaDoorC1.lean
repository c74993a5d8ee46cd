/- Contracts of the calendar's smallest functions: leap, length, before, of the program and of the reference. Conditions: the years and months that the callers pass. -/
import Derived.Test.YtpknkomkldgnfaaDoorK
import Derived.Test.YtpknkomkldgnfaaDoorCal
import Derived.WalkKit
import Derived.Handy
import Derived.BigQuiet
import Derived.Deep.QuietTactic
import Derived.Lib.Hide
namespace Go.Proofs.YtpknkomkldgnfaaDoor
open Go.RowKit Cal
theorem leap_any (y : Int) (w : World) (h0 : 0 ≤ y) :
    Calls Tryd.prog 60 #[.int .i64 y] w fun e w' => e = .returned (.bool (leapB y)) ∧ w = w' := by
  by_cases h4 : (y % 4 == 0) = true
  · by_cases h100 : (y % 100 != 0) = true
    · have HL : Hid (leapB y = true) := Lib.hid (by simp [leapB, h4, h100])
      go_enter Tryd.func60, Tryd.ntmps60
      go_wp2
      go_ret
      exact ⟨by rw [HL.out]; rfl, rfl⟩
    · have h100' : (y % 100 != 0) = false := by simpa using h100
      have HL : Hid (leapB y = (y % 400 == 0)) := Lib.hid (by simp [leapB, h100'])
      clear h100
      go_enter Tryd.func60, Tryd.ntmps60
      go_wp2
      go_ret
      exact ⟨by rw [HL.out]; rfl, rfl⟩
  · have h4' : (y % 4 == 0) = false := by simpa using h4
    have HL : Hid (leapB y = (y % 400 == 0)) := Lib.hid (by simp [leapB, h4'])
    clear h4
    go_enter Tryd.func60, Tryd.ntmps60
    go_wp2
    go_ret
    exact ⟨by rw [HL.out]; rfl, rfl⟩

theorem leaps_any (y : Int) (w : World) (h0 : 0 ≤ y) (h1 : y ≤ 100000) :
    Calls Tryd.prog 61 #[.int .i64 y] w fun e w' => e = .returned (.int .i64 (y / 4 - y / 100 + y / 400)) ∧ w = w' := by
  go_enter Tryd.func61, Tryd.ntmps61
  go_wp2
  go_ret
  exact ⟨rfl, rfl⟩
theorem before_any (y : Int) (w : World) (h0 : 1 ≤ y) (h1 : y ≤ 100000) :
    Calls Tryd.prog 49 #[.int .i64 y] w fun e w' => e = .returned (.int .i64 (bef y)) ∧ w = w' := by
  go_enter Tryd.func49, Tryd.ntmps49
  go_wp2_with (go_at_call 61; refine (leaps_any _ _ (by omega) (by omega)).mono ?_; rintro e w' ⟨rfl, rfl⟩)
  go_ret
  exact ⟨ret_int (by unfold bef; omega), rfl⟩

set_option maxHeartbeats 4000000 in
/-- A month's length, of the program: a table is laid, so a block is made. -/
theorem length_any (y m : Int) (w : World) (h0 : 0 ≤ y) (hm1 : 1 ≤ m) (hm2 : m ≤ 12) :
    Calls Tryd.prog 47 #[.int .i64 y, .int .i64 m] w fun e w' => e = .returned (.int .i64 (len y m)) ∧ Below w.heap.size w w' := by
  have hm : m = 1 ∨ m = 2 ∨ m = 3 ∨ m = 4 ∨ m = 5 ∨ m = 6 ∨ m = 7 ∨ m = 8 ∨ m = 9 ∨ m = 10 ∨ m = 11 ∨ m = 12 := by omega
  rcases hm with rfl | rfl | rfl | rfl | rfl | rfl | rfl | rfl | rfl | rfl | rfl | rfl
  case inr.inl =>
    by_cases hl : leapB y = true
    all_goals
      go_enter Tryd.func47, Tryd.ntmps47
      go_wp2_with (go_at_call 60; refine (leap_any _ _ (by omega)).mono ?_; rintro e w' ⟨rfl, rfl⟩)
      go_ret
      exact ⟨ret_int (by simp [len, hl]), by go_grown⟩
  all_goals
    go_enter Tryd.func47, Tryd.ntmps47
    go_wp2
    go_ret
    exact ⟨ret_int (by simp [len]), by go_grown⟩

/-- A month's length, of the reference: nothing is laid. -/
theorem rlength_any (y m : Int) (w : World) (h0 : 0 ≤ y) :
    Calls Tryd.prog 48 #[.int .i64 y, .int .i64 m] w fun e w' => e = .returned (.int .i64 (len y m)) ∧ w = w' := by
  by_cases h2 : (m == 2) = true
  · obtain rfl : m = 2 := by simpa using h2
    clear h2
    by_cases h400 : (y % 400 == 0) = true
    · have HL : Hid (leapB y = true) := Lib.hid (by simp [leapB, h400])
      go_enter Tryd.func48, Tryd.ntmps48
      go_wp2
      go_ret
      exact ⟨ret_int (by simp [len, HL.out]), rfl⟩
    · have h400' : (y % 400 == 0) = false := by simpa using h400
      clear h400
      by_cases h4 : (y % 4 == 0) = true
      · by_cases h100 : (y % 100 != 0) = true
        · have HL : Hid (leapB y = true) := Lib.hid (by simp [leapB, h4, h100])
          go_enter Tryd.func48, Tryd.ntmps48
          go_wp2
          go_ret
          exact ⟨ret_int (by simp [len, HL.out]), rfl⟩
        · have h100' : (y % 100 != 0) = false := by simpa using h100
          have HL : Hid (leapB y = false) := Lib.hid (by simp [leapB, h400', h100'])
          clear h100
          go_enter Tryd.func48, Tryd.ntmps48
          go_wp2
          go_ret
          exact ⟨ret_int (by simp [len, HL.out]), rfl⟩
      · have h4' : (y % 4 == 0) = false := by simpa using h4
        have HL : Hid (leapB y = false) := Lib.hid (by simp [leapB, h400', h4'])
        clear h4
        go_enter Tryd.func48, Tryd.ntmps48
        go_wp2
        go_ret
        exact ⟨ret_int (by simp [len, HL.out]), rfl⟩
  · have h2' : (m == 2) = false := by simpa using h2
    have n2 : m ≠ 2 := by simpa using h2
    have N2 : Hid (m ≠ 2) := Lib.hid n2
    clear h2 n2
    by_cases h4 : (m == 4) = true
    · have e : m = 4 := by simpa using h4
      have HL : Hid (len y m = 30) := Lib.hid (by simp [len, e])
      clear e
      go_enter Tryd.func48, Tryd.ntmps48
      go_wp2
      go_ret
      exact ⟨ret_int HL.out.symm, rfl⟩
    have h4' : (m == 4) = false := by simpa using h4
    clear h4
    by_cases h6 : (m == 6) = true
    · have e : m = 6 := by simpa using h6
      have HL : Hid (len y m = 30) := Lib.hid (by simp [len, e])
      clear e
      go_enter Tryd.func48, Tryd.ntmps48
      go_wp2
      go_ret
      exact ⟨ret_int HL.out.symm, rfl⟩
    have h6' : (m == 6) = false := by simpa using h6
    clear h6
    by_cases h9 : (m == 9) = true
    · have e : m = 9 := by simpa using h9
      have HL : Hid (len y m = 30) := Lib.hid (by simp [len, e])
      clear e
      go_enter Tryd.func48, Tryd.ntmps48
      go_wp2
      go_ret
      exact ⟨ret_int HL.out.symm, rfl⟩
    have h9' : (m == 9) = false := by simpa using h9
    clear h9
    by_cases h11 : (m == 11) = true
    · have e : m = 11 := by simpa using h11
      have HL : Hid (len y m = 30) := Lib.hid (by simp [len, e])
      clear e
      go_enter Tryd.func48, Tryd.ntmps48
      go_wp2
      go_ret
      exact ⟨ret_int HL.out.symm, rfl⟩
    have h11' : (m == 11) = false := by simpa using h11
    clear h11
    have HL : Hid (len y m = 31) := Lib.hid (by
      have a2 := N2.out
      have a4 : m ≠ 4 := by simpa using h4'
      have a6 : m ≠ 6 := by simpa using h6'
      have a9 : m ≠ 9 := by simpa using h9'
      have a11 : m ≠ 11 := by simpa using h11'
      simp [len, a2, a4, a6, a9, a11])
    go_enter Tryd.func48, Tryd.ntmps48
    go_wp2
    go_ret
    exact ⟨ret_int HL.out.symm, rfl⟩
end Go.Proofs.YtpknkomkldgnfaaDoor
