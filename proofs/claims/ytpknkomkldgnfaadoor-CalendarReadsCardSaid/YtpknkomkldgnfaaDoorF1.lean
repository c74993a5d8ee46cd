/- Contracts of the calendar's months: month, Month, FirstDay, LastDay, December, of the program and of the reference, FormatPeriod, and of the sanity check. -/
import Derived.Test.YtpknkomkldgnfaaDoorC4
import Derived.Test.YtpknkomkldgnfaaDoorJO
namespace Go.Proofs.YtpknkomkldgnfaaDoor
open Go.RowKit Go.Sort Cal
def isMonth (p : Int) : Bool := decide (0 ≤ p ∧ p ≤ 5999)
theorem isMonth_yes {p : Int} (h0 : 0 ≤ p) (h1 : p ≤ 5999) : isMonth p = true := by simp [isMonth, h0, h1]
theorem isMonth_no {p : Int} (h : p < 0 ∨ 5999 < p) : isMonth p = false := by simp [isMonth]; omega
theorem month_any (p : Int) (w : World) : Calls Tryd.prog 54 #[.int .i64 p] w fun e w' => e = .returned (.bool (isMonth p)) ∧ w = w' := by
  by_cases h0 : 0 ≤ p
  · have HL : Hid (isMonth p = decide (p ≤ 5999)) := Lib.hid (by simp [isMonth, h0])
    go_enter Tryd.func54, Tryd.ntmps54
    go_wp2
    go_ret
    exact ⟨ret_bool HL.out.symm, rfl⟩
  · have h0' : decide (0 ≤ p) = false := by simpa using h0
    have HL : Hid (isMonth p = false) := Lib.hid (by simp [isMonth, h0])
    go_enter Tryd.func54, Tryd.ntmps54
    go_wp2
    go_ret
    exact ⟨ret_bool HL.out.symm, rfl⟩
def monthOf (p : Int) : Int := if 0 ≤ p ∧ p ≤ 5999 then p % 12 + 1 else 0
theorem Month_any (p : Int) (w : World) : Calls Tryd.prog 23 #[.int .i64 p] w fun e w' => e = .returned (.int .i64 (monthOf p)) ∧ w = w' := by
  by_cases h : 0 ≤ p ∧ p ≤ 5999
  · have HL : Hid (monthOf p = p % 12 + 1) := Lib.hid (by unfold monthOf; rw [if_pos h])
    obtain ⟨h0, h1⟩ := h
    have hm := isMonth_yes h0 h1
    go_enter Tryd.func23, Tryd.ntmps23
    go_wp2_with (go_at_call 54; refine (month_any _ _).mono ?_; rintro e w' ⟨rfl, rfl⟩)
    go_ret
    exact ⟨ret_int HL.out.symm, rfl⟩
  · have HL : Hid (monthOf p = 0) := Lib.hid (by unfold monthOf; rw [if_neg h])
    have hm := isMonth_no (p := p) (by omega)
    clear h
    go_enter Tryd.func23, Tryd.ntmps23
    go_wp2_with (go_at_call 54; refine (month_any _ _).mono ?_; rintro e w' ⟨rfl, rfl⟩)
    go_ret
    exact ⟨ret_int HL.out.symm, rfl⟩
/-- The text of a month. -/
def perB (p : Int) : ByteArray := if 0 ≤ p ∧ p ≤ 5999 then joinB [1900 + p / 12, p % 12 + 1] else ⟨#[]⟩
set_option maxHeartbeats 400000 in
theorem formatPeriod_any (p : Int) (w : World) (hT : Tab w) : Calls Tryd.prog 40 #[.int .i64 p] w fun e w' => e = .returned (.string (perB p)) ∧ Below w.heap.size w w' := by
  have HT := Lib.hid hT
  clear hT
  by_cases h : 0 ≤ p ∧ p ≤ 5999
  · have HL : Hid (perB p = joinB [1900 + p / 12, p % 12 + 1]) := Lib.hid (by unfold perB; rw [if_pos h])
    have HM : Hid (monthOf p = p % 12 + 1) := Lib.hid (by unfold monthOf; rw [if_pos h])
    obtain ⟨h0, h1⟩ := h
    have hm := isMonth_yes h0 h1
    go_enter Tryd.func40, Tryd.ntmps40
    go_wp2_with (first
      | (go_at_call 54; refine (month_any _ _).mono ?_; rintro e w' ⟨rfl, rfl⟩)
      | (go_at_call 23; refine (Month_any _ _).mono ?_; rintro e w' ⟨rfl, rfl⟩; rw [HM.out])
      | (go_at_call 55; refine (joined2 (1900 + p / 12) (p % 12 + 1) w _ (by omega) (by omega) HT.out).mono ?_; rintro e w1 ⟨rfl, hb⟩)
      | fail)
    go_ret
    exact ⟨by rw [HL.out]; rfl, hb⟩
  · have HL : Hid (perB p = ⟨#[]⟩) := Lib.hid (by unfold perB; rw [if_neg h])
    have hm := isMonth_no (p := p) (by omega)
    clear h
    go_enter Tryd.func40, Tryd.ntmps40
    go_wp2_with (go_at_call 54; refine (month_any _ _).mono ?_; rintro e w' ⟨rfl, rfl⟩)
    go_ret
    exact ⟨by rw [HL.out]; rfl, Below.refl _ _⟩
theorem awake_num : num 2000 2 29 = 36583 := by
  have h : vd 2000 2 29 = true := by decide
  have e := fd_month 2000 0 (by omega) (by omega)
  have e2 := bef_fd 2000 (by omega)
  unfold num
  rw [if_pos h]
  have e3 : (12 * ((2000 : Int) - 1900) + 2 - 1).toNat = (12 * ((2000 : Int) - 1900) + ((0 + 1 : Nat) : Int)).toNat := by decide
  have e4 : (12 * ((2000 : Int) - 1900) + ((0 : Nat) : Int)).toNat = (12 * ((2000 : Int) - 1900)).toNat := by decide
  rw [e3, e, e4, ← e2]
  decide
theorem awake_text : perB 1201 = ⟨#[50, 48, 48, 48, 45, 48, 50]⟩ := by
  have e1 : Lib.itoa 2000 = [50, 48, 48, 48] := by simp [Lib.itoa, Lib.decDigits]
  have e2 : Lib.itoa 2 = [50] := by simp [Lib.itoa, Lib.decDigits]
  simp [perB, joinB, wordB, e1, e2, Lib.join_cons, Lib.joinTail]
theorem awake_any (w : World) (hT : Tab w) : Calls Tryd.prog 18 #[] w fun e w' => e = .returned (.bool true) ∧ Below w.heap.size w w' := by
  have HT := Lib.hid hT
  clear hT
  have hn := awake_num
  have ht := awake_text
  go_enter Tryd.func18, Tryd.ntmps18
  go_wp2_with (first
      | (go_at_call 16; refine (number_any 2000 2 29 _).mono ?_; rintro e w1 ⟨rfl, hb⟩; rw [hn])
      | (go_at_call 40; refine (formatPeriod_any 1201 _ (HT.out.below hb)).mono ?_; rintro e w2 ⟨rfl, hb2⟩; rw [ht])
      | fail)
  go_ret
  exact ⟨rfl, hb.trans (hb2.mono hb.size)⟩
end Go.Proofs.YtpknkomkldgnfaaDoor
