/- The walk of CalendarWeeks. -/
import Derived.Test.YtpknkomkldgnfaaDoorL4
namespace Go.Proofs.YtpknkomkldgnfaaDoor
open Go.RowKit Go.Sort Cal
set_option maxRecDepth 100000 in
set_option maxHeartbeats 1600000 in
theorem weeks_early (p q : Int) (k : Nat) (hk : foldZ p 5999 = (k : Int)) (hk2 : k ≤ 5998) (h12 : (k : Int) < 12) (w : World) (hT : Tab w) :
    Calls Tryd.prog 10 #[.int .i64 p, .int .i64 q] w fun e w' => e = .returned (.bool true) ∧ Below w.heap.size w w' := by
  have HT := Lib.hid hT
  have HF : Hid (∀ w, Calls Tryd.prog 19 #[.int .i64 p, .int .i64 5999] w fun e w' => e = .returned (.int .i64 (k : Int)) ∧ w = w') := Lib.hid (fun w => by rw [← hk]; exact fold_any p 5999 w (by omega) (by omega))
  obtain ⟨f, hf⟩ : ∃ f, f = fd k := ⟨_, rfl⟩
  obtain ⟨L, hL⟩ : ∃ L, L = len (1900 + (k : Int) / 12) ((k : Int) % 12 + 1) := ⟨_, rfl⟩
  have lb : 28 ≤ L ∧ L ≤ 31 := by rw [hL]; exact len_bd _ _
  have e1 : fd (k + 1) = f + L := by rw [fd_succ, hf, hL]
  have fb : 0 ≤ f ∧ f + L ≤ 182621 := by
    have a := fd_hi k
    have b := fd_mono (k + 1) 6000 (by omega)
    rw [fd_end, e1] at b
    exact ⟨by omega, b⟩
  have H1 : Hid (fday (k : Int) = f) := Lib.hid (by unfold fday; rw [if_pos (by omega), Int.toNat_natCast, hf])
  have H2 : Hid (lday (k : Int) = f + L - 1) := Lib.hid (by unfold lday; rw [if_pos (by omega), H1.out, hL])
  have H3 : Hid (fday ((k : Int) + 1) = f + L) := Lib.hid (by unfold fday; rw [if_pos (by omega), show ((k : Int) + 1).toNat = k + 1 from by omega, e1])
  have H4 : Hid (decOf (k : Int) = -1) := Lib.hid (by unfold decOf; rw [if_neg (by omega)])
  have fb2 := fold_bd q (f + L - 1 - f + 1) (by omega)
  have HP : Hid (per (f + foldZ q (f + L - 1 - f + 1)) = k) := Lib.hid (per_of k _ (by omega) (by omega) (by omega) (by rw [e1]; omega))
  clear hf hL hk e1 hT
  go_enter Tryd.func10, Tryd.ntmps10
  go_wp2_with (first
      | (go_at_call 19; refine (HF.out _).mono ?_; rintro e w' ⟨rfl, rfl⟩)
      | fail)
  refine (firstDay_any (k : Int) _ (by omega) (by omega)).mono ?_
  rintro e w1 ⟨rfl, hb1⟩
  rw [H1.out]
  go_wp2_with (first
      | (go_at_call 27; refine (lastDay_any (k : Int) _).mono ?_; rintro e w2 ⟨rfl, hb2⟩; rw [H2.out])
      | fail)
  refine (firstDay_any ((k : Int) + 1) _ (by omega) (by omega)).mono ?_
  rintro e w3 ⟨rfl, hb3⟩
  rw [H3.out]
  go_wp2_with fail
  refine (fold_any q (f + L - 1 - f + 1) _ (by omega) (by omega)).mono ?_
  rintro e w' ⟨rfl, rfl⟩
  go_wp2_with (first
      | (go_at_call 29; refine (december_any (k : Int) _).mono ?_; rintro e w' ⟨rfl, rfl⟩; rw [H4.out])
      | (go_at_call 23; refine (Month_any _ _).mono ?_; rintro e w' ⟨rfl, rfl⟩; fail)
      | (go_at_call 35; refine (per_yes (f + foldZ q (f + L - 1 - f + 1)) _ (by omega) (by omega)).mono ?_; rintro e w4 ⟨rfl, hb4⟩; rw [HP.out])
      | (go_at_call 18; refine (awake_any _ (HT.out.below (chain (chain (chain hb1 hb2) hb3) hb4))).mono ?_; rintro e w5 ⟨rfl, hb5⟩)
      | fail)
  go_ret
  exact ⟨rfl, chain (chain (chain (chain hb1 hb2) hb3) hb4) hb5⟩
set_option maxRecDepth 100000 in
set_option maxHeartbeats 1600000 in
theorem weeks_late (p q : Int) (k : Nat) (hk : foldZ p 5999 = (k : Int)) (hk2 : k ≤ 5998) (h12 : 12 ≤ (k : Int)) (w : World) (hT : Tab w) :
    Calls Tryd.prog 10 #[.int .i64 p, .int .i64 q] w fun e w' => e = .returned (.bool true) ∧ Below w.heap.size w w' := by
  have HT := Lib.hid hT
  have HF : Hid (∀ w, Calls Tryd.prog 19 #[.int .i64 p, .int .i64 5999] w fun e w' => e = .returned (.int .i64 (k : Int)) ∧ w = w') := Lib.hid (fun w => by rw [← hk]; exact fold_any p 5999 w (by omega) (by omega))
  obtain ⟨f, hf⟩ : ∃ f, f = fd k := ⟨_, rfl⟩
  obtain ⟨L, hL⟩ : ∃ L, L = len (1900 + (k : Int) / 12) ((k : Int) % 12 + 1) := ⟨_, rfl⟩
  have lb : 28 ≤ L ∧ L ≤ 31 := by rw [hL]; exact len_bd _ _
  have e1 : fd (k + 1) = f + L := by rw [fd_succ, hf, hL]
  have fb : 0 ≤ f ∧ f + L ≤ 182621 := by
    have a := fd_hi k
    have b := fd_mono (k + 1) 6000 (by omega)
    rw [fd_end, e1] at b
    exact ⟨by omega, b⟩
  have H1 : Hid (fday (k : Int) = f) := Lib.hid (by unfold fday; rw [if_pos (by omega), Int.toNat_natCast, hf])
  have H2 : Hid (lday (k : Int) = f + L - 1) := Lib.hid (by unfold lday; rw [if_pos (by omega), H1.out, hL])
  have H3 : Hid (fday ((k : Int) + 1) = f + L) := Lib.hid (by unfold fday; rw [if_pos (by omega), show ((k : Int) + 1).toNat = k + 1 from by omega, e1])
  have H4 : Hid (decOf (k : Int) = (k : Int) / 12 * 12 - 1) := Lib.hid (by unfold decOf; rw [if_pos (by omega)])
  have fb2 := fold_bd q (f + L - 1 - f + 1) (by omega)
  have HP : Hid (per (f + foldZ q (f + L - 1 - f + 1)) = k) := Lib.hid (per_of k _ (by omega) (by omega) (by omega) (by rw [e1]; omega))
  have H5 : Hid (monthOf ((k : Int) / 12 * 12 - 1) = 12) := Lib.hid (by unfold monthOf; rw [if_pos (by omega)]; omega)
  clear hf hL hk e1 hT
  go_enter Tryd.func10, Tryd.ntmps10
  go_wp2_with (first
      | (go_at_call 19; refine (HF.out _).mono ?_; rintro e w' ⟨rfl, rfl⟩)
      | fail)
  refine (firstDay_any (k : Int) _ (by omega) (by omega)).mono ?_
  rintro e w1 ⟨rfl, hb1⟩
  rw [H1.out]
  go_wp2_with (first
      | (go_at_call 27; refine (lastDay_any (k : Int) _).mono ?_; rintro e w2 ⟨rfl, hb2⟩; rw [H2.out])
      | fail)
  refine (firstDay_any ((k : Int) + 1) _ (by omega) (by omega)).mono ?_
  rintro e w3 ⟨rfl, hb3⟩
  rw [H3.out]
  go_wp2_with fail
  refine (fold_any q (f + L - 1 - f + 1) _ (by omega) (by omega)).mono ?_
  rintro e w' ⟨rfl, rfl⟩
  go_wp2_with (first
      | (go_at_call 29; refine (december_any (k : Int) _).mono ?_; rintro e w' ⟨rfl, rfl⟩; rw [H4.out])
      | (go_at_call 23; refine (Month_any _ _).mono ?_; rintro e w' ⟨rfl, rfl⟩; rw [H5.out])
      | (go_at_call 35; refine (per_yes (f + foldZ q (f + L - 1 - f + 1)) _ (by omega) (by omega)).mono ?_; rintro e w4 ⟨rfl, hb4⟩; rw [HP.out])
      | (go_at_call 18; refine (awake_any _ (HT.out.below (chain (chain (chain hb1 hb2) hb3) hb4))).mono ?_; rintro e w5 ⟨rfl, hb5⟩)
      | fail)
  go_ret
  exact ⟨rfl, chain (chain (chain (chain hb1 hb2) hb3) hb4) hb5⟩
theorem weeks_walk (p : Int) (_ : -9223372036854775808 ≤ p) (_ : p ≤ 9223372036854775807) (q : Int) (_ : -9223372036854775808 ≤ q) (_ : q ≤ 9223372036854775807) (w : World) (hT : Tab w) :
    Calls Tryd.prog 10 #[.int .i64 p, .int .i64 q] w fun e w' => e = .returned (.bool true) ∧ Below w.heap.size w w' := by
  have fb := fold_bd p 5999 (by omega)
  obtain ⟨k, hk⟩ := Int.eq_ofNat_of_zero_le fb.1
  by_cases h : (k : Int) < 12
  · exact weeks_early p q k hk (by omega) h w hT
  · exact weeks_late p q k hk (by omega) (by omega) w hT
end Go.Proofs.YtpknkomkldgnfaaDoor
