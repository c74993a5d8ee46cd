/- Contracts of Number, of the program and of the reference: any date. -/
import Derived.Test.YtpknkomkldgnfaaDoorC3
namespace Go.Proofs.YtpknkomkldgnfaaDoor
open Go.RowKit Cal
theorem number_yes (y m d : Int) (w : World) (hv : vd y m d = true) :
    Calls Tryd.prog 16 #[.agg #[.int .i64 y, .int .i64 m, .int .i64 d]] w fun e w' => e = .returned (.int .i64 (num y m d)) ∧ Below w.heap.size w w' := by
  obtain ⟨a1, a2, a3, a4, a5, a6⟩ := (vd_iff y m d).1 hv
  have lb := len_bd y m
  have bb : 0 ≤ bef y ∧ bef y ≤ 190000 := by unfold bef; omega
  have HV : Hid (bef y = fd (12 * (y - 1900) + (0 : Nat)).toNat) := Lib.hid (by rw [bef_fd y a1]; congr 2; omega)
  have HN : Hid (num y m d = fd (12 * (y - 1900) + (m - 1)).toNat + d - 1) := Lib.hid (by unfold num; rw [if_pos hv]; congr 3; omega)
  have ad : d ≤ 31 := by omega
  clear a6
  go_enter Tryd.func16, Tryd.ntmps16
  go_wp2_with (go_at_call 14; refine (valid_any y m d _).mono ?_; rintro e w1 ⟨rfl, hb⟩; have hB := (Box3.new w y m d _).step hb; obtain ⟨c0, c1, c2, cz, cl, cb⟩ := hB)
  go_quiet ((go_at_call 49; exact Calls.quiet_of_same (flip_eq (before_any _ _ (by omega) (by omega)))))
  go_wp2_with fail
  go_loopw [3, 4] (fun n mo wr => ∃ k : Nat, (k : Int) + 1 ≤ m ∧ mo = .int .i64 ((k : Int) + 1) ∧ n = .int .i64 (fd (12 * (y - 1900) + k).toNat + d - 1) ∧ Box3 w.heap.size w y m d wr) (fun _ mo _ => (m - intOf mo).toNat)
  case atStart => exact ⟨0, by omega, rfl, ret_val (by rw [HV.out]), (Box3.mk c0 c1 c2 cz cl cb).drewN _⟩
  case round =>
    obtain ⟨k, hk, rfl, rfl, hB⟩ := hrel
    have hB' := hB
    obtain ⟨c0, c1, c2, cz, cl, cb⟩ := hB'
    have hf := fd_hi (12 * (y - 1900) + k).toNat
    have hl := len_bd y ((k : Int) + 1)
    have HS : Hid (fd (12 * (y - 1900) + (k + 1 : Nat)).toNat = fd (12 * (y - 1900) + k).toNat + len y ((k : Int) + 1)) := Lib.hid (fd_month y k a1 (by omega))
    by_cases hlt : (k : Int) + 1 < m
    · go_wp2_with (go_at_call 47; refine (length_any _ _ _ (by omega) (by omega) (by omega)).mono ?_; rintro e w2 ⟨rfl, hb2⟩; have hB2 := hB.step hb2)
      go_roundw
      case rel => exact ⟨k + 1, by omega, by go_num, by rw [HS.out]; go_num, hB2⟩
      case measure => simp [intOf]; omega
    · go_wp2
      go_ret
      exact ⟨ret_int (by rw [HN.out]; congr 3; omega), cb⟩
theorem num_no (y m d : Int) (hv : vd y m d = false) : num y m d = -1 := by unfold num; simp [hv]
theorem number_any (y m d : Int) (w : World) :
    Calls Tryd.prog 16 #[.agg #[.int .i64 y, .int .i64 m, .int .i64 d]] w fun e w' => e = .returned (.int .i64 (num y m d)) ∧ Below w.heap.size w w' := by
  by_cases hv : vd y m d = true
  · exact number_yes y m d w hv
  · have hv' : vd y m d = false := by simpa using hv
    rw [num_no y m d hv']
    exact number_no y m d w hv'
theorem rnumber_any (y m d : Int) (w : World) :
    Calls Tryd.prog 17 #[.agg #[.int .i64 y, .int .i64 m, .int .i64 d]] w fun e w' => e = .returned (.int .i64 (num y m d)) ∧ Below w.heap.size w w' := by
  by_cases hv : vd y m d = true
  · obtain ⟨a1, a2, a3, a4, a5, a6⟩ := (vd_iff y m d).1 hv
    have lb := len_bd y m
    have ad : d ≤ 31 := by omega
    have HF : Hid (fday (12 * (y - 1900) + m - 1) + d - 1 = num y m d) := Lib.hid (by unfold num fday; rw [if_pos hv, if_pos (by omega)])
    have bf : -1 ≤ fday (12 * (y - 1900) + m - 1) ∧ fday (12 * (y - 1900) + m - 1) ≤ 190000 := by
      unfold fday; split
      · have := fd_hi (12 * (y - 1900) + m - 1).toNat; omega
      · omega
    clear a6
    go_enter Tryd.func17, Tryd.ntmps17
    go_wp2_with (go_at_call 15; refine (rvalid_any y m d _).mono ?_; rintro e w1 ⟨rfl, hb⟩; have hB := (Box3.new w y m d _).step hb; obtain ⟨c0, c1, c2, cz, cl, cb⟩ := hB)
    have w1' : IntKind.i64.wrap (y - 1900) = y - 1900 := IntWalk.i64_in _ (by omega)
    have w2' : IntKind.i64.wrap (12 * (y - 1900)) = 12 * (y - 1900) := IntWalk.i64_in _ (by omega)
    have w3' : IntKind.i64.wrap (12 * (y - 1900) + m) = 12 * (y - 1900) + m := IntWalk.i64_in _ (by omega)
    have w4' : IntKind.i64.wrap (12 * (y - 1900) + m - 1) = 12 * (y - 1900) + m - 1 := IntWalk.i64_in _ (by omega)
    go_quiet ((go_at_call 26; exact Calls.quiet_of_same (flip_eq (rfirst_any _ _))))
    clear w1' w2' w3' w4'
    go_wp2
    go_ret
    exact ⟨ret_int (by rw [← HF.out]), below_drewN cb _⟩
  · have hv' : vd y m d = false := by simpa using hv
    rw [num_no y m d hv']
    clear hv
    go_enter Tryd.func17, Tryd.ntmps17
    go_wp2_with (go_at_call 15; refine (rvalid_any y m d _).mono ?_; rintro e w1 ⟨rfl, hb⟩; have hB := ((Box3.new w y m d _).step hb).bl)
    go_ret
    exact ⟨rfl, hB⟩
end Go.Proofs.YtpknkomkldgnfaaDoor
