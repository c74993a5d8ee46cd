/- Contracts of ValidDate, of the program and of the reference: any date. -/
import Derived.Test.YtpknkomkldgnfaaDoorC1
import Derived.Deep.RegionHeld3
import Derived.WalkSmall
namespace Go.Proofs.YtpknkomkldgnfaaDoor
open Go.RowKit Cal
theorem bcell {W w1 : World} (hb : Below W.heap.size W w1) : (∀ b o, b < W.heap.size → w1.cell? ⟨b, o, none⟩ = W.cell? ⟨b, o, none⟩) ∧ (∀ b o, b < W.heap.size → w1.frozen? ⟨b, o, none⟩ = W.frozen? ⟨b, o, none⟩) :=
  ⟨fun b o h => hb.cell (p := ⟨b, o, none⟩) h, fun b o h => hb.frozen (p := ⟨b, o, none⟩) h⟩

theorem valid_any (y m d : Int) (w : World) :
    Calls Tryd.prog 14 #[.agg #[.int .i64 y, .int .i64 m, .int .i64 d]] w fun e w' => e = .returned (.bool (vd y m d)) ∧ Below w.heap.size w w' := by
  by_cases h1 : 1900 ≤ y
  rotate_left
  · have h1' : decide (1900 ≤ y) = false := by simpa using h1
    have HL : Hid (vd y m d = false) := Lib.hid (by simp [vd, h1])
    go_enter Tryd.func14, Tryd.ntmps14
    go_wp2
    go_quiet (fail)
    go_wp2
    go_ret
    exact ⟨ret_bool HL.out.symm, below_drewN (by go_grown) _⟩
  by_cases h2 : y ≤ 2399
  rotate_left
  · have h2' : decide (y ≤ 2399) = false := by simpa using h2
    have HL : Hid (vd y m d = false) := Lib.hid (by simp [vd, h1, h2])
    go_enter Tryd.func14, Tryd.ntmps14
    go_wp2
    go_quiet (fail)
    go_wp2
    go_ret
    exact ⟨ret_bool HL.out.symm, below_drewN (by go_grown) _⟩
  by_cases h3 : 1 ≤ m
  rotate_left
  · have h3' : decide (1 ≤ m) = false := by simpa using h3
    have HL : Hid (vd y m d = false) := Lib.hid (by simp [vd, h1, h2, h3])
    go_enter Tryd.func14, Tryd.ntmps14
    go_wp2
    go_quiet (fail)
    go_wp2
    go_ret
    exact ⟨ret_bool HL.out.symm, below_drewN (by go_grown) _⟩
  by_cases h4 : m ≤ 12
  rotate_left
  · have h4' : decide (m ≤ 12) = false := by simpa using h4
    have HL : Hid (vd y m d = false) := Lib.hid (by simp [vd, h1, h2, h3, h4])
    go_enter Tryd.func14, Tryd.ntmps14
    go_wp2
    go_quiet (fail)
    go_wp2
    go_ret
    exact ⟨ret_bool HL.out.symm, below_drewN (by go_grown) _⟩
  by_cases h5 : 1 ≤ d
  rotate_left
  · have h5' : decide (1 ≤ d) = false := by simpa using h5
    have HL : Hid (vd y m d = false) := Lib.hid (by simp [vd, h1, h2, h3, h4, h5])
    go_enter Tryd.func14, Tryd.ntmps14
    go_wp2
    go_quiet (fail)
    go_wp2
    go_ret
    exact ⟨ret_bool HL.out.symm, below_drewN (by go_grown) _⟩
  have HL : Hid (vd y m d = decide (d ≤ len y m)) := Lib.hid (by simp [vd, h1, h2, h3, h4, h5])
  have hB0 : ∀ o, Below w.heap.size w (w.alloc o).drew := fun o => ((Below.refl _ _).alloc (Nat.le_refl _) _).drew
  go_enter Tryd.func14, Tryd.ntmps14
  go_wp2_with fail
  go_region_held3 (fun w' => w'.cell? ⟨w.heap.size, 0, none⟩ = some (.int .i64 y) ∧ w'.cell? ⟨w.heap.size, 1, none⟩ = some (.int .i64 m) ∧ w'.cell? ⟨w.heap.size, 2, none⟩ = some (.int .i64 d) ∧ w.heap.size < w'.heap.size ∧ Below w.heap.size w w') (go_keep)
    (first | (go_at_call 47; refine (length_any _ _ _ (by omega) (by omega) (by omega)).mono ?_; rintro e w' ⟨rfl, hb⟩; obtain ⟨s1, s2, s3, s4, s5⟩ := ‹_ ∧ _ ∧ _ ∧ _ ∧ _›; have n1 := (hb.cell (p := ⟨w.heap.size, 0, none⟩) s4).trans s1; have n2 := (hb.cell (p := ⟨w.heap.size, 1, none⟩) s4).trans s2; have n3 := (hb.cell (p := ⟨w.heap.size, 2, none⟩) s4).trans s3; have n4 := Nat.lt_of_lt_of_le s4 hb.size; have n5 := s5.trans (hb.mono (Nat.le_of_lt s4))))
  all_goals
    go_wp2
    go_ret
    exact ⟨ret_bool HL.out.symm, by first | assumption | exact hB0 _⟩

theorem rvalid_any (y m d : Int) (w : World) :
    Calls Tryd.prog 15 #[.agg #[.int .i64 y, .int .i64 m, .int .i64 d]] w fun e w' => e = .returned (.bool (vd y m d)) ∧ Below w.heap.size w w' := by
  by_cases h1 : 1900 ≤ y
  rotate_left
  · have h1' : decide (1900 ≤ y) = false := by simpa using h1
    have HL : Hid (vd y m d = false) := Lib.hid (by simp [vd, h1])
    go_enter Tryd.func15, Tryd.ntmps15
    go_wp2
    go_quiet (fail)
    go_wp2
    go_ret
    exact ⟨ret_bool HL.out.symm, below_drewN (by go_grown) _⟩
  by_cases h2 : y ≤ 2399
  rotate_left
  · have h2' : decide (y ≤ 2399) = false := by simpa using h2
    have HL : Hid (vd y m d = false) := Lib.hid (by simp [vd, h1, h2])
    go_enter Tryd.func15, Tryd.ntmps15
    go_wp2
    go_quiet (fail)
    go_wp2
    go_ret
    exact ⟨ret_bool HL.out.symm, below_drewN (by go_grown) _⟩
  by_cases h3 : 1 ≤ m
  rotate_left
  · have h3' : decide (1 ≤ m) = false := by simpa using h3
    have HL : Hid (vd y m d = false) := Lib.hid (by simp [vd, h1, h2, h3])
    go_enter Tryd.func15, Tryd.ntmps15
    go_wp2
    go_quiet (fail)
    go_wp2
    go_ret
    exact ⟨ret_bool HL.out.symm, below_drewN (by go_grown) _⟩
  by_cases h4 : m ≤ 12
  rotate_left
  · have h4' : decide (m ≤ 12) = false := by simpa using h4
    have HL : Hid (vd y m d = false) := Lib.hid (by simp [vd, h1, h2, h3, h4])
    go_enter Tryd.func15, Tryd.ntmps15
    go_wp2
    go_quiet (fail)
    go_wp2
    go_ret
    exact ⟨ret_bool HL.out.symm, below_drewN (by go_grown) _⟩
  by_cases h5 : 1 ≤ d
  rotate_left
  · have h5' : decide (1 ≤ d) = false := by simpa using h5
    have HL : Hid (vd y m d = false) := Lib.hid (by simp [vd, h1, h2, h3, h4, h5])
    go_enter Tryd.func15, Tryd.ntmps15
    go_wp2
    go_quiet (fail)
    go_wp2
    go_ret
    exact ⟨ret_bool HL.out.symm, below_drewN (by go_grown) _⟩
  have HL : Hid (vd y m d = decide (d ≤ len y m)) := Lib.hid (by simp [vd, h1, h2, h3, h4, h5])
  have hB0 : ∀ o, Below w.heap.size w (w.alloc o).drew := fun o => ((Below.refl _ _).alloc (Nat.le_refl _) _).drew
  go_enter Tryd.func15, Tryd.ntmps15
  go_wp2_with fail
  go_region_held3 (fun w' => w'.cell? ⟨w.heap.size, 0, none⟩ = some (.int .i64 y) ∧ w'.cell? ⟨w.heap.size, 1, none⟩ = some (.int .i64 m) ∧ w'.cell? ⟨w.heap.size, 2, none⟩ = some (.int .i64 d) ∧ w.heap.size < w'.heap.size ∧ Below w.heap.size w w') (go_keep)
    (first | (go_at_call 48; refine (rlength_any _ _ _ (by omega)).mono ?_; rintro e w' ⟨rfl, rfl⟩))
  all_goals
    go_wp2
    go_ret
    exact ⟨ret_bool HL.out.symm, by first | assumption | exact hB0 _⟩
end Go.Proofs.YtpknkomkldgnfaaDoor
