/- The walk of CalendarDates. -/
import Derived.Test.YtpknkomkldgnfaaDoorF1
namespace Go.Proofs.YtpknkomkldgnfaaDoor
open Go.RowKit Go.Sort Cal
theorem dates_walk (y m d : Int) (w : World) (hT : Tab w) :
    Calls Tryd.prog 3 #[.agg #[.int .i64 y, .int .i64 m, .int .i64 d]] w fun e w' => e = .returned (.bool true) ∧ Below w.heap.size w w' := by
  have hT1 : Hid (∀ o d os, Tab (grow (redrawn (w.alloc o) d) os)) := Lib.hid fun o d os => (hT.alloc o).regrown d os
  clear hT
  have c0 : ∀ t d' os, (grow (redrawn (w.alloc (.cells #[.int .i64 y, .int .i64 m, .int .i64 d] t)) d') os).cell? ⟨w.heap.size, 0, none⟩ = some (.int .i64 y) := fun t d' os => cell_regrown (by simp) d' os
  have c1 : ∀ t d' os, (grow (redrawn (w.alloc (.cells #[.int .i64 y, .int .i64 m, .int .i64 d] t)) d') os).cell? ⟨w.heap.size, 1, none⟩ = some (.int .i64 m) := fun t d' os => cell_regrown (by simp) d' os
  have c2 : ∀ t d' os, (grow (redrawn (w.alloc (.cells #[.int .i64 y, .int .i64 m, .int .i64 d] t)) d') os).cell? ⟨w.heap.size, 2, none⟩ = some (.int .i64 d) := fun t d' os => cell_regrown (by simp) d' os
  go_enter Tryd.func3, Tryd.ntmps3
  go_wp2_with fail
  refine wp_region_quiet_below (by kernel_rfl) (by kernel_rfl) ?_
  repeat (go_big_quiet_step (first
    | (go_at_call 14; exact Calls.regrown_of (valid_any y m d _))
    | (go_at_call 15; exact Calls.regrown_of (rvalid_any y m d _))
    | (go_at_call 16; exact Calls.regrown_of (number_any y m d _))
    | (go_at_call 17; exact Calls.regrown_of (rnumber_any y m d _))
    | (go_at_call 18; exact Calls.regrown_of (awake_any _ (hT1.out _ _ _)))))
  refine wpQuiet_nil ?_
  intro _ hw'
  obtain ⟨⟨dq, osq⟩, hw''⟩ := hw'
  subst hw''
  go_wp2
  go_ret
  exact ⟨rfl, ((Below.refl _ _).alloc (Nat.le_refl _) _).trans ((below_regrown _ dq osq).mono (by simp))⟩
end Go.Proofs.YtpknkomkldgnfaaDoor
