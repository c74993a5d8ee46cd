/- Contracts of Number and FirstDay, of the program and of the reference: any date, any number. -/
import Derived.Test.YtpknkomkldgnfaaDoorC2
namespace Go.Proofs.YtpknkomkldgnfaaDoor
open Go.RowKit Cal
/-- The reference's first day of a month. -/
theorem rfirst_no (p : Int) (w : World) (h : p < 0 ∨ 5999 < p) :
    Calls Tryd.prog 26 #[.int .i64 p] w fun e w' => e = .returned (.int .i64 (-1)) ∧ w = w' := by
  rcases h with h | h
  · go_enter Tryd.func26, Tryd.ntmps26
    go_wp2
    go_ret
    exact ⟨rfl, rfl⟩
  · have h' : ¬ p < 0 := by omega
    go_enter Tryd.func26, Tryd.ntmps26
    go_wp2
    go_ret
    exact ⟨rfl, rfl⟩
theorem rfirst_yes (p : Nat) (w : World) (h : (p : Int) ≤ 5999) :
    Calls Tryd.prog 26 #[.int .i64 p] w fun e w' => e = .returned (.int .i64 (fd p)) ∧ w = w' := by
  have h0 : ¬ (p : Int) < 0 := by omega
  go_enter Tryd.func26, Tryd.ntmps26
  go_wp2_with fail
  go_loop [3, 4] (fun n q => ∃ k : Nat, k ≤ p ∧ q = .int .i64 k ∧ n = .int .i64 (fd k)) (fun _ q => p - (intOf q).toNat)
  case atStart => exact ⟨0, Nat.zero_le _, rfl, rfl⟩
  case round =>
    obtain ⟨k, hk, rfl, rfl⟩ := hrel
    have hf := fd_hi k
    have hl := len_bd (1900 + (k : Int) / 12) ((k : Int) % 12 + 1)
    have HS : Hid (fd (k + 1) = fd k + len (1900 + (k : Int) / 12) ((k : Int) % 12 + 1)) := Lib.hid (fd_succ k)
    by_cases hlt : k < p
    · go_wp2_with (go_at_call 48; refine (rlength_any _ _ _ (by omega)).mono ?_; rintro e w' ⟨rfl, rfl⟩)
      go_round
      case rel => exact ⟨k + 1, by omega, by go_num, by rw [HS.out]⟩
      case measure => simp [intOf]; omega
    · obtain rfl : k = p := by omega
      go_wp2
      go_ret
      exact ⟨rfl, rfl⟩
theorem rfirst_any (p : Int) (w : World) :
    Calls Tryd.prog 26 #[.int .i64 p] w fun e w' => e = .returned (.int .i64 (fday p)) ∧ w = w' := by
  by_cases h : 0 ≤ p ∧ p ≤ 5999
  · obtain ⟨n, rfl⟩ := Int.eq_ofNat_of_zero_le h.1
    refine (rfirst_yes n w h.2).mono ?_
    rintro e w' ⟨rfl, rfl⟩
    exact ⟨ret_int (by unfold fday; rw [if_pos h]; rfl), rfl⟩
  · refine (rfirst_no p w (by omega)).mono ?_
    rintro e w' ⟨rfl, rfl⟩
    exact ⟨ret_int (by unfold fday; rw [if_neg h]), rfl⟩

/-- A date that lies boxed in block B stays where it is; below B nothing turns. -/
structure Box3 (B : Nat) (w0 : World) (y m d : Int) (w : World) : Prop where
  c0 : w.cell? ⟨B, 0, none⟩ = some (.int .i64 y)
  c1 : w.cell? ⟨B, 1, none⟩ = some (.int .i64 m)
  c2 : w.cell? ⟨B, 2, none⟩ = some (.int .i64 d)
  sz : B < w.heap.size
  lo : B ≤ w0.heap.size
  bl : Below B w0 w
theorem Box3.step {B : Nat} {w0 w w1 : World} {y m d : Int} (h : Box3 B w0 y m d w) (hb : Below w.heap.size w w1) : Box3 B w0 y m d w1 :=
  ⟨(hb.cell (p := ⟨B, 0, none⟩) h.sz).trans h.c0, (hb.cell (p := ⟨B, 1, none⟩) h.sz).trans h.c1, (hb.cell (p := ⟨B, 2, none⟩) h.sz).trans h.c2, Nat.lt_of_lt_of_le h.sz hb.size, h.lo, h.bl.trans (hb.mono (Nat.le_of_lt h.sz))⟩
theorem Box3.drewN {B : Nat} {w0 w : World} {y m d : Int} (h : Box3 B w0 y m d w) (n : Nat) : Box3 B w0 y m d (w.drewN n) :=
  h.step (below_drewN (Below.refl _ _) n)
theorem Box3.new (w : World) (y m d : Int) (t : TypeId) : Box3 w.heap.size w y m d (w.alloc (.cells #[.int .i64 y, .int .i64 m, .int .i64 d] t)) :=
  ⟨by simp, by simp, by simp, by simp, Nat.le_refl _, (Below.refl _ _).alloc (Nat.le_refl _) _⟩
theorem number_no (y m d : Int) (w : World) (hv : vd y m d = false) :
    Calls Tryd.prog 16 #[.agg #[.int .i64 y, .int .i64 m, .int .i64 d]] w fun e w' => e = .returned (.int .i64 (-1)) ∧ Below w.heap.size w w' := by
  go_enter Tryd.func16, Tryd.ntmps16
  go_wp2_with (go_at_call 14; refine (valid_any y m d _).mono ?_; rintro e w1 ⟨rfl, hb⟩; have hB := ((Box3.new w y m d _).step hb).bl)
  go_ret
  exact ⟨rfl, hB⟩
end Go.Proofs.YtpknkomkldgnfaaDoor
