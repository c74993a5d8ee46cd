/- Contracts of DateOf, PeriodOf, Weekday, of the program and of the reference: any number. -/
import Derived.Test.YtpknkomkldgnfaaDoorL2
import Derived.Deep.LoopGhost
import Derived.Deep.RegionWith
namespace Go.Proofs.YtpknkomkldgnfaaDoor
open Go.RowKit Go.Sort Cal
theorem cell_blk {w : World} {b : Nat} {cs : Array Value} {t : TypeId} (h : w.heap[b]? = some (.cells cs t (0, 0))) (j : Nat) (u : Value) (hj : cs[j]? = some u) : w.cell? ⟨b, j, none⟩ = some u := by
  simp [World.cell?, h, hj]
theorem free_blk {w : World} {b : Nat} {cs : Array Value} {t : TypeId} (h : w.heap[b]? = some (.cells cs t (0, 0))) (j : Nat) : w.frozen? ⟨b, j, none⟩ = false := by
  simp [World.frozen?, h]
theorem set_blk {w : World} {b : Nat} {cs : Array Value} {t : TypeId} (h : w.heap[b]? = some (.cells cs t (0, 0))) (j : Nat) (v : Value) : (w.setCell ⟨b, j, none⟩ v).heap[b]? = some (.cells (cs.setIfInBounds j v) t (0, 0)) := by
  simp [World.setCell, Array.getElem?_modify, h]
theorem set_other {w : World} {b b' : Nat} {o : Option Obj} (h : w.heap[b']? = o) (hne : b' ≠ b) (j : Nat) (v : Value) : (w.setCell ⟨b, j, none⟩ v).heap[b']? = o := by
  rw [Below.heap_setCell _ _ _ _ hne]; exact h
def isDay (n : Int) : Bool := decide (0 ≤ n ∧ n ≤ 182620)
theorem isDay_yes {n : Int} (h0 : 0 ≤ n) (h1 : n ≤ 182620) : isDay n = true := by simp [isDay, h0, h1]
theorem isDay_no {n : Int} (h : n < 0 ∨ 182620 < n) : isDay n = false := by simp [isDay]; omega
theorem isvalid_any (n : Int) (w : World) : Calls Tryd.prog 51 #[.int .i64 n] w fun e w' => e = .returned (.bool (isDay n)) ∧ w = w' := by
  by_cases h0 : 0 ≤ n
  · have HL : Hid (isDay n = decide (n ≤ 182620)) := Lib.hid (by simp [isDay, h0])
    go_enter Tryd.func51, Tryd.ntmps51
    go_wp2
    go_ret
    exact ⟨ret_bool HL.out.symm, rfl⟩
  · have h0' : decide (0 ≤ n) = false := by simpa using h0
    have HL : Hid (isDay n = false) := Lib.hid (by simp [isDay, h0])
    go_enter Tryd.func51, Tryd.ntmps51
    go_wp2
    go_ret
    exact ⟨ret_bool HL.out.symm, rfl⟩
/-- The day of a month on which a day lies. -/
def domOf (n : Int) : Int := n - fd (per n) + 1
def dateV (n : Int) : Value := .agg #[.int .i64 (1900 + (per n : Int) / 12), .int .i64 ((per n : Int) % 12 + 1), .int .i64 (domOf n)]
theorem dateOf_no (n : Int) (w : World) (h : n < 0 ∨ 182620 < n) :
    Calls Tryd.prog 31 #[.int .i64 n] w fun e w' => e = .returned (.tuple #[.agg #[.int .i64 0, .int .i64 0, .int .i64 0], .bool false]) ∧ Below w.heap.size w w' := by
  have hv := isDay_no h
  clear h
  go_enter Tryd.func31, Tryd.ntmps31
  go_wp2_with (go_at_call 51; refine (isvalid_any _ _).mono ?_; rintro e w' ⟨rfl, rfl⟩)
  go_returns
  exact ⟨rfl, by go_grown⟩
/-- The date's block and the result's, in a world that has grown. -/
structure Two (w0 : World) (B : Nat) (y m d : Int) (w : World) : Prop where
  r : w.heap[B]? = some (.cells #[.int .i64 0, .int .i64 0, .int .i64 0] 23 (0, 0))
  b : w.heap[B + 1]? = some (.cells #[.int .i64 y, .int .i64 m, .int .i64 d] 23 (0, 0))
  lo : w0.heap.size ≤ B
  bl : Below w0.heap.size w0 w
theorem Two.lt {w0 w : World} {B : Nat} {y m d : Int} (h : Two w0 B y m d w) : B + 1 < w.heap.size := (Array.getElem?_eq_some_iff.1 h.b).1
theorem Two.step {w0 w w1 : World} {B : Nat} {y m d : Int} (h : Two w0 B y m d w) (hb : Below w.heap.size w w1) : Two w0 B y m d w1 :=
  ⟨(hb.block _ (by have := h.lt; omega)).trans h.r, (hb.block _ h.lt).trans h.b, h.lo, h.bl.trans (hb.mono (by have := h.lt; have := h.lo; omega))⟩
theorem Two.new (w : World) (y : Int) : Two w w.heap.size y 1 0 ((w.alloc (.cells #[.int .i64 0, .int .i64 0, .int .i64 0] 23)).alloc (.cells #[.int .i64 y, .int .i64 1, .int .i64 0] 23)) :=
  ⟨by show ((w.heap.push _).push _)[_]? = _; rw [Array.getElem?_push, if_neg (by simp), Array.getElem?_push, if_pos rfl], by show ((w.heap.push _).push _)[_]? = _; rw [Array.getElem?_push, if_pos (by simp)], Nat.le_refl _, by go_grown⟩
theorem Two.set0 {w0 w : World} {B : Nat} {y m d : Int} (h : Two w0 B y m d w) (v : Int) : Two w0 B v m d (w.setCell ⟨B + 1, 0, none⟩ (.int .i64 v)) :=
  ⟨set_other h.r (by omega) _ _, set_blk h.b 0 _, h.lo, h.bl.setCell (by have := h.lo; simp; omega) _⟩
theorem Two.set1 {w0 w : World} {B : Nat} {y m d : Int} (h : Two w0 B y m d w) (v : Int) : Two w0 B y v d (w.setCell ⟨B + 1, 1, none⟩ (.int .i64 v)) :=
  ⟨set_other h.r (by omega) _ _, set_blk h.b 1 _, h.lo, h.bl.setCell (by have := h.lo; simp; omega) _⟩
theorem Two.set2 {w0 w : World} {B : Nat} {y m d : Int} (h : Two w0 B y m d w) (v : Int) : Two w0 B y m v (w.setCell ⟨B + 1, 2, none⟩ (.int .i64 v)) :=
  ⟨set_other h.r (by omega) _ _, set_blk h.b 2 _, h.lo, h.bl.setCell (by have := h.lo; simp; omega) _⟩
theorem Two.cells {w0 w : World} {B : Nat} {y m d : Int} (h : Two w0 B y m d w) : (w.cell? ⟨B + 1, 0, none⟩ = some (.int .i64 y) ∧ w.cell? ⟨B + 1, 1, none⟩ = some (.int .i64 m) ∧ w.cell? ⟨B + 1, 2, none⟩ = some (.int .i64 d)) ∧
    (w.frozen? ⟨B + 1, 0, none⟩ = false ∧ w.frozen? ⟨B + 1, 1, none⟩ = false ∧ w.frozen? ⟨B + 1, 2, none⟩ = false) :=
  ⟨⟨cell_blk h.b 0 _ rfl, cell_blk h.b 1 _ rfl, cell_blk h.b 2 _ rfl⟩, free_blk h.b 0, free_blk h.b 1, free_blk h.b 2⟩
theorem date_fin (n y : Int) (k : Nat) (h0 : 0 ≤ n) (h1 : n ≤ 182620) (hy : 1900 ≤ y) (hk : k < 12) (hlo : fd (12 * (y - 1900) + k).toNat ≤ n) (hhi : n < fd (12 * (y - 1900) + k).toNat + len y ((k : Int) + 1)) :
    dateV n = .agg #[.int .i64 y, .int .i64 ((k : Int) + 1), .int .i64 (n - fd (12 * (y - 1900) + k).toNat + 1)] := by
  have e := fd_month y k hy hk
  have e2 : (12 * (y - 1900) + ((k + 1 : Nat) : Int)).toNat = (12 * (y - 1900) + (k : Int)).toNat + 1 := by omega
  rw [e2] at e
  have hp : per n = (12 * (y - 1900) + k).toNat := per_of _ n h0 (by omega) hlo (by rw [e]; exact hhi)
  unfold dateV domOf
  rw [hp]
  have a1 : 1900 + (((12 * (y - 1900) + (k : Int)).toNat : Nat) : Int) / 12 = y := by omega
  have a2 : (((12 * (y - 1900) + (k : Int)).toNat : Nat) : Int) % 12 + 1 = (k : Int) + 1 := by omega
  rw [a1, a2]
theorem dec_bound (n y : Int) (hy : 1900 ≤ y) (hhi : n < bef (y + 1)) : n < fd (12 * (y - 1900) + (11 : Nat)).toNat + len y (((11 : Nat) : Int) + 1) := by
  have e := fd_month y 11 hy (by omega)
  have e2 := bef_fd (y + 1) (by omega)
  have e3 : (12 * (y - 1900) + ((11 + 1 : Nat) : Int)).toNat = (12 * (y + 1 - 1900)).toNat := by omega
  rw [e3, ← e2] at e
  omega
set_option maxHeartbeats 1600000 in
theorem dateOf_yes (n : Int) (w : World) (h0 : 0 ≤ n) (h1 : n ≤ 182620) :
    Calls Tryd.prog 31 #[.int .i64 n] w fun e w' => e = .returned (.tuple #[dateV n, .bool true]) ∧ Below w.heap.size w w' := by
  have hv := isDay_yes h0 h1
  have hb500 : Hid (bef 2400 = 182621) := Lib.hid (by decide)
  have hb0 : Hid (bef 1900 = 0) := Lib.hid (by decide)
  go_enter Tryd.func31, Tryd.ntmps31
  go_wp2_with (go_at_call 51; refine (isvalid_any _ _).mono ?_; rintro e w' ⟨rfl, rfl⟩)
  go_loopg [] 1000 (fun g wr => ∃ y : Int, 1900 ≤ y ∧ y ≤ 2400 ∧ n < bef (y + 1) ∧ y.toNat ≤ g + 1400 ∧ Two w w.heap.size y 1 0 wr)
  case atStart => exact ⟨1900 + n / 365, by omega, by omega, by unfold bef; omega, by omega, Two.new w _⟩
  case round =>
    obtain ⟨y, hy1, hy2, hy3, hg, hB⟩ := hrel
    have HB := Lib.hid hB
    have HG := Lib.hid hg
    have HY := Lib.hid hy3
    obtain ⟨⟨c0, c1, c2⟩, f0, f1, f2⟩ := hB.cells
    clear hB hg hy3
    have bb : 0 ≤ bef y ∧ bef y ≤ 190000 := by unfold bef; omega
    by_cases hgt : n < bef y
    · go_wp2_with (first
        | (go_at_call 49; refine (before_any y _ (by omega) (by omega)).mono ?_; rintro e w' ⟨rfl, rfl⟩)
        | fail)
      have hy9 : 1901 ≤ y := by
        by_cases e : y = 1900
        · subst e; have := hb0.out; omega
        · omega
      go_roundg (gk - 1)
      case rel => exact ⟨y - 1, by omega, by omega, by rw [show y - 1 + 1 = y from by omega]; exact hgt, by have := HG.out; omega, HB.out.set0 (y - 1)⟩
      case measure => have := HG.out; omega
    · have hy9 : y ≤ 2399 := by
        by_cases e : y = 2400
        · subst e; have := hb500.out; omega
        · omega
      go_wp2_with (first
        | (go_at_call 49; refine (before_any y _ (by omega) (by omega)).mono ?_; rintro e w' ⟨rfl, rfl⟩)
        | fail)
      have HB2 := Lib.hid (HB.out.set2 (n - bef y + 1))
      have hlo : bef y ≤ n := by omega
      have HF : Hid (bef y = fd (12 * (y - 1900) + ((0 : Nat) : Int)).toNat) := Lib.hid (by rw [bef_fd y hy1]; congr 2; omega)
      clear c0 c1 c2 f0 f1 f2
      go_loopg [] 12 (fun g wx => ∃ k : Nat, k < 12 ∧ g + k = 12 ∧ fd (12 * (y - 1900) + k).toNat ≤ n ∧ Two w w.heap.size y ((k : Int) + 1) (n - fd (12 * (y - 1900) + k).toNat + 1) wx)
      case atStart => exact ⟨0, by omega, by omega, by rw [← HF.out]; exact hlo, by rw [← HF.out]; exact HB2.out⟩
      case round =>
        obtain ⟨k, hk, hgk, hkl, hB3⟩ := hrel
        have HB3 := Lib.hid hB3
        have HK := Lib.hid hgk
        have hf := fd_hi (12 * (y - 1900) + k).toNat
        have hl := len_bd y ((k : Int) + 1)
        obtain ⟨⟨c0, c1, c2⟩, f0, f1, f2⟩ := hB3.cells
        have q0 := fun d os => cell_regrown c0 d os
        have q1 := fun d os => cell_regrown c1 d os
        have q2 := fun d os => cell_regrown c2 d os
        clear hB3 hgk
        have HN : Hid (n < bef (y + 1)) := HY
        by_cases hgt : len y ((k : Int) + 1) < n - fd (12 * (y - 1900) + k).toNat + 1
        · have hk11 : k < 11 := by
            by_cases e : k = 11
            · subst e; have := dec_bound n y hy1 HN.out; omega
            · omega
          go_wp2_with fail
          refine wp_region_quiet_below (by kernel_rfl) (by kernel_rfl) ?_
          repeat (go_big_quiet_step ((go_at_call 47; exact Calls.regrown_of (length_any y ((k : Int) + 1) _ (by omega) (by omega) (by omega)))))
          refine wpQuiet_nil ?_
          intro _ hw'
          obtain ⟨⟨dq, osq⟩, hw''⟩ := hw'
          subst hw''
          have HB4 := Lib.hid (HB3.out.step (below_regrown wr dq osq))
          clear q0 q1 q2 c0 c1 c2 f0 f1 f2
          generalize grow (redrawn wr dq) osq = wq at *
          obtain ⟨⟨c0, c1, c2⟩, f0, f1, f2⟩ := HB4.out.cells
          have HS : Hid (fd (12 * (y - 1900) + ((k + 1 : Nat) : Int)).toNat = fd (12 * (y - 1900) + (k : Int)).toNat + len y ((k : Int) + 1)) := Lib.hid (fd_month y k hy1 hk)
          go_wp2_with fail
          go_region_with (go_at_call 47; refine (length_any y ((k : Int) + 1) _ (by omega) (by omega) (by omega)).mono ?_; rintro e w1 ⟨rfl, hb1⟩; have hB5 := HB4.out.step ((Below.refl _ wq).drew.trans hb1); have HB5 := Lib.hid hB5; obtain ⟨⟨e0, e1, e2⟩, g0, g1, g2⟩ := hB5.cells; clear hB5 hb1)
          all_goals
            have hs2 := HB5.out.set2 (n - fd (12 * (y - 1900) + k).toNat + 1 - len y ((k : Int) + 1))
            have HS2 := Lib.hid hs2
            obtain ⟨⟨i0, i1, i2⟩, j0, j1, j2⟩ := hs2.cells
            go_wp2
            go_roundg (gk - 1)
            case rel =>
              have e1 : n - fd (12 * (y - 1900) + ((k + 1 : Nat) : Int)).toNat + 1 = n - fd (12 * (y - 1900) + (k : Int)).toNat + 1 - len y ((k : Int) + 1) := by rw [HS.out]; omega
              refine ⟨k + 1, by omega, by have := HK.out; omega, by rw [HS.out]; omega, ?_⟩
              rw [e1]
              exact HS2.out.set1 ((k : Int) + 1 + 1)
            case measure => have := HK.out; omega
        · have HD : Hid (dateV n = .agg #[.int .i64 y, .int .i64 ((k : Int) + 1), .int .i64 (n - fd (12 * (y - 1900) + k).toNat + 1)]) := Lib.hid (date_fin n y k h0 h1 hy1 hk hkl (by omega))
          go_wp2_with fail
          refine wp_region_quiet_below (by kernel_rfl) (by kernel_rfl) ?_
          repeat (go_big_quiet_step ((go_at_call 47; exact Calls.regrown_of (length_any y ((k : Int) + 1) _ (by omega) (by omega) (by omega)))))
          refine wpQuiet_nil ?_
          intro _ hw'
          obtain ⟨⟨dq, osq⟩, hw''⟩ := hw'
          subst hw''
          have HB4 := Lib.hid (HB3.out.step (below_regrown wr dq osq))
          clear q0 q1 q2 c0 c1 c2 f0 f1 f2
          generalize grow (redrawn wr dq) osq = wq at *
          obtain ⟨⟨c0, c1, c2⟩, f0, f1, f2⟩ := HB4.out.cells
          have z0 := cell_blk HB4.out.r 0 _ rfl
          have z1 := cell_blk HB4.out.r 1 _ rfl
          have z2 := cell_blk HB4.out.r 2 _ rfl
          have k0 := free_blk HB4.out.r 0
          have k1 := free_blk HB4.out.r 1
          have k2 := free_blk HB4.out.r 2
          have hr3 := set_blk (set_blk (set_blk HB4.out.r 0 (.int .i64 y)) 1 (.int .i64 ((k : Int) + 1))) 2 (.int .i64 (n - fd (12 * (y - 1900) + k).toNat + 1))
          have a0 := cell_blk hr3 0 (.int .i64 y) rfl
          have a1 := cell_blk hr3 1 (.int .i64 ((k : Int) + 1)) rfl
          have a2 := cell_blk hr3 2 (.int .i64 (n - fd (12 * (y - 1900) + k).toNat + 1)) rfl
          clear hr3
          go_wp2
          refine bodyPost_ret (v := .tuple #[.agg #[.int .i64 y, .int .i64 ((k : Int) + 1), .int .i64 (n - fd (12 * (y - 1900) + k).toNat + 1)], .bool true]) (by simp [results, Tryd.results31, go_sem, a0, a1, a2]) rfl ⟨by rw [HD.out], ?_⟩
          exact ((HB4.out.bl.setCell (by simp) _).setCell (by simp) _).setCell (by simp) _
end Go.Proofs.YtpknkomkldgnfaaDoor
