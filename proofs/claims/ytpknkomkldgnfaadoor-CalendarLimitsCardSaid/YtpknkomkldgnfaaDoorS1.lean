/- Contracts of Shift, of the program and of the reference: any day, any number, any list. -/
import Derived.Test.YtpknkomkldgnfaaDoorL3
import Derived.Test.YtpknkomkldgnfaaDoorSh
namespace Go.Proofs.YtpknkomkldgnfaaDoor
open Go.RowKit Go.Sort Cal Go.Maps
theorem day_cal (n : Int) : isDay n = inCal n := rfl
theorem ret2_int {a b c d : Int} (h1 : a = b) (h2 : c = d) : Ending.returned (.tuple #[.int .i64 a, .int .i64 c]) = .returned (.tuple #[.int .i64 b, .int .i64 d]) := by rw [h1, h2]
def shiftT (zs : List Int) (day k : Int) : Option Int :=
  if k < 0 then goTo (worksB zs) (-1) 200000 day (-k).toNat else if k = 0 then goTo (worksB zs) 1 200000 (day - 1) 1 else goTo (worksB zs) 1 200000 day k.toNat
/-- The day reached, and the error. -/
def shiftR (zs : List Int) (day k : Int) : Int × Int :=
  if isDay day = false then (0, 50) else if k < -1000 ∨ 1000 < k then (0, 51) else if 400 < zs.length then (0, 52) else outS (shiftT zs day k)
theorem sh_day (day k : Int) (q : Option Addr) (n c : Nat) (zs : List Int) (w : World) (h : day < 0 ∨ 182620 < day) :
    Calls Tryd.prog 37 #[.int .i64 day, .int .i64 k, .slice q n c] w fun e w' => e = .returned (.tuple #[.int .i64 (shiftR zs day k).1, .int .i64 (shiftR zs day k).2]) ∧ w = w' := by
  have hv := isDay_no h
  have HR : Hid (shiftR zs day k = (0, 50)) := Lib.hid (by unfold shiftR; rw [if_pos hv])
  clear h
  go_enter Tryd.func37, Tryd.ntmps37
  go_wp2_with (first
    | (go_at_call 51; refine (isvalid_any _ _).mono ?_; rintro e w' ⟨rfl, rfl⟩)
    | fail)
  go_ret2
  exact ⟨by rw [HR.out]; rfl, rfl⟩
theorem sh_lo (day k : Int) (q : Option Addr) (n c : Nat) (zs : List Int) (w : World) (h0 : 0 ≤ day) (h1 : day ≤ 182620) (hk : k < -1000) :
    Calls Tryd.prog 37 #[.int .i64 day, .int .i64 k, .slice q n c] w fun e w' => e = .returned (.tuple #[.int .i64 (shiftR zs day k).1, .int .i64 (shiftR zs day k).2]) ∧ w = w' := by
  have hv := isDay_yes h0 h1
  have HR : Hid (shiftR zs day k = (0, 51)) := Lib.hid (by unfold shiftR; rw [if_neg (by simp [hv]), if_pos (by omega)])
  go_enter Tryd.func37, Tryd.ntmps37
  go_wp2_with (first
    | (go_at_call 51; refine (isvalid_any _ _).mono ?_; rintro e w' ⟨rfl, rfl⟩)
    | fail)
  go_ret2
  exact ⟨by rw [HR.out]; rfl, rfl⟩
theorem sh_hi (day k : Int) (q : Option Addr) (n c : Nat) (zs : List Int) (w : World) (h0 : 0 ≤ day) (h1 : day ≤ 182620) (hk : 1000 < k) :
    Calls Tryd.prog 37 #[.int .i64 day, .int .i64 k, .slice q n c] w fun e w' => e = .returned (.tuple #[.int .i64 (shiftR zs day k).1, .int .i64 (shiftR zs day k).2]) ∧ w = w' := by
  have hv := isDay_yes h0 h1
  have HR : Hid (shiftR zs day k = (0, 51)) := Lib.hid (by unfold shiftR; rw [if_neg (by simp [hv]), if_pos (by omega)])
  go_enter Tryd.func37, Tryd.ntmps37
  go_wp2_with (first
    | (go_at_call 51; refine (isvalid_any _ _).mono ?_; rintro e w' ⟨rfl, rfl⟩)
    | fail)
  go_ret2
  exact ⟨by rw [HR.out]; rfl, rfl⟩
theorem sh_long (day k : Int) (q : Option Addr) (n c : Nat) (zs : List Int) (w : World) (h0 : 0 ≤ day) (h1 : day ≤ 182620) (k0 : -1000 ≤ k) (k1 : k ≤ 1000) (en : n = zs.length) (hn : 400 < n) :
    Calls Tryd.prog 37 #[.int .i64 day, .int .i64 k, .slice q n c] w fun e w' => e = .returned (.tuple #[.int .i64 (shiftR zs day k).1, .int .i64 (shiftR zs day k).2]) ∧ w = w' := by
  have hv := isDay_yes h0 h1
  have HR : Hid (shiftR zs day k = (0, 52)) := Lib.hid (by unfold shiftR; rw [if_neg (by simp [hv]), if_neg (by omega), if_pos (by omega)])
  clear en
  go_enter Tryd.func37, Tryd.ntmps37
  go_wp2_with (first
    | (go_at_call 51; refine (isvalid_any _ _).mono ?_; rintro e w' ⟨rfl, rfl⟩)
    | fail)
  go_ret2
  exact ⟨by rw [HR.out]; rfl, rfl⟩
set_option maxHeartbeats 800000 in
theorem sh_neg (day k : Int) (q : Option Addr) (n c : Nat) (zs : List Int) (w : World) (h0 : 0 ≤ day) (h1 : day ≤ 182620) (k0 : -1000 ≤ k) (k1 : k ≤ 1000) (en : n = zs.length) (hn : n ≤ 400) (hz : IntsAt w (.slice q n c) zs) (hf : Fits zs) (hk : k < 0) :
    Calls Tryd.prog 37 #[.int .i64 day, .int .i64 k, .slice q n c] w fun e w' => e = .returned (.tuple #[.int .i64 (shiftR zs day k).1, .int .i64 (shiftR zs day k).2]) ∧ Below w.heap.size w w' := by
  have hv := isDay_yes h0 h1
  obtain ⟨T, eT⟩ : ∃ T, T = shiftT zs day k := ⟨_, rfl⟩
  have HR : Hid (shiftR zs day k = outS T) := Lib.hid (by unfold shiftR; rw [if_neg (by simp [hv]), if_neg (by omega), if_neg (by omega), eT])
  have HT : Hid (goTo (worksB zs) (-1) 200000 day (-k).toNat = T) := Lib.hid (by rw [eT]; unfold shiftT; rw [if_pos hk])
  have HZ := Lib.hid hz
  have HF := Lib.hid hf
  clear hz hf en eT
  go_enter Tryd.func37, Tryd.ntmps37
  go_wp2_with (first
    | (go_at_call 51; refine (isvalid_any _ _).mono ?_; rintro e w' ⟨rfl, rfl⟩)
    | (go_at_call 53; refine (set_any _ zs _ HZ.out HF.out).mono ?_; rintro e w1 ⟨B, rfl, hB, hown, hb⟩)
    | fail)
  have HO := Lib.hid hown
  clear hown hv
  go_loop [0, 10] (fun d r => ∃ (g : Nat) (D : Int) (R : Nat), d = .int .i64 D ∧ r = .int .i64 R ∧ goTo (worksB zs) (-1) g D R = T ∧ R ≤ 1000 ∧ 0 ≤ D ∧ D ≤ 182620 ∧ D + 1 ≤ (g : Int)) (fun d _ => (intOf d + 1).toNat)
  case atStart => exact ⟨200000, day, (-k).toNat, rfl, ret_val (by omega), HT.out, by omega, by omega, by omega, by omega⟩
  case round =>
    obtain ⟨g, D, R, rfl, rfl, hg, hR3, b1, b2, b3⟩ := hrel
    have HG := Lib.hid hg
    clear hg
    by_cases hR : 0 < R
    · by_cases hd : 0 ≤ D + -1 ∧ D + -1 ≤ 182620
      · have hv2 := isDay_yes hd.1 hd.2
        have HC : Hid (inCal (D + -1) = true) := hv2
        by_cases hw : worksB zs (D + -1) = true
        · have HN : Hid (goTo (worksB zs) (-1) (g - 1) (D + -1) (R - 1) = T) := Lib.hid (by rw [← HG.out]; exact (go_work' _ _ g D R (by omega) hR HC.out hw).symm)
          go_wp2_with (first
            | (go_at_call 51; refine (isvalid_any _ _).mono ?_; rintro e w' ⟨rfl, rfl⟩)
            | (go_at_call 52; refine (works_any (D + -1) zs B _ _ hd.1 hd.2 HO.out).mono ?_; rintro e w' ⟨rfl, rfl⟩)
            | fail)
          go_round
          case rel => exact ⟨g - 1, D + -1, R - 1, rfl, ret_val (by omega), HN.out, by omega, by omega, by omega, by omega⟩
          case measure => simp [intOf]; omega
        · have hw' : worksB zs (D + -1) = false := by simpa using hw
          clear hw
          have HN : Hid (goTo (worksB zs) (-1) (g - 1) (D + -1) R = T) := Lib.hid (by rw [← HG.out]; exact (go_rest' _ _ g D R (by omega) hR HC.out hw').symm)
          go_wp2_with (first
            | (go_at_call 51; refine (isvalid_any _ _).mono ?_; rintro e w' ⟨rfl, rfl⟩)
            | (go_at_call 52; refine (works_any (D + -1) zs B _ _ hd.1 hd.2 HO.out).mono ?_; rintro e w' ⟨rfl, rfl⟩)
            | fail)
          go_round
          case rel => exact ⟨g - 1, D + -1, R, rfl, rfl, HN.out, by omega, by omega, by omega, by omega⟩
          case measure => simp [intOf]; omega
      · have hv2 := isDay_no (n := D + -1) (by omega)
        have HN : Hid (T = none) := Lib.hid (by rw [← HG.out]; exact go_out' _ _ g D R (by omega) hR hv2)
        clear hd
        go_wp2_with (first
          | (go_at_call 51; refine (isvalid_any _ _).mono ?_; rintro e w' ⟨rfl, rfl⟩)
          | fail)
        go_ret2
        exact ⟨by rw [HR.out, HN.out]; rfl, hb⟩
    · obtain rfl : R = 0 := by omega
      have HN : Hid (T = some D) := Lib.hid (by rw [← HG.out]; exact go_zero _ _ _ _)
      go_wp2
      go_ret2
      exact ⟨by rw [HR.out, HN.out]; rfl, hb⟩
set_option maxHeartbeats 800000 in
theorem sh_pos (day k : Int) (q : Option Addr) (n c : Nat) (zs : List Int) (w : World) (h0 : 0 ≤ day) (h1 : day ≤ 182620) (k0 : -1000 ≤ k) (k1 : k ≤ 1000) (en : n = zs.length) (hn : n ≤ 400) (hz : IntsAt w (.slice q n c) zs) (hf : Fits zs) (hk : 0 < k) :
    Calls Tryd.prog 37 #[.int .i64 day, .int .i64 k, .slice q n c] w fun e w' => e = .returned (.tuple #[.int .i64 (shiftR zs day k).1, .int .i64 (shiftR zs day k).2]) ∧ Below w.heap.size w w' := by
  have hv := isDay_yes h0 h1
  obtain ⟨T, eT⟩ : ∃ T, T = shiftT zs day k := ⟨_, rfl⟩
  have HR : Hid (shiftR zs day k = outS T) := Lib.hid (by unfold shiftR; rw [if_neg (by simp [hv]), if_neg (by omega), if_neg (by omega), eT])
  have hk9 : (k == 0) = false := by rw [beq_eq_false_iff_ne]; omega
  have HT : Hid (goTo (worksB zs) 1 200000 day k.toNat = T) := Lib.hid (by rw [eT]; unfold shiftT; rw [if_neg (by omega), if_neg (by omega)])
  have HZ := Lib.hid hz
  have HF := Lib.hid hf
  clear hz hf en eT
  go_enter Tryd.func37, Tryd.ntmps37
  go_wp2_with (first
    | (go_at_call 51; refine (isvalid_any _ _).mono ?_; rintro e w' ⟨rfl, rfl⟩)
    | (go_at_call 53; refine (set_any _ zs _ HZ.out HF.out).mono ?_; rintro e w1 ⟨B, rfl, hB, hown, hb⟩)
    | fail)
  have HO := Lib.hid hown
  clear hown hv
  go_loop [0, 10] (fun d r => ∃ (g : Nat) (D : Int) (R : Nat), d = .int .i64 D ∧ r = .int .i64 R ∧ goTo (worksB zs) (1) g D R = T ∧ R ≤ 1000 ∧ -1 ≤ D ∧ D ≤ 182620 ∧ 182621 ≤ (g : Int) + D) (fun d _ => (182621 - intOf d).toNat)
  case atStart => exact ⟨200000, day, k.toNat, rfl, ret_val (by omega), HT.out, by omega, by omega, by omega, by omega⟩
  case round =>
    obtain ⟨g, D, R, rfl, rfl, hg, hR3, b1, b2, b3⟩ := hrel
    have HG := Lib.hid hg
    clear hg
    by_cases hR : 0 < R
    · by_cases hd : 0 ≤ D + 1 ∧ D + 1 ≤ 182620
      · have hv2 := isDay_yes hd.1 hd.2
        have HC : Hid (inCal (D + 1) = true) := hv2
        by_cases hw : worksB zs (D + 1) = true
        · have HN : Hid (goTo (worksB zs) (1) (g - 1) (D + 1) (R - 1) = T) := Lib.hid (by rw [← HG.out]; exact (go_work' _ _ g D R (by omega) hR HC.out hw).symm)
          go_wp2_with (first
            | (go_at_call 51; refine (isvalid_any _ _).mono ?_; rintro e w' ⟨rfl, rfl⟩)
            | (go_at_call 52; refine (works_any (D + 1) zs B _ _ hd.1 hd.2 HO.out).mono ?_; rintro e w' ⟨rfl, rfl⟩)
            | fail)
          go_round
          case rel => exact ⟨g - 1, D + 1, R - 1, rfl, ret_val (by omega), HN.out, by omega, by omega, by omega, by omega⟩
          case measure => simp [intOf]; omega
        · have hw' : worksB zs (D + 1) = false := by simpa using hw
          clear hw
          have HN : Hid (goTo (worksB zs) (1) (g - 1) (D + 1) R = T) := Lib.hid (by rw [← HG.out]; exact (go_rest' _ _ g D R (by omega) hR HC.out hw').symm)
          go_wp2_with (first
            | (go_at_call 51; refine (isvalid_any _ _).mono ?_; rintro e w' ⟨rfl, rfl⟩)
            | (go_at_call 52; refine (works_any (D + 1) zs B _ _ hd.1 hd.2 HO.out).mono ?_; rintro e w' ⟨rfl, rfl⟩)
            | fail)
          go_round
          case rel => exact ⟨g - 1, D + 1, R, rfl, rfl, HN.out, by omega, by omega, by omega, by omega⟩
          case measure => simp [intOf]; omega
      · have hv2 := isDay_no (n := D + 1) (by omega)
        have HN : Hid (T = none) := Lib.hid (by rw [← HG.out]; exact go_out' _ _ g D R (by omega) hR hv2)
        clear hd
        go_wp2_with (first
          | (go_at_call 51; refine (isvalid_any _ _).mono ?_; rintro e w' ⟨rfl, rfl⟩)
          | fail)
        go_ret2
        exact ⟨by rw [HR.out, HN.out]; rfl, hb⟩
    · obtain rfl : R = 0 := by omega
      have HN : Hid (T = some D) := Lib.hid (by rw [← HG.out]; exact go_zero _ _ _ _)
      go_wp2
      go_ret2
      exact ⟨by rw [HR.out, HN.out]; rfl, hb⟩
set_option maxHeartbeats 800000 in
theorem sh_null (day k : Int) (q : Option Addr) (n c : Nat) (zs : List Int) (w : World) (h0 : 0 ≤ day) (h1 : day ≤ 182620) (k0 : -1000 ≤ k) (k1 : k ≤ 1000) (en : n = zs.length) (hn : n ≤ 400) (hz : IntsAt w (.slice q n c) zs) (hf : Fits zs) (hk : k = 0) :
    Calls Tryd.prog 37 #[.int .i64 day, .int .i64 k, .slice q n c] w fun e w' => e = .returned (.tuple #[.int .i64 (shiftR zs day k).1, .int .i64 (shiftR zs day k).2]) ∧ Below w.heap.size w w' := by
  have hv := isDay_yes h0 h1
  obtain ⟨T, eT⟩ : ∃ T, T = shiftT zs day k := ⟨_, rfl⟩
  have HR : Hid (shiftR zs day k = outS T) := Lib.hid (by unfold shiftR; rw [if_neg (by simp [hv]), if_neg (by omega), if_neg (by omega), eT])
  have HT : Hid (goTo (worksB zs) 1 200000 (day - 1) 1 = T) := Lib.hid (by rw [eT]; unfold shiftT; rw [if_neg (by omega), if_pos hk])
  subst hk
  have HZ := Lib.hid hz
  have HF := Lib.hid hf
  clear hz hf en eT
  go_enter Tryd.func37, Tryd.ntmps37
  go_wp2_with (first
    | (go_at_call 51; refine (isvalid_any _ _).mono ?_; rintro e w' ⟨rfl, rfl⟩)
    | (go_at_call 53; refine (set_any _ zs _ HZ.out HF.out).mono ?_; rintro e w1 ⟨B, rfl, hB, hown, hb⟩)
    | fail)
  have HO := Lib.hid hown
  clear hown hv
  go_loop [0, 10] (fun d r => ∃ (g : Nat) (D : Int) (R : Nat), d = .int .i64 D ∧ r = .int .i64 R ∧ goTo (worksB zs) (1) g D R = T ∧ R ≤ 1000 ∧ -1 ≤ D ∧ D ≤ 182620 ∧ 182621 ≤ (g : Int) + D) (fun d _ => (182621 - intOf d).toNat)
  case atStart => exact ⟨200000, day - 1, 1, rfl, rfl, HT.out, by omega, by omega, by omega, by omega⟩
  case round =>
    obtain ⟨g, D, R, rfl, rfl, hg, hR3, b1, b2, b3⟩ := hrel
    have HG := Lib.hid hg
    clear hg
    by_cases hR : 0 < R
    · by_cases hd : 0 ≤ D + 1 ∧ D + 1 ≤ 182620
      · have hv2 := isDay_yes hd.1 hd.2
        have HC : Hid (inCal (D + 1) = true) := hv2
        by_cases hw : worksB zs (D + 1) = true
        · have HN : Hid (goTo (worksB zs) (1) (g - 1) (D + 1) (R - 1) = T) := Lib.hid (by rw [← HG.out]; exact (go_work' _ _ g D R (by omega) hR HC.out hw).symm)
          go_wp2_with (first
            | (go_at_call 51; refine (isvalid_any _ _).mono ?_; rintro e w' ⟨rfl, rfl⟩)
            | (go_at_call 52; refine (works_any (D + 1) zs B _ _ hd.1 hd.2 HO.out).mono ?_; rintro e w' ⟨rfl, rfl⟩)
            | fail)
          go_round
          case rel => exact ⟨g - 1, D + 1, R - 1, rfl, ret_val (by omega), HN.out, by omega, by omega, by omega, by omega⟩
          case measure => simp [intOf]; omega
        · have hw' : worksB zs (D + 1) = false := by simpa using hw
          clear hw
          have HN : Hid (goTo (worksB zs) (1) (g - 1) (D + 1) R = T) := Lib.hid (by rw [← HG.out]; exact (go_rest' _ _ g D R (by omega) hR HC.out hw').symm)
          go_wp2_with (first
            | (go_at_call 51; refine (isvalid_any _ _).mono ?_; rintro e w' ⟨rfl, rfl⟩)
            | (go_at_call 52; refine (works_any (D + 1) zs B _ _ hd.1 hd.2 HO.out).mono ?_; rintro e w' ⟨rfl, rfl⟩)
            | fail)
          go_round
          case rel => exact ⟨g - 1, D + 1, R, rfl, rfl, HN.out, by omega, by omega, by omega, by omega⟩
          case measure => simp [intOf]; omega
      · have hv2 := isDay_no (n := D + 1) (by omega)
        have HN : Hid (T = none) := Lib.hid (by rw [← HG.out]; exact go_out' _ _ g D R (by omega) hR hv2)
        clear hd
        go_wp2_with (first
          | (go_at_call 51; refine (isvalid_any _ _).mono ?_; rintro e w' ⟨rfl, rfl⟩)
          | fail)
        go_ret2
        exact ⟨by rw [HR.out, HN.out]; rfl, hb⟩
    · obtain rfl : R = 0 := by omega
      have HN : Hid (T = some D) := Lib.hid (by rw [← HG.out]; exact go_zero _ _ _ _)
      go_wp2
      go_ret2
      exact ⟨by rw [HR.out, HN.out]; rfl, hb⟩
theorem shift_any (day k : Int) (q : Option Addr) (n c : Nat) (zs : List Int) (w : World) (en : n = zs.length) (hz : IntsAt w (.slice q n c) zs) (hf : Fits zs) :
    Calls Tryd.prog 37 #[.int .i64 day, .int .i64 k, .slice q n c] w fun e w' => e = .returned (.tuple #[.int .i64 (shiftR zs day k).1, .int .i64 (shiftR zs day k).2]) ∧ Below w.heap.size w w' := by
  by_cases hd : 0 ≤ day ∧ day ≤ 182620
  · by_cases k0 : k < -1000
    · exact (sh_lo day k q n c zs w hd.1 hd.2 k0).mono fun _ _ ⟨a, b⟩ => ⟨a, b ▸ Below.refl _ _⟩
    by_cases k1 : 1000 < k
    · exact (sh_hi day k q n c zs w hd.1 hd.2 k1).mono fun _ _ ⟨a, b⟩ => ⟨a, b ▸ Below.refl _ _⟩
    by_cases hn : 400 < n
    · exact (sh_long day k q n c zs w hd.1 hd.2 (by omega) (by omega) en hn).mono fun _ _ ⟨a, b⟩ => ⟨a, b ▸ Below.refl _ _⟩
    by_cases hk : k < 0
    · exact sh_neg day k q n c zs w hd.1 hd.2 (by omega) (by omega) en (by omega) hz hf hk
    by_cases hk0 : k = 0
    · exact sh_null day k q n c zs w hd.1 hd.2 (by omega) (by omega) en (by omega) hz hf hk0
    · exact sh_pos day k q n c zs w hd.1 hd.2 (by omega) (by omega) en (by omega) hz hf (by omega)
  · exact (sh_day day k q n c zs w (by omega)).mono fun _ _ ⟨a, b⟩ => ⟨a, b ▸ Below.refl _ _⟩
end Go.Proofs.YtpknkomkldgnfaaDoor
