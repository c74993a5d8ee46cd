/- Contracts of the reference's Shift: any day, any number, any list. -/
import Derived.Test.YtpknkomkldgnfaaDoorS1
namespace Go.Proofs.YtpknkomkldgnfaaDoor
open Go.RowKit Go.Sort Cal Go.Maps
theorem rs_neg (day k : Int) (q : Option Addr) (n c : Nat) (zs : List Int) (w : World) (h : day < 0) :
    Calls Tryd.prog 38 #[.int .i64 day, .int .i64 k, .slice q n c] w fun e w' => e = .returned (.tuple #[.int .i64 (shiftR zs day k).1, .int .i64 (shiftR zs day k).2]) ∧ w = w' := by
  have HR : Hid (shiftR zs day k = (0, 50)) := Lib.hid (by unfold shiftR; rw [if_pos (isDay_no (by omega))])
  go_enter Tryd.func38, Tryd.ntmps38
  go_wp2_with (first
    | fail)
  go_ret2
  exact ⟨by rw [HR.out]; rfl, rfl⟩
theorem rs_big (day k : Int) (q : Option Addr) (n c : Nat) (zs : List Int) (w : World) (h : 182621 ≤ day) :
    Calls Tryd.prog 38 #[.int .i64 day, .int .i64 k, .slice q n c] w fun e w' => e = .returned (.tuple #[.int .i64 (shiftR zs day k).1, .int .i64 (shiftR zs day k).2]) ∧ w = w' := by
  have HR : Hid (shiftR zs day k = (0, 50)) := Lib.hid (by unfold shiftR; rw [if_pos (isDay_no (by omega))])
  go_enter Tryd.func38, Tryd.ntmps38
  go_wp2_with (first
    | fail)
  go_ret2
  exact ⟨by rw [HR.out]; rfl, rfl⟩
theorem rs_lo (day k : Int) (q : Option Addr) (n c : Nat) (zs : List Int) (w : World) (h0 : 0 ≤ day) (h1 : day ≤ 182620) (hk : k < -1000) :
    Calls Tryd.prog 38 #[.int .i64 day, .int .i64 k, .slice q n c] w fun e w' => e = .returned (.tuple #[.int .i64 (shiftR zs day k).1, .int .i64 (shiftR zs day k).2]) ∧ w = w' := by
  have HR : Hid (shiftR zs day k = (0, 51)) := Lib.hid (by unfold shiftR; rw [if_neg (by simp [isDay_yes h0 h1]), if_pos (by omega)])
  go_enter Tryd.func38, Tryd.ntmps38
  go_wp2_with (first
    | fail)
  go_ret2
  exact ⟨by rw [HR.out]; rfl, rfl⟩
theorem rs_hi (day k : Int) (q : Option Addr) (n c : Nat) (zs : List Int) (w : World) (h0 : 0 ≤ day) (h1 : day ≤ 182620) (hk : 1000 < k) :
    Calls Tryd.prog 38 #[.int .i64 day, .int .i64 k, .slice q n c] w fun e w' => e = .returned (.tuple #[.int .i64 (shiftR zs day k).1, .int .i64 (shiftR zs day k).2]) ∧ w = w' := by
  have HR : Hid (shiftR zs day k = (0, 51)) := Lib.hid (by unfold shiftR; rw [if_neg (by simp [isDay_yes h0 h1]), if_pos (by omega)])
  go_enter Tryd.func38, Tryd.ntmps38
  go_wp2_with (first
    | fail)
  go_ret2
  exact ⟨by rw [HR.out]; rfl, rfl⟩
theorem rs_long (day k : Int) (q : Option Addr) (n c : Nat) (zs : List Int) (w : World) (h0 : 0 ≤ day) (h1 : day ≤ 182620) (k0 : -1000 ≤ k) (k1 : k ≤ 1000) (en : n = zs.length) (hn : 400 < n) :
    Calls Tryd.prog 38 #[.int .i64 day, .int .i64 k, .slice q n c] w fun e w' => e = .returned (.tuple #[.int .i64 (shiftR zs day k).1, .int .i64 (shiftR zs day k).2]) ∧ w = w' := by
  have HR : Hid (shiftR zs day k = (0, 52)) := Lib.hid (by unfold shiftR; rw [if_neg (by simp [isDay_yes h0 h1]), if_neg (by omega), if_pos (by omega)])
  clear en
  go_enter Tryd.func38, Tryd.ntmps38
  go_wp2_with (first
    | fail)
  go_ret2
  exact ⟨by rw [HR.out]; rfl, rfl⟩
set_option maxHeartbeats 800000 in
theorem rs_bk (day k : Int) (q : Option Addr) (n c : Nat) (zs : List Int) (w : World) (h0 : 0 ≤ day) (h1 : day ≤ 182620) (k0 : -1000 ≤ k) (k1 : k ≤ 1000) (en : n = zs.length) (hn : n ≤ 400) (hz : IntsAt w (.slice q n c) zs) (hf : Fits zs) (hk : k < 0) :
    Calls Tryd.prog 38 #[.int .i64 day, .int .i64 k, .slice q n c] w fun e w' => e = .returned (.tuple #[.int .i64 (shiftR zs day k).1, .int .i64 (shiftR zs day k).2]) ∧ w = w' := by
  have hv := isDay_yes h0 h1
  obtain ⟨T, eT⟩ : ∃ T, T = shiftT zs day k := ⟨_, rfl⟩
  have HR : Hid (shiftR zs day k = outS T) := Lib.hid (by unfold shiftR; rw [if_neg (by simp [hv]), if_neg (by omega), if_neg (by omega), eT])
  have HT : Hid (goTo (worksB zs) (-1) 200000 day (-k).toNat = T) := Lib.hid (by rw [eT]; unfold shiftT; rw [if_pos hk])
  have hk9 : (-k == 0) = false := by rw [beq_eq_false_iff_ne]; omega
  have hmx : max (-k) 1 = -k := by omega
  have HZ := Lib.hid hz
  have HF := Lib.hid hf
  clear hz hf en eT hv
  go_enter Tryd.func38, Tryd.ntmps38
  go_wp2_with (first
    | (go_at_call 22; refine (rbus_any day _ zs _ HZ.out HF.out).mono ?_; rintro e w' ⟨rfl, rfl⟩)
    | fail)
  go_loop [1, 9] (fun r d => ∃ (g : Nat) (E : Int) (R : Nat), d = .int .i64 (E + -1) ∧ r = .int .i64 R ∧ goTo (worksB zs) (-1) g E R = T ∧ 1 ≤ R ∧ R ≤ 1000 ∧ 0 ≤ E ∧ E ≤ 182620 ∧ E + 1 ≤ (g : Int)) (fun _ d => (intOf d + 2).toNat)
  case atStart => exact ⟨200000, day, (-k).toNat, rfl, ret_val (by omega), HT.out, by omega, by omega, by omega, by omega, by omega⟩
  case round =>
    obtain ⟨g, E, R, rfl, rfl, hg, hR, hR3, b1, b2, b3⟩ := hrel
    have HG := Lib.hid hg
    clear hg
    by_cases hd : 0 ≤ E + -1 ∧ E + -1 < 182621
    · obtain ⟨d0, d1⟩ := hd
      have hv2 : isDay (E + -1) = true := isDay_yes d0 (by omega)
      have HC : Hid (inCal (E + -1) = true) := hv2
      by_cases hw : worksB zs (E + -1) = true
      · have HB : Hid (busB zs (E + -1) = true) := Lib.hid (by simp [busB, hv2, hw])
        by_cases h2 : R = 1
        · have HN : Hid (T = some (E + -1)) := Lib.hid (by rw [← HG.out, go_work' _ _ g E R (by omega) hR HC.out hw, h2]; exact go_zero _ _ _ _)
          subst h2
          clear hw hv2
          go_wp2_with (first
            | (go_at_call 22; refine (rbus_any (E + -1) _ zs _ HZ.out HF.out).mono ?_; rintro e w' ⟨rfl, rfl⟩; rw [HB.out])
            | fail)
          go_ret2
          exact ⟨by rw [HR.out, HN.out]; rfl, rfl⟩
        · have HN : Hid (goTo (worksB zs) (-1) (g - 1) (E + -1) (R - 1) = T) := Lib.hid (by rw [← HG.out]; exact (go_work' _ _ g E R (by omega) hR HC.out hw).symm)
          have h2n : 2 ≤ R := by omega
          have h2' : (((R : Int) - 1) == 0) = false := by rw [beq_eq_false_iff_ne]; omega
          clear hw hv2 h2
          go_wp2_with (first
            | (go_at_call 22; refine (rbus_any (E + -1) _ zs _ HZ.out HF.out).mono ?_; rintro e w' ⟨rfl, rfl⟩; rw [HB.out])
            | fail)
          go_round
          case rel => exact ⟨g - 1, E + -1, R - 1, rfl, ret_val (by omega), HN.out, by omega, by omega, by omega, by omega, by omega⟩
          case measure => simp [intOf]; omega
      · have hw' : worksB zs (E + -1) = false := by simpa using hw
        have HB : Hid (busB zs (E + -1) = false) := Lib.hid (by simp [busB, hw'])
        have HN : Hid (goTo (worksB zs) (-1) (g - 1) (E + -1) R = T) := Lib.hid (by rw [← HG.out]; exact (go_rest' _ _ g E R (by omega) hR HC.out hw').symm)
        clear hw hv2 hw'
        go_wp2_with (first
          | (go_at_call 22; refine (rbus_any (E + -1) _ zs _ HZ.out HF.out).mono ?_; rintro e w' ⟨rfl, rfl⟩; rw [HB.out])
          | fail)
        go_round
        case rel => exact ⟨g - 1, E + -1, R, rfl, rfl, HN.out, by omega, by omega, by omega, by omega, by omega⟩
        case measure => simp [intOf]; omega
    · have HN : Hid (T = none) := Lib.hid (by rw [← HG.out]; exact go_out' _ _ g E R (by omega) hR (isDay_no (n := E + -1) (by omega)))
      have ho : E + -1 < 0 := by omega
      skip
      clear hd
      go_wp2
      go_ret2
      exact ⟨by rw [HR.out, HN.out]; rfl, rfl⟩
set_option maxHeartbeats 800000 in
theorem rs_fw (day k : Int) (q : Option Addr) (n c : Nat) (zs : List Int) (w : World) (h0 : 0 ≤ day) (h1 : day ≤ 182620) (k0 : -1000 ≤ k) (k1 : k ≤ 1000) (en : n = zs.length) (hn : n ≤ 400) (hz : IntsAt w (.slice q n c) zs) (hf : Fits zs) (hk : 0 < k) :
    Calls Tryd.prog 38 #[.int .i64 day, .int .i64 k, .slice q n c] w fun e w' => e = .returned (.tuple #[.int .i64 (shiftR zs day k).1, .int .i64 (shiftR zs day k).2]) ∧ w = w' := by
  have hv := isDay_yes h0 h1
  obtain ⟨T, eT⟩ : ∃ T, T = shiftT zs day k := ⟨_, rfl⟩
  have HR : Hid (shiftR zs day k = outS T) := Lib.hid (by unfold shiftR; rw [if_neg (by simp [hv]), if_neg (by omega), if_neg (by omega), eT])
  have HT : Hid (goTo (worksB zs) 1 200000 day k.toNat = T) := Lib.hid (by rw [eT]; unfold shiftT; rw [if_neg (by omega), if_neg (by omega)])
  have hk9 : (k == 0) = false := by rw [beq_eq_false_iff_ne]; omega
  have hmx : max k 1 = k := by omega
  have HZ := Lib.hid hz
  have HF := Lib.hid hf
  clear hz hf en eT hv
  go_enter Tryd.func38, Tryd.ntmps38
  go_wp2_with (first
    | (go_at_call 22; refine (rbus_any day _ zs _ HZ.out HF.out).mono ?_; rintro e w' ⟨rfl, rfl⟩)
    | fail)
  go_loop [1, 9] (fun r d => ∃ (g : Nat) (E : Int) (R : Nat), d = .int .i64 (E + 1) ∧ r = .int .i64 R ∧ goTo (worksB zs) (1) g E R = T ∧ 1 ≤ R ∧ R ≤ 1000 ∧ -1 ≤ E ∧ E ≤ 182620 ∧ 182621 ≤ (g : Int) + E) (fun _ d => (182622 - intOf d).toNat)
  case atStart => exact ⟨200000, day, k.toNat, rfl, ret_val (by omega), HT.out, by omega, by omega, by omega, by omega, by omega⟩
  case round =>
    obtain ⟨g, E, R, rfl, rfl, hg, hR, hR3, b1, b2, b3⟩ := hrel
    have HG := Lib.hid hg
    clear hg
    by_cases hd : 0 ≤ E + 1 ∧ E + 1 < 182621
    · obtain ⟨d0, d1⟩ := hd
      have hv2 : isDay (E + 1) = true := isDay_yes d0 (by omega)
      have HC : Hid (inCal (E + 1) = true) := hv2
      by_cases hw : worksB zs (E + 1) = true
      · have HB : Hid (busB zs (E + 1) = true) := Lib.hid (by simp [busB, hv2, hw])
        by_cases h2 : R = 1
        · have HN : Hid (T = some (E + 1)) := Lib.hid (by rw [← HG.out, go_work' _ _ g E R (by omega) hR HC.out hw, h2]; exact go_zero _ _ _ _)
          subst h2
          clear hw hv2
          go_wp2_with (first
            | (go_at_call 22; refine (rbus_any (E + 1) _ zs _ HZ.out HF.out).mono ?_; rintro e w' ⟨rfl, rfl⟩; rw [HB.out])
            | fail)
          go_ret2
          exact ⟨by rw [HR.out, HN.out]; rfl, rfl⟩
        · have HN : Hid (goTo (worksB zs) (1) (g - 1) (E + 1) (R - 1) = T) := Lib.hid (by rw [← HG.out]; exact (go_work' _ _ g E R (by omega) hR HC.out hw).symm)
          have h2n : 2 ≤ R := by omega
          have h2' : (((R : Int) - 1) == 0) = false := by rw [beq_eq_false_iff_ne]; omega
          clear hw hv2 h2
          go_wp2_with (first
            | (go_at_call 22; refine (rbus_any (E + 1) _ zs _ HZ.out HF.out).mono ?_; rintro e w' ⟨rfl, rfl⟩; rw [HB.out])
            | fail)
          go_round
          case rel => exact ⟨g - 1, E + 1, R - 1, rfl, ret_val (by omega), HN.out, by omega, by omega, by omega, by omega, by omega⟩
          case measure => simp [intOf]; omega
      · have hw' : worksB zs (E + 1) = false := by simpa using hw
        have HB : Hid (busB zs (E + 1) = false) := Lib.hid (by simp [busB, hw'])
        have HN : Hid (goTo (worksB zs) (1) (g - 1) (E + 1) R = T) := Lib.hid (by rw [← HG.out]; exact (go_rest' _ _ g E R (by omega) hR HC.out hw').symm)
        clear hw hv2 hw'
        go_wp2_with (first
          | (go_at_call 22; refine (rbus_any (E + 1) _ zs _ HZ.out HF.out).mono ?_; rintro e w' ⟨rfl, rfl⟩; rw [HB.out])
          | fail)
        go_round
        case rel => exact ⟨g - 1, E + 1, R, rfl, rfl, HN.out, by omega, by omega, by omega, by omega, by omega⟩
        case measure => simp [intOf]; omega
    · have HN : Hid (T = none) := Lib.hid (by rw [← HG.out]; exact go_out' _ _ g E R (by omega) hR (isDay_no (n := E + 1) (by omega)))
      have ho : 182621 ≤ E + 1 := by omega
      have ho2 : 0 ≤ E + 1 := by omega
      clear hd
      go_wp2
      go_ret2
      exact ⟨by rw [HR.out, HN.out]; rfl, rfl⟩
set_option maxHeartbeats 800000 in
theorem rs_no (day k : Int) (q : Option Addr) (n c : Nat) (zs : List Int) (w : World) (h0 : 0 ≤ day) (h1 : day ≤ 182620) (k0 : -1000 ≤ k) (k1 : k ≤ 1000) (en : n = zs.length) (hn : n ≤ 400) (hz : IntsAt w (.slice q n c) zs) (hf : Fits zs) (hk : k = 0) (hb0 : busB zs day = false) :
    Calls Tryd.prog 38 #[.int .i64 day, .int .i64 k, .slice q n c] w fun e w' => e = .returned (.tuple #[.int .i64 (shiftR zs day k).1, .int .i64 (shiftR zs day k).2]) ∧ w = w' := by
  have hv := isDay_yes h0 h1
  obtain ⟨T, eT⟩ : ∃ T, T = shiftT zs day k := ⟨_, rfl⟩
  have HR : Hid (shiftR zs day k = outS T) := Lib.hid (by unfold shiftR; rw [if_neg (by simp [hv]), if_neg (by omega), if_neg (by omega), eT])
  have HT : Hid (goTo (worksB zs) 1 199999 day 1 = T) := Lib.hid (by
    have hw0 : worksB zs day = false := by simpa [busB, hv] using hb0
    rw [eT]; unfold shiftT; rw [if_neg (by omega), if_pos hk]
    have h := go_rest' (worksB zs) 1 200000 (day - 1) 1 (by omega) (by omega) (by rw [show day - 1 + 1 = day from by omega]; exact hv) (by rw [show day - 1 + 1 = day from by omega]; exact hw0)
    rw [h, show day - 1 + 1 = day from by omega])
  subst hk
  have HZ := Lib.hid hz
  have HF := Lib.hid hf
  clear hz hf en eT hv
  go_enter Tryd.func38, Tryd.ntmps38
  go_wp2_with (first
    | (go_at_call 22; refine (rbus_any day _ zs _ HZ.out HF.out).mono ?_; rintro e w' ⟨rfl, rfl⟩)
    | fail)
  go_loop [1, 9] (fun r d => ∃ (g : Nat) (E : Int) (R : Nat), d = .int .i64 (E + 1) ∧ r = .int .i64 R ∧ goTo (worksB zs) (1) g E R = T ∧ 1 ≤ R ∧ R ≤ 1000 ∧ -1 ≤ E ∧ E ≤ 182620 ∧ 182621 ≤ (g : Int) + E) (fun _ d => (182622 - intOf d).toNat)
  case atStart => exact ⟨199999, day, 1, rfl, rfl, HT.out, by omega, by omega, by omega, by omega, by omega⟩
  case round =>
    obtain ⟨g, E, R, rfl, rfl, hg, hR, hR3, b1, b2, b3⟩ := hrel
    have HG := Lib.hid hg
    clear hg
    by_cases hd : 0 ≤ E + 1 ∧ E + 1 < 182621
    · obtain ⟨d0, d1⟩ := hd
      have hv2 : isDay (E + 1) = true := isDay_yes d0 (by omega)
      have HC : Hid (inCal (E + 1) = true) := hv2
      by_cases hw : worksB zs (E + 1) = true
      · have HB : Hid (busB zs (E + 1) = true) := Lib.hid (by simp [busB, hv2, hw])
        by_cases h2 : R = 1
        · have HN : Hid (T = some (E + 1)) := Lib.hid (by rw [← HG.out, go_work' _ _ g E R (by omega) hR HC.out hw, h2]; exact go_zero _ _ _ _)
          subst h2
          clear hw hv2
          go_wp2_with (first
            | (go_at_call 22; refine (rbus_any (E + 1) _ zs _ HZ.out HF.out).mono ?_; rintro e w' ⟨rfl, rfl⟩; rw [HB.out])
            | fail)
          go_ret2
          exact ⟨by rw [HR.out, HN.out]; rfl, rfl⟩
        · have HN : Hid (goTo (worksB zs) (1) (g - 1) (E + 1) (R - 1) = T) := Lib.hid (by rw [← HG.out]; exact (go_work' _ _ g E R (by omega) hR HC.out hw).symm)
          have h2n : 2 ≤ R := by omega
          have h2' : (((R : Int) - 1) == 0) = false := by rw [beq_eq_false_iff_ne]; omega
          clear hw hv2 h2
          go_wp2_with (first
            | (go_at_call 22; refine (rbus_any (E + 1) _ zs _ HZ.out HF.out).mono ?_; rintro e w' ⟨rfl, rfl⟩; rw [HB.out])
            | fail)
          go_round
          case rel => exact ⟨g - 1, E + 1, R - 1, rfl, ret_val (by omega), HN.out, by omega, by omega, by omega, by omega, by omega⟩
          case measure => simp [intOf]; omega
      · have hw' : worksB zs (E + 1) = false := by simpa using hw
        have HB : Hid (busB zs (E + 1) = false) := Lib.hid (by simp [busB, hw'])
        have HN : Hid (goTo (worksB zs) (1) (g - 1) (E + 1) R = T) := Lib.hid (by rw [← HG.out]; exact (go_rest' _ _ g E R (by omega) hR HC.out hw').symm)
        clear hw hv2 hw'
        go_wp2_with (first
          | (go_at_call 22; refine (rbus_any (E + 1) _ zs _ HZ.out HF.out).mono ?_; rintro e w' ⟨rfl, rfl⟩; rw [HB.out])
          | fail)
        go_round
        case rel => exact ⟨g - 1, E + 1, R, rfl, rfl, HN.out, by omega, by omega, by omega, by omega, by omega⟩
        case measure => simp [intOf]; omega
    · have HN : Hid (T = none) := Lib.hid (by rw [← HG.out]; exact go_out' _ _ g E R (by omega) hR (isDay_no (n := E + 1) (by omega)))
      have ho : 182621 ≤ E + 1 := by omega
      have ho2 : 0 ≤ E + 1 := by omega
      clear hd
      go_wp2
      go_ret2
      exact ⟨by rw [HR.out, HN.out]; rfl, rfl⟩
theorem rs_here (day k : Int) (q : Option Addr) (n c : Nat) (zs : List Int) (w : World) (h0 : 0 ≤ day) (h1 : day ≤ 182620) (en : n = zs.length) (hn : n ≤ 400) (hz : IntsAt w (.slice q n c) zs) (hf : Fits zs) (hk : k = 0) (hb0 : busB zs day = true) :
    Calls Tryd.prog 38 #[.int .i64 day, .int .i64 k, .slice q n c] w fun e w' => e = .returned (.tuple #[.int .i64 (shiftR zs day k).1, .int .i64 (shiftR zs day k).2]) ∧ w = w' := by
  have hv := isDay_yes h0 h1
  have HR : Hid (shiftR zs day k = (day, 0)) := Lib.hid (by
    have hw0 : worksB zs day = true := by simpa [busB, hv] using hb0
    unfold shiftR shiftT
    rw [if_neg (by simp [hv]), if_neg (by omega), if_neg (by omega), if_neg (by omega), if_pos hk]
    have h := go_work' (worksB zs) 1 200000 (day - 1) 1 (by omega) (by omega) (by rw [show day - 1 + 1 = day from by omega]; exact hv) (by rw [show day - 1 + 1 = day from by omega]; exact hw0)
    rw [h, show day - 1 + 1 = day from by omega, go_zero]; rfl)
  have HZ := Lib.hid hz
  have HF := Lib.hid hf
  subst hk
  clear hz hf en hv
  go_enter Tryd.func38, Tryd.ntmps38
  go_wp2_with (first
    | (go_at_call 22; refine (rbus_any day _ zs _ HZ.out HF.out).mono ?_; rintro e w' ⟨rfl, rfl⟩)
    | fail)
  go_ret2
  exact ⟨by rw [HR.out]; rfl, rfl⟩
theorem rshift_any (day k : Int) (q : Option Addr) (n c : Nat) (zs : List Int) (w : World) (en : n = zs.length) (hz : IntsAt w (.slice q n c) zs) (hf : Fits zs) :
    Calls Tryd.prog 38 #[.int .i64 day, .int .i64 k, .slice q n c] w fun e w' => e = .returned (.tuple #[.int .i64 (shiftR zs day k).1, .int .i64 (shiftR zs day k).2]) ∧ w = w' := by
  by_cases d0 : day < 0
  · exact rs_neg day k q n c zs w d0
  by_cases d1 : 182621 ≤ day
  · exact rs_big day k q n c zs w d1
  have h0 : 0 ≤ day := by omega
  have h1 : day ≤ 182620 := by omega
  by_cases k0 : k < -1000
  · exact rs_lo day k q n c zs w h0 h1 k0
  by_cases k1 : 1000 < k
  · exact rs_hi day k q n c zs w h0 h1 k1
  by_cases hn : 400 < n
  · exact rs_long day k q n c zs w h0 h1 (by omega) (by omega) en hn
  by_cases hk : k < 0
  · exact rs_bk day k q n c zs w h0 h1 (by omega) (by omega) en (by omega) hz hf hk
  by_cases hk0 : k = 0
  · by_cases hb : busB zs day = true
    · exact rs_here day k q n c zs w h0 h1 en (by omega) hz hf hk0 hb
    · exact rs_no day k q n c zs w h0 h1 (by omega) (by omega) en (by omega) hz hf hk0 (by simpa using hb)
  · exact rs_fw day k q n c zs w h0 h1 (by omega) (by omega) en (by omega) hz hf (by omega)
end Go.Proofs.YtpknkomkldgnfaaDoor
