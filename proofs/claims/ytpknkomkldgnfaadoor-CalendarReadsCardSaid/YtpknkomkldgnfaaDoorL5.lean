/- The walk of CalendarDays. -/
import Derived.Test.YtpknkomkldgnfaaDoorD2
namespace Go.Proofs.YtpknkomkldgnfaaDoor
open Go.RowKit Go.Sort Cal
theorem chain {a b c : World} (h1 : Below a.heap.size a b) (h2 : Below b.heap.size b c) : Below a.heap.size a c := h1.trans (h2.mono h1.size)
theorem chainAlloc {a b : World} (h : Below a.heap.size a b) (o : Obj) : Below a.heap.size a (b.alloc o) := h.alloc h.size o
/-- The date of a day, its three parts; its number is the day. -/
theorem date_parts (n : Int) (h0 : 0 ≤ n) (h1 : n ≤ 182620) : ∃ y m d : Int, dateV n = .agg #[.int .i64 y, .int .i64 m, .int .i64 d] ∧ num y m d = n ∧ 1900 ≤ y ∧ y ≤ 2399 ∧ 1 ≤ m ∧ m ≤ 12 ∧ 1 ≤ d ∧ d ≤ len y m := by
  have hs := per_spec n h0 (by omega)
  have hp := per_lt n h0 (by omega)
  have e := fd_succ (per n)
  have lb := len_bd (1900 + (per n : Int) / 12) ((per n : Int) % 12 + 1)
  have hv : vd (1900 + (per n : Int) / 12) ((per n : Int) % 12 + 1) (domOf n) = true := (vd_iff _ _ _).2 ⟨by omega, by omega, by omega, by omega, by unfold domOf; omega, by unfold domOf; omega⟩
  refine ⟨_, _, _, rfl, ?_, by omega, by omega, by omega, by omega, by unfold domOf; omega, by unfold domOf; omega⟩
  unfold num
  rw [if_pos hv]
  have e2 : (12 * (1900 + (per n : Int) / 12 - 1900) + ((per n : Int) % 12 + 1) - 1).toNat = per n := by omega
  rw [e2]; unfold domOf; omega
set_option maxHeartbeats 1600000 in
theorem days_walk (p : Int) (hlo : -9223372036854775808 ≤ p) (hhi : p ≤ 9223372036854775807) (w : World) (hT : Tab w) :
    Calls Tryd.prog 7 #[.int .i64 p] w fun e w' => e = .returned (.bool true) ∧ Below w.heap.size w w' := by
  have HT := Lib.hid hT
  clear hT
  have fb := fold_bd p 182621 (by omega)
  go_enter Tryd.func7, Tryd.ntmps7
  go_wp2_with (first
    | (go_at_call 19; refine (fold_any p 182621 _ (by omega) (by omega)).mono ?_; rintro e w' ⟨rfl, rfl⟩)
    | fail)
  go_loopw [14] (fun i wr => ∃ k : Nat, k ≤ 2 ∧ i = .int .i64 k ∧ Box w.heap.size w [.int .i64 p, .int .i64 (foldZ p 182621)] wr) (fun i _ => 2 - (intOf i).toNat)
  case atStart => exact ⟨0, by omega, rfl, Box.new w _ _⟩
  case round =>
    obtain ⟨k, hk, rfl, hB⟩ := hrel
    by_cases hlt : k < 2
    · obtain ⟨z, hz1, hz2, hz⟩ : ∃ z : Int, -9223372036854775808 ≤ z ∧ z ≤ 9223372036854775807 ∧ wr.cell? ⟨w.heap.size, k, none⟩ = some (.int .i64 z) := by
        have hk2 : k = 0 ∨ k = 1 := by omega
        rcases hk2 with rfl | rfl
        · exact ⟨p, hlo, hhi, hB.c 0 _ rfl⟩
        · exact ⟨foldZ p 182621, by omega, by omega, hB.c 1 _ rfl⟩
      have HB := Lib.hid hB
      clear hB
      by_cases hd : 0 ≤ z ∧ z ≤ 182620
      · obtain ⟨h0, h1⟩ := hd
        obtain ⟨y, m, d, hV, hN, _, _, _, _, _, _⟩ := date_parts z h0 h1
        have HV := Lib.hid hV
        have HN := Lib.hid hN
        clear hV hN
        go_wp2_with (first
          | (go_at_call 31; refine (dateOf_yes z _ h0 h1).mono ?_; rintro e w1 ⟨rfl, hb1⟩; rw [HV.out])
          | (go_at_call 33; refine (rdate_yes z _ h0 h1).mono ?_; rintro e w2 ⟨rfl, hb2⟩; rw [HV.out]; have hX := (Box.new w1 [.int .i64 y, .int .i64 m, .int .i64 d] 23).step hb2; have c0 := hX.c 0 (.int .i64 y) rfl; have c1 := hX.c 1 (.int .i64 m) rfl; have c2 := hX.c 2 (.int .i64 d) rfl; have hz2' := hX.sz)
          | (go_at_call 32; refine (wday_any z _).mono ?_; rintro e w' ⟨rfl, rfl⟩)
          | (go_at_call 34; refine (rwday_any z _).mono ?_; rintro e w' ⟨rfl, rfl⟩)
          | (go_at_call 35; refine (per_yes z _ h0 h1).mono ?_; rintro e w3 ⟨rfl, hb3⟩; have hX2 := (hX.step ((Below.refl _ w2).alloc (Nat.le_refl _) _)).step hb3; have d0 := hX2.c 0 (.int .i64 y) rfl; have d1 := hX2.c 1 (.int .i64 m) rfl; have d2 := hX2.c 2 (.int .i64 d) rfl)
          | (go_at_call 36; refine (rper_yes z _ h0 h1).mono ?_; rintro e w' ⟨rfl, rfl⟩)
          | (go_at_call 16; refine (number_any y m d _).mono ?_; rintro e w4 ⟨rfl, hb4⟩; rw [HN.out])
          | fail)
        go_roundw
        case rel => exact ⟨k + 1, by omega, by go_num, HB.out.step (chain (chain (chainAlloc (chain (chainAlloc hb1 _) hb2) _) hb3) hb4)⟩
        case measure => simp [intOf]; omega
      · have hd' : z < 0 ∨ 182620 < z := by omega
        have HW : Hid (wday z = -1) := Lib.hid (by unfold wday; rw [if_neg hd])
        clear hd
        go_wp2_with (first
          | (go_at_call 31; refine (dateOf_no z _ hd').mono ?_; rintro e w1 ⟨rfl, hb1⟩)
          | (go_at_call 33; refine (rdate_no z _ hd').mono ?_; rintro e w2 ⟨rfl, hb2⟩; have hX := (Box.new w1 [.int .i64 0, .int .i64 0, .int .i64 0] 23).step hb2; have c0 := hX.c 0 (.int .i64 0) rfl; have c1 := hX.c 1 (.int .i64 0) rfl; have c2 := hX.c 2 (.int .i64 0) rfl; have hz2' := hX.sz)
          | (go_at_call 32; refine (wday_any z _).mono ?_; rintro e w' ⟨rfl, rfl⟩)
          | (go_at_call 34; refine (rwday_any z _).mono ?_; rintro e w' ⟨rfl, rfl⟩)
          | (go_at_call 35; refine (per_no z _ hd').mono ?_; rintro e w3 ⟨rfl, hb3⟩)
          | (go_at_call 36; refine (rper_no z _ hd').mono ?_; rintro e w' ⟨rfl, rfl⟩)
          | fail)
        go_roundw
        case rel => exact ⟨k + 1, by omega, by go_num, HB.out.step (chain (chainAlloc (chain (chainAlloc hb1 _) hb2) _) hb3)⟩
        case measure => simp [intOf]; omega
    · obtain rfl : k = 2 := by omega
      have hbl := hB.bl
      go_wp2_with (first
        | (go_at_call 18; refine (awake_any _ (HT.out.below hbl)).mono ?_; rintro e w1 ⟨rfl, hb1⟩)
        | fail)
      go_ret
      exact ⟨rfl, hbl.trans (hb1.mono hbl.size)⟩
end Go.Proofs.YtpknkomkldgnfaaDoor
