/- The walk of CalendarNext. -/
import Derived.Test.YtpknkomkldgnfaaDoorL5
namespace Go.Proofs.YtpknkomkldgnfaaDoor
open Go.RowKit Go.Sort Cal
def d3 (y m d : Int) : Value := .agg #[.int .i64 y, .int .i64 m, .int .i64 d]
theorem dateV_eq (n : Int) : dateV n = d3 (1900 + (per n : Int) / 12) ((per n : Int) % 12 + 1) (domOf n) := rfl
/-- The day after: the next one of the month, the first one of the next month, or of the next year. -/
theorem next_cases (n : Int) (h0 : 0 ≤ n) (h1 : n ≤ 182619) :
    (∃ y m d : Int, dateV n = d3 y m d ∧ dateV (n + 1) = d3 y m (d + 1) ∧ 1900 ≤ y ∧ y ≤ 2399 ∧ 1 ≤ m ∧ m ≤ 12 ∧ 1 ≤ d ∧ d ≤ 31) ∨
    (∃ y m d : Int, dateV n = d3 y m d ∧ dateV (n + 1) = d3 y (m + 1) 1 ∧ 1900 ≤ y ∧ y ≤ 2399 ∧ 1 ≤ m ∧ m ≤ 11 ∧ 28 ≤ d ∧ d ≤ 31) ∨
    (∃ y : Int, dateV n = d3 y 12 31 ∧ dateV (n + 1) = d3 (y + 1) 1 1 ∧ 1900 ≤ y ∧ y ≤ 2399) := by
  have hs := per_spec n h0 (by omega)
  have hp := per_lt n h0 (by omega)
  have e := fd_succ (per n)
  have lb := len_bd (1900 + (per n : Int) / 12) ((per n : Int) % 12 + 1)
  by_cases c : n + 1 < fd (per n + 1)
  · have hn : per (n + 1) = per n := per_of _ _ (by omega) (by omega) (by omega) c
    refine Or.inl ⟨_, _, _, dateV_eq n, ?_, by omega, by omega, by omega, by omega, by unfold domOf; omega, by unfold domOf; omega⟩
    rw [dateV_eq (n + 1)]
    unfold domOf
    rw [hn]
    have e2 : n + 1 - fd (per n) + 1 = n - fd (per n) + 1 + 1 := by omega
    rw [e2]
  · have hm := fd_mono1 (per n + 1)
    have hn : per (n + 1) = per n + 1 := per_of _ _ (by omega) (by omega) (by omega) (by omega)
    have hd : domOf (n + 1) = 1 := by unfold domOf; rw [hn]; omega
    have hl : domOf n = len (1900 + (per n : Int) / 12) ((per n : Int) % 12 + 1) := by unfold domOf; omega
    by_cases h12 : (per n : Int) % 12 = 11
    · refine Or.inr (Or.inr ⟨1900 + (per n : Int) / 12, ?_, ?_, by omega, by omega⟩)
      · rw [dateV_eq n, hl, h12]
        have : len (1900 + (per n : Int) / 12) (11 + 1) = 31 := by simp [len]
        rw [this]; rfl
      · rw [dateV_eq (n + 1), hd, hn]
        have a1 : 1900 + ((per n + 1 : Nat) : Int) / 12 = 1900 + (per n : Int) / 12 + 1 := by omega
        have a2 : ((per n + 1 : Nat) : Int) % 12 + 1 = 1 := by omega
        rw [a1, a2]
    · refine Or.inr (Or.inl ⟨_, _, _, dateV_eq n, ?_, by omega, by omega, by omega, by omega, by omega, by omega⟩)
      rw [dateV_eq (n + 1), hd, hn]
      have a1 : 1900 + ((per n + 1 : Nat) : Int) / 12 = 1900 + (per n : Int) / 12 := by omega
      have a2 : ((per n + 1 : Nat) : Int) % 12 + 1 = (per n : Int) % 12 + 1 + 1 := by omega
      rw [a1, a2]
set_option maxHeartbeats 1600000 in
theorem next_same (p y m d : Int) (w : World) (hT : Tab w) (hV1 : dateV (foldZ p 182620) = d3 y m d) (hV2 : dateV (foldZ p 182620 + 1) = d3 y m (d + 1))
    (_ : 1900 ≤ y) (_ : y ≤ 2399) (_ : 1 ≤ m) (_ : m ≤ 12) (_ : 1 ≤ d) (_ : d ≤ 31) :
    Calls Tryd.prog 6 #[.int .i64 p] w fun e w' => e = .returned (.bool true) ∧ Below w.heap.size w w' := by
  have fb := fold_bd p 182620 (by omega)
  have HT := Lib.hid hT
  have HV1 : Hid (dateV (foldZ p 182620) = .agg #[.int .i64 y, .int .i64 m, .int .i64 d]) := Lib.hid hV1
  have HV2 : Hid (dateV (foldZ p 182620 + 1) = .agg #[.int .i64 y, .int .i64 m, .int .i64 (d + 1)]) := Lib.hid hV2
  have HW1 : Hid (wday (foldZ p 182620) = foldZ p 182620 % 7) := Lib.hid (by unfold wday; rw [if_pos (by omega)])
  have HW2 : Hid (wday (foldZ p 182620 + 1) = (foldZ p 182620 + 1) % 7) := Lib.hid (by unfold wday; rw [if_pos (by omega)])
  clear hT hV1 hV2
  have HF : ∀ w, Calls Tryd.prog 19 #[.int .i64 p, .int .i64 182620] w fun e w' => e = .returned (.int .i64 (foldZ p 182620)) ∧ w = w' := fun w => fold_any p 182620 w (by omega) (by omega)
  generalize foldZ p 182620 = n at *
  have HFF := Lib.hid HF
  clear HF
  have ht : (wday (n + 1) == (wday n + 1) % 7) = true := by rw [HW1.out, HW2.out]; simp
  have hw7 : 0 ≤ wday n ∧ wday n ≤ 6 := by rw [HW1.out]; omega
  go_enter Tryd.func6, Tryd.ntmps6
  go_wp2_with (first
      | (go_at_call 19; refine (HFF.out _).mono ?_; rintro e w' ⟨rfl, rfl⟩)
      | fail)
  refine (dateOf_yes n _ (by omega) (by omega)).mono ?_
  rintro e w1 ⟨rfl, hb1⟩
  rw [HV1.out]
  go_wp2_with fail
  refine (dateOf_yes (n + 1) _ (by omega) (by omega)).mono ?_
  rintro e w2 ⟨rfl, hb2⟩
  rw [HV2.out]
  have hX := (Box.new w1 [.int .i64 (y), .int .i64 (m), .int .i64 (d)] 23).step hb2
  have c0 := hX.c 0 (.int .i64 (y)) rfl
  have c1 := hX.c 1 (.int .i64 (m)) rfl
  have c2 := hX.c 2 (.int .i64 (d)) rfl
  have hz2 := hX.sz
  clear hX
  go_wp2_with (first
      | (go_at_call 32; refine (wday_any _ _).mono ?_; rintro e w' ⟨rfl, rfl⟩)
      | (go_at_call 18; refine (awake_any _ (HT.out.below (chainAlloc (chain (chainAlloc hb1 _) hb2) _))).mono ?_; rintro e w3 ⟨rfl, hb3⟩)
      | fail)
  go_ret
  exact ⟨rfl, chain (chainAlloc (chain (chainAlloc hb1 _) hb2) _) hb3⟩
set_option maxHeartbeats 1600000 in
theorem next_month (p y m d : Int) (w : World) (hT : Tab w) (hV1 : dateV (foldZ p 182620) = d3 y m d) (hV2 : dateV (foldZ p 182620 + 1) = d3 y (m + 1) 1)
    (_ : 1900 ≤ y) (_ : y ≤ 2399) (_ : 1 ≤ m) (_ : m ≤ 11) (_ : 28 ≤ d) (_ : d ≤ 31) :
    Calls Tryd.prog 6 #[.int .i64 p] w fun e w' => e = .returned (.bool true) ∧ Below w.heap.size w w' := by
  have fb := fold_bd p 182620 (by omega)
  have HT := Lib.hid hT
  have HV1 : Hid (dateV (foldZ p 182620) = .agg #[.int .i64 y, .int .i64 m, .int .i64 d]) := Lib.hid hV1
  have HV2 : Hid (dateV (foldZ p 182620 + 1) = .agg #[.int .i64 y, .int .i64 (m + 1), .int .i64 1]) := Lib.hid hV2
  have HW1 : Hid (wday (foldZ p 182620) = foldZ p 182620 % 7) := Lib.hid (by unfold wday; rw [if_pos (by omega)])
  have HW2 : Hid (wday (foldZ p 182620 + 1) = (foldZ p 182620 + 1) % 7) := Lib.hid (by unfold wday; rw [if_pos (by omega)])
  clear hT hV1 hV2
  have HF : ∀ w, Calls Tryd.prog 19 #[.int .i64 p, .int .i64 182620] w fun e w' => e = .returned (.int .i64 (foldZ p 182620)) ∧ w = w' := fun w => fold_any p 182620 w (by omega) (by omega)
  generalize foldZ p 182620 = n at *
  have HFF := Lib.hid HF
  clear HF
  have ht : (wday (n + 1) == (wday n + 1) % 7) = true := by rw [HW1.out, HW2.out]; simp
  have hw7 : 0 ≤ wday n ∧ wday n ≤ 6 := by rw [HW1.out]; omega
  go_enter Tryd.func6, Tryd.ntmps6
  go_wp2_with (first
      | (go_at_call 19; refine (HFF.out _).mono ?_; rintro e w' ⟨rfl, rfl⟩)
      | fail)
  refine (dateOf_yes n _ (by omega) (by omega)).mono ?_
  rintro e w1 ⟨rfl, hb1⟩
  rw [HV1.out]
  go_wp2_with fail
  refine (dateOf_yes (n + 1) _ (by omega) (by omega)).mono ?_
  rintro e w2 ⟨rfl, hb2⟩
  rw [HV2.out]
  have hX := (Box.new w1 [.int .i64 (y), .int .i64 (m), .int .i64 (d)] 23).step hb2
  have c0 := hX.c 0 (.int .i64 (y)) rfl
  have c1 := hX.c 1 (.int .i64 (m)) rfl
  have c2 := hX.c 2 (.int .i64 (d)) rfl
  have hz2 := hX.sz
  clear hX
  go_wp2_with (first
      | (go_at_call 32; refine (wday_any _ _).mono ?_; rintro e w' ⟨rfl, rfl⟩)
      | (go_at_call 18; refine (awake_any _ (HT.out.below (chainAlloc (chain (chainAlloc hb1 _) hb2) _))).mono ?_; rintro e w3 ⟨rfl, hb3⟩)
      | fail)
  go_ret
  exact ⟨rfl, chain (chainAlloc (chain (chainAlloc hb1 _) hb2) _) hb3⟩
set_option maxHeartbeats 1600000 in
theorem next_year (p y : Int) (w : World) (hT : Tab w) (hV1 : dateV (foldZ p 182620) = d3 y 12 31) (hV2 : dateV (foldZ p 182620 + 1) = d3 (y + 1) 1 1)
    (_ : 1900 ≤ y) (_ : y ≤ 2399) :
    Calls Tryd.prog 6 #[.int .i64 p] w fun e w' => e = .returned (.bool true) ∧ Below w.heap.size w w' := by
  have fb := fold_bd p 182620 (by omega)
  have HT := Lib.hid hT
  have HV1 : Hid (dateV (foldZ p 182620) = .agg #[.int .i64 y, .int .i64 12, .int .i64 31]) := Lib.hid hV1
  have HV2 : Hid (dateV (foldZ p 182620 + 1) = .agg #[.int .i64 (y + 1), .int .i64 1, .int .i64 1]) := Lib.hid hV2
  have HW1 : Hid (wday (foldZ p 182620) = foldZ p 182620 % 7) := Lib.hid (by unfold wday; rw [if_pos (by omega)])
  have HW2 : Hid (wday (foldZ p 182620 + 1) = (foldZ p 182620 + 1) % 7) := Lib.hid (by unfold wday; rw [if_pos (by omega)])
  clear hT hV1 hV2
  have HF : ∀ w, Calls Tryd.prog 19 #[.int .i64 p, .int .i64 182620] w fun e w' => e = .returned (.int .i64 (foldZ p 182620)) ∧ w = w' := fun w => fold_any p 182620 w (by omega) (by omega)
  generalize foldZ p 182620 = n at *
  have HFF := Lib.hid HF
  clear HF
  have ht : (wday (n + 1) == (wday n + 1) % 7) = true := by rw [HW1.out, HW2.out]; simp
  have hw7 : 0 ≤ wday n ∧ wday n ≤ 6 := by rw [HW1.out]; omega
  go_enter Tryd.func6, Tryd.ntmps6
  go_wp2_with (first
      | (go_at_call 19; refine (HFF.out _).mono ?_; rintro e w' ⟨rfl, rfl⟩)
      | fail)
  refine (dateOf_yes n _ (by omega) (by omega)).mono ?_
  rintro e w1 ⟨rfl, hb1⟩
  rw [HV1.out]
  go_wp2_with fail
  refine (dateOf_yes (n + 1) _ (by omega) (by omega)).mono ?_
  rintro e w2 ⟨rfl, hb2⟩
  rw [HV2.out]
  have hX := (Box.new w1 [.int .i64 (y), .int .i64 (12), .int .i64 (31)] 23).step hb2
  have c0 := hX.c 0 (.int .i64 (y)) rfl
  have c1 := hX.c 1 (.int .i64 (12)) rfl
  have c2 := hX.c 2 (.int .i64 (31)) rfl
  have hz2 := hX.sz
  clear hX
  go_wp2_with (first
      | (go_at_call 32; refine (wday_any _ _).mono ?_; rintro e w' ⟨rfl, rfl⟩)
      | (go_at_call 18; refine (awake_any _ (HT.out.below (chainAlloc (chain (chainAlloc hb1 _) hb2) _))).mono ?_; rintro e w3 ⟨rfl, hb3⟩)
      | fail)
  go_ret
  exact ⟨rfl, chain (chainAlloc (chain (chainAlloc hb1 _) hb2) _) hb3⟩
theorem next_walk (p : Int) (_ : -9223372036854775808 ≤ p) (_ : p ≤ 9223372036854775807) (w : World) (hT : Tab w) :
    Calls Tryd.prog 6 #[.int .i64 p] w fun e w' => e = .returned (.bool true) ∧ Below w.heap.size w w' := by
  have fb := fold_bd p 182620 (by omega)
  rcases next_cases (foldZ p 182620) (by omega) (by omega) with ⟨y, m, d, h1, h2, a, b, c, e, f, g⟩ | ⟨y, m, d, h1, h2, a, b, c, e, f, g⟩ | ⟨y, h1, h2, a, b⟩
  · exact next_same p y m d w hT h1 h2 a b c e f g
  · exact next_month p y m d w hT h1 h2 a b c e f g
  · exact next_year p y w hT h1 h2 a b
end Go.Proofs.YtpknkomkldgnfaaDoor
