/- Plain facts on the calendar: leap years, the lengths of the months, the first day of each month, the month of a day. No program in sight. -/
import Derived.WalkKit
namespace Go.Proofs.YtenjefbplpbjaaaGreatDoor.Cal

def leapB (y : Int) : Bool := (y % 4 == 0 && y % 100 != 0) || y % 400 == 0
def len (y m : Int) : Int := if m = 2 then (if leapB y = true then 29 else 28) else if m = 4 ∨ m = 6 ∨ m = 9 ∨ m = 11 then 30 else 31
def bef (y : Int) : Int := 365 * (y - 1900) + ((y - 1) / 4 - (y - 1) / 100 + (y - 1) / 400) - 460
def fd : Nat → Int
  | 0 => 0
  | p + 1 => fd p + len (1900 + ((p / 12 : Nat) : Int)) (((p % 12 : Nat) : Int) + 1)
theorem leapB_iff (y : Int) : leapB y = true ↔ ((y % 4 = 0 ∧ y % 100 ≠ 0) ∨ y % 400 = 0) := by
  unfold leapB; simp [bne_iff_ne]
theorem len_bd (y m : Int) : 28 ≤ len y m ∧ len y m ≤ 31 := by
  unfold len; split
  · split <;> omega
  · split <;> omega
theorem bef_succ (y : Int) : bef (y + 1) = bef y + 365 + (if leapB y = true then 1 else 0) := by
  unfold bef
  have e := leapB_iff y
  by_cases l : leapB y = true
  · rw [if_pos l]; have := e.1 l; omega
  · rw [if_neg l]
    have : ¬ ((y % 4 = 0 ∧ y % 100 ≠ 0) ∨ y % 400 = 0) := fun h => l (e.2 h)
    omega
theorem fd_step (k j : Nat) (hj : j < 12) : fd (12 * k + j + 1) = fd (12 * k + j) + len (1900 + (k : Int)) ((j : Int) + 1) := by
  have h1 : (12 * k + j) / 12 = k := by omega
  have h2 : (12 * k + j) % 12 = j := by omega
  show fd (12 * k + j) + len (1900 + (((12 * k + j) / 12 : Nat) : Int)) ((((12 * k + j) % 12 : Nat) : Int) + 1) = _
  rw [h1, h2]
theorem fd_year (k : Nat) : fd (12 * k) = bef (1900 + (k : Int)) := by
  induction k with
  | zero => decide
  | succ k ih =>
    have h0 := fd_step k 0 (by omega)
    have h1 := fd_step k 1 (by omega)
    have h2 := fd_step k 2 (by omega)
    have h3 := fd_step k 3 (by omega)
    have h4 := fd_step k 4 (by omega)
    have h5 := fd_step k 5 (by omega)
    have h6 := fd_step k 6 (by omega)
    have h7 := fd_step k 7 (by omega)
    have h8 := fd_step k 8 (by omega)
    have h9 := fd_step k 9 (by omega)
    have h10 := fd_step k 10 (by omega)
    have h11 := fd_step k 11 (by omega)
    have hb := bef_succ (1900 + (k : Int))
    have e : 12 * (k + 1) = 12 * k + 11 + 1 := by omega
    have e2 : (1900 + ((k + 1 : Nat) : Int)) = 1900 + (k : Int) + 1 := by omega
    rw [e, e2, hb, h11, h10, h9, h8, h7, h6, h5, h4, h3, h2, h1, h0, Nat.add_zero, ih]
    by_cases l : leapB (1900 + (k : Int)) = true
    · simp [len, l]; omega
    · simp [len, l]; omega
theorem fd_mono1 (p : Nat) : fd p < fd (p + 1) := by
  have := len_bd (1900 + ((p / 12 : Nat) : Int)) (((p % 12 : Nat) : Int) + 1)
  show _ < fd p + _
  omega
theorem fd_mono (a b : Nat) (h : a ≤ b) : fd a ≤ fd b := by
  induction b with
  | zero => have : a = 0 := by omega
            subst this; omega
  | succ b ih =>
    by_cases e : a = b + 1
    · subst e; omega
    · have := ih (by omega); have := fd_mono1 b; omega
theorem fd_uniq (a b : Nat) (n : Int) (h1 : fd a ≤ n) (h2 : n < fd (a + 1)) (h3 : fd b ≤ n) (h4 : n < fd (b + 1)) : a = b := by
  by_cases c : a < b
  · have := fd_mono (a + 1) b (by omega); omega
  · by_cases d : b < a
    · have := fd_mono (b + 1) a (by omega); omega
    · omega
theorem fd_end : fd 6000 = 182621 := by
  have := fd_year 500
  rw [show 12 * 500 = 6000 from rfl] at this
  rw [this]; decide
theorem fd_lo (p : Nat) : 28 * (p : Int) ≤ fd p := by
  induction p with
  | zero => decide
  | succ p ih =>
    have := len_bd (1900 + ((p / 12 : Nat) : Int)) (((p % 12 : Nat) : Int) + 1)
    show _ ≤ fd p + _
    omega
/-- the month of a day -/
def perGo : Nat → Int → Nat → Nat
  | 0, _, p => p
  | f + 1, n, p => if fd (p + 1) ≤ n then perGo f n (p + 1) else p
def per (n : Int) : Nat := perGo 6000 n 0
theorem perGo_spec (f : Nat) : ∀ (n : Int) (p : Nat), fd p ≤ n → n < fd (p + f) → fd (perGo f n p) ≤ n ∧ n < fd (perGo f n p + 1) := by
  induction f with
  | zero => intro n p h1 h2; simp at h2; omega
  | succ f ih =>
    intro n p h1 h2
    unfold perGo
    by_cases c : fd (p + 1) ≤ n
    · rw [if_pos c]; exact ih n (p + 1) c (by rw [show p + 1 + f = p + (f + 1) from by omega]; exact h2)
    · rw [if_neg c]; exact ⟨h1, by omega⟩
theorem per_spec (n : Int) (h0 : 0 ≤ n) (h1 : n < 182621) : fd (per n) ≤ n ∧ n < fd (per n + 1) :=
  perGo_spec 6000 n 0 (by show (0 : Int) ≤ n; omega) (by rw [Nat.zero_add, fd_end]; exact h1)
theorem per_lt (n : Int) (h0 : 0 ≤ n) (h1 : n < 182621) : per n < 6000 := by
  have h := per_spec n h0 h1
  by_cases c : per n < 6000
  · exact c
  · have := fd_mono 6000 (per n) (by omega)
    rw [fd_end] at this; omega
theorem per_of (p : Nat) (n : Int) (h0 : 0 ≤ n) (h1 : n < 182621) (h2 : fd p ≤ n) (h3 : n < fd (p + 1)) : per n = p :=
  fd_uniq _ _ n (per_spec n h0 h1).1 (per_spec n h0 h1).2 h2 h3
theorem fd_hi (p : Nat) : 0 ≤ fd p ∧ fd p ≤ 31 * (p : Int) := by
  induction p with
  | zero => decide
  | succ p ih =>
    have := len_bd (1900 + ((p / 12 : Nat) : Int)) (((p % 12 : Nat) : Int) + 1)
    show 0 ≤ fd p + _ ∧ fd p + _ ≤ _
    omega
theorem fd_succ (k : Nat) : fd (k + 1) = fd k + len (1900 + (k : Int) / 12) ((k : Int) % 12 + 1) := by
  have e1 : ((k / 12 : Nat) : Int) = (k : Int) / 12 := by omega
  have e2 : ((k % 12 : Nat) : Int) = (k : Int) % 12 := by omega
  show fd k + len (1900 + ((k / 12 : Nat) : Int)) (((k % 12 : Nat) : Int) + 1) = _
  rw [e1, e2]
/-- The first day of the month number p. -/
def fday (p : Int) : Int := if 0 ≤ p ∧ p ≤ 5999 then fd p.toNat else -1
/-- Is it a date of the calendar? -/
def vd (y m d : Int) : Bool := decide (1900 ≤ y ∧ y ≤ 2399 ∧ 1 ≤ m ∧ m ≤ 12 ∧ 1 ≤ d ∧ d ≤ len y m)
theorem vd_iff (y m d : Int) : vd y m d = true ↔ (1900 ≤ y ∧ y ≤ 2399 ∧ 1 ≤ m ∧ m ≤ 12 ∧ 1 ≤ d ∧ d ≤ len y m) := by
  unfold vd; simp
/-- The number of a date. -/
def num (y m d : Int) : Int := if vd y m d = true then fd (12 * (y - 1900) + m - 1).toNat + d - 1 else -1
theorem bef_fd (y : Int) (h : 1900 ≤ y) : bef y = fd (12 * (y - 1900)).toNat := by
  obtain ⟨k, hk⟩ := Int.eq_ofNat_of_zero_le (show 0 ≤ y - 1900 by omega)
  have e : (12 * (y - 1900)).toNat = 12 * k := by omega
  have := fd_year k
  rw [e, this]; congr 1; omega
theorem fd_month (y : Int) (k : Nat) (h : 1900 ≤ y) (hk : k < 12) : fd (12 * (y - 1900) + (k + 1 : Nat)).toNat = fd (12 * (y - 1900) + k).toNat + len y ((k : Int) + 1) := by
  obtain ⟨j, hj⟩ := Int.eq_ofNat_of_zero_le (show 0 ≤ y - 1900 by omega)
  have e1 : (12 * (y - 1900) + (k + 1 : Nat)).toNat = 12 * j + k + 1 := by omega
  have e2 : (12 * (y - 1900) + k).toNat = 12 * j + k := by omega
  have e3 : y = 1900 + (j : Int) := by omega
  rw [e1, e2, fd_step j k hk, e3]
theorem num_bd (y m d : Int) : -1 ≤ num y m d ∧ num y m d ≤ 190000 := by
  unfold num
  split
  · rename_i h
    obtain ⟨a, b, c, e, f, g⟩ := (vd_iff y m d).1 h
    have := fd_hi (12 * (y - 1900) + m - 1).toNat
    have := len_bd y m
    omega
  · omega
end Go.Proofs.YtenjefbplpbjaaaGreatDoor.Cal
