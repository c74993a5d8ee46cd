/- Plain facts on the texts of dates: what is written, and that it reads back. No program in sight. -/
import Derived.Test.YtenjefbplpbjaaaGreatDoorCal
import Derived.Lib.ItoaNum
import Derived.Lib.ItoaMem
import Derived.Lib.AtoiAllCases
import Derived.Lib.Join
import Derived.Lib.Split
import Derived.Lib.IndexLaws
namespace Go.Proofs.YtenjefbplpbjaaaGreatDoor.Cal
def dig2 (n : Nat) : List UInt8 := [UInt8.ofNat (48 + n / 10), UInt8.ofNat (48 + n % 10)]
def dateL (y m d : Nat) : List UInt8 := (dig2 (y / 100) ++ dig2 (y % 100)) ++ [45] ++ dig2 m ++ [45] ++ dig2 d
/-- A number with at least two digits. -/
def wordL (n : Int) : List UInt8 := if n < 10 then 48 :: Lib.itoa n else Lib.itoa n
theorem wordL_two (n : Nat) (h : n < 100) : wordL n = dig2 n := by
  unfold wordL dig2
  rw [Lib.itoa_nonneg]
  by_cases h10 : n < 10
  · rw [if_pos (by omega), Lib.decDigits_one h10]
    have e1 : n / 10 = 0 := by omega
    have e2 : n % 10 = n := by omega
    rw [e1, e2]; rfl
  · rw [if_neg (by omega), Lib.decDigits_two h10 h]
theorem wordL_four (n : Nat) (h0 : 1000 ≤ n) (h1 : n < 10000) : wordL n = dig2 (n / 100) ++ dig2 (n % 100) := by
  unfold wordL dig2
  rw [if_neg (by omega), Lib.itoa_nonneg]
  rw [Lib.decDigits, dif_neg (by omega), Lib.decDigits, dif_neg (by omega), Lib.decDigits_two (by omega) (by omega)]
  have e1 : n / 10 / 10 / 10 = n / 100 / 10 := by omega
  have e2 : n / 10 / 10 % 10 = n / 100 % 10 := by omega
  have e3 : n / 10 % 10 = n % 100 / 10 := by omega
  have e4 : n % 10 = n % 100 % 10 := by omega
  rw [e1, e2, e3, e4]; rfl
/-- The digits of a list, read on from acc; -1 if one is no digit. -/
def numF (acc : Int) : List UInt8 → Int
  | [] => acc
  | c :: r => if c.toNat < 48 ∨ 57 < c.toNat then -1 else numF (10 * acc + ((c.toNat : Int) - 48)) r
theorem numF_cons (acc : Int) (c : UInt8) (r : List UInt8) : numF acc (c :: r) = if c.toNat < 48 ∨ 57 < c.toNat then -1 else numF (10 * acc + ((c.toNat : Int) - 48)) r := rfl
/-- What the reference reads. -/
def refP (l : List UInt8) : Option (Int × Int × Int) :=
  if l.length = 10 ∧ l.getD 4 0 = 45 ∧ l.getD 7 0 = 45 then
    (if vd (numF 0 (l.take 4)) (numF 0 ((l.drop 5).take 2)) (numF 0 ((l.drop 8).take 2)) = true then some (numF 0 (l.take 4), numF 0 ((l.drop 5).take 2), numF 0 ((l.drop 8).take 2)) else none)
  else none
theorem ofNat_toNat (k : Nat) (h : k < 10) : (UInt8.ofNat (48 + k)).toNat = 48 + k := by
  show (48 + k) % 256 = 48 + k
  omega
theorem numF_dig2 (acc : Int) (n : Nat) (h : n < 100) (r : List UInt8) : numF acc (dig2 n ++ r) = numF (100 * acc + n) r := by
  have a := ofNat_toNat (n / 10) (by omega)
  have b := ofNat_toNat (n % 10) (by omega)
  show numF acc (UInt8.ofNat (48 + n / 10) :: UInt8.ofNat (48 + n % 10) :: r) = _
  rw [numF_cons, a, if_neg (by omega), numF_cons, b, if_neg (by omega)]
  have e : 10 * (10 * acc + (((48 + n / 10 : Nat) : Int) - 48)) + (((48 + n % 10 : Nat) : Int) - 48) = 100 * acc + n := by omega
  rw [e]
theorem numF_two (n : Nat) (h : n < 100) : numF 0 (dig2 n) = n := by
  have := numF_dig2 0 n h []
  rw [List.append_nil] at this
  rw [this]; show 100 * 0 + (n : Int) = n; omega
theorem numF_four (n : Nat) (h : n < 10000) : numF 0 (dig2 (n / 100) ++ dig2 (n % 100)) = n := by
  rw [numF_dig2 0 (n / 100) (by omega)]
  have := numF_dig2 (100 * 0 + ((n / 100 : Nat) : Int)) (n % 100) (by omega) []
  rw [List.append_nil] at this
  rw [this]; show 100 * (100 * 0 + ((n / 100 : Nat) : Int)) + ((n % 100 : Nat) : Int) = n; omega
/-- A valid date's text reads as it. -/
theorem refP_text (y m d : Nat) (h : vd y m d = true) : refP (dateL y m d) = some ((y : Int), (m : Int), (d : Int)) := by
  obtain ⟨a, b, c, e, f, g⟩ := (vd_iff _ _ _).1 h
  have lb := len_bd y m
  have t1 : (dateL y m d).take 4 = dig2 (y / 100) ++ dig2 (y % 100) := rfl
  have t2 : ((dateL y m d).drop 5).take 2 = dig2 m := rfl
  have t3 : ((dateL y m d).drop 8).take 2 = dig2 d := rfl
  unfold refP
  rw [t1, t2, t3, numF_four y (by omega), numF_two m (by omega), numF_two d (by omega), if_pos ⟨rfl, rfl, rfl⟩, if_pos h]
theorem u8_eq (c : UInt8) (k : Nat) (h : c.toNat = 48 + k) (_ : k < 10) : c = UInt8.ofNat (48 + k) := by
  apply UInt8.toNat.inj
  rw [h, ofNat_toNat k (by omega)]
theorem numF_ne (acc : Int) (c : UInt8) (r : List UInt8) (h : numF acc (c :: r) ≠ -1) : (48 ≤ c.toNat ∧ c.toNat ≤ 57) ∧ numF acc (c :: r) = numF (10 * acc + ((c.toNat : Int) - 48)) r := by
  rw [numF_cons] at h ⊢
  by_cases k : c.toNat < 48 ∨ 57 < c.toNat
  · rw [if_pos k] at h; exact absurd rfl h
  · rw [if_neg k]; exact ⟨by omega, rfl⟩
theorem numF_two_inv (a b : UInt8) (n : Nat) (h : numF 0 [a, b] = n) : [a, b] = dig2 n ∧ n < 100 := by
  obtain ⟨h1, e1⟩ := numF_ne 0 a [b] (by rw [h]; omega)
  rw [e1] at h
  obtain ⟨h2, e2⟩ := numF_ne _ b [] (by rw [h]; omega)
  rw [e2] at h
  have h' : 10 * (10 * 0 + ((a.toNat : Int) - 48)) + ((b.toNat : Int) - 48) = n := h
  refine ⟨?_, by omega⟩
  rw [u8_eq a (n / 10) (by omega) (by omega), u8_eq b (n % 10) (by omega) (by omega)]; rfl
theorem numF_four_inv (a b c e : UInt8) (n : Nat) (h : numF 0 [a, b, c, e] = n) : [a, b, c, e] = dig2 (n / 100) ++ dig2 (n % 100) ∧ n < 10000 := by
  obtain ⟨h1, e1⟩ := numF_ne 0 a _ (by rw [h]; omega)
  rw [e1] at h
  obtain ⟨h2, e2⟩ := numF_ne _ b _ (by rw [h]; omega)
  rw [e2] at h
  obtain ⟨h3, e3⟩ := numF_ne _ c _ (by rw [h]; omega)
  rw [e3] at h
  obtain ⟨h4, e4⟩ := numF_ne _ e _ (by rw [h]; omega)
  rw [e4] at h
  have h' : 10 * (10 * (10 * (10 * 0 + ((a.toNat : Int) - 48)) + ((b.toNat : Int) - 48)) + ((c.toNat : Int) - 48)) + ((e.toNat : Int) - 48) = n := h
  refine ⟨?_, by omega⟩
  rw [u8_eq a (n / 100 / 10) (by omega) (by omega), u8_eq b (n / 100 % 10) (by omega) (by omega), u8_eq c (n % 100 / 10) (by omega) (by omega), u8_eq e (n % 100 % 10) (by omega) (by omega)]; rfl
/-- What the reference reads is the text of a valid date. -/
theorem refP_sound (l : List UInt8) (y m d : Int) (h : refP l = some (y, m, d)) : ∃ a b c : Nat, y = a ∧ m = b ∧ d = c ∧ vd y m d = true ∧ l = dateL a b c := by
  unfold refP at h
  by_cases hc : l.length = 10 ∧ l.getD 4 0 = 45 ∧ l.getD 7 0 = 45
  · rw [if_pos hc] at h
    obtain ⟨h1, h2, h3⟩ := hc
    match l, h1, h2, h3, h with
    | [x0, x1, x2, x3, x4, x5, x6, x7, x8, x9], _, h2, h3, h =>
      have e4 : x4 = 45 := h2
      have e7 : x7 = 45 := h3
      subst e4 e7
      by_cases hv : vd (numF 0 [x0, x1, x2, x3]) (numF 0 [x5, x6]) (numF 0 [x8, x9]) = true
      · have h' : some (numF 0 [x0, x1, x2, x3], numF 0 [x5, x6], numF 0 [x8, x9]) = some (y, m, d) := by rw [← h]; exact (if_pos hv).symm
        simp only [Option.some.injEq, Prod.mk.injEq] at h'
        obtain ⟨ey, em, ed⟩ := h'
        rw [ey, em, ed] at hv
        obtain ⟨va, vb, vc, ve, vf, vg⟩ := (vd_iff _ _ _).1 hv
        obtain ⟨a, rfl⟩ := Int.eq_ofNat_of_zero_le (show 0 ≤ y by omega)
        obtain ⟨b, rfl⟩ := Int.eq_ofNat_of_zero_le (show 0 ≤ m by omega)
        obtain ⟨c, rfl⟩ := Int.eq_ofNat_of_zero_le (show 0 ≤ d by omega)
        have i1 := (numF_four_inv _ _ _ _ a ey).1
        have i2 := (numF_two_inv _ _ b em).1
        have i3 := (numF_two_inv _ _ c ed).1
        refine ⟨a, b, c, rfl, rfl, rfl, hv, ?_⟩
        unfold dateL
        rw [← i1, ← i2, ← i3]; rfl
      · have h' : none = some (y, m, d) := by rw [← h]; exact (if_neg hv).symm
        cases h'
  · rw [if_neg hc] at h; cases h
end Go.Proofs.YtenjefbplpbjaaaGreatDoor.Cal
