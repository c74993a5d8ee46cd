/- Plain facts: the order of strings is a total one. No program in sight. -/
import Derived.Test.YtnmcmnllmnpjkaaGreatDoorCm
namespace Go.Proofs.YtnmcmnllmnpjkaaGreatDoor.Cal
theorem cmpI_nc (b : Int) (y : List Int) : cmpI [] (b :: y) = -1 := rfl
theorem cmpI_cn (a : Int) (x : List Int) : cmpI (a :: x) [] = 1 := rfl
theorem cmpI_nn : cmpI [] [] = 0 := rfl
theorem cmpI_cc (a b : Int) (x y : List Int) : cmpI (a :: x) (b :: y) = if a < b then -1 else if b < a then 1 else cmpI x y := rfl
theorem cmpI_bd : ∀ x y : List Int, -1 ≤ cmpI x y ∧ cmpI x y ≤ 1
  | [], [] => by rw [cmpI_nn]; omega
  | [], b :: y => by rw [cmpI_nc]; omega
  | a :: x, [] => by rw [cmpI_cn]; omega
  | a :: x, b :: y => by
    have := cmpI_bd x y
    rw [cmpI_cc]; split
    · omega
    · split <;> omega
theorem cmpI_neg : ∀ x y : List Int, cmpI y x = -cmpI x y
  | [], [] => rfl
  | [], _ :: _ => rfl
  | _ :: _, [] => rfl
  | a :: x, b :: y => by
    have ih := cmpI_neg x y
    rw [cmpI_cc, cmpI_cc]
    rcases Int.lt_trichotomy a b with h | h | h
    · rw [if_neg (by omega), if_pos h, if_pos h]; rfl
    · rw [if_neg (by omega), if_neg (by omega), if_neg (by omega), if_neg (by omega)]; exact ih
    · rw [if_pos h, if_neg (by omega), if_pos h]
theorem cmpI_zero : ∀ x y : List Int, cmpI x y = 0 → x = y
  | [], [] => fun _ => rfl
  | [], _ :: _ => fun h => by cases h
  | _ :: _, [] => fun h => by cases h
  | a :: x, b :: y => fun h => by
    change (if a < b then (-1 : Int) else if b < a then 1 else cmpI x y) = 0 at h
    rcases Int.lt_trichotomy a b with k | k | k
    · rw [if_pos k] at h; cases h
    · rw [if_neg (by omega), if_neg (by omega)] at h
      rw [k, cmpI_zero x y h]
    · rw [if_neg (by omega), if_pos k] at h; cases h
theorem cmpI_self : ∀ x : List Int, cmpI x x = 0
  | [] => rfl
  | a :: x => by
    show (if a < a then (-1 : Int) else if a < a then 1 else cmpI x x) = 0
    rw [if_neg (by omega), if_neg (by omega)]; exact cmpI_self x
theorem cmpI_trans : ∀ x y z : List Int, cmpI x y ≤ 0 → cmpI y z ≤ 0 → cmpI x z ≤ 0
  | [], _, [] => fun _ _ => by rw [cmpI_nn]; omega
  | [], _, _ :: _ => fun _ _ => by rw [cmpI_nc]; omega
  | _ :: _, [], _ => fun h _ => by rw [cmpI_cn] at h; omega
  | _ :: _, _ :: _, [] => fun _ h => by rw [cmpI_cn] at h; omega
  | a :: x, b :: y, c :: z => fun h1 h2 => by
    change (if a < b then (-1 : Int) else if b < a then 1 else cmpI x y) ≤ 0 at h1
    change (if b < c then (-1 : Int) else if c < b then 1 else cmpI y z) ≤ 0 at h2
    show (if a < c then (-1 : Int) else if c < a then 1 else cmpI x z) ≤ 0
    have hab : a ≤ b := by
      rcases Int.lt_trichotomy a b with k | k | k
      · omega
      · omega
      · rw [if_neg (by omega), if_pos k] at h1; omega
    have hbc : b ≤ c := by
      rcases Int.lt_trichotomy b c with k | k | k
      · omega
      · omega
      · rw [if_neg (by omega), if_pos k] at h2; omega
    by_cases hac : a < c
    · rw [if_pos hac]; decide
    · rw [if_neg hac, if_neg (by omega)]
      rw [if_neg (by omega), if_neg (by omega)] at h1 h2
      exact cmpI_trans x y z h1 h2
/-- Bytes as numbers. -/
theorem bytes_cmp : ∀ a b : List UInt8, Lib.compareBytes a b = cmpI (a.map fun c => (c.toNat : Int)) (b.map fun c => (c.toNat : Int))
  | [], [] => rfl
  | [], _ :: _ => rfl
  | _ :: _, [] => rfl
  | c :: a, d :: b => by
    have ih := bytes_cmp a b
    show (if c < d then (-1 : Int) else if d < c then 1 else Lib.compareBytes a b) = (if ((c.toNat : Nat) : Int) < ((d.toNat : Nat) : Int) then (-1 : Int) else if ((d.toNat : Nat) : Int) < ((c.toNat : Nat) : Int) then 1 else cmpI (a.map fun c => (c.toNat : Int)) (b.map fun c => (c.toNat : Int)))
    rw [ih]
    have e1 : (c < d) = (((c.toNat : Nat) : Int) < ((d.toNat : Nat) : Int)) := by rw [UInt8.lt_iff_toNat_lt]; simp
    have e2 : (d < c) = (((d.toNat : Nat) : Int) < ((c.toNat : Nat) : Int)) := by rw [UInt8.lt_iff_toNat_lt]; simp
    simp only [e1, e2]
theorem map_inj : ∀ a b : List UInt8, (a.map fun c => (c.toNat : Int)) = (b.map fun c => (c.toNat : Int)) → a = b
  | [], [] => fun _ => rfl
  | [], _ :: _ => fun h => by cases h
  | _ :: _, [] => fun h => by cases h
  | c :: a, d :: b => fun h => by
    simp only [List.map_cons, List.cons.injEq] at h
    have e : c = d := by apply UInt8.toNat_inj.1; omega
    rw [e, map_inj a b h.2]
/-- A string's place in the order. -/
def keyV (s : ByteArray) : List Int := rankV s :: (if rankV s = 1 then (parseO s).getD [] else s.data.toList.map fun c => (c.toNat : Int))
theorem cmpV_key (a b : ByteArray) : cmpV a b = cmpI (keyV a) (keyV b) := by
  unfold cmpV keyV
  rw [bytes_cmp, cmpI_cc]
  by_cases h : rankV a = rankV b
  · rw [if_neg (by simpa using h), if_neg (by omega : ¬ rankV a < rankV b), if_neg (by omega : ¬ rankV b < rankV a), ← h]
    by_cases h1 : rankV a = 1
    · rw [if_pos h1, if_pos h1, if_pos h1]
    · rw [if_neg h1, if_neg h1, if_neg h1]
  · rw [if_pos h]
    unfold Lib.compareInt
    by_cases h1 : rankV a < rankV b
    · rw [if_pos h1, if_pos h1]
    · have h2 : rankV b < rankV a := by omega
      rw [if_neg h1, if_neg h1, if_pos h2, if_pos h2]
theorem key_inj {a b : ByteArray} (h : keyV a = keyV b) : a = b := by
  unfold keyV at h
  obtain ⟨h1, h2⟩ := List.cons.inj h
  rw [← h1] at h2
  by_cases hr : rankV a = 1
  · rw [if_pos hr, if_pos hr] at h2
    have hrb : rankV b = 1 := by rw [← h1]; exact hr
    have som : ∀ s, rankV s = 1 → ∃ P, parseO s = some P := by
      intro s hs
      unfold rankV at hs
      split at hs
      · cases hs
      · split at hs
        · rename_i k; exact Option.isSome_iff_exists.1 k
        · cases hs
    obtain ⟨P, hP⟩ := som a hr
    obtain ⟨Q, hQ⟩ := som b hrb
    rw [hP, hQ] at h2
    rw [(parseO_some hP).2, (parseO_some hQ).2]
    exact congrArg codeB h2
  · rw [if_neg hr, if_neg hr] at h2
    exact bs_ext (map_inj _ _ h2)
theorem cmpV_bd (a b : ByteArray) : -1 ≤ cmpV a b ∧ cmpV a b ≤ 1 := by rw [cmpV_key]; exact cmpI_bd _ _
theorem cmpV_neg (a b : ByteArray) : cmpV b a = -cmpV a b := by rw [cmpV_key, cmpV_key]; exact cmpI_neg _ _
theorem cmpV_zero (a b : ByteArray) : cmpV a b = 0 ↔ a = b := by
  rw [cmpV_key]
  exact ⟨fun h => key_inj (cmpI_zero _ _ h), fun h => by rw [h]; exact cmpI_self _⟩
theorem cmpV_trans (a b c : ByteArray) (h1 : cmpV a b ≤ 0) (h2 : cmpV b c ≤ 0) : cmpV a c ≤ 0 := by
  rw [cmpV_key] at h1 h2 ⊢; exact cmpI_trans _ _ _ h1 h2
end Go.Proofs.YtnmcmnllmnpjkaaGreatDoor.Cal
