/- Plain facts: the made classification of many codes is valid as long as it is short enough. -/
import Derived.Test.YtnmcmnllmnpjkaaGreatDoorG11
namespace Go.Proofs.YtnmcmnllmnpjkaaGreatDoor
open Go.RowKit Go.Sort Cal Go.Maps
def partM (i : Nat) : List Int := if i % 100 = 0 then [1 + ((i / 100 : Nat) : Int)] else [1 + ((i / 100 : Nat) : Int), ((i % 100 : Nat) : Int)]
def manyL (k : Nat) : List ByteArray := (List.range k).map fun i => codeB (partM i)
theorem partM_ok (i : Nat) (h : i ≤ 300) : okP (partM i) := by
  unfold partM
  split
  · refine ⟨by simp, by simp, fun n hn => ?_⟩
    rw [List.mem_singleton.1 hn]; omega
  · refine ⟨by simp, by simp, fun n hn => ?_⟩
    simp only [List.mem_cons, List.not_mem_nil, or_false] at hn
    rcases hn with rfl | rfl <;> omega
theorem manyL_len (k : Nat) : (manyL k).length = k := by simp [manyL]
theorem manyL_at (k i : Nat) (h : i < k) : (manyL k).getD i emptyB = codeB (partM i) := by simp [manyL, List.getD, h]
theorem manyL_succ (k : Nat) : manyL (k + 1) = manyL k ++ [codeB (partM k)] := by unfold manyL; rw [List.range_succ, List.map_append]; rfl
theorem cmp_codes {P Q : List Int} (hp : okP P) (hq : okP Q) : cmpV (codeB P) (codeB Q) = cmpI P Q := by
  have r : ∀ {P : List Int}, okP P → rankV (codeB P) = 1 := fun h => by unfold rankV; rw [if_neg (codeB_pos h), parseO_code _ h]; rfl
  unfold cmpV
  rw [r hp, r hq, parseO_code P hp, parseO_code Q hq]
  rfl
theorem partM_lt (i : Nat) : cmpI (partM i) (partM (i + 1)) < 0 := by
  unfold partM
  by_cases h1 : (i + 1) % 100 = 0
  · rw [if_neg (by omega), if_pos h1, cmpI_cc, if_pos (by omega)]; decide
  · rw [if_neg h1]
    by_cases h2 : i % 100 = 0
    · rw [if_pos h2, cmpI_cc, if_neg (by omega), if_neg (by omega), cmpI_nc]; decide
    · rw [if_neg h2, cmpI_cc, if_neg (by omega), if_neg (by omega), cmpI_cc, if_pos (by omega)]; decide
theorem many_err (k i : Nat) (h : i < k) (hk : k ≤ 300) : errAt (manyL k) i = 0 := by
  have ho := partM_ok i (by omega)
  have hp : parseO ((manyL k).getD i emptyB) = some (partM i) := by rw [manyL_at k i h]; exact parseO_code _ ho
  rw [errAt_rest (manyL k) i _ hp]
  · rw [manyL_at k i h, if_neg]
    rintro ⟨h1, h2⟩
    unfold parentV at h1 h2
    rw [parseO_code _ ho] at h1 h2
    by_cases hm : i % 100 = 0
    · apply h1
      unfold partM; rw [if_pos hm]; rfl
    · have e : (partM i).dropLast = partM (100 * (i / 100)) := by
        unfold partM
        rw [if_neg hm, if_pos (by omega), show 100 * (i / 100) / 100 = i / 100 by omega]
        rfl
      have hin : inB ((manyL k).take i) (codeB (partM i).dropLast) = true := by
        unfold inB
        rw [List.any_eq_true]
        refine ⟨codeB (partM (100 * (i / 100))), ?_, by rw [e]; simp⟩
        rw [List.mem_take_iff_getElem]
        refine ⟨100 * (i / 100), by rw [manyL_len]; omega, ?_⟩
        simp [manyL]
      rw [show ((codeB (partM i).dropLast, true) : ByteArray × Bool).1 = codeB (partM i).dropLast from rfl, hin] at h2
      cases h2
  · by_cases h0 : i = 0
    · exact Or.inl h0
    · refine Or.inr ?_
      rw [manyL_at k i h, manyL_at k (i - 1) (by omega), cmp_codes (partM_ok _ (by omega)) ho]
      have := partM_lt (i - 1)
      rw [show i - 1 + 1 = i by omega] at this
      exact this
theorem many_to (k : Nat) (hk : k ≤ 300) : ∀ i, i ≤ k → errTo (manyL k) i = 0 := by
  intro i
  induction i with
  | zero => intro _; rfl
  | succ i ih => intro h; rw [errTo_at _ _ (ih (by omega)), many_err k i (by omega) hk]
theorem many_valid (k : Nat) (h1 : 1 ≤ k) (h2 : k ≤ 300) : validV (manyL k) = if 200 < k then 61 else 0 := by
  unfold validV
  rw [manyL_len]
  by_cases h : 200 < k
  · rw [if_pos (Or.inr h), if_pos h]
  · rw [if_neg (by omega), if_neg h]
    exact many_to k h2 k (Nat.le_refl _)
theorem many_short (k : Nat) (h : k ≤ 300) : Short (manyL k) := by
  intro i
  by_cases hi : i < k
  · rw [manyL_at k i hi]
    have := codeB_size (partM i)
    have h5 := (partM_ok i (by omega)).2.1
    omega
  · have : (manyL k).getD i emptyB = emptyB := by rw [List.getD, List.getElem?_eq_none (by rw [manyL_len]; omega)]; rfl
    rw [this]; decide
end Go.Proofs.YtnmcmnllmnpjkaaGreatDoor
