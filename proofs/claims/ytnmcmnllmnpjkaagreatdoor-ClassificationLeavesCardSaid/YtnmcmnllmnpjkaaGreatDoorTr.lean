/- Plain facts: a list of codes that grows in order, each behind its parent, is a valid classification. -/
import Derived.Test.YtnmcmnllmnpjkaaGreatDoorMn
namespace Go.Proofs.YtnmcmnllmnpjkaaGreatDoor
open Go.RowKit Go.Sort Cal Go.Maps
structure TreeOK (PS : List (List Int)) : Prop where
  ok : ∀ P ∈ PS, okP P
  up : ∀ i, i + 1 < PS.length → cmpI (PS.getD i []) (PS.getD (i + 1) []) < 0
  par : ∀ i, i < PS.length → (PS.getD i []).dropLast = [] ∨ (PS.getD i []).dropLast ∈ PS.take i
def codesOf (PS : List (List Int)) : List ByteArray := PS.map codeB
theorem codesOf_len (PS : List (List Int)) : (codesOf PS).length = PS.length := by simp [codesOf]
theorem codesOf_at (PS : List (List Int)) (i : Nat) (h : i < PS.length) : (codesOf PS).getD i emptyB = codeB (PS.getD i []) := by simp [codesOf, List.getD, h]
theorem codesOf_snoc (PS : List (List Int)) (Q : List Int) : codesOf (PS ++ [Q]) = codesOf PS ++ [codeB Q] := by simp [codesOf]
theorem TreeOK.nil : TreeOK [] := ⟨(fun P h => by cases h), (fun i h => by simp at h), (fun i h => by simp at h)⟩
theorem getD_mem {PS : List (List Int)} {i : Nat} (h : i < PS.length) : PS.getD i [] ∈ PS := by
  rw [List.getD, List.getElem?_eq_getElem h]; simp
theorem TreeOK.push {PS : List (List Int)} (h : TreeOK PS) (Q : List Int) (hq : okP Q) (hl : PS = [] ∨ ∃ L, PS.getLast? = some L ∧ cmpI L Q < 0) (hp : Q.dropLast = [] ∨ Q.dropLast ∈ PS) : TreeOK (PS ++ [Q]) := by
  have old : ∀ i, i < PS.length → (PS ++ [Q]).getD i [] = PS.getD i [] := fun i hi => by simp [List.getD, List.getElem?_append_left hi]
  have new : (PS ++ [Q]).getD PS.length [] = Q := by simp [List.getD]
  refine ⟨fun P hP => ?_, fun i hi => ?_, fun i hi => ?_⟩
  · rcases List.mem_append.1 hP with k | k
    · exact h.ok P k
    · rw [List.mem_singleton.1 k]; exact hq
  · rw [List.length_append, List.length_singleton] at hi
    by_cases e : i + 1 < PS.length
    · rw [old i (by omega), old (i + 1) e]; exact h.up i e
    · have e2 : i + 1 = PS.length := by omega
      rw [old i (by omega), e2, new]
      rcases hl with k | ⟨L, k, kc⟩
      · rw [k] at e2; simp at e2
      · have : PS.getD i [] = L := by
          rw [List.getLast?_eq_getElem?] at k
          rw [List.getD, show i = PS.length - 1 by omega, k]; rfl
        rw [this]; exact kc
  · rw [List.length_append, List.length_singleton] at hi
    by_cases e : i < PS.length
    · rw [old i e, List.take_append_of_le_length (by omega)]; exact h.par i e
    · have e2 : i = PS.length := by omega
      rw [e2, new, List.take_left']
      · exact hp
      · rfl
theorem tree_err {PS : List (List Int)} (h : TreeOK PS) (i : Nat) (hi : i < PS.length) : errAt (codesOf PS) i = 0 := by
  have ho := h.ok _ (getD_mem hi)
  have hp : parseO ((codesOf PS).getD i emptyB) = some (PS.getD i []) := by rw [codesOf_at PS i hi]; exact parseO_code _ ho
  rw [errAt_rest (codesOf PS) i _ hp]
  · rw [codesOf_at PS i hi, if_neg]
    rintro ⟨h1, h2⟩
    unfold parentV at h1 h2
    rw [parseO_code _ ho] at h1 h2
    rcases h.par i hi with k | k
    · exact h1 (by show codeB (PS.getD i []).dropLast = _; rw [k]; rfl)
    · have hin : inB ((codesOf PS).take i) (codeB (PS.getD i []).dropLast) = true := by
        unfold inB
        rw [List.any_eq_true]
        refine ⟨codeB (PS.getD i []).dropLast, ?_, by simp⟩
        unfold codesOf
        rw [← List.map_take]
        exact List.mem_map_of_mem k
      rw [show ((codeB (PS.getD i []).dropLast, true) : ByteArray × Bool).1 = codeB (PS.getD i []).dropLast from rfl, hin] at h2
      cases h2
  · by_cases h0 : i = 0
    · exact Or.inl h0
    · refine Or.inr ?_
      obtain ⟨j, rfl⟩ : ∃ j, i = j + 1 := ⟨i - 1, by omega⟩
      rw [Nat.add_sub_cancel, codesOf_at PS (j + 1) hi, codesOf_at PS j (by omega), cmp_codes (h.ok _ (getD_mem (by omega))) ho]
      exact h.up j hi
theorem tree_to {PS : List (List Int)} (h : TreeOK PS) : ∀ i, i ≤ PS.length → errTo (codesOf PS) i = 0 := by
  intro i
  induction i with
  | zero => intro _; rfl
  | succ i ih => intro k; rw [errTo_at _ _ (ih (by omega)), tree_err h i (by omega)]
theorem tree_valid {PS : List (List Int)} (h : TreeOK PS) (h1 : 1 ≤ PS.length) (h2 : PS.length ≤ 200) : validV (codesOf PS) = 0 := by
  unfold validV
  rw [codesOf_len, if_neg (by omega)]
  exact tree_to h _ (Nat.le_refl _)
theorem tree_short {PS : List (List Int)} (h : TreeOK PS) : Short (codesOf PS) := by
  intro i
  by_cases hi : i < PS.length
  · rw [codesOf_at PS i hi]
    have := codeB_size (PS.getD i [])
    have h5 := (h.ok _ (getD_mem hi)).2.1
    omega
  · have : (codesOf PS).getD i emptyB = emptyB := by rw [List.getD, List.getElem?_eq_none (by rw [codesOf_len]; omega)]; rfl
    rw [this]; decide
/-- The last code's first part is less than what comes. -/
theorem cmp_head (h t : Int) (r : List Int) (k : h < t) : cmpI (h :: r) [t] < 0 := by rw [cmpI_cc, if_pos k]; decide
theorem cmp_child (t x : Int) (R : List Int) (k : R = [] ∨ ∃ y r, R = y :: r ∧ y < x) : cmpI (t :: R) [t, x] < 0 := by
  rw [cmpI_cc, if_neg (by omega), if_neg (by omega)]
  rcases k with rfl | ⟨y, r, rfl, hy⟩
  · rw [cmpI_nc]; decide
  · rw [cmpI_cc, if_pos hy]; decide
theorem cmp_leaf (t x z : Int) : cmpI [t, x] [t, x, z] < 0 := by
  rw [cmpI_cc, if_neg (by omega), if_neg (by omega), cmpI_cc, if_neg (by omega), if_neg (by omega), cmpI_nc]; decide
theorem ok_one (t : Int) (h : 1 ≤ t ∧ t ≤ 99) : okP [t] := ⟨by simp, by simp, fun n hn => by rw [List.mem_singleton.1 hn]; exact h⟩
theorem ok_two (t x : Int) (h : 1 ≤ t ∧ t ≤ 99) (hx : 1 ≤ x ∧ x ≤ 99) : okP [t, x] := ⟨by simp, by simp, fun n hn => by
  simp only [List.mem_cons, List.not_mem_nil, or_false] at hn
  rcases hn with rfl | rfl
  · exact h
  · exact hx⟩
theorem ok_three (t x z : Int) (h : 1 ≤ t ∧ t ≤ 99) (hx : 1 ≤ x ∧ x ≤ 99) (hz : 1 ≤ z ∧ z ≤ 99) : okP [t, x, z] := ⟨by simp, by simp, fun n hn => by
  simp only [List.mem_cons, List.not_mem_nil, or_false] at hn
  rcases hn with rfl | rfl | rfl
  · exact h
  · exact hx
  · exact hz⟩
end Go.Proofs.YtnmcmnllmnpjkaaGreatDoor
