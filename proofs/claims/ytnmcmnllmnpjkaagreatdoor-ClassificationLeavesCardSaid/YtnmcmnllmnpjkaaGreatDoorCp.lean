/- Plain facts: what two codes have in common, as the program and as the reference look for it. No program in sight. -/
import Derived.Test.YtnmcmnllmnpjkaaGreatDoorCo
namespace Go.Proofs.YtnmcmnllmnpjkaaGreatDoor.Cal
/-- The last of a list for which something holds. -/
theorem last_none {α : Type} (p : α → Bool) (l : List α) (h : (l.filter p).getLast? = none) : ∀ x ∈ l, p x = false := by
  intro x hx
  have e : l.filter p = [] := by simpa using h
  have := List.filter_eq_nil_iff.1 e x hx
  simpa using this
theorem last_some {α : Type} (p : α → Bool) : ∀ (n : Nat) (f : Nat → α) (x : α), (((List.range n).map f).filter p).getLast? = some x →
    ∃ i, i < n ∧ x = f i ∧ p (f i) = true ∧ ∀ j, i < j → j < n → p (f j) = false
  | 0, f, x => by intro h; simp at h
  | n + 1, f, x => by
    intro h
    rw [List.range_succ, List.map_append, List.filter_append, List.map_cons, List.map_nil] at h
    by_cases hp : p (f n) = true
    · rw [List.filter_cons_of_pos hp, List.filter_nil, List.getLast?_append] at h
      simp at h
      exact ⟨n, by omega, h.symm, hp, fun j h1 h2 => by omega⟩
    · rw [List.filter_cons_of_neg hp, List.filter_nil, List.append_nil] at h
      obtain ⟨i, h1, h2, h3, h4⟩ := last_some p n f x h
      refine ⟨i, by omega, h2, h3, fun j k1 k2 => ?_⟩
      by_cases e : j = n
      · rw [e]; simpa using hp
      · exact h4 j k1 (by omega)
/-- What two codes have in common: a start of the first one's parts, as long as the second one allows. -/
theorem common_code (a b : ByteArray) (P Q : List Int) (ha : partsO a = some P) (hb : partsO b = some Q) :
    ∃ i, i ≤ P.length ∧ partsO (commonV a b) = some (P.take i) ∧ (P.take i).isPrefixOf Q = true ∧ ∀ j, i < j → j ≤ P.length → (P.take j).isPrefixOf Q = false := by
  have wv : ∀ R, okP R → withinB b (codeB R) = R.isPrefixOf Q := by
    intro R oR
    unfold withinB
    rw [hb, partsO_code oR]
  rcases partsO_some ha with ⟨rfl, rfl⟩ | ⟨oP, rfl⟩
  · refine ⟨0, by simp, ?_, by simp, fun j h1 h2 => by simp at h2; omega⟩
    have : pathV emptyB = [] := by unfold pathV; rw [parseO_empty]
    unfold commonV
    rw [this]
    rfl
  · have hp : pathV (codeB P) = upsL P := by unfold pathV; rw [parseO_code P oP]
    unfold commonV
    rw [hp]
    cases hl : ((upsL P).filter (withinB b)).getLast? with
    | none =>
      have hn := last_none _ _ hl
      refine ⟨0, by omega, by rfl, by simp, fun j h1 h2 => ?_⟩
      have := hn (codeB (P.take j)) (mem_ups.2 ⟨j - 1, by omega, by rw [show j - 1 + 1 = j by omega]⟩)
      rw [← wv _ (okP_take oP j (by omega))]
      exact this
    | some x =>
      obtain ⟨i, h1, h2, h3, h4⟩ := last_some _ _ _ _ hl
      refine ⟨i + 1, by omega, ?_, ?_, fun j k1 k2 => ?_⟩
      · rw [h2]; exact partsO_code (okP_take oP _ (by omega))
      · rw [← wv _ (okP_take oP _ (by omega))]; exact h3
      · have := h4 (j - 1) (by omega) (by omega)
        rw [show j - 1 + 1 = j by omega] at this
        rw [← wv _ (okP_take oP j (by omega))]
        exact this
theorem level_parts {s : ByteArray} (h : 0 ≤ levelV s) : ∃ P, partsO s = some P := by
  unfold levelV at h
  cases hp : partsO s with
  | some P => exact ⟨P, rfl⟩
  | none => rw [hp] at h; exact absurd h (by decide)
theorem within_parts {c a : ByteArray} (h : withinB c a = true) : ∃ P Q, partsO c = some P ∧ partsO a = some Q ∧ Q.isPrefixOf P = true := by
  unfold withinB at h
  cases hc : partsO c with
  | none => rw [hc] at h; cases h
  | some P =>
    cases ha : partsO a with
    | none => rw [hc, ha] at h; cases h
    | some Q => rw [hc, ha] at h; exact ⟨P, Q, rfl, rfl, h⟩
theorem within_of {c a : ByteArray} {P Q : List Int} (hc : partsO c = some P) (ha : partsO a = some Q) : withinB c a = Q.isPrefixOf P := by
  unfold withinB; rw [hc, ha]
theorem take_pre (P : List Int) (i : Nat) : (P.take i).isPrefixOf P = true := List.isPrefixOf_iff_prefix.2 (List.take_prefix i P)
/-- Both strings are within what they have in common, and it is within whatever both are within. -/
theorem meets (a b c : ByteArray) (ha : 0 ≤ levelV a) (hb : 0 ≤ levelV b) :
    withinB a (commonV a b) = true ∧ withinB b (commonV a b) = true ∧ (withinB a c = true → withinB b c = true → withinB (commonV a b) c = true) := by
  obtain ⟨P, hP⟩ := level_parts ha
  obtain ⟨Q, hQ⟩ := level_parts hb
  obtain ⟨i, hi, hm, h1, h2⟩ := common_code a b P Q hP hQ
  refine ⟨by rw [within_of hP hm]; exact take_pre P i, by rw [within_of hQ hm]; exact h1, fun k1 k2 => ?_⟩
  obtain ⟨P', R, e1, e2, e3⟩ := within_parts k1
  obtain ⟨Q', R', f1, f2, f3⟩ := within_parts k2
  rw [hP] at e1
  rw [hQ] at f1
  rw [e2] at f2
  cases e1; cases f1; cases f2
  rw [within_of hm e2]
  have hp := List.isPrefixOf_iff_prefix.1 e3
  have hR := List.prefix_iff_eq_take.1 hp
  have hle : R.length ≤ i := by
    by_cases h : R.length ≤ i
    · exact h
    · have := h2 R.length (by omega) hp.length_le
      rw [← hR, f3] at this
      cases this
  rw [List.isPrefixOf_iff_prefix, hR]
  exact (List.take_prefix_take_left hle)
theorem cmpI_pre : ∀ x y : List Int, x.isPrefixOf y = true → cmpI x y ≤ 0
  | [], [] => fun _ => by decide
  | [], _ :: _ => fun _ => by rw [cmpI_nc]; decide
  | _ :: _, [] => fun h => by cases h
  | a :: x, b :: y => fun h => by
    have h2 : a = b ∧ x.isPrefixOf y = true := by simpa [List.isPrefixOf] using h
    rw [cmpI_cc, if_neg (by omega), if_neg (by omega)]
    exact cmpI_pre x y h2.2
theorem rank_ok {P : List Int} (h : okP P) : rankV (codeB P) = 1 := by
  unfold rankV; rw [if_neg (codeB_pos h), parseO_code P h]; rfl
/-- An ancestor comes before what is within it. -/
theorem within_order {a b : ByteArray} (h : withinB a b = true) : cmpV b a ≤ 0 := by
  obtain ⟨P, Q, hP, hQ, hpre⟩ := within_parts h
  rcases partsO_some hQ with ⟨rfl, rfl⟩ | ⟨oQ, rfl⟩
  · rcases partsO_some hP with ⟨rfl, rfl⟩ | ⟨oP, rfl⟩
    · rw [(cmpV_zero _ _).2 rfl]; decide
    · have h0 : rankV emptyB = 0 := rfl
      unfold cmpV
      rw [h0, rank_ok oP, if_pos (by decide)]
      decide
  · rcases partsO_some hP with ⟨rfl, rfl⟩ | ⟨oP, rfl⟩
    · match Q, okP_ne oQ with
      | _ :: _, _ => cases hpre
    · unfold cmpV
      rw [rank_ok oP, rank_ok oQ, parseO_code P oP, parseO_code Q oQ]
      exact cmpI_pre Q P hpre
/-- The program's way: backwards, the first one that holds. -/
theorem common_back (a b : ByteArray) : commonV a b = ((pathV a).reverse.find? (withinB b)).getD emptyB := by
  unfold commonV
  rw [← List.head?_filter, List.filter_reverse, List.head?_reverse]
/-- The reference's way: the last one so far. -/
def lastW (b : ByteArray) (l : List ByteArray) : ByteArray := ((l.filter (withinB b)).getLast?).getD emptyB
theorem lastW_snoc (b : ByteArray) (l : List ByteArray) (x : ByteArray) : lastW b (l ++ [x]) = if withinB b x then x else lastW b l := by
  unfold lastW
  rw [List.filter_append]
  by_cases h : withinB b x = true
  · rw [if_pos h, List.filter_cons_of_pos h, List.filter_nil, List.getLast?_append]; rfl
  · rw [if_neg h, List.filter_cons_of_neg h, List.filter_nil, List.append_nil]
theorem common_last (a b : ByteArray) : commonV a b = lastW b (pathV a) := rfl
/-- A code is no longer than the text that it is cut from; what is in common is a code of at most 15 bytes or "". -/
theorem common_size (a b : ByteArray) : (commonV a b).size ≤ 1000 := by
  unfold commonV
  cases h : ((pathV a).filter (withinB b)).getLast? with
  | none => decide
  | some x =>
    have hx : x ∈ pathV a := by
      have := List.mem_of_getLast? h
      exact (List.mem_filter.1 this).1
    show x.size ≤ 1000
    unfold pathV at hx
    cases hp : parseO a with
    | none => rw [hp] at hx; simp at hx
    | some P =>
      rw [hp] at hx
      obtain ⟨i, hi, e⟩ := mem_ups.1 hx
      have h1 := codeB_size (P.take (i + 1))
      have h2 := (parseO_some hp).1.2.1
      rw [List.length_take] at h1
      rw [e]; omega
end Go.Proofs.YtnmcmnllmnpjkaaGreatDoor.Cal
