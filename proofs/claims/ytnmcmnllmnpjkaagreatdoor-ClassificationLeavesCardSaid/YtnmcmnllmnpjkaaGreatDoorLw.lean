/- Plain facts: a valid list of codes is a tree; children, leaves and covers of lists of strings. No program in sight. -/
import Derived.Test.YtnmcmnllmnpjkaaGreatDoorLv
namespace Go.Proofs.YtnmcmnllmnpjkaaGreatDoor
open Go.RowKit Go.Sort Cal Go.Maps
theorem errTo_zero (ss : List ByteArray) : ∀ n, errTo ss n = 0 → ∀ k, k < n → errAt ss k = 0
  | 0 => fun _ k hk => by omega
  | n + 1 => fun h k hk => by
    rw [errTo] at h
    by_cases e : errTo ss n = 0
    · rw [if_neg (by rw [e]; simp)] at h
      by_cases k2 : k = n
      · rw [k2]; exact h
      · exact errTo_zero ss n e k (by omega)
    · rw [if_pos e] at h
      exact absurd h e
theorem errAt_zero {ss : List ByteArray} {k : Nat} (h : errAt ss k = 0) : (∃ P, parseO (ss.getD k emptyB) = some P) ∧ (k = 0 ∨ cmpV (ss.getD (k - 1) emptyB) (ss.getD k emptyB) < 0) ∧
    ((parentV (ss.getD k emptyB)).1 = emptyB ∨ inB (ss.take k) (parentV (ss.getD k emptyB)).1 = true) := by
  unfold errAt at h
  split at h
  · cases h
  · rename_i h1
    split at h
    · cases h
    · rename_i h2
      split at h
      · cases h
      · rename_i h3
        refine ⟨?_, ?_, ?_⟩
        · cases hp : parseO (ss.getD k emptyB) with
          | none => exact absurd hp h1
          | some P => exact ⟨P, rfl⟩
        · by_cases e : k = 0
          · exact Or.inl e
          · right
            by_cases e2 : cmpV (ss.getD (k - 1) emptyB) (ss.getD k emptyB) < 0
            · exact e2
            · exact absurd ⟨by omega, by omega⟩ h2
        · by_cases e : (parentV (ss.getD k emptyB)).1 = emptyB
          · exact Or.inl e
          · right
            cases hb : inB (ss.take k) (parentV (ss.getD k emptyB)).1 with
            | true => rfl
            | false => exact absurd ⟨e, hb⟩ h3
/-- "" or a code. -/
def okQ (Q : List Int) : Prop := Q = [] ∨ okP Q
theorem partsO_Q {Q : List Int} (h : okQ Q) : partsO (codeB Q) = some Q := by
  rcases h with rfl | h
  · rfl
  · exact partsO_code h
theorem codeQ_inj {P Q : List Int} (hP : okQ P) (hQ : okQ Q) (h : codeB P = codeB Q) : P = Q := by
  have h1 := partsO_Q hP
  rw [h, partsO_Q hQ] at h1
  cases h1; rfl
theorem okQ_drop {P : List Int} (h : okP P) : okQ P.dropLast := by
  by_cases e : P.dropLast = []
  · exact Or.inl e
  · right
    rw [List.dropLast_eq_take] at e ⊢
    refine okP_take h _ ?_
    by_cases k : P.length - 1 = 0
    · rw [k] at e; exact absurd rfl e
    · omega
theorem parent_code {P : List Int} (h : okP P) : parentV (codeB P) = (codeB P.dropLast, true) := by unfold parentV; rw [parseO_code P h]
/-- A valid list of strings is the list of codes of a tree. -/
theorem tree_of_valid {ss : List ByteArray} (h : validV ss = 0) : ∃ PS, TreeOK PS ∧ ss = codesOf PS ∧ 1 ≤ PS.length ∧ PS.length ≤ 200 := by
  unfold validV at h
  split at h
  · cases h
  rename_i hl
  have hz := errTo_zero ss _ h
  obtain ⟨PS, hPS⟩ : ∃ PS, PS = ss.map fun s => (parseO s).getD [] := ⟨_, rfl⟩
  have hlen : PS.length = ss.length := by rw [hPS]; simp
  have at' : ∀ k, k < ss.length → ∃ P, parseO (ss.getD k emptyB) = some P ∧ PS.getD k [] = P ∧ okP P ∧ ss.getD k emptyB = codeB P := by
    intro k hk
    obtain ⟨⟨P, hP⟩, _⟩ := errAt_zero (hz k hk)
    refine ⟨P, hP, ?_, (parseO_some hP).1, (parseO_some hP).2⟩
    have e : ss.getD k emptyB = ss[k] := by simp [List.getD, hk]
    rw [e] at hP
    rw [hPS]
    simp [List.getD, hk, hP]
  have hss : ss = codesOf PS := by
    apply List.ext_getElem
    · rw [codesOf_len, hlen]
    · intro k h1 h2
      obtain ⟨P, _, e2, _, e4⟩ := at' k h1
      have e5 : (codesOf PS)[k] = codeB (PS.getD k []) := by
        rw [← codesOf_at PS k (by omega)]; simp [List.getD, h2]
      have e6 : ss.getD k emptyB = ss[k] := by simp [List.getD, h1]
      rw [e5, e2, ← e4, e6]
  refine ⟨PS, ⟨fun P hP => ?_, fun i hi => ?_, fun i hi => ?_⟩, hss, by omega, by omega⟩
  · obtain ⟨k, hk, e⟩ := List.getElem_of_mem hP
    obtain ⟨P', _, e2, e3, _⟩ := at' k (by omega)
    have : PS.getD k [] = P := by simp [List.getD, hk, e]
    rw [← this, e2]; exact e3
  · obtain ⟨P, _, e2, e3, e4⟩ := at' i (by omega)
    obtain ⟨Q, _, f2, f3, f4⟩ := at' (i + 1) (by omega)
    obtain ⟨_, g, _⟩ := errAt_zero (hz (i + 1) (by omega))
    rcases g with g | g
    · omega
    · rw [Nat.add_sub_cancel, e4, f4, cmp_codes e3 f3] at g
      rw [e2, f2]; exact g
  · obtain ⟨P, _, e2, e3, e4⟩ := at' i (by omega)
    obtain ⟨_, _, g⟩ := errAt_zero (hz i (by omega))
    rw [e4, parent_code e3] at g
    rw [e2]
    rcases g with g | g
    · exact Or.inl (codeQ_inj (okQ_drop e3) (Or.inl rfl) g)
    · right
      have g2 := any_mem.1 g
      obtain ⟨j, hj, e⟩ := List.getElem_of_mem g2
      rw [List.length_take] at hj
      rw [List.getElem_take] at e
      obtain ⟨R, _, r2, r3, r4⟩ := at' j (by omega)
      have e6 : ss.getD j emptyB = ss[j]'(by omega) := by simp [List.getD, show j < ss.length by omega]
      rw [← e6, r4] at e
      have := codeQ_inj (Or.inr r3) (okQ_drop e3) e
      rw [← this, ← r2]
      rw [List.mem_take_iff_getElem]
      exact ⟨j, by omega, by simp [List.getD, show j < PS.length by omega]⟩
def knownB (ss : List ByteArray) (u : ByteArray) : Bool := decide (validV ss = 0) && (decide (u = emptyB) || inB ss u)
theorem known_tree {ss : List ByteArray} {u : ByteArray} (h : knownB ss u = true) : ∃ PS Q, TreeOK PS ∧ ss = codesOf PS ∧ 1 ≤ PS.length ∧ PS.length ≤ 200 ∧ u = codeB Q ∧ okQ Q ∧ (Q = [] ∨ Q ∈ PS) := by
  unfold knownB at h
  rw [Bool.and_eq_true, decide_eq_true_eq, Bool.or_eq_true, decide_eq_true_eq] at h
  obtain ⟨PS, hT, rfl, h1, h2⟩ := tree_of_valid h.1
  rcases h.2 with rfl | k
  · exact ⟨PS, [], hT, rfl, h1, h2, rfl, Or.inl rfl, Or.inl rfl⟩
  · have := any_mem.1 k
    unfold codesOf at this
    obtain ⟨Q, hQ, e⟩ := List.mem_map.1 this
    exact ⟨PS, Q, hT, rfl, h1, h2, e.symm, Or.inr (hT.ok Q hQ), Or.inr hQ⟩
theorem mem_codes {PS : List (List Int)} (hT : TreeOK PS) {Q : List Int} (hQ : okP Q) : codeB Q ∈ codesOf PS ↔ Q ∈ PS := by
  unfold codesOf
  rw [List.mem_map]
  constructor
  · rintro ⟨P, hP, e⟩
    rw [← codeB_inj (hT.ok P hP) hQ e]; exact hP
  · intro h; exact ⟨Q, h, rfl⟩
theorem filter_codes {PS : List (List Int)} (f : ByteArray → Bool) (g : List Int → Bool) (h : ∀ P ∈ PS, f (codeB P) = g P) : (codesOf PS).filter f = codesOf (PS.filter g) := by
  unfold codesOf
  rw [List.filter_map]
  congr 1
  exact List.filter_congr (fun P hP => h P hP)
/-! ### Children -/
def kidB (u x : ByteArray) : Bool := decide (parentV x = (u, true))
def childrenV (ss : List ByteArray) (u : ByteArray) : List ByteArray := if knownB ss u then ss.filter (kidB u) else []
theorem kid_code {P Q : List Int} (hP : okP P) (hQ : okQ Q) : kidB (codeB Q) (codeB P) = decide (P.dropLast = Q) := by
  unfold kidB
  rw [parent_code hP]
  by_cases e : P.dropLast = Q
  · simp [e]
  · have : ¬ codeB P.dropLast = codeB Q := fun k => e (codeQ_inj (okQ_drop hP) hQ k)
    simp [e, this]
theorem children_codes {PS : List (List Int)} {Q : List Int} (hT : TreeOK PS) (hQ : okQ Q) (hk : knownB (codesOf PS) (codeB Q) = true) : childrenV (codesOf PS) (codeB Q) = codesOf (kidsP PS Q) := by
  unfold childrenV kidsP
  rw [if_pos hk]
  exact filter_codes _ _ (fun P hP => kid_code (hT.ok P hP) hQ)
/-- What the program asks of a child. -/
def kidE (u x : ByteArray) : Bool := withinB x u && decide (levelV x = levelV u + 1)
theorem level_code {Q : List Int} (h : okQ Q) : levelV (codeB Q) = Q.length := by unfold levelV; rw [partsO_Q h]
theorem kid_prog {ss : List ByteArray} {u : ByteArray} (hk : knownB ss u = true) : ∀ x ∈ ss, kidE u x = kidB u x := by
  obtain ⟨PS, Q, hT, rfl, _, _, rfl, hQ, _⟩ := known_tree hk
  intro x hx
  obtain ⟨P, hP, rfl⟩ := List.mem_map.1 hx
  have oP := hT.ok P hP
  rw [kid_code oP hQ]
  unfold kidE
  rw [within_of (partsO_code oP) (partsO_Q hQ), level_code hQ, level_code (Or.inr oP)]
  rw [Bool.eq_iff_iff, Bool.and_eq_true, decide_eq_true_eq, decide_eq_true_eq, List.isPrefixOf_iff_prefix]
  constructor
  · rintro ⟨h1, h2⟩
    rw [List.dropLast_eq_take, show P.length - 1 = Q.length by omega]
    exact (List.prefix_iff_eq_take.1 h1).symm
  · intro h
    refine ⟨h ▸ List.dropLast_prefix P, ?_⟩
    have := oP.1
    rw [← h, List.length_dropLast]; omega
/-! ### Leaves -/
def innerB (ss : List ByteArray) (x : ByteArray) : Bool := ss.any fun y => decide ((parentV y).1 = x)
def leafB (ss : List ByteArray) (u x : ByteArray) : Bool := withinB x u && !innerB ss x
def leavesV (ss : List ByteArray) (u : ByteArray) : List ByteArray := if knownB ss u then ss.filter (leafB ss u) else []
theorem inner_code {PS : List (List Int)} {P : List Int} (hT : TreeOK PS) (hP : okQ P) : (!innerB (codesOf PS) (codeB P)) = leafP PS P := by
  unfold innerB leafP codesOf
  rw [List.any_map]
  congr 1
  rw [Bool.eq_iff_iff, List.any_eq_true, List.any_eq_true]
  constructor
  · rintro ⟨y, hy, e⟩
    have e2 := of_decide_eq_true e
    rw [parent_code (hT.ok y hy)] at e2
    exact ⟨y, hy, decide_eq_true (codeQ_inj (okQ_drop (hT.ok y hy)) hP e2)⟩
  · rintro ⟨y, hy, e⟩
    refine ⟨y, hy, decide_eq_true ?_⟩
    rw [parent_code (hT.ok y hy), of_decide_eq_true e]
theorem leaf_code {PS : List (List Int)} {P Q : List Int} (hT : TreeOK PS) (hP : okP P) (hQ : okQ Q) : leafB (codesOf PS) (codeB Q) (codeB P) = (Q.isPrefixOf P && leafP PS P) := by
  unfold leafB
  rw [inner_code hT (Or.inr hP), within_of (partsO_code hP) (partsO_Q hQ)]
theorem leaves_codes {PS : List (List Int)} {Q : List Int} (hT : TreeOK PS) (hQ : okQ Q) (hk : knownB (codesOf PS) (codeB Q) = true) : leavesV (codesOf PS) (codeB Q) = codesOf (leavesP PS Q) := by
  unfold leavesV leavesP
  rw [if_pos hk]
  exact filter_codes _ _ (fun P hP => leaf_code hT (hT.ok P hP) hQ)
/-- What the reference asks of the k-th code. -/
def lastOne (ss : List ByteArray) (k : Nat) : Bool := decide (k + 1 = ss.length) || !withinB (ss.getD (k + 1) emptyB) (ss.getD k emptyB)
theorem leaf_ref {ss : List ByteArray} {u : ByteArray} (hk : knownB ss u = true) (k : Nat) (h : k < ss.length) : leafB ss u (ss.getD k emptyB) = (lastOne ss k && withinB (ss.getD k emptyB) u) := by
  obtain ⟨PS, Q, hT, rfl, _, _, rfl, hQ, _⟩ := known_tree hk
  rw [codesOf_len] at h
  have oP := hT.ok _ (getD_mem h)
  unfold lastOne
  rw [codesOf_len, codesOf_at PS k h, leaf_code hT oP hQ, hT.leaf_next k h, within_of (partsO_code oP) (partsO_Q hQ), Bool.and_comm]
  congr 1
  by_cases e : k + 1 = PS.length
  · simp [e]
  · have oN := hT.ok _ (getD_mem (show k + 1 < PS.length by omega))
    rw [codesOf_at PS (k + 1) (by omega), within_of (partsO_code oN) (partsO_code oP)]
/-- A part of a list so far. -/
theorem filter_take (f : ByteArray → Bool) (ss : List ByteArray) (k : Nat) (h : k < ss.length) : (ss.take (k + 1)).filter f = (ss.take k).filter f ++ if f (ss.getD k emptyB) then [ss.getD k emptyB] else [] := by
  have e : ss.getD k emptyB = ss[k] := by simp [List.getD, h]
  rw [List.take_succ_eq_append_getElem h, List.filter_append, e]
  congr 1
  by_cases hf : f ss[k] = true
  · rw [if_pos hf, List.filter_cons_of_pos hf, List.filter_nil]
  · rw [if_neg hf, List.filter_cons_of_neg hf, List.filter_nil]
/-! ### Divides -/
theorem known_code {PS : List (List Int)} (hT : TreeOK PS) (h1 : 1 ≤ PS.length) (h2 : PS.length ≤ 200) {Q : List Int} (hQ : Q = [] ∨ Q ∈ PS) : knownB (codesOf PS) (codeB Q) = true := by
  unfold knownB
  rw [Bool.and_eq_true, decide_eq_true_eq, Bool.or_eq_true, decide_eq_true_eq]
  refine ⟨tree_valid hT h1 h2, ?_⟩
  rcases hQ with rfl | h
  · exact Or.inl rfl
  · right
    exact any_mem.2 (List.mem_map_of_mem h)
theorem codes_nil {PS : List (List Int)} : codesOf PS = [] ↔ PS = [] := by unfold codesOf; simp
theorem divides_codes {ss : List ByteArray} {u : ByteArray} (hk : knownB ss u = true) :
    leavesV ss u = if childrenV ss u = [] then [u] else (childrenV ss u).flatMap (leavesV ss) := by
  obtain ⟨PS, Q, hT, rfl, h1, h2, rfl, hQ, hQm⟩ := known_tree hk
  rw [children_codes hT hQ hk, leaves_codes hT hQ hk]
  by_cases e : kidsP PS Q = []
  · rw [if_pos (codes_nil.2 e)]
    rcases hQm with rfl | hm
    · exact absurd e (hT.top h1)
    · rw [hT.alone hm e]; rfl
  · rw [if_neg (fun k => e (codes_nil.1 k)), hT.divides e]
    unfold codesOf
    rw [List.map_flatMap, List.flatMap_map, List.flatMap_def, List.flatMap_def]
    congr 1
    refine List.map_congr_left (fun P hP => ?_)
    have hPm := (List.mem_filter.1 hP).1
    exact (leaves_codes hT (Or.inr (hT.ok P hPm)) (known_code hT h1 h2 (Or.inr hPm))).symm
/-! ### Covers -/
def onceB (list : List ByteArray) (l : ByteArray) : Bool := decide ((list.filter fun s => withinB l s).length = 1)
def coverV (ss : List ByteArray) (u : ByteArray) (list : List ByteArray) : Bool :=
  knownB ss u && (list.all fun s => inB ss s && withinB s u) && (leavesV ss u).all (onceB list)
theorem cover_of {PS A : List (List Int)} {Q : List Int} (hT : TreeOK PS) (hQ : okQ Q) (hk : knownB (codesOf PS) (codeB Q) = true) (hA : ∀ P ∈ A, P ∈ PS ∧ Q.isPrefixOf P = true) (hB : ∀ L ∈ leavesP PS Q, (A.filter fun x => x.isPrefixOf L).length = 1) :
    coverV (codesOf PS) (codeB Q) (codesOf A) = true := by
  unfold coverV
  rw [hk, leaves_codes hT hQ hk, Bool.true_and, Bool.and_eq_true, List.all_eq_true, List.all_eq_true]
  constructor
  · intro x hx
    obtain ⟨P, hP, rfl⟩ := List.mem_map.1 hx
    obtain ⟨p1, p2⟩ := hA P hP
    rw [Bool.and_eq_true, within_of (partsO_code (hT.ok P p1)) (partsO_Q hQ)]
    exact ⟨any_mem.2 (List.mem_map_of_mem p1), p2⟩
  · intro x hx
    obtain ⟨L, hL, rfl⟩ := List.mem_map.1 hx
    have oL := hT.ok L (List.mem_filter.1 hL).1
    unfold onceB
    rw [filter_codes (fun s => withinB (codeB L) s) (fun P => P.isPrefixOf L) (fun P hP => within_of (partsO_code oL) (partsO_code (hT.ok P (hA P hP).1))), codesOf_len]
    exact decide_eq_true (hB L hL)
theorem cover_leaves {ss : List ByteArray} {u : ByteArray} (hk : knownB ss u = true) : coverV ss u (leavesV ss u) = true := by
  obtain ⟨PS, Q, hT, rfl, h1, h2, rfl, hQ, hQm⟩ := known_tree hk
  rw [leaves_codes hT hQ hk]
  refine cover_of hT hQ hk (fun P hP => ?_) (fun L hL => hT.leaf_once hL)
  obtain ⟨p1, p2⟩ := List.mem_filter.1 hP
  rw [Bool.and_eq_true] at p2
  exact ⟨p1, p2.1⟩
theorem cover_children {ss : List ByteArray} (hk : knownB ss emptyB = true) : coverV ss emptyB (childrenV ss emptyB) = true := by
  obtain ⟨PS, Q, hT, rfl, h1, h2, hq, hQ, hQm⟩ := known_tree hk
  have hk' : knownB (codesOf PS) (codeB []) = true := hk
  have e := children_codes (Q := []) hT (Or.inl rfl) hk'
  rw [codeB_nil] at e
  rw [e]
  exact cover_of (Q := []) hT (Or.inl rfl) hk' (fun P hP => ⟨(List.mem_filter.1 hP).1, rfl⟩) (fun L hL => hT.top_once hL)
end Go.Proofs.YtnmcmnllmnpjkaaGreatDoor
