/- Plain facts on codes: levels, parents, paths, what lies within what, what two codes have in common, their order. No program in sight. -/
import Derived.Test.YtenjefbplpbjaaaGreatDoorCl
import Derived.Lib.LastIndexLaws
import Derived.Lib.Bytealg
import Derived.Lib.Small
import Derived.Lib.Strings
namespace Go.Proofs.YtenjefbplpbjaaaGreatDoor.Cal
def emptyB : ByteArray := ⟨#[]⟩
theorem size_zero {s : ByteArray} (h : s.size = 0) : s = emptyB := by
  apply bs_ext
  have : s.data.toList.length = 0 := by rw [← Lib.size_eq]; exact h
  rw [List.eq_nil_of_length_eq_zero this]
  rfl
theorem codeB_nil : codeB [] = emptyB := rfl
/-- The parts of a code; "" has none. -/
def partsO (s : ByteArray) : Option (List Int) := if s.size = 0 then some [] else parseO s
def levelV (s : ByteArray) : Int := match partsO s with
  | some P => P.length
  | none => -1
def parentV (s : ByteArray) : ByteArray × Bool := match parseO s with
  | some P => (codeB P.dropLast, true)
  | none => (emptyB, false)
/-- A code's ancestors and the code. -/
def upsL (P : List Int) : List ByteArray := (List.range P.length).map fun i => codeB (P.take (i + 1))
def pathV (s : ByteArray) : List ByteArray := match parseO s with
  | some P => upsL P
  | none => []
def withinB (c a : ByteArray) : Bool := match partsO c, partsO a with
  | some P, some Q => Q.isPrefixOf P
  | _, _ => false
theorem okP_take {P : List Int} (h : okP P) (i : Nat) (hi : 1 ≤ i) : okP (P.take i) := by
  obtain ⟨a, b, c⟩ := h
  refine ⟨?_, ?_, fun n hn => c n (List.mem_of_mem_take hn)⟩
  · rw [List.length_take]; omega
  · rw [List.length_take]; omega
theorem okP_ne {P : List Int} (h : okP P) : P ≠ [] := by
  intro e
  rw [e] at h
  exact absurd h.1 (by simp)
theorem codeB_pos {P : List Int} (h : okP P) : (codeB P).size ≠ 0 := codeB_ne P (okP_ne h)
theorem parseO_empty : parseO emptyB = none := by
  cases h : parseO emptyB with
  | none => rfl
  | some P =>
    obtain ⟨a, e⟩ := parseO_some h
    have := codeB_pos a
    rw [← e] at this
    exact absurd rfl this
theorem partsO_code {P : List Int} (h : okP P) : partsO (codeB P) = some P := by
  unfold partsO
  rw [if_neg (codeB_pos h), parseO_code P h]
theorem partsO_empty : partsO emptyB = some [] := rfl
theorem partsO_some {s : ByteArray} {P : List Int} (h : partsO s = some P) : (P = [] ∧ s = emptyB) ∨ (okP P ∧ s = codeB P) := by
  unfold partsO at h
  split at h
  · rename_i h0
    cases h
    exact Or.inl ⟨rfl, size_zero h0⟩
  · exact Or.inr (parseO_some h)
theorem partsO_inj {s t : ByteArray} {P : List Int} (hs : partsO s = some P) (ht : partsO t = some P) : s = t := by
  rcases partsO_some hs with ⟨e, e1⟩ | ⟨o, e1⟩ <;> rcases partsO_some ht with ⟨e', e2⟩ | ⟨o', e2⟩
  · rw [e1, e2]
  · exact absurd e (okP_ne o')
  · exact absurd e' (okP_ne o)
  · rw [e1, e2]
/-! ### The last dot -/
theorem occ_dot (l : List UInt8) (i : Nat) : Lib.occAt l [46] i = true ↔ l[i]? = some 46 := by
  unfold Lib.occAt
  rw [← List.head?_drop]
  cases l.drop i with
  | nil => simp [List.isPrefixOf]
  | cons c r => simp [List.isPrefixOf]; exact eq_comm
theorem last_hit (x y : List UInt8) (h : ∀ c ∈ y, c ≠ 46) : Lib.lastIndex (x ++ 46 :: y) [46] = x.length := by
  unfold Lib.lastIndex
  rw [if_pos (by simp; omega)]
  have hx : Lib.occAt (x ++ 46 :: y) [46] x.length = true := by rw [occ_dot]; simp
  rcases Lib.lastOcc_spec (x ++ 46 :: y) [46] ((x ++ 46 :: y).length - [(46 : UInt8)].length + 1) with ⟨_, hn⟩ | ⟨i, hi, e, hc, hn⟩
  · have := hn x.length (by simp; omega)
    rw [hx] at this; cases this
  · rw [e]
    have hge : ¬ i < x.length := fun k => by
      have := hn x.length k (by simp; omega)
      rw [hx] at this; cases this
    have hle : ¬ x.length < i := fun k => by
      rw [occ_dot, List.getElem?_append_right (by omega)] at hc
      obtain ⟨j, hj⟩ : ∃ j, i - x.length = j + 1 := ⟨i - x.length - 1, by omega⟩
      rw [hj, List.getElem?_cons_succ] at hc
      exact h 46 (List.mem_of_getElem? hc) rfl
    omega
theorem last_miss (y : List UInt8) (h : ∀ c ∈ y, c ≠ 46) : Lib.lastIndex y [46] = -1 := by
  unfold Lib.lastIndex
  split
  · rcases Lib.lastOcc_spec y [46] (y.length - [(46 : UInt8)].length + 1) with ⟨e, _⟩ | ⟨i, _, _, hc, _⟩
    · exact e
    · rw [occ_dot] at hc
      exact absurd rfl (h 46 (List.mem_of_getElem? hc))
  · rfl
/-- The program's parent. -/
def cutLast (s : ByteArray) : ByteArray := s.extract 0 (max (Lib.lastIndex s.data.toList [46]) 0).toNat
theorem cutLast_code (P : List Int) (h : okP P) : cutLast (codeB P) = codeB P.dropLast := by
  obtain ⟨h1, h5, hP⟩ := h
  unfold cutLast
  have hne : P ≠ [] := by intro e; rw [e] at h1; simp at h1
  obtain ⟨Q, n, rfl⟩ : ∃ Q n, P = Q ++ [n] := ⟨P.dropLast, P.getLast hne, (List.dropLast_concat_getLast hne).symm⟩
  have hn := hP n (by simp)
  rw [List.dropLast_concat]
  by_cases hQ : Q = []
  · subst hQ
    have e : (codeB ([] ++ [n])).data.toList = dig2 n.toNat := by unfold codeB; rw [bs_data]; simp [codeL, tailL]
    rw [e, last_miss _ (dig2_dot _ (by omega))]
    apply bs_ext
    rw [Lib.extract_data]
    show List.take (max (-1 : Int) 0).toNat _ = _
    rfl
  · have e : (codeB (Q ++ [n])).data.toList = codeL Q ++ 46 :: wd n.toNat := by unfold codeB; rw [bs_data, codeL_snoc Q n hQ]
    rw [e, last_hit _ _ (wd_dot _ (by omega))]
    apply bs_ext
    rw [Lib.extract_data, e]
    have e2 : (max (((codeL Q).length : Nat) : Int) 0).toNat = (codeL Q).length := by omega
    rw [e2]
    unfold codeB
    rw [bs_data]
    simp
/-! ### The dots of a text -/
def dotsR (pre : List UInt8) : List UInt8 → List (List UInt8)
  | [] => []
  | c :: r => if c = 46 then pre :: dotsR (pre ++ [c]) r else dotsR (pre ++ [c]) r
theorem dotsR_append (x y : List UInt8) : ∀ pre, dotsR pre (x ++ y) = dotsR pre x ++ dotsR (pre ++ x) y := by
  induction x with
  | nil => intro pre; simp [dotsR]
  | cons c x ih =>
    intro pre
    have e : pre ++ c :: x = (pre ++ [c]) ++ x := by simp
    rw [List.cons_append, dotsR, dotsR, e]
    split
    · rw [ih]; rfl
    · rw [ih]
theorem dotsR_none (y : List UInt8) (h : ∀ c ∈ y, c ≠ 46) : ∀ pre, dotsR pre y = [] := by
  induction y with
  | nil => intro _; rfl
  | cons c y ih =>
    intro pre
    rw [dotsR, if_neg (h c (by simp)), ih (fun x hx => h x (by simp [hx]))]
theorem dots_tail (r : List Int) : ∀ Q : List Int, Q ≠ [] → inP r → dotsR (codeL Q) (tailL r) = (List.range r.length).map fun i => codeL (Q ++ r.take i) := by
  induction r with
  | nil => intro Q _ _; rfl
  | cons n r ih =>
    intro Q hQ hr
    have hn := hr n (by simp)
    have e : tailL (n :: r) = 46 :: (wd n.toNat ++ tailL r) := by simp [tailL]
    have e2 : codeL Q ++ [46] ++ wd n.toNat = codeL (Q ++ [n]) := by rw [codeL_snoc Q n hQ]; simp
    rw [e, dotsR, if_pos rfl, dotsR_append, dotsR_none _ (wd_dot _ (by omega)), e2, ih (Q ++ [n]) (by simp) (fun x hx => hr x (by simp [hx]))]
    rw [List.length_cons, List.range_succ_eq_map, List.map_cons, List.map_map, List.nil_append]
    congr 1
    · simp
    · apply List.map_congr_left
      intro i _
      simp
theorem dots_code (P : List Int) (h : okP P) : (dotsR [] (codeL P)).map bs ++ [codeB P] = upsL P := by
  obtain ⟨h1, h5, hP⟩ := h
  match P, h1, hP with
  | a :: r, _, hP =>
    have ha := hP a (by simp)
    have hr : inP r := fun x hx => hP x (by simp [hx])
    have e : codeL [a] = dig2 a.toNat := by simp [codeL, tailL]
    have e1 : codeL (a :: r) = codeL [a] ++ tailL r := by rw [e]; rfl
    have e2 : dotsR [] (codeL [a]) = [] := by rw [e]; exact dotsR_none _ (dig2_dot _ (by omega)) _
    rw [e1, dotsR_append, e2, List.nil_append, List.nil_append, dots_tail r [a] (by simp) hr]
    unfold upsL
    rw [List.length_cons, List.range_succ, List.map_append, List.map_map, List.map_cons, List.map_nil]
    congr 1
    · simp [codeB]
theorem dots_take (l : List UInt8) (k : Nat) (h : k < l.length) : dotsR [] (l.take (k + 1)) = dotsR [] (l.take k) ++ if l.getD k 0 = 46 then [l.take k] else [] := by
  rw [List.take_succ_eq_append_getElem h, dotsR_append]
  have e : l.getD k 0 = l[k] := by simp [List.getD, h]
  rw [e]
  congr 1
/-! ### Within -/
theorem cut_code_dot (Q : List Int) (y : List UInt8) (h : okP Q) : partsOf (bs (codeL Q ++ 46 :: y)) = Q ++ partsOf (bs y) := by
  have key : ∀ (r : List Int) (a : List UInt8), (∀ c ∈ a, c ≠ 46) → inP r → cutB (bs (a ++ tailL r ++ 46 :: y)) = (bs a :: r.map fun n => bs (wd n.toNat)) ++ cutB (bs y) := by
    intro r
    induction r with
    | nil => intro a ha _; simp only [tailL, List.flatMap_nil, List.append_nil, List.map_nil]; rw [cut_hit a _ ha]; rfl
    | cons n r ih =>
      intro a ha hr
      have hn := hr n (by simp)
      have e : a ++ tailL (n :: r) ++ 46 :: y = a ++ 46 :: (wd n.toNat ++ tailL r ++ 46 :: y) := by simp [tailL]
      rw [e, cut_hit a _ ha, ih _ (wd_dot _ (by omega)) (fun x hx => hr x (by simp [hx]))]
      rfl
  obtain ⟨h1, h5, hP⟩ := h
  match Q, h1, hP with
  | a :: r, h1, hP =>
    have ha := hP a (by simp)
    have hr : inP r := fun x hx => hP x (by simp [hx])
    have hw : ((cutB (codeB (a :: r))).map fun p => atoiV p.data.toList) = a :: r := parts_code (a :: r) ⟨h1, h5, hP⟩
    unfold codeB codeL at hw
    rw [cut_words r _ (dig2_dot _ (by omega)) hr] at hw
    unfold partsOf codeL
    rw [key r _ (dig2_dot _ (by omega)) hr, List.map_append, hw]
theorem pre_dot {P Q : List Int} (hP : okP P) (hQ : okP Q) : (codeL Q ++ [46]).isPrefixOf (codeL P) = true ↔ Q.isPrefixOf P = true ∧ Q ≠ P := by
  rw [List.isPrefixOf_iff_prefix, List.isPrefixOf_iff_prefix]
  constructor
  · rintro ⟨y, e⟩
    have e2 : codeL P = codeL Q ++ 46 :: y := by rw [← e]; simp
    have e3 : P = Q ++ partsOf (bs y) := by
      rw [← cut_code_dot Q y hQ, ← e2]
      exact (parts_code P hP).symm
    refine ⟨⟨_, e3.symm⟩, fun k => ?_⟩
    rw [← k] at e2
    have := congrArg List.length e2
    simp at this
  · rintro ⟨⟨y, e⟩, hne⟩
    match y, e with
    | [], e => exact absurd (by simpa using e) hne
    | n :: r, e =>
      refine ⟨wd n.toNat ++ tailL r, ?_⟩
      rw [← e, codeL_append Q _ (okP_ne hQ)]
      simp [tailL]
/-- What the program asks. -/
theorem within_prog (c a : ByteArray) (P Q : List Int) (hc : partsO c = some P) (ha : partsO a = some Q) :
    withinB c a = (decide (a = emptyB) || (decide (c = a) || Lib.hasPrefix c.data.toList (a ++ dotB).data.toList)) := by
  unfold withinB
  rw [hc, ha]
  show Q.isPrefixOf P = _
  rcases partsO_some ha with ⟨rfl, rfl⟩ | ⟨oQ, rfl⟩
  · simp
  · have hne : ¬ codeB Q = emptyB := fun e => codeB_pos oQ (by rw [e]; rfl)
    have ed : (codeB Q ++ dotB).data.toList = codeL Q ++ [46] := by
      have : codeB Q ++ dotB = bs (codeL Q ++ [46]) := bs_append _ _
      rw [this, bs_data]
    rw [ed]
    unfold Lib.hasPrefix
    rcases partsO_some hc with ⟨rfl, rfl⟩ | ⟨oP, rfl⟩
    · have h1 : ¬ emptyB = codeB Q := fun e => hne e.symm
      have hq : Q.isPrefixOf [] = false := by
        match Q, okP_ne oQ with
        | _ :: _, _ => rfl
      have hk : (codeL Q ++ [46]).isPrefixOf emptyB.data.toList = false := by
        show (codeL Q ++ [46]).isPrefixOf [] = false
        cases codeL Q <;> rfl
      simp [hne, h1, hq, hk]
    · have e1 : (codeB P).data.toList = codeL P := by unfold codeB; rw [bs_data]
      have e2 : decide (codeB P = codeB Q) = decide (P = Q) := by
        by_cases e : P = Q
        · simp [e]
        · have : ¬ codeB P = codeB Q := fun k => e (codeB_inj oP oQ k)
          simp [e, this]
      rw [e1, e2, Bool.eq_iff_iff]
      simp only [Bool.or_eq_true, decide_eq_true_eq]
      rw [pre_dot oP oQ]
      constructor
      · intro k
        by_cases e : P = Q
        · exact Or.inr (Or.inl e)
        · exact Or.inr (Or.inr ⟨k, fun x => e x.symm⟩)
      · rintro (k | k | k)
        · exact absurd k hne
        · rw [k]; simp
        · exact k.1
theorem mem_ups {P : List Int} {s : ByteArray} : s ∈ upsL P ↔ ∃ i, i < P.length ∧ s = codeB (P.take (i + 1)) := by
  unfold upsL
  rw [List.mem_map]
  constructor
  · rintro ⟨i, hi, e⟩; exact ⟨i, List.mem_range.1 hi, e.symm⟩
  · rintro ⟨i, hi, e⟩; exact ⟨i, List.mem_range.2 hi, e.symm⟩
theorem any_mem {l : List ByteArray} {a : ByteArray} : (l.any fun x => decide (x = a)) = true ↔ a ∈ l := by
  rw [List.any_eq_true]
  constructor
  · rintro ⟨x, hx, e⟩; rw [← of_decide_eq_true e]; exact hx
  · intro h; exact ⟨a, h, decide_eq_true rfl⟩
/-- What the reference asks. -/
theorem within_ref (c a : ByteArray) : withinB c a = if partsO c = none then false else if a = emptyB ∨ a = c then true else (pathV c).any fun x => decide (x = a) := by
  cases hc : partsO c with
  | none => simp [withinB, hc]
  | some P =>
    rw [if_neg (by simp)]
    rcases partsO_some hc with ⟨rfl, rfl⟩ | ⟨oP, rfl⟩
    · have hp : pathV emptyB = [] := by unfold pathV; rw [parseO_empty]
      rw [hp]
      by_cases h : a = emptyB
      · subst h; rfl
      · rw [if_neg (by simpa using h)]
        unfold withinB
        rw [hc]
        cases ha : partsO a with
        | none => rfl
        | some Q =>
          rcases partsO_some ha with ⟨_, e⟩ | ⟨oQ, _⟩
          · exact absurd e h
          · show Q.isPrefixOf [] = _
            match Q, okP_ne oQ with
            | _ :: _, _ => rfl
    · have hp : pathV (codeB P) = upsL P := by unfold pathV; rw [parseO_code P oP]
      rw [hp]
      by_cases h : a = emptyB
      · subst h
        rw [if_pos (Or.inl rfl)]
        simp [withinB, hc, partsO_empty]
      by_cases h2 : a = codeB P
      · subst h2
        rw [if_pos (Or.inr rfl)]
        simp [withinB, hc]
      rw [if_neg (by simp [h, h2]), Bool.eq_iff_iff, any_mem, mem_ups]
      unfold withinB
      rw [hc]
      cases ha : partsO a with
      | none =>
        constructor
        · intro k; cases k
        · rintro ⟨i, hi, e⟩
          rw [e, partsO_code (okP_take oP _ (by omega))] at ha
          cases ha
      | some Q =>
        show Q.isPrefixOf P = true ↔ _
        rw [List.isPrefixOf_iff_prefix]
        rcases partsO_some ha with ⟨_, e⟩ | ⟨oQ, e⟩
        · exact absurd e h
        · constructor
          · rintro ⟨y, k⟩
            have h1 := oQ.1
            refine ⟨Q.length - 1, ?_, ?_⟩
            · rw [← k, List.length_append]; omega
            · rw [e, ← k, show Q.length - 1 + 1 = Q.length by omega]; simp
          · rintro ⟨i, hi, k⟩
            have : Q = P.take (i + 1) := codeB_inj oQ (okP_take oP _ (by omega)) (e.symm.trans k)
            rw [this]; exact List.take_prefix _ _
/-- The longest of a's path that b is within. -/
def commonV (a b : ByteArray) : ByteArray := (((pathV a).filter (withinB b)).getLast?).getD emptyB
/-! ### The order -/
def rankV (s : ByteArray) : Int := if s.size = 0 then 0 else if (parseO s).isSome then 1 else 2
def cmpI : List Int → List Int → Int
  | [], [] => 0
  | [], _ :: _ => -1
  | _ :: _, [] => 1
  | a :: x, b :: y => if a < b then -1 else if b < a then 1 else cmpI x y
def cmpV (a b : ByteArray) : Int :=
  if rankV a ≠ rankV b then Lib.compareInt (rankV a) (rankV b) else if rankV a = 1 then cmpI ((parseO a).getD []) ((parseO b).getD []) else Lib.compareBytes a.data.toList b.data.toList
theorem rank_bd (s : ByteArray) : rankV s = 0 ∨ rankV s = 1 ∨ rankV s = 2 := by
  unfold rankV; split
  · exact Or.inl rfl
  · split
    · exact Or.inr (Or.inl rfl)
    · exact Or.inr (Or.inr rfl)
theorem last_bd (l : List UInt8) : -1 ≤ Lib.lastIndex l [46] ∧ Lib.lastIndex l [46] ≤ l.length := by
  unfold Lib.lastIndex
  split
  · rcases Lib.lastOcc_spec l [46] (l.length - [(46 : UInt8)].length + 1) with ⟨e, _⟩ | ⟨i, hi, e, hc, _⟩
    · rw [e]; omega
    · rw [occ_dot] at hc
      have := (List.getElem?_eq_some_iff.1 hc).1
      rw [e]; omega
  · omega
theorem dots_len (l : List UInt8) : ∀ pre, (dotsR pre l).length ≤ l.length := by
  induction l with
  | nil => intro _; simp [dotsR]
  | cons c r ih =>
    intro pre
    rw [dotsR]
    split
    · have := ih (pre ++ [c]); simp only [List.length_cons]; omega
    · have := ih (pre ++ [c]); simp only [List.length_cons]; omega
end Go.Proofs.YtenjefbplpbjaaaGreatDoor.Cal
