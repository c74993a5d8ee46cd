/- Plain facts on valid classifications: children, leaves and covers, as the program and as the reference find them. No program in sight. -/
import Derived.Test.YtnmcmnllmnpjkaaGreatDoorTr
import Derived.Test.YtnmcmnllmnpjkaaGreatDoorCp
namespace Go.Proofs.YtnmcmnllmnpjkaaGreatDoor
open Go.RowKit Go.Sort Cal Go.Maps
/-! ### Lists of parts -/
theorem cmpI_between : ∀ Q R S : List Int, cmpI Q R ≤ 0 → cmpI R (Q ++ S) ≤ 0 → Q.isPrefixOf R = true
  | [], _, _ => fun _ _ => rfl
  | _ :: _, [], _ => fun h _ => by rw [cmpI_cn] at h; omega
  | a :: Q, b :: R, S => fun h1 h2 => by
    rw [cmpI_cc] at h1
    rw [List.cons_append, cmpI_cc] at h2
    have hab : a = b := by
      rcases Int.lt_trichotomy a b with k | k | k
      · rw [if_neg (by omega), if_pos k] at h2; omega
      · exact k
      · rw [if_neg (by omega), if_pos k] at h1; omega
    subst hab
    rw [if_neg (by omega), if_neg (by omega)] at h1 h2
    have := cmpI_between Q R S h1 h2
    simp [List.isPrefixOf, this]
theorem cmpI_ext (Q : List Int) : ∀ S, S ≠ [] → cmpI Q (Q ++ S) < 0 := by
  induction Q with
  | nil => intro S hS; match S, hS with
    | _ :: _, _ => rw [List.nil_append, cmpI_nc]; decide
  | cons a Q ih => intro S hS; rw [List.cons_append, cmpI_cc, if_neg (by omega), if_neg (by omega)]; exact ih S hS
theorem cmpI_fork (Q : List Int) : ∀ (a b : Int) (s t : List Int), a < b → cmpI (Q ++ a :: s) (Q ++ b :: t) < 0 := by
  induction Q with
  | nil => intro a b s t h; rw [List.nil_append, List.nil_append, cmpI_cc, if_pos h]; decide
  | cons x Q ih => intro a b s t h; rw [List.cons_append, List.cons_append, cmpI_cc, if_neg (by omega), if_neg (by omega)]; exact ih a b s t h
theorem cmpI_lt_trans {x y z : List Int} (h1 : cmpI x y < 0) (h2 : cmpI y z < 0) : cmpI x z < 0 := by
  have := cmpI_trans x y z (by omega) (by omega)
  by_cases e : cmpI x z = 0
  · have e2 := cmpI_zero x z e
    subst e2
    rw [cmpI_neg] at h2
    omega
  · omega
/-- In order, each before the next. -/
def UpL (l : List (List Int)) : Prop := l.Pairwise fun x y => cmpI x y < 0
theorem up_of : ∀ PS : List (List Int), (∀ i, i + 1 < PS.length → cmpI (PS.getD i []) (PS.getD (i + 1) []) < 0) → UpL PS
  | [] => fun _ => List.Pairwise.nil
  | [x] => fun _ => by simp [UpL]
  | x :: y :: r => fun h => by
    have ih := up_of (y :: r) (fun i hi => h (i + 1) (by simp at hi ⊢; omega))
    have hxy : cmpI x y < 0 := h 0 (by simp)
    refine List.pairwise_cons.2 ⟨fun z hz => ?_, ih⟩
    rcases List.mem_cons.1 hz with e | e
    · rw [e]; exact hxy
    · exact cmpI_lt_trans hxy ((List.pairwise_cons.1 ih).1 z e)
theorem up_nodup {l : List (List Int)} (h : UpL l) : l.Nodup := h.imp fun {x y} k e => by subst e; rw [cmpI_self] at k; omega
theorem up_eq : ∀ l m : List (List Int), UpL l → UpL m → (∀ x, x ∈ l ↔ x ∈ m) → l = m
  | [], [] => fun _ _ _ => rfl
  | [], y :: m => fun _ _ h => absurd ((h y).2 (by simp)) (by simp)
  | x :: l, [] => fun _ _ h => absurd ((h x).1 (by simp)) (by simp)
  | x :: l, y :: m => fun h1 h2 h => by
    obtain ⟨a1, a2⟩ := List.pairwise_cons.1 h1
    obtain ⟨b1, b2⟩ := List.pairwise_cons.1 h2
    have hxy : x = y := by
      rcases List.mem_cons.1 ((h x).1 (by simp)) with e | e
      · exact e
      · rcases List.mem_cons.1 ((h y).2 (by simp)) with f | f
        · exact f.symm
        · have k1 := b1 x e
          have k2 := a1 y f
          rw [cmpI_neg] at k1
          omega
    subst hxy
    have := up_eq l m a2 b2 (fun z => by
      have hz := h z
      constructor
      · intro k
        rcases List.mem_cons.1 (hz.1 (List.mem_cons_of_mem _ k)) with e | e
        · have := a1 z k; rw [e, cmpI_self] at this; omega
        · exact e
      · intro k
        rcases List.mem_cons.1 (hz.2 (List.mem_cons_of_mem _ k)) with e | e
        · have := b1 z k; rw [e, cmpI_self] at this; omega
        · exact e)
    rw [this]
theorem TreeOK.sorted {PS : List (List Int)} (h : TreeOK PS) : UpL PS := up_of PS h.up
theorem TreeOK.parent {PS : List (List Int)} (h : TreeOK PS) {P : List Int} (hP : P ∈ PS) : P.dropLast = [] ∨ P.dropLast ∈ PS := by
  obtain ⟨i, hi, e⟩ := List.getElem_of_mem hP
  have e2 : PS.getD i [] = P := by rw [List.getD, List.getElem?_eq_getElem hi]; exact e
  rcases h.par i hi with k | k
  · rw [e2] at k; exact Or.inl k
  · rw [e2] at k; exact Or.inr (List.mem_of_mem_take k)
/-- Every start of a code is a code of the classification. -/
theorem TreeOK.starts {PS : List (List Int)} (h : TreeOK PS) : ∀ (d : Nat) (P : List Int), P ∈ PS → ∀ m, 1 ≤ m → m + d = P.length → P.take m ∈ PS
  | 0, P, hP, m, _, e => by rw [List.take_of_length_le (by omega)]; exact hP
  | d + 1, P, hP, m, h1, e => by
    rcases h.parent hP with k | k
    · have : P.dropLast.length = 0 := by rw [k]; rfl
      rw [List.length_dropLast] at this; omega
    · have := h.starts d P.dropLast k m h1 (by rw [List.length_dropLast]; omega)
      rwa [List.dropLast_eq_take, List.take_take, Nat.min_eq_left (by omega)] at this
theorem TreeOK.start {PS : List (List Int)} (h : TreeOK PS) {P : List Int} (hP : P ∈ PS) (m : Nat) (h1 : 1 ≤ m) (h2 : m ≤ P.length) : P.take m ∈ PS := h.starts (P.length - m) P hP m h1 (by omega)
def kidsP (PS : List (List Int)) (Q : List Int) : List (List Int) := PS.filter fun P => decide (P.dropLast = Q)
def leafP (PS : List (List Int)) (P : List Int) : Bool := !(PS.any fun y => decide (y.dropLast = P))
def leavesP (PS : List (List Int)) (Q : List Int) : List (List Int) := PS.filter fun P => Q.isPrefixOf P && leafP PS P
theorem leafP_iff {PS : List (List Int)} {P : List Int} : leafP PS P = true ↔ ∀ y ∈ PS, y.dropLast ≠ P := by
  unfold leafP
  rw [Bool.not_eq_true', List.any_eq_false]
  constructor
  · intro h y hy e; exact h y hy (decide_eq_true e)
  · intro h y hy k; exact h y hy (of_decide_eq_true k)
/-- The child on the way to a code. -/
theorem TreeOK.way {PS : List (List Int)} (h : TreeOK PS) {P Q : List Int} (hP : P ∈ PS) (hQ : Q.isPrefixOf P = true) (hne : P ≠ Q) :
    P.take (Q.length + 1) ∈ PS ∧ (P.take (Q.length + 1)).dropLast = Q := by
  have hp := List.isPrefixOf_iff_prefix.1 hQ
  have hl := hp.length_le
  have hlt : Q.length < P.length := by
    by_cases e : Q.length = P.length
    · exact absurd (hp.eq_of_length e).symm hne
    · omega
  refine ⟨h.start hP _ (by omega) (by omega), ?_⟩
  rw [List.dropLast_eq_take, List.length_take, List.take_take, Nat.min_eq_left (by omega), show min (Q.length + 1) P.length - 1 = Q.length by omega]
  exact (List.prefix_iff_eq_take.1 hp).symm
theorem dropLast_snoc {y Q : List Int} (hy : okP y) (h : y.dropLast = Q) : ∃ n, y = Q ++ [n] := by
  have hne := okP_ne hy
  exact ⟨y.getLast hne, by rw [← h]; exact (List.dropLast_concat_getLast hne).symm⟩
/-- A code is a leaf exactly where the next one is not within it. -/
theorem TreeOK.leaf_next {PS : List (List Int)} (h : TreeOK PS) (i : Nat) (hi : i < PS.length) :
    leafP PS (PS.getD i []) = (decide (i + 1 = PS.length) || !(PS.getD i []).isPrefixOf (PS.getD (i + 1) [])) := by
  have hQ := getD_mem hi
  rw [Bool.eq_iff_iff, leafP_iff, Bool.or_eq_true, decide_eq_true_eq, Bool.not_eq_true']
  constructor
  · intro hl
    by_cases e : i + 1 = PS.length
    · exact Or.inl e
    · right
      cases hp : (PS.getD i []).isPrefixOf (PS.getD (i + 1) []) with
      | false => rfl
      | true =>
        have hlt := h.up i (by omega)
        have hne : PS.getD (i + 1) [] ≠ PS.getD i [] := fun k => by rw [k, cmpI_self] at hlt; omega
        obtain ⟨m1, m2⟩ := h.way (getD_mem (show i + 1 < PS.length by omega)) hp hne
        exact absurd m2 (hl _ m1)
  · intro hn y hy e
    obtain ⟨n, hyn⟩ := dropLast_snoc (h.ok y hy) e
    obtain ⟨j, hj, ej⟩ := List.getElem_of_mem hy
    have hup := h.sorted
    have hgi : PS.getD i [] = PS[i] := by simp [List.getD, hi]
    have hij : i < j := by
      rcases Nat.lt_trichotomy i j with k | k | k
      · exact k
      · subst k
        have : (PS[i]).length = (PS.getD i []).length + 1 := by rw [ej, hyn]; simp
        rw [hgi] at this; omega
      · have k2 := List.pairwise_iff_getElem.1 hup j i hj hi k
        have k3 := cmpI_ext (PS.getD i []) [n] (by simp)
        rw [← hyn, ← ej, hgi, cmpI_neg] at k3
        omega
    rcases hn with k | k
    · omega
    · have h1 := h.up i (by omega)
      have h2 : cmpI (PS.getD (i + 1) []) (PS.getD i [] ++ [n]) ≤ 0 := by
        rw [← hyn, ← ej]
        have e1 : PS.getD (i + 1) [] = PS[i + 1]'(by omega) := by simp [List.getD, show i + 1 < PS.length by omega]
        rw [e1]
        by_cases e2 : i + 1 = j
        · subst e2; rw [cmpI_self]; omega
        · have := List.pairwise_iff_getElem.1 hup (i + 1) j (by omega) hj (by omega)
          omega
      rw [cmpI_between _ _ _ (by omega) h2] at k
      cases k
/-- A code without children is its own leaf. -/
theorem TreeOK.alone {PS : List (List Int)} (h : TreeOK PS) {Q : List Int} (hQ : Q ∈ PS) (hk : kidsP PS Q = []) : leavesP PS Q = [Q] := by
  have hleaf : leafP PS Q = true := leafP_iff.2 (fun y hy e => by
    have : y ∈ kidsP PS Q := List.mem_filter.2 ⟨hy, decide_eq_true e⟩
    rw [hk] at this; cases this)
  apply up_eq _ _ (h.sorted.filter _) (by simp [UpL])
  intro x
  try unfold leavesP
  rw [List.mem_filter, List.mem_singleton, Bool.and_eq_true]
  constructor
  · rintro ⟨h1, h2, _⟩
    by_cases e : x = Q
    · exact e
    · obtain ⟨m1, m2⟩ := h.way h1 h2 e
      exact absurd m2 (leafP_iff.1 hleaf _ m1)
  · rintro rfl
    exact ⟨hQ, by simp, hleaf⟩
theorem pre_trans {P Q R : List Int} (h1 : P.isPrefixOf Q = true) (h2 : Q.isPrefixOf R = true) : P.isPrefixOf R = true :=
  List.isPrefixOf_iff_prefix.2 ((List.isPrefixOf_iff_prefix.1 h1).trans (List.isPrefixOf_iff_prefix.1 h2))
theorem pre_drop {P Q : List Int} (h : P.dropLast = Q) : Q.isPrefixOf P = true := List.isPrefixOf_iff_prefix.2 (h ▸ List.dropLast_prefix P)
/-- The leaves within a code with children are those within its children, one after the other. -/
theorem TreeOK.divides {PS : List (List Int)} (h : TreeOK PS) {Q : List Int} (hk : kidsP PS Q ≠ []) : leavesP PS Q = (kidsP PS Q).flatMap (leavesP PS) := by
  apply up_eq _ _ (h.sorted.filter _)
  · refine List.pairwise_flatMap.2 ⟨fun a _ => h.sorted.filter _, ?_⟩
    refine (h.sorted.filter _).imp_of_mem ?_
    intro a b ha hb hab x hx y hy
    obtain ⟨ha1, ha2⟩ := List.mem_filter.1 ha
    obtain ⟨hb1, hb2⟩ := List.mem_filter.1 hb
    obtain ⟨n, rfl⟩ := dropLast_snoc (h.ok a ha1) (of_decide_eq_true ha2)
    obtain ⟨m, rfl⟩ := dropLast_snoc (h.ok b hb1) (of_decide_eq_true hb2)
    obtain ⟨_, hx2⟩ := List.mem_filter.1 hx
    obtain ⟨_, hy2⟩ := List.mem_filter.1 hy
    obtain ⟨s, rfl⟩ := List.isPrefixOf_iff_prefix.1 (Bool.and_eq_true _ _ ▸ hx2).1
    obtain ⟨t, rfl⟩ := List.isPrefixOf_iff_prefix.1 (Bool.and_eq_true _ _ ▸ hy2).1
    have hnm : n < m := by
      rcases Int.lt_trichotomy n m with k | k | k
      · exact k
      · subst k; rw [cmpI_self] at hab; omega
      · have := cmpI_fork Q m n [] [] k
        rw [cmpI_neg] at this
        omega
    rw [List.append_assoc, List.append_assoc]
    exact cmpI_fork Q n m _ _ hnm
  · intro x
    rw [List.mem_flatMap]
    try unfold leavesP
    rw [List.mem_filter, Bool.and_eq_true]
    constructor
    · rintro ⟨h1, h2, h3⟩
      have hne : x ≠ Q := by
        rintro rfl
        apply hk
        apply List.filter_eq_nil_iff.2
        intro y hy k
        exact leafP_iff.1 h3 y hy (of_decide_eq_true k)
      obtain ⟨m1, m2⟩ := h.way h1 h2 hne
      exact ⟨_, List.mem_filter.2 ⟨m1, decide_eq_true m2⟩, List.mem_filter.2 ⟨h1, by rw [Bool.and_eq_true]; exact ⟨take_pre x _, h3⟩⟩⟩
    · rintro ⟨k, hk1, hk2⟩
      obtain ⟨_, k2⟩ := List.mem_filter.1 hk1
      obtain ⟨m1, m2⟩ := List.mem_filter.1 hk2
      rw [Bool.and_eq_true] at m2
      exact ⟨m1, pre_trans (pre_drop (of_decide_eq_true k2)) m2.1, m2.2⟩
theorem TreeOK.top {PS : List (List Int)} (h : TreeOK PS) (h1 : 1 ≤ PS.length) : kidsP PS [] ≠ [] := by
  intro k
  have hm := getD_mem (PS := PS) (i := 0) (by omega)
  rcases h.par 0 (by omega) with e | e
  · have : PS.getD 0 [] ∈ kidsP PS [] := List.mem_filter.2 ⟨hm, decide_eq_true e⟩
    rw [k] at this; cases this
  · simp at e
theorem count_one {α : Type} [DecidableEq α] (p : α → Bool) (x : α) : ∀ l : List α, l.Nodup → x ∈ l → p x = true → (∀ y ∈ l, p y = true → y = x) → (l.filter p).length = 1
  | [] => fun _ h _ _ => by cases h
  | a :: l => fun hn hx hp hu => by
    obtain ⟨n1, n2⟩ := List.nodup_cons.1 hn
    by_cases e : a = x
    · subst e
      rw [List.filter_cons_of_pos hp]
      have : l.filter p = [] := List.filter_eq_nil_iff.2 (fun y hy k => n1 (hu y (by simp [hy]) k ▸ hy))
      rw [this]; rfl
    · have hpa : ¬ p a = true := fun k => e (hu a (by simp) k)
      rw [List.filter_cons_of_neg hpa]
      have hx' : x ∈ l := by
        rcases List.mem_cons.1 hx with k | k
        · exact absurd k.symm e
        · exact k
      exact count_one p x l n2 hx' hp (fun y hy k => hu y (by simp [hy]) k)
/-- Each leaf within a code is within exactly one leaf. -/
theorem TreeOK.leaf_once {PS : List (List Int)} (h : TreeOK PS) {Q L : List Int} (hL : L ∈ leavesP PS Q) : ((leavesP PS Q).filter fun x => x.isPrefixOf L).length = 1 := by
  refine count_one _ L _ (up_nodup (h.sorted.filter _)) hL (by simp) (fun y hy k => ?_)
  obtain ⟨y1, y2⟩ := List.mem_filter.1 hy
  rw [Bool.and_eq_true] at y2
  obtain ⟨l1, _⟩ := List.mem_filter.1 hL
  by_cases e : L = y
  · exact e.symm
  · obtain ⟨m1, m2⟩ := h.way l1 k e
    exact absurd m2 (leafP_iff.1 y2.2 _ m1)
/-- Each leaf is within exactly one code of the first level. -/
theorem TreeOK.top_once {PS : List (List Int)} (h : TreeOK PS) {L : List Int} (hL : L ∈ leavesP PS []) : ((kidsP PS []).filter fun x => x.isPrefixOf L).length = 1 := by
  obtain ⟨l1, _⟩ := List.mem_filter.1 hL
  have hne := okP_ne (h.ok L l1)
  obtain ⟨m1, m2⟩ := h.way l1 (Q := []) rfl hne
  refine count_one _ (L.take 1) _ (up_nodup (h.sorted.filter _)) (List.mem_filter.2 ⟨m1, decide_eq_true m2⟩) (take_pre L 1) (fun y hy k => ?_)
  obtain ⟨y1, y2⟩ := List.mem_filter.1 hy
  obtain ⟨n, rfl⟩ := dropLast_snoc (h.ok y y1) (of_decide_eq_true y2)
  exact List.prefix_iff_eq_take.1 (List.isPrefixOf_iff_prefix.1 k)
end Go.Proofs.YtnmcmnllmnpjkaaGreatDoor
