/- What the generator of plans keeps while it fills a list: the tape, the plan's block, the list itself, the words it ranges over, the rules made before. -/
import Derived.Test.YtkgkjoologjehaaGreatDoorU7
namespace Go.Proofs.YtkgkjoologjehaaGreatDoor
open Go.RowKit Go.Sort Cal Go.Maps
def zeroP : List Value := [.int .i64 0, .slice none 0 0, .slice none 0 0, .slice none 0 0, .slice none 0 0, .slice none 0 0]
def flatR (RS : List RuleR) : List Value := RS.flatMap ruleL
/-- b: the tape; B4, B5: the result's block and the plan's; G: the words' block; N: from here on lies the list that grows; below N1 lie the rules. -/
structure St (b : Nat) (sv : Value) (zs : List Int) (w0 : World) (B4 B5 G N N1 : Nat) (L : List Value) (t : TypeId) (size : Nat) (v1 : Value) (RS : List RuleR) (i : Nat) (cs : List Value) (v : Value) (n : Nat) (xs : List Value) (w : World) : Prop where
  tape : TapeAt b sv zs i w
  touch : Touch b w0 w
  z : w.heap[B4]? = some (.cells zeroP.toArray 28 (0, 0))
  k : w.heap[B5]? = some (.cells cs.toArray 28 (0, 0))
  str : ∀ j u, L[j]? = some u → w.cell? ⟨G, j, none⟩ = some u
  own : w.ownsRow N t size v n xs
  rl : w.ownsRow (B5 + 1) 43 4 v1 RS.length (flatR RS)
  r1 : ∀ g, v1.ownBlock = some g → g < N1
  lb : b < w0.heap.size
  l4 : w0.heap.size ≤ B4
  l5 : B4 < B5
  lg : B5 < G
  ln : G < N
  l1 : N1 ≤ N
  lw : N ≤ w.heap.size
variable {b : Nat} {sv : Value} {zs : List Int} {w0 : World} {B4 B5 G N N1 : Nat} {L : List Value} {t : TypeId} {sz : Nat} {v1 : Value} {RS : List RuleR} {i : Nat} {cs : List Value} {v : Value} {n : Nat} {xs : List Value} {w : World}
theorem St.touched (h : St b sv zs w0 B4 B5 G N N1 L t sz v1 RS i cs v n xs w) {i' : Nat} {w' : World} (hT : TapeAt b sv zs i' w') (ht : Touch b w w') : St b sv zs w0 B4 B5 G N N1 L t sz v1 RS i' cs v n xs w' := by
  have h1 := h.lb; have h2 := h.l4; have h3 := h.l5; have h4 := h.lg; have h5 := h.ln; have h6 := h.lw
  exact ⟨hT, h.touch.trans ht, (ht.block _ (by omega) (by omega)).trans h.z, (ht.block _ (by omega) (by omega)).trans h.k, fun j u hj => (ht.cell (by omega) (by omega)).trans (h.str j u hj), ownsRow_touch h.own ht (by omega), ownsRow_touch h.rl ht (by omega), h.r1, h1, h2, h3, h4, h5, h.l1, Nat.le_trans h6 ht.size⟩
theorem St.below (h : St b sv zs w0 B4 B5 G N N1 L t sz v1 RS i cs v n xs w) {w' : World} (hb : Below w.heap.size w w') : St b sv zs w0 B4 B5 G N N1 L t sz v1 RS i cs v n xs w' := h.touched (h.tape.below hb) (Touch.of_below hb)
theorem St.alloc (h : St b sv zs w0 B4 B5 G N N1 L t sz v1 RS i cs v n xs w) (o : Obj) : St b sv zs w0 B4 B5 G N N1 L t sz v1 RS i cs v n xs (w.alloc o) := h.below ((Below.refl _ _).alloc (Nat.le_refl _) o)
theorem St.sizes (h : St b sv zs w0 B4 B5 G N N1 L t sz v1 RS i cs v n xs w) : w0.heap.size < w.heap.size ∧ B5 < w.heap.size := by
  have h1 := h.lb; have h2 := h.l4; have h3 := h.l5; have h4 := h.lg; have h5 := h.ln; have h6 := h.lw
  omega
/-- The list has grown by an append. -/
theorem St.grown (h : St b sv zs w0 B4 B5 G N N1 L t sz v1 RS i cs v n xs w) {w' : World} {v' : Value} {n' : Nat} {xs' : List Value} (ho : w'.ownsRow N t sz v' n' xs') (hg : w.grownBy w' v.ownBlock) : St b sv zs w0 B4 B5 G N N1 L t sz v1 RS i cs v' n' xs' w' := by
  have h1 := h.lb; have h2 := h.l4; have h3 := h.l5; have h4 := h.lg; have h5 := h.ln; have h6 := h.lw; have h7 := h.l1
  have hr : ∀ k, v.ownBlock = some k → N ≤ k := fun k hk => (h.own.lt k hk).1
  have hk : ∀ k, k < N → w'.heap[k]? = w.heap[k]? := fun k hk => hg.block k (by omega) (fun e => by have := hr k e.symm; omega)
  refine ⟨h.tape.keep (fun k hkb => hk k (by omega)), h.touch.grown hg (fun k e => by have := hr k e; omega), (hk _ (by omega)).trans h.z, (hk _ (by omega)).trans h.k, fun j u hj => (World.cell?_of_block (w := w) (w' := w') (a := ⟨G, j, none⟩) (hk _ h5)).trans (h.str j u hj), ho, own_keep h.rl (fun g hgv => hk g (by have := h.r1 g hgv; omega)), h.r1, h1, h2, h3, h4, h5, h7, Nat.le_trans h6 hg.size⟩
/-- A field of the plan is set. -/
theorem St.store (h : St b sv zs w0 B4 B5 G N N1 L t sz v1 RS i cs v n xs w) (j : Nat) (u : Value) : St b sv zs w0 B4 B5 G N N1 L t sz v1 RS i (cs.set j u) v n xs (w.setCell ⟨B5, j, none⟩ u) := by
  have h1 := h.lb; have h2 := h.l4; have h3 := h.l5; have h4 := h.lg; have h5 := h.ln; have h6 := h.lw; have h7 := h.l1
  have hk : ∀ k, k ≠ B5 → (w.setCell ⟨B5, j, none⟩ u).heap[k]? = w.heap[k]? := fun k hk => Below.heap_setCell _ _ _ _ hk
  have e : (w.setCell ⟨B5, j, none⟩ u).heap[B5]? = some (.cells (cs.set j u).toArray 28 (0, 0)) := by
    have := set_blk h.k j u
    simpa using this
  refine ⟨h.tape.keep (fun k hkb => hk k (by omega)), ⟨h.touch.os, h.touch.tape, h.touch.output, by simpa [World.setCell] using h.touch.size, fun k hkl hkb => (hk k (by omega)).trans (h.touch.block k hkl hkb)⟩, (hk _ (by omega)).trans h.z, e, fun j' u' hj => (World.cell?_of_block (w := w) (w' := w.setCell ⟨B5, j, none⟩ u) (a := ⟨G, j', none⟩) (hk G (by omega))).trans (h.str j' u' hj), own_keep h.own (fun g hg => hk g (by have := (h.own.lt g hg).1; omega)), own_keep h.rl (fun g hg => hk g (by have := (h.rl.lt g hg).1; omega)), h.r1, h1, h2, h3, h4, h5, h7, by simpa [World.setCell] using h6⟩
/-- A cell of a block of the call's own is set, which is no row. -/
theorem St.other (h : St b sv zs w0 B4 B5 G N N1 L t sz v1 RS i cs v n xs w) {B : Nat} (hB : N ≤ B) (ha : Away v B) (j : Nat) (u : Value) : St b sv zs w0 B4 B5 G N N1 L t sz v1 RS i cs v n xs (w.setCell ⟨B, j, none⟩ u) := by
  have h1 := h.lb; have h2 := h.l4; have h3 := h.l5; have h4 := h.lg; have h5 := h.ln; have h6 := h.lw; have h7 := h.l1
  have hk : ∀ k, k ≠ B → (w.setCell ⟨B, j, none⟩ u).heap[k]? = w.heap[k]? := fun k hk => Below.heap_setCell _ _ _ _ hk
  refine ⟨h.tape.keep (fun k hkb => hk k (by omega)), ⟨h.touch.os, h.touch.tape, h.touch.output, by simpa [World.setCell] using h.touch.size, fun k hkl hkb => (hk k (by omega)).trans (h.touch.block k hkl hkb)⟩, (hk _ (by omega)).trans h.z, (hk _ (by omega)).trans h.k, fun j' u' hj => (World.cell?_of_block (w := w) (w' := w.setCell ⟨B, j, none⟩ u) (a := ⟨G, j', none⟩) (hk G (by omega))).trans (h.str j' u' hj), own_keep h.own (fun g hg => hk g (ha g hg)), own_keep h.rl (fun g hg => hk g (by have := h.r1 g hg; omega)), h.r1, h1, h2, h3, h4, h5, h7, by simpa [World.setCell] using h6⟩
theorem next_st (m : Nat) (h : St b sv zs w0 B4 B5 G N N1 L t sz v1 RS i cs v n xs w) (hi : i ≤ 1000000) (h1 : 1 ≤ m) (h2 : m ≤ 1000000) :
    Calls Tryz.prog 25 #[.pointer (some ⟨b, 0, none⟩), .int .i64 (m : Int)] w fun e w' => ∃ k : Nat, k < m ∧ e = .returned (.int .i64 (k : Int)) ∧ St b sv zs w0 B4 B5 G N N1 L t sz v1 RS (i + 1) cs v n xs w' ∧ Touch b w w' :=
  (next_some b sv zs i m w h.tape hi (by omega) (by omega)).mono fun _ _ ⟨v, h0, hv, he, hT, ht⟩ => by
    obtain ⟨k, rfl⟩ := Int.eq_ofNat_of_zero_le h0
    exact ⟨k, by omega, he, h.touched hT ht, ht⟩
theorem flatR_len (RS : List RuleR) : (flatR RS).length = RS.length * 4 := by
  induction RS with
  | nil => rfl
  | cons r l ih => simp only [flatR, List.flatMap_cons, List.length_append, List.length_cons] at *; rw [ih]; simp [ruleL]; omega
theorem flatR_at : ∀ (RS : List RuleR) (j : Nat) (r : RuleR), RS[j]? = some r → (flatR RS)[j * 4]? = some (.string r.c) ∧ (flatR RS)[j * 4 + 1]? = some (.int .i64 r.m) ∧ (flatR RS)[j * 4 + 2]? = some (.int .i64 r.n) ∧ (flatR RS)[j * 4 + 3]? = some (.int .i64 r.s)
  | [], j, r, h => by simp at h
  | a :: l, 0, r, h => by
    simp at h; subst h
    exact ⟨rfl, rfl, rfl, rfl⟩
  | a :: l, j + 1, r, h => by
    simp at h
    obtain ⟨h0, h1, h2, h3⟩ := flatR_at l j r h
    have e : ∀ d, (flatR (a :: l))[(j + 1) * 4 + d]? = (flatR l)[j * 4 + d]? := fun d => by
      show ([Value.string a.c, .int .i64 a.m, .int .i64 a.n, .int .i64 a.s] ++ flatR l)[(j + 1) * 4 + d]? = _
      rw [List.getElem?_append_right (by simp; omega)]
      congr 1
      simp; omega
    exact ⟨(e 0).trans h0, (e 1).trans h1, (e 2).trans h2, (e 3).trans h3⟩
/-- What owns the rules' cells is a list of rules. -/
theorem rules_of_own {base : Nat} {w : World} {v : Value} {RS : List RuleR} (h : w.ownsRow base 43 4 v RS.length (flatR RS)) : RulesAt w v RS := by
  by_cases h0 : RS.length = 0
  · have e : RS = [] := List.eq_nil_of_length_eq_zero h0
    subst e
    obtain ⟨p, c, e⟩ := own_form h
    exact Or.inl ⟨rfl, p, c, e⟩
  · obtain ⟨g, cap, rfl, _, hlt⟩ := World.ownsRow.form h (by omega)
    refine Or.inr ⟨by omega, g, cap, rfl, own_cap h, hlt, fun j r hj => ?_⟩
    have hjl := (List.getElem?_eq_some_iff.1 hj).1
    obtain ⟨a0, a1, a2, a3⟩ := flatR_at RS j r hj
    exact ⟨(h.cellAt (j * 4) (by omega)).trans a0, (h.cellAt (j * 4 + 1) (by omega)).trans a1, (h.cellAt (j * 4 + 2) (by omega)).trans a2, (h.cellAt (j * 4 + 3) (by omega)).trans a3⟩
theorem flatR_app (RS : List RuleR) (r : RuleR) : flatR (RS ++ [r]) = flatR RS ++ [.string r.c, .int .i64 r.m, .int .i64 r.n, .int .i64 r.s] := by
  simp [flatR, ruleL]
end Go.Proofs.YtkgkjoologjehaaGreatDoor
