/- What the generator of expressions keeps: the tape read on, its list in memory of its own, and a node that is being filled. -/
import Derived.Test.YtkgkjoologjehaaGreatDoorU4
namespace Go.Proofs.YtkgkjoologjehaaGreatDoor
open Go.RowKit Go.Sort Cal Go.Maps
theorem own_keep {w w' : World} {base size n : Nat} {e : TypeId} {v : Value} {xs : List Value} (h : w.ownsRow base e size v n xs) (hk : ∀ g, v.ownBlock = some g → w'.heap[g]? = w.heap[g]?) : w'.ownsRow base e size v n xs := by
  refine ⟨h.1, ?_⟩
  rcases h.2 with h0 | ⟨g, cap, cur, hv, hbase, hblk, h1, h2, h3, h4⟩
  · exact Or.inl h0
  · exact Or.inr ⟨g, cap, cur, hv, hbase, (hk g (by rw [hv]; rfl)).trans hblk, h1, h2, h3, h4⟩
/-- But for block b, the row's block and new blocks nothing turns. -/
structure Only (b : Nat) (v : Value) (w w' : World) : Prop where
  os : w'.os = w.os
  tape : w'.tape = w.tape
  output : w'.output = w.output
  size : w.heap.size ≤ w'.heap.size
  block : ∀ k, k < w.heap.size → k ≠ b → v.ownBlock ≠ some k → w'.heap[k]? = w.heap[k]?
theorem Only.refl (b : Nat) (v : Value) (w : World) : Only b v w w := ⟨rfl, rfl, rfl, Nat.le_refl _, fun _ _ _ _ => rfl⟩
/-- The row's block is the old one, or a new one. -/
def Heir (v0 : Value) (N : Nat) (v : Value) : Prop := v.ownBlock = v0.ownBlock ∨ ∃ k, v.ownBlock = some k ∧ N ≤ k
theorem Heir.ne {v0 v : Value} {N k : Nat} (h : Heir v0 N v) (h0 : v0.ownBlock ≠ some k) (hk : k < N) : v.ownBlock ≠ some k := by
  rcases h with e | ⟨j, e, hj⟩
  · rw [e]; exact h0
  · rw [e]; intro h; cases h; omega
theorem Heir.trans {v0 v1 v2 : Value} {N1 N2 : Nat} (h : Heir v0 N1 v1) (k : Heir v1 N2 v2) (hN : N1 ≤ N2) : Heir v0 N1 v2 := by
  rcases k with e | ⟨j, e, hj⟩
  · rcases h with e1 | ⟨j, e1, hj⟩
    · exact Or.inl (e.trans e1)
    · exact Or.inr ⟨j, e.trans e1, hj⟩
  · exact Or.inr ⟨j, e, by omega⟩
theorem Only.then {b : Nat} {v0 v : Value} {w0 w w' : World} (h : Only b v0 w0 w) (hv : Heir v0 w0.heap.size v) (k : Only b v w w') : Only b v0 w0 w' :=
  ⟨k.os.trans h.os, k.tape.trans h.tape, k.output.trans h.output, Nat.le_trans h.size k.size, fun j hj hb hn => (k.block j (Nat.lt_of_lt_of_le hj h.size) hb (hv.ne hn hj)).trans (h.block j hj hb hn)⟩
theorem Only.of_touch {b : Nat} {v : Value} {w w' : World} (h : Touch b w w') : Only b v w w' := ⟨h.os, h.tape, h.output, h.size, fun k hk hb _ => h.block k hk hb⟩
theorem Only.touch {b : Nat} {v : Value} {w w' : World} (h : Only b v w w') (hv : v.ownBlock = none) : Touch b w w' := ⟨h.os, h.tape, h.output, h.size, fun k hk hb => h.block k hk hb (by rw [hv]; exact fun e => by cases e)⟩
/-- How it stands inside the generator: since w0, when the list was v0. -/
structure Tr (b : Nat) (sv : Value) (zs : List Int) (i base : Nat) (v0 : Value) (w0 : World) (v : Value) (n : Nat) (w : World) : Prop where
  tape : TapeAt b sv zs i w
  own : ∃ xs, w.ownsRow base 80 6 v n xs
  only : Only b v0 w0 w
  heir : Heir v0 w0.heap.size v
  lt : b < base
  le : base ≤ w0.heap.size
variable {b : Nat} {sv : Value} {zs : List Int} {i i' base n n' : Nat} {v0 v v' : Value} {w0 w w' : World}
theorem Tr.start {xs : List Value} (hT : TapeAt b sv zs i w) (ho : w.ownsRow base 80 6 v n xs) (hl : b < base) (hb : base ≤ w.heap.size) : Tr b sv zs i base v w v n w :=
  ⟨hT, ⟨xs, ho⟩, Only.refl _ _ _, Or.inl rfl, hl, hb⟩
theorem Tr.away (h : Tr b sv zs i base v0 w0 v n w) {B : Nat} (hB : w.heap.size ≤ B) : Away v B := by
  obtain ⟨xs, ho⟩ := h.own
  intro j hj e
  have := (ho.lt j hj).2
  omega
theorem Tr.touch (h : Tr b sv zs i base v0 w0 v n w) (hT : TapeAt b sv zs i' w') (ht : Touch b w w') : Tr b sv zs i' base v0 w0 v n w' := by
  obtain ⟨xs, ho⟩ := h.own
  exact ⟨hT, ⟨xs, ownsRow_touch ho ht h.lt⟩, h.only.then h.heir (Only.of_touch ht), h.heir, h.lt, h.le⟩
theorem Tr.below (h : Tr b sv zs i base v0 w0 v n w) (hb : Below w.heap.size w w') : Tr b sv zs i base v0 w0 v n w' := h.touch (h.tape.below hb) (Touch.of_below hb)
theorem Tr.alloc (h : Tr b sv zs i base v0 w0 v n w) (o : Obj) : Tr b sv zs i base v0 w0 v n (w.alloc o) := h.below ((Below.refl _ _).alloc (Nat.le_refl _) o)
theorem Tr.size (h : Tr b sv zs i base v0 w0 v n w) : w0.heap.size ≤ w.heap.size := h.only.size
/-- A cell of a block of the call's own is set. -/
theorem Tr.set (h : Tr b sv zs i base v0 w0 v n w) {B : Nat} (hB : w0.heap.size ≤ B) (ha : Away v B) (j : Nat) (u : Value) : Tr b sv zs i base v0 w0 v n (w.setCell ⟨B, j, none⟩ u) := by
  obtain ⟨xs, ho⟩ := h.own
  have hne : ∀ k, k ≠ B → (w.setCell ⟨B, j, none⟩ u).heap[k]? = w.heap[k]? := fun k hk => Below.heap_setCell _ _ _ _ hk
  have h1 := h.lt; have h2 := h.le
  refine ⟨h.tape.keep (fun k hk => hne k (by omega)), ⟨xs, own_keep ho (fun g hg => hne g (ha g hg))⟩, ?_, h.heir, h.lt, h.le⟩
  exact ⟨h.only.os, h.only.tape, h.only.output, by simpa [World.setCell] using h.only.size, fun k hk hb hn => (hne k (by omega)).trans (h.only.block k hk hb hn)⟩
/-- The list has grown by an append. -/
theorem Tr.grown (h : Tr b sv zs i base v0 w0 v n w) {xs' : List Value} (ho : w'.ownsRow base 80 6 v' n' xs') (hg : w.grownBy w' v.ownBlock) (hob : v'.ownBlock = v.ownBlock ∨ v'.ownBlock = some w.heap.size) : Tr b sv zs i base v0 w0 v' n' w' := by
  obtain ⟨xs, ho0⟩ := h.own
  have h1 := h.lt; have h2 := h.le
  have h3 := h.only.size
  have hh : Heir v w.heap.size v' := by
    rcases hob with e | e
    · exact Or.inl e
    · exact Or.inr ⟨_, e, Nat.le_refl _⟩
  refine ⟨h.tape.keep (fun k hk => hg.block k (by omega) (fun e => by have := (ho0.lt k e.symm).1; omega)), ⟨xs', ho⟩, ?_, h.heir.trans hh h3, h.lt, h.le⟩
  exact h.only.then h.heir ⟨hg.os, hg.tape, hg.output, hg.size, fun k hk _ hn => hg.block k hk (fun e => hn e.symm)⟩
def TreePost (m D b : Nat) (sv : Value) (zs : List Int) (i base : Nat) (v : Value) (n : Nat) (w : World) (e : Ending) (w' : World) : Prop :=
  ∃ v' n' i', e = .returned v' ∧ n < n' ∧ n' ≤ n + m ∧ i' ≤ i + D ∧ Tr b sv zs i' base v w v' n' w'
theorem Tr.call (h : Tr b sv zs i base v0 w0 v n w) (k : Tr b sv zs i' base v w v' n' w') : Tr b sv zs i' base v0 w0 v' n' w' :=
  ⟨k.tape, k.own, h.only.then h.heir k.only, h.heir.trans k.heir h.only.size, h.lt, h.le⟩
/-- A node in block B, whatever it holds. -/
def NodeAt (B : Nat) (w : World) : Prop :=
  ∃ (k : Int) (s : ByteArray) (g : Bool) (q1 : Option Addr) (n1 c1 : Nat) (q2 : Option Addr) (n2 c2 : Nat) (q3 : Option Addr) (n3 c3 : Nat), w.heap[B]? = some (.cells #[.int .i64 k, .string s, .bool g, .slice q1 n1 c1, .slice q2 n2 c2, .slice q3 n3 c3] 80 (0, 0))
theorem NodeAt.keep {B : Nat} {w w' : World} (h : NodeAt B w) (hk : w'.heap[B]? = w.heap[B]?) : NodeAt B w' := by
  obtain ⟨k, s, g, q1, n1, c1, q2, n2, c2, q3, n3, c3, e⟩ := h
  exact ⟨k, s, g, q1, n1, c1, q2, n2, c2, q3, n3, c3, hk.trans e⟩
theorem NodeAt.lt {B : Nat} {w : World} (h : NodeAt B w) : B < w.heap.size := by
  obtain ⟨k, s, g, q1, n1, c1, q2, n2, c2, q3, n3, c3, e⟩ := h
  exact (Array.getElem?_eq_some_iff.1 e).1
theorem NodeAt.touch {B b : Nat} {w w' : World} (h : NodeAt B w) (ht : Touch b w w') (hne : B ≠ b) : NodeAt B w' := h.keep (ht.block _ h.lt hne)
theorem NodeAt.only {B b : Nat} {v : Value} {w w' : World} (h : NodeAt B w) (ht : Only b v w w') (hne : B ≠ b) (ha : Away v B) : NodeAt B w' := h.keep (ht.block _ h.lt hne (fun e => ha B e rfl))
theorem NodeAt.new (w : World) (k : Int) : NodeAt w.heap.size (w.alloc (.cells #[.int .i64 k, .string ⟨#[]⟩, .bool false, .slice none 0 0, .slice none 0 0, .slice none 0 0] 80)) :=
  ⟨k, ⟨#[]⟩, false, none, 0, 0, none, 0, 0, none, 0, 0, by show (Array.push w.heap _)[_]? = _; rw [Array.getElem?_push, if_pos rfl]⟩
theorem NodeAt.name {B : Nat} {w : World} (h : NodeAt B w) (s : ByteArray) : NodeAt B (w.setCell ⟨B, 1, none⟩ (.string s)) := by
  obtain ⟨k, _, g, q1, n1, c1, q2, n2, c2, q3, n3, c3, e⟩ := h
  exact ⟨k, s, g, q1, n1, c1, q2, n2, c2, q3, n3, c3, by simpa using set_blk e 1 (.string s)⟩
theorem NodeAt.args {B : Nat} {w : World} (h : NodeAt B w) (q3 : Option Addr) (n3 c3 : Nat) : NodeAt B (w.setCell ⟨B, 5, none⟩ (.slice q3 n3 c3)) := by
  obtain ⟨k, s, g, q1, n1, c1, q2, n2, c2, _, _, _, e⟩ := h
  exact ⟨k, s, g, q1, n1, c1, q2, n2, c2, q3, n3, c3, by simpa using set_blk e 5 (.slice q3 n3 c3)⟩
theorem NodeAt.number {B : Nat} {w : World} (h : NodeAt B w) (g : Bool) (q1 : Option Addr) (n1 c1 : Nat) (q2 : Option Addr) (n2 c2 : Nat) : NodeAt B (((w.setCell ⟨B, 2, none⟩ (.bool g)).setCell ⟨B, 3, none⟩ (.slice q1 n1 c1)).setCell ⟨B, 4, none⟩ (.slice q2 n2 c2)) := by
  obtain ⟨k, s, _, _, _, _, _, _, _, q3, n3, c3, e⟩ := h
  exact ⟨k, s, g, q1, n1, c1, q2, n2, c2, q3, n3, c3, by simpa using set_blk (set_blk (set_blk e 2 (.bool g)) 3 (.slice q1 n1 c1)) 4 (.slice q2 n2 c2)⟩
theorem info_node : (Tryz.prog.info? 80).map (fun i => (i.zero, i.size, i.bytes)) = some (some (.agg #[.int .i64 0, .string ⟨#[]⟩, .bool false, .slice none 0 0, .slice none 0 0, .slice none 0 0]), 6, 104) := by kernel_rfl
end Go.Proofs.YtkgkjoologjehaaGreatDoor
