/- The contract of the program's Format at the long plan's expression. -/
import Derived.Test.YtenjefbplpbjaaaGreatDoorZ3
import Derived.Deep.RegionHeld3
namespace Go.Proofs.YtenjefbplpbjaaaGreatDoor
open Go.RowKit Go.Sort Cal Go.Maps
/-- The texts told so far, the list of nodes in its variable, the list of texts in its variable. -/
structure TextsIn (B T g c : Nat) (w0 : World) (k : Nat) (w : World) : Prop where
  blk : ∃ cs, w.heap[T]? = some (.cells cs 9 (0, 0)) ∧ cs.size = 39 ∧ ∀ j, j < k → cs[j]? = some (.string (nodeT j))
  box : w.heap[B]? = some (.cells #[.slice (some ⟨g, 0, none⟩) 39 c] 40 (0, 0))
  var : w.heap[T + 1]? = some (.cells #[.slice (some ⟨T, 0, none⟩) 39 39] 54 (0, 0))
  bl : Below w0.heap.size w0 w
  lo : w0.heap.size ≤ B
  bt : B < T
theorem TextsIn.lt {B T g c k : Nat} {w0 w : World} (h : TextsIn B T g c w0 k w) : T + 1 < w.heap.size := (Array.getElem?_eq_some_iff.1 h.var).1
theorem TextsIn.below {B T g c k : Nat} {w0 w w' : World} (h : TextsIn B T g c w0 k w) (hb : Below w.heap.size w w') : TextsIn B T g c w0 k w' := by
  have hl := h.lt
  have hbt := h.bt
  obtain ⟨cs, h1, h2⟩ := h.blk
  exact ⟨⟨cs, (hb.block T (by omega)).trans h1, h2⟩, (hb.block B (by omega)).trans h.box, (hb.block (T + 1) hl).trans h.var, chain0 h.bl hb, h.lo, h.bt⟩
theorem TextsIn.cell {B T g c k : Nat} {w0 w : World} (h : TextsIn B T g c w0 k w) {j : Nat} (hj : j < k) : w.cell? ⟨T, j, none⟩ = some (.string (nodeT j)) := by
  obtain ⟨cs, h1, h2, h3⟩ := h.blk
  exact cell_blk h1 j _ (h3 j hj)
theorem TextsIn.has {B T g c k : Nat} {w0 w : World} (h : TextsIn B T g c w0 k w) {j : Nat} (hj : j < 39) : ∃ u, w.cell? ⟨T, j, none⟩ = some u := by
  obtain ⟨cs, h1, h2, h3⟩ := h.blk
  exact ⟨cs[j], cell_blk h1 j _ (Array.getElem?_eq_getElem (by omega))⟩
theorem TextsIn.free {B T g c k : Nat} {w0 w : World} (h : TextsIn B T g c w0 k w) (j : Nat) : w.frozen? ⟨T, j, none⟩ = false := by
  obtain ⟨cs, h1, _⟩ := h.blk
  exact free_blk h1 j
theorem TextsIn.put {B T g c k : Nat} {w0 w : World} (h : TextsIn B T g c w0 k w) (hk : k < 39) : TextsIn B T g c w0 (k + 1) (w.setCell ⟨T, k, none⟩ (.string (nodeT k))) := by
  have hbt := h.bt
  have hlo := h.lo
  obtain ⟨cs, h1, h2, h3⟩ := h.blk
  refine ⟨⟨_, set_blk h1 k _, by simpa using h2, fun j hj => ?_⟩, set_other h.box (by omega) k _, set_other h.var (by omega) k _, h.bl.setCell (p := ⟨T, k, none⟩) (by show w0.heap.size ≤ T; omega) _, h.lo, h.bt⟩
  rw [Array.getElem?_setIfInBounds]
  split
  · next e => subst e; rw [if_pos (by omega)]
  · exact h3 j (by omega)
set_option maxHeartbeats 1600000 in
/-- The closure of Format: the text of a node's argument. -/
theorem arg_0 (B T g c : Nat) (a : Nat → Nat) (w0 : World) (k k2 : Nat) (w : World) (hT : TextsIn B T g c w0 k w) (hN : NodesAt g a w) (hk : k < 39) (hl : isLeaf k = false) (h2 : k2 = k - 2) :
    Calls Tryz.prog 98 #[.int .i64 (k : Int), .int .i64 0, .pointer (some ⟨T + 1, 0, none⟩), .pointer (some ⟨B, 0, none⟩)] w fun e w' => e = .returned (.string (nodeT k2)) ∧ ∃ n, w' = w.drewN n := by
  have hli := (leaf_iff k).1 hl
  obtain ⟨c0, c1, c2, c3, c4, c5⟩ := hN.min hk hl
  have a0 : w.cell? ⟨a k, 0, none⟩ = some (.int .i64 (k2 : Int)) := by have := hN.a0 k hk hl; rwa [← h2] at this
  have t0 : w.cell? ⟨T, k2, none⟩ = some (.string (nodeT k2)) := hT.cell (by omega)
  have b0 : w.cell? ⟨B, 0, none⟩ = some (.slice (some ⟨g, 0, none⟩) 39 c) := cell_blk hT.box 0 _ rfl
  have v0 : w.cell? ⟨T + 1, 0, none⟩ = some (.slice (some ⟨T, 0, none⟩) 39 39) := cell_blk hT.var 0 _ rfl
  have hk2 : k2 < 39 := by omega
  clear hT hN c0 c1 c2 c3 c4 hli h2 hl
  generalize nodeT k2 = x at *
  go_enter Tryz.func98, Tryz.ntmps98
  go_wp2
  go_quiet (fail)
  go_wp2
  go_ret
  exact ⟨rfl, _, rfl⟩
set_option maxHeartbeats 1600000 in
theorem arg_1 (B T g c : Nat) (a : Nat → Nat) (w0 : World) (k k2 : Nat) (w : World) (hT : TextsIn B T g c w0 k w) (hN : NodesAt g a w) (hk : k < 39) (hl : isLeaf k = false) (h2 : k2 = k - 1) :
    Calls Tryz.prog 98 #[.int .i64 (k : Int), .int .i64 1, .pointer (some ⟨T + 1, 0, none⟩), .pointer (some ⟨B, 0, none⟩)] w fun e w' => e = .returned (.string (nodeT k2)) ∧ ∃ n, w' = w.drewN n := by
  have hli := (leaf_iff k).1 hl
  obtain ⟨c0, c1, c2, c3, c4, c5⟩ := hN.min hk hl
  have a0 : w.cell? ⟨a k, 1, none⟩ = some (.int .i64 (k2 : Int)) := by have := hN.a1 k hk hl; rwa [← h2] at this
  have t0 : w.cell? ⟨T, k2, none⟩ = some (.string (nodeT k2)) := hT.cell (by omega)
  have b0 : w.cell? ⟨B, 0, none⟩ = some (.slice (some ⟨g, 0, none⟩) 39 c) := cell_blk hT.box 0 _ rfl
  have v0 : w.cell? ⟨T + 1, 0, none⟩ = some (.slice (some ⟨T, 0, none⟩) 39 39) := cell_blk hT.var 0 _ rfl
  have hk2 : k2 < 39 := by omega
  clear hT hN c0 c1 c2 c3 c4 hli h2 hl
  generalize nodeT k2 = x at *
  go_enter Tryz.func98, Tryz.ntmps98
  go_wp2
  go_quiet (fail)
  go_wp2
  go_ret
  exact ⟨rfl, _, rfl⟩
end Go.Proofs.YtenjefbplpbjaaaGreatDoor
