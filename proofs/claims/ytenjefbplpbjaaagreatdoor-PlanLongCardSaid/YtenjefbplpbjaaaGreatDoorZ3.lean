/- The contract of the program's Validate at the long plan's expression. -/
import Derived.Test.YtenjefbplpbjaaaGreatDoorZ2
import Derived.Deep.OwnRows
import Derived.BigQuiet
import Derived.Deep.QuietTactic
namespace Go.Proofs.YtenjefbplpbjaaaGreatDoor
open Go.RowKit Go.Sort Cal Go.Maps
/-- The first node of the j-th subexpression. -/
def startV (j : Nat) : Int := if j % 2 = 0 then 0 else (j : Int)
theorem startV_odd {j : Nat} (h : j % 2 = 1) : startV j = j := by unfold startV; rw [if_neg (by omega)]
theorem startV_even {j : Nat} (h : j % 2 = 0) : startV j = 0 := by unfold startV; rw [if_pos h]
theorem startV_leaf {j : Nat} (h : isLeaf j = true) : startV j = j := by
  unfold isLeaf at h
  simp at h
  unfold startV
  split <;> omega
/-- A list of 39 integers of the call's own, of which the first k are told. -/
structure Firsts (B : Nat) (w0 : World) (k : Nat) (w : World) : Prop where
  blk : ∃ cs, w.heap[B]? = some (.cells cs 3 (0, 0)) ∧ cs.size = 39 ∧ ∀ j, j < k → cs[j]? = some (.int .i64 (startV j))
  bl : Below w0.heap.size w0 w
  lo : w0.heap.size ≤ B
theorem Firsts.lt {B k : Nat} {w0 w : World} (h : Firsts B w0 k w) : B < w.heap.size := by
  obtain ⟨cs, hb, _⟩ := h.blk
  exact (Array.getElem?_eq_some_iff.1 hb).1
theorem Firsts.below {B k : Nat} {w0 w w' : World} (h : Firsts B w0 k w) (hb : Below w.heap.size w w') : Firsts B w0 k w' := by
  obtain ⟨cs, h1, h2⟩ := h.blk
  exact ⟨⟨cs, (hb.block B h.lt).trans h1, h2⟩, chain0 h.bl hb, h.lo⟩
theorem Firsts.cell {B k : Nat} {w0 w : World} (h : Firsts B w0 k w) {j : Nat} (hj : j < k) : w.cell? ⟨B, j, none⟩ = some (.int .i64 (startV j)) := by
  obtain ⟨cs, h1, h2, h3⟩ := h.blk
  exact cell_blk h1 j _ (h3 j hj)
theorem Firsts.some {B k : Nat} {w0 w : World} (h : Firsts B w0 k w) {j : Nat} (hj : j < 39) : ∃ u, w.cell? ⟨B, j, none⟩ = some u := by
  obtain ⟨cs, h1, h2, h3⟩ := h.blk
  exact ⟨cs[j], cell_blk h1 j _ (Array.getElem?_eq_getElem (by omega))⟩
theorem Firsts.free {B k : Nat} {w0 w : World} (h : Firsts B w0 k w) (j : Nat) : w.frozen? ⟨B, j, none⟩ = false := by
  obtain ⟨cs, h1, _⟩ := h.blk
  exact free_blk h1 j
theorem Firsts.set {B k : Nat} {w0 w : World} (h : Firsts B w0 k w) (i : Nat) (v : Value) (hi : k ≤ i) : Firsts B w0 k (w.setCell ⟨B, i, none⟩ v) := by
  obtain ⟨cs, h1, h2, h3⟩ := h.blk
  refine ⟨⟨_, set_blk h1 i v, by simpa using h2, fun j hj => ?_⟩, h.bl.setCell (p := ⟨B, i, none⟩) h.lo v, h.lo⟩
  rw [Array.getElem?_setIfInBounds, if_neg (by omega)]
  exact h3 j hj
theorem Firsts.put {B k : Nat} {w0 w : World} (h : Firsts B w0 k w) (hk : k < 39) : Firsts B w0 (k + 1) (w.setCell ⟨B, k, none⟩ (.int .i64 (startV k))) := by
  obtain ⟨cs, h1, h2, h3⟩ := h.blk
  refine ⟨⟨_, set_blk h1 k _, by simpa using h2, fun j hj => ?_⟩, h.bl.setCell (p := ⟨B, k, none⟩) h.lo _, h.lo⟩
  rw [Array.getElem?_setIfInBounds]
  split
  · next e => subst e; rw [if_pos (by omega)]
  · exact h3 j (by omega)
theorem Firsts.new (w : World) : Firsts w.heap.size w 0 (w.alloc (.cells (madeCells #[.int .i64 0] 39) 3)) := by
  refine ⟨⟨madeCells #[.int .i64 0] 39, ?_, by kernel_rfl, fun j hj => absurd hj (by omega)⟩, chainAlloc (Below.refl _ _) _, Nat.le_refl _⟩
  show (Array.push w.heap _)[_]? = _
  rw [Array.getElem?_push, if_pos rfl]
/-- Beside the list: a node in a block of its own. -/
structure NodeIn (B X : Nat) (cs : Array Value) (w0 : World) (k : Nat) (w : World) : Prop where
  f : Firsts B w0 k w
  x : w.heap[X]? = some (.cells cs 39 (0, 0))
  ne : B < X
theorem NodeIn.below {B X k : Nat} {cs : Array Value} {w0 w w' : World} (h : NodeIn B X cs w0 k w) (hb : Below w.heap.size w w') : NodeIn B X cs w0 k w' :=
  ⟨h.f.below hb, (hb.block X (Array.getElem?_eq_some_iff.1 h.x).1).trans h.x, h.ne⟩
theorem NodeIn.drewN {B X k : Nat} {cs : Array Value} {w0 w : World} (h : NodeIn B X cs w0 k w) (n : Nat) : NodeIn B X cs w0 k (w.drewN n) := h.below (below_drewN (Below.refl _ _) n)
theorem NodeIn.set {B X k : Nat} {cs : Array Value} {w0 w : World} (h : NodeIn B X cs w0 k w) (i : Nat) (v : Value) (hi : k ≤ i) : NodeIn B X cs w0 k (w.setCell ⟨B, i, none⟩ v) :=
  ⟨h.f.set i v hi, set_other h.x (by have := h.ne; omega) i v, h.ne⟩
theorem NodeIn.put {B X k : Nat} {cs : Array Value} {w0 w : World} (h : NodeIn B X cs w0 k w) (hk : k < 39) : NodeIn B X cs w0 (k + 1) (w.setCell ⟨B, k, none⟩ (.int .i64 (startV k))) :=
  ⟨h.f.put hk, set_other h.x (by have := h.ne; omega) k _, h.ne⟩
theorem NodeIn.new {B k : Nat} {w0 w : World} (h : Firsts B w0 k w) (cs : List Value) : NodeIn B w.heap.size cs.toArray w0 k (w.alloc (.cells cs.toArray 39)) :=
  ⟨h.below (chainAlloc (Below.refl _ _) _), by
    show (Array.push w.heap _)[_]? = _
    rw [Array.getElem?_push, if_pos rfl], h.lt⟩
set_option maxRecDepth 100000 in
set_option maxHeartbeats 6400000 in
theorem validate_l (g c : Nat) (a : Nat → Nat) (w : World) (hN : NodesAt g a w) (hE : Env w) :
    Calls Tryz.prog 70 #[.slice (some ⟨g, 0, none⟩) 39 c] w fun e w' => e = .returned (.int .i64 0) ∧ Below w.heap.size w w' := by
  have HN := Lib.hid hN
  have HE := Lib.hid hE
  have HF := Lib.hid (Firsts.new w)
  have hmk : ∀ w : World, (Instr.makeSlice 37 (.int .i64 39) (.int .i64 39)).run Tryz.prog w = .ok (.slice (some ⟨w.heap.size, 0, none⟩) 39 39) (w.alloc (.cells (madeCells #[.int .i64 0] 39) 3)) := fun w => run_make_row' (P := Tryz.prog) 37 3 (.int .i64 0) 8 Tryz.underlying37 info3p rfl .i64 .i64 39 (by omega) (by omega) w
  clear hN hE
  go_enter Tryz.func70, Tryz.ntmps70
  go_wp2_with fail
  clear hmk
  go_loopw [21] (fun i wr => ∃ k : Nat, k ≤ 39 ∧ i = .int .i64 k ∧ Firsts w.heap.size w k wr) (fun i _ => 39 - (intOf i).toNat)
  case atStart => exact ⟨0, by omega, rfl, HF.out⟩
  case round =>
    clear HF
    obtain ⟨wo, rfl⟩ : ∃ wo : World, wo = wr := ⟨_, rfl⟩
    obtain ⟨k, hk, rfl, hF⟩ := hrel
    have HF := Lib.hid hF
    have HNr := Lib.hid (HN.out.below hF.bl)
    have hlB := hF.lt
    clear hF
    by_cases hlt : k < 39
    · cases hl : isLeaf k
      · have hl2 := (leaf_iff k).1 hl
        obtain ⟨c0, c1, c2, c3, c4, c5⟩ := HNr.out.min hlt hl
        have hlg := HNr.out.lt
        have HX := Lib.hid (NodeIn.new HF.out [.int .i64 8, .string ⟨#[]⟩, .bool false, .slice none 0 0, .slice none 0 0, .slice (some ⟨a k, 0, none⟩) 2 2])
        have HL := Lib.hid hl
        clear hl
        go_wp2_with fail
        refine (fields_min _ _ _ _).mono ?_
        rintro e w1 ⟨rfl, hb1⟩
        have HX1 := Lib.hid (HX.out.below hb1)
        have x0 : w1.cell? ⟨wo.heap.size, 0, none⟩ = some (.int .i64 8) := cell_blk HX1.out.x 0 _ rfl
        have x5 : w1.cell? ⟨wo.heap.size, 5, none⟩ = some (.slice (some ⟨a k, 0, none⟩) 2 2) := cell_blk HX1.out.x 5 _ rfl
        obtain ⟨u, hu⟩ := HX1.out.f.some hlt
        have y0 := HX1.out.f.free k
        have z0 := HX1.out.f.lt
        obtain ⟨k1, hk1⟩ : ∃ k1, k1 = k - 1 := ⟨_, rfl⟩
        obtain ⟨k2, hk2⟩ : ∃ k2, k2 = k - 2 := ⟨_, rfl⟩
        have e1 : (k : Int) - 1 = (k1 : Int) := by omega
        have e2 : (k1 : Int) - 1 = (k2 : Int) := by omega
        have hk1b : k1 ≤ 38 := by omega
        have hk2b : k2 ≤ 38 := by omega
        have HK1 := Lib.hid hk1
        have HK2 := Lib.hid hk2
        clear hb1 c0 c1 c2 c3 c4 c5 HX hk1 hk2
        go_wp2
        go_quiet ((go_at_call 126; exact Calls.quiet_of_same (flip_eq (arity_8 _))))
        go_wp2_with fail
        obtain ⟨W2, hW2⟩ : ∃ W, W = (w1.drewN nq).setCell ⟨w.heap.size, k, none⟩ (.int .i64 (k : Int)) := ⟨_, rfl⟩
        rw [← hW2]
        have HX2 : Hid (NodeIn w.heap.size wo.heap.size #[.int .i64 8, .string ⟨#[]⟩, .bool false, .slice none 0 0, .slice none 0 0, .slice (some ⟨a k, 0, none⟩) 2 2] w k W2) := Lib.hid (by
          rw [hW2]; exact (HX1.out.drewN nq).set k _ (Nat.le_refl _))
        clear hW2 x0 x5 hu y0 z0 HX1
        go_loopw [6, 7] (fun kv nv wx =>
          (kv = .int .i64 1 ∧ nv = .int .i64 (k1 : Int) ∧ NodeIn w.heap.size wo.heap.size #[.int .i64 8, .string ⟨#[]⟩, .bool false, .slice none 0 0, .slice none 0 0, .slice (some ⟨a k, 0, none⟩) 2 2] w k wx) ∨
          (kv = .int .i64 0 ∧ nv = .int .i64 (k2 : Int) ∧ NodeIn w.heap.size wo.heap.size #[.int .i64 8, .string ⟨#[]⟩, .bool false, .slice none 0 0, .slice none 0 0, .slice (some ⟨a k, 0, none⟩) 2 2] w k wx) ∨
          (kv = .int .i64 (-1) ∧ nv = .int .i64 (-1) ∧ NodeIn w.heap.size wo.heap.size #[.int .i64 8, .string ⟨#[]⟩, .bool false, .slice none 0 0, .slice none 0 0, .slice (some ⟨a k, 0, none⟩) 2 2] w (k + 1) wx)) (fun kv _ _ => (intOf kv + 1).toNat)
        case atStart => exact Or.inl ⟨rfl, rfl, HX2.out⟩
        case round =>
          clear HX2
          rcases hrel with ⟨rfl, rfl, hX⟩ | ⟨rfl, rfl, hX⟩ | ⟨rfl, rfl, hX⟩
          · have HX := Lib.hid hX
            have HA := Lib.hid (HN.out.below hX.f.bl)
            have x5 : wr.cell? ⟨wo.heap.size, 5, none⟩ = some (.slice (some ⟨a k, 0, none⟩) 2 2) := cell_blk hX.x 5 _ rfl
            have a1 : wr.cell? ⟨a k, 1, none⟩ = some (.int .i64 (k1 : Int)) := by have := HA.out.a1 k hlt HL.out; rwa [← HK1.out] at this
            have al := HA.out.al k hlt HL.out
            have f1 : wr.cell? ⟨w.heap.size, k1, none⟩ = some (.int .i64 (k1 : Int)) := by
              have := hX.f.cell (j := k1) (by have := HK1.out; omega)
              rwa [startV_odd (by have := HK1.out; omega)] at this
            obtain ⟨u, hu⟩ := hX.f.some hlt
            have y0 := hX.f.free k
            have z0 := hX.f.lt
            have zX := (Array.getElem?_eq_some_iff.1 hX.x).1
            clear hX
            go_wp2
            obtain ⟨W3, hW3⟩ : ∃ W, W = wr.setCell ⟨w.heap.size, k, none⟩ (.int .i64 (k1 : Int)) := ⟨_, rfl⟩
            rw [← hW3]
            have HX3 : Hid (NodeIn w.heap.size wo.heap.size #[.int .i64 8, .string ⟨#[]⟩, .bool false, .slice none 0 0, .slice none 0 0, .slice (some ⟨a k, 0, none⟩) 2 2] w k W3) := Lib.hid (by
              rw [hW3]; exact HX.out.set k _ (Nat.le_refl _))
            clear hW3 x5 a1 f1 hu y0 z0 HX
            go_roundw
            case rel => exact Or.inr (Or.inl ⟨by first | rfl | go_num, by first | rfl | go_num, HX3.out⟩)
            case measure => simp [intOf]
          · have HX := Lib.hid hX
            have HA := Lib.hid (HN.out.below hX.f.bl)
            have x5 : wr.cell? ⟨wo.heap.size, 5, none⟩ = some (.slice (some ⟨a k, 0, none⟩) 2 2) := cell_blk hX.x 5 _ rfl
            have a1 : wr.cell? ⟨a k, 0, none⟩ = some (.int .i64 (k2 : Int)) := by have := HA.out.a0 k hlt HL.out; rwa [← HK2.out] at this
            have al := HA.out.al k hlt HL.out
            have f1 : wr.cell? ⟨w.heap.size, k2, none⟩ = some (.int .i64 0) := by
              have := hX.f.cell (j := k2) (by have := HK2.out; omega)
              rwa [startV_even (by have := HK2.out; omega)] at this
            obtain ⟨u, hu⟩ := hX.f.some hlt
            have y0 := hX.f.free k
            have z0 := hX.f.lt
            have zX := (Array.getElem?_eq_some_iff.1 hX.x).1
            clear hX
            go_wp2
            obtain ⟨W3, hW3⟩ : ∃ W, W = wr.setCell ⟨w.heap.size, k, none⟩ (.int .i64 0) := ⟨_, rfl⟩
            rw [← hW3]
            have HX3 : Hid (NodeIn w.heap.size wo.heap.size #[.int .i64 8, .string ⟨#[]⟩, .bool false, .slice none 0 0, .slice none 0 0, .slice (some ⟨a k, 0, none⟩) 2 2] w (k + 1) W3) := Lib.hid (by
              have := HX.out.put hlt
              rw [startV_even hl2.2] at this
              rw [hW3]; exact this)
            clear hW3 x5 a1 f1 hu y0 z0 HX
            go_roundw
            case rel => exact Or.inr (Or.inr ⟨by first | rfl | go_num, by first | rfl | go_num, HX3.out⟩)
            case measure => simp [intOf]
          · have HX := Lib.hid hX
            clear hX
            go_wp2_with fail
            go_roundw
            case rel => exact ⟨k + 1, by omega, by go_num, HX.out.f⟩
            case measure => simp [intOf]; omega
      · obtain ⟨c0, c1, c2, c3, c4, c5⟩ := HNr.out.leaf hlt hl
        have hlg := HNr.out.lt
        have HX := Lib.hid (NodeIn.new HF.out [.int .i64 3, .string refB, .bool false, .slice none 0 0, .slice none 0 0, .slice none 0 0])
        have HE1 := Lib.hid (HE.out.below HX.out.f.bl)
        have HL := Lib.hid hl
        clear hl
        go_wp2_with fail
        refine (fields_leaf _ HE1.out).mono ?_
        rintro e w1 ⟨rfl, hb1⟩
        have HX1 := Lib.hid (HX.out.below hb1)
        have x0 : w1.cell? ⟨wo.heap.size, 0, none⟩ = some (.int .i64 3) := cell_blk HX1.out.x 0 _ rfl
        have x5 : w1.cell? ⟨wo.heap.size, 5, none⟩ = some (.slice none 0 0) := cell_blk HX1.out.x 5 _ rfl
        obtain ⟨u, hu⟩ := HX1.out.f.some hlt
        have y0 := HX1.out.f.free k
        have z0 := HX1.out.f.lt
        clear hb1 c0 c1 c2 c3 c4 c5 HX
        go_wp2
        go_quiet ((go_at_call 126; exact Calls.quiet_of_same (flip_eq (arity_3 _))))
        go_wp2_with fail
        obtain ⟨W2, hW2⟩ : ∃ W, W = (w1.drewN nq).setCell ⟨w.heap.size, k, none⟩ (.int .i64 (k : Int)) := ⟨_, rfl⟩
        rw [← hW2]
        have HX2 : Hid (Firsts w.heap.size w (k + 1) W2) := Lib.hid (by
          have := (HX1.out.drewN nq).f.put hlt
          rw [startV_leaf HL.out] at this
          rw [hW2]; exact this)
        clear hW2 x0 x5 hu y0 z0 HX1
        go_loopw [6, 7] (fun kv nv wx => kv = .int .i64 (-1) ∧ nv = .int .i64 ((k : Int) - 1) ∧ Firsts w.heap.size w (k + 1) wx) (fun _ _ _ => 0)
        case atStart => exact ⟨by first | rfl | go_num, rfl, HX2.out⟩
        case round =>
          clear HX2
          obtain ⟨rfl, rfl, hX⟩ := hrel
          have HX := Lib.hid hX
          clear hX
          go_wp2_with fail
          go_roundw
          case rel => exact ⟨k + 1, by omega, by go_num, HX.out⟩
          case measure => simp [intOf]; omega
    · obtain rfl : k = 39 := by omega
      have f1 : wo.cell? ⟨w.heap.size, 38, none⟩ = some (.int .i64 0) := HF.out.cell (j := 38) (by omega)
      go_wp2
      go_ret
      exact ⟨rfl, HF.out.bl⟩
end Go.Proofs.YtenjefbplpbjaaaGreatDoor
