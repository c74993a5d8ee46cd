/- The walk of the program's Format at the long plan's expression. -/
import Derived.Test.YtenjefbplpbjaaaGreatDoorZ4
namespace Go.Proofs.YtenjefbplpbjaaaGreatDoor
open Go.RowKit Go.Sort Cal Go.Maps
/-- The two new blocks of Format: the texts, and the variable that holds them. -/
theorem texts_new {g c : Nat} {w w1 : World} (hb : Box w.heap.size w [.slice (some ⟨g, 0, none⟩) 39 c] w1) (hx : w1.heap[w.heap.size]? = some (.cells #[.slice (some ⟨g, 0, none⟩) 39 c] 40 (0, 0))) :
    TextsIn w.heap.size w1.heap.size g c w 0 ((w1.alloc (.cells (madeCells #[.string ⟨#[]⟩] 39) 9)).alloc (.cells #[.slice (some ⟨w1.heap.size, 0, none⟩) 39 39] 54)) := by
  have hsz := hb.sz
  refine ⟨⟨madeCells #[.string ⟨#[]⟩] 39, ?_, by kernel_rfl, fun j hj => absurd hj (by omega)⟩, ?_, ?_, chainAlloc (chainAlloc hb.bl _) _, Nat.le_refl _, hsz⟩
  · show (Array.push (Array.push w1.heap _) _)[_]? = _
    rw [Array.getElem?_push, if_neg (by simp), Array.getElem?_push, if_pos rfl]
  · show (Array.push (Array.push w1.heap _) _)[_]? = _
    rw [Array.getElem?_push, if_neg (by simp; omega), Array.getElem?_push, if_neg (by omega)]
    exact hx
  · show (Array.push (Array.push w1.heap _) _)[_]? = _
    rw [Array.getElem?_push, if_pos (by simp)]
set_option maxRecDepth 100000 in
set_option maxHeartbeats 6400000 in
theorem format_l (g c : Nat) (a : Nat → Nat) (w : World) (hN : NodesAt g a w) (hE : Env w) :
    Calls Tryz.prog 50 #[.slice (some ⟨g, 0, none⟩) 39 c] w fun e w' => e = .returned (.tuple #[.string (minT 19), .int .i64 0]) ∧ Below w.heap.size w w' := by
  have HN := Lib.hid hN
  have HE := Lib.hid hE
  have HB := Lib.hid (Box.new w [.slice (some ⟨g, 0, none⟩) 39 c] 40)
  have hx0 : (w.alloc (.cells #[.slice (some ⟨g, 0, none⟩) 39 c] 40)).heap[w.heap.size]? = some (.cells #[.slice (some ⟨g, 0, none⟩) 39 c] 40 (0, 0)) := by
    show (Array.push w.heap _)[_]? = _
    rw [Array.getElem?_push, if_pos rfl]
  have HX0 := Lib.hid hx0
  have hmk : ∀ w : World, (Instr.makeSlice 54 (.int .i64 39) (.int .i64 39)).run Tryz.prog w = .ok (.slice (some ⟨w.heap.size, 0, none⟩) 39 39) (w.alloc (.cells (madeCells #[.string ⟨#[]⟩] 39) 9)) := fun w => run_make_row' (P := Tryz.prog) 54 9 (.string ⟨#[]⟩) 16 Tryz.underlying54 info9p rfl .i64 .i64 39 (by omega) (by omega) w
  clear hN hE hx0
  go_enter Tryz.func50, Tryz.ntmps50
  go_wp2_with fail
  refine (validate_l g c a _ (HN.out.below HB.out.bl) (HE.out.below HB.out.bl)).mono ?_
  rintro e w1 ⟨rfl, hb1⟩
  have HB1 := Lib.hid (HB.out.step hb1)
  have hx1 := (hb1.block _ (Array.getElem?_eq_some_iff.1 HX0.out).1).trans HX0.out
  have b0 : w1.cell? ⟨w.heap.size, 0, none⟩ = some (.slice (some ⟨g, 0, none⟩) 39 c) := cell_blk hx1 0 _ rfl
  have HT := Lib.hid (texts_new HB1.out hx1)
  have hz1 := HB1.out.sz
  clear hb1 hx1 HX0 HB
  go_wp2_with fail
  clear hmk b0
  go_loopw [20] (fun i wr => ∃ k : Nat, k ≤ 39 ∧ i = .int .i64 k ∧ TextsIn w.heap.size w1.heap.size g c w k wr) (fun i _ => 39 - (intOf i).toNat)
  case atStart => exact ⟨0, by omega, rfl, HT.out⟩
  case round =>
    clear HT
    obtain ⟨k, hk, rfl, hT⟩ := hrel
    have HT := Lib.hid hT
    have HNr := Lib.hid (HN.out.below hT.bl)
    have v0 : wr.cell? ⟨w1.heap.size + 1, 0, none⟩ = some (.slice (some ⟨w1.heap.size, 0, none⟩) 39 39) := cell_blk hT.var 0 _ rfl
    have b0 : wr.cell? ⟨w.heap.size, 0, none⟩ = some (.slice (some ⟨g, 0, none⟩) 39 c) := cell_blk hT.box 0 _ rfl
    have y0 := hT.free k
    have zT := hT.lt
    have zT0 : w1.heap.size < wr.heap.size := by omega
    have zB0 : w.heap.size < wr.heap.size := by omega
    have zg := HNr.out.lt
    by_cases hlt : k < 39
    · obtain ⟨u, hu⟩ := hT.has hlt
      clear hT b0
      cases hl : isLeaf k
      · obtain ⟨c0, c1, c2, c3, c4, c5⟩ := HNr.out.min hlt hl
        have hli := (leaf_iff k).1 hl
        obtain ⟨wo, rfl⟩ : ∃ wo : World, wo = wr := ⟨_, rfl⟩
        have HTW := Lib.hid (HT.out.below (chainAlloc (Below.refl _ _) (.cells #[.int .i64 8, .string ⟨#[]⟩, .bool false, .slice none 0 0, .slice none 0 0, .slice (some ⟨a k, 0, none⟩) 2 2] 39)))
        have HNW := Lib.hid (HNr.out.below (chainAlloc (Below.refl _ _) (.cells #[.int .i64 8, .string ⟨#[]⟩, .bool false, .slice none 0 0, .slice none 0 0, .slice (some ⟨a k, 0, none⟩) 2 2] 39)))
        obtain ⟨s0, hs0⟩ : ∃ x, x = nodeT (k - 2) := ⟨_, rfl⟩
        obtain ⟨s1, hs1⟩ : ∃ x, x = nodeT (k - 1) := ⟨_, rfl⟩
        have z0 : s0.size ≤ 1000 := by rw [hs0]; exact nodeT_size _ (by omega)
        have z1 : s1.size ≤ 1000 := by rw [hs1]; exact nodeT_size _ (by omega)
        have HM : Hid (nodeT k = (((⟨#[109, 105, 110, 40]⟩ : ByteArray) ++ s0) ++ ⟨#[44, 32]⟩) ++ s1 ++ ⟨#[41]⟩) := Lib.hid (by rw [hs0, hs1]; exact nodeT_min k hli.2 hli.1)
        have hz : ∀ a b : ByteArray, (a ++ b).size = a.size + b.size := fun a b => ByteArray.size_append
        have y4 : (⟨#[109, 105, 110, 40]⟩ : ByteArray).size = 4 := rfl
        have y2 : (⟨#[44, 32]⟩ : ByteArray).size = 2 := rfl
        have y1 : (⟨#[41]⟩ : ByteArray).size = 1 := rfl
        have q1 : ¬ 9223372036854775807 < 4 + s0.size := by omega
        have q2 : ¬ 9223372036854775807 < 4 + s0.size + 2 := by omega
        have q3 : ¬ 9223372036854775807 < 4 + s0.size + 2 + s1.size := by omega
        have q4 : ¬ 9223372036854775807 < 4 + s0.size + 2 + s1.size + 1 := by omega
        have HL := Lib.hid hl
        have HS0 := Lib.hid hs0
        have HS1 := Lib.hid hs1
        clear hl hs0 hs1
        go_wp2_with fail
        obtain ⟨W, hW⟩ : ∃ W, W = wo.alloc (.cells #[.int .i64 8, .string ⟨#[]⟩, .bool false, .slice none 0 0, .slice none 0 0, .slice (some ⟨a k, 0, none⟩) 2 2] 39) := ⟨_, rfl⟩
        rw [← hW] at HTW HNW ⊢
        have A0 : Hid (∀ W', Below W.heap.size W W' → Calls Tryz.prog 98 #[.int .i64 (k : Int), .int .i64 0, .pointer (some ⟨w1.heap.size + 1, 0, none⟩), .pointer (some ⟨w.heap.size, 0, none⟩)] W' fun e w' => e = .returned (.string s0) ∧ ∃ n, w' = W'.drewN n) := Lib.hid (fun W' hb => by
          rw [HS0.out]; exact arg_0 w.heap.size w1.heap.size g c a w k _ W' (HTW.out.below hb) (HNW.out.below hb) hlt HL.out rfl)
        have A1 : Hid (∀ W', Below W.heap.size W W' → Calls Tryz.prog 98 #[.int .i64 (k : Int), .int .i64 1, .pointer (some ⟨w1.heap.size + 1, 0, none⟩), .pointer (some ⟨w.heap.size, 0, none⟩)] W' fun e w' => e = .returned (.string s1) ∧ ∃ n, w' = W'.drewN n) := Lib.hid (fun W' hb => by
          rw [HS1.out]; exact arg_1 w.heap.size w1.heap.size g c a w k _ W' (HTW.out.below hb) (HNW.out.below hb) hlt HL.out rfl)
        have v1 : W.cell? ⟨w1.heap.size + 1, 0, none⟩ = some (.slice (some ⟨w1.heap.size, 0, none⟩) 39 39) := cell_blk HTW.out.var 0 _ rfl
        obtain ⟨u1, hu1⟩ := HTW.out.has hlt
        have yW := HTW.out.free k
        have zW := HTW.out.lt
        have zW0 : w1.heap.size < W.heap.size := by omega
        clear hW c0 c1 c2 c3 c4 c5 v0 hu y0
        go_region_held3 (fun w' => w'.cell? ⟨w1.heap.size + 1, 0, none⟩ = some (.slice (some ⟨w1.heap.size, 0, none⟩) 39 39)) (first | assumption | go_keep)
          (first
            | (go_at_call 98; ((with_reducible refine (A0.out _ (by first | exact (Below.refl _ _).drew | exact below_drewN ((Below.refl _ _).drew) _ | exact below_drewN (Below.refl _ _) _)).mono ?_); rintro e w6 ⟨rfl, n6, rfl⟩))
            | (go_at_call 98; ((with_reducible refine (A1.out _ (by first | exact (Below.refl _ _).drew | exact below_drewN ((Below.refl _ _).drew) _ | exact below_drewN (Below.refl _ _) _)).mono ?_); rintro e w6 ⟨rfl, n6, rfl⟩)))
        all_goals
          rw [← HM.out]
          go_wp2_with fail
          go_roundw
          case rel => exact ⟨k + 1, by omega, by go_num, (HTW.out.below (below_drewN (Below.refl _ _) _)).put hlt⟩
          case measure => simp [intOf]; omega
      · obtain ⟨c0, c1, c2, c3, c4, c5⟩ := HNr.out.leaf hlt hl
        have HT1 : Hid (∀ o : Obj, TextsIn w.heap.size w1.heap.size g c w (k + 1) ((wr.setCell ⟨w1.heap.size, k, none⟩ (.string quoB)).alloc o)) := Lib.hid (fun o => by
          have h := (HT.out.put hlt).below (chainAlloc (Below.refl _ _) o)
          have e : nodeT k = quoB := by
            unfold isLeaf at hl
            simp at hl
            rcases hl with rfl | h1
            · rfl
            · exact nodeT_odd k h1
          rw [e] at h; exact h)
        have HQ := Lib.hid quo_eq
        have hrs : refB.size = 39 := rfl
        have hsz : ∀ a b : ByteArray, (a ++ b).size = a.size + b.size := fun a b => ByteArray.size_append
        clear hl HT
        go_wp2_with fail
        rw [HQ.out]
        have HT2 := Lib.hid (HT1.out (.cells #[.int .i64 3, .string refB, .bool false, .slice none 0 0, .slice none 0 0, .slice none 0 0] 39))
        obtain ⟨W2, hW2⟩ : ∃ W, W = (wr.setCell ⟨w1.heap.size, k, none⟩ (.string quoB)).alloc (.cells #[.int .i64 3, .string refB, .bool false, .slice none 0 0, .slice none 0 0, .slice none 0 0] 39) := ⟨_, rfl⟩
        rw [← hW2] at HT2 ⊢
        clear hW2 HT1 c0 c1 c2 c3 c4 c5
        go_roundw
        case rel => exact ⟨k + 1, by omega, by go_num, HT2.out⟩
        case measure => simp [intOf]; omega
    · obtain rfl : k = 39 := by omega
      have t0 : wr.cell? ⟨w1.heap.size, 38, none⟩ = some (.string (minT 19)) := hT.cell (j := 38) (by omega)
      clear hT y0
      go_wp2
      go_ret2
      exact ⟨rfl, HT.out.bl⟩
end Go.Proofs.YtenjefbplpbjaaaGreatDoor
