/- Fraction, of the reference and of the generators, at small numbers. -/
import Derived.Test.YtkgkjoologjehaaGreatDoorR9
namespace Go.Proofs.YtkgkjoologjehaaGreatDoor
open Go.RowKit Go.Sort Cal Go.Maps
def RatPost (w : World) (e : Ending) (w' : World) : Prop :=
  ∃ q1 k1 c1 q2 k2 c2, e = .returned (.tuple #[.agg #[.bool false, .slice q1 k1 c1, .slice q2 k2 c2], .int .i64 0]) ∧ Below w.heap.size w w'
set_option maxRecDepth 100000 in
set_option maxHeartbeats 1600000 in
theorem rfraction_at (M N : Nat) (w : World) (hM : M < 4294967296) (h0 : 0 < N) (hN : N < 4294967296) :
    Calls Tryz.prog 48 #[.int .i64 M, .int .i64 N] w (RatPost w) := by
  have X := Box.new w [.bool false, .slice none 0 0, .slice none 0 0] 66
  have hz0 : (w.alloc (.cells #[.bool false, .slice none 0 0, .slice none 0 0] 66)).heap[w.heap.size]? = some (.cells #[.bool false, .slice none 0 0, .slice none 0 0] 66 (0, 0)) := by
    show (Array.push w.heap _)[_]? = _
    rw [Array.getElem?_push, if_pos rfl]
  have HX := Lib.hid X
  have HZ0 := Lib.hid hz0
  have hnz : ((N : Int) == 0) = false := by simp; omega
  have hn1 : decide ((M : Int) < 0) = false := by simp
  have hn2 : decide ((N : Int) < 0) = false := by simp
  clear X hz0
  go_enter Tryz.func48, Tryz.ntmps48
  go_wp2_with fail
  refine (whole_at M _ hM).mono ?_
  rintro e w1 ⟨a, rfl, ha, hb1⟩
  have HA := Lib.hid ha.limb
  have HB1 := Lib.hid hb1
  clear ha hb1
  go_wp2_with fail
  refine (whole_at N _ hN).mono ?_
  rintro e w2 ⟨b, rfl, hb, hb2⟩
  have HA2 := Lib.hid (HA.out.below hb2)
  have HB := Lib.hid hb.limb
  have HB2 := Lib.hid hb2
  clear hb hb2
  go_wp2_with fail
  refine (made_at _ _ M N _ HA2.out HB.out hM h0 hN).mono ?_
  rintro e w3 ⟨q1, k1, c1, q2, k2, c2, rfl, hb3⟩
  have hb13 := HB1.out.trans ((chain0 HB2.out hb3).mono HB1.out.size)
  have hz3 := (hb13.block _ HX.out.sz).trans HZ0.out
  have HZ3 := Lib.hid hz3
  have HB3 := Lib.hid (chain0 HX.out.bl hb13)
  have hsz := (Array.getElem?_eq_some_iff.1 hz3).1
  have z0 : w3.cell? ⟨w.heap.size, 0, none⟩ = some (.bool false) := cell_blk hz3 0 _ rfl
  have z1 : w3.cell? ⟨w.heap.size, 1, none⟩ = some (.slice none 0 0) := cell_blk hz3 1 _ rfl
  have z2 : w3.cell? ⟨w.heap.size, 2, none⟩ = some (.slice none 0 0) := cell_blk hz3 2 _ rfl
  have y0 : w3.frozen? ⟨w.heap.size, 0, none⟩ = false := free_blk hz3 0
  have y1 : w3.frozen? ⟨w.heap.size, 1, none⟩ = false := free_blk hz3 1
  have y2 : w3.frozen? ⟨w.heap.size, 2, none⟩ = false := free_blk hz3 2
  clear hb3 hb13 hz3
  go_wp2
  obtain ⟨wf, hwf⟩ : ∃ wf, wf = (((w3.setCell ⟨w.heap.size, 0, none⟩ (.bool false)).setCell ⟨w.heap.size, 1, none⟩ (.slice q1 k1 c1)).setCell ⟨w.heap.size, 2, none⟩ (.slice q2 k2 c2)) := ⟨_, rfl⟩
  rw [← hwf]
  obtain ⟨hf, hbf⟩ := ratio_fin HZ3.out HB3.out _ _ wf hwf
  have a0 := cell_blk hf 0 (.bool false) rfl
  have a1 := cell_blk hf 1 (.slice q1 k1 c1) rfl
  have a2 := cell_blk hf 2 (.slice q2 k2 c2) rfl
  clear hwf
  exact bodyPost_ret (v := .tuple #[.agg #[.bool false, .slice q1 k1 c1, .slice q2 k2 c2], .int .i64 0]) (by simp [results, Tryz.results48, go_sem, a0, a1, a2]) rfl ⟨_, _, _, _, _, _, rfl, hbf⟩
set_option maxRecDepth 100000 in
set_option maxHeartbeats 1600000 in
theorem fraction_at (M N : Nat) (w : World) (hM : M < 4294967296) (h0 : 0 < N) (hN : N < 4294967296) :
    Calls Tryz.prog 27 #[.int .i64 M, .int .i64 N] w (RatioPost w) := by
  have X := Box.new w [.bool false, .slice none 0 0, .slice none 0 0] 66
  have hz0 : (w.alloc (.cells #[.bool false, .slice none 0 0, .slice none 0 0] 66)).heap[w.heap.size]? = some (.cells #[.bool false, .slice none 0 0, .slice none 0 0] 66 (0, 0)) := by
    show (Array.push w.heap _)[_]? = _
    rw [Array.getElem?_push, if_pos rfl]
  have HX := Lib.hid X
  have HZ0 := Lib.hid hz0
  clear X hz0
  go_enter Tryz.func27, Tryz.ntmps27
  go_wp2_with fail
  refine (rfraction_at M N _ hM h0 hN).mono ?_
  rintro e w3 ⟨q1, k1, c1, q2, k2, c2, rfl, hb3⟩
  have hz3 := (hb3.block _ HX.out.sz).trans HZ0.out
  have HZ3 := Lib.hid hz3
  have HB3 := Lib.hid (chain0 HX.out.bl hb3)
  have hsz := (Array.getElem?_eq_some_iff.1 hz3).1
  have z0 : w3.cell? ⟨w.heap.size, 0, none⟩ = some (.bool false) := cell_blk hz3 0 _ rfl
  have z1 : w3.cell? ⟨w.heap.size, 1, none⟩ = some (.slice none 0 0) := cell_blk hz3 1 _ rfl
  have z2 : w3.cell? ⟨w.heap.size, 2, none⟩ = some (.slice none 0 0) := cell_blk hz3 2 _ rfl
  have y0 : w3.frozen? ⟨w.heap.size, 0, none⟩ = false := free_blk hz3 0
  have y1 : w3.frozen? ⟨w.heap.size, 1, none⟩ = false := free_blk hz3 1
  have y2 : w3.frozen? ⟨w.heap.size, 2, none⟩ = false := free_blk hz3 2
  have hne : ¬ w.heap.size = w3.heap.size := by omega
  clear hb3 hz3
  go_wp2
  obtain ⟨wf, hwf⟩ : ∃ wf, wf = (((w3.setCell ⟨w.heap.size, 0, none⟩ (.bool false)).setCell ⟨w.heap.size, 1, none⟩ (.slice q1 k1 c1)).setCell ⟨w.heap.size, 2, none⟩ (.slice q2 k2 c2)) := ⟨_, rfl⟩
  rw [← hwf]
  obtain ⟨hf, hbf⟩ := ratio_fin HZ3.out HB3.out _ _ wf hwf
  have hf2 := (((Below.refl wf.heap.size wf).alloc (Nat.le_refl _) (.cells #[.bool false, .slice q1 k1 c1, .slice q2 k2 c2] 66)).block _ (Array.getElem?_eq_some_iff.1 hf).1).trans hf
  have a0 := cell_blk hf2 0 (.bool false) rfl
  have a1 := cell_blk hf2 1 (.slice q1 k1 c1) rfl
  have a2 := cell_blk hf2 2 (.slice q2 k2 c2) rfl
  clear hwf
  exact bodyPost_ret (v := .agg #[.bool false, .slice q1 k1 c1, .slice q2 k2 c2]) (by simp [results, Tryz.results27, go_sem, a0, a1, a2]) rfl ⟨_, _, _, _, _, _, rfl, chainAlloc hbf _⟩
end Go.Proofs.YtkgkjoologjehaaGreatDoor
