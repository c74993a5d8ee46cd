/- Contracts of Parse at the small plan's text, and of the law's awake. -/
import Derived.Test.YtenjefbplpbjaaaGreatDoorQ11
namespace Go.Proofs.YtenjefbplpbjaaaGreatDoor
open Go.RowKit Go.Sort Cal Go.Maps
theorem small_eq : (⟨#[100, 105, 103, 105, 116, 115, 32, 49, 10, 114, 117, 108, 101, 32, 97, 108, 108, 32, 106, 101, 118, 111, 110, 115, 10, 105, 109, 112, 117, 116, 101, 32, 97, 108, 108, 32, 99, 108, 97, 115, 115, 32, 50, 44, 32, 99, 97, 114, 114, 121, 32, 51, 44, 32, 100, 114, 111, 112, 10]⟩ : ByteArray) = smallB := rfl
/-- A block of a plan is filled. -/
theorem parse_fin {w : World} {b g1 c1 g2 c2 g3 c3 : Nat} (hb : w.heap[b]? = some (.cells #[.int .i64 0, .slice none 0 0, .slice none 0 0, .slice none 0 0, .slice none 0 0, .slice none 0 0] 28 (0, 0))) (hp : PlanAt g1 g2 g3 c3 w) :
    ∀ wf, wf = (((((w.setCell ⟨b, 0, none⟩ (.int .i64 1)).setCell ⟨b, 1, none⟩ (.slice (some ⟨g1, 0, none⟩) 1 c1)).setCell ⟨b, 2, none⟩ (.slice (some ⟨g2, 0, none⟩) 1 c2)).setCell ⟨b, 3, none⟩ (.slice none 0 0)).setCell ⟨b, 4, none⟩ (.slice none 0 0)).setCell ⟨b, 5, none⟩ (.slice none 0 0) →
      wf.heap[b]? = some (.cells #[.int .i64 1, .slice (some ⟨g1, 0, none⟩) 1 c1, .slice (some ⟨g2, 0, none⟩) 1 c2, .slice none 0 0, .slice none 0 0, .slice none 0 0] 28 (0, 0)) ∧ Touch b w wf ∧ PlanAt g1 g2 g3 c3 wf := by
  intro wf hwf
  have hfin := (set_blk (set_blk (set_blk (set_blk (set_blk (set_blk hb 0 (.int .i64 1)) 1 (.slice (some ⟨g1, 0, none⟩) 1 c1)) 2 (.slice (some ⟨g2, 0, none⟩) 1 c2)) 3 (.slice none 0 0)) 4 (.slice none 0 0)) 5 (.slice none 0 0))
  have ht := (((((((Touch.refl b w).set 0 (.int .i64 1)).set 1 (.slice (some ⟨g1, 0, none⟩) 1 c1)).set 2 (.slice (some ⟨g2, 0, none⟩) 1 c2)).set 3 (.slice none 0 0)).set 4 (.slice none 0 0)).set 5 (.slice none 0 0))
  rw [← hwf] at hfin ht
  have b0 : w.cell? ⟨b, 0, none⟩ = some (.int .i64 0) := cell_blk hb 0 _ rfl
  have b1 : w.cell? ⟨b, 1, none⟩ = some (.slice none 0 0) := cell_blk hb 1 _ rfl
  have n1 : g1 ≠ b := fun e => by have := hp.r0; rw [e, b0] at this; cases this
  have n2 : g2 ≠ b := fun e => by have := hp.c0; rw [e, b0] at this; cases this
  have n3 : g3 ≠ b := fun e => by have := hp.s1; rw [e, b1] at this; cases this
  have k1 : ∀ j, wf.cell? ⟨g1, j, none⟩ = w.cell? ⟨g1, j, none⟩ := fun j => World.cell?_of_block (w := w) (w' := wf) (a := ⟨g1, j, none⟩) (ht.block _ hp.l1 n1)
  have k2 : ∀ j, wf.cell? ⟨g2, j, none⟩ = w.cell? ⟨g2, j, none⟩ := fun j => World.cell?_of_block (w := w) (w' := wf) (a := ⟨g2, j, none⟩) (ht.block _ hp.l2 n2)
  have k3 : ∀ j, wf.cell? ⟨g3, j, none⟩ = w.cell? ⟨g3, j, none⟩ := fun j => World.cell?_of_block (w := w) (w' := wf) (a := ⟨g3, j, none⟩) (ht.block _ hp.l3 n3)
  exact ⟨by simpa using hfin, ht, ⟨Nat.lt_of_lt_of_le hp.l1 ht.size, Nat.lt_of_lt_of_le hp.l2 ht.size, Nat.lt_of_lt_of_le hp.l3 ht.size, hp.k3, (k1 0).trans hp.r0, (k1 1).trans hp.r1, (k1 2).trans hp.r2, (k1 3).trans hp.r3, (k2 0).trans hp.c0, (k2 1).trans hp.c1, (k3 0).trans hp.s0, (k3 1).trans hp.s1, (k3 2).trans hp.s2, (k3 3).trans hp.s3, (k3 4).trans hp.s4, (k3 5).trans hp.s5⟩⟩
set_option maxRecDepth 100000 in
set_option maxHeartbeats 3200000 in
theorem parse_at (s : ByteArray) (hs : s = smallB) (w : World) (hE : Env w) :
    Calls Tryz.prog 9 #[.string s] w (PlanGiven (.int .i64 0) w) := by
  have HE := Lib.hid hE
  have HS := Lib.hid hs
  have HB := Lib.hid (Box.new w [.int .i64 0, .slice none 0 0, .slice none 0 0, .slice none 0 0, .slice none 0 0, .slice none 0 0] 28)
  have hsz : s.size = 59 := by rw [hs]; kernel_rfl
  clear hE hs
  go_enter Tryz.func9, Tryz.ntmps9
  go_wp2_with fail
  refine ((show Calls Tryz.prog 23 #[.string s] (w.alloc (.cells #[.int .i64 0, .slice none 0 0, .slice none 0 0, .slice none 0 0, .slice none 0 0, .slice none 0 0] 28)) (PlanGiven (.bool true) (w.alloc (.cells #[.int .i64 0, .slice none 0 0, .slice none 0 0, .slice none 0 0, .slice none 0 0, .slice none 0 0] 28))) by rw [HS.out, ← small_eq]; exact read_at _ (HE.out.below HB.out.bl))).mono ?_
  rintro e w1 ⟨⟨g1, c1, g2, c2, g3, c3, rfl, hP⟩, hb1⟩
  have hk1 : w1.heap[w.heap.size]? = some (.cells #[.int .i64 0, .slice none 0 0, .slice none 0 0, .slice none 0 0, .slice none 0 0, .slice none 0 0] 28 (0, 0)) := by
    refine (hb1.block _ (by simp)).trans ?_
    show (Array.push w.heap _)[_]? = _
    rw [Array.getElem?_push, if_pos rfl]
  have HK1 := Lib.hid hk1
  have HB1 := Lib.hid (chain0 HB.out.bl hb1)
  have HP1 := Lib.hid hP
  have HX := Lib.hid (Box.new w1 [.int .i64 1, .slice (some ⟨g1, 0, none⟩) 1 c1, .slice (some ⟨g2, 0, none⟩) 1 c2, .slice none 0 0, .slice none 0 0, .slice none 0 0] 28)
  clear hb1 hP hk1
  unfold planV
  go_wp2_with fail
  refine (format_at g1 c1 g2 c2 g3 c3 _ (HP1.out.below HX.out.bl)).mono ?_
  rintro e w2 ⟨rfl, hb2⟩
  rw [← HS.out]
  have HX2 := Lib.hid (HX.out.step hb2)
  have HB2 := Lib.hid (chain0 HB1.out HX2.out.bl)
  have HP2 := Lib.hid (HP1.out.below HX2.out.bl)
  have hk2 := (HX2.out.bl.block _ (Array.getElem?_eq_some_iff.1 HK1.out).1).trans HK1.out
  have HK2 := Lib.hid hk2
  have e0 : w2.cell? ⟨w1.heap.size, 0, none⟩ = some (.int .i64 1) := HX2.out.c 0 _ rfl
  have e1 : w2.cell? ⟨w1.heap.size, 1, none⟩ = some (.slice (some ⟨g1, 0, none⟩) 1 c1) := HX2.out.c 1 _ rfl
  have e2 : w2.cell? ⟨w1.heap.size, 2, none⟩ = some (.slice (some ⟨g2, 0, none⟩) 1 c2) := HX2.out.c 2 _ rfl
  have e3 : w2.cell? ⟨w1.heap.size, 3, none⟩ = some (.slice none 0 0) := HX2.out.c 3 _ rfl
  have e4 : w2.cell? ⟨w1.heap.size, 4, none⟩ = some (.slice none 0 0) := HX2.out.c 4 _ rfl
  have e5 : w2.cell? ⟨w1.heap.size, 5, none⟩ = some (.slice none 0 0) := HX2.out.c 5 _ rfl
  have d0 : w2.cell? ⟨w.heap.size, 0, none⟩ = some (.int .i64 0) := cell_blk hk2 0 _ rfl
  have d1 : w2.cell? ⟨w.heap.size, 1, none⟩ = some (.slice none 0 0) := cell_blk hk2 1 _ rfl
  have d2 : w2.cell? ⟨w.heap.size, 2, none⟩ = some (.slice none 0 0) := cell_blk hk2 2 _ rfl
  have d3 : w2.cell? ⟨w.heap.size, 3, none⟩ = some (.slice none 0 0) := cell_blk hk2 3 _ rfl
  have d4 : w2.cell? ⟨w.heap.size, 4, none⟩ = some (.slice none 0 0) := cell_blk hk2 4 _ rfl
  have d5 : w2.cell? ⟨w.heap.size, 5, none⟩ = some (.slice none 0 0) := cell_blk hk2 5 _ rfl
  have f0 : w2.frozen? ⟨w.heap.size, 0, none⟩ = false := free_blk hk2 0
  have f1 : w2.frozen? ⟨w.heap.size, 1, none⟩ = false := free_blk hk2 1
  have f2 : w2.frozen? ⟨w.heap.size, 2, none⟩ = false := free_blk hk2 2
  have f3 : w2.frozen? ⟨w.heap.size, 3, none⟩ = false := free_blk hk2 3
  have f4 : w2.frozen? ⟨w.heap.size, 4, none⟩ = false := free_blk hk2 4
  have f5 : w2.frozen? ⟨w.heap.size, 5, none⟩ = false := free_blk hk2 5
  have g0 : w.heap.size < w2.heap.size := (Array.getElem?_eq_some_iff.1 hk2).1
  clear hk2 hb2
  go_wp2
  obtain ⟨wf, hwf⟩ : ∃ wf, wf = (((((w2.setCell ⟨w.heap.size, 0, none⟩ (.int .i64 1)).setCell ⟨w.heap.size, 1, none⟩ (.slice (some ⟨g1, 0, none⟩) 1 c1)).setCell ⟨w.heap.size, 2, none⟩ (.slice (some ⟨g2, 0, none⟩) 1 c2)).setCell ⟨w.heap.size, 3, none⟩ (.slice none 0 0)).setCell ⟨w.heap.size, 4, none⟩ (.slice none 0 0)).setCell ⟨w.heap.size, 5, none⟩ (.slice none 0 0) := ⟨_, rfl⟩
  rw [← hwf]
  obtain ⟨hfin, ht, HPF⟩ := parse_fin HK2.out HP2.out wf hwf
  have a0 := cell_blk hfin 0 (.int .i64 1) rfl
  have a1 := cell_blk hfin 1 (.slice (some ⟨g1, 0, none⟩) 1 c1) rfl
  have a2 := cell_blk hfin 2 (.slice (some ⟨g2, 0, none⟩) 1 c2) rfl
  have a3 := cell_blk hfin 3 (.slice none 0 0) rfl
  have a4 := cell_blk hfin 4 (.slice none 0 0) rfl
  have a5 := cell_blk hfin 5 (.slice none 0 0) rfl
  have HPG : Hid (PlanGiven (.int .i64 0) w (.returned (.tuple #[.agg #[.int .i64 1, .slice (some ⟨g1, 0, none⟩) 1 c1, .slice (some ⟨g2, 0, none⟩) 1 c2, .slice none 0 0, .slice none 0 0, .slice none 0 0], .int .i64 0])) wf) := Lib.hid ⟨⟨g1, c1, g2, c2, g3, c3, rfl, HPF⟩, HB2.out.trans (ht.below (Nat.le_of_lt g0))⟩
  clear hwf hfin ht HPF
  exact bodyPost_ret (v := .tuple #[.agg #[.int .i64 1, .slice (some ⟨g1, 0, none⟩) 1 c1, .slice (some ⟨g2, 0, none⟩) 1 c2, .slice none 0 0, .slice none 0 0, .slice none 0 0], .int .i64 0]) (by simp [results, Tryz.results9, go_sem, a0, a1, a2, a3, a4, a5]) rfl HPG.out
set_option maxRecDepth 100000 in
set_option maxHeartbeats 3200000 in
theorem awake_at (w : World) (hE : Env w) :
    Calls Tryz.prog 12 #[] w fun e w' => e = .returned (.bool true) ∧ Below w.heap.size w w' := by
  have HE := Lib.hid hE
  clear hE
  go_enter Tryz.func12, Tryz.ntmps12
  go_wp2_with fail
  refine (parse_at _ small_eq _ HE.out).mono ?_
  rintro e w1 ⟨⟨g1, c1, g2, c2, g3, c3, rfl, hP⟩, hb1⟩
  have HB1 := Lib.hid hb1
  have HP1 := Lib.hid hP
  have HX := Lib.hid (Box.new w1 [.int .i64 1, .slice (some ⟨g1, 0, none⟩) 1 c1, .slice (some ⟨g2, 0, none⟩) 1 c2, .slice none 0 0, .slice none 0 0, .slice none 0 0] 28)
  clear hb1 hP
  unfold planV
  go_wp2_with fail
  refine (format_at g1 c1 g2 c2 g3 c3 _ (HP1.out.below HX.out.bl)).mono ?_
  rintro e w2 ⟨rfl, hb2⟩
  have HX2 := Lib.hid (HX.out.step hb2)
  have HP2 := HP1.out.below HX2.out.bl
  have hcmp : smallB.toList = [100, 105, 103, 105, 116, 115, 32, 49, 10, 114, 117, 108, 101, 32, 97, 108, 108, 32, 106, 101, 118, 111, 110, 115, 10, 105, 109, 112, 117, 116, 101, 32, 97, 108, 108, 32, 99, 108, 97, 115, 115, 32, 50, 44, 32, 99, 97, 114, 114, 121, 32, 51, 44, 32, 100, 114, 111, 112, 10] := by rw [ByteArray.toList_eq]; rfl
  have e2 : w2.cell? ⟨w1.heap.size, 2, none⟩ = some (.slice (some ⟨g2, 0, none⟩) 1 c2) := HX2.out.c 2 _ rfl
  have e3 : w2.cell? ⟨g2, 1, none⟩ = some (.slice (some ⟨g3, 0, none⟩) 3 c3) := HP2.c1
  have HB2 := Lib.hid (chain0 HB1.out HX2.out.bl)
  have l2 := HP2.l2
  have l3 := HP2.l3
  clear hb2 HP2
  go_wp2
  go_ret
  exact ⟨rfl, HB2.out⟩
end Go.Proofs.YtenjefbplpbjaaaGreatDoor
