/- Contracts of read at the small plan's text. -/
import Derived.Test.YtenjefbplpbjaaaGreatDoorQ10
namespace Go.Proofs.YtenjefbplpbjaaaGreatDoor
open Go.RowKit Go.Sort Cal Go.Maps
theorem own_cell {w : World} {base size n g c : Nat} {e : TypeId} {xs : List Value} (h : w.ownsRow base e size (.slice (some ⟨g, 0, none⟩) n c) n xs) : (∀ j u, xs[j]? = some u → w.cell? ⟨g, j, none⟩ = some u) ∧ g < w.heap.size := by
  rcases h.2 with ⟨h0, _⟩ | ⟨g', cap, cur, hv, hbase, hblk, h1, h2, h3, h4⟩
  · cases h0
  · simp only [Value.slice.injEq, Option.some.injEq, Addr.mk.injEq] at hv
    obtain ⟨⟨rfl, _⟩, _⟩ := hv
    refine ⟨fun j u hj => cell_blk hblk j u ?_, (Array.getElem?_eq_some_iff.1 hblk).1⟩
    rw [← h4, List.getElem?_take] at hj
    split at hj
    · rw [← Array.getElem?_toList]; exact hj
    · cases hj
theorem planAt_own {w : World} {g1 c1 g2 c2 g3 c3 b1 b2 b3 : Nat} (h1 : w.ownsRow b1 50 4 (.slice (some ⟨g1, 0, none⟩) 1 c1) 1 [.string ⟨#[]⟩, .int .i64 1, .int .i64 0, .int .i64 0])
    (h2 : w.ownsRow b2 60 2 (.slice (some ⟨g2, 0, none⟩) 1 c2) 1 [.string ⟨#[]⟩, .slice (some ⟨g3, 0, none⟩) 3 c3]) (h3 : w.ownsRow b3 82 2 (.slice (some ⟨g3, 0, none⟩) 3 c3) 3 stepC) (hc : 3 ≤ c3) : PlanAt g1 g2 g3 c3 w where
  l1 := (own_cell h1).2
  l2 := (own_cell h2).2
  l3 := (own_cell h3).2
  k3 := hc
  r0 := (own_cell h1).1 0 _ rfl
  r1 := (own_cell h1).1 1 _ rfl
  r2 := (own_cell h1).1 2 _ rfl
  r3 := (own_cell h1).1 3 _ rfl
  c0 := (own_cell h2).1 0 _ rfl
  c1 := (own_cell h2).1 1 _ rfl
  s0 := (own_cell h3).1 0 _ rfl
  s1 := (own_cell h3).1 1 _ rfl
  s2 := (own_cell h3).1 2 _ rfl
  s3 := (own_cell h3).1 3 _ rfl
  s4 := (own_cell h3).1 4 _ rfl
  s5 := (own_cell h3).1 5 _ rfl
theorem planAt_touch {w w' : World} {b g1 g2 g3 c3 : Nat} {q : Option Addr} {n c : Nat} {l : List Value} {t : TypeId} (h : PlanAt g1 g2 g3 c3 w) (ht : Touch b w w') (hb : w.heap[b]? = some (.cells (.int .i64 1 :: .slice q n c :: l).toArray t (0, 0))) : PlanAt g1 g2 g3 c3 w' := by
  have b0 : w.cell? ⟨b, 0, none⟩ = some (.int .i64 1) := cell_blk hb 0 _ rfl
  have b1 : w.cell? ⟨b, 1, none⟩ = some (.slice q n c) := cell_blk hb 1 _ rfl
  have n1 : g1 ≠ b := fun e => by have := h.r0; rw [e, b0] at this; cases this
  have n2 : g2 ≠ b := fun e => by have := h.c0; rw [e, b0] at this; cases this
  have n3 : g3 ≠ b := fun e => by have := h.s1; rw [e, b1] at this; cases this
  have k1 : ∀ j, w'.cell? ⟨g1, j, none⟩ = w.cell? ⟨g1, j, none⟩ := fun j => World.cell?_of_block (w := w) (w' := w') (a := ⟨g1, j, none⟩) (ht.block _ h.l1 n1)
  have k2 : ∀ j, w'.cell? ⟨g2, j, none⟩ = w.cell? ⟨g2, j, none⟩ := fun j => World.cell?_of_block (w := w) (w' := w') (a := ⟨g2, j, none⟩) (ht.block _ h.l2 n2)
  have k3 : ∀ j, w'.cell? ⟨g3, j, none⟩ = w.cell? ⟨g3, j, none⟩ := fun j => World.cell?_of_block (w := w) (w' := w') (a := ⟨g3, j, none⟩) (ht.block _ h.l3 n3)
  exact ⟨Nat.lt_of_lt_of_le h.l1 ht.size, Nat.lt_of_lt_of_le h.l2 ht.size, Nat.lt_of_lt_of_le h.l3 ht.size, h.k3, (k1 0).trans h.r0, (k1 1).trans h.r1, (k1 2).trans h.r2, (k1 3).trans h.r3, (k2 0).trans h.c0, (k2 1).trans h.c1, (k3 0).trans h.s0, (k3 1).trans h.s1, (k3 2).trans h.s2, (k3 3).trans h.s3, (k3 4).trans h.s4, (k3 5).trans h.s5⟩
/-- The small plan is handed back, beside it ok. -/
def PlanGiven (ok : Value) (w : World) (e : Ending) (w' : World) : Prop := (∃ g1 c1 g2 c2 g3 c3, e = .returned (.tuple #[planV g1 c1 g2 c2, ok]) ∧ PlanAt g1 g2 g3 c3 w') ∧ Below w.heap.size w w'
theorem read_fin {w : World} {b g1 c1 g2 c2 g3 c3 : Nat} (hb : w.heap[b]? = some (.cells #[.int .i64 1, .slice (some ⟨g1, 0, none⟩) 1 c1, .slice (some ⟨g2, 0, none⟩) 1 c2, .slice none 0 0, .slice none 0 0, .slice none 0 0] 28 (0, 0))) (hp : PlanAt g1 g2 g3 c3 w) :
    ∀ wf, wf = (((((w.setCell ⟨b, 0, none⟩ (.int .i64 1)).setCell ⟨b, 1, none⟩ (.slice (some ⟨g1, 0, none⟩) 1 c1)).setCell ⟨b, 2, none⟩ (.slice (some ⟨g2, 0, none⟩) 1 c2)).setCell ⟨b, 3, none⟩ (.slice none 0 0)).setCell ⟨b, 4, none⟩ (.slice none 0 0)).setCell ⟨b, 5, none⟩ (.slice none 0 0) →
      wf.heap[b]? = some (.cells #[.int .i64 1, .slice (some ⟨g1, 0, none⟩) 1 c1, .slice (some ⟨g2, 0, none⟩) 1 c2, .slice none 0 0, .slice none 0 0, .slice none 0 0] 28 (0, 0)) ∧ Touch b w wf ∧ PlanAt g1 g2 g3 c3 wf := by
  intro wf hwf
  have hfin := (set_blk (set_blk (set_blk (set_blk (set_blk (set_blk hb 0 (.int .i64 1)) 1 (.slice (some ⟨g1, 0, none⟩) 1 c1)) 2 (.slice (some ⟨g2, 0, none⟩) 1 c2)) 3 (.slice none 0 0)) 4 (.slice none 0 0)) 5 (.slice none 0 0))
  have ht := (((((((Touch.refl b w).set 0 (.int .i64 1)).set 1 (.slice (some ⟨g1, 0, none⟩) 1 c1)).set 2 (.slice (some ⟨g2, 0, none⟩) 1 c2)).set 3 (.slice none 0 0)).set 4 (.slice none 0 0)).set 5 (.slice none 0 0))
  rw [← hwf] at hfin ht
  exact ⟨by simpa using hfin, ht, planAt_touch (l := [.slice (some ⟨g2, 0, none⟩) 1 c2, .slice none 0 0, .slice none 0 0, .slice none 0 0]) hp ht hb⟩
/-- What read has read before the k-th line, in block b. -/
def ReadIn (b : Nat) (wl : World) (k : Nat) (w : World) : Prop :=
  Touch b wl w ∧ (
    (k = 0 ∧ w.heap[b]? = some (.cells #[.int .i64 1, .slice none 0 0, .slice none 0 0, .slice none 0 0, .slice none 0 0, .slice none 0 0] 28 (0, 0))) ∨
    (k = 1 ∧ ∃ g c, w.heap[b]? = some (.cells #[.int .i64 1, .slice (some ⟨g, 0, none⟩) 1 c, .slice none 0 0, .slice none 0 0, .slice none 0 0, .slice none 0 0] 28 (0, 0)) ∧ w.ownsRow wl.heap.size 50 4 (.slice (some ⟨g, 0, none⟩) 1 c) 1 [.string ⟨#[]⟩, .int .i64 1, .int .i64 0, .int .i64 0]) ∨
    (k = 2 ∧ ∃ g1 c1 g2 c2 g3 c3, w.heap[b]? = some (.cells #[.int .i64 1, .slice (some ⟨g1, 0, none⟩) 1 c1, .slice (some ⟨g2, 0, none⟩) 1 c2, .slice none 0 0, .slice none 0 0, .slice none 0 0] 28 (0, 0)) ∧ PlanAt g1 g2 g3 c3 w))
set_option maxRecDepth 100000 in
set_option maxHeartbeats 3200000 in
theorem read_at (w : World) (hE : Env w) :
    Calls Tryz.prog 23 #[.string ⟨#[100, 105, 103, 105, 116, 115, 32, 49, 10, 114, 117, 108, 101, 32, 97, 108, 108, 32, 106, 101, 118, 111, 110, 115, 10, 105, 109, 112, 117, 116, 101, 32, 97, 108, 108, 32, 99, 108, 97, 115, 115, 32, 50, 44, 32, 99, 97, 114, 114, 121, 32, 51, 44, 32, 100, 114, 111, 112, 10]⟩] w (PlanGiven (.bool true) w) := by
  have HE := Lib.hid hE
  have HB := Lib.hid (Box.new w [.int .i64 0, .slice none 0 0, .slice none 0 0, .slice none 0 0, .slice none 0 0, .slice none 0 0] 28)
  clear hE
  go_enter Tryz.func23, Tryz.ntmps23
  go_wp2_with fail
  refine (suffix_small _).mono ?_
  rintro e w1 ⟨rfl, rfl⟩
  go_wp2_with fail
  refine (split_lines _ (HE.out.below HB.out.bl)).mono ?_
  rintro e w1 ⟨rfl, rfl⟩
  go_wp2_with fail
  refine (prefix_digits _).mono ?_
  rintro e w1 ⟨rfl, rfl⟩
  go_wp2_with fail
  refine (number_1 _).mono ?_
  rintro e w1 ⟨rfl, hb1⟩
  have X2 := (Box.new (w.alloc (.cells #[.int .i64 0, .slice none 0 0, .slice none 0 0, .slice none 0 0, .slice none 0 0, .slice none 0 0] 28)) [.string ⟨#[100, 105, 103, 105, 116, 115, 32, 49]⟩, .string ⟨#[114, 117, 108, 101, 32, 97, 108, 108, 32, 106, 101, 118, 111, 110, 115]⟩, .string ⟨#[105, 109, 112, 117, 116, 101, 32, 97, 108, 108, 32, 99, 108, 97, 115, 115, 32, 50, 44, 32, 99, 97, 114, 114, 121, 32, 51, 44, 32, 100, 114, 111, 112]⟩] 9).step hb1
  have HL1 : Hid (∀ j u, [.string ⟨#[100, 105, 103, 105, 116, 115, 32, 49]⟩, .string ⟨#[114, 117, 108, 101, 32, 97, 108, 108, 32, 106, 101, 118, 111, 110, 115]⟩, .string ⟨#[105, 109, 112, 117, 116, 101, 32, 97, 108, 108, 32, 99, 108, 97, 115, 115, 32, 50, 44, 32, 99, 97, 114, 114, 121, 32, 51, 44, 32, 100, 114, 111, 112]⟩][j]? = some u → w1.cell? ⟨w.heap.size + 1, j, none⟩ = some u) := Lib.hid (by have h := X2.c; simpa using h)
  have hk1 : w1.heap[w.heap.size]? = some (.cells #[.int .i64 0, .slice none 0 0, .slice none 0 0, .slice none 0 0, .slice none 0 0, .slice none 0 0] 28 (0, 0)) := by
    refine (X2.bl.block _ (by simp)).trans ?_
    show (Array.push w.heap _)[_]? = _
    rw [Array.getElem?_push, if_pos rfl]
  have HB1 := Lib.hid (chain0 HB.out.bl X2.bl)
  have HK1 := Lib.hid hk1
  have hs1 : w.heap.size + 1 < w1.heap.size := by have := X2.sz; simpa using this
  have c0 : w1.cell? ⟨w.heap.size, 0, none⟩ = some (.int .i64 0) := cell_blk hk1 0 _ rfl
  have f0 : w1.frozen? ⟨w.heap.size, 0, none⟩ = false := free_blk hk1 0
  have g0 : w.heap.size < w1.heap.size := by omega
  clear hb1 X2 hk1
  go_wp2_with fail
  obtain ⟨WL, hWL⟩ : ∃ W', W' = w1.setCell ⟨w.heap.size, 0, none⟩ (.int .i64 1) := ⟨_, rfl⟩
  rw [← hWL]
  have hsL : w.heap.size + 1 < WL.heap.size := by rw [hWL]; simpa [World.setCell] using hs1
  have HKL : Hid (WL.heap[w.heap.size]? = some (.cells #[.int .i64 1, .slice none 0 0, .slice none 0 0, .slice none 0 0, .slice none 0 0, .slice none 0 0] 28 (0, 0))) := Lib.hid (by rw [hWL]; exact set_blk HK1.out 0 _)
  have HLL : Hid (∀ j u, [.string ⟨#[100, 105, 103, 105, 116, 115, 32, 49]⟩, .string ⟨#[114, 117, 108, 101, 32, 97, 108, 108, 32, 106, 101, 118, 111, 110, 115]⟩, .string ⟨#[105, 109, 112, 117, 116, 101, 32, 97, 108, 108, 32, 99, 108, 97, 115, 115, 32, 50, 44, 32, 99, 97, 114, 114, 121, 32, 51, 44, 32, 100, 114, 111, 112]⟩][j]? = some u → WL.cell? ⟨w.heap.size + 1, j, none⟩ = some u) := Lib.hid (fun j u hj => by
    rw [hWL, World.cell?_of_block (w := w1) (a := ⟨w.heap.size + 1, j, none⟩) (set_other (b := w.heap.size) rfl (by show ¬ w.heap.size + 1 = w.heap.size; omega) 0 _)]
    exact HL1.out j u hj)
  have HBL : Hid (Below w.heap.size w WL) := Lib.hid (by rw [hWL]; exact HB1.out.setCell (p := ⟨w.heap.size, 0, none⟩) (Nat.le_refl _) _)
  clear hWL c0 f0 g0 hs1
  go_loopw [41] (fun i wr => ∃ k : Nat, i = .int .i64 k ∧ ReadIn w.heap.size WL k wr) (fun i _ => 2 - (intOf i).toNat)
  case atStart => exact ⟨0, rfl, Touch.refl _ _, Or.inl ⟨rfl, HKL.out⟩⟩
  case round =>
    obtain ⟨k, rfl, ht, hcase⟩ := hrel
    have hsr := ht.size
    have HT := Lib.hid ht
    have hln : ¬ w.heap.size + 1 = w.heap.size := by omega
    have HLr : Hid (∀ j u, [.string ⟨#[100, 105, 103, 105, 116, 115, 32, 49]⟩, .string ⟨#[114, 117, 108, 101, 32, 97, 108, 108, 32, 106, 101, 118, 111, 110, 115]⟩, .string ⟨#[105, 109, 112, 117, 116, 101, 32, 97, 108, 108, 32, 99, 108, 97, 115, 115, 32, 50, 44, 32, 99, 97, 114, 114, 121, 32, 51, 44, 32, 100, 114, 111, 112]⟩][j]? = some u → wr.cell? ⟨w.heap.size + 1, j, none⟩ = some u) := Lib.hid (fun j u hj => (World.cell?_of_block (w := WL) (w' := wr) (a := ⟨w.heap.size + 1, j, none⟩) (ht.block _ hsL hln)).trans (HLL.out j u hj))
    have HEr := Lib.hid (HE.out.below (HBL.out.trans (ht.below (by omega))))
    have hlr : w.heap.size + 1 < wr.heap.size := by omega
    have hlL : Hid (w.heap.size < WL.heap.size) := Lib.hid (by omega)
    clear ht
    rcases hcase with ⟨rfl, hb⟩ | ⟨rfl, g, c, hb, ho⟩ | ⟨rfl, g1, c1, g2, c2, g3, c3, hb, hp⟩
    · have d0 : wr.cell? ⟨w.heap.size + 1, 1, none⟩ = some (.string ⟨#[114, 117, 108, 101, 32, 97, 108, 108, 32, 106, 101, 118, 111, 110, 115]⟩) := HLr.out 1 _ rfl
      have HB0 := Lib.hid hb
      clear hb
      go_wp2_with fail
      refine (readLine_rule w.heap.size _ HEr.out HB0.out).mono ?_
      rintro e w5 ⟨rfl, g, c, hb5, ho5, ht5⟩
      have HN : Hid (ReadIn w.heap.size WL 1 w5) := Lib.hid ⟨HT.out.trans ht5, Or.inr (Or.inl ⟨rfl, g, c, hb5, own_base' ho5 hsr⟩)⟩
      clear hb5 ho5 ht5
      go_wp2_with fail
      go_roundw
      case rel => exact ⟨1, by go_num, HN.out⟩
      case measure => simp [intOf]
    · have d0 : wr.cell? ⟨w.heap.size + 1, 2, none⟩ = some (.string ⟨#[105, 109, 112, 117, 116, 101, 32, 97, 108, 108, 32, 99, 108, 97, 115, 115, 32, 50, 44, 32, 99, 97, 114, 114, 121, 32, 51, 44, 32, 100, 114, 111, 112]⟩) := HLr.out 2 _ rfl
      have HB0 := Lib.hid hb
      have HO := Lib.hid ho
      clear hb ho
      go_wp2_with fail
      refine (readLine_impute w.heap.size _ _ HEr.out HB0.out).mono ?_
      rintro e w5 ⟨rfl, g2, c2, g3, c3, hc3, hb5, ho5, hs5, ht5⟩
      have HN : Hid (ReadIn w.heap.size WL 2 w5) := Lib.hid ⟨HT.out.trans ht5, Or.inr (Or.inr ⟨rfl, g, c, g2, c2, g3, c3, hb5, planAt_own (ownsRow_touch HO.out ht5 hlL.out) ho5 hs5 hc3⟩)⟩
      clear hb5 ho5 hs5 ht5
      go_wp2_with fail
      go_roundw
      case rel => exact ⟨2, by go_num, HN.out⟩
      case measure => simp [intOf]
    · have HB0 := Lib.hid hb
      have HP0 := Lib.hid hp
      have e0 : wr.cell? ⟨w.heap.size, 0, none⟩ = some (.int .i64 1) := cell_blk hb 0 _ rfl
      have f0 : wr.frozen? ⟨w.heap.size, 0, none⟩ = false := free_blk hb 0
      have e1 : wr.cell? ⟨w.heap.size, 1, none⟩ = some (.slice (some ⟨g1, 0, none⟩) 1 c1) := cell_blk hb 1 _ rfl
      have f1 : wr.frozen? ⟨w.heap.size, 1, none⟩ = false := free_blk hb 1
      have e2 : wr.cell? ⟨w.heap.size, 2, none⟩ = some (.slice (some ⟨g2, 0, none⟩) 1 c2) := cell_blk hb 2 _ rfl
      have f2 : wr.frozen? ⟨w.heap.size, 2, none⟩ = false := free_blk hb 2
      have e3 : wr.cell? ⟨w.heap.size, 3, none⟩ = some (.slice none 0 0) := cell_blk hb 3 _ rfl
      have f3 : wr.frozen? ⟨w.heap.size, 3, none⟩ = false := free_blk hb 3
      have e4 : wr.cell? ⟨w.heap.size, 4, none⟩ = some (.slice none 0 0) := cell_blk hb 4 _ rfl
      have f4 : wr.frozen? ⟨w.heap.size, 4, none⟩ = false := free_blk hb 4
      have e5 : wr.cell? ⟨w.heap.size, 5, none⟩ = some (.slice none 0 0) := cell_blk hb 5 _ rfl
      have f5 : wr.frozen? ⟨w.heap.size, 5, none⟩ = false := free_blk hb 5
      have HWT := Lib.hid (HBL.out.trans (HT.out.below (by omega)))
      clear hb hp
      go_wp2
      obtain ⟨wf, hwf⟩ : ∃ wf, wf = (((((wr.setCell ⟨w.heap.size, 0, none⟩ (.int .i64 1)).setCell ⟨w.heap.size, 1, none⟩ (.slice (some ⟨g1, 0, none⟩) 1 c1)).setCell ⟨w.heap.size, 2, none⟩ (.slice (some ⟨g2, 0, none⟩) 1 c2)).setCell ⟨w.heap.size, 3, none⟩ (.slice none 0 0)).setCell ⟨w.heap.size, 4, none⟩ (.slice none 0 0)).setCell ⟨w.heap.size, 5, none⟩ (.slice none 0 0) := ⟨_, rfl⟩
      rw [← hwf]
      obtain ⟨hfin, ht, HPF⟩ := read_fin HB0.out HP0.out wf hwf
      have a0 := cell_blk hfin 0 (.int .i64 1) rfl
      have a1 := cell_blk hfin 1 (.slice (some ⟨g1, 0, none⟩) 1 c1) rfl
      have a2 := cell_blk hfin 2 (.slice (some ⟨g2, 0, none⟩) 1 c2) rfl
      have a3 := cell_blk hfin 3 (.slice none 0 0) rfl
      have a4 := cell_blk hfin 4 (.slice none 0 0) rfl
      have a5 := cell_blk hfin 5 (.slice none 0 0) rfl
      have HPG : Hid (PlanGiven (.bool true) w (.returned (.tuple #[.agg #[.int .i64 1, .slice (some ⟨g1, 0, none⟩) 1 c1, .slice (some ⟨g2, 0, none⟩) 1 c2, .slice none 0 0, .slice none 0 0, .slice none 0 0], .bool true])) wf) := Lib.hid ⟨⟨g1, c1, g2, c2, g3, c3, rfl, HPF⟩, HWT.out.trans (ht.below (by have := hlL.out; omega))⟩
      clear hwf hfin ht HPF
      exact bodyPost_ret (v := .tuple #[.agg #[.int .i64 1, .slice (some ⟨g1, 0, none⟩) 1 c1, .slice (some ⟨g2, 0, none⟩) 1 c2, .slice none 0 0, .slice none 0 0, .slice none 0 0], .bool true]) (by simp [results, Tryz.results23, go_sem, a0, a1, a2, a3, a4, a5]) rfl HPG.out
end Go.Proofs.YtenjefbplpbjaaaGreatDoor
