/- The generator of expressions: at a greater depth, out of the one below; Nodes. -/
import Derived.Test.YtkgkjoologjehaaGreatDoorU6
namespace Go.Proofs.YtkgkjoologjehaaGreatDoor
open Go.RowKit Go.Sort Cal Go.Maps
set_option maxRecDepth 100000 in
set_option maxHeartbeats 12800000 in
theorem tree_succ (d m D : Nat) (hd : TreeOK d m D) (hdl : d ≤ 5) (hm : m ≤ 50) (hD : D ≤ 400) : TreeOK (d + 1) (2 * m + 1) (2 * D + 6) := by
  intro b sv zs i base v n xs w hT hi hb hle hown hn
  obtain ⟨p, c, rfl⟩ := own_form hown
  obtain ⟨i0, hi0, hz0, hz1, hz2⟩ := info_parts info_node
  have HS := Lib.hid (Tr.start hT hown hb hle)
  have hsub : ((d + 1 : Nat) : Int) - 1 = (d : Int) := by omega
  have hpos : decide (((d + 1 : Nat) : Int) > 0) = true := by simp
  clear hT hown
  go_enter Tryz.func49, Tryz.ntmps49
  go_wp2_with fail
  refine (next_tr 3 HS.out (by omega) (by omega) (by omega)).mono ?_
  rintro e w1 ⟨v, hv, rfl, hTr, hk⟩
  have HS1 := Lib.hid hTr
  clear hTr hk hv
  go_wp2_with fail
  refine (next_tr 12 HS1.out (by omega) (by omega) (by omega)).mono ?_
  rintro e WA ⟨v, hv, rfl, hTr, hk⟩
  have HT := Lib.hid hTr
  have hB : w.heap.size ≤ WA.heap.size := hTr.size
  have hBb : WA.heap.size ≠ b := by omega
  have hv3 : v = 0 ∨ v = 1 ∨ v = 2 ∨ v = 9 ∨ v = 10 ∨ v = 11 ∨ (3 ≤ v ∧ v ≤ 8) := by omega
  clear hTr hk hv
  rcases hv3 with rfl | rfl | rfl | rfl | rfl | rfl | ⟨hv1, hv2⟩
  · have HN := Lib.hid (NodeAt.new WA 1)
    have HTA := Lib.hid (HT.out.alloc (.cells #[.int .i64 1, .string ⟨#[]⟩, .bool false, .slice none 0 0, .slice none 0 0, .slice none 0 0] 80))
    have HA : Hid (Away (.slice p n c) WA.heap.size) := Lib.hid (HT.out.away (Nat.le_refl _))
    go_wp2_with fail
    refine (next_tr 300 HTA.out (by omega) (by omega) (by omega)).mono ?_
    rintro e w3 ⟨m1, hm1, rfl, ht3, hk3⟩
    have HT3 := Lib.hid (ht3.alloc (.cells #[.int .i64 1, .int .i64 2, .int .i64 4, .int .i64 100, .int .i64 8] 3))
    have HX3 := Lib.hid (Box.new w3 [.int .i64 1, .int .i64 2, .int .i64 4, .int .i64 100, .int .i64 8] 3)
    have HN3 := Lib.hid ((HN.out.touch hk3 hBb).keep (HX3.out.bl.block _ (HN.out.touch hk3 hBb).lt))
    have hs3 : w.heap.size ≤ w3.heap.size := ht3.size
    clear ht3 hk3
    go_wp2_with fail
    refine (next_tr 5 HT3.out (by omega) (by omega) (by omega)).mono ?_
    rintro e w4 ⟨k, hk, rfl, ht4, hk4⟩
    have hcell : ∃ cc : Nat, 0 < cc ∧ cc ≤ 100 ∧ w4.cell? ⟨w3.heap.size, k, none⟩ = some (.int .i64 (cc : Int)) := by
      have h := fun j u hj => (hk4.cell (j := j) HX3.out.sz (by omega)).trans (HX3.out.c j u hj)
      have h5 : k = 0 ∨ k = 1 ∨ k = 2 ∨ k = 3 ∨ k = 4 := by omega
      rcases h5 with rfl | rfl | rfl | rfl | rfl
      · exact ⟨1, by omega, by omega, h 0 _ rfl⟩
      · exact ⟨2, by omega, by omega, h 1 _ rfl⟩
      · exact ⟨4, by omega, by omega, h 2 _ rfl⟩
      · exact ⟨100, by omega, by omega, h 3 _ rfl⟩
      · exact ⟨8, by omega, by omega, h 4 _ rfl⟩
    obtain ⟨cc, hc0, hc1, hcc⟩ := hcell
    have HTX := Lib.hid ht4
    have HNX := Lib.hid (HN3.out.touch hk4 hBb)
    clear ht4 hk4
    go_wp2_with fail
    refine (fraction_at m1 cc _ (by omega) (by omega) (by omega)).mono ?_
    rintro e w8 ⟨r1, l1, d1, r2, l2, d2, rfl, hb8⟩
    obtain ⟨k0, s0, g0, q1, n1, c1, q2, n2, c2, q3, n3, c3, hnb⟩ := HNX.out.keep (hb8.block _ HNX.out.lt)
    have hX := (((HTX.out.below hb8).set hB HA.out 2 (.bool false)).set hB HA.out 3 (.slice r1 l1 d1)).set hB HA.out 4 (.slice r2 l2 d2)
    have HXX := Lib.hid hX
    obtain ⟨xs9, hown⟩ := hX.own
    clear hb8 hX
    have x0 : w8.cell? ⟨WA.heap.size, 0, none⟩ = some (.int .i64 k0) := cell_blk hnb 0 _ rfl
    have y0 : w8.frozen? ⟨WA.heap.size, 0, none⟩ = false := free_blk hnb 0
    have x1 : w8.cell? ⟨WA.heap.size, 1, none⟩ = some (.string s0) := cell_blk hnb 1 _ rfl
    have y1 : w8.frozen? ⟨WA.heap.size, 1, none⟩ = false := free_blk hnb 1
    have x2 : w8.cell? ⟨WA.heap.size, 2, none⟩ = some (.bool g0) := cell_blk hnb 2 _ rfl
    have y2 : w8.frozen? ⟨WA.heap.size, 2, none⟩ = false := free_blk hnb 2
    have x3 : w8.cell? ⟨WA.heap.size, 3, none⟩ = some (.slice q1 n1 c1) := cell_blk hnb 3 _ rfl
    have y3 : w8.frozen? ⟨WA.heap.size, 3, none⟩ = false := free_blk hnb 3
    have x4 : w8.cell? ⟨WA.heap.size, 4, none⟩ = some (.slice q2 n2 c2) := cell_blk hnb 4 _ rfl
    have y4 : w8.frozen? ⟨WA.heap.size, 4, none⟩ = false := free_blk hnb 4
    have x5 : w8.cell? ⟨WA.heap.size, 5, none⟩ = some (.slice q3 n3 c3) := cell_blk hnb 5 _ rfl
    have y5 : w8.frozen? ⟨WA.heap.size, 5, none⟩ = false := free_blk hnb 5
    have hBl : WA.heap.size < w8.heap.size := (Array.getElem?_eq_some_iff.1 hnb).1
    clear hnb
    go_wp2_with (first
      | (at_builtin; refine wpList_append_own_at _ rfl _ _ 70 rfl base 80 i0 (.agg #[.int .i64 0, .string ⟨#[]⟩, .bool false, .slice none 0 0, .slice none 0 0, .slice none 0 0]) 6 104 Tryz.underlying70 hi0 hz0 hz1 hz2 rfl (by decide) _ _ _ rfl (hown.alloc _) ⟨w8.heap.size, 0, none⟩ 1 1 [.int .i64 k0, .string s0, .bool false, .slice r1 l1 d1, .slice r2 l2 d2, .slice q3 n3 c3] rfl rfl (cells_row _ _ (by simp [World.setCell]) _ _) (by simp [Value.oneCell']) (by unfold maxLen; omega) (by omega) (by simp [World.setCell]; omega) ?_)
      | fail)
    intro v' w9 hown9 hgrow _ hob
    have HP : Hid (TreePost (2 * m + 1) (2 * D + 6) b sv zs i base (.slice p n c) n w (.returned v') w9) := Lib.hid ⟨v', n + 1, _, rfl, by omega, by omega, by omega, (HXX.out.alloc _).grown hown9 hgrow (by simpa [World.setCell] using hob)⟩
    clear hown9 hgrow hown hob
    go_wp2
    go_ret
    exact HP.out
  · have HN := Lib.hid (NodeAt.new WA 2)
    have HTA := Lib.hid (HT.out.alloc (.cells #[.int .i64 2, .string ⟨#[]⟩, .bool false, .slice none 0 0, .slice none 0 0, .slice none 0 0] 80))
    have HA : Hid (Away (.slice p n c) WA.heap.size) := Lib.hid (HT.out.away (Nat.le_refl _))
    go_wp2_with fail
    refine (next_tr 6 HTA.out (by omega) (by omega) (by omega)).mono ?_
    rintro e w3 ⟨m1, hm1, rfl, ht3, hk3⟩
    have HT3 := Lib.hid ht3
    have HN3 := Lib.hid (HN.out.touch hk3 hBb)
    clear ht3 hk3
    go_wp2_with fail
    refine (word_any m1 _).mono ?_
    rintro e w4 ⟨s, hs, rfl, hb4⟩
    obtain ⟨k0, s0, g0, q1, n1, c1, q2, n2, c2, q3, n3, c3, hnb⟩ := HN3.out.keep (hb4.block _ HN3.out.lt)
    have hX := (HT3.out.below hb4).set hB HA.out 1 (.string s)
    have HXX := Lib.hid hX
    obtain ⟨xs9, hown⟩ := hX.own
    clear hb4 hX
    have x0 : w4.cell? ⟨WA.heap.size, 0, none⟩ = some (.int .i64 k0) := cell_blk hnb 0 _ rfl
    have y0 : w4.frozen? ⟨WA.heap.size, 0, none⟩ = false := free_blk hnb 0
    have x1 : w4.cell? ⟨WA.heap.size, 1, none⟩ = some (.string s0) := cell_blk hnb 1 _ rfl
    have y1 : w4.frozen? ⟨WA.heap.size, 1, none⟩ = false := free_blk hnb 1
    have x2 : w4.cell? ⟨WA.heap.size, 2, none⟩ = some (.bool g0) := cell_blk hnb 2 _ rfl
    have y2 : w4.frozen? ⟨WA.heap.size, 2, none⟩ = false := free_blk hnb 2
    have x3 : w4.cell? ⟨WA.heap.size, 3, none⟩ = some (.slice q1 n1 c1) := cell_blk hnb 3 _ rfl
    have y3 : w4.frozen? ⟨WA.heap.size, 3, none⟩ = false := free_blk hnb 3
    have x4 : w4.cell? ⟨WA.heap.size, 4, none⟩ = some (.slice q2 n2 c2) := cell_blk hnb 4 _ rfl
    have y4 : w4.frozen? ⟨WA.heap.size, 4, none⟩ = false := free_blk hnb 4
    have x5 : w4.cell? ⟨WA.heap.size, 5, none⟩ = some (.slice q3 n3 c3) := cell_blk hnb 5 _ rfl
    have y5 : w4.frozen? ⟨WA.heap.size, 5, none⟩ = false := free_blk hnb 5
    have hBl : WA.heap.size < w4.heap.size := (Array.getElem?_eq_some_iff.1 hnb).1
    clear hnb
    go_wp2_with (first
      | (at_builtin; refine wpList_append_own_at _ rfl _ _ 70 rfl base 80 i0 (.agg #[.int .i64 0, .string ⟨#[]⟩, .bool false, .slice none 0 0, .slice none 0 0, .slice none 0 0]) 6 104 Tryz.underlying70 hi0 hz0 hz1 hz2 rfl (by decide) _ _ _ rfl (hown.alloc _) ⟨w4.heap.size, 0, none⟩ 1 1 [.int .i64 k0, .string s, .bool g0, .slice q1 n1 c1, .slice q2 n2 c2, .slice q3 n3 c3] rfl rfl (cells_row _ _ (by simp [World.setCell]) _ _) (by simp [Value.oneCell']) (by unfold maxLen; omega) (by omega) (by simp [World.setCell]; omega) ?_)
      | fail)
    intro v' w9 hown9 hgrow _ hob
    have HP : Hid (TreePost (2 * m + 1) (2 * D + 6) b sv zs i base (.slice p n c) n w (.returned v') w9) := Lib.hid ⟨v', n + 1, _, rfl, by omega, by omega, by omega, (HXX.out.alloc _).grown hown9 hgrow (by simpa [World.setCell] using hob)⟩
    clear hown9 hgrow hown hob
    go_wp2
    go_ret
    exact HP.out
  · have HN := Lib.hid (NodeAt.new WA 3)
    have HTA := Lib.hid (HT.out.alloc (.cells #[.int .i64 3, .string ⟨#[]⟩, .bool false, .slice none 0 0, .slice none 0 0, .slice none 0 0] 80))
    have HA : Hid (Away (.slice p n c) WA.heap.size) := Lib.hid (HT.out.away (Nat.le_refl _))
    go_wp2_with fail
    refine (reference_any b sv zs _ _ HTA.out.tape (by omega)).mono ?_
    rintro e w4 ⟨s, i4, hs, rfl, hi4, hT4, ht4⟩
    obtain ⟨k0, s0, g0, q1, n1, c1, q2, n2, c2, q3, n3, c3, hnb⟩ := HN.out.touch ht4 hBb
    have hX := (HTA.out.touch hT4 ht4).set hB HA.out 1 (.string s)
    have HXX := Lib.hid hX
    obtain ⟨xs9, hown⟩ := hX.own
    clear hT4 ht4 hX
    have x0 : w4.cell? ⟨WA.heap.size, 0, none⟩ = some (.int .i64 k0) := cell_blk hnb 0 _ rfl
    have y0 : w4.frozen? ⟨WA.heap.size, 0, none⟩ = false := free_blk hnb 0
    have x1 : w4.cell? ⟨WA.heap.size, 1, none⟩ = some (.string s0) := cell_blk hnb 1 _ rfl
    have y1 : w4.frozen? ⟨WA.heap.size, 1, none⟩ = false := free_blk hnb 1
    have x2 : w4.cell? ⟨WA.heap.size, 2, none⟩ = some (.bool g0) := cell_blk hnb 2 _ rfl
    have y2 : w4.frozen? ⟨WA.heap.size, 2, none⟩ = false := free_blk hnb 2
    have x3 : w4.cell? ⟨WA.heap.size, 3, none⟩ = some (.slice q1 n1 c1) := cell_blk hnb 3 _ rfl
    have y3 : w4.frozen? ⟨WA.heap.size, 3, none⟩ = false := free_blk hnb 3
    have x4 : w4.cell? ⟨WA.heap.size, 4, none⟩ = some (.slice q2 n2 c2) := cell_blk hnb 4 _ rfl
    have y4 : w4.frozen? ⟨WA.heap.size, 4, none⟩ = false := free_blk hnb 4
    have x5 : w4.cell? ⟨WA.heap.size, 5, none⟩ = some (.slice q3 n3 c3) := cell_blk hnb 5 _ rfl
    have y5 : w4.frozen? ⟨WA.heap.size, 5, none⟩ = false := free_blk hnb 5
    have hBl : WA.heap.size < w4.heap.size := (Array.getElem?_eq_some_iff.1 hnb).1
    clear hnb
    go_wp2_with (first
      | (at_builtin; refine wpList_append_own_at _ rfl _ _ 70 rfl base 80 i0 (.agg #[.int .i64 0, .string ⟨#[]⟩, .bool false, .slice none 0 0, .slice none 0 0, .slice none 0 0]) 6 104 Tryz.underlying70 hi0 hz0 hz1 hz2 rfl (by decide) _ _ _ rfl (hown.alloc _) ⟨w4.heap.size, 0, none⟩ 1 1 [.int .i64 k0, .string s, .bool g0, .slice q1 n1 c1, .slice q2 n2 c2, .slice q3 n3 c3] rfl rfl (cells_row _ _ (by simp [World.setCell]) _ _) (by simp [Value.oneCell']) (by unfold maxLen; omega) (by omega) (by simp [World.setCell]; omega) ?_)
      | fail)
    intro v' w9 hown9 hgrow _ hob
    have HP : Hid (TreePost (2 * m + 1) (2 * D + 6) b sv zs i base (.slice p n c) n w (.returned v') w9) := Lib.hid ⟨v', n + 1, _, rfl, by omega, by omega, by omega, (HXX.out.alloc _).grown hown9 hgrow (by simpa [World.setCell] using hob)⟩
    clear hown9 hgrow hown hob
    go_wp2
    go_ret
    exact HP.out
  · have HN := Lib.hid (NodeAt.new WA 10)
    have HTA := Lib.hid (HT.out.alloc (.cells #[.int .i64 10, .string ⟨#[]⟩, .bool false, .slice none 0 0, .slice none 0 0, .slice none 0 0] 80))
    have HA : Hid (Away (.slice p n c) WA.heap.size) := Lib.hid (HT.out.away (Nat.le_refl _))
    obtain ⟨xs4, ho4⟩ := HTA.out.own
    have hz4 := HTA.out.size
    have hw4 := HN.out.lt
    go_wp2_with fail
    refine (hd b sv zs _ base _ n xs4 _ HTA.out.tape (by omega) hb (by omega) ho4 (by omega)).mono ?_
    rintro e w4 ⟨v4, n4, i4, rfl, hlt4, hle4, hi4, ht4⟩
    obtain ⟨ys4, hoo4⟩ := ht4.own
    obtain ⟨p4, c4, rfl⟩ := own_form hoo4
    have HT4 := Lib.hid (HTA.out.call ht4)
    have HA4 : Hid (Away (.slice p4 n4 c4) WA.heap.size) := Lib.hid (fun j hj e => ht4.heir.ne (fun h => HA.out _ h rfl) hw4 (e ▸ hj))
    have HN4 := Lib.hid (HN.out.only ht4.only hBb HA.out)
    clear ho4 hoo4 ht4 hz4 hw4
    obtain ⟨k0, s0, g0, q1, n1, c1, q2, n2, c2, q3, n3, c3, hnb⟩ := HN4.out
    have HTA5 := Lib.hid ((HT4.out.set hB HA4.out 5 (.slice (some ⟨w4.heap.size, 0, none⟩) 1 1)).alloc (.cells #[.int .i64 ((n4 : Int) - 1)] 3))
    have HNA5 : Hid (NodeAt WA.heap.size ((w4.setCell ⟨WA.heap.size, 5, none⟩ (.slice (some ⟨w4.heap.size, 0, none⟩) 1 1)).alloc (.cells #[.int .i64 ((n4 : Int) - 1)] 3))) := Lib.hid ((HN4.out.args _ _ _).keep (((Below.refl _ _).alloc (Nat.le_refl _) _).block _ (HN4.out.args _ _ _).lt))
    have x0 : w4.cell? ⟨WA.heap.size, 0, none⟩ = some (.int .i64 k0) := cell_blk hnb 0 _ rfl
    have y0 : w4.frozen? ⟨WA.heap.size, 0, none⟩ = false := free_blk hnb 0
    have x1 : w4.cell? ⟨WA.heap.size, 1, none⟩ = some (.string s0) := cell_blk hnb 1 _ rfl
    have y1 : w4.frozen? ⟨WA.heap.size, 1, none⟩ = false := free_blk hnb 1
    have x2 : w4.cell? ⟨WA.heap.size, 2, none⟩ = some (.bool g0) := cell_blk hnb 2 _ rfl
    have y2 : w4.frozen? ⟨WA.heap.size, 2, none⟩ = false := free_blk hnb 2
    have x3 : w4.cell? ⟨WA.heap.size, 3, none⟩ = some (.slice q1 n1 c1) := cell_blk hnb 3 _ rfl
    have y3 : w4.frozen? ⟨WA.heap.size, 3, none⟩ = false := free_blk hnb 3
    have x4 : w4.cell? ⟨WA.heap.size, 4, none⟩ = some (.slice q2 n2 c2) := cell_blk hnb 4 _ rfl
    have y4 : w4.frozen? ⟨WA.heap.size, 4, none⟩ = false := free_blk hnb 4
    have x5 : w4.cell? ⟨WA.heap.size, 5, none⟩ = some (.slice q3 n3 c3) := cell_blk hnb 5 _ rfl
    have y5 : w4.frozen? ⟨WA.heap.size, 5, none⟩ = false := free_blk hnb 5
    have hBl : WA.heap.size < w4.heap.size := (Array.getElem?_eq_some_iff.1 hnb).1
    clear hnb
    go_wp2_with fail
    refine (next_tr 14 HTA5.out (by omega) (by omega) (by omega)).mono ?_
    rintro e w5 ⟨m1, hm1, rfl, ht5, hk5⟩
    have HTX := Lib.hid ht5
    have HNX := Lib.hid (HNA5.out.touch hk5 hBb)
    clear ht5 hk5 x0 y0 x1 y1 x2 y2 x3 y3 x4 y4 x5 y5 hBl
    go_wp2_with fail
    rw [show (1 + (m1 : Int)) = ((1 + m1 : Nat) : Int) from by omega]
    refine (fraction_at (1 + m1) 1 _ (by omega) (by omega) (by omega)).mono ?_
    rintro e w8 ⟨r1, l1, d1, r2, l2, d2, rfl, hb8⟩
    obtain ⟨k0, s0, g0, q1, n1, c1, q2, n2, c2, q3, n3, c3, hnb⟩ := HNX.out.keep (hb8.block _ HNX.out.lt)
    have hX := (((HTX.out.below hb8).set hB HA4.out 2 (.bool false)).set hB HA4.out 3 (.slice r1 l1 d1)).set hB HA4.out 4 (.slice r2 l2 d2)
    have HXX := Lib.hid hX
    obtain ⟨xs9, hown⟩ := hX.own
    clear hb8 hX
    have x0 : w8.cell? ⟨WA.heap.size, 0, none⟩ = some (.int .i64 k0) := cell_blk hnb 0 _ rfl
    have y0 : w8.frozen? ⟨WA.heap.size, 0, none⟩ = false := free_blk hnb 0
    have x1 : w8.cell? ⟨WA.heap.size, 1, none⟩ = some (.string s0) := cell_blk hnb 1 _ rfl
    have y1 : w8.frozen? ⟨WA.heap.size, 1, none⟩ = false := free_blk hnb 1
    have x2 : w8.cell? ⟨WA.heap.size, 2, none⟩ = some (.bool g0) := cell_blk hnb 2 _ rfl
    have y2 : w8.frozen? ⟨WA.heap.size, 2, none⟩ = false := free_blk hnb 2
    have x3 : w8.cell? ⟨WA.heap.size, 3, none⟩ = some (.slice q1 n1 c1) := cell_blk hnb 3 _ rfl
    have y3 : w8.frozen? ⟨WA.heap.size, 3, none⟩ = false := free_blk hnb 3
    have x4 : w8.cell? ⟨WA.heap.size, 4, none⟩ = some (.slice q2 n2 c2) := cell_blk hnb 4 _ rfl
    have y4 : w8.frozen? ⟨WA.heap.size, 4, none⟩ = false := free_blk hnb 4
    have x5 : w8.cell? ⟨WA.heap.size, 5, none⟩ = some (.slice q3 n3 c3) := cell_blk hnb 5 _ rfl
    have y5 : w8.frozen? ⟨WA.heap.size, 5, none⟩ = false := free_blk hnb 5
    have hBl : WA.heap.size < w8.heap.size := (Array.getElem?_eq_some_iff.1 hnb).1
    clear hnb
    go_wp2_with (first
      | (at_builtin; refine wpList_append_own_at _ rfl _ _ 70 rfl base 80 i0 (.agg #[.int .i64 0, .string ⟨#[]⟩, .bool false, .slice none 0 0, .slice none 0 0, .slice none 0 0]) 6 104 Tryz.underlying70 hi0 hz0 hz1 hz2 rfl (by decide) _ _ _ rfl (hown.alloc _) ⟨w8.heap.size, 0, none⟩ 1 1 [.int .i64 k0, .string s0, .bool false, .slice r1 l1 d1, .slice r2 l2 d2, .slice q3 n3 c3] rfl rfl (cells_row _ _ (by simp [World.setCell]) _ _) (by simp [Value.oneCell']) (by unfold maxLen; omega) (by omega) (by simp [World.setCell]; omega) ?_)
      | fail)
    intro v' w9 hown9 hgrow _ hob
    have HP : Hid (TreePost (2 * m + 1) (2 * D + 6) b sv zs i base (.slice p n c) n w (.returned v') w9) := Lib.hid ⟨v', n4 + 1, _, rfl, by omega, by omega, by omega, (HXX.out.alloc _).grown hown9 hgrow (by simpa [World.setCell] using hob)⟩
    clear hown9 hgrow hown hob
    go_wp2
    go_ret
    exact HP.out
  · have HN := Lib.hid (NodeAt.new WA 11)
    have HTA := Lib.hid (HT.out.alloc (.cells #[.int .i64 11, .string ⟨#[]⟩, .bool false, .slice none 0 0, .slice none 0 0, .slice none 0 0] 80))
    have HA : Hid (Away (.slice p n c) WA.heap.size) := Lib.hid (HT.out.away (Nat.le_refl _))
    obtain ⟨xs4, ho4⟩ := HTA.out.own
    have hz4 := HTA.out.size
    have hw4 := HN.out.lt
    go_wp2_with fail
    refine (hd b sv zs _ base _ n xs4 _ HTA.out.tape (by omega) hb (by omega) ho4 (by omega)).mono ?_
    rintro e w4 ⟨v4, n4, i4, rfl, hlt4, hle4, hi4, ht4⟩
    obtain ⟨ys4, hoo4⟩ := ht4.own
    obtain ⟨p4, c4, rfl⟩ := own_form hoo4
    have HT4 := Lib.hid (HTA.out.call ht4)
    have HA4 : Hid (Away (.slice p4 n4 c4) WA.heap.size) := Lib.hid (fun j hj e => ht4.heir.ne (fun h => HA.out _ h rfl) hw4 (e ▸ hj))
    have HN4 := Lib.hid (HN.out.only ht4.only hBb HA.out)
    clear ho4 hoo4 ht4 hz4 hw4
    obtain ⟨k0, s0, g0, q1, n1, c1, q2, n2, c2, q3, n3, c3, hnb⟩ := HN4.out
    have hX := (HT4.out.set hB HA4.out 5 (.slice (some ⟨w4.heap.size, 0, none⟩) 1 1)).alloc (.cells #[.int .i64 ((n4 : Int) - 1)] 3)
    have HXX := Lib.hid hX
    obtain ⟨xs9, hown⟩ := hX.own
    clear hX
    have x0 : w4.cell? ⟨WA.heap.size, 0, none⟩ = some (.int .i64 k0) := cell_blk hnb 0 _ rfl
    have y0 : w4.frozen? ⟨WA.heap.size, 0, none⟩ = false := free_blk hnb 0
    have x1 : w4.cell? ⟨WA.heap.size, 1, none⟩ = some (.string s0) := cell_blk hnb 1 _ rfl
    have y1 : w4.frozen? ⟨WA.heap.size, 1, none⟩ = false := free_blk hnb 1
    have x2 : w4.cell? ⟨WA.heap.size, 2, none⟩ = some (.bool g0) := cell_blk hnb 2 _ rfl
    have y2 : w4.frozen? ⟨WA.heap.size, 2, none⟩ = false := free_blk hnb 2
    have x3 : w4.cell? ⟨WA.heap.size, 3, none⟩ = some (.slice q1 n1 c1) := cell_blk hnb 3 _ rfl
    have y3 : w4.frozen? ⟨WA.heap.size, 3, none⟩ = false := free_blk hnb 3
    have x4 : w4.cell? ⟨WA.heap.size, 4, none⟩ = some (.slice q2 n2 c2) := cell_blk hnb 4 _ rfl
    have y4 : w4.frozen? ⟨WA.heap.size, 4, none⟩ = false := free_blk hnb 4
    have x5 : w4.cell? ⟨WA.heap.size, 5, none⟩ = some (.slice q3 n3 c3) := cell_blk hnb 5 _ rfl
    have y5 : w4.frozen? ⟨WA.heap.size, 5, none⟩ = false := free_blk hnb 5
    have hBl : WA.heap.size < w4.heap.size := (Array.getElem?_eq_some_iff.1 hnb).1
    clear hnb
    go_wp2_with (first
      | (at_builtin; refine wpList_append_own_at _ rfl _ _ 70 rfl base 80 i0 (.agg #[.int .i64 0, .string ⟨#[]⟩, .bool false, .slice none 0 0, .slice none 0 0, .slice none 0 0]) 6 104 Tryz.underlying70 hi0 hz0 hz1 hz2 rfl (by decide) _ _ _ rfl (hown.alloc _) ⟨w4.heap.size + 1, 0, none⟩ 1 1 [.int .i64 k0, .string s0, .bool g0, .slice q1 n1 c1, .slice q2 n2 c2, .slice (some ⟨w4.heap.size, 0, none⟩) 1 1] rfl rfl (cells_row _ _ (by simp [World.setCell]) _ _) (by simp [Value.oneCell']) (by unfold maxLen; omega) (by omega) (by simp [World.setCell]; omega) ?_)
      | fail)
    intro v' w9 hown9 hgrow _ hob
    have HP : Hid (TreePost (2 * m + 1) (2 * D + 6) b sv zs i base (.slice p n c) n w (.returned v') w9) := Lib.hid ⟨v', n4 + 1, _, rfl, by omega, by omega, by omega, (HXX.out.alloc _).grown hown9 hgrow (by simpa [World.setCell] using hob)⟩
    clear hown9 hgrow hown hob
    go_wp2
    go_ret
    exact HP.out
  · have HN := Lib.hid (NodeAt.new WA 12)
    have HTA := Lib.hid (HT.out.alloc (.cells #[.int .i64 12, .string ⟨#[]⟩, .bool false, .slice none 0 0, .slice none 0 0, .slice none 0 0] 80))
    have HA : Hid (Away (.slice p n c) WA.heap.size) := Lib.hid (HT.out.away (Nat.le_refl _))
    obtain ⟨xs4, ho4⟩ := HTA.out.own
    have hz4 := HTA.out.size
    have hw4 := HN.out.lt
    go_wp2_with fail
    refine (hd b sv zs _ base _ n xs4 _ HTA.out.tape (by omega) hb (by omega) ho4 (by omega)).mono ?_
    rintro e w4 ⟨v4, n4, i4, rfl, hlt4, hle4, hi4, ht4⟩
    obtain ⟨ys4, hoo4⟩ := ht4.own
    obtain ⟨p4, c4, rfl⟩ := own_form hoo4
    have HT4 := Lib.hid (HTA.out.call ht4)
    have HA4 : Hid (Away (.slice p4 n4 c4) WA.heap.size) := Lib.hid (fun j hj e => ht4.heir.ne (fun h => HA.out _ h rfl) hw4 (e ▸ hj))
    have HN4 := Lib.hid (HN.out.only ht4.only hBb HA.out)
    clear ho4 hoo4 ht4 hz4 hw4
    obtain ⟨k0, s0, g0, q1, n1, c1, q2, n2, c2, q3, n3, c3, hnb⟩ := HN4.out
    have HTA5 := Lib.hid ((HT4.out.set hB HA4.out 5 (.slice (some ⟨w4.heap.size, 0, none⟩) 1 1)).alloc (.cells #[.int .i64 ((n4 : Int) - 1)] 3))
    have HNA5 : Hid (NodeAt WA.heap.size ((w4.setCell ⟨WA.heap.size, 5, none⟩ (.slice (some ⟨w4.heap.size, 0, none⟩) 1 1)).alloc (.cells #[.int .i64 ((n4 : Int) - 1)] 3))) := Lib.hid ((HN4.out.args _ _ _).keep (((Below.refl _ _).alloc (Nat.le_refl _) _).block _ (HN4.out.args _ _ _).lt))
    have x0 : w4.cell? ⟨WA.heap.size, 0, none⟩ = some (.int .i64 k0) := cell_blk hnb 0 _ rfl
    have y0 : w4.frozen? ⟨WA.heap.size, 0, none⟩ = false := free_blk hnb 0
    have x1 : w4.cell? ⟨WA.heap.size, 1, none⟩ = some (.string s0) := cell_blk hnb 1 _ rfl
    have y1 : w4.frozen? ⟨WA.heap.size, 1, none⟩ = false := free_blk hnb 1
    have x2 : w4.cell? ⟨WA.heap.size, 2, none⟩ = some (.bool g0) := cell_blk hnb 2 _ rfl
    have y2 : w4.frozen? ⟨WA.heap.size, 2, none⟩ = false := free_blk hnb 2
    have x3 : w4.cell? ⟨WA.heap.size, 3, none⟩ = some (.slice q1 n1 c1) := cell_blk hnb 3 _ rfl
    have y3 : w4.frozen? ⟨WA.heap.size, 3, none⟩ = false := free_blk hnb 3
    have x4 : w4.cell? ⟨WA.heap.size, 4, none⟩ = some (.slice q2 n2 c2) := cell_blk hnb 4 _ rfl
    have y4 : w4.frozen? ⟨WA.heap.size, 4, none⟩ = false := free_blk hnb 4
    have x5 : w4.cell? ⟨WA.heap.size, 5, none⟩ = some (.slice q3 n3 c3) := cell_blk hnb 5 _ rfl
    have y5 : w4.frozen? ⟨WA.heap.size, 5, none⟩ = false := free_blk hnb 5
    have hBl : WA.heap.size < w4.heap.size := (Array.getElem?_eq_some_iff.1 hnb).1
    clear hnb
    go_wp2_with fail
    refine (next_tr 4 HTA5.out (by omega) (by omega) (by omega)).mono ?_
    rintro e w5 ⟨m1, hm1, rfl, ht5, hk5⟩
    have HTX := Lib.hid ht5
    have HNX := Lib.hid (HNA5.out.touch hk5 hBb)
    clear ht5 hk5 x0 y0 x1 y1 x2 y2 x3 y3 x4 y4 x5 y5 hBl
    go_wp2_with fail
    refine (fraction_at m1 1 _ (by omega) (by omega) (by omega)).mono ?_
    rintro e w8 ⟨r1, l1, d1, r2, l2, d2, rfl, hb8⟩
    obtain ⟨k0, s0, g0, q1, n1, c1, q2, n2, c2, q3, n3, c3, hnb⟩ := HNX.out.keep (hb8.block _ HNX.out.lt)
    have hX := (((HTX.out.below hb8).set hB HA4.out 2 (.bool false)).set hB HA4.out 3 (.slice r1 l1 d1)).set hB HA4.out 4 (.slice r2 l2 d2)
    have HXX := Lib.hid hX
    obtain ⟨xs9, hown⟩ := hX.own
    clear hb8 hX
    have x0 : w8.cell? ⟨WA.heap.size, 0, none⟩ = some (.int .i64 k0) := cell_blk hnb 0 _ rfl
    have y0 : w8.frozen? ⟨WA.heap.size, 0, none⟩ = false := free_blk hnb 0
    have x1 : w8.cell? ⟨WA.heap.size, 1, none⟩ = some (.string s0) := cell_blk hnb 1 _ rfl
    have y1 : w8.frozen? ⟨WA.heap.size, 1, none⟩ = false := free_blk hnb 1
    have x2 : w8.cell? ⟨WA.heap.size, 2, none⟩ = some (.bool g0) := cell_blk hnb 2 _ rfl
    have y2 : w8.frozen? ⟨WA.heap.size, 2, none⟩ = false := free_blk hnb 2
    have x3 : w8.cell? ⟨WA.heap.size, 3, none⟩ = some (.slice q1 n1 c1) := cell_blk hnb 3 _ rfl
    have y3 : w8.frozen? ⟨WA.heap.size, 3, none⟩ = false := free_blk hnb 3
    have x4 : w8.cell? ⟨WA.heap.size, 4, none⟩ = some (.slice q2 n2 c2) := cell_blk hnb 4 _ rfl
    have y4 : w8.frozen? ⟨WA.heap.size, 4, none⟩ = false := free_blk hnb 4
    have x5 : w8.cell? ⟨WA.heap.size, 5, none⟩ = some (.slice q3 n3 c3) := cell_blk hnb 5 _ rfl
    have y5 : w8.frozen? ⟨WA.heap.size, 5, none⟩ = false := free_blk hnb 5
    have hBl : WA.heap.size < w8.heap.size := (Array.getElem?_eq_some_iff.1 hnb).1
    clear hnb
    go_wp2_with (first
      | (at_builtin; refine wpList_append_own_at _ rfl _ _ 70 rfl base 80 i0 (.agg #[.int .i64 0, .string ⟨#[]⟩, .bool false, .slice none 0 0, .slice none 0 0, .slice none 0 0]) 6 104 Tryz.underlying70 hi0 hz0 hz1 hz2 rfl (by decide) _ _ _ rfl (hown.alloc _) ⟨w8.heap.size, 0, none⟩ 1 1 [.int .i64 k0, .string s0, .bool false, .slice r1 l1 d1, .slice r2 l2 d2, .slice q3 n3 c3] rfl rfl (cells_row _ _ (by simp [World.setCell]) _ _) (by simp [Value.oneCell']) (by unfold maxLen; omega) (by omega) (by simp [World.setCell]; omega) ?_)
      | fail)
    intro v' w9 hown9 hgrow _ hob
    have HP : Hid (TreePost (2 * m + 1) (2 * D + 6) b sv zs i base (.slice p n c) n w (.returned v') w9) := Lib.hid ⟨v', n4 + 1, _, rfl, by omega, by omega, by omega, (HXX.out.alloc _).grown hown9 hgrow (by simpa [World.setCell] using hob)⟩
    clear hown9 hgrow hown hob
    go_wp2
    go_ret
    exact HP.out
  · have e1 : ((1 : Int) + (v : Int) == 1) = false := by simp; omega
    have e2 : ((1 : Int) + (v : Int) == 2) = false := by simp; omega
    have e3 : ((1 : Int) + (v : Int) == 3) = false := by simp; omega
    have e10 : ((1 : Int) + (v : Int) == 10) = false := by simp; omega
    have e11 : ((1 : Int) + (v : Int) == 11) = false := by simp; omega
    have e12 : ((1 : Int) + (v : Int) == 12) = false := by simp; omega
    have HN := Lib.hid (NodeAt.new WA (1 + (v : Int)))
    have HTA := Lib.hid (HT.out.alloc (.cells #[.int .i64 (1 + (v : Int)), .string ⟨#[]⟩, .bool false, .slice none 0 0, .slice none 0 0, .slice none 0 0] 80))
    have HA : Hid (Away (.slice p n c) WA.heap.size) := Lib.hid (HT.out.away (Nat.le_refl _))
    obtain ⟨xs4, ho4⟩ := HTA.out.own
    have hz4 := HTA.out.size
    have hw4 := HN.out.lt
    go_wp2_with fail
    refine (hd b sv zs _ base _ n xs4 _ HTA.out.tape (by omega) hb (by omega) ho4 (by omega)).mono ?_
    rintro e w4 ⟨v4, n4, i4, rfl, hlt4, hle4, hi4, ht4⟩
    obtain ⟨ys4, hoo4⟩ := ht4.own
    obtain ⟨p4, c4, rfl⟩ := own_form hoo4
    have HT4 := Lib.hid (HTA.out.call ht4)
    have HA4 : Hid (Away (.slice p4 n4 c4) WA.heap.size) := Lib.hid (fun j hj e => ht4.heir.ne (fun h => HA.out _ h rfl) hw4 (e ▸ hj))
    have HN4 := Lib.hid (HN.out.only ht4.only hBb HA.out)
    clear ho4 hoo4 ht4 hz4 hw4
    obtain ⟨xs5, ho5⟩ := HT4.out.own
    have hz5 := HT4.out.size
    have hw5 := HN4.out.lt
    go_wp2_with fail
    refine (hd b sv zs _ base _ n4 xs5 _ HT4.out.tape (by omega) hb (by omega) ho5 (by omega)).mono ?_
    rintro e w5 ⟨v5, n5, i5, rfl, hlt5, hle5, hi5, ht5⟩
    obtain ⟨ys5, hoo5⟩ := ht5.own
    obtain ⟨p5, c5, rfl⟩ := own_form hoo5
    have HT5 := Lib.hid (HT4.out.call ht5)
    have HA5 : Hid (Away (.slice p5 n5 c5) WA.heap.size) := Lib.hid (fun j hj e => ht5.heir.ne (fun h => HA4.out _ h rfl) hw5 (e ▸ hj))
    have HN5 := Lib.hid (HN4.out.only ht5.only hBb HA4.out)
    clear ho5 hoo5 ht5 hz5 hw5
    obtain ⟨k0, s0, g0, q1, n1, c1, q2, n2, c2, q3, n3, c3, hnb⟩ := HN5.out
    have hX := (HT5.out.set hB HA5.out 5 (.slice (some ⟨w5.heap.size, 0, none⟩) 2 2)).alloc (.cells #[.int .i64 ((n4 : Int) - 1), .int .i64 ((n5 : Int) - 1)] 3)
    have HXX := Lib.hid hX
    obtain ⟨xs9, hown⟩ := hX.own
    clear hX
    have x0 : w5.cell? ⟨WA.heap.size, 0, none⟩ = some (.int .i64 k0) := cell_blk hnb 0 _ rfl
    have y0 : w5.frozen? ⟨WA.heap.size, 0, none⟩ = false := free_blk hnb 0
    have x1 : w5.cell? ⟨WA.heap.size, 1, none⟩ = some (.string s0) := cell_blk hnb 1 _ rfl
    have y1 : w5.frozen? ⟨WA.heap.size, 1, none⟩ = false := free_blk hnb 1
    have x2 : w5.cell? ⟨WA.heap.size, 2, none⟩ = some (.bool g0) := cell_blk hnb 2 _ rfl
    have y2 : w5.frozen? ⟨WA.heap.size, 2, none⟩ = false := free_blk hnb 2
    have x3 : w5.cell? ⟨WA.heap.size, 3, none⟩ = some (.slice q1 n1 c1) := cell_blk hnb 3 _ rfl
    have y3 : w5.frozen? ⟨WA.heap.size, 3, none⟩ = false := free_blk hnb 3
    have x4 : w5.cell? ⟨WA.heap.size, 4, none⟩ = some (.slice q2 n2 c2) := cell_blk hnb 4 _ rfl
    have y4 : w5.frozen? ⟨WA.heap.size, 4, none⟩ = false := free_blk hnb 4
    have x5 : w5.cell? ⟨WA.heap.size, 5, none⟩ = some (.slice q3 n3 c3) := cell_blk hnb 5 _ rfl
    have y5 : w5.frozen? ⟨WA.heap.size, 5, none⟩ = false := free_blk hnb 5
    have hBl : WA.heap.size < w5.heap.size := (Array.getElem?_eq_some_iff.1 hnb).1
    clear hnb
    go_wp2_with (first
      | (at_builtin; refine wpList_append_own_at _ rfl _ _ 70 rfl base 80 i0 (.agg #[.int .i64 0, .string ⟨#[]⟩, .bool false, .slice none 0 0, .slice none 0 0, .slice none 0 0]) 6 104 Tryz.underlying70 hi0 hz0 hz1 hz2 rfl (by decide) _ _ _ rfl (hown.alloc _) ⟨w5.heap.size + 1, 0, none⟩ 1 1 [.int .i64 k0, .string s0, .bool g0, .slice q1 n1 c1, .slice q2 n2 c2, .slice (some ⟨w5.heap.size, 0, none⟩) 2 2] rfl rfl (cells_row _ _ (by simp [World.setCell]) _ _) (by simp [Value.oneCell']) (by unfold maxLen; omega) (by omega) (by simp [World.setCell]; omega) ?_)
      | fail)
    intro v' w9 hown9 hgrow _ hob
    have HP : Hid (TreePost (2 * m + 1) (2 * D + 6) b sv zs i base (.slice p n c) n w (.returned v') w9) := Lib.hid ⟨v', n5 + 1, _, rfl, by omega, by omega, by omega, (HXX.out.alloc _).grown hown9 hgrow (by simpa [World.setCell] using hob)⟩
    clear hown9 hgrow hown hob
    go_wp2
    go_ret
    exact HP.out
theorem tree_2 : TreeOK 2 7 38 := tree_succ 1 3 16 (tree_succ 0 1 5 tree_0 (by omega) (by omega) (by omega)) (by omega) (by omega) (by omega)
set_option maxHeartbeats 1600000 in
theorem nodes_any (b : Nat) (sv : Value) (zs : List Int) (i : Nat) (w : World) (hT : TapeAt b sv zs i w) (hi : i ≤ 50000) :
    Calls Tryz.prog 28 #[.pointer (some ⟨b, 0, none⟩), .int .i64 2] w (RowPost 80 6 7 38 b sv zs i w) := by
  have HT := Lib.hid hT
  have hlb := hT.lt
  clear hT
  go_enter Tryz.func28, Tryz.ntmps28
  go_wp2_with fail
  refine (tree_2 b sv zs i w.heap.size (.slice none 0 0) 0 [] w HT.out (by omega) hlb (Nat.le_refl _) (World.ownsRow_nil _ _ _ _) (by omega)).mono ?_
  rintro e w1 ⟨v, n, i', rfl, hn0, hn, hi', ht⟩
  have HP : Hid (RowPost 80 6 7 38 b sv zs i w (.returned v) w1) := Lib.hid (by
    obtain ⟨xs, ho⟩ := ht.own
    exact ⟨v, n, xs, i', rfl, ho, by omega, hi', ⟨ht.tape, ht.only.touch rfl, hlb⟩⟩)
  clear ht
  go_wp2_with fail
  go_ret
  exact HP.out
end Go.Proofs.YtkgkjoologjehaaGreatDoor
