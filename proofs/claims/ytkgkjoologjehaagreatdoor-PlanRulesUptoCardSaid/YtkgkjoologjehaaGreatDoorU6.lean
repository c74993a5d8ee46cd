/- The generator of expressions, at depth 0. -/
import Derived.Test.YtkgkjoologjehaaGreatDoorU5
import Derived.Test.YtkgkjoologjehaaGreatDoorR10
namespace Go.Proofs.YtkgkjoologjehaaGreatDoor
open Go.RowKit Go.Sort Cal Go.Maps
theorem next_tr {b : Nat} {sv : Value} {zs : List Int} {i base m : Nat} {v0 v : Value} {w0 w : World} (n : Nat) (h : Tr b sv zs i base v0 w0 v m w) (hi : i ≤ 1000000) (h1 : 1 ≤ n) (h2 : n ≤ 1000000) :
    Calls Tryz.prog 25 #[.pointer (some ⟨b, 0, none⟩), .int .i64 (n : Int)] w fun e w' => ∃ k : Nat, k < n ∧ e = .returned (.int .i64 (k : Int)) ∧ Tr b sv zs (i + 1) base v0 w0 v m w' ∧ Touch b w w' :=
  (next_some b sv zs i n w h.tape hi (by omega) (by omega)).mono fun _ _ ⟨v, h0, hv, he, hT, ht⟩ => by
    obtain ⟨k, rfl⟩ := Int.eq_ofNat_of_zero_le h0
    exact ⟨k, by omega, he, h.touch hT ht, ht⟩
/-- The generator of expressions at depth d: m nodes at most, D draws at most. -/
def TreeOK (d m D : Nat) : Prop :=
  ∀ (b : Nat) (sv : Value) (zs : List Int) (i base : Nat) (v : Value) (n : Nat) (xs : List Value) (w : World), TapeAt b sv zs i w → i + 1000 * d ≤ 60000 → b < base → base ≤ w.heap.size → w.ownsRow base 80 6 v n xs → n + 100 * d ≤ 1000 →
    Calls Tryz.prog 49 #[.pointer (some ⟨b, 0, none⟩), v, .int .i64 (d : Int)] w (TreePost m D b sv zs i base v n w)
set_option maxRecDepth 100000 in
set_option maxHeartbeats 6400000 in
theorem tree_0 : TreeOK 0 1 5 := by
  intro b sv zs i base v n xs w hT hi hb hle hown hn
  obtain ⟨p, c, rfl⟩ := own_form hown
  obtain ⟨i0, hi0, hz0, hz1, hz2⟩ := info_parts info_node
  have HS := Lib.hid (Tr.start hT hown hb hle)
  clear hT hown
  go_enter Tryz.func49, Tryz.ntmps49
  go_wp2_with fail
  refine (next_tr 3 HS.out (by omega) (by omega) (by omega)).mono ?_
  rintro e WA ⟨v, hv, rfl, hTr, hk⟩
  have HT := Lib.hid hTr
  have hB : w.heap.size ≤ WA.heap.size := hTr.size
  have hBb : WA.heap.size ≠ b := by omega
  have hv3 : v = 0 ∨ v = 1 ∨ v = 2 := by omega
  clear hTr hk hv
  rcases hv3 with rfl | rfl | rfl
  · have HN := Lib.hid (NodeAt.new WA 1)
    have HTA := Lib.hid (HT.out.alloc (.cells #[.int .i64 1, .string ⟨#[]⟩, .bool false, .slice none 0 0, .slice none 0 0, .slice none 0 0] 80))
    have HA : Hid (Away (.slice p n c) WA.heap.size) := Lib.hid (HT.out.away (Nat.le_refl _))
    go_wp2_with fail
    refine (next_tr 300 HTA.out (by omega) (by omega) (by omega)).mono ?_
    rintro e w3 ⟨m1, hm1, rfl, ht3, hk3⟩
    have HT3 := Lib.hid (ht3.alloc (.cells #[.int .i64 1, .int .i64 2, .int .i64 4, .int .i64 100, .int .i64 8] 3))
    have HX3 := Lib.hid (Box.new w3 [.int .i64 1, .int .i64 2, .int .i64 4, .int .i64 100, .int .i64 8] 3)
    have HN3 := Lib.hid ((HN.out.touch hk3 hBb).keep (HX3.out.bl.block _ (HN.out.touch hk3 hBb).lt))
    have hs3 : w.heap.size ≤ w3.heap.size := ht3.size
    clear ht3 hk3
    go_wp2_with fail
    refine (next_tr 5 HT3.out (by omega) (by omega) (by omega)).mono ?_
    rintro e w4 ⟨k, hk, rfl, ht4, hk4⟩
    have hcell : ∃ cc : Nat, 0 < cc ∧ cc ≤ 100 ∧ w4.cell? ⟨w3.heap.size, k, none⟩ = some (.int .i64 (cc : Int)) := by
      have h := fun j u hj => (hk4.cell (j := j) HX3.out.sz (by omega)).trans (HX3.out.c j u hj)
      have h5 : k = 0 ∨ k = 1 ∨ k = 2 ∨ k = 3 ∨ k = 4 := by omega
      rcases h5 with rfl | rfl | rfl | rfl | rfl
      · exact ⟨1, by omega, by omega, h 0 _ rfl⟩
      · exact ⟨2, by omega, by omega, h 1 _ rfl⟩
      · exact ⟨4, by omega, by omega, h 2 _ rfl⟩
      · exact ⟨100, by omega, by omega, h 3 _ rfl⟩
      · exact ⟨8, by omega, by omega, h 4 _ rfl⟩
    obtain ⟨cc, hc0, hc1, hcc⟩ := hcell
    have HTX := Lib.hid ht4
    have HNX := Lib.hid (HN3.out.touch hk4 hBb)
    clear ht4 hk4
    go_wp2_with fail
    refine (fraction_at m1 cc _ (by omega) (by omega) (by omega)).mono ?_
    rintro e w8 ⟨r1, l1, d1, r2, l2, d2, rfl, hb8⟩
    obtain ⟨k0, s0, g0, q1, n1, c1, q2, n2, c2, q3, n3, c3, hnb⟩ := HNX.out.keep (hb8.block _ HNX.out.lt)
    have hX := (((HTX.out.below hb8).set hB HA.out 2 (.bool false)).set hB HA.out 3 (.slice r1 l1 d1)).set hB HA.out 4 (.slice r2 l2 d2)
    have HXX := Lib.hid hX
    obtain ⟨xs9, hown⟩ := hX.own
    clear hb8 hX
    have x0 : w8.cell? ⟨WA.heap.size, 0, none⟩ = some (.int .i64 k0) := cell_blk hnb 0 _ rfl
    have y0 : w8.frozen? ⟨WA.heap.size, 0, none⟩ = false := free_blk hnb 0
    have x1 : w8.cell? ⟨WA.heap.size, 1, none⟩ = some (.string s0) := cell_blk hnb 1 _ rfl
    have y1 : w8.frozen? ⟨WA.heap.size, 1, none⟩ = false := free_blk hnb 1
    have x2 : w8.cell? ⟨WA.heap.size, 2, none⟩ = some (.bool g0) := cell_blk hnb 2 _ rfl
    have y2 : w8.frozen? ⟨WA.heap.size, 2, none⟩ = false := free_blk hnb 2
    have x3 : w8.cell? ⟨WA.heap.size, 3, none⟩ = some (.slice q1 n1 c1) := cell_blk hnb 3 _ rfl
    have y3 : w8.frozen? ⟨WA.heap.size, 3, none⟩ = false := free_blk hnb 3
    have x4 : w8.cell? ⟨WA.heap.size, 4, none⟩ = some (.slice q2 n2 c2) := cell_blk hnb 4 _ rfl
    have y4 : w8.frozen? ⟨WA.heap.size, 4, none⟩ = false := free_blk hnb 4
    have x5 : w8.cell? ⟨WA.heap.size, 5, none⟩ = some (.slice q3 n3 c3) := cell_blk hnb 5 _ rfl
    have y5 : w8.frozen? ⟨WA.heap.size, 5, none⟩ = false := free_blk hnb 5
    have hBl : WA.heap.size < w8.heap.size := (Array.getElem?_eq_some_iff.1 hnb).1
    clear hnb
    go_wp2_with (first
      | (at_builtin; refine wpList_append_own_at _ rfl _ _ 70 rfl base 80 i0 (.agg #[.int .i64 0, .string ⟨#[]⟩, .bool false, .slice none 0 0, .slice none 0 0, .slice none 0 0]) 6 104 Tryz.underlying70 hi0 hz0 hz1 hz2 rfl (by decide) _ _ _ rfl (hown.alloc _) ⟨w8.heap.size, 0, none⟩ 1 1 [.int .i64 k0, .string s0, .bool false, .slice r1 l1 d1, .slice r2 l2 d2, .slice q3 n3 c3] rfl rfl (cells_row _ _ (by simp [World.setCell]) _ _) (by simp [Value.oneCell']) (by unfold maxLen; omega) (by omega) (by simp [World.setCell]; omega) ?_)
      | fail)
    intro v' w9 hown9 hgrow _ hob
    have HP : Hid (TreePost 1 5 b sv zs i base (.slice p n c) n w (.returned v') w9) := Lib.hid ⟨v', n + 1, _, rfl, by omega, by omega, by omega, (HXX.out.alloc _).grown hown9 hgrow (by simpa [World.setCell] using hob)⟩
    clear hown9 hgrow hown hob
    go_wp2
    go_ret
    exact HP.out
  · have HN := Lib.hid (NodeAt.new WA 2)
    have HTA := Lib.hid (HT.out.alloc (.cells #[.int .i64 2, .string ⟨#[]⟩, .bool false, .slice none 0 0, .slice none 0 0, .slice none 0 0] 80))
    have HA : Hid (Away (.slice p n c) WA.heap.size) := Lib.hid (HT.out.away (Nat.le_refl _))
    go_wp2_with fail
    refine (next_tr 6 HTA.out (by omega) (by omega) (by omega)).mono ?_
    rintro e w3 ⟨m1, hm1, rfl, ht3, hk3⟩
    have HT3 := Lib.hid ht3
    have HN3 := Lib.hid (HN.out.touch hk3 hBb)
    clear ht3 hk3
    go_wp2_with fail
    refine (word_any m1 _).mono ?_
    rintro e w4 ⟨s, hs, rfl, hb4⟩
    obtain ⟨k0, s0, g0, q1, n1, c1, q2, n2, c2, q3, n3, c3, hnb⟩ := HN3.out.keep (hb4.block _ HN3.out.lt)
    have hX := (HT3.out.below hb4).set hB HA.out 1 (.string s)
    have HXX := Lib.hid hX
    obtain ⟨xs9, hown⟩ := hX.own
    clear hb4 hX
    have x0 : w4.cell? ⟨WA.heap.size, 0, none⟩ = some (.int .i64 k0) := cell_blk hnb 0 _ rfl
    have y0 : w4.frozen? ⟨WA.heap.size, 0, none⟩ = false := free_blk hnb 0
    have x1 : w4.cell? ⟨WA.heap.size, 1, none⟩ = some (.string s0) := cell_blk hnb 1 _ rfl
    have y1 : w4.frozen? ⟨WA.heap.size, 1, none⟩ = false := free_blk hnb 1
    have x2 : w4.cell? ⟨WA.heap.size, 2, none⟩ = some (.bool g0) := cell_blk hnb 2 _ rfl
    have y2 : w4.frozen? ⟨WA.heap.size, 2, none⟩ = false := free_blk hnb 2
    have x3 : w4.cell? ⟨WA.heap.size, 3, none⟩ = some (.slice q1 n1 c1) := cell_blk hnb 3 _ rfl
    have y3 : w4.frozen? ⟨WA.heap.size, 3, none⟩ = false := free_blk hnb 3
    have x4 : w4.cell? ⟨WA.heap.size, 4, none⟩ = some (.slice q2 n2 c2) := cell_blk hnb 4 _ rfl
    have y4 : w4.frozen? ⟨WA.heap.size, 4, none⟩ = false := free_blk hnb 4
    have x5 : w4.cell? ⟨WA.heap.size, 5, none⟩ = some (.slice q3 n3 c3) := cell_blk hnb 5 _ rfl
    have y5 : w4.frozen? ⟨WA.heap.size, 5, none⟩ = false := free_blk hnb 5
    have hBl : WA.heap.size < w4.heap.size := (Array.getElem?_eq_some_iff.1 hnb).1
    clear hnb
    go_wp2_with (first
      | (at_builtin; refine wpList_append_own_at _ rfl _ _ 70 rfl base 80 i0 (.agg #[.int .i64 0, .string ⟨#[]⟩, .bool false, .slice none 0 0, .slice none 0 0, .slice none 0 0]) 6 104 Tryz.underlying70 hi0 hz0 hz1 hz2 rfl (by decide) _ _ _ rfl (hown.alloc _) ⟨w4.heap.size, 0, none⟩ 1 1 [.int .i64 k0, .string s, .bool g0, .slice q1 n1 c1, .slice q2 n2 c2, .slice q3 n3 c3] rfl rfl (cells_row _ _ (by simp [World.setCell]) _ _) (by simp [Value.oneCell']) (by unfold maxLen; omega) (by omega) (by simp [World.setCell]; omega) ?_)
      | fail)
    intro v' w9 hown9 hgrow _ hob
    have HP : Hid (TreePost 1 5 b sv zs i base (.slice p n c) n w (.returned v') w9) := Lib.hid ⟨v', n + 1, _, rfl, by omega, by omega, by omega, (HXX.out.alloc _).grown hown9 hgrow (by simpa [World.setCell] using hob)⟩
    clear hown9 hgrow hown hob
    go_wp2
    go_ret
    exact HP.out
  · have HN := Lib.hid (NodeAt.new WA 3)
    have HTA := Lib.hid (HT.out.alloc (.cells #[.int .i64 3, .string ⟨#[]⟩, .bool false, .slice none 0 0, .slice none 0 0, .slice none 0 0] 80))
    have HA : Hid (Away (.slice p n c) WA.heap.size) := Lib.hid (HT.out.away (Nat.le_refl _))
    go_wp2_with fail
    refine (reference_any b sv zs _ _ HTA.out.tape (by omega)).mono ?_
    rintro e w4 ⟨s, i4, hs, rfl, hi4, hT4, ht4⟩
    obtain ⟨k0, s0, g0, q1, n1, c1, q2, n2, c2, q3, n3, c3, hnb⟩ := HN.out.touch ht4 hBb
    have hX := (HTA.out.touch hT4 ht4).set hB HA.out 1 (.string s)
    have HXX := Lib.hid hX
    obtain ⟨xs9, hown⟩ := hX.own
    clear hT4 ht4 hX
    have x0 : w4.cell? ⟨WA.heap.size, 0, none⟩ = some (.int .i64 k0) := cell_blk hnb 0 _ rfl
    have y0 : w4.frozen? ⟨WA.heap.size, 0, none⟩ = false := free_blk hnb 0
    have x1 : w4.cell? ⟨WA.heap.size, 1, none⟩ = some (.string s0) := cell_blk hnb 1 _ rfl
    have y1 : w4.frozen? ⟨WA.heap.size, 1, none⟩ = false := free_blk hnb 1
    have x2 : w4.cell? ⟨WA.heap.size, 2, none⟩ = some (.bool g0) := cell_blk hnb 2 _ rfl
    have y2 : w4.frozen? ⟨WA.heap.size, 2, none⟩ = false := free_blk hnb 2
    have x3 : w4.cell? ⟨WA.heap.size, 3, none⟩ = some (.slice q1 n1 c1) := cell_blk hnb 3 _ rfl
    have y3 : w4.frozen? ⟨WA.heap.size, 3, none⟩ = false := free_blk hnb 3
    have x4 : w4.cell? ⟨WA.heap.size, 4, none⟩ = some (.slice q2 n2 c2) := cell_blk hnb 4 _ rfl
    have y4 : w4.frozen? ⟨WA.heap.size, 4, none⟩ = false := free_blk hnb 4
    have x5 : w4.cell? ⟨WA.heap.size, 5, none⟩ = some (.slice q3 n3 c3) := cell_blk hnb 5 _ rfl
    have y5 : w4.frozen? ⟨WA.heap.size, 5, none⟩ = false := free_blk hnb 5
    have hBl : WA.heap.size < w4.heap.size := (Array.getElem?_eq_some_iff.1 hnb).1
    clear hnb
    go_wp2_with (first
      | (at_builtin; refine wpList_append_own_at _ rfl _ _ 70 rfl base 80 i0 (.agg #[.int .i64 0, .string ⟨#[]⟩, .bool false, .slice none 0 0, .slice none 0 0, .slice none 0 0]) 6 104 Tryz.underlying70 hi0 hz0 hz1 hz2 rfl (by decide) _ _ _ rfl (hown.alloc _) ⟨w4.heap.size, 0, none⟩ 1 1 [.int .i64 k0, .string s, .bool g0, .slice q1 n1 c1, .slice q2 n2 c2, .slice q3 n3 c3] rfl rfl (cells_row _ _ (by simp [World.setCell]) _ _) (by simp [Value.oneCell']) (by unfold maxLen; omega) (by omega) (by simp [World.setCell]; omega) ?_)
      | fail)
    intro v' w9 hown9 hgrow _ hob
    have HP : Hid (TreePost 1 5 b sv zs i base (.slice p n c) n w (.returned v') w9) := Lib.hid ⟨v', n + 1, _, rfl, by omega, by omega, by omega, (HXX.out.alloc _).grown hown9 hgrow (by simpa [World.setCell] using hob)⟩
    clear hown9 hgrow hown hob
    go_wp2
    go_ret
    exact HP.out
end Go.Proofs.YtkgkjoologjehaaGreatDoor
