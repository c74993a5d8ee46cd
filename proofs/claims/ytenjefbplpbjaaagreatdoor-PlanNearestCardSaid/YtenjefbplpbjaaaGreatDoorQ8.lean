/- Contract of readChain at the small plan's chain. -/
import Derived.Test.YtenjefbplpbjaaaGreatDoorQ7
namespace Go.Proofs.YtenjefbplpbjaaaGreatDoor
open Go.RowKit Go.Sort Cal Go.Maps
def stepL : List ByteArray := [⟨#[]⟩, ⟨#[99, 108, 97, 115, 115]⟩, ⟨#[112, 97, 114, 101, 110, 116]⟩, ⟨#[99, 97, 114, 114, 121]⟩, ⟨#[100, 114, 111, 112]⟩]
def stepC : List Value := [.int .i64 1, .int .i64 2, .int .i64 3, .int .i64 3, .int .i64 4, .int .i64 0]
theorem place_class (b : Nat) (w : World) (hc : ∀ j, j < 5 → w.cell? ⟨b, j, none⟩ = some (.string (stepL.getD j ByteArray.empty))) :
    Calls Tryz.prog 174 #[.slice (some ⟨b, 0, none⟩) 5 5, .string ⟨#[99, 108, 97, 115, 115]⟩] w fun e w' => e = .returned (.tuple #[.int .i64 1, .bool true]) ∧ w = w' :=
  place_at b 5 5 stepL ⟨#[99, 108, 97, 115, 115]⟩ 1 w rfl hc (by decide) (by decide) (by decide) (fun j h1 h2 => by omega) (by simp [stepL])
theorem place_carry (b : Nat) (w : World) (hc : ∀ j, j < 5 → w.cell? ⟨b, j, none⟩ = some (.string (stepL.getD j ByteArray.empty))) :
    Calls Tryz.prog 174 #[.slice (some ⟨b, 0, none⟩) 5 5, .string ⟨#[99, 97, 114, 114, 121]⟩] w fun e w' => e = .returned (.tuple #[.int .i64 3, .bool true]) ∧ w = w' :=
  place_at b 5 5 stepL ⟨#[99, 97, 114, 114, 121]⟩ 3 w rfl hc (by decide) (by decide) (by decide) (fun j h1 h2 => by
    obtain rfl | rfl : j = 1 ∨ j = 2 := by omega
    all_goals (first | (exfalso; omega) | (rw [ByteArray.toList_eq, ByteArray.toList_eq]; decide))) (by simp [stepL])
theorem place_drop (b : Nat) (w : World) (hc : ∀ j, j < 5 → w.cell? ⟨b, j, none⟩ = some (.string (stepL.getD j ByteArray.empty))) :
    Calls Tryz.prog 174 #[.slice (some ⟨b, 0, none⟩) 5 5, .string ⟨#[100, 114, 111, 112]⟩] w fun e w' => e = .returned (.tuple #[.int .i64 4, .bool true]) ∧ w = w' :=
  place_at b 5 5 stepL ⟨#[100, 114, 111, 112]⟩ 4 w rfl hc (by decide) (by decide) (by decide) (fun j h1 h2 => by
    obtain rfl | rfl | rfl : j = 1 ∨ j = 2 ∨ j = 3 := by omega
    all_goals (first | (exfalso; omega) | (rw [ByteArray.toList_eq, ByteArray.toList_eq]; decide))) (by simp [stepL])
theorem info_step : (Tryz.prog.info? 82).map (fun i => (i.zero, i.size, i.bytes)) = some (some (.agg #[.int .i64 0, .int .i64 0]), 2, 16) := by kernel_rfl
/-- The chain that readChain makes, in the first block of its own; its steps behind what was there at the loop's start. -/
def ChainIn (k : Nat) (w0 wl w : World) : Prop :=
  ∃ v, w.heap[w0.heap.size]? = some (.cells #[.string ⟨#[]⟩, v] 60 (0, 0)) ∧ w.ownsRow wl.heap.size 82 2 v k (stepC.take (2 * k)) ∧ Touch w0.heap.size wl w
theorem cells_two (w : World) (x y : Value) (t : TypeId) : ∀ (j : Nat) u, [x, y][j]? = some u → (w.alloc (.cells #[x, y] t)).cell? ((⟨w.heap.size, 0, none⟩ : Addr).add j) = some u := by
  intro j u hj
  have X := (Box.new w [x, y] t).c j u hj
  have e : ((⟨w.heap.size, 0, none⟩ : Addr).add j) = ⟨w.heap.size, j, none⟩ := by simp [Addr.add]; try omega
  rw [e]; exact X
theorem cells_two' (w : World) (n : Nat) (hn : n = w.heap.size) (x y : Value) (t : TypeId) : ∀ (j : Nat) u, [x, y][j]? = some u → (w.alloc (.cells #[x, y] t)).cell? ((⟨n, 0, none⟩ : Addr).add j) = some u := by
  subst hn; exact cells_two w x y t
theorem ChainIn.next {k : Nat} {w0 wl w w3 : World} {v v' : Value} (hlt : w0.heap.size < wl.heap.size) (hblk : w.heap[w0.heap.size]? = some (.cells #[.string ⟨#[]⟩, v] 60 (0, 0))) (hown : w3.ownsRow wl.heap.size 82 2 v' k (stepC.take (2 * k))) (ht : Touch w0.heap.size wl w)
    (hg : w.grownBy w3 v.ownBlock) (hlo : ∀ j, v.ownBlock = some j → wl.heap.size ≤ j) : ChainIn k w0 wl (w3.setCell ⟨w0.heap.size, 1, none⟩ v') := by
  have h3 : w3.heap[w0.heap.size]? = some (.cells #[.string ⟨#[]⟩, v] 60 (0, 0)) := (hg.block _ (Array.getElem?_eq_some_iff.1 hblk).1 (fun e => by have := hlo _ e.symm; omega)).trans hblk
  exact ⟨v', set_blk h3 1 v', ownsRow_touch hown ((Touch.refl _ _).set 1 v') hlt, (ht.grown hg hlo).set 1 v'⟩
theorem own_base' {w : World} {base b2 size n : Nat} {e : TypeId} {v : Value} {xs : List Value} (h : w.ownsRow base e size v n xs) (hb : b2 ≤ base) : w.ownsRow b2 e size v n xs := by
  refine ⟨h.1, ?_⟩
  rcases h.2 with h0 | ⟨g, cap, cur, hv, hbase, hblk, h1, h2, h3, h4⟩
  · exact Or.inl h0
  · exact Or.inr ⟨g, cap, cur, hv, Nat.le_trans hb hbase, hblk, h1, h2, h3, h4⟩
set_option maxRecDepth 100000 in
set_option maxHeartbeats 3200000 in
theorem readChain_at (w : World) (hE : Env w) :
    Calls Tryz.prog 110 #[.string ⟨#[97, 108, 108, 32, 99, 108, 97, 115, 115, 32, 50, 44, 32, 99, 97, 114, 114, 121, 32, 51, 44, 32, 100, 114, 111, 112]⟩] w fun e w' => (∃ g c, e = .returned (.tuple #[.agg #[.string ⟨#[]⟩, .slice (some ⟨g, 0, none⟩) 3 c], .bool true]) ∧ 3 ≤ c ∧ w.heap.size ≤ g ∧ w'.ownsRow w.heap.size 82 2 (.slice (some ⟨g, 0, none⟩) 3 c) 3 stepC) ∧ Below w.heap.size w w' := by
  obtain ⟨i0, hi0, hz0, hz1, hz2⟩ := info_parts info_step
  have hb0 : Below w.heap.size w (w.alloc (.cells #[.string ⟨#[]⟩, .slice none 0 0] 60)) := (Below.refl _ _).alloc (Nat.le_refl _) _
  have HB0 := Lib.hid hb0
  have HX := Lib.hid (Box.new w [.string ⟨#[]⟩, .slice none 0 0] 60)
  have HE := Lib.hid hE
  clear hE hb0
  go_enter Tryz.func110, Tryz.ntmps110
  go_wp2_with fail
  refine (cut_all _ (HE.out.below HB0.out)).mono ?_
  rintro e w1 ⟨rfl, hb1⟩
  have hblk : w1.heap[w.heap.size]? = some (.cells #[.string ⟨#[]⟩, .slice none 0 0] 60 (0, 0)) := by
    refine (hb1.block _ (by simp)).trans ?_
    show (Array.push w.heap _)[_]? = _
    rw [Array.getElem?_push, if_pos rfl]
  have HB1 := Lib.hid (chain0 HB0.out hb1)
  have hl1 : w.heap.size < w1.heap.size := (Array.getElem?_eq_some_iff.1 hblk).1
  have n0 : w1.cell? ⟨w.heap.size, 0, none⟩ = some (.string ⟨#[]⟩) := cell_blk hblk 0 _ rfl
  have f0 : w1.frozen? ⟨w.heap.size, 0, none⟩ = false := free_blk hblk 0
  have HK := Lib.hid hblk
  clear hb1 hblk
  go_wp2_with fail
  refine (hidden_all _).mono ?_
  rintro e w2 ⟨rfl, rfl⟩
  go_wp2_with fail
  obtain ⟨W, hW⟩ : ∃ W, W = w1.setCell ⟨w.heap.size, 0, none⟩ (.string ⟨#[]⟩) := ⟨_, rfl⟩
  rw [← hW]
  have hbW : Below w.heap.size w W := by rw [hW]; exact HB1.out.setCell (p := ⟨w.heap.size, 0, none⟩) (Nat.le_refl _) _
  have HKW : Hid (W.heap[w.heap.size]? = some (.cells #[.string ⟨#[]⟩, .slice none 0 0] 60 (0, 0))) := Lib.hid (by rw [hW]; exact set_blk HK.out 0 _)
  have hlW : w.heap.size < W.heap.size := (Array.getElem?_eq_some_iff.1 HKW.out).1
  have HBW := Lib.hid hbW
  clear hW n0 f0 hbW hl1
  refine (steps_any _).mono ?_
  rintro e w3 ⟨rfl, hb3⟩
  have HB3 := Lib.hid hb3
  have hl3 := hb3.size
  clear hb3
  go_wp2_with fail
  refine (split_steps _ (HE.out.below ((HBW.out.trans (HB3.out.mono (Nat.le_of_lt hlW))).alloc (by omega) _))).mono ?_
  rintro e w4 ⟨rfl, rfl⟩
  go_wp2_with fail
  obtain ⟨WL, hWL⟩ : ∃ W', W' = (w3.alloc (.cells #[.string ⟨#[]⟩, .string ⟨#[99, 108, 97, 115, 115]⟩, .string ⟨#[112, 97, 114, 101, 110, 116]⟩, .string ⟨#[99, 97, 114, 114, 121]⟩, .string ⟨#[100, 114, 111, 112]⟩] 98)).alloc (.cells #[.string ⟨#[99, 108, 97, 115, 115, 32, 50]⟩, .string ⟨#[99, 97, 114, 114, 121, 32, 51]⟩, .string ⟨#[100, 114, 111, 112]⟩] 9) := ⟨_, rfl⟩
  rw [← hWL]
  have hsL : WL.heap.size = w3.heap.size + 1 + 1 := by rw [hWL]; simp
  have hB3L : Below w3.heap.size w3 WL := by rw [hWL]; exact ((Below.refl _ _).alloc (Nat.le_refl _) _).alloc (by simp) _
  have HSL : Hid (∀ j, j < 5 → WL.cell? ⟨w3.heap.size, j, none⟩ = some (.string (stepL.getD j ByteArray.empty))) := Lib.hid (by
    intro j hj
    have X := ((Box.new w3 (stepL.map Value.string) 98).step ((Below.refl _ _).alloc (Nat.le_refl _) (.cells #[.string ⟨#[99, 108, 97, 115, 115, 32, 50]⟩, .string ⟨#[99, 97, 114, 114, 121, 32, 51]⟩, .string ⟨#[100, 114, 111, 112]⟩] 9)))
    have hc := X.c j (.string (stepL.getD j ByteArray.empty)) (by
      rw [List.getElem?_map, List.getD, List.getElem?_eq_getElem (show j < stepL.length from hj)]; rfl)
    rw [hWL]; exact hc)
  have HPL : Hid (∀ j u, [.string ⟨#[99, 108, 97, 115, 115, 32, 50]⟩, .string ⟨#[99, 97, 114, 114, 121, 32, 51]⟩, .string ⟨#[100, 114, 111, 112]⟩][j]? = some u → WL.cell? ⟨w3.heap.size + 1, j, none⟩ = some u) := Lib.hid (by
    intro j u hj
    have X := (Box.new (w3.alloc (.cells #[.string ⟨#[]⟩, .string ⟨#[99, 108, 97, 115, 115]⟩, .string ⟨#[112, 97, 114, 101, 110, 116]⟩, .string ⟨#[99, 97, 114, 114, 121]⟩, .string ⟨#[100, 114, 111, 112]⟩] 98)) [.string ⟨#[99, 108, 97, 115, 115, 32, 50]⟩, .string ⟨#[99, 97, 114, 114, 121, 32, 51]⟩, .string ⟨#[100, 114, 111, 112]⟩] 9).c j u hj
    rw [hWL]; rw [World.size_alloc] at X; exact X)
  have HBL : Hid (Below w.heap.size w WL) := Lib.hid ((HBW.out.trans (HB3.out.mono (Nat.le_of_lt hlW))).trans (hB3L.mono (by omega)))
  have HKL : Hid (WL.heap[w.heap.size]? = some (.cells #[.string ⟨#[]⟩, .slice none 0 0] 60 (0, 0))) := Lib.hid ((hB3L.block _ (by omega)).trans ((HB3.out.block _ hlW).trans HKW.out))
  have hn3 : w.heap.size < w3.heap.size := by omega
  clear hWL hB3L
  go_loopw [29] (fun i wr => ∃ k : Nat, k ≤ 3 ∧ i = .int .i64 k ∧ ChainIn k w WL wr) (fun i _ => 3 - (intOf i).toNat)
  case atStart => exact ⟨0, by omega, rfl, .slice none 0 0, HKL.out, World.ownsRow_nil _ _ _ _, Touch.refl _ _⟩
  case round =>
    obtain ⟨k, hk3, rfl, v, hblk, hown, ht⟩ := hrel
    have HBK := Lib.hid hblk
    have HO := Lib.hid hown
    have HT := Lib.hid ht
    have hsr := ht.size
    have hlr : w3.heap.size + 1 < wr.heap.size := by omega
    have g1 : w3.heap.size < WL.heap.size := by omega
    have g2 : w3.heap.size ≠ w.heap.size := by omega
    have g3 : w3.heap.size + 1 < WL.heap.size := by omega
    have g4 : w3.heap.size + 1 ≠ w.heap.size := by omega
    have g5 : w.heap.size < wr.heap.size := by omega
    have HEr : Hid (∀ W', Touch w.heap.size WL W' → Env W') := Lib.hid (fun W' h => HE.out.below (HBL.out.trans (h.below (by omega))))
    have HSr : Hid (∀ W', Touch w.heap.size WL W' → ∀ j, j < 5 → W'.cell? ⟨w3.heap.size, j, none⟩ = some (.string (stepL.getD j ByteArray.empty))) := Lib.hid (fun W' h j hj => (World.cell?_of_block (w := WL) (w' := W') (a := ⟨w3.heap.size, j, none⟩) (h.block _ g1 g2)).trans (HSL.out j hj))
    have HPr : Hid (∀ W', Touch w.heap.size WL W' → ∀ j u, [.string ⟨#[99, 108, 97, 115, 115, 32, 50]⟩, .string ⟨#[99, 97, 114, 114, 121, 32, 51]⟩, .string ⟨#[100, 114, 111, 112]⟩][j]? = some u → W'.cell? ⟨w3.heap.size + 1, j, none⟩ = some u) := Lib.hid (fun W' h j u hj => (World.cell?_of_block (w := WL) (w' := W') (a := ⟨w3.heap.size + 1, j, none⟩) (h.block _ g3 g4)).trans (HPL.out j u hj))
    clear hblk hown ht
    obtain rfl | rfl | rfl | rfl : k = 0 ∨ k = 1 ∨ k = 2 ∨ k = 3 := by omega
    · have d0 : wr.cell? ⟨w3.heap.size + 1, 0, none⟩ = some (.string ⟨#[99, 108, 97, 115, 115, 32, 50]⟩) := HPr.out wr HT.out 0 _ rfl
      go_wp2_with fail
      refine (cut_s0 _ (HEr.out _ HT.out)).mono ?_
      rintro e w5 ⟨rfl, hb5⟩
      have HT5 := Lib.hid (HT.out.trans (Touch.of_below (b := w.heap.size) hb5))
      have HB5 := Lib.hid hb5
      clear hb5 d0
      go_wp2_with fail
      refine (place_class w3.heap.size _ (HSr.out _ (HT5.out.trans (Touch.of_below ((Below.refl _ _).alloc (Nat.le_refl _) _))))).mono ?_
      rintro e w6 ⟨rfl, rfl⟩
      go_wp2_with fail
      refine (number_2 _).mono ?_
      rintro e w6 ⟨rfl, hb6⟩
      have hst : w6.heap[w5.heap.size]? = some (.cells #[.int .i64 1, .int .i64 0] 82 (0, 0)) := by
        refine (hb6.block _ (by simp)).trans ?_
        show (Array.push w5.heap _)[_]? = _
        rw [Array.getElem?_push, if_pos rfl]
      have hl56 : w5.heap.size < w6.heap.size := (Array.getElem?_eq_some_iff.1 hst).1
      have hl5 := HB5.out.size
      have hb56 : Below wr.heap.size wr w6 := (chain0 HB5.out (chain0 ((Below.refl _ _).alloc (Nat.le_refl _) _) hb6))
      have s0 : w6.cell? ⟨w5.heap.size, 0, none⟩ = some (.int .i64 1) := cell_blk hst 0 _ rfl
      have s1 : w6.cell? ⟨w5.heap.size, 1, none⟩ = some (.int .i64 0) := cell_blk hst 1 _ rfl
      have z1 : w6.frozen? ⟨w5.heap.size, 1, none⟩ = false := free_blk hst 1
      have hb6n := (hb56.block w.heap.size (by omega)).trans HBK.out
      have c1 : w6.cell? ⟨w.heap.size, 1, none⟩ = some v := cell_blk hb6n 1 _ rfl
      have g6 : w.heap.size < w6.heap.size := by omega
      have g7 : ¬ w5.heap.size = w.heap.size := by omega
      have g8 : ¬ w.heap.size = w5.heap.size := by omega
      have hbX : Below wr.heap.size wr (w6.setCell ⟨w5.heap.size, 1, none⟩ (.int .i64 2)) := hb56.setCell (p := ⟨w5.heap.size, 1, none⟩) (by show wr.heap.size ≤ w5.heap.size; omega) _
      have hownX := ownsRow_below HO.out hbX
      have hsX : (w6.setCell ⟨w5.heap.size, 1, none⟩ (.int .i64 2)).heap.size = w6.heap.size := by simp [World.setCell]
      have HBX := Lib.hid hbX
      clear hst hb6 hb56 hb6n hbX
      go_wp2_with (first
        | (at_builtin; refine wpList_append_own _ rfl _ _ 58 rfl WL.heap.size 82 i0 (.agg #[.int .i64 0, .int .i64 0]) 2 16 Tryz.underlying58 hi0 hz0 hz1 hz2 rfl (by decide) _ 0 _ rfl (hownX.alloc _) ⟨w6.heap.size, 0, none⟩ 1 1 [.int .i64 1, .int .i64 2] rfl rfl (cells_two' _ _ hsX.symm _ _ _) (by simp [Value.oneCell']) (by unfold maxLen; omega) (by omega) (by simp [World.setCell]; omega) ?_)
        | fail)
      intro v' w7 hown7 hgrow _
      try rw [← hsL] at hown7
      obtain ⟨g, cap, rfl, _, _⟩ := World.ownsRow.form hown7 (by omega)
      have HBY := chainAlloc HBX.out (.cells #[.int .i64 1, .int .i64 2] 82)
      have hbY := (HBY.block w.heap.size (by omega)).trans HBK.out
      have hb7 := (hgrow.block w.heap.size (Array.getElem?_eq_some_iff.1 hbY).1 (fun e => by have := (HO.out.lt _ e.symm).1; omega)).trans hbY
      have c7 : w7.cell? ⟨w.heap.size, 1, none⟩ = some v := cell_blk hb7 1 _ rfl
      have f7 : w7.frozen? ⟨w.heap.size, 1, none⟩ = false := free_blk hb7 1
      have g9 : w.heap.size < w7.heap.size := (Array.getElem?_eq_some_iff.1 hb7).1
      have HN : Hid (ChainIn 1 w WL (w7.setCell ⟨w.heap.size, 1, none⟩ (.slice (some ⟨g, 0, none⟩) 1 cap))) := Lib.hid (ChainIn.next (k := 1) (by omega) hbY hown7 (HT.out.trans (Touch.of_below HBY)) hgrow (fun j hj => (HO.out.lt j hj).1))
      clear hown7 hgrow hbY hb7 HBY hownX
      go_wp2_with fail
      go_roundw
      case rel => exact ⟨1, by omega, by go_num, HN.out⟩
      case measure => simp [intOf]
    · have d0 : wr.cell? ⟨w3.heap.size + 1, 1, none⟩ = some (.string ⟨#[99, 97, 114, 114, 121, 32, 51]⟩) := HPr.out wr HT.out 1 _ rfl
      go_wp2_with fail
      refine (cut_s1 _ (HEr.out _ HT.out)).mono ?_
      rintro e w5 ⟨rfl, hb5⟩
      have HT5 := Lib.hid (HT.out.trans (Touch.of_below (b := w.heap.size) hb5))
      have HB5 := Lib.hid hb5
      clear hb5 d0
      go_wp2_with fail
      refine (place_carry w3.heap.size _ (HSr.out _ (HT5.out.trans (Touch.of_below ((Below.refl _ _).alloc (Nat.le_refl _) _))))).mono ?_
      rintro e w6 ⟨rfl, rfl⟩
      go_wp2_with fail
      refine (number_3 _).mono ?_
      rintro e w6 ⟨rfl, hb6⟩
      have hst : w6.heap[w5.heap.size]? = some (.cells #[.int .i64 3, .int .i64 0] 82 (0, 0)) := by
        refine (hb6.block _ (by simp)).trans ?_
        show (Array.push w5.heap _)[_]? = _
        rw [Array.getElem?_push, if_pos rfl]
      have hl56 : w5.heap.size < w6.heap.size := (Array.getElem?_eq_some_iff.1 hst).1
      have hl5 := HB5.out.size
      have hb56 : Below wr.heap.size wr w6 := (chain0 HB5.out (chain0 ((Below.refl _ _).alloc (Nat.le_refl _) _) hb6))
      have s0 : w6.cell? ⟨w5.heap.size, 0, none⟩ = some (.int .i64 3) := cell_blk hst 0 _ rfl
      have s1 : w6.cell? ⟨w5.heap.size, 1, none⟩ = some (.int .i64 0) := cell_blk hst 1 _ rfl
      have z1 : w6.frozen? ⟨w5.heap.size, 1, none⟩ = false := free_blk hst 1
      have hb6n := (hb56.block w.heap.size (by omega)).trans HBK.out
      have c1 : w6.cell? ⟨w.heap.size, 1, none⟩ = some v := cell_blk hb6n 1 _ rfl
      have g6 : w.heap.size < w6.heap.size := by omega
      have g7 : ¬ w5.heap.size = w.heap.size := by omega
      have g8 : ¬ w.heap.size = w5.heap.size := by omega
      have hbX : Below wr.heap.size wr (w6.setCell ⟨w5.heap.size, 1, none⟩ (.int .i64 3)) := hb56.setCell (p := ⟨w5.heap.size, 1, none⟩) (by show wr.heap.size ≤ w5.heap.size; omega) _
      have hownX := ownsRow_below HO.out hbX
      have hsX : (w6.setCell ⟨w5.heap.size, 1, none⟩ (.int .i64 3)).heap.size = w6.heap.size := by simp [World.setCell]
      have HBX := Lib.hid hbX
      clear hst hb6 hb56 hb6n hbX
      go_wp2_with (first
        | (at_builtin; refine wpList_append_own _ rfl _ _ 58 rfl WL.heap.size 82 i0 (.agg #[.int .i64 0, .int .i64 0]) 2 16 Tryz.underlying58 hi0 hz0 hz1 hz2 rfl (by decide) _ 1 _ rfl (hownX.alloc _) ⟨w6.heap.size, 0, none⟩ 1 1 [.int .i64 3, .int .i64 3] rfl rfl (cells_two' _ _ hsX.symm _ _ _) (by simp [Value.oneCell']) (by unfold maxLen; omega) (by omega) (by simp [World.setCell]; omega) ?_)
        | fail)
      intro v' w7 hown7 hgrow _
      try rw [← hsL] at hown7
      obtain ⟨g, cap, rfl, _, _⟩ := World.ownsRow.form hown7 (by omega)
      have HBY := chainAlloc HBX.out (.cells #[.int .i64 3, .int .i64 3] 82)
      have hbY := (HBY.block w.heap.size (by omega)).trans HBK.out
      have hb7 := (hgrow.block w.heap.size (Array.getElem?_eq_some_iff.1 hbY).1 (fun e => by have := (HO.out.lt _ e.symm).1; omega)).trans hbY
      have c7 : w7.cell? ⟨w.heap.size, 1, none⟩ = some v := cell_blk hb7 1 _ rfl
      have f7 : w7.frozen? ⟨w.heap.size, 1, none⟩ = false := free_blk hb7 1
      have g9 : w.heap.size < w7.heap.size := (Array.getElem?_eq_some_iff.1 hb7).1
      have HN : Hid (ChainIn 2 w WL (w7.setCell ⟨w.heap.size, 1, none⟩ (.slice (some ⟨g, 0, none⟩) 2 cap))) := Lib.hid (ChainIn.next (k := 2) (by omega) hbY hown7 (HT.out.trans (Touch.of_below HBY)) hgrow (fun j hj => (HO.out.lt j hj).1))
      clear hown7 hgrow hbY hb7 HBY hownX
      go_wp2_with fail
      go_roundw
      case rel => exact ⟨2, by omega, by go_num, HN.out⟩
      case measure => simp [intOf]
    · have d0 : wr.cell? ⟨w3.heap.size + 1, 2, none⟩ = some (.string ⟨#[100, 114, 111, 112]⟩) := HPr.out wr HT.out 2 _ rfl
      go_wp2_with fail
      refine (cut_s2 _ (HEr.out _ HT.out)).mono ?_
      rintro e w5 ⟨rfl, hb5⟩
      have HT5 := Lib.hid (HT.out.trans (Touch.of_below (b := w.heap.size) hb5))
      have HB5 := Lib.hid hb5
      clear hb5 d0
      have hb5n := (HB5.out.block w.heap.size g5).trans HBK.out
      have c5 : w5.cell? ⟨w.heap.size, 1, none⟩ = some v := cell_blk hb5n 1 _ rfl
      have g6 : w.heap.size < w5.heap.size := (Array.getElem?_eq_some_iff.1 hb5n).1
      clear hb5n
      go_wp2_with fail
      refine (place_drop w3.heap.size _ (HSr.out _ (HT5.out.trans (Touch.of_below ((Below.refl _ _).alloc (Nat.le_refl _) _))))).mono ?_
      rintro e w6 ⟨rfl, rfl⟩
      have hl5 := HB5.out.size
      have hbX : Below wr.heap.size wr (w5.alloc (.cells #[.int .i64 4, .int .i64 0] 82)) := chain0 HB5.out ((Below.refl _ _).alloc (Nat.le_refl _) _)
      have hownX := ownsRow_below HO.out hbX
      have hsX : (w5.alloc (.cells #[.int .i64 4, .int .i64 0] 82)).heap.size = w5.heap.size + 1 := by simp
      have HBX := Lib.hid hbX
      clear hbX
      go_wp2_with (first
        | (at_builtin; refine wpList_append_own _ rfl _ _ 58 rfl WL.heap.size 82 i0 (.agg #[.int .i64 0, .int .i64 0]) 2 16 Tryz.underlying58 hi0 hz0 hz1 hz2 rfl (by decide) _ 2 _ rfl (hownX.alloc _) ⟨w5.heap.size + 1, 0, none⟩ 1 1 [.int .i64 4, .int .i64 0] rfl rfl (cells_two' _ _ hsX.symm _ _ _) (by simp [Value.oneCell']) (by unfold maxLen; omega) (by omega) (by simp; omega) ?_)
        | fail)
      intro v' w7 hown7 hgrow _
      try rw [← hsL] at hown7
      obtain ⟨g, cap, rfl, _, _⟩ := World.ownsRow.form hown7 (by omega)
      have HBY := chainAlloc HBX.out (.cells #[.int .i64 4, .int .i64 0] 82)
      have hbY := (HBY.block w.heap.size (by omega)).trans HBK.out
      have hb7 := (hgrow.block w.heap.size (Array.getElem?_eq_some_iff.1 hbY).1 (fun e => by have := (HO.out.lt _ e.symm).1; omega)).trans hbY
      have c7 : w7.cell? ⟨w.heap.size, 1, none⟩ = some v := cell_blk hb7 1 _ rfl
      have f7 : w7.frozen? ⟨w.heap.size, 1, none⟩ = false := free_blk hb7 1
      have g9 : w.heap.size < w7.heap.size := (Array.getElem?_eq_some_iff.1 hb7).1
      have HN : Hid (ChainIn 3 w WL (w7.setCell ⟨w.heap.size, 1, none⟩ (.slice (some ⟨g, 0, none⟩) 3 cap))) := Lib.hid (ChainIn.next (k := 3) (by omega) hbY hown7 (HT.out.trans (Touch.of_below HBY)) hgrow (fun j hj => (HO.out.lt j hj).1))
      clear hown7 hgrow hbY hb7 HBY hownX
      go_wp2_with fail
      go_roundw
      case rel => exact ⟨3, by omega, by go_num, HN.out⟩
      case measure => simp [intOf]
    · obtain ⟨g, cap, rfl, hge, hlt⟩ := World.ownsRow.form HO.out (by omega)
      have e0 : wr.cell? ⟨w.heap.size, 0, none⟩ = some (.string ⟨#[]⟩) := cell_blk HBK.out 0 _ rfl
      have e1 : wr.cell? ⟨w.heap.size, 1, none⟩ = some (.slice (some ⟨g, 0, none⟩) 3 cap) := cell_blk HBK.out 1 _ rfl
      have f0 : wr.frozen? ⟨w.heap.size, 0, none⟩ = false := free_blk HBK.out 0
      have f1 : wr.frozen? ⟨w.heap.size, 1, none⟩ = false := free_blk HBK.out 1
      have HG : Hid (w.heap.size ≤ g) := Lib.hid (by omega)
      have HLW : Hid (w.heap.size < WL.heap.size) := Lib.hid (by omega)
      have HF := Lib.hid (((HBL.out.trans (HT.out.below (by omega))).setCell (p := ⟨w.heap.size, 0, none⟩) (Nat.le_refl _) (.string ⟨#[]⟩)).setCell (p := ⟨w.heap.size, 1, none⟩) (Nat.le_refl _) (.slice (some ⟨g, 0, none⟩) 3 cap))
      go_wp2
      have hfin := set_blk (set_blk HBK.out 0 (.string ⟨#[]⟩)) 1 (.slice (some ⟨g, 0, none⟩) 3 cap)
      have a0 := cell_blk hfin 0 (.string ⟨#[]⟩) rfl
      have a1 := cell_blk hfin 1 (.slice (some ⟨g, 0, none⟩) 3 cap) rfl
      exact bodyPost_ret (v := .tuple #[.agg #[.string ⟨#[]⟩, .slice (some ⟨g, 0, none⟩) 3 cap], .bool true]) (by simp [results, Tryz.results110, go_sem, a0, a1]) rfl ⟨⟨g, cap, rfl, own_cap HO.out, HG.out, own_base' (ownsRow_touch HO.out (((Touch.refl _ _).set 0 _).set 1 _) HLW.out) (Nat.le_of_lt HLW.out)⟩, HF.out⟩

end Go.Proofs.YtenjefbplpbjaaaGreatDoor
