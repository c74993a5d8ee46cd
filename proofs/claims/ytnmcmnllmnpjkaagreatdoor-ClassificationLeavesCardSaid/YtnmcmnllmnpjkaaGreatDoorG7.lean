/- Contracts of the laws' awake, code and of the reference's SameInts. -/
import Derived.Test.YtnmcmnllmnpjkaaGreatDoorG6
namespace Go.Proofs.YtnmcmnllmnpjkaaGreatDoor
open Go.RowKit Go.Sort Cal Go.Maps
theorem lit_a : (⟨#[48, 49, 46, 49, 48]⟩ : ByteArray) = codeB [1, 10] := by decide
theorem lit_b : (⟨#[48, 49, 46, 49, 46, 49, 50]⟩ : ByteArray) = codeB [1, 1, 12] := by decide
theorem lit_c : (⟨#[48, 49, 46, 50]⟩ : ByteArray) = codeB [1, 2] := by decide
theorem lit_d : (⟨#[48, 49]⟩ : ByteArray) = codeB [1] := by decide
theorem awake_parent : parentV ⟨#[48, 49, 46, 49, 48]⟩ = (⟨#[48, 49]⟩, true) := by
  unfold parentV; rw [lit_a, parseO_code [1, 10] (by decide), lit_d]; rfl
theorem awake_level : levelV ⟨#[48, 49, 46, 49, 46, 49, 50]⟩ = 3 := by
  unfold levelV; rw [lit_b, partsO_code (P := [1, 1, 12]) (by decide)]; rfl
theorem rank_code {P : List Int} (h : okP P) : rankV (codeB P) = 1 := by
  unfold rankV; rw [if_neg (codeB_pos h), parseO_code P h]; rfl
theorem awake_cmp : cmpV ⟨#[48, 49, 46, 50]⟩ ⟨#[48, 49, 46, 49, 48]⟩ = -1 := by
  unfold cmpV
  rw [lit_c, lit_a, rank_code (P := [1, 2]) (by decide), rank_code (P := [1, 10]) (by decide), parseO_code [1, 2] (by decide), parseO_code [1, 10] (by decide)]
  rfl
set_option maxHeartbeats 800000 in
theorem awake_any (w : World) (hE : Env w) : Calls Tryz.prog 12 #[] w fun e w' => e = .returned (.bool true) ∧ Below w.heap.size w w' := by
  have HE := Lib.hid hE
  have HP := Lib.hid awake_parent
  have HL := Lib.hid awake_level
  have HC := Lib.hid awake_cmp
  clear hE
  go_enter Tryz.func12, Tryz.ntmps12
  go_wp2_with fail
  refine (parent_any _ _ (by decide) HE.out).mono ?_
  rintro e w1 ⟨rfl, hb1⟩
  rw [HP.out]
  go_wp2_with fail
  refine (level_any _ _ (by decide) (HE.out.below hb1)).mono ?_
  rintro e w2 ⟨rfl, hb2⟩
  rw [HL.out]
  go_wp2_with fail
  refine (compare_any _ _ _ (by decide) (by decide) (HE.out.below (chain0 hb1 hb2))).mono ?_
  rintro e w3 ⟨rfl, hb3⟩
  rw [HC.out]
  go_wp2
  go_ret
  exact ⟨rfl, chain0 (chain0 hb1 hb2) hb3⟩
theorem Touch.cell {b : Nat} {w w' : World} (h : Touch b w w') {k j : Nat} (hne : k ≠ b) (hlt : k < w.heap.size) : w'.cell? ⟨k, j, none⟩ = w.cell? ⟨k, j, none⟩ :=
  World.cell?_of_block (w := w) (w' := w') (a := ⟨k, j, none⟩) (h.block k hlt hne)
theorem new_cell (w : World) (cs : Array Value) (t : TypeId) (k : Nat) (u : Value) (h : cs[k]? = some u) : (w.alloc (.cells cs t)).cell? ⟨w.heap.size, k, none⟩ = some u := by simp [h]
/-- Some short string; the tape has been read on by six at most. -/
def CodePost (b : Nat) (sv : Value) (zs : List Int) (i : Nat) (w : World) (e : Ending) (w' : World) : Prop :=
  ∃ (s : ByteArray) (i' : Nat), e = .returned (.string s) ∧ s.size ≤ 15 ∧ i' ≤ i + 6 ∧ TapeAt b sv zs i' w' ∧ Touch b w w'
def strs12 : List ByteArray := [⟨#[]⟩, ⟨#[49]⟩, ⟨#[48, 49, 46]⟩, ⟨#[46, 49]⟩, ⟨#[48, 49, 46, 48]⟩, ⟨#[48, 49, 46, 48, 49]⟩, ⟨#[48, 48, 49]⟩, ⟨#[48, 49, 46, 49, 48, 48]⟩, ⟨#[48, 48]⟩, ⟨#[97]⟩, ⟨#[48, 49, 46, 49, 46, 49, 46, 49, 46, 49, 46, 49]⟩, ⟨#[48, 49, 32]⟩]
theorem strs12_at (k : Nat) (h : k < 12) : ∃ s : ByteArray, (strs12.map Value.string).toArray[k]? = some (.string s) ∧ s.size ≤ 15 := by
  have h2 : k = 0 ∨ k = 1 ∨ k = 2 ∨ k = 3 ∨ k = 4 ∨ k = 5 ∨ k = 6 ∨ k = 7 ∨ k = 8 ∨ k = 9 ∨ k = 10 ∨ k = 11 := by omega
  rcases h2 with rfl | rfl | rfl | rfl | rfl | rfl | rfl | rfl | rfl | rfl | rfl | rfl <;> exact ⟨_, rfl, by decide⟩
theorem ints4_at (k : Nat) (h : k < 4) : ∃ z : Int, (#[.int .i64 1, .int .i64 2, .int .i64 10, .int .i64 99] : Array Value)[k]? = some (.int .i64 z) := by
  have h2 : k = 0 ∨ k = 1 ∨ k = 2 ∨ k = 3 := by omega
  rcases h2 with rfl | rfl | rfl | rfl <;> exact ⟨_, rfl⟩
theorem format_form (xs : List Int) : ∃ (s : ByteArray) (c : Int), FormatV xs = .tuple #[.string s, .int .i64 c] ∧ s.size ≤ 15 := by
  unfold FormatV
  by_cases h : okP xs
  · rw [if_pos h]
    exact ⟨_, _, rfl, by have := codeB_size xs; have := h.2.1; omega⟩
  · rw [if_neg h]; exact ⟨_, _, rfl, by decide⟩
set_option maxRecDepth 100000 in
set_option maxHeartbeats 1600000 in
theorem code_any (b : Nat) (sv : Value) (zs : List Int) (i : Nat) (w : World) (hT : TapeAt b sv zs i w) (hi : i ≤ 900000) :
    Calls Tryz.prog 6 #[.pointer (some ⟨b, 0, none⟩)] w (CodePost b sv zs i w) := by
  have hbw := hT.lt
  have HT := Lib.hid hT
  clear hT
  obtain ⟨i0, hi0, hz0, hz1, hz2⟩ := info_parts info3p
  go_enter Tryz.func6, Tryz.ntmps6
  go_wp2_with fail
  refine (next_some b sv zs i 8 _ HT.out (by omega) (by omega) (by omega)).mono ?_
  rintro e w1 ⟨c, hc0, hc1, rfl, hT1, ht1⟩
  have HT1 := Lib.hid hT1
  have HK1 := Lib.hid ht1
  have hs1 := ht1.size
  clear hT1 ht1
  by_cases hcz : c = 0
  · subst hcz
    go_wp2_with fail
    refine (next_some b sv zs (i + 1) 12 _ (HT1.out.below ((Below.refl _ _).alloc (Nat.le_refl _) _)) (by omega) (by omega) (by omega)).mono ?_
    rintro e w2 ⟨x, hx0, hx1, rfl, hT2, ht2⟩
    obtain ⟨k, rfl⟩ := Int.eq_ofNat_of_zero_le hx0
    obtain ⟨s, hs, hsz⟩ := strs12_at k (by omega)
    have hcell : w2.cell? ⟨w1.heap.size, k, none⟩ = some (.string s) := (ht2.cell (by omega) (by simp)).trans (new_cell w1 _ _ k _ hs)
    have HF := Lib.hid (And.intro hT2 ((HK1.out.trans (Touch.of_below ((Below.refl _ _).alloc (Nat.le_refl _) _))).trans ht2))
    clear hT2 ht2 hs
    go_wp2
    go_ret
    exact ⟨s, i + 1 + 1, rfl, hsz, by omega, HF.out.1, HF.out.2⟩
  · have hcb : (c == 0) = false := by rw [beq_eq_false_iff_ne]; exact hcz
    go_wp2_with fail
    refine (next_some b sv zs (i + 1) 4 _ HT1.out (by omega) (by omega) (by omega)).mono ?_
    rintro e w2 ⟨n, hn0, hn1, rfl, hT2, ht2⟩
    have HT2 := Lib.hid hT2
    have HK2 := Lib.hid (HK1.out.trans ht2)
    clear hT2 ht2
    go_wp2_with fail
    go_loopw [3, 17] (fun v q wr => ∃ (k : Nat) (xs : List Int), (k : Int) ≤ 1 + n ∧ q = .int .i64 k ∧ xs.length = k ∧ wr.ownsRow w.heap.size 3 1 v k (xs.map (Value.int .i64)) ∧ TapeAt b sv zs (i + 2 + k) wr ∧ Touch b w wr) (fun _ q _ => (1 + n).toNat - (intOf q).toNat)
    case atStart => exact ⟨0, [], by omega, rfl, rfl, World.ownsRow_nil _ _ _ _, HT2.out, HK2.out⟩
    case round =>
      obtain ⟨k, xs, hk, rfl, hxl, hown, hTr, hTo⟩ := hrel
      have HXL := Lib.hid hxl
      have HTR := Lib.hid hTr
      have HTO := Lib.hid hTo
      have hsr := hTo.size
      clear hxl hTr hTo
      by_cases hlt : (k : Int) < 1 + n
      · go_wp2_with fail
        refine (next_some b sv zs (i + 2 + k) 4 _ (HTR.out.below ((Below.refl _ _).alloc (Nat.le_refl _) _)) (by omega) (by omega) (by omega)).mono ?_
        rintro e w3 ⟨x, hx0, hx1, rfl, hT3, ht3⟩
        obtain ⟨j, rfl⟩ := Int.eq_ofNat_of_zero_le hx0
        obtain ⟨z, hz⟩ := ints4_at j (by omega)
        have hcell : w3.cell? ⟨wr.heap.size, j, none⟩ = some (.int .i64 z) := (ht3.cell (by omega) (by simp)).trans (new_cell wr _ _ j _ hz)
        have hown1 := ownsRow_touch (ownsRow_below hown ((Below.refl _ _).alloc (Nat.le_refl _) (.cells #[.int .i64 1, .int .i64 2, .int .i64 10, .int .i64 99] 3))) ht3 hbw
        have HT3 := Lib.hid hT3
        have HK3 := Lib.hid ((HTO.out.trans (Touch.of_below ((Below.refl _ _).alloc (Nat.le_refl _) _))).trans ht3)
        have hs3 := ht3.size
        clear hT3 ht3 hz hown
        go_wp2_with (first
          | (at_builtin; refine wpList_append_own _ rfl _ _ 25 rfl w.heap.size 3 i0 (.int .i64 0) 1 8 Tryz.underlying25 hi0 hz0 hz1 hz2 rfl (by decide) _ _ _ rfl (hown1.alloc _) ⟨w3.heap.size, 0, none⟩ 1 1 [.int .i64 z] rfl rfl (cell_one_new _ _ _) (by simp [Value.oneCell']) (by unfold maxLen; omega) (by omega) (by have := HK3.out.size; simp; omega) ?_)
          | fail)
        intro v' w4 hown2 hgrow _
        have hown3 : w4.ownsRow w.heap.size 3 1 v' (k + 1) ((xs ++ [z]).map (Value.int .i64)) := by rw [List.map_append]; exact hown2
        have hlo := fun j hj => (hown1.lt j hj).1
        have hTo4 : Touch b w w4 := (HK3.out.trans (Touch.of_below ((Below.refl _ _).alloc (Nat.le_refl _) _))).grown hgrow hlo
        have hTa4 : TapeAt b sv zs (i + 2 + (k + 1)) w4 := (HT3.out.below ((Below.refl _ _).alloc (Nat.le_refl _) _)).keep (fun j hj => hgrow.block j (by have := HT3.out.lt; simp; omega) (fun e => by have := hlo j e.symm; omega))
        have HH := Lib.hid (And.intro hown3 (And.intro hTo4 hTa4))
        clear hown2 hgrow hown3 hTo4 hTa4 hlo hown1
        go_wp2
        go_roundw
        case rel => exact ⟨k + 1, xs ++ [z], by omega, by go_num, by simp [HXL.out], HH.out.1, HH.out.2.2, HH.out.2.1⟩
        case measure => simp [intOf]; omega
      · have hI := ints_of_own hown HXL.out.symm
        have HI := Lib.hid hI
        obtain ⟨s, cc, hF, hsz⟩ := format_form xs
        have HF := Lib.hid hF
        clear hI hown hF
        go_wp2_with fail
        refine (rformat_any _ xs _ HI.out (by rw [HXL.out]; omega)).mono ?_
        rintro e w3 ⟨rfl, hb3⟩
        rw [HF.out]
        go_wp2
        go_ret
        exact ⟨s, i + 2 + k, rfl, hsz, by omega, HTR.out.below hb3, HTO.out.trans (Touch.of_below hb3)⟩
end Go.Proofs.YtnmcmnllmnpjkaaGreatDoor
