/- Contracts of what makes words for a plan: word, Reference. -/
import Derived.Test.YtkgkjoologjehaaGreatDoorBs
namespace Go.Proofs.YtkgkjoologjehaaGreatDoor
open Go.RowKit Go.Sort Cal Go.Maps
theorem Touch.cell {b : Nat} {w w' : World} (h : Touch b w w') {B j : Nat} (hlt : B < w.heap.size) (hne : B ≠ b) : w'.cell? ⟨B, j, none⟩ = w.cell? ⟨B, j, none⟩ :=
  World.cell?_of_block (w := w) (w' := w') (a := ⟨B, j, none⟩) (h.block B hlt hne)
def WordPost (w : World) (e : Ending) (w' : World) : Prop := ∃ s : ByteArray, s.size ≤ 10 ∧ e = .returned (.string s) ∧ Below w.heap.size w w'
set_option maxHeartbeats 1600000 in
theorem word_any (v : Int) (w : World) : Calls Tryz.prog 98 #[.int .i64 v] w (WordPost w) := by
  have fb := fold_bd v 6 (by omega)
  go_enter Tryz.func98, Tryz.ntmps98
  go_wp2_with fail
  refine (fold_any v 6 _ (by omega) (by omega)).mono ?_
  rintro e w' ⟨rfl, rfl⟩
  generalize foldZ v 6 = F at *
  have h6 : F = 0 ∨ F = 1 ∨ F = 2 ∨ F = 3 ∨ F = 4 ∨ F = 5 := by omega
  clear fb
  rcases h6 with rfl | rfl | rfl | rfl | rfl | rfl
  all_goals
    go_wp2
    go_ret
    exact ⟨_, by decide, rfl, by go_grown⟩
/-- A word, and the tape read on. -/
def RefPost (b : Nat) (sv : Value) (zs : List Int) (i : Nat) (w : World) (e : Ending) (w' : World) : Prop :=
  ∃ (s : ByteArray) (i' : Nat), s.size ≤ 30 ∧ e = .returned (.string s) ∧ i' ≤ i + 3 ∧ TapeAt b sv zs i' w' ∧ Touch b w w'
set_option maxRecDepth 100000 in
set_option maxHeartbeats 1600000 in
theorem reference_any (b : Nat) (sv : Value) (zs : List Int) (i : Nat) (w : World) (hT : TapeAt b sv zs i w) (hi : i ≤ 100000) :
    Calls Tryz.prog 99 #[.pointer (some ⟨b, 0, none⟩)] w (RefPost b sv zs i w) := by
  have X := Box.new w [.string ⟨#[97, 108, 108]⟩, .string ⟨#[48, 49]⟩, .string ⟨#[48, 49, 46, 49]⟩, .string ⟨#[48, 50]⟩] 9
  have HX := Lib.hid X
  have HT := Lib.hid hT
  have HT0 := Lib.hid (hT.below X.bl)
  have hlb := hT.lt
  clear X hT
  go_enter Tryz.func99, Tryz.ntmps99
  go_wp2_with fail
  refine (next_some b sv zs i 4 _ HT0.out (by omega) (by omega) (by omega)).mono ?_
  rintro e w1 ⟨v, h0, h4, rfl, hT1, ht1⟩
  have hcell : ∃ s : ByteArray, s.size ≤ 10 ∧ ∃ k : Nat, v = k ∧ k < 4 ∧ w1.cell? ⟨w.heap.size, k, none⟩ = some (.string s) := by
    have h := fun j u hj => (ht1.cell (j := j) HX.out.sz (by omega)).trans (HX.out.c j u hj)
    have h4 : v = 0 ∨ v = 1 ∨ v = 2 ∨ v = 3 := by omega
    rcases h4 with rfl | rfl | rfl | rfl
    · exact ⟨_, by decide, 0, rfl, by omega, h 0 _ rfl⟩
    · exact ⟨_, by decide, 1, rfl, by omega, h 1 _ rfl⟩
    · exact ⟨_, by decide, 2, rfl, by omega, h 2 _ rfl⟩
    · exact ⟨_, by decide, 3, rfl, by omega, h 3 _ rfl⟩
  obtain ⟨s, hs, k, rfl, hk, hc⟩ := hcell
  have HT1 := Lib.hid hT1
  have HK1 : Hid (Touch b w w1) := Lib.hid ((Touch.of_below HX.out.bl).trans ht1)
  clear hT1 ht1 h0 h4
  go_wp2_with fail
  refine (next_some b sv zs (i + 1) 3 _ HT1.out (by omega) (by omega) (by omega)).mono ?_
  rintro e w2 ⟨v, h0, h4, rfl, hT2, ht2⟩
  have HT2 := Lib.hid hT2
  have HK2 : Hid (Touch b w w2) := Lib.hid (HK1.out.trans ht2)
  clear hT2 ht2 hc
  by_cases hv : v = 0
  · subst hv
    have Y := Box.new w2 [.string ⟨#[110, 111, 114, 116, 104]⟩, .string ⟨#[115, 111, 117, 116, 104]⟩] 9
    have HY := Lib.hid Y
    have HT3 := Lib.hid (HT2.out.below Y.bl)
    have hs2 := HK2.out.size
    clear Y
    go_wp2_with fail
    refine (next_some b sv zs (i + 2) 2 _ HT3.out (by omega) (by omega) (by omega)).mono ?_
    rintro e w3 ⟨v, h0, h4, rfl, hT4, ht4⟩
    have hcell : ∃ t : ByteArray, t.size ≤ 10 ∧ ∃ k : Nat, v = k ∧ k < 2 ∧ w3.cell? ⟨w2.heap.size, k, none⟩ = some (.string t) := by
      have h := fun j u hj => (ht4.cell (j := j) HY.out.sz (by omega)).trans (HY.out.c j u hj)
      have h4 : v = 0 ∨ v = 1 := by omega
      rcases h4 with rfl | rfl
      · exact ⟨_, by decide, 0, rfl, by omega, h 0 _ rfl⟩
      · exact ⟨_, by decide, 1, rfl, by omega, h 1 _ rfl⟩
    obtain ⟨t, hts, k2, rfl, hk2, hc⟩ := hcell
    have HT4 := Lib.hid hT4
    have HK4 : Hid (Touch b w w3) := Lib.hid ((HK2.out.trans (Touch.of_below HY.out.bl)).trans ht4)
    have hsz : ∀ a c : ByteArray, (a ++ c).size = a.size + c.size := fun a c => ByteArray.size_append
    have hs1 : (⟨#[64]⟩ : ByteArray).size = 1 := rfl
    clear hT4 ht4 h0 h4
    go_wp2
    go_ret
    exact ⟨_, _, by simp only [hsz]; omega, rfl, by omega, HT4.out, HK4.out⟩
  · have hz : (v == 0) = false := by simpa using hv
    go_wp2
    go_ret
    exact ⟨_, _, by omega, rfl, by omega, HT2.out, HK2.out⟩
end Go.Proofs.YtkgkjoologjehaaGreatDoor
