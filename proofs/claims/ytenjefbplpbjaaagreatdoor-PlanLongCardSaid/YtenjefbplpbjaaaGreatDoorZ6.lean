/- Contracts of isDefinitions, and of a line of the plan's text, at the long plan. -/
import Derived.Test.YtenjefbplpbjaaaGreatDoorZ5
namespace Go.Proofs.YtenjefbplpbjaaaGreatDoor
open Go.RowKit Go.Sort Cal Go.Maps
set_option maxHeartbeats 1600000 in
theorem isDefinitions_n (g c n : Nat) (a : Nat → Nat) (dv : Value) (w : World) (hD : DefsAt g c n dv w) (hN : NodesAt g a w) (hE : Env w) (hn : n ≤ 20) :
    Calls Tryz.prog 28 #[dv] w fun e w' => e = .returned (.bool true) ∧ Below w.heap.size w w' := by
  obtain ⟨p, cd, rfl, hcd, hf⟩ := hD.form
  have HF := Lib.hid hf
  have HN := Lib.hid hN
  have HE := Lib.hid hE
  clear hD hf hN hE
  go_enter Tryz.func28, Tryz.ntmps28
  go_wp2_with fail
  go_loopw [10] (fun i wr => ∃ k : Nat, k ≤ n ∧ i = .int .i64 k ∧ Below w.heap.size w wr) (fun i _ => n - (intOf i).toNat)
  case atStart => exact ⟨0, by omega, rfl, Below.refl _ _⟩
  case round =>
    obtain ⟨k, hk, rfl, hB⟩ := hrel
    have HB := Lib.hid hB
    by_cases hlt : k < n
    · obtain ⟨b, rfl, hb, c0, c1⟩ := HF.out k hlt
      have d0 := (hB.cell (p := ⟨b, k * 2, none⟩) hb).trans c0
      have d1 := (hB.cell (p := ⟨b, k * 2 + 1, none⟩) hb).trans c1
      have hbr := Nat.lt_of_lt_of_le hb hB.size
      have HX := Lib.hid (Box.new wr [.string ⟨#[121]⟩, .slice (some ⟨g, 0, none⟩) 39 c] 42)
      clear hB c0 c1 hb
      go_wp2_with fail
      refine (word_y _).mono ?_
      rintro e w1 ⟨rfl, rfl⟩
      have HBX := Lib.hid (chain0 HB.out HX.out.bl)
      clear d0 d1
      go_wp2_with fail
      refine (validate_l g c a _ (HN.out.below HBX.out) (HE.out.below HBX.out)).mono ?_
      rintro e w2 ⟨rfl, hb2⟩
      have HB2 := Lib.hid (chain0 HBX.out hb2)
      clear hb2
      go_wp2_with fail
      go_roundw
      case rel => exact ⟨k + 1, by omega, by go_num, HB2.out⟩
      case measure => simp [intOf]; omega
    · obtain rfl : k = n := by omega
      go_wp2
      go_ret
      exact ⟨rfl, HB.out⟩
set_option maxHeartbeats 800000 in
theorem line_big (B b : Nat) (l : List UInt8) (sk n c : Nat) (xs : List ByteArray) (r : ByteArray) (w : World) (h : Lib.IsBuilderF 89 5 B b (Lib.byteCells l) w) (hB : B ≤ w.heap.size)
    (hn : n = xs.length) (hc : ∀ (j : Nat) x, xs[j]? = some x → w.cell? ⟨sk, 0 + j, none⟩ = some (.string x)) (hsk : sk < w.heap.size) (h9 : n ≤ 9) (hcap : n ≤ c) (hr : (⟨(Lib.join (xs.map (·.data.toList)) [32]).toArray⟩ : ByteArray) ++ ⟨#[10]⟩ = r) (hl : l.length ≤ 100000) (hs : r.size ≤ 1000) :
    Calls Tryz.prog 41 #[.slice (some ⟨sk, 0, none⟩) n c, .pointer (some ⟨b, 0, none⟩)] w fun e w' => e = .returned (.tuple #[]) ∧ Lib.IsBuilderF 89 5 B b (Lib.byteCells (l ++ r.data.toList)) w' ∧ Below B w w' ∧ Lib.OthersKept 5 (some b) w w' := by
  subst hn
  have hj : (Lib.join (xs.map (·.data.toList)) [32]).length ≤ 1000 := by
    rw [← hr, ByteArray.size_append] at hs
    have e : (⟨(Lib.join (xs.map (·.data.toList)) [32]).toArray⟩ : ByteArray).size = (Lib.join (xs.map (·.data.toList)) [32]).length := by
      show (List.toArray _).size = _
      simp
    omega
  have hy : (⟨(Lib.join (xs.map (·.data.toList)) [32]).toArray⟩ : ByteArray).size ≤ 1000 := by
    have e : (⟨(Lib.join (xs.map (·.data.toList)) [32]).toArray⟩ : ByteArray).size = (Lib.join (xs.map (·.data.toList)) [32]).length := by
      show (List.toArray _).size = _
      simp
    omega
  have J : Calls Tryz.prog 43 #[.slice (some ⟨sk, 0, none⟩) xs.length c, .string ⟨#[32]⟩] w fun e w' => e = .returned (.string ⟨(Lib.join (xs.map (·.data.toList)) [32]).toArray⟩) ∧ Below w.heap.size w w' :=
    Tryz.strings_Join sk 0 c xs ⟨#[32]⟩ w hc hsk (by omega) hcap (by show (Lib.join (xs.map (·.data.toList)) [32]).length ≤ _; omega)
  have HJ := Lib.hid J
  have HH := Lib.hid h
  have HR := Lib.hid hr
  generalize (⟨(Lib.join (xs.map (·.data.toList)) [32]).toArray⟩ : ByteArray) = y at *
  clear J h hr hc hj
  go_enter Tryz.func41, Tryz.ntmps41
  go_wp2_with fail
  refine HJ.out.mono ?_
  rintro e w1 ⟨rfl, hb1⟩
  go_wp2_with fail
  rw [HR.out]
  refine (wstr_at B b l r w1 (builder_below HH.out hb1) (by omega) (Nat.le_trans hB hb1.size)).mono ?_
  rintro e w2 ⟨rfl, hb2, hbl2, hk2⟩
  go_wp2
  exact bodyPost_end (v := .tuple #[]) (by simp [results, Tryz.results41, go_sem]) rfl ⟨rfl, hb2, (hb1.mono hB).trans hbl2, ((Lib.OthersKept.refl _ _ _).below hb1).trans hk2⟩
/-- The words of a definition's line. -/
def defL : List ByteArray := [⟨#[105, 110, 100, 101, 120]⟩, ⟨#[121]⟩, ⟨#[61]⟩, minT 19]
theorem join_def : (⟨(Lib.join (defL.map (·.data.toList)) [32]).toArray⟩ : ByteArray) ++ ⟨#[10]⟩ = lineB := by
  apply bs_ext
  unfold lineB defL
  generalize minT 19 = x
  simp [Lib.join, ByteArray.data_append]
theorem planB_next (k : Nat) : (planB k).data.toList ++ lineB.data.toList = (planB (k + 1)).data.toList := by
  rw [planB, ByteArray.data_append, Array.toList_append]
theorem planB_zero : (planB 0).data.toList = L3 := rfl
theorem planB_len (k : Nat) : (planB k).data.toList.length = 59 + 964 * k := by
  rw [← planB_size k]; rfl
end Go.Proofs.YtenjefbplpbjaaaGreatDoor
