/- Contracts of the program's judgements on the nodes of the long plan: Keyword, Word, Name, Reference, Sign, arity, fields. -/
import Derived.Test.YtenjefbplpbjaaaGreatDoorZ1
import Derived.WalkLawsBesides
namespace Go.Proofs.YtenjefbplpbjaaaGreatDoor
open Go.RowKit Go.Sort Cal Go.Maps
theorem keyword_y (w : World) : Calls Tryz.prog 121 #[.string ⟨#[121]⟩] w fun e w' => e = .returned (.bool false) ∧ w = w' := by
  go_enter Tryz.func121, Tryz.ntmps121
  go_wp2
  go_ret
  exact ⟨rfl, rfl⟩
set_option maxHeartbeats 800000 in
theorem word_y (w : World) : Calls Tryz.prog 66 #[.string ⟨#[121]⟩] w fun e w' => e = .returned (.bool true) ∧ w = w' := by
  go_enter Tryz.func66, Tryz.ntmps66
  go_wp2_with fail
  refine (keyword_y _).mono ?_
  rintro e w' ⟨rfl, rfl⟩
  go_wp2_with fail
  go_loop [3] (fun i => ∃ k : Nat, k ≤ 1 ∧ i = .int .i64 k) (fun i => 1 - (intOf i).toNat)
  case atStart => exact ⟨0, by omega, rfl⟩
  case round =>
    obtain ⟨k, hk, rfl⟩ := hrel
    obtain rfl | rfl : k = 0 ∨ k = 1 := by omega
    · go_wp2
      go_round
      case rel => exact ⟨1, by omega, by go_num⟩
      case measure => simp [intOf]
    · go_wp2
      go_ret
      exact ⟨rfl, rfl⟩
theorem reg_all : ∀ k : Fin 24, 97 ≤ (regB.data.toList.getD k.1 0).toNat ∧ (regB.data.toList.getD k.1 0).toNat ≤ 122 := by decide
theorem reg_at (k : Nat) (h : k < regB.size) : 97 ≤ (regB[k].toNat : Int) ∧ (regB[k].toNat : Int) ≤ 122 := by
  have h24 : regB.size = 24 := rfl
  have h2 := reg_all ⟨k, by omega⟩
  have e : regB.data.toList.getD k 0 = regB[k] := by
    rw [List.getD_eq_getElem?_getD, List.getElem?_eq_getElem (show k < regB.data.toList.length from h)]; rfl
  simp only [e] at h2
  omega
set_option maxHeartbeats 1600000 in
theorem name_low (s : ByteArray) (w : World) (h1 : 1 ≤ s.size) (h24 : s.size ≤ 24) (hb : ∀ k (h : k < s.size), 97 ≤ (s[k].toNat : Int) ∧ (s[k].toNat : Int) ≤ 122) :
    Calls Tryz.prog 236 #[.string s] w fun e w' => e = .returned (.bool true) ∧ w = w' := by
  have HB := Lib.hid hb
  have h0 : 0 < s.size := by omega
  have hz : ((s.size : Int) == 0) = false := by simp; intro e; rw [e] at h0; exact absurd h0 (by decide)
  have h24' : (s.size : Int) ≤ 24 := by omega
  have h45 : (((s[0]'h0).toNat : Int) == 45) = false := by have := (hb 0 h0).1; simp; omega
  have h46 : (((s[0]'h0).toNat : Int) == 46) = false := by have := (hb 0 h0).1; simp; omega
  clear hb
  go_enter Tryz.func236, Tryz.ntmps236
  go_wp2_with fail
  clear h45 h46 hz
  go_loop [3] (fun i => ∃ k : Nat, k ≤ s.size ∧ i = .int .i64 k) (fun i => s.size - (intOf i).toNat)
  case atStart => exact ⟨0, by omega, rfl⟩
  case round =>
    obtain ⟨k, hk, rfl⟩ := hrel
    by_cases hlt : k < s.size
    · have a1 := (HB.out k hlt).1
      have a2 := (HB.out k hlt).2
      go_wp2
      all_goals first
        | (exfalso; omega)
        | skip
      go_round
      case rel => exact ⟨k + 1, by omega, by go_num⟩
      case measure => simp [intOf]; omega
    · go_wp2
      go_ret
      exact ⟨rfl, rfl⟩
theorem lev_99 : levelV c99B = 5 := by kernel_rfl
theorem cut_ref (w : World) (hE : Env w) : Calls Tryz.prog 108 #[.string refB, .string ⟨#[64]⟩] w fun e w' => e = .returned (.tuple #[.string c99B, .string regB, .bool true]) ∧ Below w.heap.size w w' :=
  cut_lit _ _ _ _ _ (by first | kernel_rfl | decide) (by first | kernel_rfl | decide) (by first | kernel_rfl | decide) (by decide) w hE
set_option maxHeartbeats 800000 in
theorem reference_ok (w : World) (hE : Env w) : Calls Tryz.prog 182 #[.string refB] w fun e w' => e = .returned (.bool true) ∧ Below w.heap.size w w' := by
  have HE := Lib.hid hE
  have hall : (c99B.toList == [97, 108, 108]) = false := by rw [ByteArray.toList_eq]; rfl
  clear hE
  go_enter Tryz.func182, Tryz.ntmps182
  go_wp2_with fail
  refine (cut_ref _ HE.out).mono ?_
  rintro e w1 ⟨rfl, hb1⟩
  have HB1 := Lib.hid hb1
  clear hb1
  go_wp2_with fail
  refine (level_any c99B _ (by decide) (HE.out.below HB1.out)).mono ?_
  rintro e w2 ⟨rfl, hb2⟩
  rw [lev_99]
  have HB2 := Lib.hid (chain0 HB1.out hb2)
  clear hb2
  go_wp2_with fail
  refine (name_low regB _ (by decide) (by decide) reg_at).mono ?_
  rintro e w3 ⟨rfl, rfl⟩
  go_wp2
  go_ret
  exact ⟨rfl, HB2.out⟩
theorem low_nil (w : World) : Calls Tryz.prog 213 #[.slice none 0 0] w fun e w' => e = .returned (.slice none 0 0) ∧ w = w' := by
  go_enter Tryz.func213, Tryz.ntmps213
  go_wp2_with fail
  go_loop [0] (fun v => v = .slice none 0 0) (fun _ => 0)
  case atStart => rfl
  case round =>
    obtain rfl := hrel
    go_wp2
    go_ret
    exact ⟨rfl, rfl⟩
theorem bits_nil (w : World) : Calls Tryz.prog 179 #[.slice none 0 0] w fun e w' => e = .returned (.int .i64 0) ∧ w = w' := by
  go_enter Tryz.func179, Tryz.ntmps179
  go_wp2_with fail
  refine (low_nil _).mono ?_
  rintro e w' ⟨rfl, rfl⟩
  go_wp2
  go_ret
  exact ⟨rfl, rfl⟩
theorem sign_zero (w : World) : Calls Tryz.prog 122 #[.agg #[.bool false, .slice none 0 0, .slice none 0 0]] w fun e w' => e = .returned (.int .i64 0) ∧ Below w.heap.size w w' := by
  go_enter Tryz.func122, Tryz.ntmps122
  go_wp2_with fail
  refine (bits_nil _).mono ?_
  rintro e w' ⟨rfl, rfl⟩
  go_wp2
  go_ret
  exact ⟨rfl, by go_grown⟩
theorem arity_3 (w : World) : Calls Tryz.prog 126 #[.int .i64 3] w fun e w' => e = .returned (.int .i64 0) ∧ w = w' := by
  go_enter Tryz.func126, Tryz.ntmps126
  go_wp2
  go_ret
  exact ⟨rfl, rfl⟩
theorem arity_8 (w : World) : Calls Tryz.prog 126 #[.int .i64 8] w fun e w' => e = .returned (.int .i64 2) ∧ w = w' := by
  go_enter Tryz.func126, Tryz.ntmps126
  go_wp2
  go_ret
  exact ⟨rfl, rfl⟩
set_option maxHeartbeats 1600000 in
theorem fields_leaf (w : World) (hE : Env w) : Calls Tryz.prog 125 #[.agg #[.int .i64 3, .string refB, .bool false, .slice none 0 0, .slice none 0 0, .slice none 0 0]] w fun e w' => e = .returned (.bool true) ∧ Below w.heap.size w w' := by
  have HE := Lib.hid hE
  have HB := Lib.hid (Box.new w [.int .i64 3, .string refB, .bool false, .slice none 0 0, .slice none 0 0, .slice none 0 0] 39)
  clear hE
  go_enter Tryz.func125, Tryz.ntmps125
  go_wp2_with fail
  refine (sign_zero _).mono ?_
  rintro e w1 ⟨rfl, hb1⟩
  have H1 := Lib.hid (HB.out.step hb1)
  have b0 : w1.cell? ⟨w.heap.size, 0, none⟩ = some (.int .i64 3) := H1.out.c 0 _ rfl
  have b1 : w1.cell? ⟨w.heap.size, 1, none⟩ = some (.string refB) := H1.out.c 1 _ rfl
  clear hb1
  go_wp2_with fail
  refine (reference_ok _ (HE.out.below H1.out.bl)).mono ?_
  rintro e w2 ⟨rfl, hb2⟩
  have HF := Lib.hid (chain0 H1.out.bl hb2)
  clear hb2 b0 b1
  go_wp2
  go_ret
  exact ⟨rfl, HF.out⟩
set_option maxHeartbeats 1600000 in
theorem fields_min (p : Option Addr) (n c : Nat) (w : World) : Calls Tryz.prog 125 #[.agg #[.int .i64 8, .string ⟨#[]⟩, .bool false, .slice none 0 0, .slice none 0 0, .slice p n c]] w fun e w' => e = .returned (.bool true) ∧ Below w.heap.size w w' := by
  have HB := Lib.hid (Box.new w [.int .i64 8, .string ⟨#[]⟩, .bool false, .slice none 0 0, .slice none 0 0, .slice p n c] 39)
  go_enter Tryz.func125, Tryz.ntmps125
  go_wp2_with fail
  refine (sign_zero _).mono ?_
  rintro e w1 ⟨rfl, hb1⟩
  have H1 := Lib.hid (HB.out.step hb1)
  have b0 : w1.cell? ⟨w.heap.size, 0, none⟩ = some (.int .i64 8) := H1.out.c 0 _ rfl
  have b1 : w1.cell? ⟨w.heap.size, 1, none⟩ = some (.string ⟨#[]⟩) := H1.out.c 1 _ rfl
  clear hb1
  go_wp2_with fail
  refine (arity_8 _).mono ?_
  rintro e w2 ⟨rfl, rfl⟩
  go_wp2
  go_ret
  exact ⟨rfl, H1.out.bl⟩
end Go.Proofs.YtenjefbplpbjaaaGreatDoor
