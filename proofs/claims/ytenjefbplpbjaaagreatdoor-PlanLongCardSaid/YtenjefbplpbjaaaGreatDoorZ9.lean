/- Contracts of the reference's judgements on the nodes of the long plan: Word, Name, Split, Reference, Trim of nil, Sign, arguments, node. -/
import Derived.Test.YtenjefbplpbjaaaGreatDoorZ3
import Derived.Test.YtenjefbplpbjaaaGreatDoorR4
import Derived.Laws.AppendOwnNone
namespace Go.Proofs.YtenjefbplpbjaaaGreatDoor
open Go.RowKit Go.Sort Cal Go.Maps
theorem rletter_low (v : Int) (w : World) (h1 : 97 ≤ v) (h2 : v ≤ 122) : Calls Tryz.prog 132 #[.int .u8 v] w fun e w' => e = .returned (.bool true) ∧ w = w' := by
  go_enter Tryz.func132, Tryz.ntmps132
  go_wp2
  go_ret
  exact ⟨rfl, rfl⟩
theorem rsign_low (v : Int) (w : World) (h1 : 97 ≤ v) (h2 : v ≤ 122) : Calls Tryz.prog 133 #[.int .u8 v] w fun e w' => e = .returned (.bool true) ∧ w = w' := by
  go_enter Tryz.func133, Tryz.ntmps133
  go_wp2_with fail
  refine (rletter_low v _ h1 h2).mono ?_
  rintro e w' ⟨rfl, rfl⟩
  go_wp2
  go_ret
  exact ⟨rfl, rfl⟩
set_option maxHeartbeats 800000 in
theorem rword_y (w : World) : Calls Tryz.prog 74 #[.string ⟨#[121]⟩] w fun e w' => e = .returned (.bool true) ∧ w = w' := by
  go_enter Tryz.func74, Tryz.ntmps74
  go_wp2_with fail
  refine (rletter_low 121 _ (by omega) (by omega)).mono ?_
  rintro e w' ⟨rfl, rfl⟩
  go_wp2_with fail
  go_loop [20] (fun i => ∃ k : Nat, k ≤ 1 ∧ i = .int .i64 k) (fun i => 1 - (intOf i).toNat)
  case atStart => exact ⟨0, by omega, rfl⟩
  case round =>
    obtain ⟨k, hk, rfl⟩ := hrel
    obtain rfl | rfl : k = 0 ∨ k = 1 := by omega
    · go_wp2_with fail
      refine (rsign_low 121 _ (by omega) (by omega)).mono ?_
      rintro e w' ⟨rfl, rfl⟩
      go_wp2_with fail
      go_round
      case rel => exact ⟨1, by omega, by go_num⟩
      case measure => simp [intOf]
    · go_wp2
      go_ret
      exact ⟨rfl, rfl⟩
set_option maxHeartbeats 1600000 in
theorem rname_low (s : ByteArray) (w : World) (h1 : 1 ≤ s.size) (h24 : s.size ≤ 24) (hb : ∀ k (h : k < s.size), 97 ≤ (s[k].toNat : Int) ∧ (s[k].toNat : Int) ≤ 122) :
    Calls Tryz.prog 240 #[.string s] w fun e w' => e = .returned (.bool true) ∧ w = w' := by
  have HB := Lib.hid hb
  have h24' : (s.size : Int) ≤ 24 := by omega
  have h1' : 1 ≤ (s.size : Int) := by omega
  clear hb
  go_enter Tryz.func240, Tryz.ntmps240
  go_wp2_with fail
  go_loop [7] (fun i => ∃ k : Nat, k ≤ s.size ∧ i = .int .i64 k) (fun i => s.size - (intOf i).toNat)
  case atStart => exact ⟨0, by omega, rfl⟩
  case round =>
    obtain ⟨k, hk, rfl⟩ := hrel
    by_cases hlt : k < s.size
    · have a1 := (HB.out k hlt).1
      have a2 := (HB.out k hlt).2
      go_wp2
      all_goals first
        | (exfalso; omega)
        | skip
      go_round
      case rel => exact ⟨k + 1, by omega, by go_num⟩
      case measure => simp [intOf]; omega
    · go_wp2
      go_ret
      exact ⟨rfl, rfl⟩
theorem ref_all : ∀ k : Fin 14, (refB.data.toList.getD k.1 0).toNat ≠ 64 := by decide
theorem ref_no (k : Nat) (h : k < 14) (hr : k < refB.size) : ((refB[k].toNat : Int) == 64) = false := by
  have h2 := ref_all ⟨k, h⟩
  have e : refB.data.toList.getD k 0 = refB[k] := by
    rw [List.getD_eq_getElem?_getD, List.getElem?_eq_getElem (show k < refB.data.toList.length from hr)]; rfl
  simp only [e] at h2
  simp; omega
theorem ref_at (hr : 14 < refB.size) : ((refB[14].toNat : Int) == 64) = true := by rfl
theorem ext_1 : refB.extract 0 14 = c99B := by kernel_rfl
theorem ext_2 : refB.extract 15 39 = regB := by kernel_rfl
set_option maxHeartbeats 1600000 in
theorem split_ref (w : World) : Calls Tryz.prog 239 #[.string refB] w fun e w' => e = .returned (.tuple #[.string c99B, .string regB, .bool true]) ∧ Below w.heap.size w w' := by
  have hs : refB.size = 39 := rfl
  have HS := Lib.hid hs
  go_enter Tryz.func239, Tryz.ntmps239
  go_wp2_with fail
  go_loop [8] (fun i => ∃ k : Nat, k ≤ 14 ∧ i = .int .i64 k) (fun i => 14 - (intOf i).toNat)
  case atStart => exact ⟨0, by omega, rfl⟩
  case round =>
    obtain ⟨k, hk, rfl⟩ := hrel
    have hr : k < refB.size := by rw [HS.out]; omega
    by_cases hlt : k < 14
    · have hno := ref_no k hlt hr
      go_wp2
      go_round
      case rel => exact ⟨k + 1, by omega, by go_num⟩
      case measure => simp [intOf]; omega
    · obtain rfl : k = 14 := by omega
      have hy := ref_at hr
      go_wp2
      go_quiet (fail)
      go_wp2
      go_ret3
      exact ⟨by rw [← ext_1, ← ext_2]; rfl, below_drewN (Below.refl _ _) _⟩
theorem par_99 : (parseO c99B).isSome = true := by kernel_rfl
set_option maxHeartbeats 800000 in
theorem rreference_ok (w : World) : Calls Tryz.prog 190 #[.string refB] w fun e w' => e = .returned (.bool true) ∧ Below w.heap.size w w' := by
  have hall : (c99B.toList == [97, 108, 108]) = false := by rw [ByteArray.toList_eq]; rfl
  go_enter Tryz.func190, Tryz.ntmps190
  go_wp2_with fail
  refine (split_ref _).mono ?_
  rintro e w1 ⟨rfl, hb1⟩
  have HB1 := Lib.hid hb1
  clear hb1
  go_wp2_with fail
  refine (ris_any c99B _ (by decide)).mono ?_
  rintro e w2 ⟨rfl, hb2⟩
  rw [par_99]
  have HB2 := Lib.hid (chain0 HB1.out hb2)
  clear hb2
  go_wp2_with fail
  refine (rname_low regB _ (by decide) (by decide) reg_at).mono ?_
  rintro e w3 ⟨rfl, rfl⟩
  go_wp2
  go_ret
  exact ⟨rfl, HB2.out⟩
theorem rsize_nil (w : World) : Calls Tryz.prog 185 #[.slice none 0 0] w fun e w' => e = .returned (.int .i64 0) ∧ w = w' := by
  go_enter Tryz.func185, Tryz.ntmps185
  go_wp2_with fail
  go_loop [3] (fun v => v = .int .i64 0) (fun _ => 0)
  case atStart => rfl
  case round =>
    obtain rfl := hrel
    go_wp2
    go_ret
    exact ⟨rfl, rfl⟩
set_option maxHeartbeats 800000 in
theorem trim_nil (w : World) : Calls Tryz.prog 134 #[.slice none 0 0] w fun e w' => e = .returned (.slice (some ⟨w.heap.size, 0, none⟩) 0 0) ∧ Below w.heap.size w w' := by
  obtain ⟨i0, hi0, hz0, hz1, hz2⟩ := info_parts info_u32
  have HLIT : Hid ((w.alloc (.cells #[] 129)).ownsRow w.heap.size 129 1 (.slice (some ⟨w.heap.size, 0, none⟩) 0 0) 0 []) := Lib.hid (World.ownsRow_lit w #[] 0 (Nat.le_refl _) (by decide) rfl)
  go_enter Tryz.func134, Tryz.ntmps134
  go_wp2_with fail
  refine (rsize_nil _).mono ?_
  rintro e w1 ⟨rfl, rfl⟩
  go_wp2_with (first
    | (at_builtin; refine wpList_append_own_none rfl _ _ 34 rfl w.heap.size 129 i0 1 Tryz.underlying34 hi0 _ 0 _ rfl HLIT.out rfl ?_)
    | fail)
  go_wp2_with fail
  go_ret
  exact ⟨rfl, chainAlloc (Below.refl _ _) _⟩
theorem rsign_zero (w : World) : Calls Tryz.prog 77 #[.agg #[.bool false, .slice none 0 0, .slice none 0 0]] w fun e w' => e = .returned (.int .i64 0) ∧ Below w.heap.size w w' := by
  go_enter Tryz.func77, Tryz.ntmps77
  go_wp2_with fail
  refine (trim_nil _).mono ?_
  rintro e w1 ⟨rfl, hb1⟩
  have HF := Lib.hid (chain0 (chainAlloc (Below.refl w.heap.size w) (.cells #[.bool false, .slice none 0 0, .slice none 0 0] 36)) hb1)
  clear hb1
  go_wp2
  go_ret
  exact ⟨rfl, HF.out⟩
theorem rargs_3 (w : World) : Calls Tryz.prog 139 #[.int .i64 3] w fun e w' => e = .returned (.int .i64 0) ∧ w = w' := by
  go_enter Tryz.func139, Tryz.ntmps139
  go_wp2
  go_ret
  exact ⟨rfl, rfl⟩
theorem rargs_8 (w : World) : Calls Tryz.prog 139 #[.int .i64 8] w fun e w' => e = .returned (.int .i64 2) ∧ w = w' := by
  go_enter Tryz.func139, Tryz.ntmps139
  go_wp2
  go_ret
  exact ⟨rfl, rfl⟩
set_option maxHeartbeats 1600000 in
theorem rnode_leaf (w : World) : Calls Tryz.prog 138 #[.agg #[.int .i64 3, .string refB, .bool false, .slice none 0 0, .slice none 0 0, .slice none 0 0]] w fun e w' => e = .returned (.bool true) ∧ Below w.heap.size w w' := by
  have HB := Lib.hid (Box.new w [.int .i64 3, .string refB, .bool false, .slice none 0 0, .slice none 0 0, .slice none 0 0] 39)
  go_enter Tryz.func138, Tryz.ntmps138
  go_wp2_with fail
  refine (rreference_ok _).mono ?_
  rintro e w1 ⟨rfl, hb1⟩
  have H1 := Lib.hid (HB.out.step hb1)
  have b2 : w1.cell? ⟨w.heap.size, 2, none⟩ = some (.bool false) := H1.out.c 2 _ rfl
  have b3 : w1.cell? ⟨w.heap.size, 3, none⟩ = some (.slice none 0 0) := H1.out.c 3 _ rfl
  have b4 : w1.cell? ⟨w.heap.size, 4, none⟩ = some (.slice none 0 0) := H1.out.c 4 _ rfl
  clear hb1
  go_wp2_with fail
  refine (rsign_zero _).mono ?_
  rintro e w2 ⟨rfl, hb2⟩
  have HF := Lib.hid (chain0 H1.out.bl hb2)
  clear hb2 b2 b3 b4
  go_wp2
  go_ret
  exact ⟨rfl, HF.out⟩
set_option maxHeartbeats 1600000 in
theorem rnode_min (p : Option Addr) (n c : Nat) (w : World) : Calls Tryz.prog 138 #[.agg #[.int .i64 8, .string ⟨#[]⟩, .bool false, .slice none 0 0, .slice none 0 0, .slice p n c]] w fun e w' => e = .returned (.bool true) ∧ Below w.heap.size w w' := by
  have HB := Lib.hid (Box.new w [.int .i64 8, .string ⟨#[]⟩, .bool false, .slice none 0 0, .slice none 0 0, .slice p n c] 39)
  go_enter Tryz.func138, Tryz.ntmps138
  go_wp2_with fail
  refine (rargs_8 _).mono ?_
  rintro e w1 ⟨rfl, rfl⟩
  go_wp2_with fail
  refine (rsign_zero _).mono ?_
  rintro e w2 ⟨rfl, hb2⟩
  have HF := Lib.hid (chain0 HB.out.bl hb2)
  clear hb2
  go_wp2
  go_ret
  exact ⟨rfl, HF.out⟩
end Go.Proofs.YtenjefbplpbjaaaGreatDoor
