/- What the library's Cut, Split, CutPrefix and CutSuffix make of the strings of the small plan. -/
import Derived.Test.YtenjefbplpbjaaaGreatDoorQ6
namespace Go.Proofs.YtenjefbplpbjaaaGreatDoor
open Go.RowKit Go.Sort Cal Go.Maps
theorem cut_lit (s sep a b : ByteArray) (ok : Bool) (h1 : (⟨(Lib.cut s.data.toList sep.data.toList).1.toArray⟩ : ByteArray) = a) (h2 : (⟨(Lib.cut s.data.toList sep.data.toList).2.1.toArray⟩ : ByteArray) = b) (h3 : (Lib.cut s.data.toList sep.data.toList).2.2 = ok) (hs : s.size ≤ 1000) (w : World) (hE : Env w) :
    Calls Tryz.prog 108 #[.string s, .string sep] w fun e w' => e = .returned (.tuple #[.string a, .string b, .bool ok]) ∧ Below w.heap.size w w' := by
  obtain ⟨m, hm⟩ := hE.len
  refine (Tryz.strings_Cut s sep m w (by omega) hm).mono ?_
  rintro e w' ⟨rfl, n, rfl⟩
  exact ⟨by rw [h1, h2, h3], below_drewN (Below.refl _ _) n⟩
theorem split_lit (s sep : ByteArray) (xs : List ByteArray) (n : Nat) (h1 : Lib.splitB sep 0 (Lib.countB s sep) s = xs) (h2 : Lib.countB s sep + 1 = n) (h3 : 1 ≤ sep.size) (hs : s.size ≤ 1000) (w : World) (hE : Env w) :
    Calls Tryz.prog 58 #[.string s, .string sep] w fun e w' => e = .returned (.slice (some ⟨w.heap.size, 0, none⟩) n n) ∧ w' = w.alloc (.cells (xs.map Value.string).toArray 9) := by
  obtain ⟨m, hm⟩ := hE.len
  refine (Tryz.strings_Split s sep m w (by omega) hm h3).mono ?_
  rintro e w' ⟨rfl, rfl⟩
  exact ⟨by rw [h2], by rw [h1]⟩
theorem cut_rule (w : World) (hE : Env w) : Calls Tryz.prog 108 #[.string ⟨#[114, 117, 108, 101, 32, 97, 108, 108, 32, 106, 101, 118, 111, 110, 115]⟩, .string ⟨#[32]⟩] w fun e w' => e = .returned (.tuple #[.string ⟨#[114, 117, 108, 101]⟩, .string ⟨#[97, 108, 108, 32, 106, 101, 118, 111, 110, 115]⟩, .bool true]) ∧ Below w.heap.size w w' :=
  cut_lit _ _ _ _ _ (by first | kernel_rfl | decide) (by first | kernel_rfl | decide) (by first | kernel_rfl | decide) (by decide) w hE
theorem cut_impute (w : World) (hE : Env w) : Calls Tryz.prog 108 #[.string ⟨#[105, 109, 112, 117, 116, 101, 32, 97, 108, 108, 32, 99, 108, 97, 115, 115, 32, 50, 44, 32, 99, 97, 114, 114, 121, 32, 51, 44, 32, 100, 114, 111, 112]⟩, .string ⟨#[32]⟩] w fun e w' => e = .returned (.tuple #[.string ⟨#[105, 109, 112, 117, 116, 101]⟩, .string ⟨#[97, 108, 108, 32, 99, 108, 97, 115, 115, 32, 50, 44, 32, 99, 97, 114, 114, 121, 32, 51, 44, 32, 100, 114, 111, 112]⟩, .bool true]) ∧ Below w.heap.size w w' :=
  cut_lit _ _ _ _ _ (by first | kernel_rfl | decide) (by first | kernel_rfl | decide) (by first | kernel_rfl | decide) (by decide) w hE
theorem cut_all (w : World) (hE : Env w) : Calls Tryz.prog 108 #[.string ⟨#[97, 108, 108, 32, 99, 108, 97, 115, 115, 32, 50, 44, 32, 99, 97, 114, 114, 121, 32, 51, 44, 32, 100, 114, 111, 112]⟩, .string ⟨#[32]⟩] w fun e w' => e = .returned (.tuple #[.string ⟨#[97, 108, 108]⟩, .string ⟨#[99, 108, 97, 115, 115, 32, 50, 44, 32, 99, 97, 114, 114, 121, 32, 51, 44, 32, 100, 114, 111, 112]⟩, .bool true]) ∧ Below w.heap.size w w' :=
  cut_lit _ _ _ _ _ (by first | kernel_rfl | decide) (by first | kernel_rfl | decide) (by first | kernel_rfl | decide) (by decide) w hE
theorem cut_s0 (w : World) (hE : Env w) : Calls Tryz.prog 108 #[.string ⟨#[99, 108, 97, 115, 115, 32, 50]⟩, .string ⟨#[32]⟩] w fun e w' => e = .returned (.tuple #[.string ⟨#[99, 108, 97, 115, 115]⟩, .string ⟨#[50]⟩, .bool true]) ∧ Below w.heap.size w w' :=
  cut_lit _ _ _ _ _ (by first | kernel_rfl | decide) (by first | kernel_rfl | decide) (by first | kernel_rfl | decide) (by decide) w hE
theorem cut_s1 (w : World) (hE : Env w) : Calls Tryz.prog 108 #[.string ⟨#[99, 97, 114, 114, 121, 32, 51]⟩, .string ⟨#[32]⟩] w fun e w' => e = .returned (.tuple #[.string ⟨#[99, 97, 114, 114, 121]⟩, .string ⟨#[51]⟩, .bool true]) ∧ Below w.heap.size w w' :=
  cut_lit _ _ _ _ _ (by first | kernel_rfl | decide) (by first | kernel_rfl | decide) (by first | kernel_rfl | decide) (by decide) w hE
theorem cut_s2 (w : World) (hE : Env w) : Calls Tryz.prog 108 #[.string ⟨#[100, 114, 111, 112]⟩, .string ⟨#[32]⟩] w fun e w' => e = .returned (.tuple #[.string ⟨#[100, 114, 111, 112]⟩, .string ⟨#[]⟩, .bool false]) ∧ Below w.heap.size w w' :=
  cut_lit _ _ _ _ _ (by first | kernel_rfl | decide) (by first | kernel_rfl | decide) (by first | kernel_rfl | decide) (by decide) w hE
theorem split_rule (w : World) (hE : Env w) : Calls Tryz.prog 58 #[.string ⟨#[97, 108, 108, 32, 106, 101, 118, 111, 110, 115]⟩, .string ⟨#[32]⟩] w fun e w' => e = .returned (.slice (some ⟨w.heap.size, 0, none⟩) 2 2) ∧ w' = w.alloc (.cells #[.string ⟨#[97, 108, 108]⟩, .string ⟨#[106, 101, 118, 111, 110, 115]⟩] 9) :=
  split_lit _ _ [⟨#[97, 108, 108]⟩, ⟨#[106, 101, 118, 111, 110, 115]⟩] 2 (by first | kernel_rfl | decide) (by first | kernel_rfl | decide) (by decide) (by decide) w hE
theorem split_impute (w : World) (hE : Env w) : Calls Tryz.prog 58 #[.string ⟨#[97, 108, 108, 32, 99, 108, 97, 115, 115, 32, 50, 44, 32, 99, 97, 114, 114, 121, 32, 51, 44, 32, 100, 114, 111, 112]⟩, .string ⟨#[32]⟩] w fun e w' => e = .returned (.slice (some ⟨w.heap.size, 0, none⟩) 6 6) ∧ w' = w.alloc (.cells #[.string ⟨#[97, 108, 108]⟩, .string ⟨#[99, 108, 97, 115, 115]⟩, .string ⟨#[50, 44]⟩, .string ⟨#[99, 97, 114, 114, 121]⟩, .string ⟨#[51, 44]⟩, .string ⟨#[100, 114, 111, 112]⟩] 9) :=
  split_lit _ _ [⟨#[97, 108, 108]⟩, ⟨#[99, 108, 97, 115, 115]⟩, ⟨#[50, 44]⟩, ⟨#[99, 97, 114, 114, 121]⟩, ⟨#[51, 44]⟩, ⟨#[100, 114, 111, 112]⟩] 6 (by first | kernel_rfl | decide) (by first | kernel_rfl | decide) (by decide) (by decide) w hE
theorem split_steps (w : World) (hE : Env w) : Calls Tryz.prog 58 #[.string ⟨#[99, 108, 97, 115, 115, 32, 50, 44, 32, 99, 97, 114, 114, 121, 32, 51, 44, 32, 100, 114, 111, 112]⟩, .string ⟨#[44, 32]⟩] w fun e w' => e = .returned (.slice (some ⟨w.heap.size, 0, none⟩) 3 3) ∧ w' = w.alloc (.cells #[.string ⟨#[99, 108, 97, 115, 115, 32, 50]⟩, .string ⟨#[99, 97, 114, 114, 121, 32, 51]⟩, .string ⟨#[100, 114, 111, 112]⟩] 9) :=
  split_lit _ _ [⟨#[99, 108, 97, 115, 115, 32, 50]⟩, ⟨#[99, 97, 114, 114, 121, 32, 51]⟩, ⟨#[100, 114, 111, 112]⟩] 3 (by first | kernel_rfl | decide) (by first | kernel_rfl | decide) (by decide) (by decide) w hE
theorem split_lines (w : World) (hE : Env w) : Calls Tryz.prog 58 #[.string ⟨#[100, 105, 103, 105, 116, 115, 32, 49, 10, 114, 117, 108, 101, 32, 97, 108, 108, 32, 106, 101, 118, 111, 110, 115, 10, 105, 109, 112, 117, 116, 101, 32, 97, 108, 108, 32, 99, 108, 97, 115, 115, 32, 50, 44, 32, 99, 97, 114, 114, 121, 32, 51, 44, 32, 100, 114, 111, 112]⟩, .string ⟨#[10]⟩] w fun e w' => e = .returned (.slice (some ⟨w.heap.size, 0, none⟩) 3 3) ∧ w' = w.alloc (.cells #[.string ⟨#[100, 105, 103, 105, 116, 115, 32, 49]⟩, .string ⟨#[114, 117, 108, 101, 32, 97, 108, 108, 32, 106, 101, 118, 111, 110, 115]⟩, .string ⟨#[105, 109, 112, 117, 116, 101, 32, 97, 108, 108, 32, 99, 108, 97, 115, 115, 32, 50, 44, 32, 99, 97, 114, 114, 121, 32, 51, 44, 32, 100, 114, 111, 112]⟩] 9) :=
  split_lit _ _ [⟨#[100, 105, 103, 105, 116, 115, 32, 49]⟩, ⟨#[114, 117, 108, 101, 32, 97, 108, 108, 32, 106, 101, 118, 111, 110, 115]⟩, ⟨#[105, 109, 112, 117, 116, 101, 32, 97, 108, 108, 32, 99, 108, 97, 115, 115, 32, 50, 44, 32, 99, 97, 114, 114, 121, 32, 51, 44, 32, 100, 114, 111, 112]⟩] 3 (by first | kernel_rfl | decide) (by first | kernel_rfl | decide) (by decide) (by decide) w hE
theorem suffix_small (w : World) : Calls Tryz.prog 57 #[.string ⟨#[100, 105, 103, 105, 116, 115, 32, 49, 10, 114, 117, 108, 101, 32, 97, 108, 108, 32, 106, 101, 118, 111, 110, 115, 10, 105, 109, 112, 117, 116, 101, 32, 97, 108, 108, 32, 99, 108, 97, 115, 115, 32, 50, 44, 32, 99, 97, 114, 114, 121, 32, 51, 44, 32, 100, 114, 111, 112, 10]⟩, .string ⟨#[10]⟩] w fun e w' => e = .returned (.tuple #[.string ⟨#[100, 105, 103, 105, 116, 115, 32, 49, 10, 114, 117, 108, 101, 32, 97, 108, 108, 32, 106, 101, 118, 111, 110, 115, 10, 105, 109, 112, 117, 116, 101, 32, 97, 108, 108, 32, 99, 108, 97, 115, 115, 32, 50, 44, 32, 99, 97, 114, 114, 121, 32, 51, 44, 32, 100, 114, 111, 112]⟩, .bool true]) ∧ w = w' :=
  (Tryz.strings_CutSuffix _ _ w (by decide)).mono fun _ _ ⟨he, hw⟩ => ⟨he.trans (by first | kernel_rfl | decide), hw.symm⟩
theorem prefix_digits (w : World) : Calls Tryz.prog 59 #[.string ⟨#[100, 105, 103, 105, 116, 115, 32, 49]⟩, .string ⟨#[100, 105, 103, 105, 116, 115, 32]⟩] w fun e w' => e = .returned (.tuple #[.string ⟨#[49]⟩, .bool true]) ∧ w = w' :=
  (Tryz.strings_CutPrefix _ _ w).mono fun _ _ ⟨he, hw⟩ => ⟨he.trans (by first | kernel_rfl | decide), hw.symm⟩
theorem number_1 (w : World) : Calls Tryz.prog 60 #[.string ⟨#[49]⟩] w fun e w' => e = .returned (.tuple #[.int .i64 1, .bool true]) ∧ Below w.heap.size w w' :=
  number_of ⟨#[49]⟩ 1 w (by decide) (by first | kernel_rfl | decide)
theorem number_2 (w : World) : Calls Tryz.prog 60 #[.string ⟨#[50]⟩] w fun e w' => e = .returned (.tuple #[.int .i64 2, .bool true]) ∧ Below w.heap.size w w' :=
  number_of ⟨#[50]⟩ 2 w (by decide) (by first | kernel_rfl | decide)
theorem number_3 (w : World) : Calls Tryz.prog 60 #[.string ⟨#[51]⟩] w fun e w' => e = .returned (.tuple #[.int .i64 3, .bool true]) ∧ Below w.heap.size w w' :=
  number_of ⟨#[51]⟩ 3 w (by decide) (by first | kernel_rfl | decide)
end Go.Proofs.YtenjefbplpbjaaaGreatDoor
