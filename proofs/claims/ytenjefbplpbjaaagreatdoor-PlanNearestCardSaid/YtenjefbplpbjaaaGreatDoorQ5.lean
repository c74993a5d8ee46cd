/- Contracts of Validate and Format at the small plan. -/
import Derived.Test.YtenjefbplpbjaaaGreatDoorQ4
namespace Go.Proofs.YtenjefbplpbjaaaGreatDoor
open Go.RowKit Go.Sort Cal Go.Maps
def planL (g1 c1 g2 c2 : Nat) : List Value := [.int .i64 1, .slice (some ⟨g1, 0, none⟩) 1 c1, .slice (some ⟨g2, 0, none⟩) 1 c2, .slice none 0 0, .slice none 0 0, .slice none 0 0]
set_option maxHeartbeats 1600000 in
theorem validate_at (g1 c1 g2 c2 g3 c3 : Nat) (w : World) (hP : PlanAt g1 g2 g3 c3 w) :
    Calls Tryz.prog 10 #[planV g1 c1 g2 c2] w fun e w' => e = .returned (.int .i64 0) ∧ Below w.heap.size w w' := by
  unfold planV
  have HP := Lib.hid hP
  have HB := Lib.hid (Box.new w (planL g1 c1 g2 c2) 28)
  clear hP
  go_enter Tryz.func10, Tryz.ntmps10
  go_wp2_with fail
  refine (isRules_at g1 g2 g3 c3 c1 _ (HP.out.below HB.out.bl)).mono ?_
  rintro e w1 ⟨rfl, hb1⟩
  have H1 : Hid (Box w.heap.size w (planL g1 c1 g2 c2) w1) := Lib.hid (HB.out.step hb1)
  clear hb1 HB
  have b2 : w1.cell? ⟨w.heap.size, 2, none⟩ = some (.slice (some ⟨g2, 0, none⟩) 1 c2) := H1.out.c 2 _ rfl
  go_wp2_with fail
  refine (vchains_at g1 g2 g3 c3 c2 _ (HP.out.below H1.out.bl)).mono ?_
  rintro e w2 ⟨rfl, hb2⟩
  have H2 : Hid (Box w.heap.size w (planL g1 c1 g2 c2) w2) := Lib.hid (H1.out.step hb2)
  clear hb2 b2 H1
  have b3 : w2.cell? ⟨w.heap.size, 3, none⟩ = some (.slice none 0 0) := H2.out.c 3 _ rfl
  go_wp2_with fail
  refine (isSpecials_none _).mono ?_
  rintro e w3 ⟨rfl, hb3⟩
  have H3 : Hid (Box w.heap.size w (planL g1 c1 g2 c2) w3) := Lib.hid (H2.out.step hb3)
  clear hb3 b3 H2
  have b5 : w3.cell? ⟨w.heap.size, 5, none⟩ = some (.slice none 0 0) := H3.out.c 5 _ rfl
  go_wp2_with fail
  refine (isPublications_none _).mono ?_
  rintro e w4 ⟨rfl, hb4⟩
  have H4 : Hid (Box w.heap.size w (planL g1 c1 g2 c2) w4) := Lib.hid (H3.out.step hb4)
  clear hb4 b5 H3
  have b4 : w4.cell? ⟨w.heap.size, 4, none⟩ = some (.slice none 0 0) := H4.out.c 4 _ rfl
  go_wp2_with fail
  refine (isDefinitions_none _).mono ?_
  rintro e w5 ⟨rfl, hb5⟩
  have H5 : Hid (Box w.heap.size w (planL g1 c1 g2 c2) w5) := Lib.hid (H4.out.step hb5)
  clear hb5 b4 H4
  have b0 : w5.cell? ⟨w.heap.size, 0, none⟩ = some (.int .i64 1) := H5.out.c 0 _ rfl
  have b1 : w5.cell? ⟨w.heap.size, 1, none⟩ = some (.slice (some ⟨g1, 0, none⟩) 1 c1) := H5.out.c 1 _ rfl
  have b2 : w5.cell? ⟨w.heap.size, 2, none⟩ = some (.slice (some ⟨g2, 0, none⟩) 1 c2) := H5.out.c 2 _ rfl
  have b3 : w5.cell? ⟨w.heap.size, 3, none⟩ = some (.slice none 0 0) := H5.out.c 3 _ rfl
  have b4 : w5.cell? ⟨w.heap.size, 4, none⟩ = some (.slice none 0 0) := H5.out.c 4 _ rfl
  have b5 : w5.cell? ⟨w.heap.size, 5, none⟩ = some (.slice none 0 0) := H5.out.c 5 _ rfl
  have hsm : smallB.size = 59 := by kernel_rfl
  go_wp2_with fail
  refine (write_at g1 c1 g2 c2 g3 c3 _ (HP.out.below H5.out.bl)).mono ?_
  rintro e w6 ⟨rfl, hb6⟩
  have HF := Lib.hid (chain0 H5.out.bl hb6)
  clear hb6 b0 b1 b2 b3 b4 b5
  go_wp2
  go_ret
  exact ⟨rfl, HF.out⟩
set_option maxHeartbeats 1600000 in
theorem format_at (g1 c1 g2 c2 g3 c3 : Nat) (w : World) (hP : PlanAt g1 g2 g3 c3 w) :
    Calls Tryz.prog 7 #[planV g1 c1 g2 c2] w fun e w' => e = .returned (.tuple #[.string smallB, .int .i64 0]) ∧ Below w.heap.size w w' := by
  unfold planV
  have HP := Lib.hid hP
  have HB := Lib.hid (Box.new w (planL g1 c1 g2 c2) 28)
  clear hP
  go_enter Tryz.func7, Tryz.ntmps7
  go_wp2_with fail
  refine (validate_at g1 c1 g2 c2 g3 c3 _ (HP.out.below HB.out.bl)).mono ?_
  rintro e w5 ⟨rfl, hb1⟩
  have H5 : Hid (Box w.heap.size w (planL g1 c1 g2 c2) w5) := Lib.hid (HB.out.step hb1)
  clear hb1 HB
  have b0 : w5.cell? ⟨w.heap.size, 0, none⟩ = some (.int .i64 1) := H5.out.c 0 _ rfl
  have b1 : w5.cell? ⟨w.heap.size, 1, none⟩ = some (.slice (some ⟨g1, 0, none⟩) 1 c1) := H5.out.c 1 _ rfl
  have b2 : w5.cell? ⟨w.heap.size, 2, none⟩ = some (.slice (some ⟨g2, 0, none⟩) 1 c2) := H5.out.c 2 _ rfl
  have b3 : w5.cell? ⟨w.heap.size, 3, none⟩ = some (.slice none 0 0) := H5.out.c 3 _ rfl
  have b4 : w5.cell? ⟨w.heap.size, 4, none⟩ = some (.slice none 0 0) := H5.out.c 4 _ rfl
  have b5 : w5.cell? ⟨w.heap.size, 5, none⟩ = some (.slice none 0 0) := H5.out.c 5 _ rfl
  go_wp2_with fail
  refine (write_at g1 c1 g2 c2 g3 c3 _ (HP.out.below H5.out.bl)).mono ?_
  rintro e w6 ⟨rfl, hb6⟩
  have HF := Lib.hid (chain0 H5.out.bl hb6)
  clear hb6 b0 b1 b2 b3 b4 b5
  go_wp2
  go_ret2
  exact ⟨rfl, HF.out⟩
end Go.Proofs.YtenjefbplpbjaaaGreatDoor
