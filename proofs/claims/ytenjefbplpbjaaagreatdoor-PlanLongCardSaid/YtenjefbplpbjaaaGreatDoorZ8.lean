/- Contracts of the program's Validate and Format at the long plan: too long, or well. -/
import Derived.Test.YtenjefbplpbjaaaGreatDoorZ7
namespace Go.Proofs.YtenjefbplpbjaaaGreatDoor
open Go.RowKit Go.Sort Cal Go.Maps
/-- What both answer for a plan of n definitions. -/
def errV (n : Nat) : Int := if 8192 < (planB n).size then 365 else 0
def outS (n : Nat) : ByteArray := if 8192 < (planB n).size then ⟨#[]⟩ else planB n
theorem errV_big {n : Nat} (h : 8192 < (planB n).size) : errV n = 365 ∧ outS n = ⟨#[]⟩ := by unfold errV outS; rw [if_pos h, if_pos h]; exact ⟨rfl, rfl⟩
theorem errV_ok {n : Nat} (h : ¬ 8192 < (planB n).size) : errV n = 0 ∧ outS n = planB n := by unfold errV outS; rw [if_neg h, if_neg h]; exact ⟨rfl, rfl⟩
theorem errV_zero : errV 0 = 0 ∧ outS 0 = smallB := errV_ok (n := 0) (by rw [planB_size]; omega)
def planWL (g1 c1 g2 c2 : Nat) (dv : Value) : List Value := [.int .i64 1, .slice (some ⟨g1, 0, none⟩) 1 c1, .slice (some ⟨g2, 0, none⟩) 1 c2, .slice none 0 0, dv, .slice none 0 0]
set_option maxHeartbeats 3200000 in
theorem validate_n (g1 c1 g2 c2 g3 c3 g c n : Nat) (a : Nat → Nat) (dv : Value) (w : World) (hP : PlanAt g1 g2 g3 c3 w) (hD : DefsAt g c n dv w) (hN : NodesAt g a w) (hE : Env w) (hn : n ≤ 20) :
    Calls Tryz.prog 10 #[planW g1 c1 g2 c2 dv] w fun e w' => e = .returned (.int .i64 (errV n)) ∧ Below w.heap.size w w' := by
  obtain ⟨p, cd, rfl, hcd, hf⟩ := hD.form
  have HD := Lib.hid hD
  have HN := Lib.hid hN
  have HE := Lib.hid hE
  have HP := Lib.hid hP
  have HB := Lib.hid (Box.new w (planWL g1 c1 g2 c2 (.slice p n cd)) 28)
  clear hP hD hf hN hE
  unfold planW
  go_enter Tryz.func10, Tryz.ntmps10
  go_wp2_with fail
  refine (isRules_at g1 g2 g3 c3 c1 _ (HP.out.below HB.out.bl)).mono ?_
  rintro e w1 ⟨rfl, hb1⟩
  have H1 := Lib.hid (HB.out.step hb1)
  clear hb1 HB
  have b2 : w1.cell? ⟨w.heap.size, 2, none⟩ = some (.slice (some ⟨g2, 0, none⟩) 1 c2) := H1.out.c 2 _ rfl
  go_wp2_with fail
  refine (vchains_at g1 g2 g3 c3 c2 _ (HP.out.below H1.out.bl)).mono ?_
  rintro e w2 ⟨rfl, hb2⟩
  have H2 := Lib.hid (H1.out.step hb2)
  clear hb2 b2 H1
  have b3 : w2.cell? ⟨w.heap.size, 3, none⟩ = some (.slice none 0 0) := H2.out.c 3 _ rfl
  go_wp2_with fail
  refine (isSpecials_none _).mono ?_
  rintro e w3 ⟨rfl, hb3⟩
  have H3 := Lib.hid (H2.out.step hb3)
  clear hb3 b3 H2
  have b5 : w3.cell? ⟨w.heap.size, 5, none⟩ = some (.slice none 0 0) := H3.out.c 5 _ rfl
  go_wp2_with fail
  refine (isPublications_none _).mono ?_
  rintro e w4 ⟨rfl, hb4⟩
  have H4 := Lib.hid (H3.out.step hb4)
  clear hb4 b5 H3
  have b4 : w4.cell? ⟨w.heap.size, 4, none⟩ = some (.slice p n cd) := H4.out.c 4 _ rfl
  go_wp2_with fail
  refine (isDefinitions_n g c n a _ _ (HD.out.below H4.out.bl) (HN.out.below H4.out.bl) (HE.out.below H4.out.bl) hn).mono ?_
  rintro e w5 ⟨rfl, hb5⟩
  have H5 := Lib.hid (H4.out.step hb5)
  clear hb5 b4 H4
  have b0 : w5.cell? ⟨w.heap.size, 0, none⟩ = some (.int .i64 1) := H5.out.c 0 _ rfl
  have b1 : w5.cell? ⟨w.heap.size, 1, none⟩ = some (.slice (some ⟨g1, 0, none⟩) 1 c1) := H5.out.c 1 _ rfl
  have b2 : w5.cell? ⟨w.heap.size, 2, none⟩ = some (.slice (some ⟨g2, 0, none⟩) 1 c2) := H5.out.c 2 _ rfl
  have b3 : w5.cell? ⟨w.heap.size, 3, none⟩ = some (.slice none 0 0) := H5.out.c 3 _ rfl
  have b4 : w5.cell? ⟨w.heap.size, 4, none⟩ = some (.slice p n cd) := H5.out.c 4 _ rfl
  have b5 : w5.cell? ⟨w.heap.size, 5, none⟩ = some (.slice none 0 0) := H5.out.c 5 _ rfl
  go_wp2_with fail
  refine (write_n g1 c1 g2 c2 g3 c3 g c n a _ _ (HP.out.below H5.out.bl) (HD.out.below H5.out.bl) (HN.out.below H5.out.bl) (HE.out.below H5.out.bl) hn).mono ?_
  rintro e w6 ⟨rfl, hb6⟩
  have HF := Lib.hid (chain0 H5.out.bl hb6)
  clear hb6 b0 b1 b2 b3 b4 b5
  have hsz := planB_size n
  by_cases hbig : 8192 < (planB n).size
  · have HV := Lib.hid (errV_big hbig).1
    have hd : (8192 : Int) < ((planB n).size : Int) := by omega
    clear hbig hsz
    generalize planB n = s at *
    go_wp2
    go_ret
    exact ⟨by first | (rw [HV.out]; rfl) | rw [HV.out], HF.out⟩
  · have HV := Lib.hid (errV_ok hbig).1
    have hd : ¬ (8192 : Int) < ((planB n).size : Int) := by omega
    clear hbig hsz
    generalize planB n = s at *
    go_wp2
    go_ret
    exact ⟨by first | (rw [HV.out]; rfl) | rw [HV.out], HF.out⟩
set_option maxHeartbeats 3200000 in
theorem pformat_n (g1 c1 g2 c2 g3 c3 g c n : Nat) (a : Nat → Nat) (dv : Value) (w : World) (hP : PlanAt g1 g2 g3 c3 w) (hD : DefsAt g c n dv w) (hN : NodesAt g a w) (hE : Env w) (hn : n ≤ 20) :
    Calls Tryz.prog 7 #[planW g1 c1 g2 c2 dv] w fun e w' => e = .returned (.tuple #[.string (outS n), .int .i64 (errV n)]) ∧ Below w.heap.size w w' := by
  obtain ⟨p, cd, rfl, hcd, hf⟩ := hD.form
  have HD := Lib.hid hD
  have HN := Lib.hid hN
  have HE := Lib.hid hE
  have HP := Lib.hid hP
  have HB := Lib.hid (Box.new w (planWL g1 c1 g2 c2 (.slice p n cd)) 28)
  clear hP hD hf hN hE
  unfold planW
  go_enter Tryz.func7, Tryz.ntmps7
  go_wp2_with fail
  refine (validate_n g1 c1 g2 c2 g3 c3 g c n a _ _ (HP.out.below HB.out.bl) (HD.out.below HB.out.bl) (HN.out.below HB.out.bl) (HE.out.below HB.out.bl) hn).mono ?_
  rintro e w5 ⟨rfl, hb1⟩
  have H5 := Lib.hid (HB.out.step hb1)
  clear hb1 HB
  have b0 : w5.cell? ⟨w.heap.size, 0, none⟩ = some (.int .i64 1) := H5.out.c 0 _ rfl
  have b1 : w5.cell? ⟨w.heap.size, 1, none⟩ = some (.slice (some ⟨g1, 0, none⟩) 1 c1) := H5.out.c 1 _ rfl
  have b2 : w5.cell? ⟨w.heap.size, 2, none⟩ = some (.slice (some ⟨g2, 0, none⟩) 1 c2) := H5.out.c 2 _ rfl
  have b3 : w5.cell? ⟨w.heap.size, 3, none⟩ = some (.slice none 0 0) := H5.out.c 3 _ rfl
  have b4 : w5.cell? ⟨w.heap.size, 4, none⟩ = some (.slice p n cd) := H5.out.c 4 _ rfl
  have b5 : w5.cell? ⟨w.heap.size, 5, none⟩ = some (.slice none 0 0) := H5.out.c 5 _ rfl
  by_cases hbig : 8192 < (planB n).size
  · have HV := Lib.hid (errV_big hbig)
    have hv : errV n = 365 := (errV_big hbig).1
    have HF := Lib.hid H5.out.bl
    rw [hv]
    clear hbig hv b0 b1 b2 b3 b4 b5
    go_wp2_with fail
    go_ret2
    exact ⟨by first | (rw [HV.out.1, HV.out.2]; rfl) | rw [HV.out.1, HV.out.2], HF.out⟩
  · have HV := Lib.hid (errV_ok hbig)
    have hv : errV n = 0 := (errV_ok hbig).1
    rw [hv]
    clear hbig hv
    go_wp2_with fail
    refine (write_n g1 c1 g2 c2 g3 c3 g c n a _ _ (HP.out.below H5.out.bl) (HD.out.below H5.out.bl) (HN.out.below H5.out.bl) (HE.out.below H5.out.bl) hn).mono ?_
    rintro e w6 ⟨rfl, hb6⟩
    have HF := Lib.hid (chain0 H5.out.bl hb6)
    clear hb6 b0 b1 b2 b3 b4 b5
    go_wp2
    go_ret2
    exact ⟨by first | (rw [HV.out.1, HV.out.2]; rfl) | rw [HV.out.1, HV.out.2], HF.out⟩
end Go.Proofs.YtenjefbplpbjaaaGreatDoor
