/- The walk of ClassificationParses. -/
import Derived.Test.YtnmcmnllmnpjkaaDoorB2
namespace Go.Proofs.YtnmcmnllmnpjkaaDoor
open Go.RowKit Go.Sort Cal Go.Maps
set_option maxRecDepth 100000 in
set_option maxHeartbeats 1600000 in
theorem parses_walk (w : World) (s : ByteArray) (hs : s.size ≤ maxLen) (q1 : Option Addr) (n1 c1 : Nat) (zs1 : List Int) (e1 : n1 = zs1.length) (h1 : n1 ≤ c1) (hm1 : c1 ≤ maxLen) (hz1 : IntsAt w (.slice q1 n1 c1) zs1) (_hf1 : Fits zs1)
    (q2 : Option Addr) (n2 c2 : Nat) (zs2 : List Int) (_e2 : n2 = zs2.length) (_ : n2 ≤ c2) (_ : c2 ≤ maxLen) (hz2 : IntsAt w (.slice q2 n2 c2) zs2) (hf2 : Fits zs2) (hE : Env w) :
    Calls Tryd.prog 3 #[.string s, .slice q1 n1 c1, .slice q2 n2 c2] w fun e w' => e = .returned (.bool true) ∧ Below w.heap.size w w' := by
  have HE := Lib.hid hE
  have HC := Lib.hid (hz1.cut e1 8 (by omega))
  have HCL : Hid ((zs1.take 8).length ≤ 9223372036854775807) := Lib.hid (by rw [List.length_take]; omega)
  have HT := Lib.hid (tape_new hz2 hf2)
  have hmn : n1 ≤ 9223372036854775807 := by unfold maxLen at hm1; omega
  have hmc : c1 ≤ 9223372036854775807 := by unfold maxLen at hm1; omega
  have hms : s.size ≤ 9223372036854775807 := by unfold maxLen at hs; omega
  have hm0 : (0 : Int) ≤ min ((s.size : Nat) : Int) 30 := by omega
  have hm2 : min ((s.size : Nat) : Int) 30 ≤ ((s.size : Nat) : Int) := by omega
  have hm3 : (0 : Int) ≤ min (n1 : Int) 8 := by omega
  have hm4 : min (n1 : Int) 8 ≤ (c1 : Int) := by omega
  clear hE hz1 hz2 hf2 e1 _e2 hm1 hs
  go_enter Tryd.func3, Tryd.ntmps3
  go_wp2_with fail
  refine (code_any w.heap.size (.slice q2 n2 c2) zs2 0 _ HT.out (by omega)).mono ?_
  rintro e w1 ⟨s2, i', rfl, hs2, _, _, hto⟩
  have hu0 : (s.extract 0 (min ((s.size : Nat) : Int) 30).toNat).size ≤ 30 := by rw [ByteArray.size_extract]; omega
  generalize s.extract 0 (min ((s.size : Nat) : Int) 30).toNat = u0 at *
  have HB1 : Hid (Below w.heap.size w w1) := Lib.hid (((Below.refl _ _).alloc (Nat.le_refl _) _).trans (hto.below (by simp)))
  clear hto
  go_wp2_with fail
  have hB0 := Box.new w1 [.string u0, .string s2] 9
  go_loopw [31] (fun i wr => ∃ j : Nat, j ≤ 2 ∧ i = .int .i64 j ∧ Box w1.heap.size w1 [.string u0, .string s2] wr) (fun i _ => 2 - (intOf i).toNat)
  case atStart => exact ⟨0, by omega, rfl, hB0⟩
  case round =>
    obtain ⟨j, hj, rfl, hB⟩ := hrel
    have HB := Lib.hid hB
    by_cases hlt : j < 2
    · obtain ⟨u, hus, hu⟩ : ∃ u : ByteArray, u.size ≤ 30 ∧ wr.cell? ⟨w1.heap.size, j, none⟩ = some (.string u) := by
        have hj3 : j = 0 ∨ j = 1 := by omega
        rcases hj3 with rfl | rfl
        · exact ⟨u0, hu0, hB.c 0 _ rfl⟩
        · exact ⟨s2, by omega, hB.c 1 _ rfl⟩
      have HER := Lib.hid (HE.out.below (chain0 HB1.out hB.bl))
      clear hB
      cases hp : parseO u with
      | some P =>
        have HP := Lib.hid hp
        have HO := Lib.hid (parseO_some hp).1
        have HU := Lib.hid (parseO_some hp).2
        have hP5 := (parseO_some hp).1.2.1
        clear hp
        go_wp2_with fail
        refine (parse_yes u P _ (by omega) HP.out HER.out).mono ?_
        rintro e w2 ⟨sv, rfl, hown, hb2⟩
        have HI := Lib.hid (ints_of_own hown rfl)
        clear hown
        go_wp2_with fail
        refine (rparse_yes u P _ (by omega) HP.out).mono ?_
        rintro e w3 ⟨sv2, rfl, hown2, hb3⟩
        have HI2 := Lib.hid (ints_of_own hown2 rfl)
        clear hown2
        go_wp2_with fail
        refine (same_ints sv sv2 P _ (HI.out.below hb3) HI2.out (by omega)).mono ?_
        rintro e w4 ⟨rfl, hb4⟩
        go_wp2_with fail
        refine (format_yes sv P _ ((HI.out.below hb3).below hb4) HO.out (HER.out.tab.below (chain0 (chain0 hb2 hb3) hb4))).mono ?_
        rintro e w5 ⟨rfl, hb5⟩
        rw [← HU.out]
        have HBN := Lib.hid (HB.out.step (chain0 (chain0 (chain0 hb2 hb3) hb4) hb5))
        clear hb2 hb3 hb4 hb5
        go_wp2_with fail
        go_roundw
        case rel => exact ⟨j + 1, by omega, by go_num, HBN.out⟩
        case measure => simp [intOf]; omega
      | none =>
        have HP := Lib.hid hp
        clear hp
        go_wp2_with fail
        refine (parse_no u _ (by omega) HP.out HER.out).mono ?_
        rintro e w2 ⟨rfl, hb2⟩
        go_wp2_with fail
        refine (rparse_no u _ (by omega) HP.out).mono ?_
        rintro e w3 ⟨rfl, hb3⟩
        go_wp2_with fail
        refine (same_ints _ _ [] _ (IntsAt.nil _ _) (IntsAt.nil _ _) (by simp)).mono ?_
        rintro e w4 ⟨rfl, hb4⟩
        have HBN := Lib.hid (HB.out.step (chain0 (chain0 hb2 hb3) hb4))
        clear hb2 hb3 hb4
        go_wp2_with fail
        go_roundw
        case rel => exact ⟨j + 1, by omega, by go_num, HBN.out⟩
        case measure => simp [intOf]; omega
    · have HBR := Lib.hid (chain0 HB1.out hB.bl)
      clear hB
      obtain ⟨t, cc, hF, _⟩ := format_form (zs1.take 8)
      have HF := Lib.hid hF
      clear hF
      go_wp2_with fail
      refine (format_any _ _ _ (HC.out.below HBR.out) HCL.out (HE.out.tab.below HBR.out)).mono ?_
      rintro e w2 ⟨rfl, hb2⟩
      rw [HF.out]
      go_wp2_with fail
      refine (rformat_any _ _ _ ((HC.out.below HBR.out).below hb2) HCL.out).mono ?_
      rintro e w3 ⟨rfl, hb3⟩
      rw [HF.out]
      have HB3 := Lib.hid (chain0 (chain0 HBR.out hb2) hb3)
      clear hb2 hb3
      go_wp2_with fail
      refine (awake_any _ (HE.out.below HB3.out)).mono ?_
      rintro e w4 ⟨rfl, hb4⟩
      go_wp2
      go_ret
      exact ⟨rfl, chain0 HB3.out hb4⟩
end Go.Proofs.YtnmcmnllmnpjkaaDoor
