/- The walk of ClassificationLevels. -/
import Derived.Test.YtnmcmnllmnpjkaaDoorG8
namespace Go.Proofs.YtnmcmnllmnpjkaaDoor
open Go.RowKit Go.Sort Cal Go.Maps
theorem up_len (s : ByteArray) : (pathV s).length ≤ 5 := by
  unfold pathV
  cases h : parseO s with
  | none => simp
  | some P => simp only [upsL, List.length_map, List.length_range]; exact (parseO_some h).1.2.1
set_option maxRecDepth 100000 in
set_option maxHeartbeats 3200000 in
theorem levels_walk (w : World) (s : ByteArray) (hs : s.size ≤ maxLen) (q1 : Option Addr) (n1 c1 : Nat) (zs1 : List Int) (_e1 : n1 = zs1.length) (_h1 : n1 ≤ c1) (_hm1 : c1 ≤ maxLen) (hz1 : IntsAt w (.slice q1 n1 c1) zs1) (hf1 : Fits zs1) (hE : Env w) :
    Calls Tryd.prog 6 #[.string s, .slice q1 n1 c1] w fun e w' => e = .returned (.bool true) ∧ Below w.heap.size w w' := by
  have HE := Lib.hid hE
  have HT := Lib.hid (tape_new hz1 hf1)
  have hms : s.size ≤ 9223372036854775807 := by unfold maxLen at hs; omega
  have hm0 : (0 : Int) ≤ min ((s.size : Nat) : Int) 30 := by omega
  have hm2 : min ((s.size : Nat) : Int) 30 ≤ ((s.size : Nat) : Int) := by omega
  have hu0 : (s.extract 0 (min ((s.size : Nat) : Int) 30).toNat).size ≤ 30 := by rw [ByteArray.size_extract]; omega
  obtain ⟨u0, hu⟩ : ∃ u, u = s.extract 0 (min ((s.size : Nat) : Int) 30).toNat := ⟨_, rfl⟩
  have HU := Lib.hid hu
  rw [← hu] at hu0
  clear hE hz1 hf1 _e1 hs hu
  go_enter Tryd.func6, Tryd.ntmps6
  go_upto_region 1 with fail
  go_cut [20, 21, 22] (fun sl ln ix wx => ∃ (s2 : ByteArray) (w1 : World), s2.size ≤ 30 ∧ sl = .slice (some ⟨w1.heap.size, 0, none⟩) 2 2 ∧ ln = .int .i64 2 ∧ ix = .int .i64 0 ∧ Below w.heap.size w w1 ∧ Box w1.heap.size w1 [.string u0, .string s2] wx)
  case first =>
    go_region_with (go_at_call 13; refine (code_any w.heap.size (.slice q1 n1 c1) zs1 0 _ (HT.out.below (Below.refl _ _).drew) (by omega)).mono ?_; rintro e w1 ⟨s2, i', rfl, hs2, _, _, hto⟩)
    all_goals
      have hb1 : Below w.heap.size w w1 := (((Below.refl _ _).alloc (Nat.le_refl _) _).drew).trans (hto.below (by simp))
      have hB := Box.new w1 [.string u0, .string s2] 9
      rw [HU.out] at hB
      go_wp2_with fail
      go_meet
      case rel =>
        refine ⟨s2, w1, by omega, rfl, rfl, rfl, hb1, ?_⟩
        rw [HU.out]
        first
          | exact hB
          | exact hB.step (Below.refl _ _).drew
  case rest =>
    obtain ⟨s2, w1, hs2, rfl, rfl, rfl, hb1, hB0⟩ := hcut
    have HB1 := Lib.hid hb1
    clear hb1
    go_wp2_with fail
    go_loopw [22] (fun i wr => ∃ j : Nat, j ≤ 2 ∧ i = .int .i64 j ∧ Box w1.heap.size w1 [.string u0, .string s2] wr) (fun i _ => 2 - (intOf i).toNat)
    case atStart => exact ⟨0, by omega, rfl, hB0⟩
    case round =>
      obtain ⟨j, hj, rfl, hB⟩ := hrel
      have HB := Lib.hid hB
      by_cases hlt : j < 2
      · obtain ⟨u, hus, hu⟩ : ∃ u : ByteArray, u.size ≤ 30 ∧ wr.cell? ⟨w1.heap.size, j, none⟩ = some (.string u) := by
          have hj3 : j = 0 ∨ j = 1 := by omega
          rcases hj3 with rfl | rfl
          · exact ⟨u0, hu0, hB.c 0 _ rfl⟩
          · exact ⟨s2, hs2, hB.c 1 _ rfl⟩
        have HER := Lib.hid (HE.out.below (chain0 HB1.out hB.bl))
        have HPL := Lib.hid (up_len u)
        clear hB
        go_wp2_with fail
        refine (parent_any u _ (by omega) HER.out).mono ?_
        rintro e w2 ⟨rfl, hb2⟩
        go_wp2_with fail
        refine (rparent_any u _ (by omega)).mono ?_
        rintro e w3 ⟨rfl, hb3⟩
        obtain ⟨pa, epa⟩ : ∃ p, p = parentV u := ⟨_, rfl⟩
        rw [← epa]
        obtain ⟨p1, p2⟩ := pa
        clear epa
        go_wp2_with fail
        refine (level_any u _ (by omega) (HER.out.below (chain0 hb2 hb3))).mono ?_
        rintro e w4 ⟨rfl, hb4⟩
        go_wp2_with fail
        refine (rlevel_any u _ (by omega)).mono ?_
        rintro e w5 ⟨rfl, hb5⟩
        go_wp2_with fail
        refine (path_any u _ (by omega) (HER.out.below (chain0 (chain0 (chain0 hb2 hb3) hb4) hb5))).mono ?_
        rintro e w6 ⟨pv, rfl, hown6, hb6⟩
        have HS6 := Lib.hid (strs_of_own hown6 rfl)
        clear hown6
        go_wp2_with fail
        refine (rpath_any u _ (by omega)).mono ?_
        rintro e w7 ⟨rv, rfl, hown7, hb7⟩
        have HS7 := Lib.hid (strs_of_own hown7 rfl)
        clear hown7
        go_wp2_with fail
        refine (same_strings pv rv (pathV u) _ (HS6.out.below hb7) HS7.out (by have := HPL.out; omega)).mono ?_
        rintro e w8 ⟨rfl, hb8⟩
        have HBN := Lib.hid (HB.out.step (chain0 (chain0 (chain0 (chain0 (chain0 (chain0 hb2 hb3) hb4) hb5) hb6) hb7) hb8))
        clear hb2 hb3 hb4 hb5 hb6 hb7 hb8
        go_wp2_with fail
        go_roundw
        case rel => exact ⟨j + 1, by omega, by go_num, HBN.out⟩
        case measure => simp [intOf]; omega
      · have HBR := Lib.hid (chain0 HB1.out hB.bl)
        clear hB
        go_wp2_with fail
        refine (awake_any _ (HE.out.below HBR.out)).mono ?_
        rintro e w4 ⟨rfl, hb4⟩
        go_wp2
        go_ret
        exact ⟨rfl, chain0 HBR.out hb4⟩
end Go.Proofs.YtnmcmnllmnpjkaaDoor
