/- The walk of ClassificationMeets. -/
import Derived.Test.YtnmcmnllmnpjkaaDoorG15
namespace Go.Proofs.YtnmcmnllmnpjkaaDoor
open Go.RowKit Go.Sort Cal Go.Maps
theorem level_lo (s : ByteArray) : levelV s = -1 ∨ 0 ≤ levelV s := by
  unfold levelV
  cases partsO s with
  | none => exact Or.inl rfl
  | some P => right; show (0 : Int) ≤ (P.length : Int); omega
set_option maxRecDepth 100000 in
set_option maxHeartbeats 3200000 in
theorem meets_walk (w : World) (q1 : Option Addr) (n1 c1 : Nat) (zs1 : List Int) (_e1 : n1 = zs1.length) (_h1 : n1 ≤ c1) (_hm1 : c1 ≤ maxLen) (hz1 : IntsAt w (.slice q1 n1 c1) zs1) (hf1 : Fits zs1) (hE : Env w) :
    Calls Tryd.prog 10 #[.slice q1 n1 c1] w fun e w' => e = .returned (.bool true) ∧ Below w.heap.size w w' := by
  have HE := Lib.hid hE
  have HT := Lib.hid (tape_new hz1 hf1)
  clear hE hz1 hf1 _e1
  go_enter Tryd.func10, Tryd.ntmps10
  go_wp2_with fail
  refine (code_any w.heap.size (.slice q1 n1 c1) zs1 0 _ HT.out (by omega)).mono ?_
  rintro e w1 ⟨a, i1, rfl, ha, hi1, hT1, ht1⟩
  have HT1 := Lib.hid hT1
  have HK1 := Lib.hid ht1
  clear hT1 ht1
  go_wp2_with fail
  refine (code_any w.heap.size (.slice q1 n1 c1) zs1 i1 _ HT1.out (by omega)).mono ?_
  rintro e w2 ⟨b, i2, rfl, hb, hi2, hT2, ht2⟩
  have HT2 := Lib.hid hT2
  have HK2 := Lib.hid (HK1.out.trans ht2)
  clear hT2 ht2
  go_wp2_with fail
  refine (code_any w.heap.size (.slice q1 n1 c1) zs1 i2 _ HT2.out (by omega)).mono ?_
  rintro e w3 ⟨c, i3, rfl, hc, hi3, hT3, ht3⟩
  have HB3 : Hid (Below w.heap.size w w3) := Lib.hid (((Below.refl _ _).alloc (Nat.le_refl _) _).trans ((HK2.out.trans ht3).below (by simp)))
  clear hT3 ht3
  have hm := common_size a b
  have HM := Lib.hid (meets a b c)
  have HO : Hid (withinB a b = true → cmpV b a ≤ 0) := Lib.hid (fun h => within_order h)
  have hla := level_lo a
  have hlb := level_lo b
  go_wp2_with fail
  refine (common_any a b _ (by omega) (by omega) (HE.out.below HB3.out)).mono ?_
  rintro e w4 ⟨rfl, hb4⟩
  generalize commonV a b = m at *
  have HB4 := Lib.hid (chain0 HB3.out hb4)
  clear hb4
  obtain ⟨la, ela⟩ : ∃ x, x = levelV a := ⟨_, rfl⟩
  obtain ⟨lb, elb⟩ : ∃ x, x = levelV b := ⟨_, rfl⟩
  have HLA := Lib.hid ela
  have HLB := Lib.hid elb
  rw [← ela] at HM hla
  rw [← elb] at HM hlb
  clear ela elb
  have ways : la = -1 ∨ (0 ≤ la ∧ lb = -1) ∨ (0 ≤ la ∧ 0 ≤ lb) := by omega
  rcases ways with h1 | ⟨h1, h2⟩ | ⟨h1, h2⟩
  · subst h1
    go_wp2_with fail
    refine (level_any a _ (by omega) (HE.out.below HB4.out)).mono ?_
    rintro e w9 ⟨rfl, hb9⟩
    rw [← HLA.out]
    have HB9 := Lib.hid (chain0 HB4.out hb9)
    clear hb9
    go_wp2_with fail
    refine (within_any a b _ (by omega) (by omega) (HE.out.below HB9.out)).mono ?_
    rintro e wx ⟨rfl, hbx⟩
    have HBX := Lib.hid (chain0 HB9.out hbx)
    clear hbx
    cases hab : withinB a b with
    | false =>
      go_wp2_with fail
      refine (awake_any _ (HE.out.below HBX.out)).mono ?_
      rintro e wz ⟨rfl, hbz⟩
      go_wp2
      go_ret
      exact ⟨rfl, chain0 HBX.out hbz⟩
    | true =>
      have hle := HO.out hab
      clear hab
      go_wp2_with fail
      refine (compare_any b a _ (by omega) (by omega) (HE.out.below HBX.out)).mono ?_
      rintro e wy ⟨rfl, hby⟩
      have HBY := Lib.hid (chain0 HBX.out hby)
      clear hby
      generalize cmpV b a = z at *
      go_wp2_with fail
      refine (awake_any _ (HE.out.below HBY.out)).mono ?_
      rintro e wz ⟨rfl, hbz⟩
      go_wp2
      go_ret
      exact ⟨rfl, chain0 HBY.out hbz⟩
  · subst h2
    go_wp2_with fail
    refine (level_any a _ (by omega) (HE.out.below HB4.out)).mono ?_
    rintro e w5 ⟨rfl, hb5⟩
    rw [← HLA.out]
    have HB5 := Lib.hid (chain0 HB4.out hb5)
    clear hb5
    go_wp2_with fail
    refine (level_any b _ (by omega) (HE.out.below HB5.out)).mono ?_
    rintro e w9 ⟨rfl, hb9⟩
    rw [← HLB.out]
    have HB9 := Lib.hid (chain0 HB5.out hb9)
    clear hb9
    go_wp2_with fail
    refine (within_any a b _ (by omega) (by omega) (HE.out.below HB9.out)).mono ?_
    rintro e wx ⟨rfl, hbx⟩
    have HBX := Lib.hid (chain0 HB9.out hbx)
    clear hbx
    cases hab : withinB a b with
    | false =>
      go_wp2_with fail
      refine (awake_any _ (HE.out.below HBX.out)).mono ?_
      rintro e wz ⟨rfl, hbz⟩
      go_wp2
      go_ret
      exact ⟨rfl, chain0 HBX.out hbz⟩
    | true =>
      have hle := HO.out hab
      clear hab
      go_wp2_with fail
      refine (compare_any b a _ (by omega) (by omega) (HE.out.below HBX.out)).mono ?_
      rintro e wy ⟨rfl, hby⟩
      have HBY := Lib.hid (chain0 HBX.out hby)
      clear hby
      generalize cmpV b a = z at *
      go_wp2_with fail
      refine (awake_any _ (HE.out.below HBY.out)).mono ?_
      rintro e wz ⟨rfl, hbz⟩
      go_wp2
      go_ret
      exact ⟨rfl, chain0 HBY.out hbz⟩
  · have HN := HM.out h1 h2
    have HM1 := Lib.hid HN.1
    have HM2 := Lib.hid HN.2.1
    have HM3 := Lib.hid HN.2.2
    clear HN HM
    go_wp2_with fail
    refine (level_any a _ (by omega) (HE.out.below HB4.out)).mono ?_
    rintro e w5 ⟨rfl, hb5⟩
    rw [← HLA.out]
    have HB5 := Lib.hid (chain0 HB4.out hb5)
    clear hb5
    go_wp2_with fail
    refine (level_any b _ (by omega) (HE.out.below HB5.out)).mono ?_
    rintro e w6 ⟨rfl, hb6⟩
    rw [← HLB.out]
    have HB6 := Lib.hid (chain0 HB5.out hb6)
    clear hb6
    go_wp2_with fail
    refine (within_any a m _ (by omega) (by omega) (HE.out.below HB6.out)).mono ?_
    rintro e w7 ⟨rfl, hb7⟩
    rw [HM1.out]
    have HB7 := Lib.hid (chain0 HB6.out hb7)
    clear hb7
    go_wp2_with fail
    refine (within_any b m _ (by omega) (by omega) (HE.out.below HB7.out)).mono ?_
    rintro e w8 ⟨rfl, hb8⟩
    rw [HM2.out]
    have HB8 := Lib.hid (chain0 HB7.out hb8)
    clear hb8
    cases hac : withinB a c with
    | false =>
      have HAC := Lib.hid hac
      clear hac
      go_wp2_with fail
      refine (within_any a c _ (by omega) (by omega) (HE.out.below HB8.out)).mono ?_
      rintro e w9 ⟨rfl, hb9⟩
      rw [HAC.out]
      have HB9 := Lib.hid (chain0 HB8.out hb9)
      clear hb9
      go_wp2_with fail
      refine (within_any a b _ (by omega) (by omega) (HE.out.below HB9.out)).mono ?_
      rintro e wx ⟨rfl, hbx⟩
      have HBX := Lib.hid (chain0 HB9.out hbx)
      clear hbx
      cases hab : withinB a b with
      | false =>
        go_wp2_with fail
        refine (awake_any _ (HE.out.below HBX.out)).mono ?_
        rintro e wz ⟨rfl, hbz⟩
        go_wp2
        go_ret
        exact ⟨rfl, chain0 HBX.out hbz⟩
      | true =>
        have hle := HO.out hab
        clear hab
        go_wp2_with fail
        refine (compare_any b a _ (by omega) (by omega) (HE.out.below HBX.out)).mono ?_
        rintro e wy ⟨rfl, hby⟩
        have HBY := Lib.hid (chain0 HBX.out hby)
        clear hby
        generalize cmpV b a = z at *
        go_wp2_with fail
        refine (awake_any _ (HE.out.below HBY.out)).mono ?_
        rintro e wz ⟨rfl, hbz⟩
        go_wp2
        go_ret
        exact ⟨rfl, chain0 HBY.out hbz⟩
    | true =>
      have HAC := Lib.hid hac
      clear hac
      go_wp2_with fail
      refine (within_any a c _ (by omega) (by omega) (HE.out.below HB8.out)).mono ?_
      rintro e wa ⟨rfl, hba⟩
      rw [HAC.out]
      have HBA := Lib.hid (chain0 HB8.out hba)
      clear hba
      cases hbc : withinB b c with
      | false =>
        have HBC := Lib.hid hbc
        clear hbc
        go_wp2_with fail
        refine (within_any b c _ (by omega) (by omega) (HE.out.below HBA.out)).mono ?_
        rintro e w9 ⟨rfl, hb9⟩
        rw [HBC.out]
        have HB9 := Lib.hid (chain0 HBA.out hb9)
        clear hb9
        go_wp2_with fail
        refine (within_any a b _ (by omega) (by omega) (HE.out.below HB9.out)).mono ?_
        rintro e wx ⟨rfl, hbx⟩
        have HBX := Lib.hid (chain0 HB9.out hbx)
        clear hbx
        cases hab : withinB a b with
        | false =>
          go_wp2_with fail
          refine (awake_any _ (HE.out.below HBX.out)).mono ?_
          rintro e wz ⟨rfl, hbz⟩
          go_wp2
          go_ret
          exact ⟨rfl, chain0 HBX.out hbz⟩
        | true =>
          have hle := HO.out hab
          clear hab
          go_wp2_with fail
          refine (compare_any b a _ (by omega) (by omega) (HE.out.below HBX.out)).mono ?_
          rintro e wy ⟨rfl, hby⟩
          have HBY := Lib.hid (chain0 HBX.out hby)
          clear hby
          generalize cmpV b a = z at *
          go_wp2_with fail
          refine (awake_any _ (HE.out.below HBY.out)).mono ?_
          rintro e wz ⟨rfl, hbz⟩
          go_wp2
          go_ret
          exact ⟨rfl, chain0 HBY.out hbz⟩
      | true =>
        have HBC := Lib.hid hbc
        clear hbc
        have HMC := Lib.hid (HM3.out HAC.out HBC.out)
        go_wp2_with fail
        refine (within_any b c _ (by omega) (by omega) (HE.out.below HBA.out)).mono ?_
        rintro e wb ⟨rfl, hbb⟩
        rw [HBC.out]
        have HBB := Lib.hid (chain0 HBA.out hbb)
        clear hbb
        go_wp2_with fail
        refine (within_any m c _ (by omega) (by omega) (HE.out.below HBB.out)).mono ?_
        rintro e w9 ⟨rfl, hb9⟩
        rw [HMC.out]
        have HB9 := Lib.hid (chain0 HBB.out hb9)
        clear hb9
        go_wp2_with fail
        refine (within_any a b _ (by omega) (by omega) (HE.out.below HB9.out)).mono ?_
        rintro e wx ⟨rfl, hbx⟩
        have HBX := Lib.hid (chain0 HB9.out hbx)
        clear hbx
        cases hab : withinB a b with
        | false =>
          go_wp2_with fail
          refine (awake_any _ (HE.out.below HBX.out)).mono ?_
          rintro e wz ⟨rfl, hbz⟩
          go_wp2
          go_ret
          exact ⟨rfl, chain0 HBX.out hbz⟩
        | true =>
          have hle := HO.out hab
          clear hab
          go_wp2_with fail
          refine (compare_any b a _ (by omega) (by omega) (HE.out.below HBX.out)).mono ?_
          rintro e wy ⟨rfl, hby⟩
          have HBY := Lib.hid (chain0 HBX.out hby)
          clear hby
          generalize cmpV b a = z at *
          go_wp2_with fail
          refine (awake_any _ (HE.out.below HBY.out)).mono ?_
          rintro e wz ⟨rfl, hbz⟩
          go_wp2
          go_ret
          exact ⟨rfl, chain0 HBY.out hbz⟩
end Go.Proofs.YtnmcmnllmnpjkaaDoor
