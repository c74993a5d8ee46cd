/- The walk of CalendarCounts. -/
import Derived.Test.YtpknkomkldgnfaaDoorB1
namespace Go.Proofs.YtpknkomkldgnfaaDoor
open Go.RowKit Go.Sort Cal
set_option maxRecDepth 100000 in
set_option maxHeartbeats 1600000 in
theorem counts_walk (w : World) (day : Int) (_ : -9223372036854775808 ≤ day) (_ : day ≤ 9223372036854775807) (k : Int) (_ : -9223372036854775808 ≤ k) (_ : k ≤ 9223372036854775807)
    (q2 : Option Addr) (n2 c2 : Nat) (zs2 : List Int) (_e2 : n2 = zs2.length) (_ : n2 ≤ c2) (_ : c2 ≤ maxLen) (hz2 : IntsAt w (.slice q2 n2 c2) zs2) (hf2 : Fits zs2) (hT : Tab w) :
    Calls Tryd.prog 11 #[.int .i64 day, .int .i64 k, .slice q2 n2 c2] w fun e w' => e = .returned (.bool true) ∧ Below w.heap.size w w' := by
  have fb := fold_bd day 182221 (by omega)
  have fk := fold_bd k 30 (by omega)
  have HT := Lib.hid hT
  have HP := Lib.hid (tape_new hz2 hf2)
  clear hT hz2 hf2 _e2
  go_enter Tryd.func11, Tryd.ntmps11
  go_wp2_with (first
    | (go_at_call 19; refine (fold_any day 182221 _ (by omega) (by omega)).mono ?_; rintro e w' ⟨rfl, rfl⟩)
    | fail)
  refine (hol_any w.heap.size (.slice q2 n2 c2) zs2 0 (foldZ day 182221 + 5) _ HP.out (by omega) (by omega) (by omega)).mono ?_
  rintro e w1 ⟨svh, xs, rfl, hxs, hxl, hnear, htouch⟩
  have hb1 : Below w.heap.size w w1 := ((Below.refl _ _).alloc (Nat.le_refl _) _).trans (htouch.below (by simp))
  obtain ⟨qh, nh, ch, rfl, enh⟩ := hxs.shape
  have HX := Lib.hid hxs
  have HXF := Lib.hid (hnear.fits (by omega))
  have HE := Lib.hid enh
  obtain ⟨m, hs2, hm1, hm2, hm3, hm4⟩ := shift_on xs (foldZ day 182221) (1 + foldZ k 30) hxl (by omega) (by omega) (by omega) (by omega)
  have H2 := Lib.hid hs2
  have H3 := Lib.hid hm2
  have H4 := Lib.hid hm4
  have H5 : Hid (busB xs (foldZ day 182221 + (m : Int) + 1) = true) := Lib.hid (by simp [busB, hm3, hm4 m (Nat.le_refl _)])
  have hcm : ∀ i : Nat, 0 ≤ (cntF (worksB xs) (foldZ day 182221) i : Int) ∧ (cntF (worksB xs) (foldZ day 182221) i : Int) ≤ i := fun i => by
    induction i with
    | zero => simp [cntF]
    | succ i ih =>
      show 0 ≤ ((cntF (worksB xs) (foldZ day 182221) i + (if _ then 1 else 0) : Nat) : Int) ∧ ((cntF (worksB xs) (foldZ day 182221) i + (if _ then 1 else 0) : Nat) : Int) ≤ _
      split <;> omega
  have HCM := Lib.hid hcm
  clear hs2 hm2 hm3 hm4 hxs hxl hnear htouch enh hcm
  go_wp2_with fail
  refine (fold_any k 30 _ (by omega) (by omega)).mono ?_
  rintro e w' ⟨rfl, rfl⟩
  go_wp2_with fail
  refine (shift_any (foldZ day 182221) (1 + foldZ k 30) qh nh ch xs _ HE.out HX.out HXF.out).mono ?_
  rintro e w2 ⟨rfl, hb2⟩
  rw [H2.out]
  have hb12 := chain hb1 hb2
  have HX2 := Lib.hid (HX.out.below hb2)
  clear hb1 hb2
  go_wp2_with fail
  go_loopw [12, 13] (fun cv dv wr => ∃ (i : Nat) (D : Int), (i : Int) ≤ (m : Int) ∧ D = foldZ day 182221 + (i : Int) + 1 ∧ dv = .int .i64 D ∧ cv = .int .i64 (cntF (worksB xs) (foldZ day 182221) i) ∧ IntsAt wr (.slice qh nh ch) xs ∧ Below w.heap.size w wr) (fun _ dv _ => (foldZ day 182221 + (m : Int) + 1 - intOf dv).toNat)
  case atStart => exact ⟨0, foldZ day 182221 + 1, by omega, by omega, rfl, rfl, HX2.out, hb12⟩
  case round =>
    obtain ⟨i, D, hi, hD, rfl, rfl, hx, hbl⟩ := hrel
    have HXR := Lib.hid hx
    have HD := Lib.hid hD
    have hcb := HCM.out i
    have hDb : 0 ≤ D ∧ D ≤ foldZ day 182221 + (m : Int) + 1 := by omega
    clear hx
    by_cases hlt : D < foldZ day 182221 + (m : Int) + 1
    · have hday : isDay D = true := by rw [hD]; exact H4.out i (by omega)
      have HS : Hid (cntF (worksB xs) (foldZ day 182221) (i + 1) = cntF (worksB xs) (foldZ day 182221) i + (if worksB xs D = true then 1 else 0)) := Lib.hid (by rw [hD]; rfl)
      have hi2 : (i : Int) + 1 ≤ (m : Int) := by omega
      clear hD
      by_cases hw : worksB xs D = true
      · have HB : Hid (busB xs D = true) := Lib.hid (by simp [busB, hday, hw])
        have HS2 : Hid ((cntF (worksB xs) (foldZ day 182221) (i + 1) : Int) = cntF (worksB xs) (foldZ day 182221) i + 1) := Lib.hid (by rw [HS.out, if_pos hw]; omega)
        clear hw hday
        go_wp2_with (first
          | (go_at_call 21; refine (bus_any D _ xs _ HXR.out HXF.out).mono ?_; rintro e w3 ⟨rfl, hb3⟩; rw [HB.out])
          | fail)
        go_roundw
        case rel => exact ⟨i + 1, D + 1, by omega, by have := HD.out; omega, rfl, ret_val HS2.out.symm, HXR.out.below hb3, hbl.trans (hb3.mono hbl.size)⟩
        case measure => simp [intOf]; omega
      · have HB : Hid (busB xs D = false) := Lib.hid (by simp [busB, hw])
        have HS2 : Hid ((cntF (worksB xs) (foldZ day 182221) (i + 1) : Int) = cntF (worksB xs) (foldZ day 182221) i) := Lib.hid (by rw [HS.out, if_neg hw]; omega)
        clear hw hday
        go_wp2_with (first
          | (go_at_call 21; refine (bus_any D _ xs _ HXR.out HXF.out).mono ?_; rintro e w3 ⟨rfl, hb3⟩; rw [HB.out])
          | fail)
        go_roundw
        case rel => exact ⟨i + 1, D + 1, by omega, by have := HD.out; omega, rfl, ret_val HS2.out.symm, HXR.out.below hb3, hbl.trans (hb3.mono hbl.size)⟩
        case measure => simp [intOf]; omega
    · obtain rfl : i = m := by omega
      have h3 := H3.out
      have ht : (((cntF (worksB xs) (foldZ day 182221) i : Nat) : Int) == 1 + foldZ k 30 - 1) = true := by rw [beq_iff_eq]; omega
      have hge : foldZ day 182221 + (i : Int) + 1 ≤ D := by omega
      clear hD hlt h3
      go_wp2_with fail
      refine (bus_any (foldZ day 182221 + (i : Int) + 1) _ xs _ HXR.out HXF.out).mono ?_
      rintro e w3 ⟨rfl, hb3⟩
      rw [H5.out]
      have hb4 := hbl.trans (hb3.mono hbl.size)
      go_wp2_with fail
      refine (awake_any _ (HT.out.below hb4)).mono ?_
      rintro e w5 ⟨rfl, hb5⟩
      go_wp2_with fail
      go_ret
      exact ⟨rfl, chain hb4 hb5⟩
end Go.Proofs.YtpknkomkldgnfaaDoor
