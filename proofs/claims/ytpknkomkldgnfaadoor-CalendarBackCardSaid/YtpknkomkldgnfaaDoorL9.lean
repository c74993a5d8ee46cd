/- The walk of CalendarBack. -/
import Derived.Test.YtpknkomkldgnfaaDoorB1
namespace Go.Proofs.YtpknkomkldgnfaaDoor
open Go.RowKit Go.Sort Cal
set_option maxRecDepth 100000 in
set_option maxHeartbeats 1600000 in
theorem back_walk (w : World) (day : Int) (_ : -9223372036854775808 ≤ day) (_ : day ≤ 9223372036854775807) (k : Int) (_ : -9223372036854775808 ≤ k) (_ : k ≤ 9223372036854775807)
    (q2 : Option Addr) (n2 c2 : Nat) (zs2 : List Int) (_e2 : n2 = zs2.length) (_ : n2 ≤ c2) (_ : c2 ≤ maxLen) (hz2 : IntsAt w (.slice q2 n2 c2) zs2) (hf2 : Fits zs2) (hT : Tab w) :
    Calls Tryd.prog 9 #[.int .i64 day, .int .i64 k, .slice q2 n2 c2] w fun e w' => e = .returned (.bool true) ∧ Below w.heap.size w w' := by
  have fb := fold_bd day 180621 (by omega)
  have fk := fold_bd k 30 (by omega)
  have HT := Lib.hid hT
  have HP := Lib.hid (tape_new hz2 hf2)
  clear hT hz2 hf2 _e2
  go_enter Tryd.func9, Tryd.ntmps9
  go_wp2_with (first
    | (go_at_call 19; refine (fold_any day 180621 _ (by omega) (by omega)).mono ?_; rintro e w' ⟨rfl, rfl⟩)
    | fail)
  refine (hol_any w.heap.size (.slice q2 n2 c2) zs2 0 (1000 + foldZ day 180621) _ HP.out (by omega) (by omega) (by omega)).mono ?_
  rintro e w1 ⟨svh, xs, rfl, hxs, hxl, hnear, htouch⟩
  have hb1 : Below w.heap.size w w1 := ((Below.refl _ _).alloc (Nat.le_refl _) _).trans (htouch.below (by simp))
  obtain ⟨qh, nh, ch, rfl, enh⟩ := hxs.shape
  have HX := Lib.hid hxs
  have HXF := Lib.hid (hnear.fits (by omega))
  have HE := Lib.hid enh
  obtain ⟨x, hs1, hx1, hx2, hx3⟩ := shift_here xs (1000 + foldZ day 180621) hxl (by omega) (by omega)
  obtain ⟨m, hs2, hm1, hm2, hm3, hm4⟩ := shift_on xs x (1 + foldZ k 30) hxl (by omega) (by omega) (by omega) (by omega)
  have hs3 := shift_back xs x (1 + foldZ k 30) m hxl (by omega) (by omega) (by omega) (by omega) hm1 hm2 hx3
  have H1 := Lib.hid hs1
  have H2 := Lib.hid hs2
  have H3 := Lib.hid hs3
  clear hs1 hs2 hs3 hm2 hm3 hm4 hx3 hxs hxl hnear htouch enh
  go_wp2_with fail
  refine (shift_any (1000 + foldZ day 180621) 0 qh nh ch xs _ HE.out HX.out HXF.out).mono ?_
  rintro e w2 ⟨rfl, hb2⟩
  rw [H1.out]
  go_wp2_with fail
  refine (fold_any k 30 _ (by omega) (by omega)).mono ?_
  rintro e w' ⟨rfl, rfl⟩
  go_wp2_with fail
  refine (shift_any x (1 + foldZ k 30) qh nh ch xs _ HE.out (HX.out.below hb2) HXF.out).mono ?_
  rintro e w3 ⟨rfl, hb3⟩
  rw [H2.out]
  go_wp2_with fail
  refine (shift_any (x + (m : Int) + 1) (-(1 + foldZ k 30)) qh nh ch xs _ HE.out ((HX.out.below hb2).below hb3) HXF.out).mono ?_
  rintro e w4 ⟨rfl, hb4⟩
  rw [H3.out]
  go_wp2_with fail
  refine (awake_any _ (HT.out.below (chain (chain (chain hb1 hb2) hb3) hb4))).mono ?_
  rintro e w5 ⟨rfl, hb5⟩
  go_wp2_with fail
  go_ret
  exact ⟨rfl, chain (chain (chain (chain hb1 hb2) hb3) hb4) hb5⟩
end Go.Proofs.YtpknkomkldgnfaaDoor
