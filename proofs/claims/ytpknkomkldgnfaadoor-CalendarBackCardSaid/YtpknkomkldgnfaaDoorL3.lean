/- The walk of CalendarBusiness. -/
import Derived.Test.YtpknkomkldgnfaaDoorT2
namespace Go.Proofs.YtpknkomkldgnfaaDoor
open Go.RowKit Go.Sort Cal
theorem Fits.take {zs : List Int} (h : Fits zs) (k : Nat) : Fits (zs.take k) := by
  refine ⟨by have := h.1; simp; omega, fun j hj => ?_⟩
  have hj' : j < k ∧ j < zs.length := by simpa [Nat.lt_min] using hj
  rw [show (zs.take k).getD j 0 = zs.getD j 0 from by simp [List.getD, hj'.1]]
  exact h.2 j hj'.2
/-- The first m elements of a slice that came in. -/
theorem IntsAt.cut {w : World} {q : Option Addr} {n c : Nat} {zs : List Int} (h : IntsAt w (.slice q n c) zs) (hn : n = zs.length) (m : Nat) (hm : 0 < m) : IntsAt w (.slice q (min (n : Int) (m : Int)).toNat c) (zs.take m) := by
  subst hn
  have e : (min (zs.length : Int) (m : Int)).toNat = min zs.length m := by omega
  rw [e]
  rcases h with ⟨rfl, _⟩ | ⟨h0, b, off, cap, he, hb, hc⟩
  · exact Or.inl ⟨by simp, q, c, by simp⟩
  · cases he
    have hln : (zs.take m).length = min zs.length m := by simp; omega
    refine Or.inr ⟨by omega, b, off, c, by rw [hln], hb, fun j hj => ?_⟩
    rw [hln] at hj
    rw [show (zs.take m).getD j 0 = zs.getD j 0 from by simp [List.getD, show j < m from by omega]]
    exact hc j (by omega)
theorem busB_nil (n : Int) (h0 : 0 ≤ n) (h1 : n ≤ 182620) : busB [] n = decide (n % 7 < 5) := by
  simp [busB, worksB, isDay_yes h0 h1]
theorem ints_under {w : World} {sv : Value} {zs : List Int} (h : IntsAt w sv zs) (o : Obj) : IntsUnder w.heap.size (w.alloc o) sv zs := by
  rcases h with h | ⟨h0, b, off, cap, e, hlt, hc⟩
  · exact Or.inl h
  · exact Or.inr ⟨h0, b, off, cap, e, hlt, fun j hj => (((Below.refl _ _).alloc (Nat.le_refl _) o).cell (p := ⟨b, off + j, none⟩) hlt).trans (hc j hj)⟩
/-- A tape over a slice that came in, just made. -/
theorem tape_new {w : World} {sv : Value} {zs : List Int} (h : IntsAt w sv zs) (hf : Fits zs) : TapeAt w.heap.size sv zs 0 (w.alloc (.cells #[sv, .int .i64 0] 32)) :=
  ⟨by show (w.heap.push _)[_]? = _; rw [Array.getElem?_push, if_pos rfl]; rfl, ints_under h _, hf⟩
set_option maxRecDepth 100000 in
set_option maxHeartbeats 1600000 in
theorem business_walk (w : World) (day : Int) (_ : -9223372036854775808 ≤ day) (_ : day ≤ 9223372036854775807) (q1 : Option Addr) (n1 c1 : Nat) (zs1 : List Int) (e1 : n1 = zs1.length) (h1 : n1 ≤ c1) (hm0 : c1 ≤ maxLen) (hz1 : IntsAt w (.slice q1 n1 c1) zs1) (hf1 : Fits zs1)
    (q2 : Option Addr) (n2 c2 : Nat) (zs2 : List Int) (_e2 : n2 = zs2.length) (_ : n2 ≤ c2) (_ : c2 ≤ maxLen) (hz2 : IntsAt w (.slice q2 n2 c2) zs2) (hf2 : Fits zs2) (hT : Tab w) :
    Calls Tryd.prog 4 #[.int .i64 day, .slice q1 n1 c1, .slice q2 n2 c2] w fun e w' => e = .returned (.bool true) ∧ Below w.heap.size w w' := by
  have hm : c1 ≤ 9223372036854775807 := hm0
  clear hm0
  have fb := fold_bd day 182621 (by omega)
  have HT := Lib.hid hT
  have HC := Lib.hid (hz1.cut e1 500 (by omega))
  have HF := Lib.hid (hf1.take 500)
  have HP := Lib.hid (tape_new hz2 hf2)
  have HB : Hid (busB [] (foldZ day 182621) = decide (foldZ day 182621 % 7 < 5)) := Lib.hid (busB_nil _ (by omega) (by omega))
  clear hT hz1 hz2 hf1 hf2 e1 _e2
  go_enter Tryd.func4, Tryd.ntmps4
  go_wp2_with (first
    | (go_at_call 19; refine (fold_any day 182621 _ (by omega) (by omega)).mono ?_; rintro e w' ⟨rfl, rfl⟩)
    | fail)
  refine (hol_any w.heap.size (.slice q2 n2 c2) zs2 0 (foldZ day 182621) _ HP.out (by omega) (by omega) (by omega)).mono ?_
  rintro e w1 ⟨svh, xs, rfl, hxs, hxl, hnear, htouch⟩
  have hb1 : Below w.heap.size w w1 := ((Below.refl _ _).alloc (Nat.le_refl _) _).trans (htouch.below (by simp))
  have HX := Lib.hid hxs
  have HXF := Lib.hid (hnear.fits (by omega))
  clear hxs hxl hnear htouch
  go_wp2_with fail
  refine (bus_any day _ _ _ (HC.out.below hb1) HF.out).mono ?_
  rintro e w2 ⟨rfl, hb2⟩
  go_wp2_with fail
  refine (rbus_any day _ _ _ ((HC.out.below hb1).below hb2) HF.out).mono ?_
  rintro e w' ⟨rfl, rfl⟩
  go_wp2_with fail
  refine (bus_any (foldZ day 182621) svh xs _ (HX.out.below hb2) HXF.out).mono ?_
  rintro e w3 ⟨rfl, hb3⟩
  go_wp2_with fail
  refine (rbus_any (foldZ day 182621) svh xs _ ((HX.out.below hb2).below hb3) HXF.out).mono ?_
  rintro e w' ⟨rfl, rfl⟩
  go_wp2_with fail
  refine (bus_any (foldZ day 182621) (.slice none 0 0) [] _ (Or.inl ⟨rfl, none, 0, rfl⟩) (by simp [Fits])).mono ?_
  rintro e w4 ⟨rfl, hb4⟩
  rw [HB.out]
  go_wp2_with fail
  refine (awake_any _ (HT.out.below (chain (chain (chain hb1 hb2) hb3) hb4))).mono ?_
  rintro e w5 ⟨rfl, hb5⟩
  go_wp2_with fail
  go_ret
  exact ⟨rfl, chain (chain (chain (chain hb1 hb2) hb3) hb4) hb5⟩
end Go.Proofs.YtpknkomkldgnfaaDoor
