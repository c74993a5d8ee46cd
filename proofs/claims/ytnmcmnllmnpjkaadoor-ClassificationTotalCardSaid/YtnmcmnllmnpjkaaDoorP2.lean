/- The walk of ClassificationTotal. -/
import Derived.Test.YtnmcmnllmnpjkaaDoorB2
import Derived.Test.YtnmcmnllmnpjkaaDoorCo
namespace Go.Proofs.YtnmcmnllmnpjkaaDoor
open Go.RowKit Go.Sort Cal Go.Maps
/-- What ClassificationTotal asks of three numbers. -/
theorem total_cases (x y z : Int) (h : x ≤ 0 → y ≤ 0 → z ≤ 0) : 0 < x ∨ (x ≤ 0 ∧ 0 < y) ∨ (x ≤ 0 ∧ y ≤ 0 ∧ z ≤ 0) := by omega
set_option maxRecDepth 100000 in
set_option maxHeartbeats 1600000 in
theorem total_walk (w : World) (q1 : Option Addr) (n1 c1 : Nat) (zs1 : List Int) (_e1 : n1 = zs1.length) (_h1 : n1 ≤ c1) (_hm1 : c1 ≤ maxLen) (hz1 : IntsAt w (.slice q1 n1 c1) zs1) (hf1 : Fits zs1) (hE : Env w) :
    Calls Tryd.prog 4 #[.slice q1 n1 c1] w fun e w' => e = .returned (.bool true) ∧ Below w.heap.size w w' := by
  have HE := Lib.hid hE
  have HT := Lib.hid (tape_new hz1 hf1)
  clear hE hz1 hf1 _e1
  go_enter Tryd.func4, Tryd.ntmps4
  go_wp2_with fail
  refine (code_any w.heap.size (.slice q1 n1 c1) zs1 0 _ HT.out (by omega)).mono ?_
  rintro e w1 ⟨a, i1, rfl, ha, hi1, hT1, ht1⟩
  have HT1 := Lib.hid hT1
  have HK1 := Lib.hid ht1
  clear hT1 ht1
  go_wp2_with fail
  refine (code_any w.heap.size (.slice q1 n1 c1) zs1 i1 _ HT1.out (by omega)).mono ?_
  rintro e w2 ⟨b, i2, rfl, hb, hi2, hT2, ht2⟩
  have HT2 := Lib.hid hT2
  have HK2 := Lib.hid (HK1.out.trans ht2)
  clear hT2 ht2
  go_wp2_with fail
  refine (code_any w.heap.size (.slice q1 n1 c1) zs1 i2 _ HT2.out (by omega)).mono ?_
  rintro e w3 ⟨c, i3, rfl, hc, hi3, hT3, ht3⟩
  have HB3 : Hid (Below w.heap.size w w3) := Lib.hid (((Below.refl _ _).alloc (Nat.le_refl _) _).trans ((HK2.out.trans ht3).below (by simp)))
  clear hT3 ht3
  go_wp2_with fail
  refine (compare_any a b _ (by omega) (by omega) (HE.out.below HB3.out)).mono ?_
  rintro e w4 ⟨rfl, hb4⟩
  have HB4 := Lib.hid (chain0 HB3.out hb4)
  clear hb4
  go_wp2_with fail
  refine (compare_any b c _ (by omega) (by omega) (HE.out.below HB4.out)).mono ?_
  rintro e w5 ⟨rfl, hb5⟩
  have HB5 := Lib.hid (chain0 HB4.out hb5)
  clear hb5
  go_wp2_with fail
  refine (compare_any a c _ (by omega) (by omega) (HE.out.below HB5.out)).mono ?_
  rintro e w6 ⟨rfl, hb6⟩
  have HB6 := Lib.hid (chain0 HB5.out hb6)
  clear hb6
  go_wp2_with fail
  refine (compare_any b a _ (by omega) (by omega) (HE.out.below HB6.out)).mono ?_
  rintro e w7 ⟨rfl, hb7⟩
  have HB7 := Lib.hid (chain0 HB6.out hb7)
  clear hb7
  rw [cmpV_neg a b]
  have hbd := cmpV_bd a b
  have hbd2 := cmpV_bd b c
  have hbd3 := cmpV_bd a c
  have h0 := cmpV_zero a b
  have htr := total_cases _ _ _ (cmpV_trans a b c)
  generalize cmpV a b = x at *
  generalize cmpV b c = y at *
  generalize cmpV a c = z at *
  have hxab : (x = 0 ∧ (a.toList == b.toList) = true) ∨ ((x == 0) = false ∧ (a.toList == b.toList) = false) := by
    by_cases hx : x = 0
    · exact Or.inl ⟨hx, beq_yes (h0.1 hx)⟩
    · exact Or.inr ⟨by rw [beq_eq_false_iff_ne]; exact hx, beq_no (fun e => hx (h0.2 e))⟩
  clear h0
  rcases hxab with ⟨rfl, hab⟩ | ⟨hx0, hab⟩
  all_goals
    rcases htr with h | ⟨h, h2⟩ | ⟨h, h2, h3⟩
    all_goals first
      | (exfalso; omega)
      | skip
    all_goals
      go_wp2_with fail
      refine (awake_any _ (HE.out.below HB7.out)).mono ?_
      rintro e w8 ⟨rfl, hb8⟩
      go_wp2
      go_ret
      exact ⟨rfl, chain0 HB7.out hb8⟩
end Go.Proofs.YtnmcmnllmnpjkaaDoor
