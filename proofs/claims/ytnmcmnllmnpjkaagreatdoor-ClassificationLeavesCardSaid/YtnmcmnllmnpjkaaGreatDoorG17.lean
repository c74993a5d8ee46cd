/- Contracts of has and known: is a classification valid, and is a string "" or one of its codes? -/
import Derived.Test.YtnmcmnllmnpjkaaGreatDoorSf
import Derived.Test.YtnmcmnllmnpjkaaGreatDoorLw
import Derived.Test.YtnmcmnllmnpjkaaGreatDoorG16
namespace Go.Proofs.YtnmcmnllmnpjkaaGreatDoor
open Go.RowKit Go.Sort Cal Go.Maps
theorem known_no {ss : List ByteArray} {u : ByteArray} (h : ¬ validV ss = 0) : knownB ss u = false := by unfold knownB; simp [h]
theorem known_nil {ss : List ByteArray} (h : validV ss = 0) : knownB ss emptyB = true := by unfold knownB; simp [h]
theorem known_in {ss : List ByteArray} {u : ByteArray} (h : validV ss = 0) (hu : u.size ≠ 0) : knownB ss u = inB ss u := by
  unfold knownB
  have : ¬ u = emptyB := fun e => hu (by rw [e]; rfl)
  simp [h, this]
set_option maxRecDepth 100000 in
set_option maxHeartbeats 1600000 in
theorem chas_any (nm : ByteArray) (sv : Value) (ss : List ByteArray) (u : ByteArray) (w : World) (hv : StrsAt w sv ss) (hl : ss.length ≤ 1000000) (hs : Short ss) (hE : Env w) :
    Calls Tryz.prog 28 #[.agg #[.string nm, sv], .string u] w fun e w' => e = .returned (.bool (knownB ss u)) ∧ Below w.heap.size w w' := by
  obtain ⟨q, l, c, rfl⟩ := strs_form hv
  have hb0 : Below w.heap.size w (w.alloc (.cells #[.string nm, .slice q l c] 24)) := (Below.refl _ _).alloc (Nat.le_refl _) _
  have HS := Lib.hid (hv.below hb0)
  have HSH := Lib.hid hs
  have HE := Lib.hid (hE.below hb0)
  have HB0 := Lib.hid hb0
  clear hv hs hb0 hE
  by_cases h0 : validV ss = 0
  · have HV := Lib.hid h0
    by_cases hu0 : u.size = 0
    · have e := size_zero hu0
      subst e
      have HK := Lib.hid (known_nil h0)
      clear h0 hu0
      unfold emptyB at *
      go_enter Tryz.func28, Tryz.ntmps28
      go_wp2_with fail
      refine (validate_any nm _ ss _ HS.out hl HSH.out HE.out).mono ?_
      rintro e w1 ⟨rfl, hb1⟩
      rw [HV.out]
      go_wp2
      go_ret
      exact ⟨by rw [HK.out]; rfl, chain0 HB0.out hb1⟩
    · have hne := empty_no hu0
      have HK := Lib.hid (known_in h0 hu0)
      clear h0 hu0
      go_enter Tryz.func28, Tryz.ntmps28
      go_wp2_with fail
      refine (validate_any nm _ ss _ HS.out hl HSH.out HE.out).mono ?_
      rintro e w1 ⟨rfl, hb1⟩
      rw [HV.out]
      have HS1 := Lib.hid (HS.out.below hb1)
      have cf := (hb1.cell (p := ⟨w.heap.size, 1, none⟩) (by simp)).trans (show (w.alloc (.cells #[.string nm, .slice q l c] 24)).cell? ⟨w.heap.size, 1, none⟩ = some (.slice q l c) by simp)
      go_wp2_with fail
      refine (contains_at _ ss u _ HS1.out hl).mono ?_
      rintro e w2 ⟨rfl, rfl⟩
      go_wp2
      go_ret
      exact ⟨by rw [HK.out]; rfl, chain0 HB0.out hb1⟩
  · have HK := Lib.hid (known_no (u := u) h0)
    have hz : (validV ss == 0) = false := by rw [beq_eq_false_iff_ne]; exact h0
    clear h0
    go_enter Tryz.func28, Tryz.ntmps28
    go_wp2_with fail
    refine (validate_any nm _ ss _ HS.out hl HSH.out HE.out).mono ?_
    rintro e w1 ⟨rfl, hb1⟩
    generalize validV ss = z at *
    go_wp2
    go_ret
    exact ⟨by rw [HK.out]; rfl, chain0 HB0.out hb1⟩
set_option maxRecDepth 100000 in
set_option maxHeartbeats 1600000 in
theorem rknown_any (nm : ByteArray) (sv : Value) (ss : List ByteArray) (u : ByteArray) (w : World) (hv : StrsAt w sv ss) (hl : ss.length ≤ 1000000) (hs : Short ss) :
    Calls Tryz.prog 21 #[.agg #[.string nm, sv], .string u] w fun e w' => e = .returned (.bool (knownB ss u)) ∧ Below w.heap.size w w' := by
  obtain ⟨q, l, c, rfl⟩ := strs_form hv
  have hb0 : Below w.heap.size w (w.alloc (.cells #[.string nm, .slice q l c] 24)) := (Below.refl _ _).alloc (Nat.le_refl _) _
  have HS := Lib.hid (hv.below hb0)
  have HSH := Lib.hid hs
  have HB0 := Lib.hid hb0
  clear hv hs hb0
  by_cases h0 : validV ss = 0
  · have HV := Lib.hid h0
    by_cases hu0 : u.size = 0
    · have e := size_zero hu0
      subst e
      have HK := Lib.hid (known_nil h0)
      clear h0 hu0
      unfold emptyB at *
      go_enter Tryz.func21, Tryz.ntmps21
      go_wp2_with fail
      refine (rvalidate_any nm _ ss _ HS.out hl HSH.out).mono ?_
      rintro e w1 ⟨rfl, hb1⟩
      rw [HV.out]
      go_wp2
      go_ret
      exact ⟨by rw [HK.out]; rfl, chain0 HB0.out hb1⟩
    · have hne := empty_no hu0
      have HK := Lib.hid (known_in h0 hu0)
      clear h0 hu0
      go_enter Tryz.func21, Tryz.ntmps21
      go_wp2_with fail
      refine (rvalidate_any nm _ ss _ HS.out hl HSH.out).mono ?_
      rintro e w1 ⟨rfl, hb1⟩
      rw [HV.out]
      have HS1 := Lib.hid (HS.out.below hb1)
      have cf := (hb1.cell (p := ⟨w.heap.size, 1, none⟩) (by simp)).trans (show (w.alloc (.cells #[.string nm, .slice q l c] 24)).cell? ⟨w.heap.size, 1, none⟩ = some (.slice q l c) by simp)
      go_wp2_with fail
      refine (has_any _ ss u _ HS1.out hl).mono ?_
      rintro e w2 ⟨rfl, rfl⟩
      go_wp2
      go_ret
      exact ⟨by rw [HK.out]; rfl, chain0 HB0.out hb1⟩
  · have HK := Lib.hid (known_no (u := u) h0)
    have hz : (validV ss == 0) = false := by rw [beq_eq_false_iff_ne]; exact h0
    clear h0
    go_enter Tryz.func21, Tryz.ntmps21
    go_wp2_with fail
    refine (rvalidate_any nm _ ss _ HS.out hl HSH.out).mono ?_
    rintro e w1 ⟨rfl, hb1⟩
    generalize validV ss = z at *
    go_wp2
    go_ret
    exact ⟨by rw [HK.out]; rfl, chain0 HB0.out hb1⟩
end Go.Proofs.YtnmcmnllmnpjkaaGreatDoor
