/- Contracts of the program's Within, Compare and of the laws' awake: any short strings. -/
import Derived.Test.YtenjefbplpbjaaaGreatDoorG4
namespace Go.Proofs.YtenjefbplpbjaaaGreatDoor
open Go.RowKit Go.Sort Cal Go.Maps
theorem empty_yes : emptyB.toList.isEmpty = true := by rw [ByteArray.toList_eq]; rfl
theorem partsO_of {s : ByteArray} (h : s.size ≠ 0) : partsO s = parseO s := by unfold partsO; rw [if_neg h]
theorem within_no {c a : ByteArray} (h : partsO c = none ∨ partsO a = none) : withinB c a = false := by
  unfold withinB
  rcases h with h | h
  · rw [h]
  · rw [h]; cases partsO c <;> rfl
theorem hasPrefix_at (s p : ByteArray) (w : World) :
    Calls Tryz.prog 84 #[.string s, .string p] w fun e w' => e = .returned (.bool (Lib.hasPrefix s.data.toList p.data.toList)) ∧ w = w' :=
  (Tryz.strings_HasPrefix s p w).mono fun _ _ ⟨a, b⟩ => ⟨a, b.symm⟩
/-- What the program asks at its end, of two strings that are codes or "". -/
def withinE (c a : ByteArray) : Bool := decide (a = emptyB) || (decide (c = a) || Lib.hasPrefix c.data.toList (a ++ dotB).data.toList)
set_option maxRecDepth 100000 in
set_option maxHeartbeats 1600000 in
theorem within_any (c a : ByteArray) (w : World) (hc : c.size ≤ 2000000) (ha : a.size ≤ 2000000) (hE : Env w) :
    Calls Tryz.prog 35 #[.string c, .string a] w fun e w' => e = .returned (.bool (withinB c a)) ∧ Below w.heap.size w w' := by
  have HE := Lib.hid hE
  clear hE
  by_cases hc0 : c.size = 0
  · have e := size_zero hc0
    subst e
    by_cases ha0 : a.size = 0
    · have e := size_zero ha0
      subst e
      have HW : Hid (withinB emptyB emptyB = true) := Lib.hid rfl
      clear hc0 ha0
      unfold emptyB at *
      go_enter Tryz.func35, Tryz.ntmps35
      go_wp2
      go_ret
      exact ⟨by rw [HW.out]; rfl, Below.refl _ _⟩
    · have hne := empty_no ha0
      cases hp : parseO a with
      | none =>
        have HW : Hid (withinB emptyB a = false) := Lib.hid (within_no (Or.inr (by rw [partsO_of ha0, hp])))
        have HB : Hid ((parseO a).isSome = false) := Lib.hid (by rw [hp]; rfl)
        clear hp ha0 hc0
        unfold emptyB at *
        go_enter Tryz.func35, Tryz.ntmps35
        go_wp2_with fail
        refine (is_any a _ ha HE.out).mono ?_
        rintro e w1 ⟨rfl, hb⟩
        rw [HB.out]
        go_wp2
        go_ret
        exact ⟨by rw [HW.out]; rfl, hb⟩
      | some Q =>
        have HB : Hid ((parseO a).isSome = true) := Lib.hid (by rw [hp]; rfl)
        have HW : Hid (withinB emptyB a = Lib.hasPrefix [] (a ++ dotB).data.toList) := Lib.hid (by
          rw [within_prog emptyB a [] Q rfl (by rw [partsO_of ha0, hp])]
          have h1 : ¬ a = emptyB := fun e => ha0 (by rw [e]; rfl)
          have h2 : ¬ emptyB = a := fun e => h1 e.symm
          simp [h1, h2]
          rfl)
        have hbq : ((⟨#[]⟩ : ByteArray).toList == a.toList) = false := beq_no (fun e => ha0 (by rw [← e]; rfl))
        clear hp ha0 hc0
        unfold emptyB at *
        go_enter Tryz.func35, Tryz.ntmps35
        go_wp2_with fail
        refine (is_any a _ ha HE.out).mono ?_
        rintro e w1 ⟨rfl, hb⟩
        rw [HB.out]
        go_wp2_with fail
        refine (hasPrefix_at _ _ _).mono ?_
        rintro e w2 ⟨rfl, rfl⟩
        go_wp2
        go_ret
        exact ⟨by rw [HW.out]; rfl, hb⟩
  · have hnc := empty_no hc0
    cases hp : parseO c with
    | none =>
      have HW : Hid (withinB c a = false) := Lib.hid (within_no (Or.inl (by rw [partsO_of hc0, hp])))
      have HB : Hid ((parseO c).isSome = false) := Lib.hid (by rw [hp]; rfl)
      clear hp hc0
      go_enter Tryz.func35, Tryz.ntmps35
      go_wp2_with fail
      refine (is_any c _ hc HE.out).mono ?_
      rintro e w1 ⟨rfl, hb⟩
      rw [HB.out]
      go_wp2
      go_ret
      exact ⟨by rw [HW.out]; rfl, hb⟩
    | some P =>
      have HB : Hid ((parseO c).isSome = true) := Lib.hid (by rw [hp]; rfl)
      have HC0 : Hid (partsO c = some P) := Lib.hid (by rw [partsO_of hc0, hp])
      by_cases ha0 : a.size = 0
      · have e := size_zero ha0
        subst e
        have HW : Hid (withinB c emptyB = true) := Lib.hid (by
          rw [within_prog c emptyB P [] HC0.out rfl]
          simp)
        clear hp hc0 ha0
        unfold emptyB at *
        go_enter Tryz.func35, Tryz.ntmps35
        go_wp2_with fail
        refine (is_any c _ hc HE.out).mono ?_
        rintro e w1 ⟨rfl, hb⟩
        rw [HB.out]
        go_wp2
        go_ret
        exact ⟨by rw [HW.out]; rfl, hb⟩
      · have hna := empty_no ha0
        cases hq : parseO a with
        | none =>
          have HW : Hid (withinB c a = false) := Lib.hid (within_no (Or.inr (by rw [partsO_of ha0, hq])))
          have HA : Hid ((parseO a).isSome = false) := Lib.hid (by rw [hq]; rfl)
          clear hp hq ha0 hc0
          go_enter Tryz.func35, Tryz.ntmps35
          go_wp2_with fail
          refine (is_any c _ hc HE.out).mono ?_
          rintro e w1 ⟨rfl, hb⟩
          rw [HB.out]
          go_wp2_with fail
          refine (is_any a _ ha (HE.out.below hb)).mono ?_
          rintro e w2 ⟨rfl, hb2⟩
          rw [HA.out]
          go_wp2
          go_ret
          exact ⟨by rw [HW.out]; rfl, chain0 hb hb2⟩
        | some Q =>
          have HA : Hid ((parseO a).isSome = true) := Lib.hid (by rw [hq]; rfl)
          have hx : withinB c a = (decide (c = a) || Lib.hasPrefix c.data.toList (a ++ dotB).data.toList) := by
            rw [within_prog c a P Q HC0.out (by rw [partsO_of ha0, hq])]
            have h1 : ¬ a = emptyB := fun e => ha0 (by rw [e]; rfl)
            simp [h1]
          have hcs : a.size + 1 ≤ 3000000 := by omega
          by_cases hca : c = a
          · have HW : Hid (withinB c a = true) := Lib.hid (by rw [hx]; simp [hca])
            have hbq := beq_yes hca
            clear hp hq ha0 hc0 hx hca
            go_enter Tryz.func35, Tryz.ntmps35
            go_wp2_with fail
            refine (is_any c _ hc HE.out).mono ?_
            rintro e w1 ⟨rfl, hb⟩
            rw [HB.out]
            go_wp2_with fail
            refine (is_any a _ ha (HE.out.below hb)).mono ?_
            rintro e w2 ⟨rfl, hb2⟩
            rw [HA.out]
            go_wp2
            go_ret
            exact ⟨by rw [HW.out]; rfl, chain0 hb hb2⟩
          · have HW : Hid (withinB c a = Lib.hasPrefix c.data.toList (a ++ dotB).data.toList) := Lib.hid (by rw [hx]; simp [hca])
            have hbq := beq_no hca
            clear hp hq ha0 hc0 hx hca
            go_enter Tryz.func35, Tryz.ntmps35
            go_wp2_with fail
            refine (is_any c _ hc HE.out).mono ?_
            rintro e w1 ⟨rfl, hb⟩
            rw [HB.out]
            go_wp2_with fail
            refine (is_any a _ ha (HE.out.below hb)).mono ?_
            rintro e w2 ⟨rfl, hb2⟩
            rw [HA.out]
            go_wp2_with fail
            refine (hasPrefix_at _ _ _).mono ?_
            rintro e w3 ⟨rfl, rfl⟩
            go_wp2
            go_ret
            exact ⟨by rw [HW.out]; rfl, chain0 hb hb2⟩
end Go.Proofs.YtenjefbplpbjaaaGreatDoor
