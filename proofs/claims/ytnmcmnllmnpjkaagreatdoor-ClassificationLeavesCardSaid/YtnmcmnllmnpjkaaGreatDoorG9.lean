/- Contracts of the reference's order, rank, Compare, has and Within: any short strings. -/
import Derived.Test.YtnmcmnllmnpjkaaGreatDoorG8
import Derived.Test.YtnmcmnllmnpjkaaGreatDoorCo
import Derived.WalkLawsBesides
namespace Go.Proofs.YtnmcmnllmnpjkaaGreatDoor
open Go.RowKit Go.Sort Cal Go.Maps
theorem order_any (x y : Int) (w : World) : Calls Tryz.prog 41 #[.int .i64 x, .int .i64 y] w fun e w' => e = .returned (.int .i64 (Lib.compareInt x y)) ∧ w' = w := by
  rcases Int.lt_trichotomy x y with h | h | h
  · have HX : Hid (Lib.compareInt x y = -1) := Lib.hid (by unfold Lib.compareInt; rw [if_pos h])
    go_enter Tryz.func41, Tryz.ntmps41
    go_wp2
    go_ret
    exact ⟨ret_int HX.out.symm, rfl⟩
  · subst h
    have HX : Hid (Lib.compareInt x x = 0) := Lib.hid (by unfold Lib.compareInt; rw [if_neg (by omega), if_neg (by omega)])
    go_enter Tryz.func41, Tryz.ntmps41
    go_wp2
    go_ret
    exact ⟨ret_int HX.out.symm, rfl⟩
  · have HX : Hid (Lib.compareInt x y = 1) := Lib.hid (by unfold Lib.compareInt; rw [if_neg (by omega), if_pos (by omega)])
    go_enter Tryz.func41, Tryz.ntmps41
    go_wp2
    go_ret
    exact ⟨ret_int HX.out.symm, rfl⟩
theorem order_at (x y : Int) (w : World) : Calls Tryz.prog 41 #[.int .i64 x, .int .i64 y] w fun e w' => e = .returned (.int .i64 (Lib.compareInt x y)) ∧ w = w' :=
  (order_any x y w).mono fun _ _ ⟨a, b⟩ => ⟨a, b.symm⟩
theorem rrank_any (s : ByteArray) (w : World) (hs : s.size ≤ 1000) :
    Calls Tryz.prog 42 #[.string s] w fun e w' => e = .returned (.int .i64 (rankV s)) ∧ Below w.heap.size w w' := by
  by_cases h0 : s.size = 0
  · have e := size_zero h0
    subst e
    have HR : Hid (rankV emptyB = 0) := Lib.hid rfl
    clear h0
    unfold emptyB at *
    go_enter Tryz.func42, Tryz.ntmps42
    go_wp2
    go_ret
    exact ⟨ret_int HR.out.symm, Below.refl _ _⟩
  · have hne := empty_no h0
    have hR : rankV s = if (parseO s).isSome then 1 else 2 := by unfold rankV; rw [if_neg h0]
    cases hb : (parseO s).isSome with
    | true =>
      have HR : Hid (rankV s = 1) := Lib.hid (by rw [hR, hb]; rfl)
      have HB := Lib.hid hb
      clear h0 hR hb
      go_enter Tryz.func42, Tryz.ntmps42
      go_wp2_with fail
      refine (ris_any s _ hs).mono ?_
      rintro e w1 ⟨rfl, hb⟩
      rw [HB.out]
      go_wp2
      go_ret
      exact ⟨ret_int HR.out.symm, hb⟩
    | false =>
      have HR : Hid (rankV s = 2) := Lib.hid (by rw [hR, hb]; rfl)
      have HB := Lib.hid hb
      clear h0 hR hb
      go_enter Tryz.func42, Tryz.ntmps42
      go_wp2_with fail
      refine (ris_any s _ hs).mono ?_
      rintro e w1 ⟨rfl, hb⟩
      rw [HB.out]
      go_wp2
      go_ret
      exact ⟨ret_int HR.out.symm, hb⟩
theorem path_len (s : ByteArray) : (pathV s).length ≤ 5 := by
  unfold pathV
  cases h : parseO s with
  | none => simp
  | some P => simp only [upsL, List.length_map, List.length_range]; exact (parseO_some h).1.2.1
/-- Is a string in a list? -/
def inB (ss : List ByteArray) (x : ByteArray) : Bool := ss.any fun y => decide (y = x)
theorem inB_take (ss : List ByteArray) (k : Nat) (x : ByteArray) (h : k < ss.length) : inB (ss.take (k + 1)) x = (inB (ss.take k) x || decide (ss.getD k ByteArray.empty = x)) := by
  unfold inB
  rw [List.take_succ_eq_append_getElem h, List.any_append]
  have e : ss.getD k ByteArray.empty = ss[k] := by simp [List.getD, h]
  rw [e]; simp
set_option maxHeartbeats 800000 in
theorem has_any (sv : Value) (ss : List ByteArray) (x : ByteArray) (w : World) (hv : StrsAt w sv ss) (hl : ss.length ≤ 1000000) :
    Calls Tryz.prog 34 #[sv, .string x] w fun e w' => e = .returned (.bool (inB ss x)) ∧ w = w' := by
  rcases hv with ⟨rfl, pv, cv, rfl⟩ | ⟨v0, bv, ov, cv, rfl, _, bvl, hvc⟩
  · go_enter Tryz.func34, Tryz.ntmps34
    go_wp2_with fail
    go_rounds 1
    go_ret
    exact ⟨rfl, rfl⟩
  have HV := Lib.hid hvc
  clear hvc
  go_enter Tryz.func34, Tryz.ntmps34
  go_wp2_with fail
  go_loop [9] (fun q => ∃ k : Nat, k ≤ ss.length ∧ q = .int .i64 k ∧ inB (ss.take k) x = false) (fun q => ss.length - (intOf q).toNat)
  case atStart => exact ⟨0, by omega, rfl, rfl⟩
  case round =>
    obtain ⟨k, hk, rfl, hno⟩ := hrel
    have HN := Lib.hid hno
    clear hno
    by_cases hlt : k < ss.length
    · have hc := HV.out k hlt
      have HT := Lib.hid (inB_take ss k x hlt)
      have HM : Hid (inB (ss.take (k + 1)) x = true → inB ss x = true) := Lib.hid (by
        intro h
        unfold inB at h ⊢
        rw [List.any_eq_true] at h ⊢
        obtain ⟨y, hy, he⟩ := h
        exact ⟨y, List.mem_of_mem_take hy, he⟩)
      obtain ⟨y, ey⟩ : ∃ y, y = ss.getD k ByteArray.empty := ⟨_, rfl⟩
      rw [← ey] at hc HT
      clear ey
      by_cases hxy : y = x
      · have hb := beq_yes hxy
        have HX : Hid (inB ss x = true) := Lib.hid (HM.out (by rw [HT.out, decide_eq_true hxy]; simp))
        clear hxy
        go_wp2
        go_ret
        exact ⟨by rw [HX.out]; rfl, rfl⟩
      · have hb := beq_no hxy
        have HX : Hid (inB (ss.take (k + 1)) x = false) := Lib.hid (by rw [HT.out, HN.out, decide_eq_false hxy]; rfl)
        clear hxy
        go_wp2
        go_round
        case rel => exact ⟨k + 1, by omega, by go_num, HX.out⟩
        case measure => simp [intOf]; omega
    · obtain rfl : k = ss.length := by omega
      have HX : Hid (inB ss x = false) := Lib.hid (by have := HN.out; rwa [List.take_length] at this)
      go_wp2
      go_ret
      exact ⟨by rw [HX.out]; rfl, rfl⟩
set_option maxRecDepth 100000 in
set_option maxHeartbeats 1600000 in
theorem rwithin_any (c a : ByteArray) (w : World) (hc : c.size ≤ 1000) :
    Calls Tryz.prog 24 #[.string c, .string a] w fun e w' => e = .returned (.bool (withinB c a)) ∧ Below w.heap.size w w' := by
  have hw := within_ref c a
  cases hp : partsO c with
  | none =>
    have HW : Hid (withinB c a = false) := Lib.hid (by rw [hw, if_pos hp])
    have HL : Hid (levelV c = -1) := Lib.hid (by unfold levelV; rw [hp])
    clear hw hp
    go_enter Tryz.func24, Tryz.ntmps24
    go_wp2_with fail
    refine (rlevel_any c _ hc).mono ?_
    rintro e w1 ⟨rfl, hb⟩
    rw [HL.out]
    go_wp2
    go_ret
    exact ⟨by rw [HW.out]; rfl, hb⟩
  | some P =>
    rw [if_neg (by rw [hp]; simp)] at hw
    have HL : Hid (levelV c = ((P.length : Nat) : Int)) := Lib.hid (by unfold levelV; rw [hp])
    by_cases ha0 : a.size = 0
    · have e := size_zero ha0
      subst e
      have HW : Hid (withinB c emptyB = true) := Lib.hid (by rw [hw, if_pos (Or.inl rfl)])
      clear hw hp ha0
      unfold emptyB at *
      go_enter Tryz.func24, Tryz.ntmps24
      go_wp2_with fail
      refine (rlevel_any c _ hc).mono ?_
      rintro e w1 ⟨rfl, hb⟩
      rw [HL.out]
      go_wp2
      go_ret
      exact ⟨by rw [HW.out]; rfl, hb⟩
    have hna := empty_no ha0
    by_cases hac : a = c
    · have HW : Hid (withinB c a = true) := Lib.hid (by rw [hw, if_pos (Or.inr hac)])
      have hbq := beq_yes hac
      clear hw hp ha0 hac
      go_enter Tryz.func24, Tryz.ntmps24
      go_wp2_with fail
      refine (rlevel_any c _ hc).mono ?_
      rintro e w1 ⟨rfl, hb⟩
      rw [HL.out]
      go_wp2
      go_ret
      exact ⟨by rw [HW.out]; rfl, hb⟩
    · have HW : Hid (withinB c a = inB (pathV c) a) := Lib.hid (by
        rw [hw, if_neg (by
          rintro (k | k)
          · exact ha0 (by rw [k]; rfl)
          · exact hac k)]
        rfl)
      have hbq := beq_no hac
      have HPL := Lib.hid (path_len c)
      clear hw hp ha0 hac
      go_enter Tryz.func24, Tryz.ntmps24
      go_wp2_with fail
      refine (rlevel_any c _ hc).mono ?_
      rintro e w1 ⟨rfl, hb⟩
      rw [HL.out]
      go_wp2_with fail
      refine (rpath_any c _ hc).mono ?_
      rintro e w2 ⟨sv, rfl, hown, hb2⟩
      have hS := strs_of_own hown rfl
      obtain ⟨ss, hss⟩ : ∃ ss, ss = pathV c := ⟨_, rfl⟩
      have HSS := Lib.hid hss
      rw [← hss] at hS
      have hsl : ss.length ≤ 5 := by rw [hss]; exact HPL.out
      have HB := Lib.hid (chain0 hb hb2)
      clear hown hss hb hb2
      rcases hS with ⟨rfl, pv, cv, rfl⟩ | ⟨v0, bv, ov, cv, rfl, _, bvl, hvc⟩
      · go_wp2_with fail
        go_rounds 1
        go_ret
        exact ⟨by rw [HW.out, ← HSS.out]; rfl, HB.out⟩
      have HV := Lib.hid hvc
      clear hvc
      go_wp2_with fail
      go_loop [20] (fun q => ∃ k : Nat, k ≤ ss.length ∧ q = .int .i64 k ∧ inB (ss.take k) a = false) (fun q => ss.length - (intOf q).toNat)
      case atStart => exact ⟨0, by omega, rfl, rfl⟩
      case round =>
        obtain ⟨k, hk, rfl, hno⟩ := hrel
        have HN := Lib.hid hno
        clear hno
        by_cases hlt : k < ss.length
        · have hc := HV.out k hlt
          have HT := Lib.hid (inB_take ss k a hlt)
          have HM : Hid (inB (ss.take (k + 1)) a = true → inB ss a = true) := Lib.hid (by
            intro h
            unfold inB at h ⊢
            rw [List.any_eq_true] at h ⊢
            obtain ⟨y, hy, he⟩ := h
            exact ⟨y, List.mem_of_mem_take hy, he⟩)
          obtain ⟨y, ey⟩ : ∃ y, y = ss.getD k ByteArray.empty := ⟨_, rfl⟩
          rw [← ey] at hc HT
          clear ey
          by_cases hxy : y = a
          · have hb := beq_yes hxy
            have HX : Hid (inB ss a = true) := Lib.hid (HM.out (by rw [HT.out, decide_eq_true hxy]; simp))
            clear hxy
            go_wp2
            go_ret
            exact ⟨by rw [HW.out, ← HSS.out, HX.out]; rfl, HB.out⟩
          · have hb := beq_no hxy
            have HX : Hid (inB (ss.take (k + 1)) a = false) := Lib.hid (by rw [HT.out, HN.out, decide_eq_false hxy]; rfl)
            clear hxy
            go_wp2
            go_round
            case rel => exact ⟨k + 1, by omega, by go_num, HX.out⟩
            case measure => simp [intOf]; omega
        · obtain rfl : k = ss.length := by omega
          have HX : Hid (inB ss a = false) := Lib.hid (by have := HN.out; rwa [List.take_length] at this)
          go_wp2
          go_ret
          exact ⟨by rw [HW.out, ← HSS.out, HX.out]; rfl, HB.out⟩
end Go.Proofs.YtnmcmnllmnpjkaaGreatDoor
