/- Contract of the reference's Compare: any short strings. -/
import Derived.Test.YtnmcmnllmnpjkaaGreatDoorG9
namespace Go.Proofs.YtnmcmnllmnpjkaaGreatDoor
open Go.RowKit Go.Sort Cal Go.Maps
theorem quiet_add_same {P : Program} {f : FuncId} {args : Array Value} {w : World} {a n : Nat} {v : Value}
    (h : Calls P f args (w.drewN (a + n)) fun e w' => e = .returned v ∧ w' = w.drewN (a + n)) :
    Calls P f args (w.drewN (a + n)) fun e w'' => e = .returned v ∧ ∃ m, w'' = w.drewN (a + m) :=
  h.mono fun _ _ ⟨he, hm⟩ => ⟨he, n, hm⟩
theorem less_cmp : ∀ x y : List UInt8, (Op.bytesLess x y = true ∧ Lib.compareBytes x y = -1) ∨ (Op.bytesLess x y = false ∧ x = y ∧ Lib.compareBytes x y = 0) ∨ (Op.bytesLess x y = false ∧ x ≠ y ∧ Lib.compareBytes x y = 1)
  | [], [] => Or.inr (Or.inl ⟨rfl, rfl, rfl⟩)
  | [], _ :: _ => Or.inl ⟨rfl, rfl⟩
  | _ :: _, [] => Or.inr (Or.inr ⟨rfl, by simp, rfl⟩)
  | a :: x, b :: y => by
    have ih := less_cmp x y
    have e : Lib.compareBytes (a :: x) (b :: y) = if a < b then -1 else if b < a then 1 else Lib.compareBytes x y := rfl
    have e0 : Op.bytesLess (a :: x) (b :: y) = (decide (a < b) || (a == b && Op.bytesLess x y)) := rfl
    by_cases h : a < b
    · exact Or.inl ⟨by rw [e0, decide_eq_true h]; rfl, by rw [e, if_pos h]⟩
    by_cases h2 : b < a
    · have hab : a ≠ b := by
        intro k
        rw [k] at h2; exact absurd h2 (by rw [UInt8.lt_iff_toNat_lt]; omega)
      have hb : (a == b) = false := by rw [beq_eq_false_iff_ne]; exact hab
      exact Or.inr (Or.inr ⟨by rw [e0, decide_eq_false h, hb]; rfl, fun k => hab (List.cons.inj k).1, by rw [e, if_neg h, if_pos h2]⟩)
    · have hab : a = b := by
        apply UInt8.toNat_inj.1
        rw [UInt8.lt_iff_toNat_lt] at h h2
        omega
      subst hab
      have e2 : Lib.compareBytes (a :: x) (a :: y) = Lib.compareBytes x y := by rw [e, if_neg h, if_neg h]
      have e3 : Op.bytesLess (a :: x) (a :: y) = Op.bytesLess x y := by rw [e0, decide_eq_false h]; simp
      rw [e2, e3]
      rcases ih with ⟨i1, i2⟩ | ⟨i1, i2, i3⟩ | ⟨i1, i2, i3⟩
      · exact Or.inl ⟨i1, i2⟩
      · exact Or.inr (Or.inl ⟨i1, by rw [i2], i3⟩)
      · exact Or.inr (Or.inr ⟨i1, fun k => i2 (List.cons.inj k).2, i3⟩)
theorem str_cmp (a b : ByteArray) : (Op.bytesLess a.toList b.toList = true ∧ Lib.compareBytes a.data.toList b.data.toList = -1) ∨ (Op.bytesLess a.toList b.toList = false ∧ (a.toList == b.toList) = true ∧ Lib.compareBytes a.data.toList b.data.toList = 0) ∨ (Op.bytesLess a.toList b.toList = false ∧ (a.toList == b.toList) = false ∧ Lib.compareBytes a.data.toList b.data.toList = 1) := by
  rw [ByteArray.toList_eq, ByteArray.toList_eq]
  rcases less_cmp a.data.toList b.data.toList with h | ⟨h1, h2, h3⟩ | ⟨h1, h2, h3⟩
  · exact Or.inl h
  · exact Or.inr (Or.inl ⟨h1, by rw [h2]; simp, h3⟩)
  · exact Or.inr (Or.inr ⟨h1, by rw [beq_eq_false_iff_ne]; exact h2, h3⟩)
theorem cmp_int_zero (x y : Int) : Lib.compareInt x y = 0 ↔ x = y := by
  unfold Lib.compareInt
  rcases Int.lt_trichotomy x y with h | h | h
  · rw [if_pos h]; constructor <;> intro k <;> omega
  · rw [if_neg (by omega), if_neg (by omega)]; exact ⟨fun _ => h, fun _ => rfl⟩
  · rw [if_neg (by omega), if_pos (by omega)]; constructor <;> intro k <;> omega
set_option maxRecDepth 100000 in
set_option maxHeartbeats 1600000 in
/-- Two codes: number by number. -/
theorem rcompare_codes (a b : ByteArray) (P Q : List Int) (w : World) (ha : a.size ≤ 1000) (hb' : b.size ≤ 1000) (hp : parseO a = some P) (hq : parseO b = some Q) :
    Calls Tryz.prog 26 #[.string a, .string b] w fun e w' => e = .returned (.int .i64 (cmpV a b)) ∧ Below w.heap.size w w' := by
  have ra : rankV a = 1 := by unfold rankV; rw [if_neg (size_code hp), hp]; rfl
  have rb : rankV b = 1 := by unfold rankV; rw [if_neg (size_code hq), hq]; rfl
  have HX : Hid (cmpV a b = cmpI P Q) := Lib.hid (by unfold cmpV; rw [ra, rb, hp, hq]; rfl)
  have HRA := Lib.hid ra
  have HRB := Lib.hid rb
  have HP := Lib.hid hp
  have HQ := Lib.hid hq
  have hpl := (parseO_some hp).1.2.1
  have hql := (parseO_some hq).1.2.1
  have hp1 := (parseO_some hp).1.1
  have hq1 := (parseO_some hq).1.1
  have HI : Hid (Lib.compareInt 1 1 = 0) := Lib.hid rfl
  clear ra rb hp hq
  go_enter Tryz.func26, Tryz.ntmps26
  go_wp2_with fail
  refine (rrank_any a _ ha).mono ?_
  rintro e w1 ⟨rfl, hb1⟩
  rw [HRA.out]
  go_wp2_with fail
  refine (rrank_any b _ hb').mono ?_
  rintro e w2 ⟨rfl, hb2⟩
  rw [HRB.out]
  go_wp2_with fail
  refine (order_at 1 1 _).mono ?_
  rintro e w3 ⟨rfl, rfl⟩
  rw [HI.out]
  go_wp2_with fail
  refine (rrank_any a _ ha).mono ?_
  rintro e w3 ⟨rfl, hb3⟩
  rw [HRA.out]
  go_wp2_with fail
  refine (rparse_yes a P _ ha HP.out).mono ?_
  rintro e w4 ⟨su, rfl, hown, hb4⟩
  have HU := Lib.hid (ints_of_own hown rfl)
  clear hown
  go_wp2_with fail
  refine (rparse_yes b Q _ hb' HQ.out).mono ?_
  rintro e w5 ⟨sv, rfl, hown, hb5⟩
  have hV := ints_of_own hown rfl
  have hU := HU.out.below hb5
  have HB := Lib.hid (chain0 (chain0 (chain0 (chain0 hb1 hb2) hb3) hb4) hb5)
  clear hown hb1 hb2 hb3 hb4 hb5 HU
  rcases hU with ⟨rfl, _⟩ | ⟨u0, bu, ou, cu, rfl, _, bul, huc⟩
  · simp at hp1
  rcases hV with ⟨rfl, _⟩ | ⟨v0, bv, ov, cv, rfl, _, bvl, hvc⟩
  · simp at hq1
  have HU := Lib.hid huc
  have HV := Lib.hid hvc
  clear huc hvc
  go_wp2_with fail
  go_loopw [10] (fun q wr => ∃ k : Nat, k ≤ P.length ∧ k ≤ Q.length ∧ q = .int .i64 k ∧ cmpI (P.drop k) (Q.drop k) = cmpI P Q ∧ Below w5.heap.size w5 wr) (fun q _ => P.length - (intOf q).toNat)
  case atStart => exact ⟨0, by omega, by omega, rfl, rfl, Below.refl _ _⟩
  case round =>
    obtain ⟨k, hkp, hkq, rfl, hcmp, hbr⟩ := hrel
    have HC := Lib.hid hcmp
    clear hcmp
    by_cases hlp : k < P.length
    · by_cases hlq : k < Q.length
      · have cu := (hbr.cell (p := ⟨bu, ou + k, none⟩) bul).trans (HU.out k hlp)
        have cv := (hbr.cell (p := ⟨bv, ov + k, none⟩) bvl).trans (HV.out k hlq)
        have HDU := Lib.hid (drop_getD P k hlp)
        have HDV := Lib.hid (drop_getD Q k hlq)
        have HBR := Lib.hid hbr
        clear hbr
        obtain ⟨x, ex⟩ : ∃ x, x = P.getD k 0 := ⟨_, rfl⟩
        obtain ⟨y, ey⟩ : ∃ y, y = Q.getD k 0 := ⟨_, rfl⟩
        rw [← ex] at cu HDU
        rw [← ey] at cv HDV
        clear ex ey
        have HR : Hid (cmpI P Q = if x < y then -1 else if y < x then 1 else cmpI (P.drop (k + 1)) (Q.drop (k + 1))) := Lib.hid (by
          rw [← HC.out, HDU.out, HDV.out, cmpI_cc])
        by_cases hxy : x = y
        · subst hxy
          have HR2 : Hid (cmpI (P.drop (k + 1)) (Q.drop (k + 1)) = cmpI P Q) := Lib.hid (by rw [HR.out, if_neg (by omega), if_neg (by omega)])
          go_wp2_with fail
          go_quiet (fail)
          go_wp2
          go_roundw
          case rel => exact ⟨k + 1, by omega, by omega, by go_num, HR2.out, below_drewN HBR.out _⟩
          case measure => simp [intOf]; omega
        · have hne : (x == y) = false := by rw [beq_eq_false_iff_ne]; exact hxy
          have HR2 : Hid (cmpI P Q = Lib.compareInt x y) := Lib.hid (by
            rw [HR.out]; unfold Lib.compareInt
            rcases Int.lt_trichotomy x y with h | h | h
            · rw [if_pos h, if_pos h]
            · exact absurd h hxy
            · rw [if_neg (by omega), if_pos h, if_neg (by omega), if_pos h])
          go_wp2_with fail
          go_quiet (fail)
          go_wp2_with fail
          go_quiet ((go_at_call 41; exact quiet_add_same (order_any x y _)))
          go_wp2
          go_ret
          exact ⟨ret_int (by rw [HX.out, HR2.out]), chain0 HB.out (below_drewN (below_drewN HBR.out _) _)⟩
      · have HR2 : Hid (cmpI P Q = Lib.compareInt P.length Q.length) := Lib.hid (by
          rw [← HC.out, List.drop_eq_nil_of_le (by omega : Q.length ≤ k), drop_getD P k hlp, cmpI_cn]
          unfold Lib.compareInt; rw [if_neg (by omega), if_pos (by omega)])
        go_wp2_with fail
        refine (order_at _ _ _).mono ?_
        rintro e w6 ⟨rfl, rfl⟩
        go_wp2
        go_ret
        exact ⟨ret_int (by rw [HX.out, HR2.out]), chain0 HB.out hbr⟩
    · obtain rfl : k = P.length := by omega
      have HR2 : Hid (cmpI P Q = Lib.compareInt P.length Q.length) := Lib.hid (by
        rw [← HC.out, List.drop_length]
        by_cases h : P.length < Q.length
        · rw [drop_getD Q _ h, cmpI_nc]; unfold Lib.compareInt; rw [if_pos (by omega)]
        · rw [List.drop_eq_nil_of_le (by omega : Q.length ≤ P.length), cmpI_nn]; unfold Lib.compareInt; rw [if_neg (by omega), if_neg (by omega)])
      go_wp2_with fail
      refine (order_at _ _ _).mono ?_
      rintro e w6 ⟨rfl, rfl⟩
      go_wp2
      go_ret
      exact ⟨ret_int (by rw [HX.out, HR2.out]), chain0 HB.out hbr⟩
/-- Two strings of different ranks. -/
theorem rcompare_ranks (a b : ByteArray) (w : World) (ha : a.size ≤ 1000) (hb' : b.size ≤ 1000) (hr : rankV a ≠ rankV b) :
    Calls Tryz.prog 26 #[.string a, .string b] w fun e w' => e = .returned (.int .i64 (cmpV a b)) ∧ Below w.heap.size w w' := by
  have HX : Hid (cmpV a b = Lib.compareInt (rankV a) (rankV b)) := Lib.hid (by unfold cmpV; rw [if_pos hr])
  have h0 : Lib.compareInt (rankV a) (rankV b) ≠ 0 := fun h => hr ((cmp_int_zero _ _).1 h)
  obtain ⟨c, hc⟩ : ∃ c, c = Lib.compareInt (rankV a) (rankV b) := ⟨_, rfl⟩
  have HC := Lib.hid hc
  rw [← hc] at h0
  have hcb : (c == 0) = false := by rw [beq_eq_false_iff_ne]; exact h0
  clear hc hr
  go_enter Tryz.func26, Tryz.ntmps26
  go_wp2_with fail
  refine (rrank_any a _ ha).mono ?_
  rintro e w1 ⟨rfl, hb1⟩
  go_wp2_with fail
  refine (rrank_any b _ hb').mono ?_
  rintro e w2 ⟨rfl, hb2⟩
  go_wp2_with fail
  refine (order_at _ _ _).mono ?_
  rintro e w3 ⟨rfl, rfl⟩
  rw [← HC.out]
  go_wp2
  go_ret
  exact ⟨ret_int (by rw [HX.out, HC.out]), chain0 hb1 hb2⟩
set_option maxHeartbeats 800000 in
/-- Two strings of one rank that are no codes: byte by byte. -/
theorem rcompare_bytes (a b : ByteArray) (w : World) (ha : a.size ≤ 1000) (hb' : b.size ≤ 1000) (hr : rankV a = rankV b) (h1 : rankV a ≠ 1) :
    Calls Tryz.prog 26 #[.string a, .string b] w fun e w' => e = .returned (.int .i64 (cmpV a b)) ∧ Below w.heap.size w w' := by
  have HX : Hid (cmpV a b = Lib.compareBytes a.data.toList b.data.toList) := Lib.hid (by unfold cmpV; rw [if_neg (by simpa using hr), if_neg h1])
  have HI : Hid (Lib.compareInt (rankV a) (rankV b) = 0) := Lib.hid ((cmp_int_zero _ _).2 hr)
  obtain ⟨r, er⟩ : ∃ r, r = rankV a := ⟨_, rfl⟩
  have HRA := Lib.hid er
  rw [← er] at h1
  have h1b : (r == 1) = false := by rw [beq_eq_false_iff_ne]; exact h1
  clear hr er
  go_enter Tryz.func26, Tryz.ntmps26
  go_wp2_with fail
  refine (rrank_any a _ ha).mono ?_
  rintro e w1 ⟨rfl, hb1⟩
  go_wp2_with fail
  refine (rrank_any b _ hb').mono ?_
  rintro e w2 ⟨rfl, hb2⟩
  go_wp2_with fail
  refine (order_at _ _ _).mono ?_
  rintro e w3 ⟨rfl, rfl⟩
  rw [HI.out]
  go_wp2_with fail
  refine (rrank_any a _ ha).mono ?_
  rintro e w3 ⟨rfl, hb3⟩
  rw [← HRA.out]
  have HB := Lib.hid (chain0 (chain0 hb1 hb2) hb3)
  clear hb1 hb2 hb3
  rcases str_cmp a b with ⟨k1, k2⟩ | ⟨k1, k2, k3⟩ | ⟨k1, k2, k3⟩
  · have HK := Lib.hid k2
    clear k2
    go_wp2
    go_ret
    exact ⟨ret_int (by rw [HX.out, HK.out]), HB.out⟩
  · have HK := Lib.hid k3
    clear k3
    go_wp2
    go_ret
    exact ⟨ret_int (by rw [HX.out, HK.out]), HB.out⟩
  · have HK := Lib.hid k3
    clear k3
    go_wp2
    go_ret
    exact ⟨ret_int (by rw [HX.out, HK.out]), HB.out⟩
theorem rcompare_any (a b : ByteArray) (w : World) (ha : a.size ≤ 1000) (hb' : b.size ≤ 1000) :
    Calls Tryz.prog 26 #[.string a, .string b] w fun e w' => e = .returned (.int .i64 (cmpV a b)) ∧ Below w.heap.size w w' := by
  by_cases hr : rankV a = rankV b
  · by_cases h1 : rankV a = 1
    · have som : ∀ s, rankV s = 1 → ∃ P, parseO s = some P := by
        intro s hs
        unfold rankV at hs
        split at hs
        · cases hs
        · split at hs
          · rename_i k; exact Option.isSome_iff_exists.1 k
          · cases hs
      obtain ⟨P, hP⟩ := som a h1
      obtain ⟨Q, hQ⟩ := som b (by rw [← hr]; exact h1)
      exact rcompare_codes a b P Q w ha hb' hP hQ
    · exact rcompare_bytes a b w ha hb' hr h1
  · exact rcompare_ranks a b w ha hb' hr
end Go.Proofs.YtnmcmnllmnpjkaaGreatDoor
