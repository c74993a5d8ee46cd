/- Contracts of the program's Compare and of the laws' awake: any short strings. -/
import Derived.Test.YtnmcmnllmnpjkaaGreatDoorG5
namespace Go.Proofs.YtnmcmnllmnpjkaaGreatDoor
open Go.RowKit Go.Sort Cal Go.Maps
theorem cmp_at (x y : Int) (w : World) : Calls Tryz.prog 52 #[.int .i64 x, .int .i64 y] w fun e w' => e = .returned (.int .i64 (Lib.compareInt x y)) ∧ w = w' :=
  (Tryz.cmp_Compare_int x y w).mono fun _ _ ⟨a, b⟩ => ⟨a, b.symm⟩
theorem drop_getD (zs : List Int) (k : Nat) (h : k < zs.length) : zs.drop k = zs.getD k 0 :: zs.drop (k + 1) := by
  rw [List.drop_eq_getElem_cons h, List.getD, List.getElem?_eq_getElem h]; rfl
theorem cmpI_cons (a b : Int) (x y : List Int) : cmpI (a :: x) (b :: y) = if a < b then -1 else if b < a then 1 else cmpI x y := rfl
theorem cmpI_nil_cons (b : Int) (y : List Int) : cmpI [] (b :: y) = -1 := rfl
theorem cmpI_cons_nil (a : Int) (x : List Int) : cmpI (a :: x) [] = 1 := rfl
set_option maxRecDepth 100000 in
set_option maxHeartbeats 1600000 in
theorem scmp_any (su sv : Value) (us vs : List Int) (w : World) (hu : IntsAt w su us) (hv : IntsAt w sv vs) (lu : us.length ≤ 1000000) (lv : vs.length ≤ 1000000) :
    Calls Tryz.prog 39 #[su, sv] w fun e w' => e = .returned (.int .i64 (cmpI us vs)) ∧ w = w' := by
  rcases hu with ⟨rfl, pu, cu, rfl⟩ | ⟨u0, bu, ou, cu, rfl, _, bul, huc⟩
  · rcases hv with ⟨rfl, pv, cv, rfl⟩ | ⟨v0, bv, ov, cv, rfl, _, bvl, hvc⟩
    · go_enter Tryz.func39, Tryz.ntmps39
      go_wp2_with fail
      go_rounds 1
      go_ret
      exact ⟨rfl, rfl⟩
    · have HX : Hid (cmpI [] vs = -1) := Lib.hid (by match vs, v0 with | _ :: _, _ => rfl)
      clear hvc
      go_enter Tryz.func39, Tryz.ntmps39
      go_wp2_with fail
      go_rounds 1
      go_ret
      exact ⟨ret_int HX.out.symm, rfl⟩
  have HU := Lib.hid huc
  clear huc
  rcases hv with ⟨rfl, pv, cv, rfl⟩ | ⟨v0, bv, ov, cv, rfl, _, bvl, hvc⟩
  · have HX : Hid (cmpI us [] = 1) := Lib.hid (by match us, u0 with | _ :: _, _ => rfl)
    have c0 : w.cell? ⟨bu, ou, none⟩ = some (.int .i64 (us.getD 0 0)) := by have := HU.out 0 u0; rwa [Nat.add_zero] at this
    go_enter Tryz.func39, Tryz.ntmps39
    go_wp2_with fail
    go_rounds 1
    go_ret
    exact ⟨ret_int HX.out.symm, rfl⟩
  have HV := Lib.hid hvc
  clear hvc
  go_enter Tryz.func39, Tryz.ntmps39
  go_wp2_with fail
  go_loop [11] (fun q => ∃ k : Nat, k ≤ us.length ∧ k ≤ vs.length ∧ q = .int .i64 k ∧ cmpI (us.drop k) (vs.drop k) = cmpI us vs) (fun q => us.length - (intOf q).toNat)
  case atStart => exact ⟨0, by omega, by omega, rfl, rfl⟩
  case round =>
    obtain ⟨k, hku, hkv, rfl, hcmp⟩ := hrel
    have HC := Lib.hid hcmp
    clear hcmp
    by_cases hlu : k < us.length
    · have hcu := HU.out k hlu
      have HDU := Lib.hid (drop_getD us k hlu)
      obtain ⟨x, ex⟩ : ∃ x, x = us.getD k 0 := ⟨_, rfl⟩
      rw [← ex] at hcu HDU
      clear ex
      by_cases hlv : k < vs.length
      · have hcv := HV.out k hlv
        have HDV := Lib.hid (drop_getD vs k hlv)
        obtain ⟨y, ey⟩ : ∃ y, y = vs.getD k 0 := ⟨_, rfl⟩
        rw [← ey] at hcv HDV
        clear ey
        have HR : Hid (cmpI us vs = if x < y then -1 else if y < x then 1 else cmpI (us.drop (k + 1)) (vs.drop (k + 1))) := Lib.hid (by
          rw [← HC.out, HDU.out, HDV.out, cmpI_cons])
        have hlt3 : x < y ∨ y < x ∨ x = y := by omega
        rcases hlt3 with h | h | h
        · have HI : Hid (Lib.compareInt x y = -1) := Lib.hid (by unfold Lib.compareInt; rw [if_pos h])
          go_wp2_with fail
          refine (cmp_at x y _).mono ?_
          rintro e w1 ⟨rfl, rfl⟩
          rw [HI.out]
          go_wp2
          go_ret
          exact ⟨ret_int (by rw [HR.out, if_pos h]), rfl⟩
        · have HI : Hid (Lib.compareInt x y = 1) := Lib.hid (by unfold Lib.compareInt; rw [if_neg (by omega), if_pos (by omega)])
          go_wp2_with fail
          refine (cmp_at x y _).mono ?_
          rintro e w1 ⟨rfl, rfl⟩
          rw [HI.out]
          go_wp2
          go_ret
          exact ⟨ret_int (by rw [HR.out, if_neg (by omega), if_pos h]), rfl⟩
        · have HI : Hid (Lib.compareInt x y = 0) := Lib.hid (by unfold Lib.compareInt; rw [if_neg (by omega), if_neg (by omega)])
          have HR2 : Hid (cmpI (us.drop (k + 1)) (vs.drop (k + 1)) = cmpI us vs) := Lib.hid (by rw [HR.out, if_neg (by omega), if_neg (by omega)])
          clear h
          go_wp2_with fail
          refine (cmp_at x y _).mono ?_
          rintro e w1 ⟨rfl, rfl⟩
          rw [HI.out]
          go_wp2
          go_round
          case rel => exact ⟨k + 1, by omega, by omega, by go_num, HR2.out⟩
          case measure => simp [intOf]; omega
      · have HX : Hid (cmpI us vs = 1) := Lib.hid (by
          rw [← HC.out, HDU.out, List.drop_eq_nil_of_le (by omega : vs.length ≤ k)]; rfl)
        go_wp2
        go_ret
        exact ⟨ret_int HX.out.symm, rfl⟩
    · by_cases hlv : k < vs.length
      · have HX : Hid (cmpI us vs = -1) := Lib.hid (by
          rw [← HC.out, drop_getD vs k hlv, List.drop_eq_nil_of_le (by omega : us.length ≤ k)]; rfl)
        go_wp2
        go_ret
        exact ⟨ret_int HX.out.symm, rfl⟩
      · have HX : Hid (cmpI us vs = 0) := Lib.hid (by
          rw [← HC.out, List.drop_eq_nil_of_le (by omega : vs.length ≤ k), List.drop_eq_nil_of_le (by omega : us.length ≤ k)]; rfl)
        go_wp2
        go_ret
        exact ⟨ret_int HX.out.symm, rfl⟩
theorem class_any (s : ByteArray) (w : World) (hs : s.size ≤ 1000) (hE : Env w) :
    Calls Tryz.prog 38 #[.string s] w fun e w' => e = .returned (.int .i64 (rankV s)) ∧ Below w.heap.size w w' := by
  have HE := Lib.hid hE
  clear hE
  by_cases h0 : s.size = 0
  · have e := size_zero h0
    subst e
    have HR : Hid (rankV emptyB = 0) := Lib.hid rfl
    clear h0
    unfold emptyB at *
    go_enter Tryz.func38, Tryz.ntmps38
    go_wp2
    go_ret
    exact ⟨ret_int HR.out.symm, Below.refl _ _⟩
  · have hne := empty_no h0
    have hR : rankV s = if (parseO s).isSome then 1 else 2 := by unfold rankV; rw [if_neg h0]
    cases hb : (parseO s).isSome with
    | true =>
      have HR : Hid (rankV s = 1) := Lib.hid (by rw [hR, hb]; rfl)
      have HB := Lib.hid hb
      clear h0 hR hb
      go_enter Tryz.func38, Tryz.ntmps38
      go_wp2_with fail
      refine (is_any s _ hs HE.out).mono ?_
      rintro e w1 ⟨rfl, hb⟩
      rw [HB.out]
      go_wp2
      go_ret
      exact ⟨ret_int HR.out.symm, hb⟩
    | false =>
      have HR : Hid (rankV s = 2) := Lib.hid (by rw [hR, hb]; rfl)
      have HB := Lib.hid hb
      clear h0 hR hb
      go_enter Tryz.func38, Tryz.ntmps38
      go_wp2_with fail
      refine (is_any s _ hs HE.out).mono ?_
      rintro e w1 ⟨rfl, hb⟩
      rw [HB.out]
      go_wp2
      go_ret
      exact ⟨ret_int HR.out.symm, hb⟩
/-- What the function inside Compare gives of a string. -/
def InPost (s : ByteArray) (w : World) (e : Ending) (w' : World) : Prop :=
  ∃ sv, e = .returned (.tuple #[.int .i64 (rankV s), sv]) ∧ IntsAt w' sv ((parseO s).getD []) ∧ Below w.heap.size w w'
theorem in_any (s : ByteArray) (w : World) (hs : s.size ≤ 1000) (hE : Env w) :
    Calls Tryz.prog 37 #[.string s] w (InPost s w) := by
  have HE := Lib.hid hE
  clear hE
  cases hp : parseO s with
  | some P =>
    have HP := Lib.hid hp
    clear hp
    go_enter Tryz.func37, Tryz.ntmps37
    go_wp2_with fail
    refine (parse_yes s P _ hs HP.out HE.out).mono ?_
    rintro e w1 ⟨sv, rfl, hown, hb⟩
    have HI := Lib.hid (ints_of_own hown rfl)
    clear hown
    go_wp2_with fail
    refine (class_any s _ hs (HE.out.below hb)).mono ?_
    rintro e w2 ⟨rfl, hb2⟩
    go_wp2
    go_ret2
    exact ⟨sv, rfl, by rw [HP.out]; exact HI.out.below hb2, chain0 hb hb2⟩
  | none =>
    have HP := Lib.hid hp
    clear hp
    go_enter Tryz.func37, Tryz.ntmps37
    go_wp2_with fail
    refine (parse_no s _ hs HP.out HE.out).mono ?_
    rintro e w1 ⟨rfl, hb⟩
    go_wp2_with fail
    refine (class_any s _ hs (HE.out.below hb)).mono ?_
    rintro e w2 ⟨rfl, hb2⟩
    go_wp2
    go_ret2
    exact ⟨_, rfl, by rw [HP.out]; exact Or.inl ⟨rfl, _, _, rfl⟩, chain0 hb hb2⟩
theorem parse_len (s : ByteArray) : ((parseO s).getD []).length ≤ 5 := by
  cases h : parseO s with
  | none => simp
  | some P => exact (parseO_some h).1.2.1
theorem compare_at (a b : ByteArray) (w : World) : Calls Tryz.prog 40 #[.string a, .string b] w fun e w' => e = .returned (.int .i64 (Lib.compareBytes a.data.toList b.data.toList)) ∧ w = w' :=
  (Tryz.strings_Compare a b w).mono fun _ _ ⟨x, y⟩ => ⟨x, y.symm⟩
theorem one_at (w : World) (x : Int) (t : TypeId) : IntsAt (w.alloc (.cells #[.int .i64 x] t)) (.slice (some ⟨w.heap.size, 0, none⟩) 1 1) [x] :=
  Or.inr ⟨by simp, _, _, _, rfl, by simp, by simp, fun j hj => by
    obtain rfl : j = 0 := by simp at hj; omega
    simp⟩
theorem two_at (w : World) (x y : Int) (t : TypeId) : Calls Tryz.prog 39 #[.slice (some ⟨w.heap.size, 0, none⟩) 1 1, .slice (some ⟨w.heap.size + 1, 0, none⟩) 1 1] ((w.alloc (.cells #[.int .i64 x] t)).alloc (.cells #[.int .i64 y] t)) fun e w' => e = .returned (.int .i64 (cmpI [x] [y])) ∧ (w.alloc (.cells #[.int .i64 x] t)).alloc (.cells #[.int .i64 y] t) = w' := by
  have h2 := one_at (w.alloc (.cells #[.int .i64 x] t)) y t
  rw [World.size_alloc] at h2
  exact scmp_any _ _ [x] [y] _ ((one_at w x t).below ((Below.refl _ _).alloc (Nat.le_refl _) _)) h2 (by simp) (by simp)
set_option maxRecDepth 100000 in
set_option maxHeartbeats 1600000 in
theorem compare_any (a b : ByteArray) (w : World) (ha : a.size ≤ 1000) (hb' : b.size ≤ 1000) (hE : Env w) :
    Calls Tryz.prog 25 #[.string a, .string b] w fun e w' => e = .returned (.int .i64 (cmpV a b)) ∧ Below w.heap.size w w' := by
  have HE := Lib.hid hE
  have HX : Hid (cmpV a b = if rankV a ≠ rankV b then Lib.compareInt (rankV a) (rankV b) else if rankV a = 1 then cmpI ((parseO a).getD []) ((parseO b).getD []) else Lib.compareBytes a.data.toList b.data.toList) := Lib.hid rfl
  have ra := rank_bd a
  have rb := rank_bd b
  have la := parse_len a
  have lb := parse_len b
  clear hE
  go_enter Tryz.func25, Tryz.ntmps25
  go_wp2_with fail
  refine (in_any a _ ha HE.out).mono ?_
  rintro e w1 ⟨su, rfl, hu, hb1⟩
  have HU := Lib.hid hu
  clear hu
  go_wp2_with fail
  refine (in_any b _ hb' (HE.out.below hb1)).mono ?_
  rintro e w2 ⟨sv, rfl, hv, hb2⟩
  have HV := Lib.hid hv
  have HU2 := Lib.hid (HU.out.below hb2)
  have HB := Lib.hid (chain0 hb1 hb2)
  clear hv hb1 hb2
  obtain ⟨x, ex⟩ : ∃ x, x = rankV a := ⟨_, rfl⟩
  obtain ⟨y, ey⟩ : ∃ y, y = rankV b := ⟨_, rfl⟩
  rw [← ex] at ra HX ⊢
  rw [← ey] at rb HX ⊢
  clear ex ey
  by_cases hxy : x = y
  · subst hxy
    by_cases h1 : x = 1
    · subst h1
      have HZ : Hid (cmpV a b = cmpI ((parseO a).getD []) ((parseO b).getD [])) := Lib.hid (by rw [HX.out, if_neg (by simp), if_pos rfl])
      clear ra rb HX
      go_wp2_with fail
      refine (scmp_any su sv _ _ _ HU2.out HV.out (by omega) (by omega)).mono ?_
      rintro e w3 ⟨rfl, rfl⟩
      go_wp2
      go_ret
      exact ⟨ret_int HZ.out.symm, HB.out⟩
    · have HZ : Hid (cmpV a b = Lib.compareBytes a.data.toList b.data.toList) := Lib.hid (by rw [HX.out, if_neg (by simp), if_neg h1])
      have hb1 : (x == 1) = false := by rw [beq_eq_false_iff_ne]; exact h1
      clear HX
      go_wp2_with fail
      refine (compare_at a b _).mono ?_
      rintro e w3 ⟨rfl, rfl⟩
      go_wp2
      go_ret
      exact ⟨ret_int HZ.out.symm, HB.out⟩
  · have HZ : Hid (cmpV a b = cmpI [x] [y]) := Lib.hid (by rw [HX.out, if_pos hxy]; rfl)
    have hb1 : (x == y) = false := by rw [beq_eq_false_iff_ne]; exact hxy
    have hb2 : (x != y) = true := by simp [bne, hb1]
    clear HX
    go_wp2_with fail
    refine (two_at _ x y _).mono ?_
    rintro e w3 ⟨rfl, rfl⟩
    go_wp2
    go_ret
    exact ⟨ret_int HZ.out.symm, (HB.out.alloc HB.out.size _).alloc (by have := HB.out.size; simp; omega) _⟩
end Go.Proofs.YtnmcmnllmnpjkaaGreatDoor
