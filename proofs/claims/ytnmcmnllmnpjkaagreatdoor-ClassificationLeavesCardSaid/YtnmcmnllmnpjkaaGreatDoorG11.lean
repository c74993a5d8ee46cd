/- Contracts of Validate, of the program and of the reference: any list of short strings. -/
import Derived.Test.YtnmcmnllmnpjkaaGreatDoorG10
import Derived.Lib.SlicesS
namespace Go.Proofs.YtnmcmnllmnpjkaaGreatDoor
open Go.RowKit Go.Sort Cal Go.Maps
/-- The error at one place of a list, 0 where there is none. -/
def errAt (ss : List ByteArray) (k : Nat) : Int :=
  if parseO (ss.getD k emptyB) = none then 60
  else if 0 < k ∧ 0 ≤ cmpV (ss.getD (k - 1) emptyB) (ss.getD k emptyB) then 62
  else if (parentV (ss.getD k emptyB)).1 ≠ emptyB ∧ inB (ss.take k) (parentV (ss.getD k emptyB)).1 = false then 63
  else 0
/-- The first error among the first places. -/
def errTo (ss : List ByteArray) : Nat → Int
  | 0 => 0
  | k + 1 => if errTo ss k ≠ 0 then errTo ss k else errAt ss k
def validV (ss : List ByteArray) : Int := if ss.length < 1 ∨ 200 < ss.length then 61 else errTo ss ss.length
theorem errTo_stop (ss : List ByteArray) (k : Nat) (h : errTo ss k ≠ 0) : ∀ n, k ≤ n → errTo ss n = errTo ss k := by
  intro n hn
  induction n with
  | zero => rw [show k = 0 by omega]
  | succ n ih =>
    by_cases e : k = n + 1
    · rw [e]
    · have := ih (by omega)
      rw [errTo, if_pos (by rw [this]; exact h), this]
theorem errTo_at (ss : List ByteArray) (k : Nat) (h : errTo ss k = 0) : errTo ss (k + 1) = errAt ss k := by rw [errTo, if_neg (by rw [h]; simp)]
theorem valid_at (ss : List ByteArray) (k : Nat) (h1 : 1 ≤ ss.length) (h2 : ss.length ≤ 200) (hk : k < ss.length) (h : errTo ss k = 0) (he : errAt ss k ≠ 0) : validV ss = errAt ss k := by
  unfold validV
  rw [if_neg (by omega), errTo_stop ss (k + 1) (by rw [errTo_at ss k h]; exact he) _ (by omega), errTo_at ss k h]
theorem errAt_none (ss : List ByteArray) (k : Nat) (h : parseO (ss.getD k emptyB) = none) : errAt ss k = 60 := by unfold errAt; rw [if_pos h]
theorem errAt_order (ss : List ByteArray) (k : Nat) (P : List Int) (h : parseO (ss.getD (k + 1) emptyB) = some P) (hc : 0 ≤ cmpV (ss.getD k emptyB) (ss.getD (k + 1) emptyB)) : errAt ss (k + 1) = 62 := by
  unfold errAt; rw [if_neg (by rw [h]; simp), if_pos ⟨by omega, hc⟩]
theorem errAt_rest (ss : List ByteArray) (k : Nat) (P : List Int) (h : parseO (ss.getD k emptyB) = some P) (hc : k = 0 ∨ cmpV (ss.getD (k - 1) emptyB) (ss.getD k emptyB) < 0) :
    errAt ss k = if (parentV (ss.getD k emptyB)).1 ≠ emptyB ∧ inB (ss.take k) (parentV (ss.getD k emptyB)).1 = false then 63 else 0 := by
  unfold errAt; rw [if_neg (by rw [h]; simp), if_neg (by omega)]
def Short (ss : List ByteArray) : Prop := ∀ k, (ss.getD k emptyB).size ≤ 1000
theorem getD_empty (ss : List ByteArray) (k : Nat) : ss.getD k ByteArray.empty = ss.getD k emptyB := rfl
theorem StrsAt.first {w : World} {b off c : Nat} {zs : List ByteArray} (hl : zs.length ≤ c) (hb : b < w.heap.size) (hc : ∀ j, j < zs.length → w.cell? ⟨b, off + j, none⟩ = some (.string (zs.getD j ByteArray.empty))) (m : Nat) (hm : m ≤ zs.length) : StrsAt w (.slice (some ⟨b, off, none⟩) m c) (zs.take m) := by
  by_cases h0 : m = 0
  · subst h0; exact Or.inl ⟨by simp, _, _, rfl⟩
  have hln : (zs.take m).length = m := by simp; omega
  refine Or.inr ⟨by omega, b, off, c, by rw [hln], by omega, hb, fun j hj => ?_⟩
  rw [hln] at hj
  rw [show (zs.take m).getD j ByteArray.empty = zs.getD j ByteArray.empty from by simp [List.getD, show j < m from by omega]]
  exact hc j (by omega)
theorem contains_inB (ss : List ByteArray) (x : ByteArray) : Lib.containsS ss x = inB ss x := by
  rw [Bool.eq_iff_iff, Lib.containsS_iff]
  exact any_mem.symm
theorem contains_at (sv : Value) (ss : List ByteArray) (x : ByteArray) (w : World) (hv : StrsAt w sv ss) (hl : ss.length ≤ 1000000) :
    Calls Tryz.prog 44 #[sv, .string x] w fun e w' => e = .returned (.bool (inB ss x)) ∧ w = w' := by
  rcases hv with ⟨rfl, pv, cv, rfl⟩ | ⟨v0, bv, ov, cv, rfl, _, bvl, hvc⟩
  · exact (Tryz.slices_Contains_string_empty pv cv x w).mono fun _ _ ⟨a, b⟩ => ⟨a, b.symm⟩
  · refine (Tryz.slices_Contains_string bv ov ss.length cv ss x w (Nat.le_refl _) (by omega) hvc).mono fun _ _ ⟨a, b⟩ => ⟨?_, b.symm⟩
    rw [a, List.take_length, contains_inB]
theorem parent_some {s : ByteArray} {P : List Int} (h : parseO s = some P) : parentV s = ((parentV s).1, true) ∧ (parentV s).1.size ≤ 15 := by
  unfold parentV
  rw [h]
  refine ⟨rfl, ?_⟩
  have h5 := (parseO_some h).1.2.1
  have := codeB_size P.dropLast
  rw [List.length_dropLast] at this
  show (codeB P.dropLast).size ≤ 15
  omega
set_option maxRecDepth 100000 in
set_option maxHeartbeats 3200000 in
theorem validate_any (nm : ByteArray) (sv : Value) (ss : List ByteArray) (w : World) (hv : StrsAt w sv ss) (hl : ss.length ≤ 1000000) (hs : Short ss) (hE : Env w) :
    Calls Tryz.prog 43 #[.agg #[.string nm, sv]] w fun e w' => e = .returned (.int .i64 (validV ss)) ∧ Below w.heap.size w w' := by
  have HE := Lib.hid hE
  clear hE
  rcases hv with ⟨rfl, p, c, rfl⟩ | ⟨h0, b, off, cap, rfl, hcl, hlt, hc⟩
  · have HV : Hid (validV [] = 61) := Lib.hid rfl
    go_enter Tryz.func43, Tryz.ntmps43
    go_wp2
    go_ret
    exact ⟨ret_int HV.out.symm, (Below.refl _ _).alloc (Nat.le_refl _) _⟩
  have HC := Lib.hid hc
  have HS := Lib.hid hs
  have HCL := Lib.hid hcl
  obtain ⟨n, en⟩ : ∃ n, ss.length = n := ⟨_, rfl⟩
  have HN := Lib.hid en
  rw [en] at h0 hl hcl ⊢
  clear hc hs en
  by_cases h200 : 200 < n
  · have HV : Hid (validV ss = 61) := Lib.hid (by unfold validV; rw [if_pos (Or.inr (by rw [HN.out]; exact h200))])
    go_enter Tryz.func43, Tryz.ntmps43
    go_wp2
    go_ret
    exact ⟨ret_int HV.out.symm, (Below.refl _ _).alloc (Nat.le_refl _) _⟩
  have hB0 := Box.new w [.string nm, .slice (some ⟨b, off, none⟩) n cap] 24
  have HB0 := Lib.hid hB0
  clear hB0
  go_enter Tryz.func43, Tryz.ntmps43
  go_wp2_with fail
  go_loopw [20] (fun q wr => ∃ k : Nat, k ≤ n ∧ q = .int .i64 k ∧ errTo ss k = 0 ∧ Box w.heap.size w [.string nm, .slice (some ⟨b, off, none⟩) n cap] wr) (fun q _ => n - (intOf q).toNat)
  case atStart => exact ⟨0, by omega, rfl, rfl, HB0.out⟩
  case round =>
    obtain ⟨k, hk, rfl, ht0, hB⟩ := hrel
    have HT0 := Lib.hid ht0
    have HB := Lib.hid hB
    have cfld := hB.c 1 _ rfl
    clear ht0
    by_cases hlk : k < n
    · have hcell := (hB.bl.cell (p := ⟨b, off + k, none⟩) hlt).trans (HC.out k (by rw [HN.out]; exact hlk))
      rw [getD_empty] at hcell
      have hxs := HS.out k
      have HXE : Hid (ss.getD k emptyB = ss.getD k emptyB) := Lib.hid rfl
      obtain ⟨x, ex⟩ : ∃ x, ss.getD k emptyB = x := ⟨_, rfl⟩
      have HX := Lib.hid ex
      rw [ex] at hcell hxs
      clear HXE ex hB
      cases hp : parseO x with
      | none =>
        have HZ : Hid (validV ss = 60) := Lib.hid (by
          have e60 := errAt_none ss k (by rw [HX.out]; exact hp)
          rw [valid_at ss k (by rw [HN.out]; omega) (by rw [HN.out]; omega) (by rw [HN.out]; omega) HT0.out (by rw [e60]; decide), e60])
        have HP : Hid (parentV x = (emptyB, false)) := Lib.hid (by unfold parentV; rw [hp])
        clear hp
        go_wp2_with fail
        refine (parent_any x _ hxs (HE.out.below HB.out.bl)).mono ?_
        rintro e w2 ⟨rfl, hb2⟩
        rw [HP.out]
        go_wp2
        go_ret
        exact ⟨ret_int HZ.out.symm, (HB.out.step hb2).bl⟩
      | some P =>
        have HPS := Lib.hid hp
        obtain ⟨hpa, hps⟩ := parent_some hp
        have HISS : Hid ((parseO x).isSome = true) := Lib.hid (by rw [hp]; rfl)
        have HERR := fun hcc => errAt_rest ss k P (by rw [HX.out]; exact hp) hcc
        rw [HX.out] at HERR
        obtain ⟨p, ep⟩ : ∃ p, (parentV x).1 = p := ⟨_, rfl⟩
        rw [ep] at hpa hps HERR
        have HPA := Lib.hid hpa
        have HERRH := Lib.hid HERR
        clear hp hpa ep HERR
        by_cases hk0 : k = 0
        · subst hk0
          have HER : Hid (errAt ss 0 = if p ≠ emptyB ∧ inB (ss.take 0) p = false then 63 else 0) := Lib.hid (HERRH.out (Or.inl rfl))
          rw [Nat.add_zero] at hcell
          go_wp2_with fail
          refine (parent_any x _ hxs (HE.out.below HB.out.bl)).mono ?_
          rintro e w2 ⟨rfl, hb2⟩
          rw [HPA.out]
          have HB2 := Lib.hid (HB.out.step hb2)
          have cfld2 := HB2.out.c 1 _ rfl
          clear hb2
          by_cases hp0 : p.size = 0
          · have ep := size_zero hp0
            have HZ : Hid (errTo ss (0 + 1) = 0) := Lib.hid (by rw [errTo_at ss _ HT0.out, HER.out, if_neg (fun h => h.1 ep)])
            subst ep
            clear hp0
            unfold emptyB
            go_wp2
            go_roundw
            case rel => exact ⟨0 + 1, by omega, by go_num, HZ.out, HB2.out⟩
            case measure => simp [intOf]; omega
          · have hpe := empty_no hp0
            have hpn : p ≠ emptyB := fun e => hp0 (by rw [e]; rfl)
            have HPN := Lib.hid hpn
            have HCT := Lib.hid (StrsAt.first (w := w2) (zs := ss) HCL.out (Nat.lt_of_lt_of_le hlt HB2.out.bl.size) (fun j hj => (HB2.out.bl.cell (p := ⟨b, off + j, none⟩) hlt).trans (HC.out j hj)) (0) (by rw [HN.out]; omega))
            clear hp0 hpn
            go_wp2_with fail
            refine (contains_at _ (ss.take (0)) p _ HCT.out (by rw [List.length_take]; omega)).mono ?_
            rintro e wz ⟨rfl, rfl⟩
            cases hin : inB (ss.take (0)) p with
            | true =>
              have HZ : Hid (errTo ss (0 + 1) = 0) := Lib.hid (by rw [errTo_at ss _ HT0.out, HER.out, if_neg (fun h => by rw [hin] at h; cases h.2)])
              clear hin
              go_wp2
              go_roundw
              case rel => exact ⟨0 + 1, by omega, by go_num, HZ.out, HB2.out⟩
              case measure => simp [intOf]; omega
            | false =>
              have HZ : Hid (validV ss = 63) := Lib.hid (by
                have e63 : errAt ss (0) = 63 := by rw [HER.out, if_pos ⟨HPN.out, hin⟩]
                rw [valid_at ss (0) (by rw [HN.out]; omega) (by rw [HN.out]; omega) (by rw [HN.out]; omega) HT0.out (by rw [e63]; decide), e63])
              clear hin
              go_wp2
              go_ret
              exact ⟨ret_int HZ.out.symm, HB2.out.bl⟩
        · obtain ⟨j, rfl⟩ : ∃ j, k = j + 1 := ⟨k - 1, by omega⟩
          have hys := HS.out j
          obtain ⟨y, ey⟩ : ∃ y, ss.getD j emptyB = y := ⟨_, rfl⟩
          have HY := Lib.hid ey
          rw [ey] at hys
          clear ey
          go_wp2_with fail
          refine (parent_any x _ hxs (HE.out.below HB.out.bl)).mono ?_
          rintro e w2 ⟨rfl, hb2⟩
          rw [HPA.out]
          have HB2 := Lib.hid (HB.out.step hb2)
          have cfld2 := HB2.out.c 1 _ rfl
          have hcp2 := (HB2.out.bl.cell (p := ⟨b, off + j, none⟩) hlt).trans (HC.out j (by rw [HN.out]; omega))
          rw [getD_empty, HY.out] at hcp2
          clear hb2
          go_wp2_with fail
          refine (compare_any y x _ hys hxs (HE.out.below HB2.out.bl)).mono ?_
          rintro e w3 ⟨rfl, hb3⟩
          have HB3 := Lib.hid (HB2.out.step hb3)
          have cfld3 := HB3.out.c 1 _ rfl
          clear hb3 hcp2
          by_cases hc0 : 0 ≤ cmpV y x
          · have HZ : Hid (validV ss = 62) := Lib.hid (by
              have e62 := errAt_order ss j P (by rw [HX.out]; exact HPS.out) (by rw [HX.out, HY.out]; exact hc0)
              rw [valid_at ss (j + 1) (by rw [HN.out]; omega) (by rw [HN.out]; omega) (by rw [HN.out]; omega) HT0.out (by rw [e62]; decide), e62])
            go_wp2
            go_ret
            exact ⟨ret_int HZ.out.symm, HB3.out.bl⟩
          have HER : Hid (errAt ss (j + 1) = if p ≠ emptyB ∧ inB (ss.take (j + 1)) p = false then 63 else 0) := Lib.hid (HERRH.out (Or.inr (by rw [Nat.add_sub_cancel, HY.out]; omega)))
          by_cases hp0 : p.size = 0
          · have ep := size_zero hp0
            have HZ : Hid (errTo ss (j + 1 + 1) = 0) := Lib.hid (by rw [errTo_at ss _ HT0.out, HER.out, if_neg (fun h => h.1 ep)])
            subst ep
            clear hp0
            unfold emptyB
            go_wp2
            go_roundw
            case rel => exact ⟨j + 1 + 1, by omega, by go_num, HZ.out, HB3.out⟩
            case measure => simp [intOf]; omega
          · have hpe := empty_no hp0
            have hpn : p ≠ emptyB := fun e => hp0 (by rw [e]; rfl)
            have HPN := Lib.hid hpn
            have HCT := Lib.hid (StrsAt.first (w := w3) (zs := ss) HCL.out (Nat.lt_of_lt_of_le hlt HB3.out.bl.size) (fun j hj => (HB3.out.bl.cell (p := ⟨b, off + j, none⟩) hlt).trans (HC.out j hj)) (j + 1) (by rw [HN.out]; omega))
            clear hp0 hpn
            go_wp2_with fail
            refine (contains_at _ (ss.take (j + 1)) p _ HCT.out (by rw [List.length_take]; omega)).mono ?_
            rintro e wz ⟨rfl, rfl⟩
            cases hin : inB (ss.take (j + 1)) p with
            | true =>
              have HZ : Hid (errTo ss (j + 1 + 1) = 0) := Lib.hid (by rw [errTo_at ss _ HT0.out, HER.out, if_neg (fun h => by rw [hin] at h; cases h.2)])
              clear hin
              go_wp2
              go_roundw
              case rel => exact ⟨j + 1 + 1, by omega, by go_num, HZ.out, HB3.out⟩
              case measure => simp [intOf]; omega
            | false =>
              have HZ : Hid (validV ss = 63) := Lib.hid (by
                have e63 : errAt ss (j + 1) = 63 := by rw [HER.out, if_pos ⟨HPN.out, hin⟩]
                rw [valid_at ss (j + 1) (by rw [HN.out]; omega) (by rw [HN.out]; omega) (by rw [HN.out]; omega) HT0.out (by rw [e63]; decide), e63])
              clear hin
              go_wp2
              go_ret
              exact ⟨ret_int HZ.out.symm, HB3.out.bl⟩
    · obtain rfl : k = n := by omega
      have HZ : Hid (validV ss = 0) := Lib.hid (by
        unfold validV
        rw [if_neg (by rw [HN.out]; omega), HN.out]; exact HT0.out)
      go_wp2
      go_ret
      exact ⟨ret_int HZ.out.symm, HB.out.bl⟩
set_option maxRecDepth 100000 in
set_option maxHeartbeats 3200000 in
theorem rvalidate_any (nm : ByteArray) (sv : Value) (ss : List ByteArray) (w : World) (hv : StrsAt w sv ss) (hl : ss.length ≤ 1000000) (hs : Short ss) :
    Calls Tryz.prog 33 #[.agg #[.string nm, sv]] w fun e w' => e = .returned (.int .i64 (validV ss)) ∧ Below w.heap.size w w' := by
  rcases hv with ⟨rfl, p, c, rfl⟩ | ⟨h0, b, off, cap, rfl, hcl, hlt, hc⟩
  · have HV : Hid (validV [] = 61) := Lib.hid rfl
    go_enter Tryz.func33, Tryz.ntmps33
    go_wp2
    go_ret
    exact ⟨ret_int HV.out.symm, (Below.refl _ _).alloc (Nat.le_refl _) _⟩
  have HC := Lib.hid hc
  have HS := Lib.hid hs
  have HCL := Lib.hid hcl
  obtain ⟨n, en⟩ : ∃ n, ss.length = n := ⟨_, rfl⟩
  have HN := Lib.hid en
  rw [en] at h0 hl hcl ⊢
  clear hc hs en
  by_cases h200 : 200 < n
  · have HV : Hid (validV ss = 61) := Lib.hid (by unfold validV; rw [if_pos (Or.inr (by rw [HN.out]; exact h200))])
    go_enter Tryz.func33, Tryz.ntmps33
    go_wp2
    go_ret
    exact ⟨ret_int HV.out.symm, (Below.refl _ _).alloc (Nat.le_refl _) _⟩
  have hB0 := Box.new w [.string nm, .slice (some ⟨b, off, none⟩) n cap] 24
  have HB0 := Lib.hid hB0
  clear hB0
  go_enter Tryz.func33, Tryz.ntmps33
  go_wp2_with fail
  go_loopw [20] (fun q wr => ∃ k : Nat, k ≤ n ∧ q = .int .i64 k ∧ errTo ss k = 0 ∧ Box w.heap.size w [.string nm, .slice (some ⟨b, off, none⟩) n cap] wr) (fun q _ => n - (intOf q).toNat)
  case atStart => exact ⟨0, by omega, rfl, rfl, HB0.out⟩
  case round =>
    obtain ⟨k, hk, rfl, ht0, hB⟩ := hrel
    have HT0 := Lib.hid ht0
    have HB := Lib.hid hB
    have cfld := hB.c 1 _ rfl
    clear ht0
    by_cases hlk : k < n
    · have hcell := (hB.bl.cell (p := ⟨b, off + k, none⟩) hlt).trans (HC.out k (by rw [HN.out]; exact hlk))
      rw [getD_empty] at hcell
      have hxs := HS.out k
      have HXE : Hid (ss.getD k emptyB = ss.getD k emptyB) := Lib.hid rfl
      obtain ⟨x, ex⟩ : ∃ x, ss.getD k emptyB = x := ⟨_, rfl⟩
      have HX := Lib.hid ex
      rw [ex] at hcell hxs
      clear HXE ex hB
      cases hp : parseO x with
      | none =>
        have HZ : Hid (validV ss = 60) := Lib.hid (by
          have e60 := errAt_none ss k (by rw [HX.out]; exact hp)
          rw [valid_at ss k (by rw [HN.out]; omega) (by rw [HN.out]; omega) (by rw [HN.out]; omega) HT0.out (by rw [e60]; decide), e60])
        have HP : Hid ((parseO x).isSome = false) := Lib.hid (by rw [hp]; rfl)
        clear hp
        go_wp2_with fail
        refine (ris_any x _ hxs).mono ?_
        rintro e w2 ⟨rfl, hb2⟩
        rw [HP.out]
        go_wp2
        go_ret
        exact ⟨ret_int HZ.out.symm, (HB.out.step hb2).bl⟩
      | some P =>
        have HPS := Lib.hid hp
        obtain ⟨hpa, hps⟩ := parent_some hp
        have HISS : Hid ((parseO x).isSome = true) := Lib.hid (by rw [hp]; rfl)
        have HERR := fun hcc => errAt_rest ss k P (by rw [HX.out]; exact hp) hcc
        rw [HX.out] at HERR
        obtain ⟨p, ep⟩ : ∃ p, (parentV x).1 = p := ⟨_, rfl⟩
        rw [ep] at hpa hps HERR
        have HPA := Lib.hid hpa
        have HERRH := Lib.hid HERR
        clear hp hpa ep HERR
        by_cases hk0 : k = 0
        · subst hk0
          have HER : Hid (errAt ss 0 = if p ≠ emptyB ∧ inB (ss.take 0) p = false then 63 else 0) := Lib.hid (HERRH.out (Or.inl rfl))
          rw [Nat.add_zero] at hcell
          go_wp2_with fail
          refine (ris_any x _ hxs).mono ?_
          rintro e w2 ⟨rfl, hb2⟩
          rw [HISS.out]
          have HB2 := Lib.hid (HB.out.step hb2)
          have cfld2 := HB2.out.c 1 _ rfl
          clear hb2
          go_wp2_with fail
          refine (rparent_any x _ hxs).mono ?_
          rintro e w9 ⟨rfl, hb9⟩
          rw [HPA.out]
          have HB9 := Lib.hid (HB2.out.step hb9)
          have cfld9 := HB9.out.c 1 _ rfl
          clear hb9
          by_cases hp0 : p.size = 0
          · have ep := size_zero hp0
            have HZ : Hid (errTo ss (0 + 1) = 0) := Lib.hid (by rw [errTo_at ss _ HT0.out, HER.out, if_neg (fun h => h.1 ep)])
            subst ep
            clear hp0
            unfold emptyB
            go_wp2
            go_roundw
            case rel => exact ⟨0 + 1, by omega, by go_num, HZ.out, HB9.out⟩
            case measure => simp [intOf]; omega
          · have hpe := empty_no hp0
            have hpn : p ≠ emptyB := fun e => hp0 (by rw [e]; rfl)
            have HPN := Lib.hid hpn
            have HCT := Lib.hid (StrsAt.first (w := w9) (zs := ss) HCL.out (Nat.lt_of_lt_of_le hlt HB9.out.bl.size) (fun j hj => (HB9.out.bl.cell (p := ⟨b, off + j, none⟩) hlt).trans (HC.out j hj)) (0) (by rw [HN.out]; omega))
            clear hp0 hpn
            go_wp2_with fail
            refine (has_any _ (ss.take (0)) p _ HCT.out (by rw [List.length_take]; omega)).mono ?_
            rintro e wz ⟨rfl, rfl⟩
            cases hin : inB (ss.take (0)) p with
            | true =>
              have HZ : Hid (errTo ss (0 + 1) = 0) := Lib.hid (by rw [errTo_at ss _ HT0.out, HER.out, if_neg (fun h => by rw [hin] at h; cases h.2)])
              clear hin
              go_wp2
              go_roundw
              case rel => exact ⟨0 + 1, by omega, by go_num, HZ.out, HB9.out⟩
              case measure => simp [intOf]; omega
            | false =>
              have HZ : Hid (validV ss = 63) := Lib.hid (by
                have e63 : errAt ss (0) = 63 := by rw [HER.out, if_pos ⟨HPN.out, hin⟩]
                rw [valid_at ss (0) (by rw [HN.out]; omega) (by rw [HN.out]; omega) (by rw [HN.out]; omega) HT0.out (by rw [e63]; decide), e63])
              clear hin
              go_wp2
              go_ret
              exact ⟨ret_int HZ.out.symm, HB9.out.bl⟩
        · obtain ⟨j, rfl⟩ : ∃ j, k = j + 1 := ⟨k - 1, by omega⟩
          have hys := HS.out j
          obtain ⟨y, ey⟩ : ∃ y, ss.getD j emptyB = y := ⟨_, rfl⟩
          have HY := Lib.hid ey
          rw [ey] at hys
          clear ey
          go_wp2_with fail
          refine (ris_any x _ hxs).mono ?_
          rintro e w2 ⟨rfl, hb2⟩
          rw [HISS.out]
          have HB2 := Lib.hid (HB.out.step hb2)
          have cfld2 := HB2.out.c 1 _ rfl
          have hcp2 := (HB2.out.bl.cell (p := ⟨b, off + j, none⟩) hlt).trans (HC.out j (by rw [HN.out]; omega))
          rw [getD_empty, HY.out] at hcp2
          clear hb2
          go_wp2_with fail
          refine (rcompare_any y x _ hys hxs).mono ?_
          rintro e w3 ⟨rfl, hb3⟩
          have HB3 := Lib.hid (HB2.out.step hb3)
          have cfld3 := HB3.out.c 1 _ rfl
          clear hb3 hcp2
          by_cases hc0 : 0 ≤ cmpV y x
          · have HZ : Hid (validV ss = 62) := Lib.hid (by
              have e62 := errAt_order ss j P (by rw [HX.out]; exact HPS.out) (by rw [HX.out, HY.out]; exact hc0)
              rw [valid_at ss (j + 1) (by rw [HN.out]; omega) (by rw [HN.out]; omega) (by rw [HN.out]; omega) HT0.out (by rw [e62]; decide), e62])
            go_wp2
            go_ret
            exact ⟨ret_int HZ.out.symm, HB3.out.bl⟩
          have HER : Hid (errAt ss (j + 1) = if p ≠ emptyB ∧ inB (ss.take (j + 1)) p = false then 63 else 0) := Lib.hid (HERRH.out (Or.inr (by rw [Nat.add_sub_cancel, HY.out]; omega)))
          go_wp2_with fail
          refine (rparent_any x _ hxs).mono ?_
          rintro e w9 ⟨rfl, hb9⟩
          rw [HPA.out]
          have HB9 := Lib.hid (HB3.out.step hb9)
          have cfld9 := HB9.out.c 1 _ rfl
          clear hb9
          by_cases hp0 : p.size = 0
          · have ep := size_zero hp0
            have HZ : Hid (errTo ss (j + 1 + 1) = 0) := Lib.hid (by rw [errTo_at ss _ HT0.out, HER.out, if_neg (fun h => h.1 ep)])
            subst ep
            clear hp0
            unfold emptyB
            go_wp2
            go_roundw
            case rel => exact ⟨j + 1 + 1, by omega, by go_num, HZ.out, HB9.out⟩
            case measure => simp [intOf]; omega
          · have hpe := empty_no hp0
            have hpn : p ≠ emptyB := fun e => hp0 (by rw [e]; rfl)
            have HPN := Lib.hid hpn
            have HCT := Lib.hid (StrsAt.first (w := w9) (zs := ss) HCL.out (Nat.lt_of_lt_of_le hlt HB9.out.bl.size) (fun j hj => (HB9.out.bl.cell (p := ⟨b, off + j, none⟩) hlt).trans (HC.out j hj)) (j + 1) (by rw [HN.out]; omega))
            clear hp0 hpn
            go_wp2_with fail
            refine (has_any _ (ss.take (j + 1)) p _ HCT.out (by rw [List.length_take]; omega)).mono ?_
            rintro e wz ⟨rfl, rfl⟩
            cases hin : inB (ss.take (j + 1)) p with
            | true =>
              have HZ : Hid (errTo ss (j + 1 + 1) = 0) := Lib.hid (by rw [errTo_at ss _ HT0.out, HER.out, if_neg (fun h => by rw [hin] at h; cases h.2)])
              clear hin
              go_wp2
              go_roundw
              case rel => exact ⟨j + 1 + 1, by omega, by go_num, HZ.out, HB9.out⟩
              case measure => simp [intOf]; omega
            | false =>
              have HZ : Hid (validV ss = 63) := Lib.hid (by
                have e63 : errAt ss (j + 1) = 63 := by rw [HER.out, if_pos ⟨HPN.out, hin⟩]
                rw [valid_at ss (j + 1) (by rw [HN.out]; omega) (by rw [HN.out]; omega) (by rw [HN.out]; omega) HT0.out (by rw [e63]; decide), e63])
              clear hin
              go_wp2
              go_ret
              exact ⟨ret_int HZ.out.symm, HB9.out.bl⟩
    · obtain rfl : k = n := by omega
      have HZ : Hid (validV ss = 0) := Lib.hid (by
        unfold validV
        rw [if_neg (by rw [HN.out]; omega), HN.out]; exact HT0.out)
      go_wp2
      go_ret
      exact ⟨ret_int HZ.out.symm, HB.out.bl⟩
end Go.Proofs.YtnmcmnllmnpjkaaGreatDoor
