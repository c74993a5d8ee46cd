/- Contracts of the reference's Level, Path, Parent and SameStrings: any short strings. -/
import Derived.Test.YtnmcmnllmnpjkaaGreatDoorB2
namespace Go.Proofs.YtnmcmnllmnpjkaaGreatDoor
open Go.RowKit Go.Sort Cal Go.Maps
/-- A slice of strings, wherever it lies. -/
def StrsAt (w : World) (sv : Value) (ss : List ByteArray) : Prop :=
  (ss = [] ∧ ∃ p c, sv = .slice p 0 c) ∨
  (0 < ss.length ∧ ∃ b off cap, sv = .slice (some ⟨b, off, none⟩) ss.length cap ∧ ss.length ≤ cap ∧ b < w.heap.size ∧ ∀ j, j < ss.length → w.cell? ⟨b, off + j, none⟩ = some (.string (ss.getD j ByteArray.empty)))
theorem StrsAt.below {w w' : World} {sv : Value} {ss : List ByteArray} (h : StrsAt w sv ss) (hb : Below w.heap.size w w') : StrsAt w' sv ss := by
  rcases h with h | ⟨h0, b, off, cap, e, hl, hlt, hc⟩
  · exact Or.inl h
  · exact Or.inr ⟨h0, b, off, cap, e, hl, Nat.lt_of_lt_of_le hlt hb.size, fun j hj => (hb.cell (p := ⟨b, off + j, none⟩) hlt).trans (hc j hj)⟩
theorem strs_of_own {w : World} {base n : Nat} {v : Value} {xs : List ByteArray} (h : w.ownsRow base 9 1 v n (xs.map Value.string)) (hn : n = xs.length) : StrsAt w v xs := by
  subst hn
  by_cases h0 : 0 < xs.length
  · obtain ⟨g, cap, rfl, _, hlt⟩ := World.ownsRow.form h h0
    refine Or.inr ⟨h0, g, 0, cap, rfl, own_cap h, hlt, fun j hj => ?_⟩
    have := h.cellAt j (by omega)
    rw [Nat.zero_add, this]
    simp [List.getD, hj]
  · have e : xs = [] := List.eq_nil_of_length_eq_zero (by omega)
    subst e
    obtain ⟨p, c, rfl⟩ := own_form h
    exact Or.inl ⟨rfl, p, c, rfl⟩
set_option maxRecDepth 100000 in
theorem same_strings (su sv : Value) (zs : List ByteArray) (w : World) (hu : StrsAt w su zs) (hv : StrsAt w sv zs) (hl : zs.length ≤ 1000000) :
    Calls Tryz.prog 7 #[su, sv] w fun e w' => e = .returned (.bool true) ∧ Below w.heap.size w w' := by
  rcases hu with ⟨rfl, pu, cu, rfl⟩ | ⟨u0, bu, ou, cu, rfl, _, bul, huc⟩
  · rcases hv with ⟨_, pv, cv, rfl⟩ | ⟨v0, _⟩
    · go_enter Tryz.func7, Tryz.ntmps7
      go_wp2_with fail
      go_rounds 1
      go_ret
      exact ⟨rfl, Below.refl _ _⟩
    · simp at v0
  rcases hv with ⟨e, _⟩ | ⟨v0, bv, ov, cv, rfl, _, bvl, hvc⟩
  · rw [e] at u0; simp at u0
  have HU := Lib.hid huc
  have HV := Lib.hid hvc
  clear huc hvc
  go_enter Tryz.func7, Tryz.ntmps7
  go_wp2_with fail
  go_loopw [13] (fun q wr => ∃ k : Nat, k ≤ zs.length ∧ q = .int .i64 k ∧ Below w.heap.size w wr) (fun q _ => zs.length - (intOf q).toNat)
  case atStart => exact ⟨0, by omega, rfl, Below.refl _ _⟩
  case round =>
    obtain ⟨k, hk, rfl, hbr⟩ := hrel
    by_cases hlt : k < zs.length
    · have cu := (hbr.cell (p := ⟨bu, ou + k, none⟩) bul).trans (HU.out k hlt)
      have cv := (hbr.cell (p := ⟨bv, ov + k, none⟩) bvl).trans (HV.out k hlt)
      have HB := Lib.hid hbr
      clear hbr
      obtain ⟨x, ex⟩ : ∃ x, x = zs.getD k ByteArray.empty := ⟨_, rfl⟩
      rw [← ex] at cu cv
      clear ex
      go_wp2_with fail
      go_quiet (fail)
      go_wp2
      go_roundw
      case rel => exact ⟨k + 1, by omega, by go_num, below_drewN HB.out _⟩
      case measure => simp [intOf]; omega
    · go_wp2
      go_ret
      exact ⟨rfl, hbr⟩
set_option maxHeartbeats 800000 in
theorem rlevel_any (s : ByteArray) (w : World) (hs : s.size ≤ 1000) :
    Calls Tryz.prog 36 #[.string s] w fun e w' => e = .returned (.int .i64 (levelV s)) ∧ Below w.heap.size w w' := by
  cases hp : parseO s with
  | some P =>
    have HP := Lib.hid hp
    have HL : Hid (levelV s = P.length) := Lib.hid (by unfold levelV partsO; rw [if_neg (size_code hp), hp])
    clear hp
    go_enter Tryz.func36, Tryz.ntmps36
    go_wp2_with fail
    refine (rparse_yes s P _ hs HP.out).mono ?_
    rintro e w1 ⟨sv, rfl, hown, hb⟩
    obtain ⟨p, c, rfl⟩ := own_form hown
    clear hown
    go_wp2
    go_ret
    exact ⟨by rw [HL.out]; rfl, hb⟩
  | none =>
    have HP := Lib.hid hp
    by_cases h0 : s.size = 0
    · have HL : Hid (levelV s = 0) := Lib.hid (by unfold levelV partsO; rw [if_pos h0]; rfl)
      have e := size_zero h0
      subst e
      clear hp h0
      go_enter Tryz.func36, Tryz.ntmps36
      go_wp2_with fail
      refine (rparse_no emptyB _ hs HP.out).mono ?_
      rintro e w1 ⟨rfl, hb⟩
      unfold emptyB
      go_wp2
      go_ret
      exact ⟨by rw [HL.out]; rfl, hb⟩
    · have HL : Hid (levelV s = -1) := Lib.hid (by unfold levelV partsO; rw [if_neg h0, hp])
      have hne := empty_no h0
      clear hp h0
      go_enter Tryz.func36, Tryz.ntmps36
      go_wp2_with fail
      refine (rparse_no s _ hs HP.out).mono ?_
      rintro e w1 ⟨rfl, hb⟩
      go_wp2
      go_ret
      exact ⟨by rw [HL.out]; rfl, hb⟩
theorem IntsAt.first {w : World} {b off c : Nat} {zs : List Int} (hl : zs.length ≤ c) (hb : b < w.heap.size) (hc : ∀ j, j < zs.length → w.cell? ⟨b, off + j, none⟩ = some (.int .i64 (zs.getD j 0))) (m : Nat) (h0 : 0 < m) (hm : m ≤ zs.length) : IntsAt w (.slice (some ⟨b, off, none⟩) m c) (zs.take m) := by
  have hln : (zs.take m).length = m := by simp; omega
  refine Or.inr ⟨by omega, b, off, c, by rw [hln], by omega, hb, fun j hj => ?_⟩
  rw [hln] at hj
  rw [show (zs.take m).getD j 0 = zs.getD j 0 from by simp [List.getD, show j < m from by omega]]
  exact hc j (by omega)
theorem upsL_succ (P : List Int) (k : Nat) (h : k < P.length) : (upsL P).take (k + 1) = (upsL P).take k ++ [codeB (P.take (k + 1))] := by
  have hl : k < (upsL P).length := by simp [upsL]; exact h
  rw [List.take_succ_eq_append_getElem hl]
  simp [upsL]
set_option maxRecDepth 100000 in
set_option maxHeartbeats 1600000 in
theorem rpath_any (s : ByteArray) (w : World) (hs : s.size ≤ 1000) :
    Calls Tryz.prog 32 #[.string s] w (PathPost s w) := by
  cases hp : parseO s with
  | none =>
    have HP := Lib.hid hp
    have HV : Hid (pathV s = []) := Lib.hid (by unfold pathV; rw [hp])
    clear hp
    go_enter Tryz.func32, Tryz.ntmps32
    go_wp2_with fail
    refine (rparse_no s _ hs HP.out).mono ?_
    rintro e w1 ⟨rfl, hb⟩
    go_wp2
    go_ret
    exact ⟨_, rfl, by rw [HV.out]; exact World.ownsRow_nil _ _ _ _, hb⟩
  | some P =>
    have HP := Lib.hid hp
    have HV : Hid (pathV s = upsL P) := Lib.hid (by unfold pathV; rw [hp])
    have HO := Lib.hid (parseO_some hp).1
    have hP1 := (parseO_some hp).1.1
    have hP5 := (parseO_some hp).1.2.1
    obtain ⟨i0, hi0, hz0, hz1, hz2⟩ := info_parts info9p
    obtain ⟨n, hn⟩ : ∃ n, n = P.length := ⟨_, rfl⟩
    have HN := Lib.hid hn
    rw [← hn] at hP1 hP5
    clear hp hn
    go_enter Tryz.func32, Tryz.ntmps32
    go_wp2_with fail
    refine (rparse_yes s P _ hs HP.out).mono ?_
    rintro e w1 ⟨sv, rfl, hown, hb⟩
    have hI := ints_of_own hown rfl
    rw [← HN.out] at hown
    obtain ⟨g, cp, rfl, _, hg⟩ := World.ownsRow.form hown (by omega)
    have hncp := own_cap hown
    have hcell : ∀ j, j < P.length → w1.cell? ⟨g, 0 + j, none⟩ = some (.int .i64 (P.getD j 0)) := fun j hj => by
      have := hown.cellAt j (by rw [HN.out]; omega)
      rw [Nat.zero_add, this]
      simp [List.getD, hj]
    have HCELL := Lib.hid hcell
    clear hown hI hcell
    go_wp2_with fail
    go_loopw [5, 18] (fun v q wr => ∃ k : Nat, k ≤ n ∧ q = .int .i64 k ∧ wr.ownsRow w1.heap.size 9 1 v k (((upsL P).take k).map Value.string) ∧ Below w1.heap.size w1 wr) (fun _ q _ => n - (intOf q).toNat)
    case atStart => exact ⟨0, by omega, rfl, World.ownsRow_nil _ _ _ _, Below.refl _ _⟩
    case round =>
      obtain ⟨k, hk, rfl, hown, hbr⟩ := hrel
      by_cases hlt : k < n
      · have HI := Lib.hid (IntsAt.first (zs := P) (b := g) (off := 0) (c := cp) (w := wr) (by rw [← HN.out]; exact hncp) (Nat.lt_of_lt_of_le hg hbr.size) (fun j hj => (hbr.cell (p := ⟨g, 0 + j, none⟩) hg).trans (HCELL.out j hj)) (k + 1) (by omega) (by rw [← HN.out]; omega))
        have HF : Hid (FormatV (P.take (k + 1)) = .tuple #[.string (codeB (P.take (k + 1))), .int .i64 0]) := Lib.hid (by
          unfold FormatV; rw [if_pos (okP_take HO.out (k + 1) (by omega))])
        have HU := Lib.hid (upsL_succ P k (by rw [← HN.out]; exact hlt))
        have HLE : Hid ((P.take (k + 1)).length ≤ 9223372036854775807) := Lib.hid (by rw [List.length_take]; omega)
        obtain ⟨t, ht⟩ : ∃ t, t = codeB (P.take (k + 1)) := ⟨_, rfl⟩
        rw [← ht] at HF HU
        clear ht
        go_wp2_with fail
        refine (rformat_any _ (P.take (k + 1)) _ HI.out HLE.out).mono ?_
        rintro e w2 ⟨rfl, hb2⟩
        rw [HF.out]
        have hown1 := ownsRow_below hown hb2
        have hs2 := hb2.size
        have hsr := hbr.size
        go_wp2_with (first
          | (at_builtin; refine wpList_append_own _ rfl _ _ 22 rfl w1.heap.size 9 i0 (.string ⟨#[]⟩) 1 16 Tryz.underlying22 hi0 hz0 hz1 hz2 rfl (by decide) _ _ _ rfl (hown1.alloc _) ⟨w2.heap.size, 0, none⟩ 1 1 [.string t] rfl rfl (cell_one_new _ _ _) (by simp [Value.oneCell']) (by unfold maxLen; omega) (by omega) (by simp; omega) ?_)
          | fail)
        intro v' w3 hown2 hgrow _
        have HN3 : Hid (w3.ownsRow w1.heap.size 9 1 v' (k + 1) (((upsL P).take (k + 1)).map Value.string)) := Lib.hid (by
          rw [HU.out, List.map_append, List.map_take]; exact hown2)
        have HB3 : Hid (Below w1.heap.size w1 w3) := Lib.hid (((hbr.trans (hb2.mono hbr.size)).alloc (by omega) _).grown hgrow (by simp; omega) (fun j hj => (hown1.lt j hj).1))
        clear hown2 hgrow hown hown1 hbr hb2
        go_wp2
        go_roundw
        case rel => exact ⟨k + 1, by omega, by go_num, HN3.out, HB3.out⟩
        case measure => simp [intOf]; omega
      · obtain rfl : k = n := by omega
        have HT : Hid ((upsL P).take k = upsL P) := Lib.hid (List.take_of_length_le (by rw [HN.out]; simp [upsL]))
        have HL : Hid ((upsL P).length = k) := Lib.hid (by rw [HN.out]; simp [upsL])
        have HOWN := Lib.hid hown
        clear hown
        go_wp2
        go_ret
        refine ⟨_, rfl, ?_, chain0 hb hbr⟩
        rw [HV.out, HL.out]
        have h := HOWN.out
        rw [HT.out] at h
        exact own_base h hb.size
theorem parent_ups {s : ByteArray} {P : List Int} (h : parseO s = some P) : pathV s = upsL P ∧ (upsL P).length = P.length ∧ parentV s = (codeB (P.take (P.length - 1)), true) := by
  refine ⟨by unfold pathV; rw [h], by simp [upsL], ?_⟩
  unfold parentV; rw [h, ← List.dropLast_eq_take]
set_option maxHeartbeats 800000 in
theorem rparent_any (s : ByteArray) (w : World) (hs : s.size ≤ 1000) :
    Calls Tryz.prog 20 #[.string s] w fun e w' => e = .returned (.tuple #[.string (parentV s).1, .bool (parentV s).2]) ∧ Below w.heap.size w w' := by
  cases hp : parseO s with
  | none =>
    have HV : Hid (pathV s = []) := Lib.hid (by unfold pathV; rw [hp])
    have HP : Hid (parentV s = (emptyB, false)) := Lib.hid (by unfold parentV; rw [hp])
    clear hp
    go_enter Tryz.func20, Tryz.ntmps20
    go_wp2_with fail
    refine (rpath_any s _ hs).mono ?_
    rintro e w1 ⟨sv, rfl, hown, hb⟩
    rw [HV.out] at hown
    obtain ⟨p, c, rfl⟩ := own_form hown
    clear hown
    go_wp2
    go_ret2
    exact ⟨by rw [HP.out]; rfl, hb⟩
  | some P =>
    obtain ⟨hv, hl, hpa⟩ := parent_ups hp
    have HV := Lib.hid hv
    have HP := Lib.hid hpa
    obtain ⟨m, hm⟩ : ∃ m, P.length = m + 1 := ⟨P.length - 1, by have := (parseO_some hp).1.1; omega⟩
    have HL : Hid ((upsL P).length = m + 1) := Lib.hid (by rw [hl, hm])
    have HM := Lib.hid hm
    have hm4 : m ≤ 4 := by have := (parseO_some hp).1.2.1; omega
    clear hp hv hl hpa hm
    go_enter Tryz.func20, Tryz.ntmps20
    go_wp2_with fail
    refine (rpath_any s _ hs).mono ?_
    rintro e w1 ⟨sv, rfl, hown, hb⟩
    rw [HV.out, HL.out] at hown
    obtain ⟨g, cp, rfl, _, _⟩ := World.ownsRow.form hown (by omega)
    by_cases hm0 : m = 0
    · subst hm0
      clear hown
      go_wp2
      go_ret2
      exact ⟨by rw [HP.out, HM.out]; rfl, hb⟩
    · obtain ⟨j, rfl⟩ : ∃ j, m = j + 1 := ⟨m - 1, by omega⟩
      have hc : w1.cell? ⟨g, j, none⟩ = some (.string (codeB (P.take (j + 1)))) := by
        have h := hown.cellAt j (by omega)
        have h2 : ((upsL P).map Value.string)[j]? = some (.string (codeB (P.take (j + 1)))) := by
          unfold upsL
          rw [List.getElem?_map, List.getElem?_map, List.getElem?_range (by rw [HM.out]; omega)]
          rfl
        rw [h, h2]
      have HX : Hid (codeB (P.take (P.length - 1)) = codeB (P.take (j + 1))) := Lib.hid (by rw [HM.out]; rfl)
      generalize codeB (P.take (j + 1)) = t at *
      clear hown
      go_wp2
      go_ret2
      exact ⟨by rw [HP.out, HX.out]; rfl, hb⟩
end Go.Proofs.YtnmcmnllmnpjkaaGreatDoor
