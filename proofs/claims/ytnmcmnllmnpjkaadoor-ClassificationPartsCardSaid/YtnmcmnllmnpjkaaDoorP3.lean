/- The walk of ClassificationParts. -/
import Derived.Test.YtnmcmnllmnpjkaaDoorB2
namespace Go.Proofs.YtnmcmnllmnpjkaaDoor
open Go.RowKit Go.Sort Cal Go.Maps
theorem inP_nil : inP [] := fun x hx => by cases hx
theorem upsL_len (P : List Int) : (upsL P).length = P.length := by simp [upsL]
theorem upsL_at (P : List Int) (j : Nat) (h : j < P.length) : ((upsL P).map Value.string)[j]? = some (.string (codeB (P.take (j + 1)))) := by
  unfold upsL
  rw [List.getElem?_map, List.getElem?_map, List.getElem?_range h]
  rfl
set_option maxRecDepth 100000 in
set_option maxHeartbeats 3200000 in
theorem parts_walk (w : World) (q1 : Option Addr) (n1 c1 : Nat) (zs1 : List Int) (_e1 : n1 = zs1.length) (_h1 : n1 ≤ c1) (_hm1 : c1 ≤ maxLen) (hz1 : IntsAt w (.slice q1 n1 c1) zs1) (hf1 : Fits zs1) (hE : Env w) :
    Calls Tryd.prog 5 #[.slice q1 n1 c1] w fun e w' => e = .returned (.bool true) ∧ Below w.heap.size w w' := by
  have HE := Lib.hid hE
  have HT := Lib.hid (tape_new hz1 hf1)
  obtain ⟨i0, hi0, hz0, hz1', hz2⟩ := info_parts info3p
  clear hE hz1 hf1 _e1
  go_enter Tryd.func5, Tryd.ntmps5
  go_wp2_with fail
  refine (next_some w.heap.size (.slice q1 n1 c1) zs1 0 5 _ HT.out (by omega) (by omega) (by omega)).mono ?_
  rintro e w2 ⟨n, hn0, hn1, rfl, hT2, ht2⟩
  have HT2 := Lib.hid hT2
  have HK2 := Lib.hid ht2
  clear hT2 ht2
  go_wp2_with fail
  go_loopw [4, 18] (fun v q wr => ∃ (k : Nat) (xs : List Int), (k : Int) ≤ 1 + n ∧ q = .int .i64 k ∧ xs.length = k ∧ inP xs ∧ wr.ownsRow (w.heap.size + 1) 3 1 v k (xs.map (Value.int .i64)) ∧ TapeAt w.heap.size (.slice q1 n1 c1) zs1 (1 + k) wr ∧ Touch w.heap.size (w.alloc (.cells #[.slice q1 n1 c1, .int .i64 0] 26)) wr) (fun _ q _ => (1 + n).toNat - (intOf q).toNat)
  case atStart => exact ⟨0, [], by omega, rfl, rfl, inP_nil, World.ownsRow_nil _ _ _ _, HT2.out, HK2.out⟩
  case round =>
    obtain ⟨k, xs, hk, rfl, hxl, hin, hown, hTr, hTo⟩ := hrel
    have HXL := Lib.hid hxl
    have HIN := Lib.hid hin
    have HTR := Lib.hid hTr
    have HTO := Lib.hid hTo
    have hsr := hTo.size
    rw [World.size_alloc] at hsr
    clear hxl hin hTr hTo
    by_cases hlt : (k : Int) < 1 + n
    · go_wp2_with fail
      refine (next_some w.heap.size (.slice q1 n1 c1) zs1 (1 + k) 99 _ HTR.out (by omega) (by omega) (by omega)).mono ?_
      rintro e w3 ⟨x, hx0, hx1, rfl, hT3, ht3⟩
      have hown1 := ownsRow_touch hown ht3 (by omega)
      have HT3 := Lib.hid hT3
      have HK3 := Lib.hid (HTO.out.trans ht3)
      have hs3 := ht3.size
      clear hT3 ht3 hown
      go_wp2_with (first
        | (at_builtin; refine wpList_append_own _ rfl _ _ 22 rfl (w.heap.size + 1) 3 i0 (.int .i64 0) 1 8 Tryd.underlying22 hi0 hz0 hz1' hz2 rfl (by decide) _ _ _ rfl (hown1.alloc _) ⟨w3.heap.size, 0, none⟩ 1 1 [.int .i64 (1 + x)] rfl rfl (cell_one_new _ _ _) (by simp [Value.oneCell']) (by unfold maxLen; omega) (by omega) (by simp; omega) ?_)
        | fail)
      intro v' w4 hown2 hgrow _
      have hown3 : w4.ownsRow (w.heap.size + 1) 3 1 v' (k + 1) ((xs ++ [1 + x]).map (Value.int .i64)) := by rw [List.map_append]; exact hown2
      have hlo := fun j hj => (hown1.lt j hj).1
      have hTo4 : Touch w.heap.size (w.alloc (.cells #[.slice q1 n1 c1, .int .i64 0] 26)) w4 := (HK3.out.trans (Touch.of_below ((Below.refl _ _).alloc (Nat.le_refl _) _))).grown hgrow (fun j hj => by have := hlo j hj; simp; omega)
      have hTa4 : TapeAt w.heap.size (.slice q1 n1 c1) zs1 (1 + (k + 1)) w4 := (HT3.out.below ((Below.refl _ _).alloc (Nat.le_refl _) _)).keep (fun j hj => hgrow.block j (by have := HT3.out.lt; simp; omega) (fun e => by have := hlo j e.symm; omega))
      have HIN2 : Hid (inP (xs ++ [1 + x])) := Lib.hid (by
        intro y hy
        rcases List.mem_append.1 hy with h | h
        · exact HIN.out y h
        · rw [List.mem_singleton.1 h]; omega)
      have HH := Lib.hid (And.intro hown3 (And.intro hTo4 hTa4))
      clear hown2 hgrow hown3 hTo4 hTa4 hlo hown1
      go_wp2
      go_roundw
      case rel => exact ⟨k + 1, xs ++ [1 + x], by omega, by go_num, by simp [HXL.out], HIN2.out, HH.out.1, HH.out.2.2, HH.out.2.1⟩
      case measure => simp [intOf]; omega
    · obtain ⟨m, rfl⟩ : ∃ m, k = m + 1 := ⟨k - 1, by omega⟩
      have hm4 : m ≤ 4 := by omega
      obtain ⟨g, cp, rfl, _, _⟩ := World.ownsRow.form hown (by omega)
      have ho : okP xs := ⟨by rw [HXL.out]; omega, by rw [HXL.out]; omega, HIN.out⟩
      have HO := Lib.hid ho
      have HI := Lib.hid (ints_of_own hown HXL.out.symm)
      have HB0 : Hid (Below w.heap.size w wr) := Lib.hid (((Below.refl _ _).alloc (Nat.le_refl _) _).trans (HTO.out.below (by simp)))
      obtain ⟨s, hs⟩ : ∃ s, s = codeB xs := ⟨_, rfl⟩
      have HS := Lib.hid hs
      have hsz : s.size ≤ 15 := by rw [hs]; have := codeB_size xs; rw [HXL.out] at this; omega
      have HP : Hid (parseO s = some xs) := Lib.hid (by rw [hs]; exact parseO_code xs ho)
      have HL : Hid (levelV s = ((m + 1 : Nat) : Int)) := Lib.hid (by rw [hs]; unfold levelV; rw [partsO_code ho]; show ((xs.length : Nat) : Int) = _; rw [HXL.out])
      have HV : Hid (pathV s = upsL xs) := Lib.hid (by rw [hs]; unfold pathV; rw [parseO_code xs ho])
      have HPA : Hid (parentV s = (codeB (xs.take m), true)) := Lib.hid (by
        rw [hs]; unfold parentV; rw [parseO_code xs ho]
        show (codeB xs.dropLast, true) = _
        rw [List.dropLast_eq_take, HXL.out]; rfl)
      have HTK : Hid (xs.take (m + 1) = xs) := Lib.hid (List.take_of_length_le (by rw [HXL.out]; exact Nat.le_refl _))
      clear ho hown hs
      go_wp2_with fail
      refine (format_yes _ xs _ HI.out HO.out (HE.out.tab.below HB0.out)).mono ?_
      rintro e w3 ⟨rfl, hb3⟩
      rw [← HS.out]
      have HB3 := Lib.hid (chain0 HB0.out hb3)
      have HI3 := Lib.hid (HI.out.below hb3)
      clear hb3
      go_wp2_with fail
      refine (parse_yes s xs _ (by omega) HP.out (HE.out.below HB3.out)).mono ?_
      rintro e w4 ⟨sv, rfl, hown4, hb4⟩
      have HB4 := Lib.hid (chain0 HB3.out hb4)
      have HI4 := Lib.hid (HI3.out.below hb4)
      have HJ4 := Lib.hid (ints_of_own hown4 rfl)
      clear hb4 hown4
      go_wp2_with fail
      refine (path_any s _ (by omega) (HE.out.below HB4.out)).mono ?_
      rintro e w5 ⟨pv, rfl, hown5, hb5⟩
      rw [HV.out, upsL_len, HXL.out] at hown5
      obtain ⟨g2, cp2, rfl, _, _⟩ := World.ownsRow.form hown5 (by omega)
      have HB5 := Lib.hid (chain0 HB4.out hb5)
      have HI5 := Lib.hid (HI4.out.below hb5)
      have HJ5 := Lib.hid (HJ4.out.below hb5)
      have HO5 := Lib.hid hown5
      clear hb5 hown5
      go_wp2_with fail
      refine (same_ints sv _ xs _ HJ5.out HI5.out (by rw [HXL.out]; omega)).mono ?_
      rintro e w6 ⟨rfl, hb6⟩
      have HB6 := Lib.hid (chain0 HB5.out hb6)
      have HO6 := Lib.hid (ownsRow_below HO5.out hb6)
      clear hb6
      go_wp2_with fail
      refine (level_any s _ (by omega) (HE.out.below HB6.out)).mono ?_
      rintro e w7 ⟨rfl, hb7⟩
      rw [HL.out]
      have HB7 := Lib.hid (chain0 HB6.out hb7)
      have hO7 := ownsRow_below HO6.out hb7
      have hc7 : w7.cell? ⟨g2, m, none⟩ = some (.string s) := by
        have h := hO7.cellAt m (by omega)
        rw [h, upsL_at xs m (by rw [HXL.out]; omega), HTK.out, HS.out]
      have HO7 := Lib.hid hO7
      clear hb7 hO7
      go_wp2_with fail
      refine (parent_any s _ (by omega) (HE.out.below HB7.out)).mono ?_
      rintro e w8 ⟨rfl, hb8⟩
      rw [HPA.out]
      have HB8 := Lib.hid (chain0 HB7.out hb8)
      have hO8 := ownsRow_below HO7.out hb8
      by_cases hm0 : m = 0
      · subst hm0
        have HZ : Hid (codeB (xs.take 0) = emptyB) := Lib.hid rfl
        rw [HZ.out]
        unfold emptyB
        clear hb8 hO8 hc7
        go_wp2_with fail
        refine (awake_any _ (HE.out.below HB8.out)).mono ?_
        rintro e w9 ⟨rfl, hb9⟩
        go_wp2
        go_ret
        exact ⟨rfl, chain0 HB8.out hb9⟩
      · obtain ⟨j, rfl⟩ : ∃ j, m = j + 1 := ⟨m - 1, by omega⟩
        have hc8 : w8.cell? ⟨g2, j, none⟩ = some (.string (codeB (xs.take (j + 1)))) := by
          have h := hO8.cellAt j (by omega)
          rw [h, upsL_at xs j (by rw [HXL.out]; omega)]
        generalize codeB (xs.take (j + 1)) = t at *
        clear hb8 hO8 hc7
        go_wp2_with fail
        refine (awake_any _ (HE.out.below HB8.out)).mono ?_
        rintro e w9 ⟨rfl, hb9⟩
        go_wp2
        go_ret
        exact ⟨rfl, chain0 HB8.out hb9⟩
end Go.Proofs.YtnmcmnllmnpjkaaDoor
