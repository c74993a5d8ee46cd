/- Contracts of Children and Leaves of the reference: any list of short strings, any short string. -/
import Derived.Test.YtnmcmnllmnpjkaaGreatDoorG19
namespace Go.Proofs.YtnmcmnllmnpjkaaGreatDoor
open Go.RowKit Go.Sort Cal Go.Maps
theorem leavesV_no {ss : List ByteArray} {u : ByteArray} (h : knownB ss u = false) : leavesV ss u = [] := by unfold leavesV; rw [h]; rfl
theorem leavesV_yes {ss : List ByteArray} {u : ByteArray} (h : knownB ss u = true) : leavesV ss u = ss.filter (leafB ss u) := by unfold leavesV; rw [h]; rfl
theorem childrenV_no {ss : List ByteArray} {u : ByteArray} (h : knownB ss u = false) : childrenV ss u = [] := by unfold childrenV; rw [h]; rfl
theorem childrenV_yes {ss : List ByteArray} {u : ByteArray} (h : knownB ss u = true) : childrenV ss u = ss.filter (kidB u) := by unfold childrenV; rw [h]; rfl
/-- The classification's block in a later world. -/
theorem blk_of {w wr : World} {o : Obj} {cs : Array Value} {t : TypeId} (h : (w.alloc o).heap[w.heap.size]? = some (.cells cs t (0, 0))) (hb : Below (w.alloc o).heap.size (w.alloc o) wr) : wr.heap[w.heap.size]? = some (.cells cs t (0, 0)) :=
  (hb.block _ (by simp)).trans h
set_option maxRecDepth 100000 in
set_option maxHeartbeats 3200000 in
theorem rleaves_any (nm : ByteArray) (sv : Value) (ss : List ByteArray) (u : ByteArray) (w : World) (hv : StrsAt w sv ss) (hl : ss.length ≤ 1000000) (hs : Short ss) :
    Calls Tryz.prog 11 #[.agg #[.string nm, sv], .string u] w (ListPost w.heap.size (leavesV ss u) w) := by
  obtain ⟨q, l, c, rfl⟩ := strs_form hv
  have hll := strs_len hv
  obtain ⟨i0, hi0, hz0, hz1, hz2⟩ := info_parts info9p
  have hb0 : Below w.heap.size w (w.alloc (.cells #[.string nm, .slice q l c] 24)) := (Below.refl _ _).alloc (Nat.le_refl _) _
  have hpb : (w.alloc (.cells #[.string nm, .slice q l c] 24)).heap[w.heap.size]? = some (.cells #[.string nm, .slice q l c] 24 (0, 0)) := by
    show (w.heap.push _)[_]? = _
    rw [Array.getElem?_push, if_pos rfl]
  have hl6 : l ≤ 1000000 := by omega
  have HS := Lib.hid (hv.below hb0)
  have HV := Lib.hid hv
  have HSH := Lib.hid hs
  have HB0 := Lib.hid hb0
  have HPB := Lib.hid hpb
  have HLL := Lib.hid hll
  clear hv hs hb0 hpb hll
  cases hk : knownB ss u with
  | false =>
    have HK := Lib.hid hk
    rw [leavesV_no hk]
    clear hk
    go_enter Tryz.func11, Tryz.ntmps11
    go_wp2_with fail
    refine (rknown_any nm _ ss u _ HS.out hl HSH.out).mono ?_
    rintro e w1 ⟨rfl, hb1⟩
    rw [HK.out]
    go_wp2
    go_ret
    exact ⟨_, rfl, World.ownsRow_nil _ _ _ _, chain0 HB0.out hb1⟩
  | true =>
    have HK := Lib.hid hk
    have HLR := Lib.hid (leaf_ref hk)
    rw [leavesV_yes hk]
    clear hk
    go_enter Tryz.func11, Tryz.ntmps11
    go_wp2_with fail
    refine (rknown_any nm _ ss u _ HS.out hl HSH.out).mono ?_
    rintro e w1 ⟨rfl, hb1⟩
    rw [HK.out]
    have hpb1 := blk_of HPB.out hb1
    have HPB1 := Lib.hid hpb1
    have cf1 := cell_blk hpb1 1 _ rfl
    have HB1 := Lib.hid (chain0 HB0.out hb1)
    have hs1 : w.heap.size < w1.heap.size := by have := hb1.size; simp at this; omega
    clear hb1 hpb1
    go_wp2_with fail
    go_loopw [5, 16] (fun o i wr => ∃ (k m : Nat), k ≤ l ∧ i = .int .i64 k ∧ m ≤ k ∧ Hid (((ss.take k).filter (leafB ss u)).length = m) ∧ wr.ownsRow (w.heap.size + 1) 9 1 o m (((ss.take k).filter (leafB ss u)).map Value.string) ∧ Below (w.heap.size + 1) w1 wr) (fun _ i _ => l - (intOf i).toNat)
    case atStart => exact ⟨0, 0, by omega, rfl, by omega, Lib.hid rfl, World.ownsRow_nil _ _ _ _, Below.refl _ _⟩
    case round =>
      obtain ⟨k, m, hk, rfl, hmk, HM, hown, hbr⟩ := hrel
      have HOW := Lib.hid hown
      have HBR := Lib.hid hbr
      have hsr := hbr.size
      by_cases hlt : k < l
      · have hcell : ∃ b off, q = some ⟨b, off, none⟩ ∧ Hid (∀ j, j < l → wr.cell? ⟨b, off + j, none⟩ = some (.string (ss.getD j ByteArray.empty))) := by
          rcases HV.out with ⟨e, _⟩ | ⟨_, b, off, cap, e, _, hb, hc⟩
          · have := HLL.out; rw [e] at this; simp at this; omega
          · cases e
            exact ⟨b, off, rfl, Lib.hid (fun j hj => (hbr.cell (p := ⟨b, off + j, none⟩) (show b < w.heap.size + 1 by omega)).trans ((HB1.out.cell (p := ⟨b, off + j, none⟩) hb).trans (hc j (by have := HLL.out; omega))))⟩
        obtain ⟨b, off, rfl, HCL⟩ := hcell
        have hcx := HCL.out k hlt
        have HXS := HSH.out k
        have HT : Hid ((ss.take (k + 1)).filter (leafB ss u) = (ss.take k).filter (leafB ss u) ++ if lastOne ss k && withinB (ss.getD k ByteArray.empty) u then [ss.getD k ByteArray.empty] else []) := Lib.hid (by
          have h1 := filter_take (leafB ss u) ss k (by have := HLL.out; omega)
          rw [HLR.out k (by have := HLL.out; omega)] at h1
          exact h1)
        have HLO : Hid (lastOne ss k = (decide (k + 1 = l) || !withinB (ss.getD (k + 1) ByteArray.empty) (ss.getD k ByteArray.empty))) := Lib.hid (by unfold lastOne; rw [← HLL.out]; rfl)
        have hxs : (ss.getD k ByteArray.empty).size ≤ 1000 := HXS
        obtain ⟨x, ex⟩ : ∃ x, x = ss.getD k ByteArray.empty := ⟨_, rfl⟩
        rw [← ex] at hcx HT HLO hxs
        have cC1 := cell_blk ((hbr.block w.heap.size (Nat.lt_succ_self _)).trans HPB1.out) 1 _ rfl
        clear HXS ex hown hbr
        by_cases hlast : k + 1 = l
        · have hli : (k : Int) + 1 = (l : Int) := by omega
          have hlb : ((k : Int) + 1 == (l : Int)) = true := by rw [beq_iff_eq]; omega
          have HOQ := HOW
          have HBQ := HBR
          have hlast' := Lib.hid hlast
          clear hli
          have HLT : Hid (lastOne ss k = true) := Lib.hid (by rw [HLO.out]; rw [decide_eq_true hlast'.out]; rfl)
          cases hw : withinB x u with
          | true =>
            have HW := Lib.hid hw
            have HN : Hid ((ss.take (k + 1)).filter (leafB ss u) = (ss.take k).filter (leafB ss u) ++ [x]) := Lib.hid (by rw [HT.out, HLT.out, hw]; rfl)
            clear hw
            go_wp2_with fail
            refine (rwithin_any x u _ hxs).mono ?_
            rintro e w6 ⟨rfl, hb6⟩
            rw [HW.out]
            have HBX := Lib.hid (HBQ.out.trans (hb6.mono (by have := HBQ.out.size; omega)))
            have hown2 := ownsRow_below HOQ.out hb6
            have hs6 := HBX.out.size
            clear hb6
            go_wp2_with (first
              | (at_builtin; refine wpList_append_own _ rfl _ _ 22 rfl (w.heap.size + 1) 9 i0 (.string ⟨#[]⟩) 1 16 Tryz.underlying22 hi0 hz0 hz1 hz2 rfl (by decide) _ _ _ rfl (hown2.alloc _) ⟨w6.heap.size, 0, none⟩ 1 1 [.string x] rfl rfl (cell_one_new _ _ _) (by simp [Value.oneCell']) (by unfold maxLen; omega) (by omega) (by simp; omega) ?_)
              | fail)
            intro v' w9 hown9 hgrow _
            have HO9 : Hid (w9.ownsRow (w.heap.size + 1) 9 1 v' (m + 1) (((ss.take (k + 1)).filter (leafB ss u)).map Value.string)) := Lib.hid (by rw [HN.out, List.map_append]; exact hown9)
            have HM9 : Hid (((ss.take (k + 1)).filter (leafB ss u)).length = m + 1) := Lib.hid (by rw [HN.out, List.length_append, HM.out]; rfl)
            have HB9 : Hid (Below (w.heap.size + 1) w1 w9) := Lib.hid ((HBX.out.alloc (by have := HBX.out.size; omega) _).grown hgrow (by simp; omega) (fun j hj => (hown2.lt j hj).1))
            clear hown2 hown9 hgrow
            go_wp2_with fail
            go_roundw
            case rel => exact ⟨k + 1, m + 1, by omega, by go_num, by omega, HM9, HO9.out, HB9.out⟩
            case measure => simp [intOf]; omega
          | false =>
            have HW := Lib.hid hw
            have HN : Hid ((ss.take (k + 1)).filter (leafB ss u) = (ss.take k).filter (leafB ss u)) := Lib.hid (by rw [HT.out, HLT.out, hw]; simp)
            clear hw
            go_wp2_with fail
            refine (rwithin_any x u _ hxs).mono ?_
            rintro e w6 ⟨rfl, hb6⟩
            rw [HW.out]
            have HBX := Lib.hid (HBQ.out.trans (hb6.mono (by have := HBQ.out.size; omega)))
            have HO2 := Lib.hid (ownsRow_below HOQ.out hb6)
            clear hb6
            go_wp2_with fail
            go_roundw
            case rel => exact ⟨k + 1, m, by omega, by go_num, by omega, Lib.hid (by rw [HN.out]; exact HM.out), by rw [HN.out]; exact HO2.out, HBX.out⟩
            case measure => simp [intOf]; omega
        · have hli : ((k : Int) + 1 == (l : Int)) = false := by rw [beq_eq_false_iff_ne]; omega
          have hli2 : (k : Int) + 1 < (l : Int) := by omega
          have hcy := HCL.out (k + 1) (by omega)
          have hys : (ss.getD (k + 1) ByteArray.empty).size ≤ 1000 := HSH.out (k + 1)
          obtain ⟨y, ey⟩ : ∃ y, y = ss.getD (k + 1) ByteArray.empty := ⟨_, rfl⟩
          rw [← ey] at hcy hys HLO
          have HNL : Hid (decide (k + 1 = l) = false) := Lib.hid (decide_eq_false hlast)
          clear ey
          go_wp2_with fail
          refine (rwithin_any y x _ hys).mono ?_
          rintro e w5 ⟨rfl, hb5⟩
          have HBQ := Lib.hid (HBR.out.trans (hb5.mono (by omega)))
          have HOQ := Lib.hid (ownsRow_below HOW.out hb5)
          clear hb5
          cases hyx : withinB y x with
          | false =>
            have HYX := Lib.hid hyx
            clear hyx
            have HLT : Hid (lastOne ss k = true) := Lib.hid (by rw [HLO.out]; rw [HNL.out, HYX.out]; rfl)
            cases hw : withinB x u with
            | true =>
              have HW := Lib.hid hw
              have HN : Hid ((ss.take (k + 1)).filter (leafB ss u) = (ss.take k).filter (leafB ss u) ++ [x]) := Lib.hid (by rw [HT.out, HLT.out, hw]; rfl)
              clear hw
              go_wp2_with fail
              refine (rwithin_any x u _ hxs).mono ?_
              rintro e w6 ⟨rfl, hb6⟩
              rw [HW.out]
              have HBX := Lib.hid (HBQ.out.trans (hb6.mono (by have := HBQ.out.size; omega)))
              have hown2 := ownsRow_below HOQ.out hb6
              have hs6 := HBX.out.size
              clear hb6
              go_wp2_with (first
                | (at_builtin; refine wpList_append_own _ rfl _ _ 22 rfl (w.heap.size + 1) 9 i0 (.string ⟨#[]⟩) 1 16 Tryz.underlying22 hi0 hz0 hz1 hz2 rfl (by decide) _ _ _ rfl (hown2.alloc _) ⟨w6.heap.size, 0, none⟩ 1 1 [.string x] rfl rfl (cell_one_new _ _ _) (by simp [Value.oneCell']) (by unfold maxLen; omega) (by omega) (by simp; omega) ?_)
                | fail)
              intro v' w9 hown9 hgrow _
              have HO9 : Hid (w9.ownsRow (w.heap.size + 1) 9 1 v' (m + 1) (((ss.take (k + 1)).filter (leafB ss u)).map Value.string)) := Lib.hid (by rw [HN.out, List.map_append]; exact hown9)
              have HM9 : Hid (((ss.take (k + 1)).filter (leafB ss u)).length = m + 1) := Lib.hid (by rw [HN.out, List.length_append, HM.out]; rfl)
              have HB9 : Hid (Below (w.heap.size + 1) w1 w9) := Lib.hid ((HBX.out.alloc (by have := HBX.out.size; omega) _).grown hgrow (by simp; omega) (fun j hj => (hown2.lt j hj).1))
              clear hown2 hown9 hgrow
              go_wp2_with fail
              go_roundw
              case rel => exact ⟨k + 1, m + 1, by omega, by go_num, by omega, HM9, HO9.out, HB9.out⟩
              case measure => simp [intOf]; omega
            | false =>
              have HW := Lib.hid hw
              have HN : Hid ((ss.take (k + 1)).filter (leafB ss u) = (ss.take k).filter (leafB ss u)) := Lib.hid (by rw [HT.out, HLT.out, hw]; simp)
              clear hw
              go_wp2_with fail
              refine (rwithin_any x u _ hxs).mono ?_
              rintro e w6 ⟨rfl, hb6⟩
              rw [HW.out]
              have HBX := Lib.hid (HBQ.out.trans (hb6.mono (by have := HBQ.out.size; omega)))
              have HO2 := Lib.hid (ownsRow_below HOQ.out hb6)
              clear hb6
              go_wp2_with fail
              go_roundw
              case rel => exact ⟨k + 1, m, by omega, by go_num, by omega, Lib.hid (by rw [HN.out]; exact HM.out), by rw [HN.out]; exact HO2.out, HBX.out⟩
              case measure => simp [intOf]; omega
          | true =>
            have HLT : Hid (lastOne ss k = false) := Lib.hid (by rw [HLO.out, HNL.out, hyx]; rfl)
            have HN : Hid ((ss.take (k + 1)).filter (leafB ss u) = (ss.take k).filter (leafB ss u)) := Lib.hid (by rw [HT.out, HLT.out]; simp)
            clear hyx
            go_wp2_with fail
            go_roundw
            case rel => exact ⟨k + 1, m, by omega, by go_num, by omega, Lib.hid (by rw [HN.out]; exact HM.out), by rw [HN.out]; exact HOQ.out, HBQ.out⟩
            case measure => simp [intOf]; omega
      · obtain rfl : k = l := by omega
        have HN : Hid (ss.take k = ss) := Lib.hid (List.take_of_length_le (by have := HLL.out; omega))
        clear hown hbr
        go_wp2
        go_ret
        refine ⟨_, rfl, ?_, HB1.out.trans (HBR.out.mono (by omega))⟩
        have h := HOW.out
        have hm := HM.out
        rw [HN.out] at h hm
        rw [hm]; exact own_base h (by omega)
set_option maxRecDepth 100000 in
set_option maxHeartbeats 3200000 in
theorem rchildren_any (nm : ByteArray) (sv : Value) (ss : List ByteArray) (u : ByteArray) (w : World) (hv : StrsAt w sv ss) (hl : ss.length ≤ 1000000) (hs : Short ss) :
    Calls Tryz.prog 9 #[.agg #[.string nm, sv], .string u] w (ListPost w.heap.size (childrenV ss u) w) := by
  obtain ⟨q, l, c, rfl⟩ := strs_form hv
  have hll := strs_len hv
  obtain ⟨i0, hi0, hz0, hz1, hz2⟩ := info_parts info9p
  have hb0 : Below w.heap.size w (w.alloc (.cells #[.string nm, .slice q l c] 24)) := (Below.refl _ _).alloc (Nat.le_refl _) _
  have hpb : (w.alloc (.cells #[.string nm, .slice q l c] 24)).heap[w.heap.size]? = some (.cells #[.string nm, .slice q l c] 24 (0, 0)) := by
    show (w.heap.push _)[_]? = _
    rw [Array.getElem?_push, if_pos rfl]
  have hl6 : l ≤ 1000000 := by omega
  have HS := Lib.hid (hv.below hb0)
  have HV := Lib.hid hv
  have HSH := Lib.hid hs
  have HB0 := Lib.hid hb0
  have HPB := Lib.hid hpb
  have HLL := Lib.hid hll
  clear hv hs hb0 hpb hll
  have hpw : (w.alloc (.cells #[.string nm, .slice q l c] 24)).cell? ⟨w.heap.size, 1, none⟩ = some (.slice q l c) := cell_blk HPB.out 1 _ rfl
  obtain ⟨r, hr⟩ : ∃ r : Nat → List ByteArray, r = fun k => if knownB ss u then (ss.take k).filter (kidB u) else [] := ⟨_, rfl⟩
  have HR0 : Hid (r 0 = []) := Lib.hid (by rw [hr]; show (if _ then _ else _) = _; split <;> rfl)
  have HRL : Hid (r l = childrenV ss u) := Lib.hid (by
    rw [hr]
    show (if _ then _ else _) = _
    rw [List.take_of_length_le (by have := HLL.out; omega)]
    rfl)
  have HRS : Hid (∀ k, k < l → r (k + 1) = r k ++ if knownB ss u && kidB u (ss.getD k ByteArray.empty) then [ss.getD k ByteArray.empty] else []) := Lib.hid (fun k hk => by
    have h1 := filter_take (kidB u) ss k (by have := HLL.out; omega)
    rw [hr]
    show (if _ then _ else _) = (if _ then _ else _) ++ _
    cases hkn : knownB ss u with
    | false => rfl
    | true => rw [if_pos rfl, if_pos rfl, Bool.true_and]; exact h1)
  clear hr
  go_enter Tryz.func9, Tryz.ntmps9
  go_wp2_with fail
  go_loopw [5, 13] (fun o i wr => ∃ (k m : Nat), k ≤ l ∧ i = .int .i64 k ∧ m ≤ k ∧ Hid ((r k).length = m) ∧ wr.ownsRow (w.heap.size + 1) 9 1 o m ((r k).map Value.string) ∧ Below (w.heap.size + 1) (w.alloc (.cells #[.string nm, .slice q l c] 24)) wr) (fun _ i _ => l - (intOf i).toNat)
  case atStart => exact ⟨0, 0, by omega, rfl, by omega, Lib.hid (by rw [HR0.out]; rfl), by rw [HR0.out]; exact World.ownsRow_nil _ _ _ _, Below.refl _ _⟩
  case round =>
    obtain ⟨k, m, hk, rfl, hmk, HM, hown, hbr⟩ := hrel
    have HOW := Lib.hid hown
    have HBR := Lib.hid hbr
    have hsr : w.heap.size + 1 ≤ wr.heap.size := by have := hbr.size; simpa using this
    by_cases hlt : k < l
    · have hcell : ∃ b off, q = some ⟨b, off, none⟩ ∧ wr.cell? ⟨b, off + k, none⟩ = some (.string (ss.getD k ByteArray.empty)) := by
        rcases HV.out with ⟨e, _⟩ | ⟨_, b, off, cap, e, _, hb, hc⟩
        · have := HLL.out; rw [e] at this; simp at this; omega
        · cases e
          exact ⟨b, off, rfl, (hbr.cell (p := ⟨b, off + k, none⟩) (show b < w.heap.size + 1 by omega)).trans ((HB0.out.cell (p := ⟨b, off + k, none⟩) hb).trans (hc k (by have := HLL.out; omega)))⟩
      obtain ⟨b, off, rfl, hcx⟩ := hcell
      have HT := Lib.hid (HRS.out k hlt)
      have hxs : (ss.getD k ByteArray.empty).size ≤ 1000 := HSH.out k
      obtain ⟨x, ex⟩ : ∃ x, x = ss.getD k ByteArray.empty := ⟨_, rfl⟩
      rw [← ex] at hcx HT hxs
      have hpr := (hbr.block w.heap.size (Nat.lt_succ_self _)).trans HPB.out
      have HPR := Lib.hid hpr
      have HSR := Lib.hid (HS.out.below (w' := wr) (by have := hbr; rwa [show w.heap.size + 1 = (w.alloc (.cells #[.string nm, .slice (some ⟨b, off, none⟩) l c] 24)).heap.size by simp] at this))
      clear ex hown hbr hpr hpw
      go_wp2_with fail
      refine (rparent_any x _ hxs).mono ?_
      rintro e w2 ⟨rfl, hb2⟩
      obtain ⟨pr, epr⟩ : ∃ p, p = parentV x := ⟨_, rfl⟩
      have HPV := Lib.hid epr
      rw [← epr]
      obtain ⟨p1, p2⟩ := pr
      have hp2 := (hb2.block w.heap.size (by omega)).trans HPR.out
      have cA := cell_blk hp2 0 _ rfl
      have cB := cell_blk hp2 1 _ rfl
      have HB2 := Lib.hid (HBR.out.trans (hb2.mono hsr))
      have HO2 := Lib.hid (ownsRow_below HOW.out hb2)
      have HS2 := Lib.hid (HSR.out.below hb2)
      clear epr hb2 hp2
      go_wp2_with fail
      refine (rknown_any nm _ ss u _ HS2.out hl HSH.out).mono ?_
      rintro e w3 ⟨rfl, hb3⟩
      have HB3 := Lib.hid (HB2.out.trans (hb3.mono (by have := HB2.out.size; simp at this; omega)))
      have hown3 := ownsRow_below HO2.out hb3
      have HO3 := Lib.hid hown3
      have hs3 : w.heap.size + 1 ≤ w3.heap.size := by have := HB3.out.size; simpa using this
      clear hb3
      have hways : (Hid (r (k + 1) = r k) ∧ knownB ss u = false) ∨ (Hid (r (k + 1) = r k) ∧ knownB ss u = true ∧ p2 = false) ∨ (Hid (r (k + 1) = r k) ∧ knownB ss u = true ∧ p2 = true ∧ (p1.toList == u.toList) = false) ∨ (Hid (r (k + 1) = r k ++ [x]) ∧ knownB ss u = true ∧ p2 = true ∧ (p1.toList == u.toList) = true) := by
        have hT := HT.out
        have hkb : kidB u x = decide ((p1, p2) = (u, true)) := by unfold kidB; rw [← HPV.out]
        rw [hkb] at hT
        cases hkn : knownB ss u with
        | false => exact Or.inl ⟨Lib.hid (by rw [hT, hkn]; simp), rfl⟩
        | true =>
          cases p2 with
          | false => exact Or.inr (Or.inl ⟨Lib.hid (by rw [hT]; simp), rfl, rfl⟩)
          | true =>
            by_cases e : p1 = u
            · exact Or.inr (Or.inr (Or.inr ⟨Lib.hid (by rw [hT, hkn, e]; simp), rfl, rfl, beq_yes e⟩))
            · exact Or.inr (Or.inr (Or.inl ⟨Lib.hid (by rw [hT]; simp [e]), rfl, rfl, beq_no e⟩))
      rcases hways with ⟨HN, hkn⟩ | ⟨HN, hkn, rfl⟩ | ⟨HN, hkn, rfl, hpu⟩ | ⟨HN, hkn, rfl, hpu⟩
      · rw [hkn]
        clear hkn hown3
        go_wp2_with fail
        go_roundw
        case rel => exact ⟨k + 1, m, by omega, by go_num, by omega, Lib.hid (by rw [HN.out]; exact HM.out), by rw [HN.out]; exact HO3.out, HB3.out⟩
        case measure => simp [intOf]; omega
      · rw [hkn]
        clear hkn hown3
        go_wp2_with fail
        go_roundw
        case rel => exact ⟨k + 1, m, by omega, by go_num, by omega, Lib.hid (by rw [HN.out]; exact HM.out), by rw [HN.out]; exact HO3.out, HB3.out⟩
        case measure => simp [intOf]; omega
      · rw [hkn]
        clear hkn hown3
        go_wp2_with fail
        go_roundw
        case rel => exact ⟨k + 1, m, by omega, by go_num, by omega, Lib.hid (by rw [HN.out]; exact HM.out), by rw [HN.out]; exact HO3.out, HB3.out⟩
        case measure => simp [intOf]; omega
      · rw [hkn]
        clear hkn
        go_wp2_with (first
          | (at_builtin; refine wpList_append_own _ rfl _ _ 22 rfl (w.heap.size + 1) 9 i0 (.string ⟨#[]⟩) 1 16 Tryz.underlying22 hi0 hz0 hz1 hz2 rfl (by decide) _ _ _ rfl (hown3.alloc _) ⟨w3.heap.size, 0, none⟩ 1 1 [.string x] rfl rfl (cell_one_new _ _ _) (by simp [Value.oneCell']) (by unfold maxLen; omega) (by omega) (by simp; omega) ?_)
          | fail)
        intro v' w9 hown9 hgrow _
        have HO9 : Hid (w9.ownsRow (w.heap.size + 1) 9 1 v' (m + 1) ((r (k + 1)).map Value.string)) := Lib.hid (by rw [HN.out, List.map_append]; exact hown9)
        have HM9 : Hid ((r (k + 1)).length = m + 1) := Lib.hid (by rw [HN.out, List.length_append, HM.out]; rfl)
        have HB9 : Hid (Below (w.heap.size + 1) (w.alloc (.cells #[.string nm, .slice (some ⟨b, off, none⟩) l c] 24)) w9) := Lib.hid ((HB3.out.alloc hs3 _).grown hgrow (by simp; omega) (fun j hj => (hown3.lt j hj).1))
        clear hown3 hown9 hgrow
        go_wp2_with fail
        go_roundw
        case rel => exact ⟨k + 1, m + 1, by omega, by go_num, by omega, HM9, HO9.out, HB9.out⟩
        case measure => simp [intOf]; omega
    · obtain rfl : k = l := by omega
      clear hown hbr
      go_wp2
      go_ret
      refine ⟨_, rfl, ?_, HB0.out.trans (HBR.out.mono (by omega))⟩
      have h := HOW.out
      have hm := HM.out
      rw [HRL.out] at h hm
      rw [hm]; exact own_base h (by omega)
end Go.Proofs.YtnmcmnllmnpjkaaGreatDoor
