/- Contracts of Cover, of the program and of the reference: any lists of short strings, any short string. -/
import Derived.Test.YtnmcmnllmnpjkaaDoorG20
namespace Go.Proofs.YtnmcmnllmnpjkaaDoor
open Go.RowKit Go.Sort Cal Go.Maps
theorem cover_no {ss : List ByteArray} {u : ByteArray} (list : List ByteArray) (h : knownB ss u = false) : coverV ss u list = false := by unfold coverV; rw [h]; rfl
theorem cover_bad {ss list : List ByteArray} {u x : ByteArray} (hx : x ∈ list) (h : (inB ss x && withinB x u) = false) : coverV ss u list = false := by
  unfold coverV
  have : (list.all fun s => inB ss s && withinB s u) = false := by
    rw [List.all_eq_false]
    exact ⟨x, hx, by rw [h]; simp⟩
  rw [this]; simp
theorem cover_leaf {ss list : List ByteArray} {u y : ByteArray} (hy : y ∈ leavesV ss u) (h : onceB list y = false) : coverV ss u list = false := by
  unfold coverV
  have : (leavesV ss u).all (onceB list) = false := by
    rw [List.all_eq_false]
    exact ⟨y, hy, by rw [h]; simp⟩
  rw [this]; simp
theorem cover_yes {ss list : List ByteArray} {u : ByteArray} (h1 : knownB ss u = true) (h2 : (list.all fun s => inB ss s && withinB s u) = true) (h3 : (leavesV ss u).all (onceB list) = true) : coverV ss u list = true := by
  unfold coverV; rw [h1, h2, h3]; rfl
theorem all_take (f : ByteArray → Bool) (l : List ByteArray) (k : Nat) (h : k < l.length) : (l.take (k + 1)).all f = ((l.take k).all f && f (l.getD k ByteArray.empty)) := by
  rw [List.take_succ_eq_append_getElem h, List.all_append]
  simp [List.getD, h]
theorem leaves_mem {ss : List ByteArray} {u x : ByteArray} (h : x ∈ leavesV ss u) : x ∈ ss := by
  unfold leavesV at h
  split at h
  · exact (List.mem_filter.1 h).1
  · cases h
theorem short_mem {ss : List ByteArray} (h : Short ss) {x : ByteArray} (hx : x ∈ ss) : x.size ≤ 1000 := by
  obtain ⟨i, hi, e⟩ := List.getElem_of_mem hx
  have := h i
  rw [List.getD, List.getElem?_eq_getElem hi] at this
  rw [← e]; exact this
theorem getD_memB {ss : List ByteArray} {k : Nat} (h : k < ss.length) : ss.getD k ByteArray.empty ∈ ss := by
  rw [List.getD, List.getElem?_eq_getElem h]; exact List.getElem_mem h
/-- The k-th string of a list, read where only new blocks were made. -/
theorem str_at {w wr : World} {q : Option Addr} {n c : Nat} {ss : List ByteArray} (h : StrsAt w (.slice q n c) ss) (hb : Below w.heap.size w wr) {k : Nat} (hk : k < n) : ∃ b off, q = some ⟨b, off, none⟩ ∧ wr.cell? ⟨b, off + k, none⟩ = some (.string (ss.getD k ByteArray.empty)) := by
  rcases h with ⟨_, p, c', e⟩ | ⟨_, b, off, cap, e, _, hlt, hc⟩
  · injection e with e1 e2; omega
  · injection e with e1 e2 e3
    exact ⟨b, off, e1, (hb.cell (p := ⟨b, off + k, none⟩) hlt).trans (hc k (by omega))⟩
theorem leaves_len (ss : List ByteArray) (u : ByteArray) : (leavesV ss u).length ≤ ss.length := by
  unfold leavesV
  split
  · exact List.length_filter_le _ _
  · simp
set_option maxRecDepth 100000 in
set_option maxHeartbeats 6400000 in
theorem cover_any (nm : ByteArray) (sv : Value) (ss : List ByteArray) (u : ByteArray) (lv : Value) (list : List ByteArray) (w : World) (hv : StrsAt w sv ss) (hl : ss.length ≤ 1000000) (hs : Short ss) (hu : u.size ≤ 1000) (hlv : StrsAt w lv list) (hll : list.length ≤ 1000000) (hls : Short list) (hE : Env w) :
    Calls Tryd.prog 42 #[.agg #[.string nm, sv], .string u, lv] w fun e w' => e = .returned (.bool (coverV ss u list)) ∧ Below w.heap.size w w' := by
  obtain ⟨q, l, c, rfl⟩ := strs_form hv
  obtain ⟨ql, n, cl, rfl⟩ := strs_form hlv
  have hnl := strs_len hlv
  have hn6 : n ≤ 1000000 := by omega
  have hb0 : Below w.heap.size w (w.alloc (.cells #[.string nm, .slice q l c] 46)) := (Below.refl _ _).alloc (Nat.le_refl _) _
  have hpb : (w.alloc (.cells #[.string nm, .slice q l c] 46)).heap[w.heap.size]? = some (.cells #[.string nm, .slice q l c] 46 (0, 0)) := by
    show (w.heap.push _)[_]? = _
    rw [Array.getElem?_push, if_pos rfl]
  have HS := Lib.hid (hv.below hb0)
  have HLV := Lib.hid (hlv.below hb0)
  have HSH := Lib.hid hs
  have HLS := Lib.hid hls
  have HB0 := Lib.hid hb0
  have HPB := Lib.hid hpb
  have HNL := Lib.hid hnl
  have HE := Lib.hid (hE.below hb0)
  clear hv hs hb0 hpb hlv hls hnl hE
  cases hk : knownB ss u with
  | false =>
    have HK := Lib.hid hk
    have HR := Lib.hid (cover_no list hk)
    clear hk
    go_enter Tryd.func42, Tryd.ntmps42
    go_wp2_with fail
    refine (chas_any nm _ ss u _ HS.out hl HSH.out HE.out).mono ?_
    rintro e w1 ⟨rfl, hb1⟩
    rw [HK.out]
    go_wp2
    go_ret
    exact ⟨by rw [HR.out]; rfl, chain0 HB0.out hb1⟩
  | true =>
    have HK := Lib.hid hk
    clear hk
    go_enter Tryd.func42, Tryd.ntmps42
    go_wp2_with fail
    refine (chas_any nm _ ss u _ HS.out hl HSH.out HE.out).mono ?_
    rintro e w1 ⟨rfl, hb1⟩
    rw [HK.out]
    have HPB1 := Lib.hid (blk_of HPB.out hb1)
    have HB1 := Lib.hid (chain0 HB0.out hb1)
    have HS1 := Lib.hid (HS.out.below hb1)
    have HE1 := Lib.hid (HE.out.below hb1)
    have HLV1 := Lib.hid (HLV.out.below hb1)
    have hs1 : w.heap.size < w1.heap.size := by have := hb1.size; simp at this; omega
    clear hb1
    go_wp2_with fail
    go_loopw [20] (fun i wr => ∃ k : Nat, k ≤ n ∧ i = .int .i64 k ∧ Hid (((list.take k).all fun s => inB ss s && withinB s u) = true) ∧ Below w1.heap.size w1 wr) (fun i _ => n - (intOf i).toNat)
    case atStart => exact ⟨0, by omega, rfl, Lib.hid rfl, Below.refl _ _⟩
    case round =>
      obtain ⟨k, hk, rfl, HALL, hbr⟩ := hrel
      have HBR := Lib.hid hbr
      have cC := cell_blk ((hbr.block w.heap.size hs1).trans HPB1.out) 1 _ rfl
      by_cases hlt : k < n
      · obtain ⟨b, off, rfl, hcx⟩ := str_at HLV1.out hbr hlt
        have hkl : k < list.length := by have := HNL.out; omega
        have HXM := Lib.hid (getD_memB hkl)
        have hxs : (list.getD k ByteArray.empty).size ≤ 1000 := HLS.out k
        have HAT := Lib.hid (all_take (fun s => inB ss s && withinB s u) list k hkl)
        obtain ⟨x, ex⟩ : ∃ x, x = list.getD k ByteArray.empty := ⟨_, rfl⟩
        rw [← ex] at hcx HXM hxs HAT
        have HSR := Lib.hid (HS1.out.below hbr)
        clear ex hbr
        cases hin : inB ss x with
        | false =>
          have HIN := Lib.hid hin
          have HR := Lib.hid (cover_bad (ss := ss) (u := u) HXM.out (by rw [hin]; rfl))
          clear hin
          go_wp2_with fail
          refine (contains_at _ ss x _ HSR.out hl).mono ?_
          rintro e w2 ⟨rfl, rfl⟩
          rw [HIN.out]
          go_wp2
          go_ret
          exact ⟨by rw [HR.out]; rfl, chain0 HB1.out HBR.out⟩
        | true =>
          have HIN := Lib.hid hin
          clear hin
          cases hwi : withinB x u with
          | false =>
            have HWI := Lib.hid hwi
            have HR := Lib.hid (cover_bad (ss := ss) (u := u) HXM.out (by rw [HIN.out, hwi]; rfl))
            clear hwi
            go_wp2_with fail
            refine (contains_at _ ss x _ HSR.out hl).mono ?_
            rintro e w2 ⟨rfl, rfl⟩
            rw [HIN.out]
            go_wp2_with fail
            refine (within_any x u _ hxs hu (HE1.out.below HBR.out)).mono ?_
            rintro e w3 ⟨rfl, hb3⟩
            rw [HWI.out]
            go_wp2
            go_ret
            exact ⟨by rw [HR.out]; rfl, chain0 (chain0 HB1.out HBR.out) hb3⟩
          | true =>
            have HWI := Lib.hid hwi
            have HN : Hid (((list.take (k + 1)).all fun s => inB ss s && withinB s u) = true) := Lib.hid (by rw [HAT.out, HALL.out, HIN.out, hwi]; rfl)
            clear hwi
            go_wp2_with fail
            refine (contains_at _ ss x _ HSR.out hl).mono ?_
            rintro e w2 ⟨rfl, rfl⟩
            rw [HIN.out]
            go_wp2_with fail
            refine (within_any x u _ hxs hu (HE1.out.below HBR.out)).mono ?_
            rintro e w3 ⟨rfl, hb3⟩
            rw [HWI.out]
            have HB3 := Lib.hid (chain0 HBR.out hb3)
            clear hb3
            go_wp2_with fail
            go_roundw
            case rel => exact ⟨k + 1, by omega, by go_num, HN, HB3.out⟩
            case measure => simp [intOf]; omega
      · obtain rfl : k = n := by omega
        have HLA : Hid ((list.all fun s => inB ss s && withinB s u) = true) := Lib.hid (by have := HALL.out; rwa [List.take_of_length_le (by have := HNL.out; omega)] at this)
        have cC0 := cell_blk ((hbr.block w.heap.size hs1).trans HPB1.out) 0 _ rfl
        have HSR := Lib.hid (HS1.out.below hbr)
        have HLVR := Lib.hid (HLV1.out.below hbr)
        clear hbr
        go_wp2_with fail
        refine (leaves_any nm _ ss u _ HSR.out hl HSH.out hu (HE1.out.below HBR.out)).mono ?_
        rintro e w5 ⟨vl, rfl, hownl, hb5⟩
        obtain ⟨ls, hls⟩ : ∃ ls, ls = leavesV ss u := ⟨_, rfl⟩
        have HLSM : Hid (∀ y ∈ ls, y ∈ leavesV ss u) := Lib.hid (by rw [hls]; exact fun y h => h)
        have HLSE := Lib.hid hls
        rw [← hls] at hownl
        obtain ⟨r, hr⟩ : ∃ r, r = ls.length := ⟨_, rfl⟩
        have HR := Lib.hid hr
        rw [← hr] at hownl
        obtain ⟨qs, cs, rfl, -, hst5, -⟩ := own_strs hownl
        have hr6 : r ≤ 1000000 := by
          rw [hr, hls]
          have := leaves_len ss u
          omega
        have HST5 := Lib.hid hst5
        have HB5 := Lib.hid (chain0 (chain0 HB1.out HBR.out) hb5)
        have HLV5 := Lib.hid (HLVR.out.below hb5)
        have HE5 := Lib.hid ((HE1.out.below HBR.out).below hb5)
        clear hls hr hownl hst5 hb5 cC cC0
        go_wp2_with fail
        go_loopw [40] (fun i wr => ∃ j : Nat, j ≤ r ∧ i = .int .i64 j ∧ Hid ((ls.take j).all (onceB list) = true) ∧ Below w5.heap.size w5 wr) (fun i _ => r - (intOf i).toNat)
        case atStart => exact ⟨0, by omega, rfl, Lib.hid rfl, Below.refl _ _⟩
        case round =>
          obtain ⟨j, hj, rfl, HLL, hbr5⟩ := hrel
          have HBR5 := Lib.hid hbr5
          by_cases hjt : j < r
          · obtain ⟨b, off, rfl, hcy⟩ := str_at HST5.out hbr5 hjt
            have hjl : j < ls.length := by have := HR.out; omega
            have HYM := Lib.hid (HLSM.out _ (getD_memB hjl))
            have HAT := Lib.hid (all_take (onceB list) ls j hjl)
            have hys : (ls.getD j ByteArray.empty).size ≤ 1000 := short_mem HSH.out (leaves_mem HYM.out)
            obtain ⟨y, ey⟩ : ∃ y, y = ls.getD j ByteArray.empty := ⟨_, rfl⟩
            rw [← ey] at hcy HYM hys HAT
            have hjd : decide ((j : Int) < (r : Int)) = true := decide_eq_true (by omega)
            clear ey hbr5
            go_wp2_with fail
            go_loopw [11, 46] (fun m i wr => ∃ (t cnt : Nat), t ≤ k ∧ i = .int .i64 t ∧ m = .int .i64 cnt ∧ cnt ≤ t ∧ Hid (((list.take t).filter fun s => withinB y s).length = cnt) ∧ Below w5.heap.size w5 wr) (fun _ i _ => k - (intOf i).toNat)
            case atStart => exact ⟨0, 0, by omega, rfl, rfl, by omega, Lib.hid rfl, HBR5.out⟩
            case round =>
              obtain ⟨t, cnt, ht, rfl, rfl, hct, HCN, hbt⟩ := hrel
              have HBT := Lib.hid hbt
              by_cases htt : t < k
              · obtain ⟨b2, off2, e2, hcz⟩ := str_at HLV5.out hbt htt
                have htl : t < list.length := by have := HNL.out; omega
                have HFT := Lib.hid (filter_take (fun s => withinB y s) list t htl)
                have hzs : (list.getD t ByteArray.empty).size ≤ 1000 := HLS.out t
                have hzz : list.getD t emptyB = list.getD t ByteArray.empty := rfl
                rw [hzz] at HFT
                obtain ⟨z, ez⟩ : ∃ z, z = list.getD t ByteArray.empty := ⟨_, rfl⟩
                rw [← ez] at hcz hzs HFT
                subst e2
                clear ez hbt hzz
                cases hwz : withinB y z with
                | true =>
                  have HWZ := Lib.hid hwz
                  have HN : Hid (((list.take (t + 1)).filter fun s => withinB y s).length = cnt + 1) := Lib.hid (by rw [HFT.out, List.length_append, HCN.out]; simp [hwz])
                  clear hwz
                  go_wp2_with fail
                  refine (within_any y z _ hys hzs (HE5.out.below HBT.out)).mono ?_
                  rintro e w7 ⟨rfl, hb7⟩
                  rw [HWZ.out]
                  have HB7 := Lib.hid (chain0 HBT.out hb7)
                  clear hb7
                  go_wp2_with fail
                  go_roundw
                  case rel => exact ⟨t + 1, cnt + 1, by omega, by go_num, by go_num, by omega, HN, HB7.out⟩
                  case measure => simp [intOf]; omega
                | false =>
                  have HWZ := Lib.hid hwz
                  have HN : Hid (((list.take (t + 1)).filter fun s => withinB y s).length = cnt) := Lib.hid (by rw [HFT.out, List.length_append, HCN.out]; simp [hwz])
                  clear hwz
                  go_wp2_with fail
                  refine (within_any y z _ hys hzs (HE5.out.below HBT.out)).mono ?_
                  rintro e w7 ⟨rfl, hb7⟩
                  rw [HWZ.out]
                  have HB7 := Lib.hid (chain0 HBT.out hb7)
                  clear hb7
                  go_wp2_with fail
                  go_roundw
                  case rel => exact ⟨t + 1, cnt, by omega, by go_num, rfl, by omega, HN, HB7.out⟩
                  case measure => simp [intOf]; omega
              · obtain rfl : t = k := by omega
                have HCT : Hid ((list.filter fun s => withinB y s).length = cnt) := Lib.hid (by have := HCN.out; rwa [List.take_of_length_le (by have := HNL.out; omega)] at this)
                clear hbt
                by_cases h1 : cnt = 1
                · subst h1
                  have HN : Hid ((ls.take (j + 1)).all (onceB list) = true) := Lib.hid (by rw [HAT.out, HLL.out]; unfold onceB; rw [HCT.out]; rfl)
                  go_wp2_with fail
                  go_roundw
                  case rel => exact ⟨j + 1, by omega, by go_num, HN, HBT.out⟩
                  case measure => simp [intOf]; omega
                · have hc1 : ((cnt : Int) == 1) = false := by rw [beq_eq_false_iff_ne]; omega
                  have hc2 : ((cnt : Int) != 1) = true := by simp [bne, hc1]
                  have HRF := Lib.hid (cover_leaf (list := list) HYM.out (by unfold onceB; rw [HCT.out]; exact decide_eq_false h1))
                  clear h1
                  go_wp2
                  go_ret
                  exact ⟨by rw [HRF.out]; rfl, chain0 HB5.out HBT.out⟩
          · obtain rfl : j = r := by omega
            have HRY := Lib.hid (cover_yes (list := list) HK.out HLA.out (by rw [← HLSE.out]; have := HLL.out; rwa [List.take_of_length_le (by have := HR.out; omega)] at this))
            clear hbr5
            go_wp2
            go_ret
            exact ⟨by rw [HRY.out]; rfl, chain0 HB5.out HBR5.out⟩
set_option maxRecDepth 100000 in
set_option maxHeartbeats 6400000 in
theorem rcover_any (nm : ByteArray) (sv : Value) (ss : List ByteArray) (u : ByteArray) (lv : Value) (list : List ByteArray) (w : World) (hv : StrsAt w sv ss) (hl : ss.length ≤ 1000000) (hs : Short ss) (hlv : StrsAt w lv list) (hll : list.length ≤ 1000000) (hls : Short list) :
    Calls Tryd.prog 43 #[.agg #[.string nm, sv], .string u, lv] w fun e w' => e = .returned (.bool (coverV ss u list)) ∧ Below w.heap.size w w' := by
  obtain ⟨q, l, c, rfl⟩ := strs_form hv
  obtain ⟨ql, n, cl, rfl⟩ := strs_form hlv
  have hnl := strs_len hlv
  have hn6 : n ≤ 1000000 := by omega
  have hb0 : Below w.heap.size w (w.alloc (.cells #[.string nm, .slice q l c] 46)) := (Below.refl _ _).alloc (Nat.le_refl _) _
  have hpb : (w.alloc (.cells #[.string nm, .slice q l c] 46)).heap[w.heap.size]? = some (.cells #[.string nm, .slice q l c] 46 (0, 0)) := by
    show (w.heap.push _)[_]? = _
    rw [Array.getElem?_push, if_pos rfl]
  have HS := Lib.hid (hv.below hb0)
  have HLV := Lib.hid (hlv.below hb0)
  have HSH := Lib.hid hs
  have HLS := Lib.hid hls
  have HB0 := Lib.hid hb0
  have HPB := Lib.hid hpb
  have HNL := Lib.hid hnl
  clear hv hs hb0 hpb hlv hls hnl
  cases hk : knownB ss u with
  | false =>
    have HK := Lib.hid hk
    have HR := Lib.hid (cover_no list hk)
    clear hk
    go_enter Tryd.func43, Tryd.ntmps43
    go_wp2_with fail
    refine (rknown_any nm _ ss u _ HS.out hl HSH.out).mono ?_
    rintro e w1 ⟨rfl, hb1⟩
    rw [HK.out]
    go_wp2
    go_ret
    exact ⟨by rw [HR.out]; rfl, chain0 HB0.out hb1⟩
  | true =>
    have HK := Lib.hid hk
    clear hk
    go_enter Tryd.func43, Tryd.ntmps43
    go_wp2_with fail
    refine (rknown_any nm _ ss u _ HS.out hl HSH.out).mono ?_
    rintro e w1 ⟨rfl, hb1⟩
    rw [HK.out]
    have HPB1 := Lib.hid (blk_of HPB.out hb1)
    have HB1 := Lib.hid (chain0 HB0.out hb1)
    have HS1 := Lib.hid (HS.out.below hb1)
    have HLV1 := Lib.hid (HLV.out.below hb1)
    have hs1 : w.heap.size < w1.heap.size := by have := hb1.size; simp at this; omega
    clear hb1
    go_wp2_with fail
    go_loopw [20] (fun i wr => ∃ k : Nat, k ≤ n ∧ i = .int .i64 k ∧ Hid (((list.take k).all fun s => inB ss s && withinB s u) = true) ∧ Below w1.heap.size w1 wr) (fun i _ => n - (intOf i).toNat)
    case atStart => exact ⟨0, by omega, rfl, Lib.hid rfl, Below.refl _ _⟩
    case round =>
      obtain ⟨k, hk, rfl, HALL, hbr⟩ := hrel
      have HBR := Lib.hid hbr
      have cC := cell_blk ((hbr.block w.heap.size hs1).trans HPB1.out) 1 _ rfl
      by_cases hlt : k < n
      · obtain ⟨b, off, rfl, hcx⟩ := str_at HLV1.out hbr hlt
        have hkl : k < list.length := by have := HNL.out; omega
        have HXM := Lib.hid (getD_memB hkl)
        have hxs : (list.getD k ByteArray.empty).size ≤ 1000 := HLS.out k
        have HAT := Lib.hid (all_take (fun s => inB ss s && withinB s u) list k hkl)
        obtain ⟨x, ex⟩ : ∃ x, x = list.getD k ByteArray.empty := ⟨_, rfl⟩
        rw [← ex] at hcx HXM hxs HAT
        have HSR := Lib.hid (HS1.out.below hbr)
        clear ex hbr
        cases hin : inB ss x with
        | false =>
          have HIN := Lib.hid hin
          have HR := Lib.hid (cover_bad (ss := ss) (u := u) HXM.out (by rw [hin]; rfl))
          clear hin
          go_wp2_with fail
          refine (has_any _ ss x _ HSR.out hl).mono ?_
          rintro e w2 ⟨rfl, rfl⟩
          rw [HIN.out]
          go_wp2
          go_ret
          exact ⟨by rw [HR.out]; rfl, chain0 HB1.out HBR.out⟩
        | true =>
          have HIN := Lib.hid hin
          clear hin
          cases hwi : withinB x u with
          | false =>
            have HWI := Lib.hid hwi
            have HR := Lib.hid (cover_bad (ss := ss) (u := u) HXM.out (by rw [HIN.out, hwi]; rfl))
            clear hwi
            go_wp2_with fail
            refine (has_any _ ss x _ HSR.out hl).mono ?_
            rintro e w2 ⟨rfl, rfl⟩
            rw [HIN.out]
            go_wp2_with fail
            refine (rwithin_any x u _ hxs).mono ?_
            rintro e w3 ⟨rfl, hb3⟩
            rw [HWI.out]
            go_wp2
            go_ret
            exact ⟨by rw [HR.out]; rfl, chain0 (chain0 HB1.out HBR.out) hb3⟩
          | true =>
            have HWI := Lib.hid hwi
            have HN : Hid (((list.take (k + 1)).all fun s => inB ss s && withinB s u) = true) := Lib.hid (by rw [HAT.out, HALL.out, HIN.out, hwi]; rfl)
            clear hwi
            go_wp2_with fail
            refine (has_any _ ss x _ HSR.out hl).mono ?_
            rintro e w2 ⟨rfl, rfl⟩
            rw [HIN.out]
            go_wp2_with fail
            refine (rwithin_any x u _ hxs).mono ?_
            rintro e w3 ⟨rfl, hb3⟩
            rw [HWI.out]
            have HB3 := Lib.hid (chain0 HBR.out hb3)
            clear hb3
            go_wp2_with fail
            go_roundw
            case rel => exact ⟨k + 1, by omega, by go_num, HN, HB3.out⟩
            case measure => simp [intOf]; omega
      · obtain rfl : k = n := by omega
        have HLA : Hid ((list.all fun s => inB ss s && withinB s u) = true) := Lib.hid (by have := HALL.out; rwa [List.take_of_length_le (by have := HNL.out; omega)] at this)
        have cC0 := cell_blk ((hbr.block w.heap.size hs1).trans HPB1.out) 0 _ rfl
        have HSR := Lib.hid (HS1.out.below hbr)
        have HLVR := Lib.hid (HLV1.out.below hbr)
        clear hbr
        go_wp2_with fail
        refine (rleaves_any nm _ ss u _ HSR.out hl HSH.out).mono ?_
        rintro e w5 ⟨vl, rfl, hownl, hb5⟩
        obtain ⟨ls, hls⟩ : ∃ ls, ls = leavesV ss u := ⟨_, rfl⟩
        have HLSM : Hid (∀ y ∈ ls, y ∈ leavesV ss u) := Lib.hid (by rw [hls]; exact fun y h => h)
        have HLSE := Lib.hid hls
        rw [← hls] at hownl
        obtain ⟨r, hr⟩ : ∃ r, r = ls.length := ⟨_, rfl⟩
        have HR := Lib.hid hr
        rw [← hr] at hownl
        obtain ⟨qs, cs, rfl, -, hst5, -⟩ := own_strs hownl
        have hr6 : r ≤ 1000000 := by
          rw [hr, hls]
          have := leaves_len ss u
          omega
        have HST5 := Lib.hid hst5
        have HB5 := Lib.hid (chain0 (chain0 HB1.out HBR.out) hb5)
        have HLV5 := Lib.hid (HLVR.out.below hb5)
        clear hls hr hownl hst5 hb5 cC cC0
        go_wp2_with fail
        go_loopw [40] (fun i wr => ∃ j : Nat, j ≤ r ∧ i = .int .i64 j ∧ Hid ((ls.take j).all (onceB list) = true) ∧ Below w5.heap.size w5 wr) (fun i _ => r - (intOf i).toNat)
        case atStart => exact ⟨0, by omega, rfl, Lib.hid rfl, Below.refl _ _⟩
        case round =>
          obtain ⟨j, hj, rfl, HLL, hbr5⟩ := hrel
          have HBR5 := Lib.hid hbr5
          by_cases hjt : j < r
          · obtain ⟨b, off, rfl, hcy⟩ := str_at HST5.out hbr5 hjt
            have hjl : j < ls.length := by have := HR.out; omega
            have HYM := Lib.hid (HLSM.out _ (getD_memB hjl))
            have HAT := Lib.hid (all_take (onceB list) ls j hjl)
            have hys : (ls.getD j ByteArray.empty).size ≤ 1000 := short_mem HSH.out (leaves_mem HYM.out)
            obtain ⟨y, ey⟩ : ∃ y, y = ls.getD j ByteArray.empty := ⟨_, rfl⟩
            rw [← ey] at hcy HYM hys HAT
            have hjd : decide ((j : Int) < (r : Int)) = true := decide_eq_true (by omega)
            clear ey hbr5
            go_wp2_with fail
            go_loopw [11, 46] (fun m i wr => ∃ (t cnt : Nat), t ≤ k ∧ i = .int .i64 t ∧ m = .int .i64 cnt ∧ cnt ≤ t ∧ Hid (((list.take t).filter fun s => withinB y s).length = cnt) ∧ Below w5.heap.size w5 wr) (fun _ i _ => k - (intOf i).toNat)
            case atStart => exact ⟨0, 0, by omega, rfl, rfl, by omega, Lib.hid rfl, HBR5.out⟩
            case round =>
              obtain ⟨t, cnt, ht, rfl, rfl, hct, HCN, hbt⟩ := hrel
              have HBT := Lib.hid hbt
              by_cases htt : t < k
              · obtain ⟨b2, off2, e2, hcz⟩ := str_at HLV5.out hbt htt
                have htl : t < list.length := by have := HNL.out; omega
                have HFT := Lib.hid (filter_take (fun s => withinB y s) list t htl)
                have hzz : list.getD t emptyB = list.getD t ByteArray.empty := rfl
                rw [hzz] at HFT
                obtain ⟨z, ez⟩ : ∃ z, z = list.getD t ByteArray.empty := ⟨_, rfl⟩
                rw [← ez] at hcz HFT
                subst e2
                clear ez hbt hzz
                cases hwz : withinB y z with
                | true =>
                  have HWZ := Lib.hid hwz
                  have HN : Hid (((list.take (t + 1)).filter fun s => withinB y s).length = cnt + 1) := Lib.hid (by rw [HFT.out, List.length_append, HCN.out]; simp [hwz])
                  clear hwz
                  go_wp2_with fail
                  refine (rwithin_any y z _ hys).mono ?_
                  rintro e w7 ⟨rfl, hb7⟩
                  rw [HWZ.out]
                  have HB7 := Lib.hid (chain0 HBT.out hb7)
                  clear hb7
                  go_wp2_with fail
                  go_roundw
                  case rel => exact ⟨t + 1, cnt + 1, by omega, by go_num, by go_num, by omega, HN, HB7.out⟩
                  case measure => simp [intOf]; omega
                | false =>
                  have HWZ := Lib.hid hwz
                  have HN : Hid (((list.take (t + 1)).filter fun s => withinB y s).length = cnt) := Lib.hid (by rw [HFT.out, List.length_append, HCN.out]; simp [hwz])
                  clear hwz
                  go_wp2_with fail
                  refine (rwithin_any y z _ hys).mono ?_
                  rintro e w7 ⟨rfl, hb7⟩
                  rw [HWZ.out]
                  have HB7 := Lib.hid (chain0 HBT.out hb7)
                  clear hb7
                  go_wp2_with fail
                  go_roundw
                  case rel => exact ⟨t + 1, cnt, by omega, by go_num, rfl, by omega, HN, HB7.out⟩
                  case measure => simp [intOf]; omega
              · obtain rfl : t = k := by omega
                have HCT : Hid ((list.filter fun s => withinB y s).length = cnt) := Lib.hid (by have := HCN.out; rwa [List.take_of_length_le (by have := HNL.out; omega)] at this)
                clear hbt
                by_cases h1 : cnt = 1
                · subst h1
                  have HN : Hid ((ls.take (j + 1)).all (onceB list) = true) := Lib.hid (by rw [HAT.out, HLL.out]; unfold onceB; rw [HCT.out]; rfl)
                  go_wp2_with fail
                  go_roundw
                  case rel => exact ⟨j + 1, by omega, by go_num, HN, HBT.out⟩
                  case measure => simp [intOf]; omega
                · have hc1 : ((cnt : Int) == 1) = false := by rw [beq_eq_false_iff_ne]; omega
                  have hc2 : ((cnt : Int) != 1) = true := by simp [bne, hc1]
                  have HRF := Lib.hid (cover_leaf (list := list) HYM.out (by unfold onceB; rw [HCT.out]; exact decide_eq_false h1))
                  clear h1
                  go_wp2
                  go_ret
                  exact ⟨by rw [HRF.out]; rfl, chain0 HB5.out HBT.out⟩
          · obtain rfl : j = r := by omega
            have HRY := Lib.hid (cover_yes (list := list) HK.out HLA.out (by rw [← HLSE.out]; have := HLL.out; rwa [List.take_of_length_le (by have := HR.out; omega)] at this))
            clear hbr5
            go_wp2
            go_ret
            exact ⟨by rw [HRY.out]; rfl, chain0 HB5.out HBR5.out⟩
end Go.Proofs.YtnmcmnllmnpjkaaDoor
