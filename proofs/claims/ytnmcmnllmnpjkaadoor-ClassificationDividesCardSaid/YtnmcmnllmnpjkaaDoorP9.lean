/- The walk of ClassificationDivides. -/
import Derived.Test.YtnmcmnllmnpjkaaDoorG19
import Derived.Laws.AppendOwnNone
namespace Go.Proofs.YtnmcmnllmnpjkaaDoor
open Go.RowKit Go.Sort Cal Go.Maps
theorem leaves_le (ss : List ByteArray) (u : ByteArray) : (leavesV ss u).length ≤ ss.length := by
  unfold leavesV
  split
  · exact List.length_filter_le _ _
  · simp
theorem kids_le (ss : List ByteArray) (u : ByteArray) : (childrenV ss u).length ≤ ss.length := by
  unfold childrenV
  split
  · exact List.length_filter_le _ _
  · simp
theorem kids_mem {ss : List ByteArray} {u x : ByteArray} (h : x ∈ childrenV ss u) : x ∈ ss := by
  unfold childrenV at h
  split at h
  · exact (List.mem_filter.1 h).1
  · cases h
theorem short_size {ss : List ByteArray} (h : Mild ss) {x : ByteArray} (hx : x ∈ ss) : x.size ≤ 1000 := by have := h.2 x hx; omega
theorem getD_memS {ss : List ByteArray} {k : Nat} (h : k < ss.length) : ss.getD k ByteArray.empty ∈ ss := by
  rw [List.getD, List.getElem?_eq_getElem h]; exact List.getElem_mem h
theorem flat_take (f : ByteArray → List ByteArray) (l : List ByteArray) (k : Nat) (h : k < l.length) : (l.take (k + 1)).flatMap f = (l.take k).flatMap f ++ f (l.getD k ByteArray.empty) := by
  rw [List.take_succ_eq_append_getElem h, List.flatMap_append]
  simp [List.getD, h]
theorem one_str (w : World) (u : ByteArray) (t : TypeId) : StrsAt (w.alloc (.cells #[.string u] t)) (.slice (some ⟨w.heap.size, 0, none⟩) 1 1) [u] :=
  Or.inr ⟨by simp, _, _, _, rfl, by simp, by simp, fun j hj => by
    obtain rfl : j = 0 := by simp at hj; omega
    simp⟩
/-- All cells of a row that is owned, from its beginning. -/
theorem news_all {w : World} {base g n cap : Nat} {e : TypeId} {xs : List Value} (h : w.ownsRow base e 1 (.slice (some ⟨g, 0, none⟩) n cap) n xs) : ∀ j u, xs[j]? = some u → w.cell? ((⟨g, 0, none⟩ : Addr).add j) = some u := by
  have := news_take (k := n) h
  rwa [List.take_of_length_le (by have := h.1; omega)] at this
set_option maxRecDepth 100000 in
set_option maxHeartbeats 6400000 in
theorem divides_walk (w : World) (q1 : Option Addr) (n1 c1 : Nat) (zs1 : List Int) (_e1 : n1 = zs1.length) (_h1 : n1 ≤ c1) (_hm1 : c1 ≤ maxLen) (hz1 : IntsAt w (.slice q1 n1 c1) zs1) (hf1 : Fits zs1) (hE : Env w) :
    Calls Tryd.prog 11 #[.slice q1 n1 c1] w fun e w' => e = .returned (.bool true) ∧ Below w.heap.size w w' := by
  have HE := Lib.hid hE
  have HT := Lib.hid (tape_new hz1 hf1)
  obtain ⟨i0, hi0, hz0, hz1', hz2⟩ := info_parts info9p
  clear hE hz1 hf1 _e1
  go_enter Tryd.func11, Tryd.ntmps11
  go_wp2_with fail
  refine (tree_any w.heap.size (.slice q1 n1 c1) zs1 0 _ HT.out (by omega)).mono ?_
  rintro e w1 ⟨v, PS, i1, rfl, hOK, hP1, hP10, hown, hi1, hT1, ht1⟩
  have hs1 : w.heap.size + 1 ≤ w1.heap.size := by have := ht1.size; simpa using this
  have hown1 : w1.ownsRow (w.heap.size + 3) 9 1 v PS.length ((codesOf PS).map Value.string) := by simpa using hown
  have HBW1 : Hid (Below w.heap.size w w1) := Lib.hid (((Below.refl _ _).alloc (Nat.le_refl _) _).trans (ht1.below (by simp)))
  have HVAL : Hid (validV (codesOf PS) = 0) := Lib.hid (tree_valid hOK hP1 (by omega))
  obtain ⟨n, hn⟩ : ∃ n, n = PS.length := ⟨_, rfl⟩
  obtain ⟨ss, hss⟩ : ∃ ss, ss = codesOf PS := ⟨_, rfl⟩
  have HMI : Hid (Mild ss) := Lib.hid (by rw [hss]; exact mild_tree hOK hP10)
  have HNL : Hid (n = ss.length) := Lib.hid (by rw [hss, hn, codesOf_len])
  rw [← hn] at hP1 hP10 hown1
  rw [← hss] at hown1 HVAL
  clear hown hOK hn hss hT1 ht1
  obtain ⟨g, cp, rfl, hg, hg1⟩ := World.ownsRow.form hown1 (by omega)
  have hbC : Below w1.heap.size w1 ((w1.alloc (.cells #[.string ⟨#[99]⟩, .slice (some ⟨g, 0, none⟩) n cp] 46)).alloc (.cells #[.string ⟨#[]⟩] 9)) := ((Below.refl _ _).alloc (Nat.le_refl _) _).alloc (by simp) _
  have hownC := ownsRow_below hown1 hbC
  have hcb := (pair_blks w1 (.cells #[.string ⟨#[99]⟩, .slice (some ⟨g, 0, none⟩) n cp] 46) (.cells #[.string ⟨#[]⟩] 9)).1
  have hlit : ((w1.alloc (.cells #[.string ⟨#[99]⟩, .slice (some ⟨g, 0, none⟩) n cp] 46)).alloc (.cells #[.string ⟨#[]⟩] 9)).ownsRow (w1.heap.size + 1) 9 1 (.slice (some ⟨w1.heap.size + 1, 0, none⟩) 1 1) 1 [.string ⟨#[]⟩] := by
    have := World.ownsRow_lit (base := w1.heap.size + 1) (e := 9) (size := 1) (w1.alloc (.cells #[.string ⟨#[99]⟩, .slice (some ⟨g, 0, none⟩) n cp] 46)) #[.string ⟨#[]⟩] 1 (by simp) (by decide) rfl
    simpa using this
  have cc1 := cell_blk hcb 1 _ rfl
  have HCB := Lib.hid hcb
  have HBC := Lib.hid hbC
  have hnl : (ss.map Value.string).length = n * 1 := by rw [List.length_map, ← HNL.out]; omega
  have HL1 := Lib.hid hnl
  clear hcb hbC hnl
  go_wp2_with (first
    | (at_builtin; refine wpList_append_own _ rfl _ _ 27 rfl (w1.heap.size + 1) 9 i0 (.string ⟨#[]⟩) 1 16 Tryd.underlying27 hi0 hz0 hz1' hz2 rfl (by decide) _ _ _ rfl hlit ⟨g, 0, none⟩ n cp (ss.map Value.string) rfl HL1.out (news_all hownC) (strs_one _) (by unfold maxLen; omega) (by omega) (by simp) ?_)
    | fail)
  intro v2 w2 hown2 hgrow _
  have hb2 : Below (w1.heap.size + 1) ((w1.alloc (.cells #[.string ⟨#[99]⟩, .slice (some ⟨g, 0, none⟩) n cp] 46)).alloc (.cells #[.string ⟨#[]⟩] 9)) w2 := (Below.refl _ _).grown hgrow (by simp) (fun j e => by have e2 : w1.heap.size + 1 = j := Option.some.inj e; omega)
  have hB2 : Below w.heap.size w w2 := (chain0 HBW1.out HBC.out).trans (hb2.mono (by omega))
  have hcb2 := (hb2.block w1.heap.size (Nat.lt_succ_self _)).trans HCB.out
  have hst2 := strs_of_own (own_belowN hownC (fun p c e => by cases e; show g < w1.heap.size + 1; omega) hb2) HNL.out
  obtain ⟨q0, c0, rfl, -, hstL, -⟩ := own_strs (xs := emptyB :: ss) (show w2.ownsRow (w1.heap.size + 1) 9 1 v2 (1 + n) ((emptyB :: ss).map Value.string) from hown2)
  have hC0 := cell_blk hcb2 0 _ rfl
  have hC1 := cell_blk hcb2 1 _ rfl
  have hs2 : w1.heap.size + 2 ≤ w2.heap.size := by have := hb2.size; simpa using this
  have hCell : ∃ b0 o0, q0 = some ⟨b0, o0, none⟩ ∧ b0 < w2.heap.size ∧ Hid (∀ j, j < 1 + n → w2.cell? ⟨b0, o0 + j, none⟩ = some (.string ((emptyB :: ss).getD j ByteArray.empty))) := by
    rcases hstL with ⟨e, _⟩ | ⟨_, b, off, cap, e, _, hb, hc⟩
    · cases e
    · injection e with e1 e2 e3
      subst e1
      exact ⟨b, off, rfl, hb, Lib.hid (fun j hj => hc j (by have := HNL.out; simp; omega))⟩
  obtain ⟨b0, o0, rfl, hb0, HC⟩ := hCell
  have HB2 := Lib.hid hB2
  have HST := Lib.hid hst2
  have HE2 := Lib.hid (HE.out.below hB2)
  have HSH : Hid (Short ss) := Lib.hid HMI.out.short
  have hl10 : ss.length ≤ 10 := by rw [← HNL.out]; exact hP10
  have HL10 := Lib.hid hl10
  clear hB2 hst2 hown2 hgrow hb2 hcb2 hstL hownC hlit cc1 hown1 hl10
  go_wp2_with fail
  go_loopw [21] (fun i wr => ∃ j : Nat, j ≤ 1 + n ∧ i = .int .i64 j ∧ Below w2.heap.size w2 wr) (fun i _ => 1 + n - (intOf i).toNat)
  case atStart => exact ⟨0, by omega, rfl, Below.refl _ _⟩
  case round =>
    obtain ⟨j, hj, rfl, hbr⟩ := hrel
    have HBR := Lib.hid hbr
    by_cases hlt : j < 1 + n
    · have hju := HC.out j hlt
      have HU : Hid (knownB ss ((emptyB :: ss).getD j ByteArray.empty) = true ∧ ((emptyB :: ss).getD j ByteArray.empty).size ≤ 1000) := Lib.hid (by
        match j with
        | 0 => exact ⟨known_nil HVAL.out, by show emptyB.size ≤ 1000; decide⟩
        | j + 1 =>
          have hm : ss.getD j ByteArray.empty ∈ ss := getD_memS (by have := HNL.out; omega)
          show knownB ss (ss.getD j ByteArray.empty) = true ∧ (ss.getD j ByteArray.empty).size ≤ 1000
          refine ⟨?_, short_size HMI.out hm⟩
          unfold knownB
          rw [Bool.and_eq_true, decide_eq_true_eq, Bool.or_eq_true]
          exact ⟨HVAL.out, Or.inr (any_mem.2 hm)⟩)
      obtain ⟨u, hu⟩ : ∃ u, u = (emptyB :: ss).getD j ByteArray.empty := ⟨_, rfl⟩
      rw [← hu] at hju HU
      have hcu := (hbr.cell (p := ⟨b0, o0 + j, none⟩) hb0).trans hju
      have kC0 := (hbr.cell (p := ⟨w1.heap.size, 0, none⟩) (by simp; omega)).trans hC0
      have kC1 := (hbr.cell (p := ⟨w1.heap.size, 1, none⟩) (by simp; omega)).trans hC1
      have hjd : decide ((j : Int) < 1 + (n : Int)) = true := decide_eq_true (by omega)
      have HSR := Lib.hid (HST.out.below hbr)
      have HER := Lib.hid (HE2.out.below hbr)
      have HDIV := Lib.hid (divides_codes HU.out.1)
      have HKL := Lib.hid (kids_le ss u)
      clear hu hju hbr
      go_wp2_with fail
      refine (children_any ⟨#[99]⟩ _ ss u _ HSR.out (by have := HL10.out; omega) HSH.out HU.out.2 HER.out).mono ?_
      rintro e wk ⟨vk, rfl, hownk, hbk⟩
      obtain ⟨kids, hkids⟩ : ∃ kids, kids = childrenV ss u := ⟨_, rfl⟩
      have HKM : Hid (∀ x ∈ kids, x ∈ ss) := Lib.hid (by rw [hkids]; exact fun x hx => kids_mem hx)
      rw [← hkids] at hownk HDIV HKL
      obtain ⟨nk, hnk⟩ : ∃ nk, nk = kids.length := ⟨_, rfl⟩
      have HNK := Lib.hid hnk
      rw [← hnk] at hownk
      have hnk10 : nk ≤ 10 := by have := HL10.out; have := HKL.out; omega
      obtain ⟨qk, ck, rfl, -, hstk, -⟩ := own_strs hownk
      have HBK := Lib.hid (chain0 HBR.out hbk)
      have HSTK := Lib.hid hstk
      have hsk := hbk.size
      have hs2r := HBR.out.size
      have lC0 := (hbk.cell (p := ⟨w1.heap.size, 0, none⟩) (by simp; omega)).trans kC0
      have lC1 := (hbk.cell (p := ⟨w1.heap.size, 1, none⟩) (by simp; omega)).trans kC1
      clear hkids hnk hownk hstk hbk kC0 kC1
      go_wp2_with fail
      go_loopw [8, 30] (fun o i wq => ∃ (k m : Nat), k ≤ nk ∧ i = .int .i64 k ∧ m ≤ 10 * k ∧ Hid (((kids.take k).flatMap (leavesV ss)).length = m) ∧ wq.ownsRow wk.heap.size 9 1 o m (((kids.take k).flatMap (leavesV ss)).map Value.string) ∧ Below wk.heap.size wk wq) (fun _ i _ => nk - (intOf i).toNat)
      case atStart => exact ⟨0, 0, by omega, rfl, by omega, Lib.hid rfl, World.ownsRow_nil _ _ _ _, Below.refl _ _⟩
      case round =>
        obtain ⟨k, m, hk, rfl, hm10, HM, howna, hbq⟩ := hrel
        have HOA := Lib.hid howna
        have HBQ := Lib.hid hbq
        by_cases hlt2 : k < nk
        · have hcell : ∃ x : ByteArray, Hid (x = kids.getD k ByteArray.empty) ∧ ∃ b off, qk = some ⟨b, off, none⟩ ∧ wr.cell? ⟨b, off + k, none⟩ = some (.string x) := by
            rcases HSTK.out with ⟨e, _⟩ | ⟨_, b, off, cap, e, _, hb, hc⟩
            · have := HNK.out; rw [e] at this; simp at this; omega
            · cases e
              exact ⟨kids.getD k ByteArray.empty, Lib.hid rfl, b, off, rfl, (hbq.cell (p := ⟨b, off + k, none⟩) hb).trans (hc k (by have := HNK.out; omega))⟩
          obtain ⟨x, HX, bq, oq, rfl, hcx⟩ := hcell
          have HXS : Hid (x.size ≤ 1000) := Lib.hid (by rw [HX.out]; exact short_size HMI.out (HKM.out _ (getD_memS (by have := HNK.out; omega))))
          have HFL : Hid ((kids.take (k + 1)).flatMap (leavesV ss) = (kids.take k).flatMap (leavesV ss) ++ leavesV ss x) := Lib.hid (by rw [flat_take _ _ k (by have := HNK.out; omega), HX.out])
          have mC0 := (hbq.cell (p := ⟨w1.heap.size, 0, none⟩) (by simp; omega)).trans lC0
          have mC1 := (hbq.cell (p := ⟨w1.heap.size, 1, none⟩) (by simp; omega)).trans lC1
          have HSQ := Lib.hid (HST.out.below (chain0 HBK.out hbq))
          have HEQ := Lib.hid (HE2.out.below (chain0 HBK.out hbq))
          have HLL := Lib.hid (leaves_le ss x)
          clear howna hbq
          go_wp2_with fail
          refine (leaves_any ⟨#[99]⟩ _ ss x _ HSQ.out (by have := HL10.out; omega) HSH.out HXS.out HEQ.out).mono ?_
          rintro e wl ⟨vl, rfl, hownl, hbl⟩
          obtain ⟨ls, hls⟩ : ∃ ls, ls = leavesV ss x := ⟨_, rfl⟩
          rw [← hls] at hownl HFL HLL
          obtain ⟨r, hr⟩ : ∃ r, r = ls.length := ⟨_, rfl⟩
          have HR := Lib.hid hr
          rw [← hr] at hownl
          have hr10 : r ≤ 10 := by have := HL10.out; have := HLL.out; omega
          have hownA := ownsRow_below HOA.out hbl
          have HBL := Lib.hid (HBQ.out.trans (hbl.mono HBQ.out.size))
          have HOL := Lib.hid hownl
          have hsl := HBL.out.size
          clear hls hr hbl
          rcases hownl.2 with ⟨rfl, hr0⟩ | ⟨gl, cl, cur, rfl, _⟩
          · have HLE : Hid (ls = []) := Lib.hid (List.eq_nil_of_length_eq_zero (by rw [← HR.out]; exact hr0))
            clear hownl
            go_wp2_with (first
              | (at_builtin; refine wpList_append_own_none rfl _ _ 27 rfl wk.heap.size 9 i0 1 Tryd.underlying27 hi0 _ m _ rfl hownA rfl ?_)
              | fail)
            have HNX : Hid ((kids.take (k + 1)).flatMap (leavesV ss) = (kids.take k).flatMap (leavesV ss)) := Lib.hid (by rw [HFL.out, HLE.out, List.append_nil])
            have HOX := Lib.hid hownA
            clear hownA
            go_wp2_with fail
            go_roundw
            case rel => exact ⟨k + 1, m, by omega, by go_num, by omega, Lib.hid (by rw [HNX.out]; exact HM.out), by rw [HNX.out]; exact HOX.out, HBL.out⟩
            case measure => simp [intOf]; omega
          · have hnews := news_all hownl
            have HLR : Hid ((ls.map Value.string).length = r * 1) := Lib.hid (by rw [List.length_map, ← HR.out]; omega)
            clear hownl
            go_wp2_with (first
              | (at_builtin; refine wpList_append_own _ rfl _ _ 27 rfl wk.heap.size 9 i0 (.string ⟨#[]⟩) 1 16 Tryd.underlying27 hi0 hz0 hz1' hz2 rfl (by decide) _ m _ rfl hownA ⟨gl, 0, none⟩ r cl (ls.map Value.string) rfl HLR.out hnews (strs_one _) (by unfold maxLen; omega) (by omega) hsl ?_)
              | fail)
            intro v' w3 hown3 hgrow _
            have HO3 : Hid (w3.ownsRow wk.heap.size 9 1 v' (m + r) (((kids.take (k + 1)).flatMap (leavesV ss)).map Value.string)) := Lib.hid (by rw [HFL.out, List.map_append]; exact hown3)
            have HM3 : Hid (((kids.take (k + 1)).flatMap (leavesV ss)).length = m + r) := Lib.hid (by rw [HFL.out, List.length_append, HM.out, HR.out])
            have HB3 : Hid (Below wk.heap.size wk w3) := Lib.hid (HBL.out.grown hgrow hsl (fun j hj => (hownA.lt j hj).1))
            clear hownA hown3 hgrow hnews
            go_wp2_with fail
            go_roundw
            case rel => exact ⟨k + 1, m + r, by omega, by go_num, by omega, HM3, HO3.out, HB3.out⟩
            case measure => simp [intOf]; omega
        · obtain rfl : k = nk := by omega
          have HTK : Hid (kids.take k = kids) := Lib.hid (List.take_of_length_le (by rw [← HNK.out]; exact Nat.le_refl _))
          have mC0 := (hbq.cell (p := ⟨w1.heap.size, 0, none⟩) (by simp; omega)).trans lC0
          have mC1 := (hbq.cell (p := ⟨w1.heap.size, 1, none⟩) (by simp; omega)).trans lC1
          have hkd : decide ((k : Int) < (k : Int)) = false := decide_eq_false (by omega)
          by_cases h0 : k = 0
          · subst h0
            have HKE : Hid (kids = []) := Lib.hid (List.eq_nil_of_length_eq_zero HNK.out.symm)
            have hb1 : Below wr.heap.size wr (wr.alloc (.cells #[.string u] 9)) := (Below.refl _ _).alloc (Nat.le_refl _) _
            have HBQ1 := Lib.hid (chain0 (chain0 HBK.out HBQ.out) hb1)
            have HONE := Lib.hid (one_str wr u 9)
            have HLV : Hid (leavesV ss u = [u]) := Lib.hid (by rw [HDIV.out, if_pos HKE.out])
            have xC0 := (hb1.cell (p := ⟨w1.heap.size, 0, none⟩) (by have := HBQ.out.size; simp; omega)).trans mC0
            have xC1 := (hb1.cell (p := ⟨w1.heap.size, 1, none⟩) (by have := HBQ.out.size; simp; omega)).trans mC1
            clear howna hbq hb1
            go_wp2_with fail
            refine (leaves_any ⟨#[99]⟩ _ ss u _ (HST.out.below HBQ1.out) (by have := HL10.out; omega) HSH.out HU.out.2 (HE2.out.below HBQ1.out)).mono ?_
            rintro e wl ⟨vl, rfl, hownl, hbl⟩
            rw [HLV.out] at hownl
            have HSL := Lib.hid (strs_of_own hownl rfl)
            have HBL := Lib.hid (chain0 HBQ1.out hbl)
            have HSO := Lib.hid (HONE.out.below hbl)
            clear hownl hbl
            go_wp2_with fail
            refine (same_strings _ _ [u] _ HSL.out HSO.out (by simp)).mono ?_
            rintro e wz ⟨rfl, hbz⟩
            have HBZ := Lib.hid (chain0 HBL.out hbz)
            clear hbz
            go_wp2_with fail
            go_roundw
            case rel => exact ⟨j + 1, by omega, by go_num, HBZ.out⟩
            case measure => simp [intOf]; omega
          · have hkb : ((k : Int) == 0) = false := by rw [beq_eq_false_iff_ne]; omega
            have HBQ1 := Lib.hid (chain0 HBK.out HBQ.out)
            have HLV : Hid (leavesV ss u = (kids.take k).flatMap (leavesV ss)) := Lib.hid (by
              rw [HDIV.out, if_neg (fun e => by have := HNK.out; rw [e] at this; simp at this; omega), HTK.out])
            have HSA := Lib.hid (strs_of_own howna HM.out.symm)
            obtain ⟨pa, la, ca, rfl⟩ := strs_form HSA.out
            clear howna hbq
            go_wp2_with fail
            refine (leaves_any ⟨#[99]⟩ _ ss u _ (HST.out.below HBQ1.out) (by have := HL10.out; omega) HSH.out HU.out.2 (HE2.out.below HBQ1.out)).mono ?_
            rintro e wl ⟨vl, rfl, hownl, hbl⟩
            rw [HLV.out] at hownl
            have HSL := Lib.hid (strs_of_own hownl rfl)
            have HBL := Lib.hid (chain0 HBQ1.out hbl)
            have HSO := Lib.hid (HSA.out.below hbl)
            clear hownl hbl
            go_wp2_with fail
            refine (same_strings _ _ ((kids.take k).flatMap (leavesV ss)) _ HSL.out HSO.out (by rw [HM.out]; omega)).mono ?_
            rintro e wz ⟨rfl, hbz⟩
            have HBZ := Lib.hid (chain0 HBL.out hbz)
            clear hbz
            go_wp2_with fail
            go_roundw
            case rel => exact ⟨j + 1, by omega, by go_num, HBZ.out⟩
            case measure => simp [intOf]; omega
    · have HBX := Lib.hid (chain0 HB2.out hbr)
      clear hbr
      go_wp2_with fail
      refine (awake_any _ (HE.out.below HBX.out)).mono ?_
      rintro e w4 ⟨rfl, hb4⟩
      go_wp2
      go_ret
      exact ⟨rfl, chain0 HBX.out hb4⟩
end Go.Proofs.YtnmcmnllmnpjkaaDoor
