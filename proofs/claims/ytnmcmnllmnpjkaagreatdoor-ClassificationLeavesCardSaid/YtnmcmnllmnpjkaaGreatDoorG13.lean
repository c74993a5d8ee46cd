/- Contract of raw: at most 30 codes of at most 20 bytes each. -/
import Derived.Test.YtnmcmnllmnpjkaaGreatDoorG12
import Derived.Deep.AppendLies
import Derived.RegionTactic
namespace Go.Proofs.YtnmcmnllmnpjkaaGreatDoor
open Go.RowKit Go.Sort Cal Go.Maps
def cut20 (s : ByteArray) : ByteArray := s.extract 0 (min ((s.size : Nat) : Int) 20).toNat
def rawL (ss : List ByteArray) : List ByteArray := (ss.take 30).map cut20
theorem cut20_size (s : ByteArray) : (cut20 s).size ≤ 20 := by unfold cut20; rw [ByteArray.size_extract]; omega
theorem rawL_len (ss : List ByteArray) : (rawL ss).length = min 30 ss.length := by simp [rawL]
theorem rawL_short (ss : List ByteArray) : Short (rawL ss) := by
  intro k
  by_cases h : k < (rawL ss).length
  · have hk : k < (ss.take 30).length := by simpa [rawL] using h
    have e : (rawL ss).getD k emptyB = cut20 ((ss.take 30)[k]'hk) := by
      rw [List.getD, List.getElem?_eq_getElem h]
      simp only [rawL, List.getElem_map, Option.getD_some]
    rw [e]
    have := cut20_size ((ss.take 30)[k]'hk)
    omega
  · have : (rawL ss).getD k emptyB = emptyB := by rw [List.getD, List.getElem?_eq_none (by omega)]; rfl
    rw [this]; decide
theorem rawL_take (ss : List ByteArray) (k : Nat) (h : k < ss.length) (h30 : k < 30) : (rawL ss).take (k + 1) = (rawL ss).take k ++ [cut20 (ss.getD k emptyB)] := by
  have hl : k < (rawL ss).length := by rw [rawL_len]; omega
  rw [List.take_succ_eq_append_getElem hl]
  congr 2
  simp [rawL, List.getD, h]
/-- The struct that raw makes, in block B; its codes behind it. -/
structure RawB (nm : ByteArray) (sv : Value) (v : Value) (w0 w : World) : Prop where
  par : w.heap[w0.heap.size]? = some (.cells #[.string nm, sv] 24 (0, 0))
  res : w.heap[w0.heap.size + 1]? = some (.cells #[.string ⟨#[]⟩, .slice none 0 0] 24 (0, 0))
  blk : w.heap[w0.heap.size + 2]? = some (.cells #[.string nm, v] 24 (0, 0))
  bl : Below w0.heap.size w0 w
theorem RawB.lt {nm : ByteArray} {sv v : Value} {w0 w : World} (h : RawB nm sv v w0 w) : w0.heap.size + 2 < w.heap.size := (Array.getElem?_eq_some_iff.1 h.blk).1
def RawPost (nm : ByteArray) (ss : List ByteArray) (w : World) (e : Ending) (w' : World) : Prop :=
  ∃ v, e = .returned (.agg #[.string nm, v]) ∧ w'.ownsRow (w.heap.size + 3) 9 1 v (rawL ss).length ((rawL ss).map Value.string) ∧ Below w.heap.size w w'
/-- The first m elements of a slice of strings that came in. -/
theorem StrsAt.cut {w : World} {q : Option Addr} {n c : Nat} {zs : List ByteArray} (h : StrsAt w (.slice q n c) zs) (hn : n = zs.length) (m : Nat) (hm : 0 < m) : StrsAt w (.slice q (min (n : Int) (m : Int)).toNat c) (zs.take m) := by
  subst hn
  have e : (min (zs.length : Int) (m : Int)).toNat = min zs.length m := by omega
  rw [e]
  rcases h with ⟨rfl, _⟩ | ⟨h0, b, off, cap, he, hl, hb, hc⟩
  · exact Or.inl ⟨by simp, q, c, by simp⟩
  · cases he
    have hln : (zs.take m).length = min zs.length m := by simp; omega
    refine Or.inr ⟨by omega, b, off, c, by rw [hln], by omega, hb, fun j hj => ?_⟩
    rw [hln] at hj
    rw [show (zs.take m).getD j ByteArray.empty = zs.getD j ByteArray.empty from by simp [List.getD, show j < m from by omega]]
    exact hc j (by omega)
theorem RawB.start (nm : ByteArray) (sv : Value) (w : World) : RawB nm sv (.slice none 0 0) w (((w.alloc (.cells #[.string nm, sv] 24)).alloc (.cells #[.string ⟨#[]⟩, .slice none 0 0] 24)).alloc (.cells #[.string nm, .slice none 0 0] 24)) := by
  refine ⟨?_, ?_, ?_, ((((Below.refl _ _).alloc (Nat.le_refl _) _).alloc (by simp) _).alloc (by simp <;> omega) _)⟩
  · show (Array.push (Array.push (Array.push w.heap _) _) _)[_]? = _
    rw [Array.getElem?_push, if_neg (by simp <;> omega), Array.getElem?_push, if_neg (by simp), Array.getElem?_push, if_pos rfl]
  · show (Array.push (Array.push (Array.push w.heap _) _) _)[_]? = _
    rw [Array.getElem?_push, if_neg (by simp), Array.getElem?_push, if_pos (by simp)]
  · show (Array.push (Array.push (Array.push w.heap _) _) _)[_]? = _
    rw [Array.getElem?_push, if_pos (by simp)]
theorem RawB.below {nm : ByteArray} {sv v : Value} {w0 w w1 : World} (h : RawB nm sv v w0 w) (hb : Below w.heap.size w w1) : RawB nm sv v w0 w1 :=
  ⟨(hb.block _ (by have := h.lt; omega)).trans h.par, (hb.block _ (by have := h.lt; omega)).trans h.res, (hb.block _ h.lt).trans h.blk, h.bl.trans (hb.mono h.bl.size)⟩
theorem RawB.grown {nm : ByteArray} {sv v v' : Value} {w0 w2 w3 : World} {row : Option Nat} (h : RawB nm sv v w0 w2) (hg : w2.grownBy w3 row) (hlo : ∀ j, row = some j → w0.heap.size + 3 ≤ j) : RawB nm sv v' w0 (w3.setCell ⟨w0.heap.size + 2, 1, none⟩ v') := by
  have key : ∀ k, k ≤ w0.heap.size + 2 → w3.heap[k]? = w2.heap[k]? := fun k hk => hg.block k (by have := h.lt; omega) (fun e => by have := hlo k e.symm; omega)
  refine ⟨set_other ((key _ (by omega)).trans h.par) (by omega) 1 v', set_other ((key _ (by omega)).trans h.res) (by omega) 1 v', by have := set_blk ((key _ (Nat.le_refl _)).trans h.blk) 1 v'; simpa using this, ?_⟩
  exact ((h.bl.grown hg h.bl.size (fun j hj => by have := hlo j hj; omega))).setCell (p := ⟨w0.heap.size + 2, 1, none⟩) (by simp) _
theorem RawB.fin {nm : ByteArray} {sv v : Value} {w0 w : World} (h : RawB nm sv v w0 w) (x u : Value) :
    (((w.setCell ⟨w0.heap.size + 1, 0, none⟩ x).setCell ⟨w0.heap.size + 1, 1, none⟩ u).cell? ⟨w0.heap.size + 1, 0, none⟩ = some x ∧ ((w.setCell ⟨w0.heap.size + 1, 0, none⟩ x).setCell ⟨w0.heap.size + 1, 1, none⟩ u).cell? ⟨w0.heap.size + 1, 1, none⟩ = some u) ∧
    Below w0.heap.size w0 ((w.setCell ⟨w0.heap.size + 1, 0, none⟩ x).setCell ⟨w0.heap.size + 1, 1, none⟩ u) := by
  have hr := set_blk (set_blk h.res 0 x) 1 u
  exact ⟨⟨cell_blk hr 0 x rfl, cell_blk hr 1 u rfl⟩, (h.bl.setCell (p := ⟨w0.heap.size + 1, 0, none⟩) (by simp) _).setCell (p := ⟨w0.heap.size + 1, 1, none⟩) (by simp) _⟩
theorem map_take_succ (ts : List ByteArray) (k : Nat) (h : k < ts.length) : ((ts.map cut20).take (k + 1)).map Value.string = ((ts.map cut20).take k).map Value.string ++ [Value.string (cut20 (ts.getD k ByteArray.empty))] := by
  rw [List.take_succ_eq_append_getElem (by simpa using h), List.map_append]
  simp [List.getD, h]
set_option maxRecDepth 100000 in
set_option maxHeartbeats 3200000 in
theorem raw_any (nm : ByteArray) (q : Option Addr) (n c : Nat) (ss : List ByteArray) (w : World) (hn : n = ss.length) (hnc : n ≤ c) (hcm : c ≤ maxLen) (hv : StrsAt w (.slice q n c) ss) (hz : ∀ s ∈ ss, s.size ≤ maxLen) :
    Calls Tryz.prog 4 #[.agg #[.string nm, .slice q n c]] w (RawPost nm ss w) := by
  obtain ⟨i0, hi0, hz0, hz1, hz2⟩ := info_parts info9p
  have hnm : n ≤ 9223372036854775807 := by unfold maxLen at hcm; omega
  have hc3 : c ≤ 9223372036854775807 := by unfold maxLen at hcm; omega
  have HS := Lib.hid (RawB.start nm (.slice q n c) w)
  have hcut := hv.cut hn 30 (by omega)
  have hlt : (ss.take 30).length ≤ 30 := List.length_take_le _ _
  have HZ : Hid (∀ s ∈ ss.take 30, s.size ≤ 9223372036854775807) := Lib.hid (fun s hs => by have := hz s (List.mem_of_mem_take hs); unfold maxLen at this; omega)
  have HRT : Hid (rawL ss = (ss.take 30).map cut20) := Lib.hid rfl
  obtain ⟨ts, hts⟩ : ∃ ts, ts = ss.take 30 := ⟨_, rfl⟩
  obtain ⟨m, hm⟩ : ∃ m, m = ts.length := ⟨_, rfl⟩
  have hmin : min (n : Int) 30 = (m : Int) := by rw [hm, hts, List.length_take, hn]; omega
  have hmc : m ≤ c := by omega
  have hm3 : (m : Int) ≤ (c : Int) := by omega
  rw [← hts] at hcut hlt HZ HRT
  rw [show ((30 : Nat) : Int) = 30 from rfl, hmin] at hcut
  have hcut' : StrsAt w (.slice q m c) ts := by simpa using hcut
  have hm30 : m ≤ 30 := by omega
  have HM := Lib.hid hm
  have HCUT := Lib.hid hcut'
  clear hv hz hn hts hm hcut hcut' hlt
  go_enter Tryz.func4, Tryz.ntmps4
  go_wp2_with fail
  go_loopw [17] (fun i wr => ∃ (k : Nat) (v : Value), k ≤ m ∧ i = .int .i64 k ∧ RawB nm (.slice q n c) v w wr ∧ wr.ownsRow (w.heap.size + 3) 9 1 v k (((ts.map cut20).take k).map Value.string)) (fun i _ => m - (intOf i).toNat)
  case atStart => exact ⟨0, _, by omega, rfl, HS.out, World.ownsRow_nil _ _ _ _⟩
  case round =>
    obtain ⟨k, v, hk, rfl, hR, hown⟩ := hrel
    have HR := Lib.hid hR
    have HOW := Lib.hid hown
    by_cases hlt : k < m
    · have hcell : ∃ s : ByteArray, s.size ≤ 9223372036854775807 ∧ Hid (s = ts.getD k ByteArray.empty) ∧ ∃ b off, q = some ⟨b, off, none⟩ ∧ wr.cell? ⟨b, off + k, none⟩ = some (.string s) := by
        rcases HCUT.out with ⟨e, _⟩ | ⟨_, b, off, cap, e, _, hb, hc⟩
        · have := HM.out; rw [e] at this; simp at this; omega
        · cases e
          have hkt : k < ts.length := by rw [← HM.out]; exact hlt
          refine ⟨ts.getD k ByteArray.empty, ?_, Lib.hid rfl, b, off, rfl, (hR.bl.cell (p := ⟨b, off + k, none⟩) hb).trans (hc k hkt)⟩
          rw [List.getD, List.getElem?_eq_getElem hkt]
          exact HZ.out _ (List.getElem_mem hkt)
      obtain ⟨s, hss, HSS, b, off, rfl, hcs⟩ := hcell
      have hp0 : (0 : Int) ≤ min ((s.size : Nat) : Int) 20 := by omega
      have hp2 : min ((s.size : Nat) : Int) 20 ≤ ((s.size : Nat) : Int) := by omega
      have HT : Hid (((ts.map cut20).take (k + 1)).map Value.string = ((ts.map cut20).take k).map Value.string ++ [Value.string (s.extract 0 (min ((s.size : Nat) : Int) 20).toNat)]) := Lib.hid (by
        rw [map_take_succ ts k (by rw [← HM.out]; exact hlt), HSS.out]; rfl)
      have cf := cell_blk hR.blk 1 v rfl
      have ff := free_blk hR.blk 1
      have hsz := hR.lt
      clear hR hown
      have HLO : Hid (∀ j, v.ownBlock = some j → w.heap.size + 3 ≤ j) := Lib.hid (fun j hj => (HOW.out.lt j hj).1)
      go_wp2_with fail
      go_region_law ((refine step_append_lies _ (by rfl) _ _ 22 (by rfl) (w.heap.size + 3) 9 i0 (.string ⟨#[]⟩) 1 16 Tryz.underlying22 hi0 hz0 hz1 hz2 (by rfl) (by decide) v k _ (by rfl) (ownsRow_below HOW.out (((Below.refl _ _).drew).alloc (by simp) _)) ⟨wr.heap.size, 0, none⟩ 1 1 [.string (s.extract 0 (min ((s.size : Nat) : Int) 20).toNat)] (by rfl) (by rfl) (cell_one_new _ _ _) (by simp [Value.oneCell']) (by decide) (by unfold maxLen; omega) (by omega) (by simp; omega) _ rfl ?_; intro g cap w1 hown1 hgrow hat hlt1; have HRA := HR.out.below (((Below.refl _ wr).drew).alloc (by simp) (.cells #[.string (s.extract 0 (min ((s.size : Nat) : Int) 20).toNat)] 9)); have hb1 := (hgrow.block (w.heap.size + 2) (by simp; omega) (fun e => by have := HLO.out _ e.symm; omega)).trans HRA.blk; have cf1 := cell_blk hb1 1 v rfl; have ff1 := free_blk hb1 1))
      all_goals
        have HRN := Lib.hid (HRA.grown (v' := .slice (some ⟨g, 0, none⟩) (k + 1) cap) hgrow HLO.out)
        have HON : Hid ((w1.setCell ⟨w.heap.size + 2, 1, none⟩ (.slice (some ⟨g, 0, none⟩) (k + 1) cap)).ownsRow (w.heap.size + 3) 9 1 (.slice (some ⟨g, 0, none⟩) (k + 1) cap) (k + 1) (((ts.map cut20).take (k + 1)).map Value.string)) := Lib.hid (by
          rw [HT.out]; exact own_store hown1 (Nat.lt_succ_self _))
        clear hown1 hgrow hat HRA hb1 cf1 ff1 cf ff
        go_wp2_with fail
        go_roundw
        case rel => exact ⟨k + 1, _, by omega, by go_num, HRN.out, HON.out⟩
        case measure => simp [intOf]; omega
    · obtain rfl : k = m := by omega
      have c0 := cell_blk hR.blk 0 _ rfl
      have c1 := cell_blk hR.blk 1 _ rfl
      have r0 := cell_blk hR.res 0 _ rfl
      have r1 := cell_blk hR.res 1 _ rfl
      have f0 := free_blk hR.res 0
      have f1 := free_blk hR.res 1
      have hsl := hR.lt
      have HFIN := Lib.hid (hR.fin (.string nm) v)
      have HOWN : Hid (((wr.setCell ⟨w.heap.size + 1, 0, none⟩ (.string nm)).setCell ⟨w.heap.size + 1, 1, none⟩ v).ownsRow (w.heap.size + 3) 9 1 v (rawL ss).length ((rawL ss).map Value.string)) := Lib.hid (by
        have e : (rawL ss).length = k := by rw [HRT.out, List.length_map, HM.out]
        have h := own_store (own_store hown (show w.heap.size + 1 < w.heap.size + 3 by omega) (i := 0) (u := .string nm)) (show w.heap.size + 1 < w.heap.size + 3 by omega) (i := 1) (u := v)
        rw [List.take_of_length_le (by rw [List.length_map, ← HM.out]; omega), ← HRT.out] at h
        rw [e]; exact h)
      have hform : ∃ p l cc, v = .slice p l cc := by
        rcases hown.2 with ⟨h, _⟩ | ⟨g, cap, cur, h, _⟩
        · exact ⟨_, _, _, h⟩
        · exact ⟨_, _, _, h⟩
      obtain ⟨p, l, cc, rfl⟩ := hform
      clear hR hown
      go_wp2
      have a0 := HFIN.out.1.1
      have a1 := HFIN.out.1.2
      exact bodyPost_ret (v := .agg #[.string nm, .slice p l cc]) (by simp [results, Tryz.results4, go_sem, a0, a1]) rfl ⟨_, rfl, HOWN.out, HFIN.out.2⟩
end Go.Proofs.YtnmcmnllmnpjkaaGreatDoor
