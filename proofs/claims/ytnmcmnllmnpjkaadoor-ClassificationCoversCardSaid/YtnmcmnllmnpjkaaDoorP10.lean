/- The walk of ClassificationCovers. -/
import Derived.Test.YtnmcmnllmnpjkaaDoorG21
import Derived.Deep.RegionHeld3
namespace Go.Proofs.YtnmcmnllmnpjkaaDoor
open Go.RowKit Go.Sort Cal Go.Maps
theorem children_len (ss : List ByteArray) (u : ByteArray) : (childrenV ss u).length ≤ ss.length := by
  unfold childrenV
  split
  · exact List.length_filter_le _ _
  · simp
theorem children_mem {ss : List ByteArray} {u x : ByteArray} (h : x ∈ childrenV ss u) : x ∈ ss := by
  unfold childrenV at h
  split at h
  · exact (List.mem_filter.1 h).1
  · cases h
theorem field_one (s : ByteArray) (q : Option Addr) (n c : Nat) (w : World) : Sem.run Tryd.prog (Instr.field 46 (.agg #[.string s, .slice q n c]) 1) w = .ok (.slice q n c) w := by
  first | kernel_rfl | rfl
theorem rawS_len (ss : List ByteArray) : (rawL ss).length ≤ 1000000 := by rw [rawL_len]; omega
theorem touch_own {b : Nat} {w w' : World} {base size n : Nat} {e : TypeId} {v : Value} {xs : List Value} (h : w.ownsRow base e size v n xs) (ht : Touch b w w') (hb : b < base) : w'.ownsRow base e size v n xs := ownsRow_touch h ht hb
/-- Between two steps of ClassificationCovers: the classification that came in, the made one in block D, its codes in block g, the tape. -/
structure CvB (nm : ByteArray) (sv : Value) (D g m cp : Nat) (ts : List ByteArray) (tv : Value) (zs : List Int) (i : Nat) (w0 w : World) : Prop where
  cls : w.heap[w0.heap.size]? = some (.cells #[.string nm, sv] 46 (0, 0))
  dbl : w.heap[D]? = some (.cells #[.string ⟨#[99]⟩, .slice (some ⟨g, 0, none⟩) m cp] 46 (0, 0))
  row : w.ownsRow (w0.heap.size + 4) 9 1 (.slice (some ⟨g, 0, none⟩) m cp) m (ts.map Value.string)
  tape : TapeAt (w0.heap.size + 1) tv zs i w
  bl : Below w0.heap.size w0 w
  lo : w0.heap.size + 2 ≤ D
  gd : g < D
section
variable {nm : ByteArray} {sv tv : Value} {D g m cp i j : Nat} {ts : List ByteArray} {zs : List Int} {w0 w w1 : World}
theorem CvB.lt (h : CvB nm sv D g m cp ts tv zs i w0 w) : D < w.heap.size := (Array.getElem?_eq_some_iff.1 h.dbl).1
theorem CvB.fresh {N : Nat} (h : CvB nm sv D g m cp ts tv zs i w0 w) (hb : Below N w w1) (hN : D < N) : CvB nm sv D g m cp ts tv zs i w0 w1 := by
  have hl := h.lo
  exact ⟨(hb.block _ (by omega)).trans h.cls, (hb.block _ hN).trans h.dbl, own_belowN h.row (fun p c e => by have := h.gd; cases e; show g < N; omega) hb, h.tape.keep (fun k hk => hb.block k (by omega)), h.bl.trans (hb.mono (by omega)), hl, h.gd⟩
theorem CvB.below (h : CvB nm sv D g m cp ts tv zs i w0 w) (hb : Below w.heap.size w w1) : CvB nm sv D g m cp ts tv zs i w0 w1 := h.fresh hb h.lt
theorem CvB.next (h : CvB nm sv D g m cp ts tv zs i w0 w) (hT : TapeAt (w0.heap.size + 1) tv zs j w1) (ht : Touch (w0.heap.size + 1) w w1) : CvB nm sv D g m cp ts tv zs j w0 w1 := by
  have hl := h.lo
  have hd := h.lt
  refine ⟨(ht.block _ (by omega) (by omega)).trans h.cls, (ht.block _ hd (by omega)).trans h.dbl, ownsRow_touch h.row ht (by omega), hT, ?_, hl, h.gd⟩
  exact h.bl.trans ((ht.below (by omega)).mono (by omega))
end
theorem news_all {w : World} {base g n cap : Nat} {e : TypeId} {xs : List Value} (h : w.ownsRow base e 1 (.slice (some ⟨g, 0, none⟩) n cap) n xs) : ∀ j u, xs[j]? = some u → w.cell? ((⟨g, 0, none⟩ : Addr).add j) = some u := by
  have := news_take (k := n) h
  rwa [List.take_of_length_le (by have := h.1; omega)] at this
theorem idx_lt {k m : Nat} (h : (k : Int) < (m : Int) + 1) : k < 1 + m ∧ (k : Int) < 1 + (m : Int) := by omega
theorem known_at {ts : List ByteArray} {m k : Nat} (hv : validV ts = 0) (hm : Mild ts) (hl : m = ts.length) (hk : k < 1 + m) : knownB ts ((emptyB :: ts).getD k ByteArray.empty) = true ∧ ((emptyB :: ts).getD k ByteArray.empty).size ≤ 1000 := by
  match k with
  | 0 => exact ⟨known_nil hv, by show emptyB.size ≤ 1000; decide⟩
  | j + 1 =>
    have hj : ts.getD j ByteArray.empty ∈ ts := getD_memB (by omega)
    show knownB ts (ts.getD j ByteArray.empty) = true ∧ (ts.getD j ByteArray.empty).size ≤ 1000
    refine ⟨?_, by have := hm.2 _ hj; omega⟩
    unfold knownB
    rw [Bool.and_eq_true, decide_eq_true_eq, Bool.or_eq_true]
    exact ⟨hv, Or.inr (any_mem.2 hj)⟩
set_option maxRecDepth 100000 in
set_option maxHeartbeats 6400000 in
theorem covers_walk (w : World) (nm : ByteArray) (q : Option Addr) (n c : Nat) (ss : List ByteArray) (hn : n = ss.length) (hnc : n ≤ c) (hcm : c ≤ maxLen) (hv : StrsAt w (.slice q n c) ss) (hz : ∀ s ∈ ss, s.size ≤ maxLen)
    (s : ByteArray) (hs : s.size ≤ maxLen) (q2 : Option Addr) (n2 c2 : Nat) (ls : List ByteArray) (hn2 : n2 = ls.length) (hnc2 : n2 ≤ c2) (hcm2 : c2 ≤ maxLen) (hv2 : StrsAt w (.slice q2 n2 c2) ls) (hz2 : ∀ s ∈ ls, s.size ≤ maxLen)
    (q1 : Option Addr) (n1 c1 : Nat) (zs1 : List Int) (_e1 : n1 = zs1.length) (_h1 : n1 ≤ c1) (_hm1 : c1 ≤ maxLen) (hz1 : IntsAt w (.slice q1 n1 c1) zs1) (hf1 : Fits zs1) (hE : Env w) :
    Calls Tryd.prog 12 #[.agg #[.string nm, .slice q n c], .string s, .slice q2 n2 c2, .slice q1 n1 c1] w fun e w' => e = .returned (.bool true) ∧ Below w.heap.size w w' := by
  have HE := Lib.hid hE
  obtain ⟨i0, hi0, hz0, hz1', hz2'⟩ := info_parts info9p
  have hb0 : Below w.heap.size w (w.alloc (.cells #[.string nm, .slice q n c] 46)) := (Below.refl _ _).alloc (Nat.le_refl _) _
  have hTT := tape_new (hz1.below hb0) hf1
  rw [World.size_alloc] at hTT
  have HT := Lib.hid hTT
  have HV := Lib.hid hv
  have HN := Lib.hid hn
  have HZ := Lib.hid hz
  have HV2 := Lib.hid hv2
  have HN2 := Lib.hid hn2
  have HZ2 := Lib.hid hz2
  have hms : s.size ≤ 9223372036854775807 := by unfold maxLen at hs; omega
  have hm0 : (0 : Int) ≤ min ((s.size : Nat) : Int) 20 := by omega
  have hm2 : min ((s.size : Nat) : Int) 20 ≤ ((s.size : Nat) : Int) := by omega
  have hu0 : (s.extract 0 (min ((s.size : Nat) : Int) 20).toNat).size ≤ 20 := by rw [ByteArray.size_extract]; omega
  have HU0 := Lib.hid hu0
  have hb1 := hb0.alloc hb0.size (.cells #[.slice q1 n1 c1, .int .i64 0] 26)
  have HB1 := Lib.hid hb1
  clear hE hz1 hf1 _e1 hTT hb0 hb1 hv hn hz hv2 hn2 hz2 hs hu0
  go_enter Tryd.func12, Tryd.ntmps12
  go_wp2_with fail
  refine (tree_any (w.heap.size + 1) (.slice q1 n1 c1) zs1 0 _ HT.out (by omega)).mono ?_
  rintro e w1 ⟨v, PS, i1, rfl, hOK, hP1, hP10, hown, hi1, hT1, ht1⟩
  have hs1 : w.heap.size + 2 ≤ w1.heap.size := by have := ht1.size; simpa using this
  have hown1 : w1.ownsRow (w.heap.size + 4) 9 1 v PS.length ((codesOf PS).map Value.string) := by simpa using hown
  have HBW1 : Hid (Below w.heap.size w w1) := Lib.hid (HB1.out.trans ((ht1.below (by simp)).mono (by omega)))
  have HVAL : Hid (validV (codesOf PS) = 0) := Lib.hid (tree_valid hOK hP1 (by omega))
  obtain ⟨m, hm⟩ : ∃ m, m = PS.length := ⟨_, rfl⟩
  obtain ⟨ts, hts⟩ : ∃ ts, ts = codesOf PS := ⟨_, rfl⟩
  have HMI : Hid (Mild ts) := Lib.hid (by rw [hts]; exact mild_tree hOK hP10)
  have HNL : Hid (m = ts.length) := Lib.hid (by rw [hts, hm, codesOf_len])
  rw [← hm] at hP1 hP10 hown1
  rw [← hts] at hown1 HVAL
  have hpb : w1.heap[w.heap.size]? = some (.cells #[.string nm, .slice q n c] 46 (0, 0)) := by
    refine (ht1.block _ (by simp; omega) (by omega)).trans ?_
    exact (pair_blks w _ _).1
  obtain ⟨g, cp, rfl, hg, hg1⟩ := World.ownsRow.form hown1 (by omega)
  have hbD : Below w1.heap.size w1 (w1.alloc (.cells #[.string ⟨#[99]⟩, .slice (some ⟨g, 0, none⟩) m cp] 46)) := (Below.refl _ _).alloc (Nat.le_refl _) _
  have hdb : (w1.alloc (.cells #[.string ⟨#[99]⟩, .slice (some ⟨g, 0, none⟩) m cp] 46)).heap[w1.heap.size]? = some (.cells #[.string ⟨#[99]⟩, .slice (some ⟨g, 0, none⟩) m cp] 46 (0, 0)) := by
    show (w1.heap.push _)[_]? = _
    rw [Array.getElem?_push, if_pos rfl]
  have HCV : Hid (CvB nm (.slice q n c) w1.heap.size g m cp ts (.slice q1 n1 c1) zs1 i1 w (w1.alloc (.cells #[.string ⟨#[99]⟩, .slice (some ⟨g, 0, none⟩) m cp] 46))) := Lib.hid ⟨(hbD.block _ (by omega)).trans hpb, hdb, ownsRow_below hown1 hbD, hT1.below hbD, chain0 HBW1.out hbD, hs1, hg1⟩
  have hcd := cell_blk hdb 1 _ rfl
  clear hown hOK hm hts hT1 ht1 hpb hdb hbD hown1
  obtain ⟨wd, hwd⟩ : ∃ wd, wd = w1.alloc (.cells #[.string ⟨#[99]⟩, .slice (some ⟨g, 0, none⟩) m cp] 46) := ⟨_, rfl⟩
  have hsd : w1.heap.size + 1 = wd.heap.size := by rw [hwd]; simp
  rw [← hwd] at HCV hcd
  go_upto_region 3 with fail
  rw [← hwd]
  clear hwd
  have hbL : Below wd.heap.size wd (wd.drew.alloc (.cells #[.string ⟨#[]⟩] 9)) := ((Below.refl _ _).drew).alloc (by simp) _
  have HCL := Lib.hid (HCV.out.below hbL)
  have hlit : (wd.drew.alloc (.cells #[.string ⟨#[]⟩] 9)).ownsRow wd.heap.size 9 1 (.slice (some ⟨wd.heap.size, 0, none⟩) 1 1) 1 [.string ⟨#[]⟩] := World.ownsRow_lit (base := wd.heap.size) (e := 9) (size := 1) wd.drew #[.string ⟨#[]⟩] 1 (Nat.le_refl _) (by decide) rfl
  have HLIT := Lib.hid hlit
  have L1 : Hid ((ts.map Value.string).length = m * 1) := Lib.hid (by rw [List.length_map, ← HNL.out]; omega)
  have M1 : Hid (1 + m ≤ maxLen ∧ (1 + m) * 16 ≤ 140737488355328 ∧ wd.heap.size ≤ (wd.drew.alloc (.cells #[.string ⟨#[]⟩] 9)).heap.size) := Lib.hid ⟨by unfold maxLen; omega, by omega, by simp⟩
  have M2 : Hid (i1 ≤ 1000000 ∧ (1 : Int) ≤ (m : Int) + 1 ∧ (m : Int) + 1 ≤ 1000000) := Lib.hid ⟨by omega, by omega, by omega⟩
  have M3 : Hid (0 < 1 + m ∧ w1.heap.size < wd.heap.size ∧ w.heap.size + 1 < wd.heap.size) := Lib.hid ⟨by omega, by omega, by omega⟩
  obtain ⟨Lf, hLf⟩ : ∃ Lf : Nat → ByteArray, Lf = fun k => (emptyB :: ts).getD k ByteArray.empty := ⟨_, rfl⟩
  have HLF : Hid (∀ k, k < 1 + m → knownB ts (Lf k) = true ∧ (Lf k).size ≤ 1000) := Lib.hid (fun k hk => by rw [hLf]; exact known_at HVAL.out HMI.out HNL.out hk)
  have HLC : Hid (∀ k, k < 1 + m → ((emptyB :: ts).map Value.string)[k]? = some (.string (Lf k))) := Lib.hid (fun k hk => by
    rw [hLf, List.getElem?_map, List.getElem?_eq_getElem (by have := HNL.out; simp; omega)]
    simp [List.getD, List.getElem?_eq_getElem (show k < (emptyB :: ts).length by have := HNL.out; simp; omega)])
  have hsz8 : (w1.heap.size : Nat) ≠ wd.heap.size := by omega
  have cL : (wd.alloc (.cells #[.string ⟨#[]⟩] 9)).cell? ⟨w1.heap.size, 1, none⟩ = some (.slice (some ⟨g, 0, none⟩) m cp) := cell_blk (((Below.refl wd.heap.size wd).alloc (Nat.le_refl _) _).block _ (by omega) |>.trans HCV.out.dbl) 1 _ rfl
  clear hLf hbL hlit hsd
  go_cut [11] (fun uv wx => ∃ u : ByteArray, uv = .string u ∧ knownB ts u = true ∧ u.size ≤ 1000 ∧ CvB nm (.slice q n c) w1.heap.size g m cp ts (.slice q1 n1 c1) zs1 (i1 + 1) w wx)
  case first =>
    have hw : IntKind.i64.wrap ((m : Int) + 1) = (m : Int) + 1 := IntWalk.i64_in _ (by omega)
    go_region_law (first
      | (refine step_append_at (by rfl) _ _ 27 (by rfl) wd.heap.size 9 i0 (.string ⟨#[]⟩) 1 16 Tryd.underlying27 hi0 hz0 hz1' hz2' (by rfl) (by decide) (.slice (some ⟨wd.heap.size, 0, none⟩) 1 1) 1 _ (by rfl) HLIT.out ⟨g, 0, none⟩ m cp (ts.map Value.string) (by rfl) L1.out (news_all HCL.out.row) (strs_one _) M1.out.1 M1.out.2.1 M1.out.2.2 ?_; intro v5 w5 hown5 hgrow5; obtain ⟨g5, c5, rfl, hg5, hg5l⟩ := World.ownsRow.form hown5 M3.out.1; have hb5 : Below wd.heap.size (wd.drew.alloc (.cells #[.string ⟨#[]⟩] 9)) w5 := (Below.refl _ _).grown hgrow5 M1.out.2.2 (fun j e => by have e2 : wd.heap.size = j := Option.some.inj e; exact Nat.le_of_eq e2); have HC5 := Lib.hid (HCL.out.fresh hb5 M3.out.2.1); have cf5 := cell_blk HC5.out.dbl 1 _ rfl; have HO5 := Lib.hid hown5; clear hb5 hgrow5 hown5)
      | (go_simp; go_at_call 21; refine (next_some (w.heap.size + 1) (.slice q1 n1 c1) zs1 i1 ((m : Int) + 1) _ HC5.out.tape M2.out.1 M2.out.2.1 M2.out.2.2).mono ?_; rintro e w6 ⟨x, hx0, hx1, rfl, hT6, ht6⟩; obtain ⟨k, rfl⟩ := Int.eq_ofNat_of_zero_le hx0; have HK := Lib.hid (idx_lt hx1); have hki := HK.out.2; have HC6 := Lib.hid (HC5.out.next hT6 ht6); have HO6 := Lib.hid (ownsRow_touch HO5.out ht6 M3.out.2.2); have cx6 : w6.cell? ⟨g5, k, none⟩ = some (.string (Lf k)) := ((HO6.out.cellAt k (by rw [Nat.mul_one]; exact HK.out.1)).trans (HLC.out k HK.out.1)); have cf6 := cell_blk HC6.out.dbl 1 _ rfl; clear hT6 ht6))
    all_goals
      clear hw
      go_wp2_with fail
      go_meet
      case rel => exact ⟨Lf k, rfl, (HLF.out k HK.out.1).1, (HLF.out k HK.out.1).2, HC6.out⟩
  case rest =>
    obtain ⟨u, rfl, hku, hus, hC⟩ := hcut
    have HKU := Lib.hid hku
    have HUS := Lib.hid hus
    have HC := Lib.hid hC
    have cfc := cell_blk hC.dbl 1 _ rfl
    have hltc := hC.lt
    have hlo := hC.lo
    have HVT := Lib.hid HVAL.out
    clear hku hus hC HLF HLC M1 M2 M3 L1 HLIT HCL cL hcd
    go_wp2_with fail
    go_loopw [12, 35] (fun o i wr => ∃ (k t i2 : Nat) (L : List ByteArray), k ≤ m ∧ i = .int .i64 k ∧ t ≤ k ∧ Hid (L.length = t ∧ ∀ x ∈ L, x ∈ ts) ∧ wr.ownsRow wc.heap.size 9 1 o t (L.map Value.string) ∧ CvB nm (.slice q n c) w1.heap.size g m cp ts (.slice q1 n1 c1) zs1 i2 w wr ∧ i2 ≤ i1 + 1 + k ∧ wc.heap.size ≤ wr.heap.size) (fun _ i _ => m - (intOf i).toNat)
    case atStart => exact ⟨0, 0, _, [], by omega, rfl, by omega, Lib.hid ⟨rfl, fun x h => by cases h⟩, World.ownsRow_nil _ _ _ _, HC.out, by omega, Nat.le_refl _⟩
    case round =>
      obtain ⟨k, t, i2, L, hk, rfl, htk, HL, hown, hCr, hi2, hsr⟩ := hrel
      have HCR := Lib.hid hCr
      have HOW := Lib.hid hown
      by_cases hlt : k < m
      · have hkt : k < ts.length := by have := HNL.out; omega
        have cx : wr.cell? ⟨g, k, none⟩ = some (.string (ts[k]'hkt)) := by rw [hCr.row.cellAt k (by omega)]; simp [hkt]
        have HXM : Hid ((ts[k]'hkt) ∈ ts) := Lib.hid (List.getElem_mem hkt)
        obtain ⟨x, hx⟩ : ∃ x, x = ts[k]'hkt := ⟨_, rfl⟩
        rw [← hx] at cx HXM
        clear hx hCr hown
        go_wp2_with fail
        refine (next_some (w.heap.size + 1) (.slice q1 n1 c1) zs1 i2 2 _ HCR.out.tape (by omega) (by omega) (by omega)).mono ?_
        rintro e w2 ⟨y, hy0, hy1, rfl, hT2, ht2⟩
        have HC2 := Lib.hid (HCR.out.next hT2 ht2)
        have hown2 := ownsRow_touch HOW.out ht2 (by omega)
        have HO2 := Lib.hid hown2
        have hs2 : wc.heap.size ≤ w2.heap.size := Nat.le_trans hsr ht2.size
        clear hT2 ht2
        by_cases hy : y = 0
        · subst hy
          go_wp2_with (first
            | (at_builtin; refine wpList_append_own _ rfl _ _ 27 rfl wc.heap.size 9 i0 (.string ⟨#[]⟩) 1 16 Tryd.underlying27 hi0 hz0 hz1' hz2' rfl (by decide) _ _ _ rfl (hown2.alloc _) ⟨w2.heap.size, 0, none⟩ 1 1 [.string x] rfl rfl (cell_one_new _ _ _) (by simp [Value.oneCell']) (by unfold maxLen; omega) (by omega) (by simp; omega) ?_)
            | fail)
          intro v' w3 hown3 hgrow _
          have hb3 : Below wc.heap.size w2 w3 := ((Below.refl _ w2).alloc hs2 _).grown hgrow (by simp; omega) (fun j hj => (hown2.lt j hj).1)
          have HC3 := Lib.hid (HC2.out.fresh hb3 hltc)
          have HO3 : Hid (w3.ownsRow wc.heap.size 9 1 v' (t + 1) ((L ++ [x]).map Value.string)) := Lib.hid (by rw [List.map_append]; exact hown3)
          have HL3 : Hid ((L ++ [x]).length = t + 1 ∧ ∀ z ∈ L ++ [x], z ∈ ts) := Lib.hid ⟨by rw [List.length_append, HL.out.1]; rfl, fun z hz => by
            rcases List.mem_append.1 hz with h | h
            · exact HL.out.2 z h
            · rw [List.mem_singleton.1 h]; exact HXM.out⟩
          have hs3 : wc.heap.size ≤ w3.heap.size := Nat.le_trans hs2 hb3.size
          clear hown2 hown3 hgrow hb3
          go_wp2_with fail
          go_roundw
          case rel => exact ⟨k + 1, t + 1, i2 + 1, _, by omega, by go_num, by omega, HL3, HO3.out, HC3.out, by omega, hs3⟩
          case measure => simp [intOf]; omega
        · have hyb : (y == 0) = false := by rw [beq_eq_false_iff_ne]; exact hy
          clear hown2
          go_wp2_with fail
          go_roundw
          case rel => exact ⟨k + 1, t, i2 + 1, L, by omega, by go_num, by omega, HL, HO2.out, HC2.out, by omega, hs2⟩
          case measure => simp [intOf]; omega
      · obtain rfl : k = m := by omega
        have cA := cell_blk hCr.cls 0 _ rfl
        have cB := cell_blk hCr.cls 1 _ rfl
        have hsw : w.heap.size + 2 ≤ wr.heap.size := by omega
        obtain ⟨qo, co, rfl, -, hsto, hqo⟩ := own_strs hown
        have HSO := Lib.hid hsto
        have HQO := Lib.hid hqo
        clear hCr hown hsto hqo cfc
        go_wp2_with fail
        refine (raw_any nm q n c ss _ HN.out hnc hcm (HV.out.below HCR.out.bl) HZ.out).mono ?_
        rintro e w3 ⟨v, rfl, hown3, hb3⟩
        obtain ⟨q3, c3, rfl, -, hst3, hq3⟩ := own_strs hown3
        have hpb3 := (hb3.block w.heap.size (by omega)).trans HCR.out.cls
        have hdb3 := (hb3.block w1.heap.size (by omega)).trans HCR.out.dbl
        have hrow3 := ownsRow_below HCR.out.row hb3
        have hp30 := cell_blk hpb3 0 _ rfl
        have hp31 := cell_blk hpb3 1 _ rfl
        have hg30 := free_blk hpb3 0
        have hg31 := free_blk hpb3 1
        have hl3 := rawS_len ss
        obtain ⟨m3, hm3⟩ : ∃ m, m = (rawL ss).length := ⟨_, rfl⟩
        rw [← hm3] at hst3 ⊢
        clear hm3 hown3
        have HRS : Hid (Short (rawL ss)) := Lib.hid (rawL_short ss)
        obtain ⟨rs, hrs⟩ : ∃ rs, rs = rawL ss := ⟨_, rfl⟩
        rw [← hrs] at hst3 HRS hl3
        clear hrs
        have PB4 := set_blk (set_blk hpb3 0 (.string nm)) 1 (.slice q3 m3 c3)
        have DB4 := set_other (set_other hdb3 (show w1.heap.size ≠ w.heap.size by omega) 0 (.string nm)) (show w1.heap.size ≠ w.heap.size by omega) 1 (.slice q3 m3 c3)
        have S34 := strs_store (N := w.heap.size) (x := .string nm) (u := .slice q3 m3 c3) hst3 (fun q' n' c' e _ => by cases e; have := hq3 _ rfl; omega)
        have S44 := strs_store (N := w.heap.size) (x := .string nm) (u := .slice q3 m3 c3) (HSO.out.below hb3) (fun q' n' c' e _ => by cases e; have := HQO.out _ rfl; omega)
        have R44 := own_store (own_store hrow3 (show w.heap.size < w.heap.size + 4 by omega) (i := 0) (u := .string nm)) (show w.heap.size < w.heap.size + 4 by omega) (i := 1) (u := .slice q3 m3 c3)
        have B4 := ((chain0 HCR.out.bl hb3).setCell (p := ⟨w.heap.size, 0, none⟩) (Nat.le_refl _) (.string nm)).setCell (p := ⟨w.heap.size, 1, none⟩) (Nat.le_refl _) (.slice q3 m3 c3)
        have hs34 : w1.heap.size < w3.heap.size := by have := hb3.size; omega
        obtain ⟨W4, hW4⟩ : ∃ W4, W4 = (w3.setCell ⟨w.heap.size, 0, none⟩ (.string nm)).setCell ⟨w.heap.size, 1, none⟩ (.slice q3 m3 c3) := ⟨_, rfl⟩
        have hs44 : w1.heap.size < W4.heap.size := by rw [hW4]; simpa [World.setCell] using hs34
        rw [← hW4] at PB4 DB4 S34 S44 R44 B4
        have HPB4 := Lib.hid PB4
        have HDB4 := Lib.hid DB4
        have HS34 := Lib.hid S34
        have HS44 := Lib.hid S44
        have HR44 := Lib.hid R44
        have HB4 := Lib.hid B4
        clear PB4 DB4 S34 S44 R44 B4 hpb3 hdb3 hrow3 hst3 hq3 hb3 cA cB
        go_wp2_with fail
        rw [← hW4]
        clear hW4 hp30 hp31 hg30 hg31
        refine (raw_any ⟨#[]⟩ q2 n2 c2 ls _ HN2.out hnc2 hcm2 (HV2.out.below HB4.out) HZ2.out).mono ?_
        rintro e w5 ⟨v5, rfl, hown5, hb5⟩
        obtain ⟨q5, c5, rfl, -, hst5, -⟩ := own_strs hown5
        obtain ⟨m5, hm5⟩ : ∃ m, m = (rawL ls).length := ⟨_, rfl⟩
        rw [← hm5] at hst5 ⊢
        clear hm5 hown5
        have hl5 := rawS_len ls
        have HRS5 : Hid (Short (rawL ls)) := Lib.hid (rawL_short ls)
        obtain ⟨r5, hr5⟩ : ∃ rs, rs = rawL ls := ⟨_, rfl⟩
        rw [← hr5] at hst5 HRS5 hl5
        clear hr5
        have HPB5 := Lib.hid ((hb5.block w.heap.size (by omega)).trans HPB4.out)
        have HDB5 := Lib.hid ((hb5.block w1.heap.size hs44).trans HDB4.out)
        have HB5 := Lib.hid (chain0 HB4.out hb5)
        have S3 := HS34.out.below hb5
        have S4 := HS44.out.below hb5
        have S5 := hst5
        have ST := strs_of_own (ownsRow_below HR44.out hb5) HNL.out
        have hL10 : L.length ≤ 1000000 := by have := HL.out.1; omega
        have HLS : Hid (Short L) := Lib.hid (fun j => by
          have := getD_size L 15 (fun x hx => HMI.out.2 x (HL.out.2 x hx)) j
          show (L.getD j ByteArray.empty).size ≤ 1000
          omega)
        have hts10 : ts.length ≤ 1000000 := by have := HMI.out.1; omega
        have KS : Hid (∀ W, Below w5.heap.size w5 W → W.cell? ⟨w.heap.size, 0, none⟩ = some (.string nm) ∧ W.cell? ⟨w.heap.size, 1, none⟩ = some (.slice q3 m3 c3) ∧ W.cell? ⟨w1.heap.size, 0, none⟩ = some (.string ⟨#[99]⟩) ∧ W.cell? ⟨w1.heap.size, 1, none⟩ = some (.slice (some ⟨g, 0, none⟩) k cp) ∧ Below w5.heap.size w5 W) := Lib.hid (fun W hW => by
          have h1 := (hW.block w.heap.size (Array.getElem?_eq_some_iff.1 HPB5.out).1).trans HPB5.out
          have h2 := (hW.block w1.heap.size (Array.getElem?_eq_some_iff.1 HDB5.out).1).trans HDB5.out
          exact ⟨cell_blk h1 0 _ rfl, cell_blk h1 1 _ rfl, cell_blk h2 0 _ rfl, cell_blk h2 1 _ rfl, hW⟩)
        have HEW : Hid (∀ W, Below w5.heap.size w5 W → Env W) := Lib.hid (fun W hW => (HE.out.below HB5.out).below hW)
        obtain ⟨s9, hs9⟩ : ∃ s9, s9 = s.extract 0 (min ((s.size : Nat) : Int) 20).toNat := ⟨_, rfl⟩
        have hs20 : s9.size ≤ 1000 := by rw [hs9]; have := HU0.out; omega
        have HS9 := Lib.hid hs9
        obtain ⟨f1, hf1⟩ : ∃ f, f = coverV rs s9 r5 := ⟨_, rfl⟩
        obtain ⟨f2, hf2⟩ : ∃ f, f = coverV ts u L := ⟨_, rfl⟩
        have A1 : Hid (∀ W, Below w5.heap.size w5 W → Calls Tryd.prog 42 #[.agg #[.string nm, .slice q3 m3 c3], .string s9, .slice q5 m5 c5] W fun e w' => e = .returned (.bool f1) ∧ Below W.heap.size W w') := Lib.hid (fun W hW => by
          rw [hf1]; exact cover_any nm _ rs s9 _ r5 W (S3.below hW) hl3 HRS.out hs20 (S5.below hW) hl5 HRS5.out (HEW.out W hW))
        have A2 : Hid (∀ W, Below w5.heap.size w5 W → Calls Tryd.prog 43 #[.agg #[.string nm, .slice q3 m3 c3], .string s9, .slice q5 m5 c5] W fun e w' => e = .returned (.bool f1) ∧ Below W.heap.size W w') := Lib.hid (fun W hW => by
          rw [hf1]; exact rcover_any nm _ rs s9 _ r5 W (S3.below hW) hl3 HRS.out (S5.below hW) hl5 HRS5.out)
        have A3 : Hid (∀ W, Below w5.heap.size w5 W → Calls Tryd.prog 42 #[.agg #[.string ⟨#[99]⟩, .slice (some ⟨g, 0, none⟩) k cp], .string u, .slice qo t co] W fun e w' => e = .returned (.bool f2) ∧ Below W.heap.size W w') := Lib.hid (fun W hW => by
          rw [hf2]; exact cover_any ⟨#[99]⟩ _ ts u _ L W (ST.below hW) hts10 HMI.out.short HUS.out (S4.below hW) hL10 HLS.out (HEW.out W hW))
        have A4 : Hid (∀ W, Below w5.heap.size w5 W → Calls Tryd.prog 43 #[.agg #[.string ⟨#[99]⟩, .slice (some ⟨g, 0, none⟩) k cp], .string u, .slice qo t co] W fun e w' => e = .returned (.bool f2) ∧ Below W.heap.size W w') := Lib.hid (fun W hW => by
          rw [hf2]; exact rcover_any ⟨#[99]⟩ _ ts u _ L W (ST.below hW) hts10 HMI.out.short (S4.below hW) hL10 HLS.out)
        have A5 : Hid (∀ W, Below w5.heap.size w5 W → Calls Tryd.prog 44 #[.agg #[.string ⟨#[99]⟩, .slice (some ⟨g, 0, none⟩) k cp], .string u] W fun e w' => ∃ q6 n6 c6, e = .returned (.slice q6 n6 c6) ∧ StrsAt w' (.slice q6 n6 c6) (leavesV ts u) ∧ Below W.heap.size W w') := Lib.hid (fun W hW =>
          (rleaves_any ⟨#[99]⟩ _ ts u W (ST.below hW) hts10 HMI.out.short).mono (fun e w' ⟨v, he, ho, hb⟩ => by
            obtain ⟨q6, c6, rfl, -, h6, -⟩ := own_strs ho
            exact ⟨q6, _, c6, he, h6, hb⟩))
        have A6 : Hid (∀ W q6 n6 c6, Below w5.heap.size w5 W → StrsAt W (.slice q6 n6 c6) (leavesV ts u) → Calls Tryd.prog 42 #[.agg #[.string ⟨#[99]⟩, .slice (some ⟨g, 0, none⟩) k cp], .string u, .slice q6 n6 c6] W fun e w' => e = .returned (.bool true) ∧ Below W.heap.size W w') := Lib.hid (fun W q6 n6 c6 hW h6 => by
          have h := cover_any ⟨#[99]⟩ _ ts u _ (leavesV ts u) W (ST.below hW) hts10 HMI.out.short HUS.out h6 (by have := leaves_len ts u; omega) (fun j => by
            have := getD_size (leavesV ts u) 15 (fun x hx => HMI.out.2 x (leaves_mem hx)) j
            show ((leavesV ts u).getD j ByteArray.empty).size ≤ 1000
            omega) (HEW.out W hW)
          rwa [cover_leaves HKU.out] at h)
        have hke : knownB ts emptyB = true := known_nil HVT.out
        have A7 : Hid (∀ W, Below w5.heap.size w5 W → Calls Tryd.prog 45 #[.agg #[.string ⟨#[99]⟩, .slice (some ⟨g, 0, none⟩) k cp], .string ⟨#[]⟩] W fun e w' => ∃ q7 n7 c7, e = .returned (.slice q7 n7 c7) ∧ StrsAt w' (.slice q7 n7 c7) (childrenV ts emptyB) ∧ Below W.heap.size W w') := Lib.hid (fun W hW =>
          (rchildren_any ⟨#[99]⟩ _ ts emptyB W (ST.below hW) hts10 HMI.out.short).mono (fun e w' ⟨v, he, ho, hb⟩ => by
            obtain ⟨q6, c6, rfl, -, h6, -⟩ := own_strs ho
            exact ⟨q6, _, c6, he, h6, hb⟩))
        have A8 : Hid (∀ W q7 n7 c7, Below w5.heap.size w5 W → StrsAt W (.slice q7 n7 c7) (childrenV ts emptyB) → Calls Tryd.prog 42 #[.agg #[.string ⟨#[99]⟩, .slice (some ⟨g, 0, none⟩) k cp], .string ⟨#[]⟩, .slice q7 n7 c7] W fun e w' => e = .returned (.bool true) ∧ Below W.heap.size W w') := Lib.hid (fun W q7 n7 c7 hW h7 => by
          have h := cover_any ⟨#[99]⟩ _ ts emptyB _ (childrenV ts emptyB) W (ST.below hW) hts10 HMI.out.short (by decide) h7 (by have := children_len ts emptyB; omega) (fun j => by
            have := getD_size (childrenV ts emptyB) 15 (fun x hx => HMI.out.2 x (children_mem hx)) j
            show ((childrenV ts emptyB).getD j ByteArray.empty).size ≤ 1000
            omega) (HEW.out W hW)
          rwa [cover_children hke] at h)
        have A9 : Hid (∀ W, Below w5.heap.size w5 W → Calls Tryd.prog 19 #[] W fun e w' => e = .returned (.bool true) ∧ Below W.heap.size W w') := Lib.hid (fun W hW => awake_any W (HEW.out W hW))
        clear S3 S4 S5 ST hst5 hb5 hf1 hf2 hke hl3 hl5 hs9 hs20 hL10 hts10
        have hfield := field_one ⟨#[]⟩ q5 m5 c5 w5
        go_wp2_with fail
        rw [← HS9.out]
        clear hfield
        go_region_held3 (fun w' => w'.cell? ⟨w.heap.size, 0, none⟩ = some (.string nm) ∧ w'.cell? ⟨w.heap.size, 1, none⟩ = some (.slice q3 m3 c3) ∧ w'.cell? ⟨w1.heap.size, 0, none⟩ = some (.string ⟨#[99]⟩) ∧ w'.cell? ⟨w1.heap.size, 1, none⟩ = some (.slice (some ⟨g, 0, none⟩) k cp) ∧ Below w5.heap.size w5 w') (exact KS.out _ (by first | assumption | exact (Below.refl _ _).drew)) (first
          | (go_at_call 42; first
              | ((with_reducible refine (A1.out _ (by first | assumption | exact (Below.refl _ _).drew)).mono ?_); rintro e w6 ⟨rfl, hb6⟩; have hB6 : Below w5.heap.size w5 w6 := chain0 (by first | assumption | exact (Below.refl _ _).drew) hb6; clear hb6)
              | ((with_reducible refine (A3.out _ (by first | assumption | exact (Below.refl _ _).drew)).mono ?_); rintro e w6 ⟨rfl, hb6⟩; have hB6 : Below w5.heap.size w5 w6 := chain0 (by first | assumption | exact (Below.refl _ _).drew) hb6; clear hb6)
              | ((with_reducible refine (A6.out _ _ _ _ (by first | assumption | exact (Below.refl _ _).drew) (by assumption)).mono ?_); rintro e w6 ⟨rfl, hb6⟩; have hB6 : Below w5.heap.size w5 w6 := chain0 (by first | assumption | exact (Below.refl _ _).drew) hb6; clear hb6)
              | ((with_reducible refine (A8.out _ _ _ _ (by first | assumption | exact (Below.refl _ _).drew) (by assumption)).mono ?_); rintro e w6 ⟨rfl, hb6⟩; have hB6 : Below w5.heap.size w5 w6 := chain0 (by first | assumption | exact (Below.refl _ _).drew) hb6; clear hb6))
          | (go_at_call 43; first
              | ((with_reducible refine (A2.out _ (by first | assumption | exact (Below.refl _ _).drew)).mono ?_); rintro e w6 ⟨rfl, hb6⟩; have hB6 : Below w5.heap.size w5 w6 := chain0 (by first | assumption | exact (Below.refl _ _).drew) hb6; clear hb6)
              | ((with_reducible refine (A4.out _ (by first | assumption | exact (Below.refl _ _).drew)).mono ?_); rintro e w6 ⟨rfl, hb6⟩; have hB6 : Below w5.heap.size w5 w6 := chain0 (by first | assumption | exact (Below.refl _ _).drew) hb6; clear hb6))
          | (go_at_call 44; refine (A5.out _ (by first | assumption | exact (Below.refl _ _).drew)).mono ?_; rintro e w6 ⟨q6, n6, c6, rfl, hS6, hb6⟩; have hB6 : Below w5.heap.size w5 w6 := chain0 (by first | assumption | exact (Below.refl _ _).drew) hb6; clear hb6)
          | (go_at_call 45; refine (A7.out _ (by first | assumption | exact (Below.refl _ _).drew)).mono ?_; rintro e w6 ⟨q7, n7, c7, rfl, hS7, hb6⟩; have hB6 : Below w5.heap.size w5 w6 := chain0 (by first | assumption | exact (Below.refl _ _).drew) hb6; clear hb6)
          | (go_at_call 19; refine (A9.out _ (by first | assumption | exact (Below.refl _ _).drew)).mono ?_; rintro e w6 ⟨rfl, hb6⟩; have hB6 : Below w5.heap.size w5 w6 := chain0 (by first | assumption | exact (Below.refl _ _).drew) hb6; clear hb6))
        go_wp2
        go_ret
        exact ⟨rfl, chain0 HB5.out hB6⟩
end Go.Proofs.YtnmcmnllmnpjkaaDoor
