/- The walk of ClassificationLeaves. -/
import Derived.Test.YtnmcmnllmnpjkaaGreatDoorG20
import Derived.Laws.AppendOwnNone
import Derived.Deep.RegionHeld3
namespace Go.Proofs.YtnmcmnllmnpjkaaGreatDoor
open Go.RowKit Go.Sort Cal Go.Maps
theorem children_len (ss : List ByteArray) (u : ByteArray) : (childrenV ss u).length ≤ ss.length := by
  unfold childrenV
  split
  · exact List.length_filter_le _ _
  · simp
theorem leaves_len (ss : List ByteArray) (u : ByteArray) : (leavesV ss u).length ≤ ss.length := by
  unfold leavesV
  split
  · exact List.length_filter_le _ _
  · simp
theorem rawS_len (ss : List ByteArray) : (rawL ss).length ≤ 1000000 := by rw [rawL_len]; omega
theorem tape_of {w0 w : World} {sv : Value} {zs : List Int} {b : Nat} (hI : IntsAt w0 sv zs) (hf : Fits zs) (hb : Below w0.heap.size w0 w) (hle : w0.heap.size ≤ b) (hblk : w.heap[b]? = some (.cells #[sv, .int .i64 0] 28 (0, 0))) : TapeAt b sv zs 0 w := by
  refine ⟨by simpa using hblk, ?_, hf⟩
  rcases hI with h | ⟨h0, b', off, cap, e, _, hlt, hc⟩
  · exact Or.inl h
  · exact Or.inr ⟨h0, b', off, cap, e, Nat.lt_of_lt_of_le hlt hle, fun j hj => (hb.cell (p := ⟨b', off + j, none⟩) hlt).trans (hc j hj)⟩
theorem two_new (w : World) (x y : Value) (t : TypeId) : ∀ j u, [x, y][j]? = some u → (w.alloc (.cells #[x, y] t)).cell? ((⟨w.heap.size, 0, none⟩ : Addr).add j) = some u := by
  intro j u hu
  rw [Go.WideShapes.add_plain, Nat.zero_add]
  have hj : j = 0 ∨ j = 1 := by have := (List.getElem?_eq_some_iff.1 hu).1; simp at this; omega
  rcases hj with rfl | rfl
  · simp at hu; subst hu; simp
  · simp at hu; subst hu; simp
theorem strs_news {w : World} {a : Addr} {n c : Nat} {ss : List ByteArray} (h : StrsAt w (.slice (some a) n c) ss) : ∀ j u, (ss.map Value.string)[j]? = some u → w.cell? (a.add j) = some u := by
  intro j u hu
  have hj := (List.getElem?_eq_some_iff.1 hu).1
  rw [List.length_map] at hj
  rcases h with ⟨rfl, _⟩ | ⟨_, b, off, cap, e, _, _, hc⟩
  · simp at hj
  · injection e with e1 e2 e3
    have e4 := Option.some.inj e1
    subst e4
    rw [Go.WideShapes.add_plain, hc j hj]
    rw [← hu]
    simp [List.getD, hj]
theorem strs_nil {w : World} {n c : Nat} {ss : List ByteArray} (h : StrsAt w (.slice none n c) ss) : n = 0 ∧ ss = [] := by
  rcases h with ⟨rfl, p, c', e⟩ | ⟨_, b, off, cap, e, _⟩
  · injection e with e1 e2; exact ⟨e2, rfl⟩
  · cases e
/-- What is known behind the list of ClassificationLeaves. -/
structure LfW (nm : ByteArray) (s3 : Value) (D : Nat) (s6 : Value) (rs ts : List ByteArray) (w0 w : World) : Prop where
  cls : w.heap[w0.heap.size]? = some (.cells #[.string nm, s3] 24 (0, 0))
  dbl : w.heap[D]? = some (.cells #[.string ⟨#[99]⟩, s6] 24 (0, 0))
  cst : StrsAt w s3 rs
  dst : StrsAt w s6 ts
  bl : Below w0.heap.size w0 w
  cne : ∀ a n c, s3 = .slice (some a) n c → a.block ≠ w0.heap.size + 1
  dne : ∀ a n c, s6 = .slice (some a) n c → 0 < n → a.block ≠ w0.heap.size + 1
  lo : w0.heap.size + 2 ≤ D
theorem strs_touch {w w' : World} {b : Nat} {v : Value} {ss : List ByteArray} (h : StrsAt w v ss) (ht : Touch b w w') (hq : ∀ a n c, v = .slice (some a) n c → 0 < n → a.block ≠ b) : StrsAt w' v ss := by
  rcases h with h | ⟨h0, b', off, cap, e, hl, hlt, hc⟩
  · exact Or.inl h
  · have hne := hq _ _ _ e h0
    exact Or.inr ⟨h0, b', off, cap, e, hl, Nat.lt_of_lt_of_le hlt ht.size, fun j hj => (World.cell?_of_block (w := w) (w' := w') (a := ⟨b', off + j, none⟩) (ht.block b' hlt hne)).trans (hc j hj)⟩
theorem LfW.below {nm : ByteArray} {s3 s6 : Value} {D : Nat} {rs ts : List ByteArray} {w0 w w1 : World} (h : LfW nm s3 D s6 rs ts w0 w) (hb : Below w.heap.size w w1) : LfW nm s3 D s6 rs ts w0 w1 :=
  ⟨(hb.block _ (Array.getElem?_eq_some_iff.1 h.cls).1).trans h.cls, (hb.block _ (Array.getElem?_eq_some_iff.1 h.dbl).1).trans h.dbl, h.cst.below hb, h.dst.below hb, h.bl.trans (hb.mono h.bl.size), h.cne, h.dne, h.lo⟩
theorem LfW.touch {nm : ByteArray} {s3 s6 : Value} {D : Nat} {rs ts : List ByteArray} {w0 w w1 : World} (h : LfW nm s3 D s6 rs ts w0 w) (ht : Touch (w0.heap.size + 1) w w1) : LfW nm s3 D s6 rs ts w0 w1 := by
  have hl := h.lo
  have hd := (Array.getElem?_eq_some_iff.1 h.dbl).1
  exact ⟨(ht.block _ (by omega) (by omega)).trans h.cls, (ht.block _ hd (by omega)).trans h.dbl, strs_touch h.cst ht (fun a n c e _ => h.cne a n c e), strs_touch h.dst ht h.dne, h.bl.trans ((ht.below (by omega)).mono (by omega)), h.cne, h.dne, hl⟩
theorem LfW.fresh {nm : ByteArray} {s3 s6 : Value} {D N : Nat} {rs ts : List ByteArray} {w0 w w1 : World} (h : LfW nm s3 D s6 rs ts w0 w) (hb : Below N w w1) (hD : D < N) (h3 : ∀ a n c, s3 = .slice (some a) n c → 0 < n → a.block < N) (h6 : ∀ a n c, s6 = .slice (some a) n c → 0 < n → a.block < N) : LfW nm s3 D s6 rs ts w0 w1 := by
  have hl := h.lo
  have st : ∀ {v : Value} {l : List ByteArray}, StrsAt w v l → (∀ a n c, v = .slice (some a) n c → 0 < n → a.block < N) → StrsAt w1 v l := by
    intro v l hv hq
    rcases hv with k | ⟨h0, b', off, cap, e, k, hlt, hc⟩
    · exact Or.inl k
    · have hne := hq _ _ _ e h0
      exact Or.inr ⟨h0, b', off, cap, e, k, Nat.lt_of_lt_of_le hlt hb.size, fun j hj => (hb.cell (p := ⟨b', off + j, none⟩) hne).trans (hc j hj)⟩
  exact ⟨(hb.block _ (by omega)).trans h.cls, (hb.block _ hD).trans h.dbl, st h.cst h3, st h.dst h6, h.bl.trans (hb.mono (by omega)), h.cne, h.dne, hl⟩
theorem strs_block {w : World} {v : Value} {ss : List ByteArray} (h : StrsAt w v ss) : ∀ a n c, v = .slice (some a) n c → 0 < n → a.block < w.heap.size := by
  intro a n c e hn
  rcases h with ⟨_, p, c', e2⟩ | ⟨_, b, off, cap, e2, _, hlt, _⟩
  · rw [e2] at e; injection e with e3 e4; omega
  · rw [e2] at e; injection e with e3 e4; have := Option.some.inj e3; subst this; exact hlt
theorem short_list2 {ts : List ByteArray} {s : ByteArray} (h : Mild ts) (hs : s.size ≤ 15) : ∀ x ∈ ts ++ [emptyB, s], x.size ≤ 1000 := by
  intro x hx
  rcases List.mem_append.1 hx with k | k
  · have := h.2 x k; omega
  · simp only [List.mem_cons, List.not_mem_nil, or_false] at k
    rcases k with rfl | rfl
    · decide
    · omega
set_option maxRecDepth 100000 in
set_option maxHeartbeats 6400000 in
theorem leaves_walk (w : World) (nm : ByteArray) (q : Option Addr) (n c : Nat) (ss : List ByteArray) (hn : n = ss.length) (hnc : n ≤ c) (hcm : c ≤ maxLen) (hv : StrsAt w (.slice q n c) ss) (hz : ∀ s ∈ ss, s.size ≤ maxLen)
    (s : ByteArray) (hs : s.size ≤ maxLen)
    (q1 : Option Addr) (n1 c1 : Nat) (zs1 : List Int) (_e1 : n1 = zs1.length) (_h1 : n1 ≤ c1) (_hm1 : c1 ≤ maxLen) (hz1 : IntsAt w (.slice q1 n1 c1) zs1) (hf1 : Fits zs1) (hE : Env w) :
    Calls Tryz.prog 3 #[.agg #[.string nm, .slice q n c], .string s, .slice q1 n1 c1] w fun e w' => e = .returned (.bool true) ∧ Below w.heap.size w w' := by
  have HE := Lib.hid hE
  obtain ⟨i0, hi0, hz0, hz1', hz2'⟩ := info_parts info9p
  have hbP := pair_blks w (.cells #[.string nm, .slice q n c] 24) (.cells #[.slice q1 n1 c1, .int .i64 0] 28)
  have HBP := Lib.hid hbP
  have hb1 : Below w.heap.size w ((w.alloc (.cells #[.string nm, .slice q n c] 24)).alloc (.cells #[.slice q1 n1 c1, .int .i64 0] 28)) := ((Below.refl _ _).alloc (Nat.le_refl _) _).alloc (by simp) _
  have HB1 := Lib.hid hb1
  have HV := Lib.hid hv
  have HN := Lib.hid hn
  have HZ := Lib.hid hz
  have HI := Lib.hid hz1
  have HF := Lib.hid hf1
  have hms : s.size ≤ 9223372036854775807 := by unfold maxLen at hs; omega
  have hm0 : (0 : Int) ≤ min ((s.size : Nat) : Int) 20 := by omega
  have hm2 : min ((s.size : Nat) : Int) 20 ≤ ((s.size : Nat) : Int) := by omega
  have hu0 : (s.extract 0 (min ((s.size : Nat) : Int) 20).toNat).size ≤ 1000 := by rw [ByteArray.size_extract]; omega
  obtain ⟨s9, hs9⟩ : ∃ s9, s9 = s.extract 0 (min ((s.size : Nat) : Int) 20).toNat := ⟨_, rfl⟩
  rw [← hs9] at hu0
  have HS9 := Lib.hid hs9
  have HU0 := Lib.hid hu0
  clear hE hz1 hf1 _e1 hb1 hbP hv hn hz hs hu0 hs9
  go_enter Tryz.func3, Tryz.ntmps3
  go_wp2_with fail
  refine (raw_any nm q n c ss _ HN.out hnc hcm (HV.out.below HB1.out) HZ.out).mono ?_
  rintro e w3 ⟨v, rfl, hown3, hb3⟩
  obtain ⟨q3, c3, rfl, -, hst3, hq3⟩ := own_strs hown3
  have hs3 : w.heap.size + 2 ≤ w3.heap.size := by have := hb3.size; simpa using this
  have hpb3 := (hb3.block w.heap.size (by simp; omega)).trans HBP.out.1
  have htb3 := (hb3.block (w.heap.size + 1) (by simp)).trans HBP.out.2
  have hp30 := cell_blk hpb3 0 _ rfl
  have hp31 := cell_blk hpb3 1 _ rfl
  have hg30 := free_blk hpb3 0
  have hg31 := free_blk hpb3 1
  have hl3 := rawS_len ss
  obtain ⟨m3, hm3⟩ : ∃ m, m = (rawL ss).length := ⟨_, rfl⟩
  rw [← hm3] at hst3 ⊢
  clear hm3 hown3
  have HRS : Hid (Short (rawL ss)) := Lib.hid (rawL_short ss)
  obtain ⟨rs, hrs⟩ : ∃ rs, rs = rawL ss := ⟨_, rfl⟩
  rw [← hrs] at hst3 HRS hl3
  have HL3 := Lib.hid hl3
  clear hrs hl3
  have PB4 := set_blk (set_blk hpb3 0 (.string nm)) 1 (.slice q3 m3 c3)
  have TB4 := set_other (set_other htb3 (show w.heap.size + 1 ≠ w.heap.size by omega) 0 (.string nm)) (show w.heap.size + 1 ≠ w.heap.size by omega) 1 (.slice q3 m3 c3)
  have S34 := strs_store (N := w.heap.size) (x := .string nm) (u := .slice q3 m3 c3) hst3 (fun q' n' c' e _ => by cases e; have := hq3 _ rfl; simp at this; omega)
  have B4 := ((chain0 HB1.out hb3).setCell (p := ⟨w.heap.size, 0, none⟩) (Nat.le_refl _) (.string nm)).setCell (p := ⟨w.heap.size, 1, none⟩) (Nat.le_refl _) (.slice q3 m3 c3)
  obtain ⟨W4, hW4⟩ : ∃ W4, W4 = (w3.setCell ⟨w.heap.size, 0, none⟩ (.string nm)).setCell ⟨w.heap.size, 1, none⟩ (.slice q3 m3 c3) := ⟨_, rfl⟩
  have hs4 : w.heap.size + 2 ≤ W4.heap.size := by rw [hW4]; simpa [World.setCell] using hs3
  rw [← hW4] at PB4 TB4 S34 B4
  have HPB4 := Lib.hid PB4
  have HQ3 : Hid (∀ a, q3 = some a → w.heap.size + 5 ≤ a.block) := Lib.hid (fun a e => by have := hq3 a e; simpa using this)
  have HS34 := Lib.hid S34
  have HB4 := Lib.hid B4
  have HT4 := Lib.hid (tape_of HI.out HF.out B4 (Nat.le_succ _) TB4)
  clear PB4 TB4 S34 B4 hpb3 htb3 hst3 hq3 hb3
  go_wp2_with fail
  rw [← hW4]
  clear hW4 hp30 hp31 hg30 hg31
  refine (spoiled_any (w.heap.size + 1) (.slice q1 n1 c1) zs1 0 _ HT4.out (by omega)).mono ?_
  rintro e w5 ⟨q6, n6, c6, ts, i5, rfl, hmi, hnt, hst6, hi5, hT5, ht5, hqn, hqb⟩
  rw [← HS9.out]
  have HMI := Lib.hid hmi
  have HNT := Lib.hid hnt
  have hn20 : n6 ≤ 20 := by have := hmi.1; omega
  have hs5 : W4.heap.size ≤ w5.heap.size := ht5.size
  have hb54 : Below (w.heap.size + 1) W4 w5 := ht5.below (by omega)
  have hpb5 := (ht5.block w.heap.size (by omega) (by omega)).trans HPB4.out
  have hbD : Below w5.heap.size w5 (w5.alloc (.cells #[.string ⟨#[99]⟩, .slice q6 n6 c6] 24)) := (Below.refl _ _).alloc (Nat.le_refl _) _
  have hdb : (w5.alloc (.cells #[.string ⟨#[99]⟩, .slice q6 n6 c6] 24)).heap[w5.heap.size]? = some (.cells #[.string ⟨#[99]⟩, .slice q6 n6 c6] 24 (0, 0)) := by
    show (w5.heap.push _)[_]? = _
    rw [Array.getElem?_push, if_pos rfl]
  have hcne : ∀ a n c, Value.slice q3 m3 c3 = .slice (some a) n c → a.block ≠ w.heap.size + 1 := fun a n' c' e => by
    injection e with e1 e2 e3
    have := HQ3.out a e1
    omega
  have hdne : ∀ a n c, Value.slice q6 n6 c6 = .slice (some a) n c → 0 < n → a.block ≠ w.heap.size + 1 := fun a n' c' e h => by
    injection e with e1 e2 e3
    have := hqb a e1 (by omega)
    omega
  have HLW : Hid (LfW nm (.slice q3 m3 c3) w5.heap.size (.slice q6 n6 c6) rs ts w (w5.alloc (.cells #[.string ⟨#[99]⟩, .slice q6 n6 c6] 24))) := Lib.hid ⟨(hbD.block _ (by omega)).trans hpb5, hdb, (strs_touch HS34.out ht5 (fun a n' c' e _ => hcne a n' c' e)).below hbD, hst6.below hbD, (HB4.out.trans (hb54.mono (by omega))).trans (hbD.mono (by omega)), hcne, hdne, by omega⟩
  have HTD := Lib.hid (hT5.below hbD)
  have hsd5 : w.heap.size + 2 ≤ w5.heap.size := by omega
  have HQN := Lib.hid hqn
  clear hmi hnt hst6 hT5 ht5 hqn hqb hb54 hpb5 hbD hdb hcne hdne hs3 hs4 hs5
  go_upto_region 5 with fail
  obtain ⟨wd, hwd⟩ : ∃ wd, wd = w5.alloc (.cells #[.string ⟨#[99]⟩, .slice q6 n6 c6] 24) := ⟨_, rfl⟩
  have hsd : w5.heap.size + 1 = wd.heap.size := by rw [hwd]; simp
  rw [← hwd] at HLW HTD ⊢
  clear hwd
  go_cut [30, 31, 32] (fun sl ln ix wx => ∃ (q9 : Option Addr) (N c9 : Nat) (Lq : List ByteArray), sl = .slice q9 N c9 ∧ ln = .int .i64 N ∧ ix = .int .i64 0 ∧ StrsAt wx (.slice q9 N c9) Lq ∧ (∀ x ∈ Lq, x.size ≤ 1000) ∧ N ≤ 30 ∧ LfW nm (.slice q3 m3 c3) w5.heap.size (.slice q6 n6 c6) rs ts w wx)
  case first =>
    have hbL : Below wd.heap.size wd (wd.alloc (.cells #[] 9)) := (Below.refl _ _).alloc (Nat.le_refl _) _
    have hlit : (wd.alloc (.cells #[] 9)).ownsRow wd.heap.size 9 1 (.slice (some ⟨wd.heap.size, 0, none⟩) 0 0) 0 [] := World.ownsRow_lit (base := wd.heap.size) (e := 9) (size := 1) wd #[] 0 (Nat.le_refl _) (by decide) rfl
    have HLWL := Lib.hid (HLW.out.below hbL)
    have HTL := Lib.hid (HTD.out.below hbL)
    have HDW : Hid (w5.heap.size < wd.heap.size) := Lib.hid (by omega)
    have HA3 := Lib.hid (strs_block HLW.out.cst)
    have HA6 := Lib.hid (strs_block HLW.out.dst)
    have cdl := cell_blk HLWL.out.dbl 1 _ rfl
    have hsl : wd.heap.size + 1 = (wd.alloc (.cells #[] 9)).heap.size := by simp
    clear hbL
    rcases q6 with _ | a6
    · have hz6 := strs_nil HLW.out.dst
      have hc0 := HQN.out rfl
      obtain ⟨rfl, hts⟩ := hz6
      subst hc0
      have HTX := HTL
      have HLWX := HLWL
      have HOX : Hid ((wd.alloc (.cells #[] 9)).ownsRow wd.heap.size 9 1 (.slice (some ⟨wd.heap.size, 0, none⟩) 0 0) 0 (ts.map Value.string)) := Lib.hid (by rw [hts]; exact hlit)
      clear hts
      have hsx : wd.heap.size ≤ (wd.alloc (.cells #[] 9)).heap.size := by omega
      go_wp2_with (first
        | (at_builtin; refine wpList_append_own_none rfl _ _ 22 rfl wd.heap.size 9 i0 1 Tryz.underlying22 hi0 _ 0 _ rfl hlit rfl ?_)
        | fail)
      clear hlit cdl hsl
      go_wp2_with fail
      refine (code_any (w.heap.size + 1) (.slice q1 n1 c1) zs1 i5 _ HTX.out (by omega)).mono ?_
      rintro e w7 ⟨s2, i7, rfl, hs2, -, hT7, ht7⟩
      have HLW7 := Lib.hid (HLWX.out.touch ht7)
      have hown7 := ownsRow_touch HOX.out ht7 (by omega)
      have hs7 : wd.heap.size ≤ w7.heap.size := Nat.le_trans hsx ht7.size
      clear hT7 ht7
      go_wp2_with (first
        | (at_builtin; refine wpList_append_own _ rfl _ _ 22 rfl wd.heap.size 9 i0 (.string ⟨#[]⟩) 1 16 Tryz.underlying22 hi0 hz0 hz1' hz2' rfl (by decide) _ 0 _ rfl (hown7.alloc _) ⟨w7.heap.size, 0, none⟩ 2 2 [.string ⟨#[]⟩, .string s2] rfl rfl (two_new _ _ _ _) (by simp [Value.oneCell']) (by unfold maxLen; omega) (by omega) (by simp; omega) ?_)
        | fail)
      intro v9 w9 hown9 hgrow9 _
      have hb9 : Below wd.heap.size w7 w9 := ((Below.refl _ w7).alloc hs7 _).grown hgrow9 (by simp; omega) (fun j hj => (hown7.lt j hj).1)
      have HLW9 := Lib.hid (HLW7.out.fresh hb9 HDW.out HA3.out HA6.out)
      have hown9' : w9.ownsRow wd.heap.size 9 1 v9 (0 + 2) ((ts ++ [emptyB, s2]).map Value.string) := by rw [List.map_append]; exact hown9
      obtain ⟨q9, c9, rfl, -, hst9, -⟩ := own_strs hown9'
      have HST9 := Lib.hid hst9
      have HSZ9 := Lib.hid (short_list2 HMI.out hs2)
      clear hown7 hown9 hown9' hgrow9 hb9 hst9
      go_wp2_with fail
      go_meet
      case rel => exact ⟨q9, _, c9, _, rfl, rfl, rfl, HST9.out, HSZ9.out, by omega, HLW9.out⟩
    · have hnews := strs_news HLWL.out.dst
      have HLN : Hid ((ts.map Value.string).length = n6 * 1) := Lib.hid (by rw [List.length_map, ← HNT.out]; omega)
      go_wp2_with (first
        | (at_builtin; refine wpList_append_own _ rfl _ _ 22 rfl wd.heap.size 9 i0 (.string ⟨#[]⟩) 1 16 Tryz.underlying22 hi0 hz0 hz1' hz2' rfl (by decide) _ 0 _ rfl hlit a6 n6 c6 (ts.map Value.string) rfl HLN.out hnews (strs_one _) (by unfold maxLen; omega) (by omega) (by omega) ?_)
        | fail)
      intro v6 w6 hown6 hgrow6 _
      have hb6 : Below wd.heap.size (wd.alloc (.cells #[] 9)) w6 := (Below.refl _ _).grown hgrow6 (by omega) (fun j e => by have e2 : wd.heap.size = j := Option.some.inj e; omega)
      have HLWX := Lib.hid (HLWL.out.fresh hb6 HDW.out HA3.out HA6.out)
      have HTX := Lib.hid (HTL.out.keep (fun k hk => hb6.block k (by omega)))
      have HOX : Hid (w6.ownsRow wd.heap.size 9 1 v6 n6 (ts.map Value.string)) := Lib.hid (by simpa using hown6)
      have hsx : wd.heap.size ≤ w6.heap.size := by have := hb6.size; omega
      clear hlit cdl hsl hnews hown6 hgrow6 hb6
      go_wp2_with fail
      refine (code_any (w.heap.size + 1) (.slice q1 n1 c1) zs1 i5 _ HTX.out (by omega)).mono ?_
      rintro e w7 ⟨s2, i7, rfl, hs2, -, hT7, ht7⟩
      have HLW7 := Lib.hid (HLWX.out.touch ht7)
      have hown7 := ownsRow_touch HOX.out ht7 (by omega)
      have hs7 : wd.heap.size ≤ w7.heap.size := Nat.le_trans hsx ht7.size
      clear hT7 ht7
      go_wp2_with (first
        | (at_builtin; refine wpList_append_own _ rfl _ _ 22 rfl wd.heap.size 9 i0 (.string ⟨#[]⟩) 1 16 Tryz.underlying22 hi0 hz0 hz1' hz2' rfl (by decide) _ n6 _ rfl (hown7.alloc _) ⟨w7.heap.size, 0, none⟩ 2 2 [.string ⟨#[]⟩, .string s2] rfl rfl (two_new _ _ _ _) (by simp [Value.oneCell']) (by unfold maxLen; omega) (by omega) (by simp; omega) ?_)
        | fail)
      intro v9 w9 hown9 hgrow9 _
      have hb9 : Below wd.heap.size w7 w9 := ((Below.refl _ w7).alloc hs7 _).grown hgrow9 (by simp; omega) (fun j hj => (hown7.lt j hj).1)
      have HLW9 := Lib.hid (HLW7.out.fresh hb9 HDW.out HA3.out HA6.out)
      have hown9' : w9.ownsRow wd.heap.size 9 1 v9 (n6 + 2) ((ts ++ [emptyB, s2]).map Value.string) := by rw [List.map_append]; exact hown9
      obtain ⟨q9, c9, rfl, -, hst9, -⟩ := own_strs hown9'
      have HST9 := Lib.hid hst9
      have HSZ9 := Lib.hid (short_list2 HMI.out hs2)
      clear hown7 hown9 hown9' hgrow9 hb9 hst9
      go_wp2_with fail
      go_meet
      case rel => exact ⟨q9, _, c9, _, rfl, rfl, rfl, HST9.out, HSZ9.out, by omega, HLW9.out⟩
  case rest =>
    obtain ⟨q9, N, c9, Lq, rfl, rfl, rfl, hst9, hsz9, hN30, hLW⟩ := hcut
    have HST := Lib.hid hst9
    have HSZ := Lib.hid hsz9
    have HLC := Lib.hid hLW
    have HMS := Lib.hid HMI.out.short
    have HTN : Hid (ts.length ≤ 1000000) := Lib.hid (by have := HMI.out.1; omega)
    clear hst9 hsz9 hLW HLW HTD
    go_wp2_with fail
    go_loopw [32] (fun i wr => ∃ j : Nat, j ≤ N ∧ i = .int .i64 j ∧ Below wc.heap.size wc wr) (fun i _ => N - (intOf i).toNat)
    case atStart => exact ⟨0, by omega, rfl, Below.refl _ _⟩
    case round =>
      obtain ⟨j, hj, rfl, hbr⟩ := hrel
      have HBR := Lib.hid hbr
      have HLR := Lib.hid (HLC.out.below hbr)
      by_cases hlt : j < N
      · have hN := strs_len HST.out
        have hjl : j < Lq.length := by omega
        have hcell : ∃ b off, q9 = some ⟨b, off, none⟩ ∧ wr.cell? ⟨b, off + j, none⟩ = some (.string (Lq.getD j ByteArray.empty)) := by
          rcases HST.out with ⟨_, p, c', e⟩ | ⟨_, b, off, cap, e, _, hb, hc⟩
          · injection e with e1 e2; omega
          · injection e with e1 e2 e3
            exact ⟨b, off, e1, (hbr.cell (p := ⟨b, off + j, none⟩) hb).trans (hc j (by omega))⟩
        obtain ⟨b9, o9, e9, hcu⟩ := hcell
        have hus : (Lq.getD j ByteArray.empty).size ≤ 1000 := HSZ.out _ (by rw [List.getD, List.getElem?_eq_getElem hjl]; exact List.getElem_mem hjl)
        obtain ⟨u, hu⟩ : ∃ u, u = Lq.getD j ByteArray.empty := ⟨_, rfl⟩
        rw [← hu] at hcu hus
        subst e9
        have KS : Hid (∀ W, Below wr.heap.size wr W → W.cell? ⟨w5.heap.size, 0, none⟩ = some (.string ⟨#[99]⟩) ∧ W.cell? ⟨w5.heap.size, 1, none⟩ = some (.slice q6 n6 c6) ∧ Below wr.heap.size wr W) := Lib.hid (fun W hW => by
          have h2 := (hW.block w5.heap.size (Array.getElem?_eq_some_iff.1 HLR.out.dbl).1).trans HLR.out.dbl
          exact ⟨cell_blk h2 0 _ rfl, cell_blk h2 1 _ rfl, hW⟩)
        have HEW : Hid (∀ W, Below wr.heap.size wr W → Env W) := Lib.hid (fun W hW => (HE.out.below HLR.out.bl).below hW)
        have EK : Hid (∀ W, Below wr.heap.size wr W → Calls Tryz.prog 8 #[.agg #[.string ⟨#[99]⟩, (.slice q6 n6 c6)], .string u] W fun e w' => ∃ qx nx cx, e = .returned (.slice qx nx cx) ∧ StrsAt w' (.slice qx nx cx) (childrenV ts u) ∧ Below W.heap.size W w') := Lib.hid (fun W hW =>
          (children_any ⟨#[99]⟩ _ ts u W (HLR.out.dst.below hW) HTN.out HMS.out hus (HEW.out W hW)).mono (fun e w' ⟨v, he, ho, hb⟩ => by
            obtain ⟨q6, c6, rfl, -, h6, -⟩ := own_strs ho
            exact ⟨q6, _, c6, he, h6, hb⟩))
        have ER : Hid (∀ W, Below wr.heap.size wr W → Calls Tryz.prog 9 #[.agg #[.string ⟨#[99]⟩, (.slice q6 n6 c6)], .string u] W fun e w' => ∃ qx nx cx, e = .returned (.slice qx nx cx) ∧ StrsAt w' (.slice qx nx cx) (childrenV ts u) ∧ Below W.heap.size W w') := Lib.hid (fun W hW =>
          (rchildren_any ⟨#[99]⟩ _ ts u W (HLR.out.dst.below hW) HTN.out HMS.out).mono (fun e w' ⟨v, he, ho, hb⟩ => by
            obtain ⟨q6, c6, rfl, -, h6, -⟩ := own_strs ho
            exact ⟨q6, _, c6, he, h6, hb⟩))
        have EL : Hid (∀ W, Below wr.heap.size wr W → Calls Tryz.prog 10 #[.agg #[.string ⟨#[99]⟩, (.slice q6 n6 c6)], .string u] W fun e w' => ∃ qx nx cx, e = .returned (.slice qx nx cx) ∧ StrsAt w' (.slice qx nx cx) (leavesV ts u) ∧ Below W.heap.size W w') := Lib.hid (fun W hW =>
          (leaves_any ⟨#[99]⟩ _ ts u W (HLR.out.dst.below hW) HTN.out HMS.out hus (HEW.out W hW)).mono (fun e w' ⟨v, he, ho, hb⟩ => by
            obtain ⟨q6, c6, rfl, -, h6, -⟩ := own_strs ho
            exact ⟨q6, _, c6, he, h6, hb⟩))
        have EM : Hid (∀ W, Below wr.heap.size wr W → Calls Tryz.prog 11 #[.agg #[.string ⟨#[99]⟩, (.slice q6 n6 c6)], .string u] W fun e w' => ∃ qx nx cx, e = .returned (.slice qx nx cx) ∧ StrsAt w' (.slice qx nx cx) (leavesV ts u) ∧ Below W.heap.size W w') := Lib.hid (fun W hW =>
          (rleaves_any ⟨#[99]⟩ _ ts u W (HLR.out.dst.below hW) HTN.out HMS.out).mono (fun e w' ⟨v, he, ho, hb⟩ => by
            obtain ⟨q6, c6, rfl, -, h6, -⟩ := own_strs ho
            exact ⟨q6, _, c6, he, h6, hb⟩))
        have ES : Hid (∀ W v1 v2, StrsAt W v1 (childrenV ts u) → StrsAt W v2 (childrenV ts u) → Calls Tryz.prog 7 #[v1, v2] W fun e w' => e = .returned (.bool true) ∧ Below W.heap.size W w') := Lib.hid (fun W v1 v2 h1 h2 => same_strings v1 v2 _ W h1 h2 (Nat.le_trans (children_len ts u) HTN.out))
        have ET : Hid (∀ W v1 v2, StrsAt W v1 (leavesV ts u) → StrsAt W v2 (leavesV ts u) → Calls Tryz.prog 7 #[v1, v2] W fun e w' => e = .returned (.bool true) ∧ Below W.heap.size W w') := Lib.hid (fun W v1 v2 h1 h2 => same_strings v1 v2 _ W h1 h2 (Nat.le_trans (leaves_len ts u) HTN.out))
        clear hu hus hjl hN hbr
        go_wp2_with fail
        go_region_held3 (fun w' => w'.cell? ⟨w5.heap.size, 0, none⟩ = some (.string ⟨#[99]⟩) ∧ w'.cell? ⟨w5.heap.size, 1, none⟩ = some (.slice q6 n6 c6) ∧ Below wr.heap.size wr w') (exact KS.out _ (by first | assumption | exact (Below.refl _ _).drew)) (first
          | (go_at_call 8; refine (EK.out _ (by first | assumption | exact (Below.refl _ _).drew)).mono ?_; rintro e w6 ⟨qa, na, ca, rfl, hSa, hb6⟩; have hB6 : Below wr.heap.size wr w6 := chain0 (by first | assumption | exact (Below.refl _ _).drew) hb6; clear hb6)
          | (go_at_call 9; refine (ER.out _ (by first | assumption | exact (Below.refl _ _).drew)).mono ?_; rintro e w6 ⟨qb, nb, cb, rfl, hSb, hb6⟩; have hB6 : Below wr.heap.size wr w6 := chain0 (by first | assumption | exact (Below.refl _ _).drew) hb6; have hSa2 := hSa.below hb6; clear hSa hb6)
          | (go_at_call 10; refine (EL.out _ (by first | assumption | exact (Below.refl _ _).drew)).mono ?_; rintro e w6 ⟨qc, nc, cc, rfl, hSc, hb6⟩; have hB6 : Below wr.heap.size wr w6 := chain0 (by first | assumption | exact (Below.refl _ _).drew) hb6; clear hb6)
          | (go_at_call 11; refine (EM.out _ (by first | assumption | exact (Below.refl _ _).drew)).mono ?_; rintro e w6 ⟨qd, nd, cd, rfl, hSd, hb6⟩; have hB6 : Below wr.heap.size wr w6 := chain0 (by first | assumption | exact (Below.refl _ _).drew) hb6; have hSc2 := hSc.below hb6; clear hSc hb6)
          | (go_at_call 7; first | ((with_reducible refine (ES.out _ _ _ (by assumption) (by assumption)).mono ?_); rintro e w6 ⟨rfl, hb6⟩; have hB6 : Below wr.heap.size wr w6 := chain0 (by first | assumption | exact (Below.refl _ _).drew) hb6; clear hb6) | ((with_reducible refine (ET.out _ _ _ (by assumption) (by assumption)).mono ?_); rintro e w6 ⟨rfl, hb6⟩; have hB6 : Below wr.heap.size wr w6 := chain0 (by first | assumption | exact (Below.refl _ _).drew) hb6; clear hb6)))
        have HBN := Lib.hid (chain0 HBR.out hB6)
        clear hSa2 hSb hSc2 hSd
        go_wp2_with fail
        go_roundw
        case rel => exact ⟨j + 1, by omega, by go_num, HBN.out⟩
        case measure => simp [intOf]; omega
      · have KS : Hid (∀ W, Below wr.heap.size wr W → W.cell? ⟨w.heap.size, 0, none⟩ = some (.string nm) ∧ W.cell? ⟨w.heap.size, 1, none⟩ = some (.slice q3 m3 c3) ∧ Below wr.heap.size wr W) := Lib.hid (fun W hW => by
          have h2 := (hW.block w.heap.size (Array.getElem?_eq_some_iff.1 HLR.out.cls).1).trans HLR.out.cls
          exact ⟨cell_blk h2 0 _ rfl, cell_blk h2 1 _ rfl, hW⟩)
        have HEW : Hid (∀ W, Below wr.heap.size wr W → Env W) := Lib.hid (fun W hW => (HE.out.below HLR.out.bl).below hW)
        have FK : Hid (∀ W, Below wr.heap.size wr W → Calls Tryz.prog 8 #[.agg #[.string nm, (.slice q3 m3 c3)], .string s9] W fun e w' => ∃ qx nx cx, e = .returned (.slice qx nx cx) ∧ StrsAt w' (.slice qx nx cx) (childrenV rs s9) ∧ Below W.heap.size W w') := Lib.hid (fun W hW =>
          (children_any nm _ rs s9 W (HLR.out.cst.below hW) HL3.out HRS.out HU0.out (HEW.out W hW)).mono (fun e w' ⟨v, he, ho, hb⟩ => by
            obtain ⟨q6, c6, rfl, -, h6, -⟩ := own_strs ho
            exact ⟨q6, _, c6, he, h6, hb⟩))
        have FR : Hid (∀ W, Below wr.heap.size wr W → Calls Tryz.prog 9 #[.agg #[.string nm, (.slice q3 m3 c3)], .string s9] W fun e w' => ∃ qx nx cx, e = .returned (.slice qx nx cx) ∧ StrsAt w' (.slice qx nx cx) (childrenV rs s9) ∧ Below W.heap.size W w') := Lib.hid (fun W hW =>
          (rchildren_any nm _ rs s9 W (HLR.out.cst.below hW) HL3.out HRS.out).mono (fun e w' ⟨v, he, ho, hb⟩ => by
            obtain ⟨q6, c6, rfl, -, h6, -⟩ := own_strs ho
            exact ⟨q6, _, c6, he, h6, hb⟩))
        have FL : Hid (∀ W, Below wr.heap.size wr W → Calls Tryz.prog 10 #[.agg #[.string nm, (.slice q3 m3 c3)], .string s9] W fun e w' => ∃ qx nx cx, e = .returned (.slice qx nx cx) ∧ StrsAt w' (.slice qx nx cx) (leavesV rs s9) ∧ Below W.heap.size W w') := Lib.hid (fun W hW =>
          (leaves_any nm _ rs s9 W (HLR.out.cst.below hW) HL3.out HRS.out HU0.out (HEW.out W hW)).mono (fun e w' ⟨v, he, ho, hb⟩ => by
            obtain ⟨q6, c6, rfl, -, h6, -⟩ := own_strs ho
            exact ⟨q6, _, c6, he, h6, hb⟩))
        have FM : Hid (∀ W, Below wr.heap.size wr W → Calls Tryz.prog 11 #[.agg #[.string nm, (.slice q3 m3 c3)], .string s9] W fun e w' => ∃ qx nx cx, e = .returned (.slice qx nx cx) ∧ StrsAt w' (.slice qx nx cx) (leavesV rs s9) ∧ Below W.heap.size W w') := Lib.hid (fun W hW =>
          (rleaves_any nm _ rs s9 W (HLR.out.cst.below hW) HL3.out HRS.out).mono (fun e w' ⟨v, he, ho, hb⟩ => by
            obtain ⟨q6, c6, rfl, -, h6, -⟩ := own_strs ho
            exact ⟨q6, _, c6, he, h6, hb⟩))
        have FS : Hid (∀ W v1 v2, StrsAt W v1 (childrenV rs s9) → StrsAt W v2 (childrenV rs s9) → Calls Tryz.prog 7 #[v1, v2] W fun e w' => e = .returned (.bool true) ∧ Below W.heap.size W w') := Lib.hid (fun W v1 v2 h1 h2 => same_strings v1 v2 _ W h1 h2 (Nat.le_trans (children_len rs s9) HL3.out))
        have FT : Hid (∀ W v1 v2, StrsAt W v1 (leavesV rs s9) → StrsAt W v2 (leavesV rs s9) → Calls Tryz.prog 7 #[v1, v2] W fun e w' => e = .returned (.bool true) ∧ Below W.heap.size W w') := Lib.hid (fun W v1 v2 h1 h2 => same_strings v1 v2 _ W h1 h2 (Nat.le_trans (leaves_len rs s9) HL3.out))
        have FA : Hid (∀ W, Below wr.heap.size wr W → Calls Tryz.prog 12 #[] W fun e w' => e = .returned (.bool true) ∧ Below W.heap.size W w') := Lib.hid (fun W hW => awake_any W (HEW.out W hW))
        clear hbr
        go_wp2_with fail
        go_region_held3 (fun w' => w'.cell? ⟨w.heap.size, 0, none⟩ = some (.string nm) ∧ w'.cell? ⟨w.heap.size, 1, none⟩ = some (.slice q3 m3 c3) ∧ Below wr.heap.size wr w') (exact KS.out _ (by first | assumption | exact (Below.refl _ _).drew)) (first
          | (go_at_call 8; refine (FK.out _ (by first | assumption | exact (Below.refl _ _).drew)).mono ?_; rintro e w6 ⟨qa, na, ca, rfl, hSa, hb6⟩; have hB6 : Below wr.heap.size wr w6 := chain0 (by first | assumption | exact (Below.refl _ _).drew) hb6; clear hb6)
          | (go_at_call 9; refine (FR.out _ (by first | assumption | exact (Below.refl _ _).drew)).mono ?_; rintro e w6 ⟨qb, nb, cb, rfl, hSb, hb6⟩; have hB6 : Below wr.heap.size wr w6 := chain0 (by first | assumption | exact (Below.refl _ _).drew) hb6; have hSa2 := hSa.below hb6; clear hSa hb6)
          | (go_at_call 10; refine (FL.out _ (by first | assumption | exact (Below.refl _ _).drew)).mono ?_; rintro e w6 ⟨qc, nc, cc, rfl, hSc, hb6⟩; have hB6 : Below wr.heap.size wr w6 := chain0 (by first | assumption | exact (Below.refl _ _).drew) hb6; clear hb6)
          | (go_at_call 11; refine (FM.out _ (by first | assumption | exact (Below.refl _ _).drew)).mono ?_; rintro e w6 ⟨qd, nd, cd, rfl, hSd, hb6⟩; have hB6 : Below wr.heap.size wr w6 := chain0 (by first | assumption | exact (Below.refl _ _).drew) hb6; have hSc2 := hSc.below hb6; clear hSc hb6)
          | (go_at_call 7; first | ((with_reducible refine (FS.out _ _ _ (by assumption) (by assumption)).mono ?_); rintro e w6 ⟨rfl, hb6⟩; have hB6 : Below wr.heap.size wr w6 := chain0 (by first | assumption | exact (Below.refl _ _).drew) hb6; clear hb6) | ((with_reducible refine (FT.out _ _ _ (by assumption) (by assumption)).mono ?_); rintro e w6 ⟨rfl, hb6⟩; have hB6 : Below wr.heap.size wr w6 := chain0 (by first | assumption | exact (Below.refl _ _).drew) hb6; clear hb6))
          | (go_at_call 12; refine (FA.out _ (by first | assumption | exact (Below.refl _ _).drew)).mono ?_; rintro e w6 ⟨rfl, hb6⟩; have hB6 : Below wr.heap.size wr w6 := chain0 (by first | assumption | exact (Below.refl _ _).drew) hb6; clear hb6))
        go_wp2
        go_ret
        exact ⟨rfl, chain0 HLR.out.bl hB6⟩
end Go.Proofs.YtnmcmnllmnpjkaaGreatDoor
