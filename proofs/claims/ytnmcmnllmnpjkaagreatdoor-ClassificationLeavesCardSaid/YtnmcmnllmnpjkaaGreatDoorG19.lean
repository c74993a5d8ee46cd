/- Contracts of Children and Leaves of the program: any valid or invalid list of short strings, any short string. -/
import Derived.Test.YtnmcmnllmnpjkaaGreatDoorMs
namespace Go.Proofs.YtnmcmnllmnpjkaaGreatDoor
open Go.RowKit Go.Sort Cal Go.Maps
theorem pair_blks (w : World) (a b : Obj) : ((w.alloc a).alloc b).heap[w.heap.size]? = some a ∧ ((w.alloc a).alloc b).heap[w.heap.size + 1]? = some b := by
  constructor
  · show (Array.push (Array.push w.heap _) _)[_]? = _
    rw [Array.getElem?_push, if_neg (by simp), Array.getElem?_push, if_pos rfl]
  · show (Array.push (Array.push w.heap _) _)[_]? = _
    rw [Array.getElem?_push, if_pos (by simp)]
theorem filter_kids {ss : List ByteArray} {u : ByteArray} : (if knownB ss u then ss.filter (kidE u) else []) = childrenV ss u := by
  unfold childrenV
  cases hk : knownB ss u with
  | false => rfl
  | true => rw [if_pos rfl, if_pos rfl]; exact List.filter_congr (fun x hx => kid_prog hk x hx)
set_option maxRecDepth 100000 in
set_option maxHeartbeats 1600000 in
theorem children_any (nm : ByteArray) (sv : Value) (ss : List ByteArray) (u : ByteArray) (w : World) (hv : StrsAt w sv ss) (hl : ss.length ≤ 1000000) (hs : Short ss) (hu : u.size ≤ 1000) (hE : Env w) :
    Calls Tryz.prog 8 #[.agg #[.string nm, sv], .string u] w (ListPost w.heap.size (childrenV ss u) w) := by
  obtain ⟨q, l, c, rfl⟩ := strs_form hv
  have hb0 : Below w.heap.size w ((w.alloc (.cells #[.string nm, .slice q l c] 24)).alloc (.cells #[.string u] 9)) := ((Below.refl _ _).alloc (Nat.le_refl _) _).alloc (by simp) _
  have hcu : ((w.alloc (.cells #[.string nm, .slice q l c] 24)).alloc (.cells #[.string u] 9)).cell? ⟨w.heap.size + 1, 0, none⟩ = some (.string u) := cell_blk (pair_blks w _ _).2 0 _ rfl
  have HS := Lib.hid (hv.below hb0)
  have HSH := Lib.hid hs
  have HE := Lib.hid (hE.below hb0)
  have HB0 := Lib.hid hb0
  have HCU := Lib.hid hcu
  have HFK := Lib.hid (filter_kids (ss := ss) (u := u))
  clear hv hs hb0 hE hcu
  go_enter Tryz.func8, Tryz.ntmps8
  go_wp2_with fail
  refine (chosen_kids (w.heap.size + 1) (kidE u) nm _ ss u _ HS.out hl HSH.out HE.out (fun x W hx hb => kid_any (w.heap.size + 1) x u W hx hu ((hb.cell (p := ⟨w.heap.size + 1, 0, none⟩) (by simp)).trans HCU.out) (HE.out.below hb))).mono ?_
  rintro e w1 ⟨v, rfl, hown, hb1⟩
  have HOW := Lib.hid hown
  have HB1 := Lib.hid (chain0 HB0.out hb1)
  have hform : ∃ p l cc, v = .slice p l cc := by
    rcases hown.2 with ⟨h, _⟩ | ⟨g, cap, cur, h, _⟩
    · exact ⟨_, _, _, h⟩
    · exact ⟨_, _, _, h⟩
  obtain ⟨p, l', cc, rfl⟩ := hform
  clear hown hb1
  go_wp2
  go_ret
  refine ⟨_, rfl, ?_, HB1.out⟩
  have h := HOW.out
  rw [HFK.out] at h
  exact own_base h (by simp; omega)
/-- Between two rounds of Leaves: its four blocks, and the parents so far. -/
structure LvB (nm : ByteArray) (sv : Value) (u : ByteArray) (ks : List ByteArray) (k : Nat) (w0 w : World) : Prop where
  cls : w.heap[w0.heap.size]? = some (.cells #[.string nm, sv] 24 (0, 0))
  cod : w.heap[w0.heap.size + 1]? = some (.cells #[.string u] 9 (0, 0))
  mp : w.ownsMap Tryz.prog 9 (plainElem Tryz.prog 4) (w0.heap.size + 2) k (setS ks)
  box : w.heap[w0.heap.size + 3]? = some (.cells #[.map (some (w0.heap.size + 2))] 48 (0, 0))
  bl : Below w0.heap.size w0 w
section
variable {nm u : ByteArray} {sv : Value} {ks : List ByteArray} {k : Nat} {w0 w w1 : World}
theorem LvB.lt (h : LvB nm sv u ks k w0 w) : w0.heap.size + 3 < w.heap.size := (Array.getElem?_eq_some_iff.1 h.box).1
theorem LvB.below (h : LvB nm sv u ks k w0 w) (hb : Below w.heap.size w w1) : LvB nm sv u ks k w0 w1 :=
  ⟨(hb.block _ (by have := h.lt; omega)).trans h.cls, (hb.block _ (by have := h.lt; omega)).trans h.cod, map_below h.mp hb, (hb.block _ h.lt).trans h.box, h.bl.trans (hb.mono h.bl.size)⟩
theorem LvB.put {ks' : List ByteArray} {k' : Nat} (h : LvB nm sv u ks k w0 w) (hg : w.grownBy w1 (some (w0.heap.size + 2))) (hm : w1.ownsMap Tryz.prog 9 (plainElem Tryz.prog 4) (w0.heap.size + 2) k' (setS ks')) : LvB nm sv u ks' k' w0 w1 := by
  have key : ∀ j, j < w.heap.size → j ≠ w0.heap.size + 2 → w1.heap[j]? = w.heap[j]? := fun j hj hne => hg.block j hj (fun e => hne (Option.some.inj e))
  have hlt := h.lt
  exact ⟨(key _ (by omega) (by omega)).trans h.cls, (key _ (by omega) (by omega)).trans h.cod, hm, (key _ hlt (by omega)).trans h.box, h.bl.grown hg h.bl.size (fun j e => by have := Option.some.inj e; omega)⟩
end
theorem LvB.start (nm : ByteArray) (sv : Value) (u : ByteArray) (w : World) : LvB nm sv u [] 0 w ((((w.alloc (.cells #[.string nm, sv] 24)).alloc (.cells #[.string u] 9)).alloc (.map #[] 0)).alloc (.cells #[.map (some (w.heap.size + 2))] 48)) := by
  have hm := (World.ownsMap_made ((w.alloc (.cells #[.string nm, sv] 24)).alloc (.cells #[.string u] 9)) Tryz.prog 9 (plainElem (H := Unit) Tryz.prog 4)).alloc (.cells #[.map (some (w.heap.size + 2))] 48)
  rw [World.size_alloc, World.size_alloc] at hm
  refine ⟨?_, ?_, hm, ?_, ((((Below.refl _ _).alloc (Nat.le_refl _) _).alloc (by simp) _).alloc (by simp; omega) _).alloc (by simp; omega) _⟩
  · show (Array.push (Array.push (Array.push (Array.push w.heap _) _) _) _)[_]? = _
    rw [Array.getElem?_push, if_neg (by simp; omega), Array.getElem?_push, if_neg (by simp; omega), Array.getElem?_push, if_neg (by simp), Array.getElem?_push, if_pos rfl]
  · show (Array.push (Array.push (Array.push (Array.push w.heap _) _) _) _)[_]? = _
    rw [Array.getElem?_push, if_neg (by simp), Array.getElem?_push, if_neg (by simp), Array.getElem?_push, if_pos (by simp)]
  · show (Array.push (Array.push (Array.push (Array.push w.heap _) _) _) _)[_]? = _
    rw [Array.getElem?_push, if_pos (by simp)]
theorem par_take (ss : List ByteArray) (k : Nat) (h : k < ss.length) : ((ss.take (k + 1)).map fun y => (parentV y).1) = ((ss.take k).map fun y => (parentV y).1) ++ [(parentV (ss.getD k ByteArray.empty)).1] := by
  rw [List.take_succ_eq_append_getElem h, List.map_append]
  simp [List.getD, h]
theorem par_size (s : ByteArray) : (parentV s).1.size ≤ 15 := by
  cases hp : parseO s with
  | some P => exact (parent_some hp).2
  | none => unfold parentV; rw [hp]; decide
set_option maxRecDepth 100000 in
set_option maxHeartbeats 3200000 in
theorem leaves_any (nm : ByteArray) (sv : Value) (ss : List ByteArray) (u : ByteArray) (w : World) (hv : StrsAt w sv ss) (hl : ss.length ≤ 1000000) (hs : Short ss) (hu : u.size ≤ 1000) (hE : Env w) :
    Calls Tryz.prog 10 #[.agg #[.string nm, sv], .string u] w (ListPost w.heap.size (leavesV ss u) w) := by
  have hmm := @run_makeMap Tryz.prog
  obtain ⟨q, l, c, rfl⟩ := strs_form hv
  have hll := strs_len hv
  have hl6 : l ≤ 1000000 := by omega
  have HS0 := Lib.hid (LvB.start nm (.slice q l c) u w)
  have HV := Lib.hid hv
  have HSH := Lib.hid hs
  have HE := Lib.hid hE
  have HLL := Lib.hid hll
  clear hv hs hE hll
  go_enter Tryz.func10, Tryz.ntmps10
  go_wp2_with fail
  go_loopw [14] (fun i wr => ∃ k : Nat, k ≤ l ∧ i = .int .i64 k ∧ LvB nm (.slice q l c) u ((ss.take k).map fun y => (parentV y).1) k w wr) (fun i _ => l - (intOf i).toNat)
  case atStart => exact ⟨0, by omega, rfl, HS0.out⟩
  case round =>
    obtain ⟨k, hk, rfl, hL⟩ := hrel
    have HL := Lib.hid hL
    by_cases hlt : k < l
    · have hcell : ∃ x : ByteArray, Hid (x = ss.getD k ByteArray.empty) ∧ x.size ≤ 1000 ∧ ∃ b off, q = some ⟨b, off, none⟩ ∧ wr.cell? ⟨b, off + k, none⟩ = some (.string x) := by
        rcases HV.out with ⟨e, _⟩ | ⟨_, b, off, cap, e, _, hb, hc⟩
        · have := HLL.out; rw [e] at this; simp at this; omega
        · cases e
          exact ⟨ss.getD k ByteArray.empty, Lib.hid rfl, HSH.out k, b, off, rfl, (hL.bl.cell (p := ⟨b, off + k, none⟩) hb).trans (hc k (by have := HLL.out; omega))⟩
      obtain ⟨x, HX, hxs, b, off, rfl, hcx⟩ := hcell
      have HT : Hid (setS ((ss.take (k + 1)).map fun y => (parentV y).1) = (setS ((ss.take k).map fun y => (parentV y).1)).put (.string (parentV x).1.data.toList) (.lit (.bool true))) := Lib.hid (by
        rw [par_take ss k (by have := HLL.out; omega), setS_snoc, HX.out])
      have hps := par_size x
      clear hL
      go_wp2_with fail
      refine (parent_any x _ hxs (HE.out.below HL.out.bl)).mono ?_
      rintro e w1 ⟨rfl, hb1⟩
      have hL1 := HL.out.below hb1
      have HL1 := Lib.hid hL1
      have hmap := hL1.mp
      have cb := cell_blk hL1.box 0 _ rfl
      obtain ⟨pr, epr⟩ : ∃ p, p = parentV x := ⟨_, rfl⟩
      rw [← epr] at hps HT ⊢
      obtain ⟨p1, p2⟩ := pr
      have hpm : p1.size ≤ maxLen := by have : p1.size ≤ 15 := hps; unfold maxLen; omega
      clear epr hL1 hb1 hps
      go_wp2_with (first
        | (at_mapUpdate; refine wpList_mapUpdate_own _ rfl _ _ _ 48 rfl 9 4 mapLawS Tryz.underlying48 _ (w.heap.size + 2) k _ rfl hmap (by unfold maxLen; omega) _ _ _ rfl rfl (Go.WideMaps.keyOf_string_mk Tryz.underlying9 hpm) _ [] (plainElem_bool Tryz.underlying4 true) ?_; intro w2 hown2 hgrow2)
        | fail)
      have HL2 := Lib.hid (HL1.out.put (ks' := (ss.take (k + 1)).map fun y => (parentV y).1) (k' := k + 1) hgrow2 (by rw [HT.out]; exact hown2))
      clear hown2 hgrow2 hmap cb
      go_wp2_with fail
      go_roundw
      case rel => exact ⟨k + 1, by omega, by go_num, HL2.out⟩
      case measure => simp [intOf]; omega
    · obtain rfl : k = l := by omega
      have HN : Hid (ss.take k = ss) := Lib.hid (List.take_of_length_le (by have := HLL.out; omega))
      have c0 := cell_blk hL.cls 0 _ rfl
      have c1 := cell_blk hL.cls 1 _ rfl
      have cu := cell_blk hL.cod 0 _ rfl
      have cm := cell_blk hL.box 0 _ rfl
      have hlt3 := hL.lt
      have HER := Lib.hid (HE.out.below hL.bl)
      have HSR := Lib.hid (HV.out.below hL.bl)
      have HLV : Hid ((if knownB ss u then ss.filter (leafB ss u) else []) = leavesV ss u) := Lib.hid rfl
      have HF : Hid (∀ x W, x.size ≤ 1000 → Below wr.heap.size wr W → Calls Tryz.prog 23 #[.string x, .pointer (some ⟨w.heap.size + 1, 0, none⟩), .pointer (some ⟨w.heap.size + 3, 0, none⟩)] W fun e w' => e = .returned (.bool (leafB ss u x)) ∧ Below W.heap.size W w') := Lib.hid (fun x W hx hb => by
        have hLW := HL.out.below hb
        exact leaf_any (w.heap.size + 1) (w.heap.size + 3) (w.heap.size + 2) k x u _ (innerB ss x) W hx hu (cell_blk hLW.cod 0 _ rfl) (cell_blk hLW.box 0 _ rfl) hLW.mp (by rw [HN.out, setS_at, inner_set]) (HE.out.below hLW.bl))
      clear hL
      go_wp2_with fail
      refine (chosen_leaves (w.heap.size + 1) (w.heap.size + 3) (leafB ss u) nm _ ss u _ HSR.out hl HSH.out HER.out HF.out).mono ?_
      rintro e w1 ⟨v, rfl, hown, hb1⟩
      have HOW := Lib.hid hown
      have HB1 := Lib.hid (chain0 HL.out.bl hb1)
      have hform : ∃ p l cc, v = .slice p l cc := by
        rcases hown.2 with ⟨h, _⟩ | ⟨g, cap, cur, h, _⟩
        · exact ⟨_, _, _, h⟩
        · exact ⟨_, _, _, h⟩
      obtain ⟨p, l', cc, rfl⟩ := hform
      clear hown hb1
      go_wp2
      go_ret
      refine ⟨_, rfl, ?_, HB1.out⟩
      have h := HOW.out
      rw [HLV.out] at h
      exact own_base h HL.out.bl.size
end Go.Proofs.YtnmcmnllmnpjkaaGreatDoor
