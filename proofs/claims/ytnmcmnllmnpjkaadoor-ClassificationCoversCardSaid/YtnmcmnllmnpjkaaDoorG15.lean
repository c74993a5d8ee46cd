/- Contract of the program's Common: any short strings. -/
import Derived.Test.YtnmcmnllmnpjkaaDoorG14
namespace Go.Proofs.YtnmcmnllmnpjkaaDoor
open Go.RowKit Go.Shelf Go.Sort Cal Go.Maps
attribute [local go_sem] Oper.semAt_some
/-- Whatever is no cells lies as it lay where only new blocks are made. -/
theorem KeepsOthers.of_below {W W' : World} (h : Below W.heap.size W W') : KeepsOthers W W' :=
  ⟨h.size, fun k _ hk _ => (h.block k (Array.getElem?_eq_some_iff.1 hk).1).trans hk⟩
theorem strs_form {w : World} {sv : Value} {ss : List ByteArray} (h : StrsAt w sv ss) : ∃ q l c, sv = .slice q l c := by
  rcases h with ⟨_, p, c, e⟩ | ⟨_, b, off, cap, e, _⟩
  · exact ⟨_, _, _, e⟩
  · exact ⟨_, _, _, e⟩
theorem find_at {α : Type} (p : α → Bool) (l : List α) (k : Nat) (x : α) (hx : l[k]? = some x) (hn : ∀ y ∈ l.take k, p y = false) (hy : p x = true) : l.find? p = some x := by
  obtain ⟨hk, e⟩ := List.getElem?_eq_some_iff.1 hx
  have e2 : l = l.take k ++ x :: l.drop (k + 1) := by rw [← e, ← List.drop_eq_getElem_cons hk, List.take_append_drop]
  rw [e2, List.find?_append]
  have h1 : (l.take k).find? p = none := List.find?_eq_none.2 (fun y hy => by rw [hn y hy]; simp)
  rw [h1, List.find?_cons_of_pos hy]
  rfl
set_option maxRecDepth 100000 in
set_option maxHeartbeats 2000000 in
theorem common_any (a b : ByteArray) (w : World) (ha : a.size ≤ 1000) (hb : b.size ≤ 1000) (hE : Env w) :
    Calls Tryd.prog 37 #[.string a, .string b] w fun e w' => e = .returned (.string (commonV a b)) ∧ Below w.heap.size w w' := by
  have HE := Lib.hid hE
  have HV := Lib.hid (common_back a b)
  have HPL := Lib.hid (path_len a)
  have HPS := Lib.hid (path_size a)
  have hb0 : Below w.heap.size w ((w.alloc (.cells #[.string b] 9)).alloc (.cells #[.string ⟨#[]⟩] 9)) := ((Below.refl _ w).alloc (Nat.le_refl _) _).alloc (by simp) _
  have HE0 := Lib.hid (hE.below hb0)
  have HB0 := Lib.hid hb0
  clear hE hb0
  refine (callsIn_wide (n := 3)).1 ?_
  refine callsIn_of_wp_marks Tryd.func37 rfl trivial ?_ rfl
  simp only [Tryd.ntmps37, List.size_toArray, List.length_cons, List.length_nil, Nat.reduceAdd, Nat.reduceSub, Array.replicate_succ, Array.replicate_zero, List.push_toArray, List.append_toArray, List.nil_append, List.cons_append]
  gi_wp2_with (refine ⟨trivial, ?_⟩; gi_at_call 22; refine (callsIn_wide.2 (path_any a _ ha HE0.out)).mono ?_; rintro e w1 ⟨sv, rfl, hown, hb1⟩; have hS1 := strs_of_own hown rfl; obtain ⟨qs, ls, cs, rfl⟩ := strs_form hS1)
  have bR := Boxed.new (w.alloc (.cells #[.string b] 9)) 9 (.string ⟨#[]⟩)
  have hc3 : w1.cell? ⟨w.heap.size, 0, none⟩ = some (.string b) := (hb1.cell (p := ⟨w.heap.size, 0, none⟩) (by simp; omega)).trans (by simp)
  have hc4 : w1.cell? ⟨w.heap.size + 1, 0, none⟩ = some (.string ⟨#[]⟩) := (hb1.cell (p := ⟨w.heap.size + 1, 0, none⟩) (by simp)).trans (by simp)
  have hf4 : w1.frozen? ⟨w.heap.size + 1, 0, none⟩ = false := (hb1.frozen (p := ⟨w.heap.size + 1, 0, none⟩) (by simp)).trans (by simp)
  have hs1 : w.heap.size + 2 ≤ w1.heap.size := by have := hb1.size; simpa using this
  have HB1 := Lib.hid (HB0.out.trans (hb1.mono HB0.out.size))
  have HS1 := Lib.hid hS1
  obtain ⟨ss, hss⟩ : ∃ ss, ss = pathV a := ⟨_, rfl⟩
  rw [← hss] at HS1 HV HPL HPS
  clear hS1 hown hb1 bR hss
  gi_wp2_with (refine ⟨trivial, ?_⟩; gi_at_call 63; refine (back_in Fence.wide _ trivial rfl _ _ _ _).mono ?_; rintro e w2 ⟨rfl, rfl⟩)
  obtain ⟨zs, hzs⟩ := short_list ss (fun x hx => by have := HPS.out x hx; omega)
  subst hzs
  have hzl : zs.length ≤ 5 := by have := HPL.out; simpa using this
  have hU : StrsUnder (w1.heap.size + 1) (w1.alloc (.cells #[.slice qs ls cs] 27)) (.slice qs ls cs) (zs.map Subtype.val) := by
    have h := StrsUnder.of (HS1.out.below ((Below.refl _ w1).alloc (Nat.le_refl _) (.cells #[.slice qs ls cs] 27)))
    rwa [World.size_alloc] at h
  have HE1 : Hid (Env w1) := Lib.hid (HE.out.below HB1.out)
  have hBA : Below w.heap.size w (w1.alloc (.cells #[.slice qs ls cs] 27)) := HB1.out.alloc HB1.out.size _
  have c3 : (w1.alloc (.cells #[.slice qs ls cs] 27)).cell? ⟨w.heap.size, 0, none⟩ = some (.string b) := (((Below.refl _ w1).alloc (Nat.le_refl _) _).cell (p := ⟨w.heap.size, 0, none⟩) (by simp; omega)).trans hc3
  have c4 : (w1.alloc (.cells #[.slice qs ls cs] 27)).cell? ⟨w.heap.size + 1, 0, none⟩ = some (.string ⟨#[]⟩) := (((Below.refl _ w1).alloc (Nat.le_refl _) _).cell (p := ⟨w.heap.size + 1, 0, none⟩) (by simp; omega)).trans hc4
  have f4 : (w1.alloc (.cells #[.slice qs ls cs] 27)).frozen? ⟨w.heap.size + 1, 0, none⟩ = false := (((Below.refl _ w1).alloc (Nat.le_refl _) _).frozen (p := ⟨w.heap.size + 1, 0, none⟩) (by simp; omega)).trans hf4
  refine wpIn_rangeFunc_ownG rfl (by omega) (gf := 79) (lb := #[.pointer (some ⟨w1.heap.size, 0, none⟩)]) rfl trivial (enters_of Tryd.func79 (by kernel_rfl) rfl)
    (back_stops Fence.wide _ trivial rfl (by omega) w1.heap.size (w1.heap.size + 1) (.slice qs ls cs) zs (by omega) _ (by omega) (by simp) (by simp) hU) belowK_t (belowK_b (by simp)) (Below.refl _ _) (fun _ => rfl)
    (fun pre W => ((∀ p ∈ pre, withinB b p.2.1 = false) ∧ W.cell? ⟨w.heap.size, 0, none⟩ = some (.string b) ∧ W.cell? ⟨w.heap.size + 1, 0, none⟩ = some (.string ⟨#[]⟩) ∧ W.frozen? ⟨w.heap.size + 1, 0, none⟩ = false ∧ w1.heap.size + 1 ≤ W.heap.size) ∧ Below w.heap.size w W)
    (fun c pre W => (c = .ret ∧ ∃ ini last, pre = ini ++ [last] ∧ (∀ p ∈ ini, withinB b p.2.1 = false) ∧ withinB b last.2.1 = true ∧ W.cell? ⟨w.heap.size + 1, 0, none⟩ = some (.string last.2.1)) ∧ Below w.heap.size w W)
    (OwnFrom.and (Own.from (fun s A B row hs hg hr => ⟨hs.1, cell_kept hs.2.1 hg hr, cell_kept hs.2.2.1 hg hr, (frozen_kept hs.2.2.1 hg hr).trans hs.2.2.2.1, Nat.le_trans hs.2.2.2.2 hg.size⟩) _) (ownFrom_below (Nat.le_refl _) (by simp; omega)))
    (fun c => OwnFrom.and (Own.from (fun s A B row hs hg hr => by obtain ⟨hc, ini, last, e1, e2, e3, e4⟩ := hs; exact ⟨hc, ini, last, e1, e2, e3, cell_kept e4 hg hr⟩) _) (ownFrom_below (Nat.le_refl _) (by simp; omega)))
    ⟨⟨by simp, c3, c4, f4, by simp⟩, hBA⟩
    (fun x => { tmps := #[.string a, .string b, undef, .pointer (some ⟨w.heap.size, 0, none⟩), .pointer (some ⟨w.heap.size + 1, 0, none⟩), undef, .string x.2.1, .string a, .slice qs ls cs, .func (.func 79) #[] #[.pointer (some ⟨w1.heap.size, 0, none⟩)], .int .i64 (x.1 : Int), .string x.2.1, undef, undef, undef, undef], defers := [] }) ?assign ?body ?done ?stop
  case assign =>
    intro l x W K hK
    gi_wp2
    exact hK
  case body =>
    rintro l pre x W ⟨⟨hp, h3, h4, hf, hsz⟩, hB⟩ _
    have HP := Lib.hid hp
    have HBW := Lib.hid hB
    have hx := x.2.2
    have hd : 1 ≤ 3 - 1 - 1 := by omega
    clear hp hB c3 c4 f4 hBA hU
    cases hw : withinB b x.2.1 with
    | false =>
      have HW := Lib.hid hw
      clear hw
      gi_wp2_with fail
      refine ⟨trivial, (CallsIn.inRound l (callsIn_wide.2 (within_any b x.2.1 _ hb hx (HE.out.below HBW.out)))).mono ?_⟩
      rintro e w3 ⟨rfl, hb3⟩
      rw [HW.out]
      have k3 := (hb3.cell (p := ⟨w.heap.size, 0, none⟩) (by simp; omega)).trans h3
      have k4 := (hb3.cell (p := ⟨w.heap.size + 1, 0, none⟩) (by simp; omega)).trans h4
      have kf := (hb3.frozen (p := ⟨w.heap.size + 1, 0, none⟩) (by simp; omega)).trans hf
      gi_wp2_with fail
      refine ⟨(KeepsOthers.of_below hb3).from _, hb3.mono hsz, ⟨fun p hp' => ?_, k3, k4, kf, Nat.le_trans hsz hb3.size⟩, chain0 HBW.out hb3⟩
      rcases List.mem_append.1 hp' with h | h
      · exact HP.out p h
      · rw [List.mem_singleton.1 h]; exact HW.out
    | true =>
      have HW := Lib.hid hw
      clear hw
      gi_wp2_with fail
      refine ⟨trivial, (CallsIn.inRound l (callsIn_wide.2 (within_any b x.2.1 _ hb hx (HE.out.below HBW.out)))).mono ?_⟩
      rintro e w3 ⟨rfl, hb3⟩
      rw [HW.out]
      have k4 := (hb3.cell (p := ⟨w.heap.size + 1, 0, none⟩) (by simp; omega)).trans h4
      have kf := (hb3.frozen (p := ⟨w.heap.size + 1, 0, none⟩) (by simp; omega)).trans hf
      gi_wp2_with fail
      refine ⟨((KeepsOthers.of_below hb3).trans (KeepsOthers.setCell _ _ _)).from _, ⟨rfl, pre, x, rfl, HP.out, HW.out, World.cell?_setCell_same' _ _ _ (by rw [k4]; rfl)⟩, (chain0 HBW.out hb3).setCell (p := ⟨w.heap.size + 1, 0, none⟩) (Nat.le_succ _) _⟩
  case done =>
    rintro D ys W hD rfl ⟨⟨hp, h3, h4, hf, hsz⟩, hB⟩ hK
    have HP := Lib.hid hp
    have HB := Lib.hid hB
    clear hp hB c3 c4 f4 hBA hU
    gi_wp2_with fail
    have hK' := (KeepsOthers.setCell W ⟨w.heap.size + 1, 0, none⟩ (.string ⟨#[]⟩)).same D _ hK rfl
    refine ⟨by simp, .inl ⟨_, _, rfl, run_takeDeferred hK', ?_⟩⟩
    have hc5 := cell_kept (World.cell?_setCell_same' W ⟨w.heap.size + 1, 0, none⟩ (.string ⟨#[]⟩) (by rw [h4]; rfl)) (grownBy_putObj' _ D (.deferred none)) (fun r e => by cases e; exact ⟨_, hK', rfl⟩)
    have e0 : commonV a b = emptyB := by
      have hno : (List.map Subtype.val zs).reverse.find? (withinB b) = none := by
        rw [List.find?_eq_none]
        intro y hy k
        rw [List.mem_reverse, List.mem_map] at hy
        obtain ⟨z, hz, rfl⟩ := hy
        have hz2 : z ∈ (downL zs zs.length).map Prod.snd := by
          rw [downL_snd zs _ (Nat.le_refl _), List.take_of_length_le (by simp)]
          exact List.mem_reverse.2 hz
        obtain ⟨p, hp, rfl⟩ := List.mem_map.1 hz2
        rw [HP.out p hp] at k
        cases k
      rw [HV.out, hno]; rfl
    refine ⟨.string ⟨#[]⟩, ?_, by rw [e0]; rfl, (HB.out.setCell (p := ⟨w.heap.size + 1, 0, none⟩) (Nat.le_succ _) _).trans (belowK_b (w := w) (Nat.le_refl _) _ D _ _ (by simp at hD; omega) hK' rfl rfl)⟩
    simp [results, Tryd.f37, go_sem, hc5]
  case stop =>
    rintro D c pre W hD ⟨k, hk, rfl⟩ ⟨⟨rfl, ini, last, e1, e2, e3, hcr⟩, hB⟩ hK
    have HB := Lib.hid hB
    clear hB c3 c4 f4 hBA hU
    gi_wp2_with fail
    refine ⟨by simp, .inl ⟨_, _, rfl, run_takeDeferred hK, ?_⟩⟩
    have hc5 := cell_kept hcr (grownBy_putObj' _ D (.deferred none)) (fun r e => by cases e; exact ⟨_, hK, rfl⟩)
    have ev : commonV a b = last.2.1 := by
      have hl : ini.length + 1 = k := by
        have := congrArg List.length e1
        rw [downL_len, List.length_append] at this
        simpa using this.symm
      have e4 : zs.reverse.take k = ini.map Prod.snd ++ [last.2] := by rw [← downL_snd zs k hk, e1]; simp
      have e5 : zs.reverse[ini.length]? = some last.2 := by
        have : (zs.reverse.take k)[ini.length]? = some last.2 := by rw [e4]; simp
        rwa [List.getElem?_take, if_pos (by omega)] at this
      have e6 : zs.reverse.take ini.length = ini.map Prod.snd := by
        have : (zs.reverse.take k).take ini.length = ini.map Prod.snd := by rw [e4]; simp
        rwa [List.take_take, Nat.min_eq_left (by omega)] at this
      have hf := find_at (withinB b) (List.map Subtype.val zs).reverse ini.length last.2.1 (by rw [← List.map_reverse, List.getElem?_map, e5]; rfl) (fun y hy => by
        rw [← List.map_reverse, ← List.map_take, e6] at hy
        obtain ⟨q, hq, rfl⟩ := List.mem_map.1 hy
        obtain ⟨p, hp, rfl⟩ := List.mem_map.1 hq
        exact e2 p hp) e3
      rw [HV.out, hf]; rfl
    refine ⟨.string last.2.1, ?_, by rw [ev], HB.out.trans (belowK_b (w := w) (Nat.le_refl _) W D _ _ (by simp at hD; omega) hK rfl rfl)⟩
    simp [results, Tryd.f37, go_sem, hc5]
end Go.Proofs.YtnmcmnllmnpjkaaDoor
