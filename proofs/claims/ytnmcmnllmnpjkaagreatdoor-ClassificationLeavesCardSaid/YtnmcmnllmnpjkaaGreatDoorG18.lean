/- Contracts of the function inside Children and of chosen, for both of its callers. -/
import Derived.Test.YtnmcmnllmnpjkaaGreatDoorG17
import Derived.Lib.QuietBelow
import Derived.Lib.ItoaNum
namespace Go.Proofs.YtnmcmnllmnpjkaaGreatDoor
open Go.RowKit Go.Sort Cal Go.Maps
theorem level_bd (s : ByteArray) : -1 ≤ levelV s ∧ levelV s ≤ 5 := by
  unfold levelV partsO
  by_cases h : s.size = 0
  · rw [if_pos h]; show -1 ≤ (([] : List Int).length : Int) ∧ (([] : List Int).length : Int) ≤ 5; simp
  · rw [if_neg h]
    cases hp : parseO s with
    | none => show -1 ≤ (-1 : Int) ∧ (-1 : Int) ≤ 5; omega
    | some P => have := (parseO_some hp).1.2.1; show -1 ≤ (P.length : Int) ∧ (P.length : Int) ≤ 5; omega
set_option maxRecDepth 100000 in
set_option maxHeartbeats 1600000 in
theorem kid_any (B : Nat) (x u : ByteArray) (w : World) (hx : x.size ≤ 1000) (hu : u.size ≤ 1000) (hB : w.cell? ⟨B, 0, none⟩ = some (.string u)) (hE : Env w) :
    Calls Tryz.prog 17 #[.string x, .pointer (some ⟨B, 0, none⟩)] w fun e w' => e = .returned (.bool (kidE u x)) ∧ Below w.heap.size w w' := by
  have HE : Hid (∀ d os, Env (grow (redrawn w d) os)) := Lib.hid (fun d os => hE.below (below_regrown w d os))
  have c0 : ∀ d os, (grow (redrawn w d) os).cell? ⟨B, 0, none⟩ = some (.string u) := fun d os => cell_regrown hB d os
  have hbu := level_bd u
  obtain ⟨a, ha⟩ : ∃ a, a = levelV x := ⟨_, rfl⟩
  obtain ⟨b, hb⟩ : ∃ b, b = levelV u := ⟨_, rfl⟩
  have CX : Hid (∀ W, Env W → Calls Tryz.prog 19 #[.string x] W fun e w' => e = .returned (.int .i64 a) ∧ Below W.heap.size W w') := Lib.hid (fun W hW => by rw [ha]; exact level_any x W hx hW)
  have CU : Hid (∀ W, Env W → Calls Tryz.prog 19 #[.string u] W fun e w' => e = .returned (.int .i64 b) ∧ Below W.heap.size W w') := Lib.hid (fun W hW => by rw [hb]; exact level_any u W hu hW)
  rw [← hb] at hbu
  have HK : Hid (kidE u x = (withinB x u && decide (a = b + 1))) := Lib.hid (by unfold kidE; rw [ha, hb])
  clear ha hb hB hE
  cases hw : withinB x u with
  | false =>
    have HV : Hid (kidE u x = false) := Lib.hid (by rw [HK.out, hw]; rfl)
    have CW : Hid (∀ W, Env W → Calls Tryz.prog 18 #[.string x, .string u] W fun e w' => e = .returned (.bool false) ∧ Below W.heap.size W w') := Lib.hid (fun W hW => by have := within_any x u W hx hu hW; rwa [hw] at this)
    clear hw
    go_enter Tryz.func17, Tryz.ntmps17
    go_wp2_with fail
    refine wp_region_quiet_below (by kernel_rfl) (by kernel_rfl) ?_
    repeat (go_big_quiet_step ((go_at_call 18; exact Calls.regrown_of (CW.out _ (HE.out _ _)))))
    refine wpQuiet_nil ?_
    intro _ hw'
    obtain ⟨⟨dq, osq⟩, hw''⟩ := hw'
    subst hw''
    go_wp2
    go_ret
    exact ⟨by rw [HV.out]; rfl, below_regrown w dq osq⟩
  | true =>
    have CW : Hid (∀ W, Env W → Calls Tryz.prog 18 #[.string x, .string u] W fun e w' => e = .returned (.bool true) ∧ Below W.heap.size W w') := Lib.hid (fun W hW => by have := within_any x u W hx hu hW; rwa [hw] at this)
    have hcase : (Hid (kidE u x = true) ∧ a = b + 1) ∨ (Hid (kidE u x = false) ∧ (a == b + 1) = false) := by
      by_cases h : a = b + 1
      · exact Or.inl ⟨Lib.hid (by rw [HK.out, hw, decide_eq_true h]; rfl), h⟩
      · exact Or.inr ⟨Lib.hid (by rw [HK.out, hw, decide_eq_false h]; rfl), by rw [beq_eq_false_iff_ne]; exact h⟩
    clear hw HK
    rcases hcase with ⟨HV, rfl⟩ | ⟨HV, hne⟩
    all_goals
      have hwr : IntKind.i64.wrap (b + 1) = b + 1 := IntWalk.i64_in _ (by omega)
      go_enter Tryz.func17, Tryz.ntmps17
      go_wp2_with fail
      refine wp_region_quiet_below (by kernel_rfl) (by kernel_rfl) ?_
      repeat (go_big_quiet_step (first
        | (go_at_call 18; exact Calls.regrown_of (CW.out _ (HE.out _ _)))
        | (go_at_call 19; first | (with_reducible exact Calls.regrown_of (CX.out _ (HE.out _ _))) | (with_reducible exact Calls.regrown_of (CU.out _ (HE.out _ _))))))
      refine wpQuiet_nil ?_
      intro _ hw'
      obtain ⟨⟨dq, osq⟩, hw''⟩ := hw'
      subst hw''
      clear hwr
      go_wp2
      go_ret
      exact ⟨by rw [HV.out]; rfl, below_regrown w dq osq⟩
/-- What chosen gives: codes of the list, in memory of its own. -/
def ListPost (base : Nat) (r : List ByteArray) (w : World) (e : Ending) (w' : World) : Prop :=
  ∃ v, e = .returned v ∧ w'.ownsRow base 9 1 v r.length (r.map Value.string) ∧ Below w.heap.size w w'
set_option maxRecDepth 100000 in
set_option maxHeartbeats 3200000 in
theorem chosen_kids (B : Nat) (p : ByteArray → Bool) (nm : ByteArray) (sv : Value) (ss : List ByteArray) (u : ByteArray) (w : World) (hv : StrsAt w sv ss) (hl : ss.length ≤ 1000000) (hs : Short ss) (hE : Env w)
    (hF : ∀ x W, x.size ≤ 1000 → Below w.heap.size w W → Calls Tryz.prog 17 #[.string x, .pointer (some ⟨B, 0, none⟩)] W fun e w' => e = .returned (.bool (p x)) ∧ Below W.heap.size W w') :
    Calls Tryz.prog 16 #[.agg #[.string nm, sv], .string u, .func (.func 17) #[] #[.pointer (some ⟨B, 0, none⟩)]] w (ListPost w.heap.size (if knownB ss u then ss.filter p else []) w) := by
  obtain ⟨q, l, c, rfl⟩ := strs_form hv
  have hll := strs_len hv
  obtain ⟨i0, hi0, hz0, hz1, hz2⟩ := info_parts info9p
  have hb0 : Below w.heap.size w (w.alloc (.cells #[.string nm, .slice q l c] 24)) := (Below.refl _ _).alloc (Nat.le_refl _) _
  have hpb : (w.alloc (.cells #[.string nm, .slice q l c] 24)).heap[w.heap.size]? = some (.cells #[.string nm, .slice q l c] 24 (0, 0)) := by
    show (w.heap.push _)[_]? = _
    rw [Array.getElem?_push, if_pos rfl]
  have hl6 : l ≤ 1000000 := by omega
  have HS := Lib.hid (hv.below hb0)
  have HV := Lib.hid hv
  have HSH := Lib.hid hs
  have HE := Lib.hid (hE.below hb0)
  have HF := Lib.hid hF
  have HB0 := Lib.hid hb0
  have HPB := Lib.hid hpb
  have HLL := Lib.hid hll
  clear hv hs hb0 hE hF hpb hll
  cases hk : knownB ss u with
  | false =>
    have HK := Lib.hid hk
    clear hk
    go_enter Tryz.func16, Tryz.ntmps16
    go_wp2_with fail
    refine (chas_any nm _ ss u _ HS.out hl HSH.out HE.out).mono ?_
    rintro e w1 ⟨rfl, hb1⟩
    rw [HK.out]
    go_wp2
    go_ret
    exact ⟨_, rfl, World.ownsRow_nil _ _ _ _, chain0 HB0.out hb1⟩
  | true =>
    have HK := Lib.hid hk
    clear hk
    rw [if_pos rfl]
    go_enter Tryz.func16, Tryz.ntmps16
    go_wp2_with fail
    refine (chas_any nm _ ss u _ HS.out hl HSH.out HE.out).mono ?_
    rintro e w1 ⟨rfl, hb1⟩
    rw [HK.out]
    have cf1 := cell_blk ((hb1.block w.heap.size (by simp)).trans HPB.out) 1 _ rfl
    have HB1 := Lib.hid (chain0 HB0.out hb1)
    clear hb1
    go_wp2_with fail
    go_loopw [7, 17] (fun o i wr => ∃ (k m : Nat), k ≤ l ∧ i = .int .i64 k ∧ m ≤ k ∧ Hid (((ss.take k).filter p).length = m) ∧ wr.ownsRow w.heap.size 9 1 o m (((ss.take k).filter p).map Value.string) ∧ Below w.heap.size w wr) (fun _ i _ => l - (intOf i).toNat)
    case atStart => exact ⟨0, 0, by omega, rfl, by omega, Lib.hid rfl, World.ownsRow_nil _ _ _ _, HB1.out⟩
    case round =>
      obtain ⟨k, m, hk, rfl, hmk, HM, hown, hbr⟩ := hrel
      have HOW := Lib.hid hown
      have HBR := Lib.hid hbr
      by_cases hlt : k < l
      · have hcell : ∃ x : ByteArray, Hid (x = ss.getD k ByteArray.empty) ∧ x.size ≤ 1000 ∧ ∃ b off, q = some ⟨b, off, none⟩ ∧ wr.cell? ⟨b, off + k, none⟩ = some (.string x) := by
          rcases HV.out with ⟨e, _⟩ | ⟨_, b, off, cap, e, _, hb, hc⟩
          · have := HLL.out; rw [e] at this; simp at this; omega
          · cases e
            exact ⟨ss.getD k ByteArray.empty, Lib.hid rfl, HSH.out k, b, off, rfl, (hbr.cell (p := ⟨b, off + k, none⟩) hb).trans (hc k (by have := HLL.out; omega))⟩
        obtain ⟨x, HX, hxs, b, off, rfl, hcx⟩ := hcell
        have HT : Hid ((ss.take (k + 1)).filter p = (ss.take k).filter p ++ if p x then [x] else []) := Lib.hid (by
          have := filter_take p ss k (by have := HLL.out; omega)
          rw [HX.out]; exact this)
        clear hown hbr
        cases hp : p x with
        | false =>
          have HP := Lib.hid hp
          have HN : Hid ((ss.take (k + 1)).filter p = (ss.take k).filter p) := Lib.hid (by rw [HT.out, hp]; simp)
          clear hp
          go_wp2_with fail
          refine (HF.out x _ hxs HBR.out).mono ?_
          rintro e w2 ⟨rfl, hb2⟩
          rw [HP.out]
          have HB2 := Lib.hid (HBR.out.trans (hb2.mono HBR.out.size))
          have HO2 := Lib.hid (ownsRow_below HOW.out hb2)
          clear hb2
          go_wp2_with fail
          go_roundw
          case rel => exact ⟨k + 1, m, by omega, by go_num, by omega, Lib.hid (by rw [HN.out]; exact HM.out), by rw [HN.out]; exact HO2.out, HB2.out⟩
          case measure => simp [intOf]; omega
        | true =>
          have HP := Lib.hid hp
          have HN : Hid ((ss.take (k + 1)).filter p = (ss.take k).filter p ++ [x]) := Lib.hid (by rw [HT.out, hp]; rfl)
          clear hp
          go_wp2_with fail
          refine (HF.out x _ hxs HBR.out).mono ?_
          rintro e w2 ⟨rfl, hb2⟩
          rw [HP.out]
          have HB2 := Lib.hid (HBR.out.trans (hb2.mono HBR.out.size))
          have hown2 := ownsRow_below HOW.out hb2
          have hs2 := HB2.out.size
          clear hb2
          go_wp2_with (first
            | (at_builtin; refine wpList_append_own _ rfl _ _ 22 rfl w.heap.size 9 i0 (.string ⟨#[]⟩) 1 16 Tryz.underlying22 hi0 hz0 hz1 hz2 rfl (by decide) _ _ _ rfl (hown2.alloc _) ⟨w2.heap.size, 0, none⟩ 1 1 [.string x] rfl rfl (cell_one_new _ _ _) (by simp [Value.oneCell']) (by unfold maxLen; omega) (by omega) (by simp; omega) ?_)
            | fail)
          intro v' w3 hown3 hgrow _
          have HO3 : Hid (w3.ownsRow w.heap.size 9 1 v' (m + 1) (((ss.take (k + 1)).filter p).map Value.string)) := Lib.hid (by rw [HN.out, List.map_append]; exact hown3)
          have HM3 : Hid (((ss.take (k + 1)).filter p).length = m + 1) := Lib.hid (by rw [HN.out, List.length_append, HM.out]; rfl)
          have HB3 : Hid (Below w.heap.size w w3) := Lib.hid ((HB2.out.alloc HB2.out.size _).grown hgrow (by simp; omega) (fun j hj => (hown2.lt j hj).1))
          clear hown2 hown3 hgrow
          go_wp2_with fail
          go_roundw
          case rel => exact ⟨k + 1, m + 1, by omega, by go_num, by omega, HM3.out |> Lib.hid, HO3.out, HB3.out⟩
          case measure => simp [intOf]; omega
      · obtain rfl : k = l := by omega
        have HN : Hid (ss.take k = ss) := Lib.hid (List.take_of_length_le (by have := HLL.out; omega))
        clear hown hbr
        go_wp2
        go_ret
        refine ⟨_, rfl, ?_, HBR.out⟩
        have h := HOW.out
        have hm := HM.out
        rw [HN.out] at h hm
        rw [hm]; exact h
set_option maxRecDepth 100000 in
set_option maxHeartbeats 3200000 in
theorem chosen_leaves (B C : Nat) (p : ByteArray → Bool) (nm : ByteArray) (sv : Value) (ss : List ByteArray) (u : ByteArray) (w : World) (hv : StrsAt w sv ss) (hl : ss.length ≤ 1000000) (hs : Short ss) (hE : Env w)
    (hF : ∀ x W, x.size ≤ 1000 → Below w.heap.size w W → Calls Tryz.prog 23 #[.string x, .pointer (some ⟨B, 0, none⟩), .pointer (some ⟨C, 0, none⟩)] W fun e w' => e = .returned (.bool (p x)) ∧ Below W.heap.size W w') :
    Calls Tryz.prog 16 #[.agg #[.string nm, sv], .string u, .func (.func 23) #[] #[.pointer (some ⟨B, 0, none⟩), .pointer (some ⟨C, 0, none⟩)]] w (ListPost w.heap.size (if knownB ss u then ss.filter p else []) w) := by
  obtain ⟨q, l, c, rfl⟩ := strs_form hv
  have hll := strs_len hv
  obtain ⟨i0, hi0, hz0, hz1, hz2⟩ := info_parts info9p
  have hb0 : Below w.heap.size w (w.alloc (.cells #[.string nm, .slice q l c] 24)) := (Below.refl _ _).alloc (Nat.le_refl _) _
  have hpb : (w.alloc (.cells #[.string nm, .slice q l c] 24)).heap[w.heap.size]? = some (.cells #[.string nm, .slice q l c] 24 (0, 0)) := by
    show (w.heap.push _)[_]? = _
    rw [Array.getElem?_push, if_pos rfl]
  have hl6 : l ≤ 1000000 := by omega
  have HS := Lib.hid (hv.below hb0)
  have HV := Lib.hid hv
  have HSH := Lib.hid hs
  have HE := Lib.hid (hE.below hb0)
  have HF := Lib.hid hF
  have HB0 := Lib.hid hb0
  have HPB := Lib.hid hpb
  have HLL := Lib.hid hll
  clear hv hs hb0 hE hF hpb hll
  cases hk : knownB ss u with
  | false =>
    have HK := Lib.hid hk
    clear hk
    go_enter Tryz.func16, Tryz.ntmps16
    go_wp2_with fail
    refine (chas_any nm _ ss u _ HS.out hl HSH.out HE.out).mono ?_
    rintro e w1 ⟨rfl, hb1⟩
    rw [HK.out]
    go_wp2
    go_ret
    exact ⟨_, rfl, World.ownsRow_nil _ _ _ _, chain0 HB0.out hb1⟩
  | true =>
    have HK := Lib.hid hk
    clear hk
    rw [if_pos rfl]
    go_enter Tryz.func16, Tryz.ntmps16
    go_wp2_with fail
    refine (chas_any nm _ ss u _ HS.out hl HSH.out HE.out).mono ?_
    rintro e w1 ⟨rfl, hb1⟩
    rw [HK.out]
    have cf1 := cell_blk ((hb1.block w.heap.size (by simp)).trans HPB.out) 1 _ rfl
    have HB1 := Lib.hid (chain0 HB0.out hb1)
    clear hb1
    go_wp2_with fail
    go_loopw [7, 17] (fun o i wr => ∃ (k m : Nat), k ≤ l ∧ i = .int .i64 k ∧ m ≤ k ∧ Hid (((ss.take k).filter p).length = m) ∧ wr.ownsRow w.heap.size 9 1 o m (((ss.take k).filter p).map Value.string) ∧ Below w.heap.size w wr) (fun _ i _ => l - (intOf i).toNat)
    case atStart => exact ⟨0, 0, by omega, rfl, by omega, Lib.hid rfl, World.ownsRow_nil _ _ _ _, HB1.out⟩
    case round =>
      obtain ⟨k, m, hk, rfl, hmk, HM, hown, hbr⟩ := hrel
      have HOW := Lib.hid hown
      have HBR := Lib.hid hbr
      by_cases hlt : k < l
      · have hcell : ∃ x : ByteArray, Hid (x = ss.getD k ByteArray.empty) ∧ x.size ≤ 1000 ∧ ∃ b off, q = some ⟨b, off, none⟩ ∧ wr.cell? ⟨b, off + k, none⟩ = some (.string x) := by
          rcases HV.out with ⟨e, _⟩ | ⟨_, b, off, cap, e, _, hb, hc⟩
          · have := HLL.out; rw [e] at this; simp at this; omega
          · cases e
            exact ⟨ss.getD k ByteArray.empty, Lib.hid rfl, HSH.out k, b, off, rfl, (hbr.cell (p := ⟨b, off + k, none⟩) hb).trans (hc k (by have := HLL.out; omega))⟩
        obtain ⟨x, HX, hxs, b, off, rfl, hcx⟩ := hcell
        have HT : Hid ((ss.take (k + 1)).filter p = (ss.take k).filter p ++ if p x then [x] else []) := Lib.hid (by
          have := filter_take p ss k (by have := HLL.out; omega)
          rw [HX.out]; exact this)
        clear hown hbr
        cases hp : p x with
        | false =>
          have HP := Lib.hid hp
          have HN : Hid ((ss.take (k + 1)).filter p = (ss.take k).filter p) := Lib.hid (by rw [HT.out, hp]; simp)
          clear hp
          go_wp2_with fail
          refine (HF.out x _ hxs HBR.out).mono ?_
          rintro e w2 ⟨rfl, hb2⟩
          rw [HP.out]
          have HB2 := Lib.hid (HBR.out.trans (hb2.mono HBR.out.size))
          have HO2 := Lib.hid (ownsRow_below HOW.out hb2)
          clear hb2
          go_wp2_with fail
          go_roundw
          case rel => exact ⟨k + 1, m, by omega, by go_num, by omega, Lib.hid (by rw [HN.out]; exact HM.out), by rw [HN.out]; exact HO2.out, HB2.out⟩
          case measure => simp [intOf]; omega
        | true =>
          have HP := Lib.hid hp
          have HN : Hid ((ss.take (k + 1)).filter p = (ss.take k).filter p ++ [x]) := Lib.hid (by rw [HT.out, hp]; rfl)
          clear hp
          go_wp2_with fail
          refine (HF.out x _ hxs HBR.out).mono ?_
          rintro e w2 ⟨rfl, hb2⟩
          rw [HP.out]
          have HB2 := Lib.hid (HBR.out.trans (hb2.mono HBR.out.size))
          have hown2 := ownsRow_below HOW.out hb2
          have hs2 := HB2.out.size
          clear hb2
          go_wp2_with (first
            | (at_builtin; refine wpList_append_own _ rfl _ _ 22 rfl w.heap.size 9 i0 (.string ⟨#[]⟩) 1 16 Tryz.underlying22 hi0 hz0 hz1 hz2 rfl (by decide) _ _ _ rfl (hown2.alloc _) ⟨w2.heap.size, 0, none⟩ 1 1 [.string x] rfl rfl (cell_one_new _ _ _) (by simp [Value.oneCell']) (by unfold maxLen; omega) (by omega) (by simp; omega) ?_)
            | fail)
          intro v' w3 hown3 hgrow _
          have HO3 : Hid (w3.ownsRow w.heap.size 9 1 v' (m + 1) (((ss.take (k + 1)).filter p).map Value.string)) := Lib.hid (by rw [HN.out, List.map_append]; exact hown3)
          have HM3 : Hid (((ss.take (k + 1)).filter p).length = m + 1) := Lib.hid (by rw [HN.out, List.length_append, HM.out]; rfl)
          have HB3 : Hid (Below w.heap.size w w3) := Lib.hid ((HB2.out.alloc HB2.out.size _).grown hgrow (by simp; omega) (fun j hj => (hown2.lt j hj).1))
          clear hown2 hown3 hgrow
          go_wp2_with fail
          go_roundw
          case rel => exact ⟨k + 1, m + 1, by omega, by go_num, by omega, HM3.out |> Lib.hid, HO3.out, HB3.out⟩
          case measure => simp [intOf]; omega
      · obtain rfl : k = l := by omega
        have HN : Hid (ss.take k = ss) := Lib.hid (List.take_of_length_le (by have := HLL.out; omega))
        clear hown hbr
        go_wp2
        go_ret
        refine ⟨_, rfl, ?_, HBR.out⟩
        have h := HOW.out
        have hm := HM.out
        rw [HN.out] at h hm
        rw [hm]; exact h
end Go.Proofs.YtnmcmnllmnpjkaaGreatDoor
