/- The walk of CalendarLimits. -/
import Derived.Test.YtpknkomkldgnfaaDoorS2
import Derived.OwnWalk
namespace Go.Proofs.YtpknkomkldgnfaaDoor
open Go.RowKit Go.Sort Cal
def FoldPost (n : Int) (w : World) (e : Ending) (w' : World) : Prop := ∃ v : Int, 0 ≤ v ∧ v < n ∧ e = .returned (.int .i64 v) ∧ w = w'
theorem fold_some (v n : Int) (w : World) (h1 : 1 ≤ n) (h2 : n ≤ 1000000) : Calls Tryd.prog 19 #[.int .i64 v, .int .i64 n] w (FoldPost n w) :=
  (fold_any v n w h1 h2).mono fun _ _ ⟨a, b⟩ => ⟨_, (fold_bd v n h1).1, (fold_bd v n h1).2, a, b⟩
theorem Near.set {xs : List Int} (h : Near xs) (k : Nat) (x : Int) (hx : -9999 ≤ x ∧ x ≤ 300000) : Near (xs.set k x) := by
  intro j hj
  simp at hj
  by_cases e : k = j
  · subst e
    simpa [List.getD, hj] using hx
  · have : (xs.set k x).getD j 0 = xs.getD j 0 := by simp [List.getD, List.getElem?_set_ne e]
    rw [this]
    exact h j hj
theorem near_zero (L : Nat) : Near (List.replicate L 0) := fun j hj => by
  simp at hj
  simp [List.getD, hj]
set_option maxRecDepth 100000 in
set_option maxHeartbeats 1600000 in
theorem limits_walk (day : Int) (_ : -9223372036854775808 ≤ day) (_ : day ≤ 9223372036854775807) (more : Int) (_ : -9223372036854775808 ≤ more) (_ : more ≤ 9223372036854775807) (back : Bool) (w : World) (hT : Tab w) :
    Calls Tryd.prog 8 #[.int .i64 day, .int .i64 more, .bool back] w fun e w' => e = .returned (.bool true) ∧ Below w.heap.size w w' := by
  have HT := Lib.hid hT
  clear hT
  obtain ⟨i0, hi0, hz0, hz1, hz2⟩ := info_parts info3p
  go_enter Tryd.func8, Tryd.ntmps8
  go_wp2_with fail
  refine (fold_some day 100000 _ (by omega) (by omega)).mono ?_
  rintro e w' ⟨a, ha0, ha1, rfl, rfl⟩
  go_wp2_with fail
  refine (fold_some more 3 _ (by omega) (by omega)).mono ?_
  rintro e w' ⟨b, hb0, hb1, rfl, rfl⟩
  go_wp2_with fail
  refine (fold_some _ 3 _ (by omega) (by omega)).mono ?_
  rintro e w' ⟨c, hc0, hc1, rfl, rfl⟩
  obtain ⟨L, hL⟩ : ∃ L : Nat, 399 + c = (L : Int) := ⟨(399 + c).toNat, by omega⟩
  have hL1 : 399 ≤ L ∧ L ≤ 401 := by omega
  have HL := Lib.hid hL
  clear hL
  go_wp2_with (first
    | (at_make; refine wpList_make_full _ rfl _ _ 27 rfl w.heap.size 3 i0 (.int .i64 0) 1 Tryd.underlying27 hi0 hz0 hz1 .i64 .i64 _ _ L rfl rfl HL.out HL.out ?c1 ?c2 ?c3 ?_)
    | fail)
  case c1 => rw [hz2]; omega
  case c2 => unfold maxLen; omega
  case c3 => exact Nat.le_refl _
  · intro w1 hown hgrow
    have hown0 : w1.ownsRow w.heap.size 3 1 (.slice (some ⟨w.heap.size, 0, none⟩) L L) L ((List.replicate L (0 : Int)).map (Value.int .i64)) := by
      have e : (madeCells #[.int .i64 0] L).toList = (List.replicate L (0 : Int)).map (Value.int .i64) := by
        rw [toList_madeCells_one, List.map_replicate]
      rw [← e]; exact hown
    have hbl0 : Below w.heap.size w w1 := (Below.refl _ _).grown hgrow (Nat.le_refl _) (fun j hj => by cases hj)
    have HH := Lib.hid (And.intro hown0 hbl0)
    clear hown hgrow hown0 hbl0
    go_wp2_with fail
    go_loopw [28] (fun i wr => ∃ (k : Nat) (xs : List Int), k ≤ L ∧ i = .int .i64 k ∧ xs.length = L ∧ Near xs ∧ wr.ownsRow w.heap.size 3 1 (.slice (some ⟨w.heap.size, 0, none⟩) L L) L (xs.map (Value.int .i64)) ∧ Below w.heap.size w wr) (fun i _ => L - (intOf i).toNat)
    case atStart => exact ⟨0, List.replicate L 0, by omega, rfl, by simp, near_zero L, HH.out.1, HH.out.2⟩
    case round =>
      obtain ⟨k, xs, hk, rfl, hxl, hnear, hown, hbl⟩ := hrel
      have HXL := Lib.hid hxl
      have HN := Lib.hid hnear
      have HO := Lib.hid hown
      have HBL := Lib.hid hbl
      by_cases hlt : k < L
      · have hcell : wr.cell? ⟨w.heap.size, k, none⟩ = some (.int .i64 (xs.getD k 0)) := by
          rw [hown.cellAt k (by omega)]
          simp [List.getD, show k < xs.length from by omega]
        have hfr := hown.frozenAt k
        obtain ⟨z, ez⟩ : ∃ z, z = xs.getD k 0 := ⟨_, rfl⟩
        rw [← ez] at hcell
        clear ez hxl hnear hown hbl
        go_wp2_with fail
        go_roundw
        case rel =>
          have h := (HO.out.stored k (.int .i64 (10000 + a + (k : Int)))).1
          rw [← List.map_set] at h
          exact ⟨k + 1, xs.set k (10000 + a + (k : Int)), by omega, by go_num, by simp [HXL.out], HN.out.set k _ (by omega), h, HBL.out.setCell (Nat.le_refl _) _⟩
        case measure => simp [intOf]; omega
      · obtain rfl : L = k := by omega
        have HI := Lib.hid (ints_of_own hown hxl.symm)
        have HXF := Lib.hid (hnear.fits (by omega))
        clear hxl hnear hown hbl
        cases back
        case false =>
          go_wp2_with fail
          refine (shift_any (10000 + a) (999 + b) (some ⟨w.heap.size, 0, none⟩) L L xs _ HXL.out.symm HI.out HXF.out).mono ?_
          rintro e w2 ⟨rfl, hb2⟩
          go_wp2_with fail
          refine (rshift_any (10000 + a) (999 + b) (some ⟨w.heap.size, 0, none⟩) L L xs _ HXL.out.symm (HI.out.below hb2) HXF.out).mono ?_
          rintro e w' ⟨rfl, rfl⟩
          have hb12 := HBL.out.trans (hb2.mono HBL.out.size)
          go_wp2_with fail
          refine (awake_any _ (HT.out.below hb12)).mono ?_
          rintro e w5 ⟨rfl, hb5⟩
          go_wp2_with fail
          go_ret
          exact ⟨rfl, chain hb12 hb5⟩
        case true =>
          go_wp2_with fail
          refine (shift_any (10000 + a) (-(999 + b)) (some ⟨w.heap.size, 0, none⟩) L L xs _ HXL.out.symm HI.out HXF.out).mono ?_
          rintro e w2 ⟨rfl, hb2⟩
          go_wp2_with fail
          refine (rshift_any (10000 + a) (-(999 + b)) (some ⟨w.heap.size, 0, none⟩) L L xs _ HXL.out.symm (HI.out.below hb2) HXF.out).mono ?_
          rintro e w' ⟨rfl, rfl⟩
          have hb12 := HBL.out.trans (hb2.mono HBL.out.size)
          go_wp2_with fail
          refine (awake_any _ (HT.out.below hb12)).mono ?_
          rintro e w5 ⟨rfl, hb5⟩
          go_wp2_with fail
          go_ret
          exact ⟨rfl, chain hb12 hb5⟩
end Go.Proofs.YtpknkomkldgnfaaDoor
