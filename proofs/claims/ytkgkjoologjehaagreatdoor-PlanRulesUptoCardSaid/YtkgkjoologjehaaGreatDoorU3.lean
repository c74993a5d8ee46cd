/- The contract of the generator of steps. -/
import Derived.Test.YtkgkjoologjehaaGreatDoorU2
namespace Go.Proofs.YtkgkjoologjehaaGreatDoor
open Go.RowKit Go.Sort Cal Go.Maps
set_option maxRecDepth 100000 in
set_option maxHeartbeats 3200000 in
theorem tsteps_any (b : Nat) (sv : Value) (zs : List Int) (i : Nat) (w : World) (hT : TapeAt b sv zs i w) (hi : i ≤ 100000) :
    Calls Tryz.prog 47 #[.pointer (some ⟨b, 0, none⟩), .bool false] w (RowPost 95 2 4 10 b sv zs i w) := by
  obtain ⟨i0, hi0, hz0, hz1, hz2⟩ := info_parts info_step
  have HG := Lib.hid (Gen.start hT)
  clear hT
  go_enter Tryz.func47, Tryz.ntmps47
  go_wp2_with fail
  refine (next_gen 3 HG.out (by omega) (by omega) (by omega)).mono ?_
  rintro e w1 ⟨N, hN, rfl, hg1, ht1⟩
  have HG1 := Lib.hid hg1
  clear hg1 ht1
  go_wp2_with fail
  go_loopw [5, 9] (fun v q wr => ∃ (k n i' : Nat) (xs : List Value), k ≤ 1 + N ∧ q = .int .i64 k ∧ n ≤ k ∧ i' ≤ i + 1 + 2 * k ∧ wr.ownsRow w.heap.size 95 2 v n xs ∧ Gen b sv zs i' w wr) (fun _ q _ => 1 + N - (intOf q).toNat)
  case atStart => exact ⟨0, 0, i + 1, [], by omega, rfl, by omega, by omega, World.ownsRow_nil _ _ _ _, HG1.out⟩
  case round =>
    obtain ⟨k, n, i', xs, hk, rfl, hn, hi', hown, hg⟩ := hrel
    have HO := Lib.hid hown
    have HG2 := Lib.hid hg
    clear hown hg
    by_cases hlt : k < 1 + N
    · go_wp2_with fail
      refine (next_gen 3 HG2.out (by omega) (by omega) (by omega)).mono ?_
      rintro e w2 ⟨v, hv, rfl, hg3, ht3⟩
      have HG3 := Lib.hid hg3
      have HO3 := Lib.hid (HG2.out.own ht3 HO.out)
      have hv3 : v = 0 ∨ v = 1 ∨ v = 2 := by omega
      clear hg3 ht3 hv
      rcases hv3 with rfl | rfl | rfl
      · go_wp2_with fail
        refine (next_gen 2 HG3.out (by omega) (by omega) (by omega)).mono ?_
        rintro e w3 ⟨v, hv, rfl, hg4, ht4⟩
        have HG4 := Lib.hid (hg4.alloc (.cells #[.int .i64 1, .int .i64 (1 + (v : Int))] 95))
        have hown := HG3.out.own ht4 HO3.out
        have hsz := hg4.size
        clear hg4 ht4
        go_wp2_with (first
          | (at_builtin; refine wpList_append_own _ rfl _ _ 56 rfl w.heap.size 95 i0 (.agg #[.int .i64 0, .int .i64 0]) 2 16 Tryz.underlying56 hi0 hz0 hz1 hz2 rfl (by decide) _ _ _ rfl (hown.alloc _) ⟨w3.heap.size, 0, none⟩ 1 1 [.int .i64 1, .int .i64 (1 + (v : Int))] rfl rfl (cells_two' _ _ rfl _ _ _) (by simp [Value.oneCell']) (by unfold maxLen; omega) (by omega) (by simp; omega) ?_)
          | fail)
        intro v' w4 hown4 hgrow _
        have HO4 := Lib.hid hown4
        have HG5 := Lib.hid (HG4.out.grown hgrow (fun j hj => (hown.lt j hj).1))
        clear hown4 hgrow hown
        go_wp2
        go_roundw
        case rel => exact ⟨k + 1, n + 1, i' + 1 + 1, _, by omega, by go_num, by omega, by omega, HO4.out, HG5.out⟩
        case measure => simp [intOf]; omega
      · go_wp2_with fail
        refine (next_gen 3 HG3.out (by omega) (by omega) (by omega)).mono ?_
        rintro e w3 ⟨v, hv, rfl, hg4, ht4⟩
        have HG4 := Lib.hid (hg4.alloc (.cells #[.int .i64 2, .int .i64 (1 + (v : Int))] 95))
        have hown := HG3.out.own ht4 HO3.out
        have hsz := hg4.size
        clear hg4 ht4
        go_wp2_with (first
          | (at_builtin; refine wpList_append_own _ rfl _ _ 56 rfl w.heap.size 95 i0 (.agg #[.int .i64 0, .int .i64 0]) 2 16 Tryz.underlying56 hi0 hz0 hz1 hz2 rfl (by decide) _ _ _ rfl (hown.alloc _) ⟨w3.heap.size, 0, none⟩ 1 1 [.int .i64 2, .int .i64 (1 + (v : Int))] rfl rfl (cells_two' _ _ rfl _ _ _) (by simp [Value.oneCell']) (by unfold maxLen; omega) (by omega) (by simp; omega) ?_)
          | fail)
        intro v' w4 hown4 hgrow _
        have HO4 := Lib.hid hown4
        have HG5 := Lib.hid (HG4.out.grown hgrow (fun j hj => (hown.lt j hj).1))
        clear hown4 hgrow hown
        go_wp2
        go_roundw
        case rel => exact ⟨k + 1, n + 1, i' + 1 + 1, _, by omega, by go_num, by omega, by omega, HO4.out, HG5.out⟩
        case measure => simp [intOf]; omega
      · go_wp2_with fail
        refine (next_gen 3 HG3.out (by omega) (by omega) (by omega)).mono ?_
        rintro e w3 ⟨v, hv, rfl, hg4, ht4⟩
        have HG4 := Lib.hid (hg4.alloc (.cells #[.int .i64 3, .int .i64 (1 + (v : Int))] 95))
        have hown := HG3.out.own ht4 HO3.out
        have hsz := hg4.size
        clear hg4 ht4
        go_wp2_with (first
          | (at_builtin; refine wpList_append_own _ rfl _ _ 56 rfl w.heap.size 95 i0 (.agg #[.int .i64 0, .int .i64 0]) 2 16 Tryz.underlying56 hi0 hz0 hz1 hz2 rfl (by decide) _ _ _ rfl (hown.alloc _) ⟨w3.heap.size, 0, none⟩ 1 1 [.int .i64 3, .int .i64 (1 + (v : Int))] rfl rfl (cells_two' _ _ rfl _ _ _) (by simp [Value.oneCell']) (by unfold maxLen; omega) (by omega) (by simp; omega) ?_)
          | fail)
        intro v' w4 hown4 hgrow _
        have HO4 := Lib.hid hown4
        have HG5 := Lib.hid (HG4.out.grown hgrow (fun j hj => (hown.lt j hj).1))
        clear hown4 hgrow hown
        go_wp2
        go_roundw
        case rel => exact ⟨k + 1, n + 1, i' + 1 + 1, _, by omega, by go_num, by omega, by omega, HO4.out, HG5.out⟩
        case measure => simp [intOf]; omega
    · go_wp2_with fail
      refine (next_gen 2 HG2.out (by omega) (by omega) (by omega)).mono ?_
      rintro e w2 ⟨v, hv, rfl, hg3, ht3⟩
      have HG3 := Lib.hid (hg3.alloc (.cells #[.int .i64 4, .int .i64 0] 95))
      have HG3' := Lib.hid hg3
      have hown := HG2.out.own ht3 HO.out
      have hsz := hg3.size
      have HO2 := Lib.hid hown
      have hv3 : v = 0 ∨ v = 1 := by omega
      clear hg3 ht3 hv
      rcases hv3 with rfl | rfl
      · go_wp2_with (first
          | (at_builtin; refine wpList_append_own _ rfl _ _ 56 rfl w.heap.size 95 i0 (.agg #[.int .i64 0, .int .i64 0]) 2 16 Tryz.underlying56 hi0 hz0 hz1 hz2 rfl (by decide) _ _ _ rfl (hown.alloc _) ⟨w2.heap.size, 0, none⟩ 1 1 [.int .i64 4, .int .i64 0] rfl rfl (cells_two' _ _ rfl _ _ _) (by simp [Value.oneCell']) (by unfold maxLen; omega) (by omega) (by simp; omega) ?_)
          | fail)
        intro v' w4 hown4 hgrow _
        have HP : Hid (RowPost 95 2 4 10 b sv zs i w (.returned v') w4) := Lib.hid ⟨v', n + 1, _, _, rfl, hown4, by omega, by omega, HG3.out.grown hgrow (fun j hj => (hown.lt j hj).1)⟩
        clear hown4 hgrow hown
        go_wp2
        go_ret
        exact HP.out
      · have HP : Hid (RowPost 95 2 4 10 b sv zs i w (.returned u5) w2) := Lib.hid ⟨u5, n, _, _, rfl, HO2.out, by omega, by omega, HG3'.out⟩
        clear hown
        go_wp2
        go_ret
        exact HP.out
end Go.Proofs.YtkgkjoologjehaaGreatDoor
