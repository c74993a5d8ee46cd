/- Contracts of the reference's Starts, Validate, text and Format at the long plan's expression. -/
import Derived.Test.YtenjefbplpbjaaaGreatDoorZ9
import Derived.Lib.QuietBelow
namespace Go.Proofs.YtenjefbplpbjaaaGreatDoor
open Go.RowKit Go.Sort Cal Go.Maps
def startsL (m : Nat) : List Value := (List.range m).map fun j => Value.int .i64 (startV j)
theorem startsL_succ (m : Nat) : startsL m ++ [.int .i64 (startV m)] = startsL (m + 1) := by
  unfold startsL; rw [List.range_succ, List.map_append]; rfl
theorem startsL_at (m j : Nat) (h : j < m) : (startsL m)[j]? = some (.int .i64 (startV j)) := by
  unfold startsL; rw [List.getElem?_map, List.getElem?_range h]; rfl
def StartsPost (m : Nat) (w : World) (e : Ending) (w' : World) : Prop :=
  ∃ v, e = .returned v ∧ w'.ownsRow w.heap.size 3 1 v m (startsL m) ∧ Below w.heap.size w w'
set_option maxRecDepth 100000 in
set_option maxHeartbeats 3200000 in
theorem starts_m (g c m : Nat) (a : Nat → Nat) (w : World) (hN : NodesAt g a w) (hm : m ≤ 39) :
    Calls Tryz.prog 140 #[.slice (some ⟨g, 0, none⟩) m c] w (StartsPost m w) := by
  obtain ⟨i0, hi0, hz0, hz1, hz2⟩ := info_parts info3p
  have HN := Lib.hid hN
  clear hN
  go_enter Tryz.func140, Tryz.ntmps140
  go_wp2_with fail
  go_loopw [3, 9] (fun o i wr => ∃ k : Nat, k ≤ m ∧ i = .int .i64 k ∧ wr.ownsRow w.heap.size 3 1 o k (startsL k) ∧ Below w.heap.size w wr) (fun _ i _ => m - (intOf i).toNat)
  case atStart => exact ⟨0, by omega, rfl, World.ownsRow_nil _ _ _ _, Below.refl _ _⟩
  case round =>
    obtain ⟨k, hk, rfl, hown, hB⟩ := hrel
    have HB := Lib.hid hB
    have HO := Lib.hid hown
    have HNr := Lib.hid (HN.out.below hB)
    have hlg := HNr.out.lt
    have hs0 := hB.size
    clear hB
    by_cases hlt : k < m
    · have hlt39 : k < 39 := by omega
      cases hl : isLeaf k
      · have hl2 := (leaf_iff k).1 hl
        obtain ⟨c0, c1, c2, c3, c4, c5⟩ := HNr.out.min hlt39 hl
        obtain ⟨k2, hk2⟩ : ∃ k2, k2 = k - 2 := ⟨_, rfl⟩
        have a0 : wr.cell? ⟨a k, 0, none⟩ = some (.int .i64 (k2 : Int)) := by have := HNr.out.a0 k hlt39 hl; rwa [← hk2] at this
        have al := HNr.out.al k hlt39 hl
        obtain ⟨gg, cap, rfl, _, hlo⟩ := World.ownsRow.form hown (by omega)
        have f0 : wr.cell? ⟨gg, k2, none⟩ = some (.int .i64 0) := by
          have := (own_cell hown).1 k2 _ (startsL_at k k2 (by omega))
          rwa [startV_even (by omega)] at this
        have hk2b : k2 < k := by omega
        have hown2 := ownsRow_below (w' := (wr.alloc (.cells #[.int .i64 8, .string ⟨#[]⟩, .bool false, .slice none 0 0, .slice none 0 0, .slice (some ⟨a k, 0, none⟩) 2 2] 39))) HO.out (chainAlloc (Below.refl _ _) _)
        have HB1 : Hid (Below w.heap.size w (wr.alloc (.cells #[.int .i64 8, .string ⟨#[]⟩, .bool false, .slice none 0 0, .slice none 0 0, .slice (some ⟨a k, 0, none⟩) 2 2] 39))) := Lib.hid (HB.out.alloc HB.out.size _)
        have HV : Hid (startV k = 0) := Lib.hid (startV_even hl2.2)
        have hs1 := HB1.out.size
        clear hl hk2 hown
        go_wp2_with (first
          | (at_builtin; refine wpList_append_own _ rfl _ _ 37 rfl w.heap.size 3 i0 (.int .i64 0) 1 8 Tryz.underlying37 hi0 hz0 hz1 hz2 rfl (by decide) _ _ _ rfl (hown2.alloc _) ⟨wr.heap.size + 1, 0, none⟩ 1 1 [.int .i64 0] rfl rfl (cells_row _ _ (by simp) _ _) (by simp [Value.oneCell']) (by unfold maxLen; omega) (by omega) (by simp; omega) ?_)
          | fail)
        intro v' w3 hown3 hgrow _
        have HO3 : Hid (w3.ownsRow w.heap.size 3 1 v' (k + 1) (startsL (k + 1))) := Lib.hid (by rw [← startsL_succ, HV.out]; exact hown3)
        have HB3 : Hid (Below w.heap.size w w3) := Lib.hid ((HB1.out.alloc hs1 _).grown hgrow (by simp; omega) (fun j hj => (hown2.lt j hj).1))
        clear hown2 hown3 hgrow c0 c1 c2 c3 c4 c5 a0 f0
        go_wp2_with fail
        go_roundw
        case rel => exact ⟨k + 1, by omega, by go_num, HO3.out, HB3.out⟩
        case measure => simp [intOf]; omega
      · obtain ⟨c0, c1, c2, c3, c4, c5⟩ := HNr.out.leaf hlt39 hl
        have hown2 := ownsRow_below (w' := (wr.alloc (.cells #[.int .i64 3, .string refB, .bool false, .slice none 0 0, .slice none 0 0, .slice none 0 0] 39))) HO.out (chainAlloc (Below.refl _ _) _)
        have HB1 : Hid (Below w.heap.size w (wr.alloc (.cells #[.int .i64 3, .string refB, .bool false, .slice none 0 0, .slice none 0 0, .slice none 0 0] 39))) := Lib.hid (HB.out.alloc HB.out.size _)
        have HV : Hid (startV k = k) := Lib.hid (startV_leaf hl)
        have hs1 := HB1.out.size
        clear hl hown
        go_wp2_with (first
          | (at_builtin; refine wpList_append_own _ rfl _ _ 37 rfl w.heap.size 3 i0 (.int .i64 0) 1 8 Tryz.underlying37 hi0 hz0 hz1 hz2 rfl (by decide) _ _ _ rfl (hown2.alloc _) ⟨wr.heap.size + 1, 0, none⟩ 1 1 [.int .i64 (k : Int)] rfl rfl (cells_row _ _ (by simp) _ _) (by simp [Value.oneCell']) (by unfold maxLen; omega) (by omega) (by simp; omega) ?_)
          | fail)
        intro v' w3 hown3 hgrow _
        have HO3 : Hid (w3.ownsRow w.heap.size 3 1 v' (k + 1) (startsL (k + 1))) := Lib.hid (by rw [← startsL_succ, HV.out]; exact hown3)
        have HB3 : Hid (Below w.heap.size w w3) := Lib.hid ((HB1.out.alloc hs1 _).grown hgrow (by simp; omega) (fun j hj => (hown2.lt j hj).1))
        clear hown2 hown3 hgrow c0 c1 c2 c3 c4 c5
        go_wp2_with fail
        go_roundw
        case rel => exact ⟨k + 1, by omega, by go_num, HO3.out, HB3.out⟩
        case measure => simp [intOf]; omega
    · obtain rfl : k = m := by omega
      have HP : Hid (StartsPost k w (.returned _) wr) := Lib.hid ⟨_, rfl, hown, HB.out⟩
      clear hown
      go_wp2_with fail
      go_ret
      exact HP.out
end Go.Proofs.YtenjefbplpbjaaaGreatDoor
