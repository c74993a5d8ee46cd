/- Contracts of the reference's Validate, text and Format at the long plan's expression. -/
import Derived.Test.YtenjefbplpbjaaaGreatDoorZ10
namespace Go.Proofs.YtenjefbplpbjaaaGreatDoor
open Go.RowKit Go.Sort Cal Go.Maps
set_option maxRecDepth 100000 in
set_option maxHeartbeats 3200000 in
theorem rvalidate_l (g c : Nat) (a : Nat → Nat) (w : World) (hN : NodesAt g a w) (hc : 39 ≤ c) :
    Calls Tryz.prog 81 #[.slice (some ⟨g, 0, none⟩) 39 c] w fun e w' => e = .returned (.int .i64 0) ∧ Below w.heap.size w w' := by
  have HN := Lib.hid hN
  clear hN
  go_enter Tryz.func81, Tryz.ntmps81
  go_wp2_with fail
  go_loopw [17] (fun i wr => ∃ k : Nat, k ≤ 39 ∧ i = .int .i64 k ∧ Below w.heap.size w wr) (fun i _ => 39 - (intOf i).toNat)
  case atStart => exact ⟨0, by omega, rfl, Below.refl _ _⟩
  case round =>
    obtain ⟨k, hk, rfl, hB⟩ := hrel
    have HB := Lib.hid hB
    have HNr := Lib.hid (HN.out.below hB)
    have hlg := HNr.out.lt
    clear hB
    by_cases hlt : k < 39
    · cases hl : isLeaf k
      · have hl2 := (leaf_iff k).1 hl
        obtain ⟨c0, c1, c2, c3, c4, c5⟩ := HNr.out.min hlt hl
        have HX := Lib.hid (Box.new wr [.int .i64 8, .string ⟨#[]⟩, .bool false, .slice none 0 0, .slice none 0 0, .slice (some ⟨a k, 0, none⟩) 2 2] 39)
        have HL := Lib.hid hl
        obtain ⟨k1, hk1⟩ : ∃ k1, k1 = k - 1 := ⟨_, rfl⟩
        obtain ⟨k2, hk2⟩ : ∃ k2, k2 = k - 2 := ⟨_, rfl⟩
        have e1 : (k : Int) - 1 = (k1 : Int) := by omega
        have e2 : (k1 : Int) - 1 = (k2 : Int) := by omega
        have hz : ((k : Int) == 0) = false := by simp; omega
        have hk1b : k1 < k := by omega
        have HK1 := Lib.hid hk1
        have HK2 := Lib.hid hk2
        have hkc : k ≤ c := by omega
        clear hl hk1 hk2
        go_wp2_with fail
        refine (rnode_min _ _ _ _).mono ?_
        rintro e w1 ⟨rfl, hb1⟩
        have HX1 := Lib.hid (HX.out.step hb1)
        have HN1 := Lib.hid (HNr.out.below HX1.out.bl)
        have x0 : w1.cell? ⟨wr.heap.size, 0, none⟩ = some (.int .i64 8) := HX1.out.c 0 _ rfl
        clear hb1 c0 c1 c2 c3 c4 c5 HX
        go_wp2_with fail
        refine (rargs_8 _).mono ?_
        rintro e w2 ⟨rfl, rfl⟩
        have x5 : w1.cell? ⟨wr.heap.size, 5, none⟩ = some (.slice (some ⟨a k, 0, none⟩) 2 2) := HX1.out.c 5 _ rfl
        have a1 : w1.cell? ⟨a k, 1, none⟩ = some (.int .i64 (k1 : Int)) := by have := HN1.out.a1 k hlt HL.out; rwa [← HK1.out] at this
        have al := HN1.out.al k hlt HL.out
        have zx := HX1.out.sz
        clear x0
        go_wp2_with fail
        refine (starts_m g c k a _ HN1.out hk).mono ?_
        rintro e w3 ⟨v, rfl, hown, hb3⟩
        obtain ⟨gg, cap, rfl, _, hlo⟩ := World.ownsRow.form hown (by omega)
        have f0 : w3.cell? ⟨gg, k1, none⟩ = some (.int .i64 (k1 : Int)) := by
          have := (own_cell hown).1 k1 _ (startsL_at k k1 hk1b)
          rwa [startV_odd (by have := HK1.out; omega)] at this
        have HX3 := Lib.hid (HX1.out.step hb3)
        have HN3 := Lib.hid (HN1.out.below hb3)
        have y5 : w3.cell? ⟨wr.heap.size, 5, none⟩ = some (.slice (some ⟨a k, 0, none⟩) 2 2) := HX3.out.c 5 _ rfl
        have a0 : w3.cell? ⟨a k, 0, none⟩ = some (.int .i64 (k2 : Int)) := by have := HN3.out.a0 k hlt HL.out; rwa [← HK2.out] at this
        have al3 := HN3.out.al k hlt HL.out
        have zx3 := HX3.out.sz
        have HB3 := Lib.hid (chain0 HB.out HX3.out.bl)
        clear hown hb3 x5 a1 al zx
        go_wp2_with fail
        go_roundw
        case rel => exact ⟨k + 1, by omega, by go_num, HB3.out⟩
        case measure => simp [intOf]; omega
      · obtain ⟨c0, c1, c2, c3, c4, c5⟩ := HNr.out.leaf hlt hl
        have HX := Lib.hid (Box.new wr [.int .i64 3, .string refB, .bool false, .slice none 0 0, .slice none 0 0, .slice none 0 0] 39)
        clear hl
        go_wp2_with fail
        refine (rnode_leaf _).mono ?_
        rintro e w1 ⟨rfl, hb1⟩
        have HX1 := Lib.hid (HX.out.step hb1)
        have x0 : w1.cell? ⟨wr.heap.size, 0, none⟩ = some (.int .i64 3) := HX1.out.c 0 _ rfl
        clear hb1 c0 c1 c2 c3 c4 c5 HX
        go_wp2_with fail
        refine (rargs_3 _).mono ?_
        rintro e w2 ⟨rfl, rfl⟩
        have x5 : w1.cell? ⟨wr.heap.size, 5, none⟩ = some (.slice none 0 0) := HX1.out.c 5 _ rfl
        have HB1 := Lib.hid (chain0 HB.out HX1.out.bl)
        clear x0
        go_wp2_with fail
        go_roundw
        case rel => exact ⟨k + 1, by omega, by go_num, HB1.out⟩
        case measure => simp [intOf]; omega
    · obtain rfl : k = 39 := by omega
      go_wp2_with fail
      refine (starts_m g c 39 a _ HNr.out (by omega)).mono ?_
      rintro e w3 ⟨v, rfl, hown, hb3⟩
      obtain ⟨gg, cap, rfl, _, hlo⟩ := World.ownsRow.form hown (by omega)
      have f0 : w3.cell? ⟨gg, 38, none⟩ = some (.int .i64 0) := (own_cell hown).1 38 _ (startsL_at 39 38 (by omega))
      have HB3 := Lib.hid (chain0 HB.out hb3)
      clear hown hb3
      go_wp2
      go_ret
      exact ⟨rfl, HB3.out⟩
/-- The text of the i-th node. -/
def TextPost (i : Nat) (w : World) (e : Ending) (w' : World) : Prop := e = .returned (.string (nodeT i)) ∧ Below w.heap.size w w'
set_option maxRecDepth 100000 in
set_option maxHeartbeats 3200000 in
theorem rtext_i (g c : Nat) (a : Nat → Nat) : ∀ (i : Nat), i < 39 → ∀ (w : World), NodesAt g a w →
    Calls Tryz.prog 103 #[.slice (some ⟨g, 0, none⟩) 39 c, .int .i64 (i : Int)] w (TextPost i w) := by
  intro i
  induction i using Nat.strongRecOn with
  | _ i ih =>
    intro hi w hN
    have HN := Lib.hid hN
    have IH := Lib.hid ih
    have hlg := hN.lt
    clear hN ih
    cases hl : isLeaf i
    · have hli := (leaf_iff i).1 hl
      obtain ⟨c0, c1, c2, c3, c4, c5⟩ := HN.out.min hi hl
      obtain ⟨i1, hi1⟩ : ∃ k, k = i - 1 := ⟨_, rfl⟩
      obtain ⟨i2, hi2⟩ : ∃ k, k = i - 2 := ⟨_, rfl⟩
      obtain ⟨s0, hs0⟩ : ∃ x, x = nodeT i2 := ⟨_, rfl⟩
      obtain ⟨s1, hs1⟩ : ∃ x, x = nodeT i1 := ⟨_, rfl⟩
      have z0 : s0.size ≤ 1000 := by rw [hs0]; exact nodeT_size _ (by omega)
      have z1 : s1.size ≤ 1000 := by rw [hs1]; exact nodeT_size _ (by omega)
      have HM : Hid (nodeT i = (((⟨#[109, 105, 110, 40]⟩ : ByteArray) ++ s0) ++ ⟨#[44, 32]⟩) ++ s1 ++ ⟨#[41]⟩) := Lib.hid (by rw [hs0, hs1, hi1, hi2]; exact nodeT_min i hli.2 hli.1)
      have I0 : Hid (∀ W, NodesAt g a W → Calls Tryz.prog 103 #[.slice (some ⟨g, 0, none⟩) 39 c, .int .i64 (i2 : Int)] W fun e w' => e = .returned (.string s0) ∧ Below W.heap.size W w') := Lib.hid (fun W hW => by rw [hs0]; exact IH.out i2 (by omega) (by omega) W hW)
      have I1 : Hid (∀ W, NodesAt g a W → Calls Tryz.prog 103 #[.slice (some ⟨g, 0, none⟩) 39 c, .int .i64 (i1 : Int)] W fun e w' => e = .returned (.string s1) ∧ Below W.heap.size W w') := Lib.hid (fun W hW => by rw [hs1]; exact IH.out i1 (by omega) (by omega) W hW)
      have hz : ∀ a b : ByteArray, (a ++ b).size = a.size + b.size := fun a b => ByteArray.size_append
      have y4 : (⟨#[109, 105, 110, 40]⟩ : ByteArray).size = 4 := rfl
      have y2 : (⟨#[44, 32]⟩ : ByteArray).size = 2 := rfl
      have y1 : (⟨#[41]⟩ : ByteArray).size = 1 := rfl
      have q1 : ¬ 9223372036854775807 < 4 + s0.size := by omega
      have q2 : ¬ 9223372036854775807 < 4 + s0.size + 2 := by omega
      have q3 : ¬ 9223372036854775807 < 4 + s0.size + 2 + s1.size := by omega
      have q4 : ¬ 9223372036854775807 < 4 + s0.size + 2 + s1.size + 1 := by omega
      have HX := Lib.hid (Box.new w [.int .i64 8, .string ⟨#[]⟩, .bool false, .slice none 0 0, .slice none 0 0, .slice (some ⟨a i, 0, none⟩) 2 2] 39)
      have HNW := Lib.hid (HN.out.below HX.out.bl)
      have HI1 := Lib.hid hi1
      have HI2 := Lib.hid hi2
      have HL := Lib.hid hl
      clear hl hi1 hi2 hs0 hs1 hli
      go_enter Tryz.func103, Tryz.ntmps103
      go_wp2_with fail
      obtain ⟨W, hW⟩ : ∃ W, W = w.alloc (.cells #[.int .i64 8, .string ⟨#[]⟩, .bool false, .slice none 0 0, .slice none 0 0, .slice (some ⟨a i, 0, none⟩) 2 2] 39) := ⟨_, rfl⟩
      have HXW : Hid (Box w.heap.size w [.int .i64 8, .string ⟨#[]⟩, .bool false, .slice none 0 0, .slice none 0 0, .slice (some ⟨a i, 0, none⟩) 2 2] W) := Lib.hid (by rw [hW]; exact HX.out)
      have HNW2 : Hid (NodesAt g a W) := Lib.hid (by rw [hW]; exact HNW.out)
      rw [← hW]
      have KN : Hid (∀ d os, NodesAt g a (grow (redrawn W d) os)) := Lib.hid (fun d os => HNW2.out.below (below_regrown W d os))
      have k5 := fun d os => (HXW.out.step (below_regrown W d os)).c 5 _ rfl
      have ka0 : ∀ d os, (grow (redrawn W d) os).cell? ⟨a i, 0, none⟩ = some (.int .i64 (i2 : Int)) := fun d os => by have := (KN.out d os).a0 i hi HL.out; rwa [← HI2.out] at this
      have ka1 : ∀ d os, (grow (redrawn W d) os).cell? ⟨a i, 1, none⟩ = some (.int .i64 (i1 : Int)) := fun d os => by have := (KN.out d os).a1 i hi HL.out; rwa [← HI1.out] at this
      clear hW c0 c1 c2 c3 c4 c5 HX HNW
      refine wp_region_quiet_below (by kernel_rfl) (by kernel_rfl) ?_
      repeat (go_big_quiet_step (first
        | (go_at_call 103; ((with_reducible refine Calls.regrown_of (I0.out _ ?_)); exact KN.out _ _))
        | (go_at_call 103; ((with_reducible refine Calls.regrown_of (I1.out _ ?_)); exact KN.out _ _))))
      refine wpQuiet_nil ?_
      intro _ hw'
      obtain ⟨⟨dq, osq⟩, hw''⟩ := hw'
      subst hw''
      clear k5 ka0 ka1
      have HB6 := Lib.hid (chain0 HXW.out.bl (below_regrown W dq osq))
      go_wp2
      go_ret
      exact ⟨by rw [HM.out]; rfl, HB6.out⟩
    · obtain ⟨c0, c1, c2, c3, c4, c5⟩ := HN.out.leaf hi hl
      have HQ : Hid ((⟨#[34]⟩ : ByteArray) ++ refB ++ ⟨#[34]⟩ = nodeT i) := Lib.hid (by
        rw [quo_eq]
        unfold isLeaf at hl
        simp at hl
        rcases hl with rfl | h1
        · rfl
        · exact (nodeT_odd i h1).symm)
      have hrs : refB.size = 39 := rfl
      have hsz : ∀ a b : ByteArray, (a ++ b).size = a.size + b.size := fun a b => ByteArray.size_append
      clear hl
      go_enter Tryz.func103, Tryz.ntmps103
      go_wp2_with fail
      go_ret
      exact ⟨by rw [← HQ.out]; rfl, chainAlloc (Below.refl _ _) _⟩
theorem rformat_l (g c : Nat) (a : Nat → Nat) (w : World) (hN : NodesAt g a w) (hc : 39 ≤ c) :
    Calls Tryz.prog 56 #[.slice (some ⟨g, 0, none⟩) 39 c] w fun e w' => e = .returned (.tuple #[.string (minT 19), .int .i64 0]) ∧ Below w.heap.size w w' := by
  have HN := Lib.hid hN
  clear hN
  go_enter Tryz.func56, Tryz.ntmps56
  go_wp2_with fail
  refine (rvalidate_l g c a _ HN.out hc).mono ?_
  rintro e w1 ⟨rfl, hb1⟩
  have HB1 := Lib.hid hb1
  clear hb1
  go_wp2_with fail
  refine (rtext_i g c a 38 (by omega) _ (HN.out.below HB1.out)).mono ?_
  rintro e w2 ⟨rfl, hb2⟩
  rw [nodeT_38]
  have HB2 := Lib.hid (chain0 HB1.out hb2)
  clear hb2
  go_wp2
  go_ret2
  exact ⟨rfl, HB2.out⟩
end Go.Proofs.YtenjefbplpbjaaaGreatDoor
