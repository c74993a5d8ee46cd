/- Contracts of what judges a plan, at the small plan: its steps, its chain, its rule; and at empty lists. -/
import Derived.Test.YtenjefbplpbjaaaGreatDoorQ1
import Derived.Deep.RegionHeld3
namespace Go.Proofs.YtenjefbplpbjaaaGreatDoor
open Go.RowKit Go.Sort Cal Go.Maps
/-- The small plan's parts: one rule, one chain of three steps. -/
structure PlanAt (g1 g2 g3 c3 : Nat) (w : World) : Prop where
  l1 : g1 < w.heap.size
  l2 : g2 < w.heap.size
  l3 : g3 < w.heap.size
  k3 : 3 ≤ c3
  r0 : w.cell? ⟨g1, 0, none⟩ = some (.string ⟨#[]⟩)
  r1 : w.cell? ⟨g1, 1, none⟩ = some (.int .i64 1)
  r2 : w.cell? ⟨g1, 2, none⟩ = some (.int .i64 0)
  r3 : w.cell? ⟨g1, 3, none⟩ = some (.int .i64 0)
  c0 : w.cell? ⟨g2, 0, none⟩ = some (.string ⟨#[]⟩)
  c1 : w.cell? ⟨g2, 1, none⟩ = some (.slice (some ⟨g3, 0, none⟩) 3 c3)
  s0 : w.cell? ⟨g3, 0, none⟩ = some (.int .i64 1)
  s1 : w.cell? ⟨g3, 1, none⟩ = some (.int .i64 2)
  s2 : w.cell? ⟨g3, 2, none⟩ = some (.int .i64 3)
  s3 : w.cell? ⟨g3, 3, none⟩ = some (.int .i64 3)
  s4 : w.cell? ⟨g3, 4, none⟩ = some (.int .i64 4)
  s5 : w.cell? ⟨g3, 5, none⟩ = some (.int .i64 0)
theorem PlanAt.below {g1 g2 g3 c3 : Nat} {w w' : World} (h : PlanAt g1 g2 g3 c3 w) (hb : Below w.heap.size w w') : PlanAt g1 g2 g3 c3 w' where
  l1 := Nat.lt_of_lt_of_le h.l1 hb.size
  l2 := Nat.lt_of_lt_of_le h.l2 hb.size
  l3 := Nat.lt_of_lt_of_le h.l3 hb.size
  k3 := h.k3
  r0 := (hb.cell (p := ⟨g1, 0, none⟩) h.l1).trans h.r0
  r1 := (hb.cell (p := ⟨g1, 1, none⟩) h.l1).trans h.r1
  r2 := (hb.cell (p := ⟨g1, 2, none⟩) h.l1).trans h.r2
  r3 := (hb.cell (p := ⟨g1, 3, none⟩) h.l1).trans h.r3
  c0 := (hb.cell (p := ⟨g2, 0, none⟩) h.l2).trans h.c0
  c1 := (hb.cell (p := ⟨g2, 1, none⟩) h.l2).trans h.c1
  s0 := (hb.cell (p := ⟨g3, 0, none⟩) h.l3).trans h.s0
  s1 := (hb.cell (p := ⟨g3, 1, none⟩) h.l3).trans h.s1
  s2 := (hb.cell (p := ⟨g3, 2, none⟩) h.l3).trans h.s2
  s3 := (hb.cell (p := ⟨g3, 3, none⟩) h.l3).trans h.s3
  s4 := (hb.cell (p := ⟨g3, 4, none⟩) h.l3).trans h.s4
  s5 := (hb.cell (p := ⟨g3, 5, none⟩) h.l3).trans h.s5
theorem isStep_1 (w : World) : Calls Tryz.prog 116 #[.agg #[.int .i64 1, .int .i64 2], .bool false] w fun e w' => e = .returned (.bool true) ∧ Below w.heap.size w w' := by
  go_enter Tryz.func116, Tryz.ntmps116
  go_wp2
  go_ret
  exact ⟨rfl, by go_grown⟩
theorem isStep_3 (w : World) : Calls Tryz.prog 116 #[.agg #[.int .i64 3, .int .i64 3], .bool false] w fun e w' => e = .returned (.bool true) ∧ Below w.heap.size w w' := by
  go_enter Tryz.func116, Tryz.ntmps116
  go_wp2
  go_ret
  exact ⟨rfl, by go_grown⟩
theorem isStep_4 (w : World) : Calls Tryz.prog 116 #[.agg #[.int .i64 4, .int .i64 0], .bool true] w fun e w' => e = .returned (.bool true) ∧ Below w.heap.size w w' := by
  go_enter Tryz.func116, Tryz.ntmps116
  go_wp2
  go_ret
  exact ⟨rfl, by go_grown⟩
set_option maxHeartbeats 1600000 in
theorem isChain_at (g1 g2 g3 c3 : Nat) (w : World) (hP : PlanAt g1 g2 g3 c3 w) :
    Calls Tryz.prog 64 #[.agg #[.string ⟨#[]⟩, .slice (some ⟨g3, 0, none⟩) 3 c3]] w fun e w' => e = .returned (.bool true) ∧ Below w.heap.size w w' := by
  have HP := Lib.hid hP
  have hk := hP.k3
  have HB := Lib.hid (Box.new w [.string ⟨#[]⟩, .slice (some ⟨g3, 0, none⟩) 3 c3] 60)
  clear hP
  go_enter Tryz.func64, Tryz.ntmps64
  go_wp2_with fail
  go_loopw [29] (fun i wr => ∃ k : Nat, k ≤ 3 ∧ i = .int .i64 k ∧ Box w.heap.size w [.string ⟨#[]⟩, .slice (some ⟨g3, 0, none⟩) 3 c3] wr) (fun i _ => 3 - (intOf i).toNat)
  case atStart => exact ⟨0, by omega, rfl, HB.out⟩
  case round =>
    obtain ⟨k, hk3, rfl, hB⟩ := hrel
    have HR := Lib.hid hB
    have b0 := hB.c 0 _ rfl
    have b1 := hB.c 1 _ rfl
    have hsz := hB.sz
    have P := HP.out.below hB.bl
    have s0 := P.s0
    have s1 := P.s1
    have s2 := P.s2
    have s3 := P.s3
    have s4 := P.s4
    have s5 := P.s5
    have hl3 := P.l3
    clear hB P
    obtain rfl | rfl | rfl | rfl : k = 0 ∨ k = 1 ∨ k = 2 ∨ k = 3 := by omega
    · go_wp2_with fail
      refine (isStep_1 _).mono ?_
      rintro e w2 ⟨rfl, hb2⟩
      have HN := Lib.hid (HR.out.step (chain0 ((Below.refl _ _).alloc (Nat.le_refl _) _) hb2))
      clear hb2
      go_wp2_with fail
      go_roundw
      case rel => exact ⟨1, by omega, by go_num, HN.out⟩
      case measure => simp [intOf]
    · go_wp2_with fail
      refine (isStep_3 _).mono ?_
      rintro e w2 ⟨rfl, hb2⟩
      have HN := Lib.hid (HR.out.step (chain0 ((Below.refl _ _).alloc (Nat.le_refl _) _) hb2))
      clear hb2
      go_wp2_with fail
      go_roundw
      case rel => exact ⟨2, by omega, by go_num, HN.out⟩
      case measure => simp [intOf]
    · go_wp2_with fail
      refine (isStep_4 _).mono ?_
      rintro e w2 ⟨rfl, hb2⟩
      have HN := Lib.hid (HR.out.step (chain0 ((Below.refl _ _).alloc (Nat.le_refl _) _) hb2))
      clear hb2
      go_wp2_with fail
      go_roundw
      case rel => exact ⟨3, by omega, by go_num, HN.out⟩
      case measure => simp [intOf]
    · go_wp2
      go_ret
      exact ⟨rfl, HR.out.bl⟩
theorem isRule_at (w : World) : Calls Tryz.prog 62 #[.agg #[.string ⟨#[]⟩, .int .i64 1, .int .i64 0, .int .i64 0]] w fun e w' => e = .returned (.bool true) ∧ Below w.heap.size w w' := by
  go_enter Tryz.func62, Tryz.ntmps62
  go_wp2
  go_ret
  exact ⟨rfl, by go_grown⟩
theorem isSpecials_none (w : World) : Calls Tryz.prog 26 #[.slice none 0 0] w fun e w' => e = .returned (.bool true) ∧ Below w.heap.size w w' := by
  go_enter Tryz.func26, Tryz.ntmps26
  go_wp2_with fail
  go_loopw [10] (fun i wr => i = .int .i64 0 ∧ wr = w) (fun _ _ => 0)
  case atStart => exact ⟨rfl, rfl⟩
  case round =>
    obtain ⟨rfl, rfl⟩ := hrel
    go_wp2
    go_ret
    exact ⟨rfl, Below.refl _ _⟩
theorem isPublications_none (w : World) : Calls Tryz.prog 27 #[.slice none 0 0] w fun e w' => e = .returned (.bool true) ∧ Below w.heap.size w w' := by
  go_enter Tryz.func27, Tryz.ntmps27
  go_wp2_with fail
  go_loopw [10] (fun i wr => i = .int .i64 0 ∧ wr = w) (fun _ _ => 0)
  case atStart => exact ⟨rfl, rfl⟩
  case round =>
    obtain ⟨rfl, rfl⟩ := hrel
    go_wp2
    go_ret
    exact ⟨rfl, Below.refl _ _⟩
theorem isDefinitions_none (w : World) : Calls Tryz.prog 28 #[.slice none 0 0] w fun e w' => e = .returned (.bool true) ∧ Below w.heap.size w w' := by
  go_enter Tryz.func28, Tryz.ntmps28
  go_wp2_with fail
  go_loopw [10] (fun i wr => i = .int .i64 0 ∧ wr = w) (fun _ _ => 0)
  case atStart => exact ⟨rfl, rfl⟩
  case round =>
    obtain ⟨rfl, rfl⟩ := hrel
    go_wp2
    go_ret
    exact ⟨rfl, Below.refl _ _⟩
set_option maxHeartbeats 1600000 in
theorem isRules_at (g1 g2 g3 c3 c1 : Nat) (w : World) (hP : PlanAt g1 g2 g3 c3 w) :
    Calls Tryz.prog 24 #[.slice (some ⟨g1, 0, none⟩) 1 c1] w fun e w' => e = .returned (.bool true) ∧ Below w.heap.size w w' := by
  have HP := Lib.hid hP
  clear hP
  go_enter Tryz.func24, Tryz.ntmps24
  go_wp2_with fail
  go_loopw [10] (fun i wr => ∃ k : Nat, k ≤ 1 ∧ i = .int .i64 k ∧ Below w.heap.size w wr) (fun i _ => 1 - (intOf i).toNat)
  case atStart => exact ⟨0, by omega, rfl, Below.refl _ _⟩
  case round =>
    obtain ⟨k, hk3, rfl, hB⟩ := hrel
    have HR := Lib.hid hB
    have P := HP.out.below hB
    have r0 := P.r0
    have r1 := P.r1
    have r2 := P.r2
    have r3 := P.r3
    have hl1 := P.l1
    have KS : Hid (∀ W, Below (wr.alloc (.cells #[.string ⟨#[]⟩, .int .i64 1, .int .i64 0, .int .i64 0] 50)).heap.size (wr.alloc (.cells #[.string ⟨#[]⟩, .int .i64 1, .int .i64 0, .int .i64 0] 50)) W → W.cell? ⟨wr.heap.size, 0, none⟩ = some (.string ⟨#[]⟩) ∧ W.cell? ⟨wr.heap.size, 1, none⟩ = some (.int .i64 1) ∧ W.cell? ⟨wr.heap.size, 2, none⟩ = some (.int .i64 0) ∧ W.cell? ⟨wr.heap.size, 3, none⟩ = some (.int .i64 0) ∧ Below w.heap.size w W) := Lib.hid (fun W hW => by
      have X := (Box.new wr [.string ⟨#[]⟩, .int .i64 1, .int .i64 0, .int .i64 0] 50).step hW
      exact ⟨X.c 0 _ rfl, X.c 1 _ rfl, X.c 2 _ rfl, X.c 3 _ rfl, chain0 HR.out X.bl⟩)
    clear hB P
    obtain rfl | rfl : k = 0 ∨ k = 1 := by omega
    · go_wp2_with fail
      obtain ⟨W, hW⟩ : ∃ W, W = wr.alloc (.cells #[.string ⟨#[]⟩, .int .i64 1, .int .i64 0, .int .i64 0] 50) := ⟨_, rfl⟩
      rw [← hW] at KS ⊢
      have k0 := fun d os => (KS.out _ (below_regrown W d os)).1
      have k1 := fun d os => (KS.out _ (below_regrown W d os)).2.1
      have k2 := fun d os => (KS.out _ (below_regrown W d os)).2.2.1
      have k3 := fun d os => (KS.out _ (below_regrown W d os)).2.2.2.1
      clear hW
      refine wp_region_quiet_below (by kernel_rfl) (by kernel_rfl) ?_
      repeat (go_big_quiet_step (first
        | (go_at_call 62; exact Calls.regrown_of (isRule_at _))))
      refine wpQuiet_nil ?_
      intro _ hw'
      obtain ⟨⟨dq, osq⟩, hw''⟩ := hw'
      subst hw''
      clear k0 k1 k2 k3
      have HB6 := Lib.hid (below_regrown W dq osq)
      go_wp2_with fail
      go_roundw
      case rel => exact ⟨1, by omega, by go_num, (KS.out _ HB6.out).2.2.2.2⟩
      case measure => simp [intOf]
    · go_wp2
      go_ret
      exact ⟨rfl, HR.out⟩
set_option maxHeartbeats 1600000 in
theorem vchains_at (g1 g2 g3 c3 c2 : Nat) (w : World) (hP : PlanAt g1 g2 g3 c3 w) :
    Calls Tryz.prog 25 #[.slice (some ⟨g2, 0, none⟩) 1 c2] w fun e w' => e = .returned (.int .i64 0) ∧ Below w.heap.size w w' := by
  have HP := Lib.hid hP
  clear hP
  go_enter Tryz.func25, Tryz.ntmps25
  go_wp2_with fail
  go_loopw [15] (fun i wr => ∃ k : Nat, k ≤ 1 ∧ i = .int .i64 k ∧ Below w.heap.size w wr) (fun i _ => 1 - (intOf i).toNat)
  case atStart => exact ⟨0, by omega, rfl, Below.refl _ _⟩
  case round =>
    obtain ⟨k, hk3, rfl, hB⟩ := hrel
    have HR := Lib.hid hB
    have P := HP.out.below hB
    have HPR := Lib.hid P
    have c0 := P.c0
    have c1 := P.c1
    have hl2 := P.l2
    clear hB P
    obtain rfl | rfl : k = 0 ∨ k = 1 := by omega
    · go_wp2_with fail
      refine (isChain_at g1 g2 g3 c3 _ (HPR.out.below ((Below.refl _ _).alloc (Nat.le_refl _) _))).mono ?_
      rintro e w2 ⟨rfl, hb2⟩
      have HN := Lib.hid (chain0 HR.out (chain0 ((Below.refl _ _).alloc (Nat.le_refl _) _) hb2))
      clear hb2
      go_wp2
      go_quiet (fail)
      go_wp2_with fail
      go_roundw
      case rel => exact ⟨1, by omega, by go_num, below_drewN HN.out _⟩
      case measure => simp [intOf]
    · go_wp2
      go_ret
      exact ⟨rfl, HR.out⟩
end Go.Proofs.YtenjefbplpbjaaaGreatDoor
