/- The reference's judgements on the plan's parts, and its texts of named, method, step. -/
import Derived.Test.YtenjefbplpbjaaaGreatDoorZ11
import Derived.Test.YtenjefbplpbjaaaGreatDoorQ2
import Derived.Test.YtenjefbplpbjaaaGreatDoorZc
namespace Go.Proofs.YtenjefbplpbjaaaGreatDoor
open Go.RowKit Go.Sort Cal Go.Maps
theorem rroot_nil (w : World) : Calls Tryz.prog 76 #[.string ⟨#[]⟩] w fun e w' => e = .returned (.bool true) ∧ w = w' := by
  go_enter Tryz.func76, Tryz.ntmps76
  go_wp2
  go_ret
  exact ⟨rfl, rfl⟩
theorem rrule_at (w : World) : Calls Tryz.prog 71 #[.agg #[.string ⟨#[]⟩, .int .i64 1, .int .i64 0, .int .i64 0]] w fun e w' => e = .returned (.bool true) ∧ Below w.heap.size w w' := by
  go_enter Tryz.func71, Tryz.ntmps71
  go_wp2_with fail
  refine (rroot_nil _).mono ?_
  rintro e w' ⟨rfl, rfl⟩
  go_wp2
  go_ret
  exact ⟨rfl, by go_grown⟩
set_option maxHeartbeats 1600000 in
theorem rrules_at (g1 g2 g3 c3 c1 : Nat) (w : World) (hP : PlanAt g1 g2 g3 c3 w) :
    Calls Tryz.prog 29 #[.slice (some ⟨g1, 0, none⟩) 1 c1] w fun e w' => e = .returned (.bool true) ∧ Below w.heap.size w w' := by
  have HP := Lib.hid hP
  clear hP
  go_enter Tryz.func29, Tryz.ntmps29
  go_wp2_with fail
  go_loopw [7] (fun i wr => ∃ k : Nat, k ≤ 1 ∧ i = .int .i64 k ∧ Below w.heap.size w wr) (fun i _ => 1 - (intOf i).toNat)
  case atStart => exact ⟨0, by omega, rfl, Below.refl _ _⟩
  case round =>
    obtain ⟨k, hk3, rfl, hB⟩ := hrel
    have HR := Lib.hid hB
    have P := HP.out.below hB
    have r0 := P.r0
    have r1 := P.r1
    have r2 := P.r2
    have r3 := P.r3
    have hl1 := P.l1
    have KS : Hid (∀ W, Below (wr.alloc (.cells #[.string ⟨#[]⟩, .int .i64 1, .int .i64 0, .int .i64 0] 50)).heap.size (wr.alloc (.cells #[.string ⟨#[]⟩, .int .i64 1, .int .i64 0, .int .i64 0] 50)) W → W.cell? ⟨wr.heap.size, 0, none⟩ = some (.string ⟨#[]⟩) ∧ W.cell? ⟨wr.heap.size, 1, none⟩ = some (.int .i64 1) ∧ W.cell? ⟨wr.heap.size, 2, none⟩ = some (.int .i64 0) ∧ W.cell? ⟨wr.heap.size, 3, none⟩ = some (.int .i64 0) ∧ Below w.heap.size w W) := Lib.hid (fun W hW => by
      have X := (Box.new wr [.string ⟨#[]⟩, .int .i64 1, .int .i64 0, .int .i64 0] 50).step hW
      exact ⟨X.c 0 _ rfl, X.c 1 _ rfl, X.c 2 _ rfl, X.c 3 _ rfl, chain0 HR.out X.bl⟩)
    clear hB P
    obtain rfl | rfl : k = 0 ∨ k = 1 := by omega
    · go_wp2_with fail
      obtain ⟨W, hW⟩ : ∃ W, W = wr.alloc (.cells #[.string ⟨#[]⟩, .int .i64 1, .int .i64 0, .int .i64 0] 50) := ⟨_, rfl⟩
      rw [← hW] at KS ⊢
      have k0 := fun d os => (KS.out _ (below_regrown W d os)).1
      have k1 := fun d os => (KS.out _ (below_regrown W d os)).2.1
      have k2 := fun d os => (KS.out _ (below_regrown W d os)).2.2.1
      have k3 := fun d os => (KS.out _ (below_regrown W d os)).2.2.2.1
      clear hW
      refine wp_region_quiet_below (by kernel_rfl) (by kernel_rfl) ?_
      repeat (go_big_quiet_step (first
        | (go_at_call 71; exact Calls.regrown_of (rrule_at _))))
      refine wpQuiet_nil ?_
      intro _ hw'
      obtain ⟨⟨dq, osq⟩, hw''⟩ := hw'
      subst hw''
      clear k0 k1 k2 k3
      have HB6 := Lib.hid (below_regrown W dq osq)
      go_wp2_with fail
      go_roundw
      case rel => exact ⟨1, by omega, by go_num, (KS.out _ HB6.out).2.2.2.2⟩
      case measure => simp [intOf]
    · go_wp2
      go_ret
      exact ⟨rfl, HR.out⟩
theorem rstep_1 (w : World) : Calls Tryz.prog 131 #[.agg #[.int .i64 1, .int .i64 2], .bool false] w fun e w' => e = .returned (.bool true) ∧ Below w.heap.size w w' := by
  go_enter Tryz.func131, Tryz.ntmps131
  go_wp2
  go_ret
  exact ⟨rfl, by go_grown⟩
theorem rstep_3 (w : World) : Calls Tryz.prog 131 #[.agg #[.int .i64 3, .int .i64 3], .bool false] w fun e w' => e = .returned (.bool true) ∧ Below w.heap.size w w' := by
  go_enter Tryz.func131, Tryz.ntmps131
  go_wp2
  go_ret
  exact ⟨rfl, by go_grown⟩
theorem rstep_4 (w : World) : Calls Tryz.prog 131 #[.agg #[.int .i64 4, .int .i64 0], .bool true] w fun e w' => e = .returned (.bool true) ∧ Below w.heap.size w w' := by
  go_enter Tryz.func131, Tryz.ntmps131
  go_wp2
  go_ret
  exact ⟨rfl, by go_grown⟩
set_option maxHeartbeats 1600000 in
theorem rchain_at (g1 g2 g3 c3 : Nat) (w : World) (hP : PlanAt g1 g2 g3 c3 w) :
    Calls Tryz.prog 73 #[.agg #[.string ⟨#[]⟩, .slice (some ⟨g3, 0, none⟩) 3 c3]] w fun e w' => e = .returned (.bool true) ∧ Below w.heap.size w w' := by
  have HP := Lib.hid hP
  have hk := hP.k3
  have HB := Lib.hid (Box.new w [.string ⟨#[]⟩, .slice (some ⟨g3, 0, none⟩) 3 c3] 60)
  clear hP
  go_enter Tryz.func73, Tryz.ntmps73
  go_wp2_with fail
  go_loopw [29] (fun i wr => ∃ k : Nat, k ≤ 3 ∧ i = .int .i64 k ∧ Box w.heap.size w [.string ⟨#[]⟩, .slice (some ⟨g3, 0, none⟩) 3 c3] wr) (fun i _ => 3 - (intOf i).toNat)
  case atStart => exact ⟨0, by omega, rfl, HB.out⟩
  case round =>
    obtain ⟨k, hk3, rfl, hB⟩ := hrel
    have HR := Lib.hid hB
    have b0 := hB.c 0 _ rfl
    have b1 := hB.c 1 _ rfl
    have hsz := hB.sz
    have P := HP.out.below hB.bl
    have s0 := P.s0
    have s1 := P.s1
    have s2 := P.s2
    have s3 := P.s3
    have s4 := P.s4
    have s5 := P.s5
    have hl3 := P.l3
    clear hB P
    obtain rfl | rfl | rfl | rfl : k = 0 ∨ k = 1 ∨ k = 2 ∨ k = 3 := by omega
    · go_wp2_with fail
      refine (rstep_1 _).mono ?_
      rintro e w2 ⟨rfl, hb2⟩
      have HN := Lib.hid (HR.out.step (chain0 ((Below.refl _ _).alloc (Nat.le_refl _) _) hb2))
      clear hb2
      go_wp2_with fail
      go_roundw
      case rel => exact ⟨1, by omega, by go_num, HN.out⟩
      case measure => simp [intOf]
    · go_wp2_with fail
      refine (rstep_3 _).mono ?_
      rintro e w2 ⟨rfl, hb2⟩
      have HN := Lib.hid (HR.out.step (chain0 ((Below.refl _ _).alloc (Nat.le_refl _) _) hb2))
      clear hb2
      go_wp2_with fail
      go_roundw
      case rel => exact ⟨2, by omega, by go_num, HN.out⟩
      case measure => simp [intOf]
    · go_wp2_with fail
      refine (rstep_4 _).mono ?_
      rintro e w2 ⟨rfl, hb2⟩
      have HN := Lib.hid (HR.out.step (chain0 ((Below.refl _ _).alloc (Nat.le_refl _) _) hb2))
      clear hb2
      go_wp2_with fail
      go_roundw
      case rel => exact ⟨3, by omega, by go_num, HN.out⟩
      case measure => simp [intOf]
    · go_wp2
      go_ret
      exact ⟨rfl, HR.out.bl⟩
set_option maxHeartbeats 1600000 in
theorem rvchains_at (g1 g2 g3 c3 c2 : Nat) (w : World) (hP : PlanAt g1 g2 g3 c3 w) :
    Calls Tryz.prog 30 #[.slice (some ⟨g2, 0, none⟩) 1 c2] w fun e w' => e = .returned (.int .i64 0) ∧ Below w.heap.size w w' := by
  have HP := Lib.hid hP
  clear hP
  go_enter Tryz.func30, Tryz.ntmps30
  go_wp2_with fail
  go_loopw [15] (fun i wr => ∃ k : Nat, k ≤ 1 ∧ i = .int .i64 k ∧ Below w.heap.size w wr) (fun i _ => 1 - (intOf i).toNat)
  case atStart => exact ⟨0, by omega, rfl, Below.refl _ _⟩
  case round =>
    obtain ⟨k, hk3, rfl, hB⟩ := hrel
    have HR := Lib.hid hB
    have P := HP.out.below hB
    have HPR := Lib.hid P
    have c0 := P.c0
    have c1 := P.c1
    have hl2 := P.l2
    clear hB P
    obtain rfl | rfl : k = 0 ∨ k = 1 := by omega
    · go_wp2_with fail
      refine (rchain_at g1 g2 g3 c3 _ (HPR.out.below ((Below.refl _ _).alloc (Nat.le_refl _) _))).mono ?_
      rintro e w2 ⟨rfl, hb2⟩
      have HN := Lib.hid (chain0 HR.out (chain0 ((Below.refl _ _).alloc (Nat.le_refl _) _) hb2))
      clear hb2
      go_wp2
      go_quiet (fail)
      go_wp2_with fail
      go_roundw
      case rel => exact ⟨1, by omega, by go_num, below_drewN HN.out _⟩
      case measure => simp [intOf]
    · go_wp2
      go_ret
      exact ⟨rfl, HR.out⟩
theorem rspecials_none (w : World) : Calls Tryz.prog 31 #[.slice none 0 0] w fun e w' => e = .returned (.bool true) ∧ Below w.heap.size w w' := by
  go_enter Tryz.func31, Tryz.ntmps31
  go_wp2_with fail
  go_loopw [7] (fun i wr => i = .int .i64 0 ∧ wr = w) (fun _ _ => 0)
  case atStart => exact ⟨rfl, rfl⟩
  case round =>
    obtain ⟨rfl, rfl⟩ := hrel
    go_wp2
    go_ret
    exact ⟨rfl, Below.refl _ _⟩
theorem rpublications_none (w : World) : Calls Tryz.prog 32 #[.slice none 0 0] w fun e w' => e = .returned (.bool true) ∧ Below w.heap.size w w' := by
  go_enter Tryz.func32, Tryz.ntmps32
  go_wp2_with fail
  go_loopw [7] (fun i wr => i = .int .i64 0 ∧ wr = w) (fun _ _ => 0)
  case atStart => exact ⟨rfl, rfl⟩
  case round =>
    obtain ⟨rfl, rfl⟩ := hrel
    go_wp2
    go_ret
    exact ⟨rfl, Below.refl _ _⟩
set_option maxHeartbeats 1600000 in
theorem rdefinitions_n (g c n : Nat) (a : Nat → Nat) (dv : Value) (w : World) (hD : DefsAt g c n dv w) (hN : 0 < n → NodesAt g a w) (hc : 39 ≤ c) (hn : n ≤ 20) :
    Calls Tryz.prog 33 #[dv] w fun e w' => e = .returned (.bool true) ∧ Below w.heap.size w w' := by
  obtain ⟨p, cd, rfl, hcd, hf⟩ := hD.form
  have HF := Lib.hid hf
  have HN := Lib.hid hN
  clear hD hf hN
  go_enter Tryz.func33, Tryz.ntmps33
  go_wp2_with fail
  go_loopw [7] (fun i wr => ∃ k : Nat, k ≤ n ∧ i = .int .i64 k ∧ Below w.heap.size w wr) (fun i _ => n - (intOf i).toNat)
  case atStart => exact ⟨0, by omega, rfl, Below.refl _ _⟩
  case round =>
    obtain ⟨k, hk, rfl, hB⟩ := hrel
    have HB := Lib.hid hB
    by_cases hlt : k < n
    · obtain ⟨b, rfl, hb, c0, c1⟩ := HF.out k hlt
      have d0 := (hB.cell (p := ⟨b, k * 2, none⟩) hb).trans c0
      have d1 := (hB.cell (p := ⟨b, k * 2 + 1, none⟩) hb).trans c1
      have hbr := Nat.lt_of_lt_of_le hb hB.size
      have HX := Lib.hid (Box.new wr [.string ⟨#[121]⟩, .slice (some ⟨g, 0, none⟩) 39 c] 42)
      clear hB c0 c1 hb
      go_wp2_with fail
      refine (rword_y _).mono ?_
      rintro e w1 ⟨rfl, rfl⟩
      have HBX := Lib.hid (chain0 HB.out HX.out.bl)
      clear d0 d1
      go_wp2_with fail
      refine (rvalidate_l g c a _ ((HN.out (by omega)).below HBX.out) hc).mono ?_
      rintro e w2 ⟨rfl, hb2⟩
      have HB2 := Lib.hid (chain0 HBX.out hb2)
      clear hb2
      go_wp2_with fail
      go_roundw
      case rel => exact ⟨k + 1, by omega, by go_num, HB2.out⟩
      case measure => simp [intOf]; omega
    · obtain rfl : k = n := by omega
      have hn2 : (k : Int) ≤ 20 := by omega
      go_wp2
      go_ret
      exact ⟨rfl, HB.out⟩
end Go.Proofs.YtenjefbplpbjaaaGreatDoor
namespace Go.Proofs.YtenjefbplpbjaaaGreatDoor
open Go.RowKit Go.Sort Cal Go.Maps
theorem rnum_1 (w : World) : Calls Tryz.prog 52 #[.int .i64 1] w fun e w' => e = .returned (.string ⟨#[49]⟩) ∧ Below w.heap.size w w' := rnumber 1 w (by omega) (by omega)
theorem rnamed_nil (w : World) : Calls Tryz.prog 53 #[.string ⟨#[]⟩] w fun e w' => e = .returned (.string ⟨#[97, 108, 108]⟩) ∧ Below w.heap.size w w' := by
  go_enter Tryz.func53, Tryz.ntmps53
  go_wp2
  go_ret
  exact ⟨rfl, Below.refl _ _⟩
def rmethL : List ByteArray := [⟨#[]⟩, ⟨#[106, 101, 118, 111, 110, 115]⟩, ⟨#[100, 117, 116, 111, 116]⟩, ⟨#[99, 97, 114, 108, 105]⟩, ⟨#[104, 97, 114, 109, 111, 110, 105, 99]⟩, ⟨#[104, 121, 98, 114, 105, 100]⟩, ⟨#[103, 101, 107, 115]⟩, ⟨#[103, 101, 97, 114, 121]⟩, ⟨#[100, 117, 109, 109, 121]⟩, ⟨#[116, 97, 114, 105, 102, 102]⟩]
set_option maxHeartbeats 3200000 in
theorem rmethod_n (k : Nat) (s : ByteArray) (w : World) (hk : k < 10) (hs : rmethL[k]? = some s) : Calls Tryz.prog 37 #[.int .i64 (k : Int)] w fun e w' => e = .returned (.string s) ∧ Below w.heap.size w w' := by
  obtain rfl | rfl | rfl | rfl | rfl | rfl | rfl | rfl | rfl | rfl : k = 0 ∨ k = 1 ∨ k = 2 ∨ k = 3 ∨ k = 4 ∨ k = 5 ∨ k = 6 ∨ k = 7 ∨ k = 8 ∨ k = 9 := by omega
  all_goals
    cases hs
    go_enter Tryz.func37, Tryz.ntmps37
    go_wp2
    go_ret
    exact ⟨rfl, by go_grown⟩
def rstepL : List ByteArray := [⟨#[]⟩, ⟨#[99, 108, 97, 115, 115, 32]⟩, ⟨#[112, 97, 114, 101, 110, 116, 32]⟩, ⟨#[99, 97, 114, 114, 121, 32]⟩]
theorem rstepL_at {K : Nat} {s : ByteArray} (hs : rstepL[K]? = some s) : (rstepL.map Value.string)[K]? = some (.string s) := by
  rw [List.getElem?_map, hs]; rfl
def RStep (B K N : Nat) (s : ByteArray) (k : Nat) (u : Value) (w : World) : Prop :=
  match k with
  | 0 => ∃ b, u = .slice (some ⟨b, 0, none⟩) 4 4 ∧ b < w.heap.size ∧ ∀ j x, (rstepL.map Value.string)[j]? = some x → w.cell? ⟨b, j, none⟩ = some x
  | 1 => u = .pointer (some ⟨B, 0, none⟩)
  | 2 => u = .int .i64 (K : Int)
  | 3 => ∃ b, u = .pointer (some ⟨b, K, none⟩) ∧ b < w.heap.size ∧ w.cell? ⟨b, K, none⟩ = some (.string s)
  | 4 => u = .string s
  | 5 => u = .pointer (some ⟨B, 1, none⟩)
  | 6 => u = .int .i64 (N : Int)
  | 7 => u = .string (dg1 N)
  | _ => u = .string (s ++ dg1 N)
theorem RStep.below {B K N : Nat} {s : ByteArray} {w w' : World} (hb : Below w.heap.size w w') : ∀ k u, RStep B K N s k u w → RStep B K N s k u w' := by
  intro k u h
  match k, h with
  | 0, h =>
    obtain ⟨b, e, hlt, hc⟩ := h
    exact ⟨b, e, Nat.lt_of_lt_of_le hlt hb.size, fun j x hx => (hb.cell (p := ⟨b, j, none⟩) hlt).trans (hc j x hx)⟩
  | 1, h => exact h
  | 2, h => exact h
  | 3, h =>
    obtain ⟨b, e, hlt, hc⟩ := h
    exact ⟨b, e, Nat.lt_of_lt_of_le hlt hb.size, (hb.cell (p := ⟨b, K, none⟩) hlt).trans hc⟩
  | 4, h => exact h
  | 5, h => exact h
  | 6, h => exact h
  | 7, h => exact h
  | _ + 8, h => exact h
set_option maxRecDepth 100000 in
set_option maxHeartbeats 3200000 in
theorem rtstep (K N : Nat) (s : ByteArray) (w : World) (hK4 : K < 4) (hs : rstepL[K]? = some s) (hs9 : s.size ≤ 9) (h1 : 1 ≤ N) (h9 : N ≤ 9) :
    Calls Tryz.prog 54 #[.agg #[.int .i64 (K : Int), .int .i64 (N : Int)]] w fun e w' => e = .returned (.string (s ++ dg1 N)) ∧ Below w.heap.size w w' := by
  have HBX0 := Lib.hid (Box.new w [.int .i64 (K : Int), .int .i64 (N : Int)] 82)
  have hk4 : ((K : Int) == 4) = false := by simp; omega
  go_enter Tryz.func54, Tryz.ntmps54
  go_upto_region 3 with fail
  obtain ⟨W0, hW0⟩ : ∃ W, W = w.alloc (.cells #[.int .i64 (K : Int), .int .i64 (N : Int)] 82) := ⟨_, rfl⟩
  have HBX : Hid (Box w.heap.size w [.int .i64 (K : Int), .int .i64 (N : Int)] W0) := Lib.hid (by rw [hW0]; exact HBX0.out)
  rw [← hW0]
  clear hW0 HBX0 hk4
  refine wp_region_inv 9 (fun a0 _ => IV 6 9 (RStep w.heap.size K N s) (fun _ wy => Below W0.heap.size W0 wy) a0) (by kernel_rfl) (by decide) (by kernel_rfl) (by kernel_rfl) (by kernel_rfl) (by kernel_rfl) (by kernel_rfl) (IV.start ((Below.refl _ _).drew)) ?_ ?_
  · refine And.intro ?_ (And.intro ?_ (And.intro ?_ (And.intro ?_ (And.intro ?_ (And.intro ?_ (And.intro ?_ (And.intro ?_ (And.intro ?_ trivial))))))))
    · intro listed a wy hI hu hd
      have hbw := Lib.hid hI.world
      refine keep_op fun K hK => ?_
      clear hd
      have hI := Lib.hid hI
      go_simp
      exact hK _ _ (hI.out.put 0 (by decide) (Nat.le_of_ble_eq_true rfl) _ (chainAlloc hI.out.world _) (RStep.below (chainAlloc (Below.refl _ _) _)) ⟨wy.heap.size, rfl, (Box.new wy (rstepL.map Value.string) 9).sz, fun j u hj => (Box.new wy (rstepL.map Value.string) 9).c j _ hj⟩)
    · intro listed a wy hI hu hd
      have f1 : (a.tmps[1]?).getD undef = .pointer (some ⟨w.heap.size, 0, none⟩) := hI.slot 1 (by decide)
      refine keep_op fun K hK => ?_
      clear hd
      have hI := Lib.hid hI
      go_simp
      exact hK _ _ (hI.out.put 1 (by decide) (Nat.le_of_ble_eq_true rfl) _ hI.out.world (fun _ _ h => h) rfl)
    · intro listed a wy hI hu hd
      have d1 : listed.getD 1 false = true := hd ⟨1, .data⟩ (by simp) rfl
      have e1 : (a.tmps[7]?).getD undef = .pointer (some ⟨w.heap.size, 0, none⟩) := hI.val 1 (by decide) d1 7 rfl
      have c1 : wy.cell? ⟨w.heap.size, 0, none⟩ = some (.int .i64 (K : Int)) := (HBX.out.step hI.world).c 0 _ rfl
      have hz := (HBX.out.step hI.world).sz
      refine keep_op fun K hK => ?_
      clear hd
      have hI := Lib.hid hI
      go_simp
      exact hK _ _ (hI.out.put 2 (by decide) (Nat.le_of_ble_eq_true rfl) _ hI.out.world (fun _ _ h => h) rfl)
    · intro listed a wy hI hu hd
      have d0 : listed.getD 0 false = true := hd ⟨0, .data⟩ (by simp) rfl
      have d2 : listed.getD 2 false = true := hd ⟨2, .data⟩ (by simp) rfl
      obtain ⟨b, e0, hb, hc⟩ := hI.val 0 (by decide) d0 6 rfl
      have e2 : (a.tmps[8]?).getD undef = .int .i64 (K : Int) := hI.val 2 (by decide) d2 8 rfl
      have cK := hc K _ (rstepL_at hs)
      clear hc
      have CK := Lib.hid cK
      clear cK
      have hKi : (K : Int) < 4 := by omega
      refine keep_op fun K hK => ?_
      clear hd
      have hI := Lib.hid hI
      go_simp
      exact hK _ _ (hI.out.put 3 (by decide) (Nat.le_of_ble_eq_true rfl) _ hI.out.world (fun _ _ h => h) ⟨b, by first | rfl | simp, hb, CK.out⟩)
    · intro listed a wy hI hu hd
      have d3 : listed.getD 3 false = true := hd ⟨3, .data⟩ (by simp) rfl
      obtain ⟨b, e3, hb, cK⟩ := hI.val 3 (by decide) d3 9 rfl
      refine keep_op fun K hK => ?_
      clear hd
      have hI := Lib.hid hI
      go_simp
      exact hK _ _ (hI.out.put 4 (by decide) (Nat.le_of_ble_eq_true rfl) _ hI.out.world (fun _ _ h => h) rfl)
    · intro listed a wy hI hu hd
      have f1 : (a.tmps[1]?).getD undef = .pointer (some ⟨w.heap.size, 0, none⟩) := hI.slot 1 (by decide)
      refine keep_op fun K hK => ?_
      clear hd
      have hI := Lib.hid hI
      go_simp
      exact hK _ _ (hI.out.put 5 (by decide) (Nat.le_of_ble_eq_true rfl) _ hI.out.world (fun _ _ h => h) rfl)
    · intro listed a wy hI hu hd
      have d5 : listed.getD 5 false = true := hd ⟨5, .data⟩ (by simp) rfl
      have e5 : (a.tmps[11]?).getD undef = .pointer (some ⟨w.heap.size, 1, none⟩) := hI.val 5 (by decide) d5 11 rfl
      have c1 : wy.cell? ⟨w.heap.size, 1, none⟩ = some (.int .i64 (N : Int)) := (HBX.out.step hI.world).c 1 _ rfl
      have hz := (HBX.out.step hI.world).sz
      refine keep_op fun K hK => ?_
      clear hd
      have hI := Lib.hid hI
      go_simp
      exact hK _ _ (hI.out.put 6 (by decide) (Nat.le_of_ble_eq_true rfl) _ hI.out.world (fun _ _ h => h) rfl)
    · intro listed a wy hI hu hd
      have d6 : listed.getD 6 false = true := hd ⟨6, .data⟩ (by simp) rfl
      have e6 : (a.tmps[12]?).getD undef = .int .i64 (N : Int) := hI.val 6 (by decide) d6 12 rfl
      refine keep_op fun K hK => ?_
      clear hd
      have hI := Lib.hid hI
      go_simp
      refine (rnumber N _ h1 h9).mono ?_
      rintro e w9 ⟨rfl, hb9⟩
      exact hK _ _ (hI.out.put 7 (by decide) (Nat.le_of_ble_eq_true rfl) _ (chain0 hI.out.world hb9) (RStep.below hb9) rfl)
    · intro listed a wy hI hu hd
      have d4 : listed.getD 4 false = true := hd ⟨4, .data⟩ (by simp) rfl
      have d7 : listed.getD 7 false = true := hd ⟨7, .data⟩ (by simp) rfl
      have e4 : (a.tmps[10]?).getD undef = .string s := hI.val 4 (by decide) d4 10 rfl
      have e7 : (a.tmps[13]?).getD undef = .string (dg1 N) := hI.val 7 (by decide) d7 13 rfl
      have hsz : ∀ a b : ByteArray, (a ++ b).size = a.size + b.size := fun a b => ByteArray.size_append
      have hd1 : (dg1 (N : Int)).size = 1 := dg1_size _
      have hov : ¬ 9223372036854775807 < s.size + 1 := by omega
      refine keep_op fun K hK => ?_
      clear hd
      have hI := Lib.hid hI
      go_simp
      exact hK _ _ (hI.out.put 8 (by decide) (Nat.le_of_ble_eq_true rfl) _ hI.out.world (fun _ _ h => h) rfl)
  · intro listed a wy hI hl
    have HBY := Lib.hid (HBX.out.step hI.world)
    obtain ⟨u, rfl, hu⟩ := IV.fin hI (Nat.le_of_ble_eq_true rfl) hl
    have e8 : u 8 = .string (s ++ dg1 N) := hu 8 (by decide)
    clear hI hl hu
    simp only [putN, Act.put, e8, Nat.reduceAdd, List.setIfInBounds_toArray, List.set_cons_succ, List.set_cons_zero, List.drop_succ_cons, List.drop_zero]
    generalize u 0 = u0 at *; generalize u 1 = u1 at *; generalize u 2 = u2 at *; generalize u 3 = u3 at *; generalize u 4 = u4 at *; generalize u 5 = u5 at *; generalize u 6 = u6 at *; generalize u 7 = u7 at *
    clear e8
    go_wp2_with fail
    go_ret
    exact ⟨rfl, HBY.out.bl⟩
theorem rtdrop (w : World) : Calls Tryz.prog 54 #[.agg #[.int .i64 4, .int .i64 0]] w fun e w' => e = .returned (.string ⟨#[100, 114, 111, 112]⟩) ∧ Below w.heap.size w w' := by
  go_enter Tryz.func54, Tryz.ntmps54
  go_wp2
  go_ret
  exact ⟨rfl, by go_grown⟩
theorem rt_class (w : World) : Calls Tryz.prog 54 #[.agg #[.int .i64 1, .int .i64 2]] w fun e w' => e = .returned (.string ⟨#[99, 108, 97, 115, 115, 32, 50]⟩) ∧ Below w.heap.size w w' :=
  (rtstep 1 2 ⟨#[99, 108, 97, 115, 115, 32]⟩ w (by decide) rfl (by decide) (by decide) (by decide)).mono fun _ _ ⟨he, hb⟩ => ⟨he.trans (by kernel_rfl), hb⟩
theorem rt_carry (w : World) : Calls Tryz.prog 54 #[.agg #[.int .i64 3, .int .i64 3]] w fun e w' => e = .returned (.string ⟨#[99, 97, 114, 114, 121, 32, 51]⟩) ∧ Below w.heap.size w w' :=
  (rtstep 3 3 ⟨#[99, 97, 114, 114, 121, 32]⟩ w (by decide) rfl (by decide) (by decide) (by decide)).mono fun _ _ ⟨he, hb⟩ => ⟨he.trans (by kernel_rfl), hb⟩
end Go.Proofs.YtenjefbplpbjaaaGreatDoor
