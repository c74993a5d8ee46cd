/- The reference's text, Validate and Format at the long plan. -/
import Derived.Test.YtenjefbplpbjaaaGreatDoorZ8
import Derived.Test.YtenjefbplpbjaaaGreatDoorZd
namespace Go.Proofs.YtenjefbplpbjaaaGreatDoor
open Go.RowKit Go.Sort Cal Go.Maps
def t1B : ByteArray := ⟨#[100, 105, 103, 105, 116, 115, 32, 49, 10]⟩
def t2B : ByteArray := ⟨#[100, 105, 103, 105, 116, 115, 32, 49, 10, 114, 117, 108, 101, 32, 97, 108, 108, 32, 106, 101, 118, 111, 110, 115, 10]⟩
theorem cat_1 : (((⟨#[100, 105, 103, 105, 116, 115, 32]⟩ : ByteArray) ++ ⟨#[49]⟩) ++ ⟨#[10]⟩) = t1B := by decide
theorem cat_2 : (((((t1B ++ ⟨#[114, 117, 108, 101, 32]⟩) ++ ⟨#[97, 108, 108]⟩) ++ ⟨#[32]⟩) ++ ⟨#[106, 101, 118, 111, 110, 115]⟩) ++ ⟨#[10]⟩) = t2B := by decide
def u0B : ByteArray := ⟨#[100, 105, 103, 105, 116, 115, 32, 49, 10, 114, 117, 108, 101, 32, 97, 108, 108, 32, 106, 101, 118, 111, 110, 115, 10, 105, 109, 112, 117, 116, 101, 32, 97, 108, 108]⟩
def u1B : ByteArray := ⟨#[100, 105, 103, 105, 116, 115, 32, 49, 10, 114, 117, 108, 101, 32, 97, 108, 108, 32, 106, 101, 118, 111, 110, 115, 10, 105, 109, 112, 117, 116, 101, 32, 97, 108, 108, 32, 99, 108, 97, 115, 115, 32, 50]⟩
def u2B : ByteArray := ⟨#[100, 105, 103, 105, 116, 115, 32, 49, 10, 114, 117, 108, 101, 32, 97, 108, 108, 32, 106, 101, 118, 111, 110, 115, 10, 105, 109, 112, 117, 116, 101, 32, 97, 108, 108, 32, 99, 108, 97, 115, 115, 32, 50, 44, 32, 99, 97, 114, 114, 121, 32, 51]⟩
def u3B : ByteArray := ⟨#[100, 105, 103, 105, 116, 115, 32, 49, 10, 114, 117, 108, 101, 32, 97, 108, 108, 32, 106, 101, 118, 111, 110, 115, 10, 105, 109, 112, 117, 116, 101, 32, 97, 108, 108, 32, 99, 108, 97, 115, 115, 32, 50, 44, 32, 99, 97, 114, 114, 121, 32, 51, 44, 32, 100, 114, 111, 112]⟩
theorem cat_u0 : ((t2B ++ ⟨#[105, 109, 112, 117, 116, 101, 32]⟩) ++ ⟨#[97, 108, 108]⟩) = u0B := by decide
theorem cat_u1 : ((u0B ++ ⟨#[32]⟩) ++ ⟨#[99, 108, 97, 115, 115, 32, 50]⟩) = u1B := by decide
theorem cat_u2 : (((u1B ++ ⟨#[44]⟩) ++ ⟨#[32]⟩) ++ ⟨#[99, 97, 114, 114, 121, 32, 51]⟩) = u2B := by decide
theorem cat_u3 : (((u2B ++ ⟨#[44]⟩) ++ ⟨#[32]⟩) ++ ⟨#[100, 114, 111, 112]⟩) = u3B := by decide
theorem cat_3 : (u3B ++ ⟨#[10]⟩) = planB 0 := by decide
theorem rmeth_1 (w : World) : Calls Tryz.prog 37 #[.int .i64 1] w fun e w' => e = .returned (.string ⟨#[106, 101, 118, 111, 110, 115]⟩) ∧ Below w.heap.size w w' := rmethod_n 1 _ w (by decide) rfl
theorem cat_def (k : Nat) : (((((planB k ++ ⟨#[105, 110, 100, 101, 120, 32]⟩) ++ ⟨#[121]⟩) ++ ⟨#[32, 61, 32]⟩) ++ minT 19) ++ ⟨#[10]⟩) = planB (k + 1) := by
  apply bs_ext
  rw [planB]
  unfold lineB
  generalize minT 19 = x
  simp [ByteArray.data_append]
set_option maxRecDepth 100000 in
set_option maxHeartbeats 6400000 in
theorem rtext_n (g1 c1 g2 c2 g3 c3 g c n : Nat) (a : Nat → Nat) (dv : Value) (w : World) (hP : PlanAt g1 g2 g3 c3 w) (hD : DefsAt g c n dv w) (hN : 0 < n → NodesAt g a w) (hc : 39 ≤ c) (hn : n ≤ 20) :
    Calls Tryz.prog 22 #[planW g1 c1 g2 c2 dv] w fun e w' => e = .returned (.string (planB n)) ∧ Below w.heap.size w w' := by
  obtain ⟨p, cd, rfl, hcd, hf⟩ := hD.form
  have HD := Lib.hid hf
  have HN := Lib.hid hN
  have HP := Lib.hid hP
  have HB := Lib.hid (Box.new w (planWL g1 c1 g2 c2 (.slice p n cd)) 28)
  clear hP hD hf hN
  unfold planW
  go_enter Tryz.func22, Tryz.ntmps22
  go_wp2_with fail
  refine (rnum_1 _).mono ?_
  rintro e w1 ⟨rfl, hb1⟩
  have H1 := Lib.hid (HB.out.step hb1)
  have b1 : w1.cell? ⟨w.heap.size, 1, none⟩ = some (.slice (some ⟨g1, 0, none⟩) 1 c1) := H1.out.c 1 _ rfl
  clear hb1 HB
  go_wp2_with fail
  rw [cat_1]
  have y1 : t1B.size = 9 := rfl
  have y2 : t2B.size = 25 := rfl
  have v0 : u0B.size = 35 := rfl
  have v1 : u1B.size = 43 := rfl
  have v2 : u2B.size = 52 := rfl
  have v3 : u3B.size = 58 := rfl
  have hz : ∀ a b : ByteArray, (a ++ b).size = a.size + b.size := fun a b => ByteArray.size_append
  go_loopw [3, 30] (fun o i wr => (i = .int .i64 0 ∧ o = .string t1B ∧ Box w.heap.size w (planWL g1 c1 g2 c2 (.slice p n cd)) wr) ∨ (i = .int .i64 1 ∧ o = .string t2B ∧ Box w.heap.size w (planWL g1 c1 g2 c2 (.slice p n cd)) wr)) (fun _ i _ => 1 - (intOf i).toNat)
  case atStart => exact Or.inl ⟨rfl, rfl, H1.out⟩
  case round =>
    clear b1 H1
    rcases hrel with ⟨rfl, rfl, hX⟩ | ⟨rfl, rfl, hX⟩
    · have HX := Lib.hid hX
      have P := HP.out.below hX.bl
      have r0 := P.r0
      have r1 := P.r1
      have r2 := P.r2
      have r3 := P.r3
      have hl1 := P.l1
      have KS : Hid (∀ W, Below (wr.alloc (.cells #[.string ⟨#[]⟩, .int .i64 1, .int .i64 0, .int .i64 0] 50)).heap.size (wr.alloc (.cells #[.string ⟨#[]⟩, .int .i64 1, .int .i64 0, .int .i64 0] 50)) W → W.cell? ⟨wr.heap.size, 0, none⟩ = some (.string ⟨#[]⟩) ∧ W.cell? ⟨wr.heap.size, 1, none⟩ = some (.int .i64 1) ∧ W.cell? ⟨wr.heap.size, 2, none⟩ = some (.int .i64 0) ∧ Box w.heap.size w (planWL g1 c1 g2 c2 (.slice p n cd)) W ∧ wr.heap.size < W.heap.size) := Lib.hid (fun W hW => by
        have X := (Box.new wr [.string ⟨#[]⟩, .int .i64 1, .int .i64 0, .int .i64 0] 50).step hW
        exact ⟨X.c 0 _ rfl, X.c 1 _ rfl, X.c 2 _ rfl, HX.out.step X.bl, X.sz⟩)
      clear hX P
      go_wp2_with fail
      obtain ⟨W, hW⟩ : ∃ W, W = wr.alloc (.cells #[.string ⟨#[]⟩, .int .i64 1, .int .i64 0, .int .i64 0] 50) := ⟨_, rfl⟩
      rw [← hW] at KS ⊢
      have k0 := fun d os => (KS.out _ (below_regrown W d os)).1
      have k1 := fun d os => (KS.out _ (below_regrown W d os)).2.1
      clear hW r0 r1 r2 r3
      refine wp_region_quiet_below (by kernel_rfl) (by kernel_rfl) ?_
      repeat (go_big_quiet_step (first
        | (go_at_call 53; exact Calls.regrown_of (rnamed_nil _))
        | (go_at_call 37; exact Calls.regrown_of (rmeth_1 _))))
      refine wpQuiet_nil ?_
      intro _ hw'
      obtain ⟨⟨dq, osq⟩, hw''⟩ := hw'
      subst hw''
      clear k0 k1
      have HB6 := Lib.hid (KS.out _ (below_regrown W dq osq))
      obtain ⟨W2, hW2⟩ : ∃ x, x = grow (redrawn W dq) osq := ⟨_, rfl⟩
      rw [← hW2] at HB6 ⊢
      have q2 := HB6.out.2.2.1
      have q3 := HB6.out.2.2.2.2
      clear hW2 KS
      go_wp2_with fail
      rw [cat_2]
      go_roundw
      case rel => exact Or.inr ⟨by first | rfl | go_num, rfl, HB6.out.2.2.2.1⟩
      case measure => simp [intOf]
    · have HX := Lib.hid hX
      have b2 : wr.cell? ⟨w.heap.size, 2, none⟩ = some (.slice (some ⟨g2, 0, none⟩) 1 c2) := hX.c 2 _ rfl
      clear hX
      go_wp2_with fail
      go_loopw [3, 65] (fun o i wx => (i = .int .i64 0 ∧ o = .string t2B ∧ Box w.heap.size w (planWL g1 c1 g2 c2 (.slice p n cd)) wx) ∨ (i = .int .i64 1 ∧ o = .string (planB 0) ∧ Box w.heap.size w (planWL g1 c1 g2 c2 (.slice p n cd)) wx)) (fun _ i _ => 1 - (intOf i).toNat)
      case atStart => exact Or.inl ⟨rfl, rfl, HX.out⟩
      case round =>
        clear b2 HX
        rcases hrel with ⟨rfl, rfl, hX⟩ | ⟨rfl, rfl, hX⟩
        · have HX := Lib.hid hX
          have P := HP.out.below hX.bl
          have HPR := Lib.hid P
          have e0 := P.c0
          have e1 := P.c1
          have hl2 := P.l2
          have hk3 := P.k3
          have HC := Lib.hid (Box.new wr [.string ⟨#[]⟩, .slice (some ⟨g3, 0, none⟩) 3 c3] 60)
          clear hX P
          go_wp2_with fail
          refine (rnamed_nil _).mono ?_
          rintro e w3 ⟨rfl, hb3⟩
          have HC3 := Lib.hid (HC.out.step hb3)
          have f1 : w3.cell? ⟨wr.heap.size, 1, none⟩ = some (.slice (some ⟨g3, 0, none⟩) 3 c3) := HC3.out.c 1 _ rfl
          have HX3 := Lib.hid (HX.out.step HC3.out.bl)
          clear hb3 e0 e1 HC
          go_wp2_with fail
          rw [cat_u0]
          go_loopw [3, 78] (fun o i wx => ∃ k : Nat, k ≤ 3 ∧ i = .int .i64 k ∧ o = .string (if k = 0 then u0B else if k = 1 then u1B else if k = 2 then u2B else u3B) ∧ Box w.heap.size w (planWL g1 c1 g2 c2 (.slice p n cd)) wx) (fun _ i _ => 3 - (intOf i).toNat)
          case atStart => exact ⟨0, by omega, rfl, rfl, HX3.out⟩
          case round =>
            clear f1 HX3 HC3
            obtain ⟨k, hk3, rfl, rfl, hX⟩ := hrel
            have HX := Lib.hid hX
            have P := HP.out.below hX.bl
            have s0 := P.s0
            have s1 := P.s1
            have s2 := P.s2
            have s3 := P.s3
            have s4 := P.s4
            have s5 := P.s5
            have hl3 := P.l3
            clear hX P
            obtain rfl | rfl | rfl | rfl : k = 0 ∨ k = 1 ∨ k = 2 ∨ k = 3 := by omega
            · go_wp2_with fail
              refine (rt_class _).mono ?_
              rintro e w4 ⟨rfl, hb4⟩
              have HX4 := Lib.hid (HX.out.step (chain0 (chainAlloc (Below.refl _ _) _) hb4))
              clear hb4
              go_wp2_with fail
              rw [cat_u1]
              go_roundw
              case rel => exact ⟨1, by omega, by go_num, rfl, HX4.out⟩
              case measure => simp [intOf]
            · go_wp2_with fail
              refine (rt_carry _).mono ?_
              rintro e w4 ⟨rfl, hb4⟩
              have HX4 := Lib.hid (HX.out.step (chain0 (chainAlloc (Below.refl _ _) _) hb4))
              clear hb4
              go_wp2_with fail
              rw [cat_u2]
              go_roundw
              case rel => exact ⟨2, by omega, by go_num, rfl, HX4.out⟩
              case measure => simp [intOf]
            · go_wp2_with fail
              refine (rtdrop _).mono ?_
              rintro e w4 ⟨rfl, hb4⟩
              have HX4 := Lib.hid (HX.out.step (chain0 (chainAlloc (Below.refl _ _) _) hb4))
              clear hb4
              go_wp2_with fail
              rw [cat_u3]
              go_roundw
              case rel => exact ⟨3, by omega, by go_num, rfl, HX4.out⟩
              case measure => simp [intOf]
            · go_wp2_with fail
              rw [cat_3]
              go_roundw
              case rel => exact Or.inr ⟨by first | rfl | go_num, rfl, HX.out⟩
              case measure => simp [intOf]
        · have HX := Lib.hid hX
          have b3 : wr.cell? ⟨w.heap.size, 3, none⟩ = some (.slice none 0 0) := hX.c 3 _ rfl
          clear hX
          go_wp2_with fail
          go_loopw [3, 99] (fun o i wx => i = .int .i64 0 ∧ o = .string (planB 0) ∧ Box w.heap.size w (planWL g1 c1 g2 c2 (.slice p n cd)) wx) (fun _ _ _ => 0)
          case atStart => exact ⟨rfl, rfl, HX.out⟩
          case round =>
            clear b3 HX
            obtain ⟨rfl, rfl, hX⟩ := hrel
            have HX := Lib.hid hX
            have b5 : wr.cell? ⟨w.heap.size, 5, none⟩ = some (.slice none 0 0) := hX.c 5 _ rfl
            clear hX
            go_wp2_with fail
            go_loopw [3, 144] (fun o i wx => i = .int .i64 0 ∧ o = .string (planB 0) ∧ Box w.heap.size w (planWL g1 c1 g2 c2 (.slice p n cd)) wx) (fun _ _ _ => 0)
            case atStart => exact ⟨rfl, rfl, HX.out⟩
            case round =>
              clear b5 HX
              obtain ⟨rfl, rfl, hX⟩ := hrel
              have HX := Lib.hid hX
              have b4 : wr.cell? ⟨w.heap.size, 4, none⟩ = some (.slice p n cd) := hX.c 4 _ rfl
              clear hX
              go_wp2_with fail
              go_loopw [3, 169] (fun o i wx => ∃ k : Nat, k ≤ n ∧ i = .int .i64 k ∧ o = .string (planB k) ∧ Box w.heap.size w (planWL g1 c1 g2 c2 (.slice p n cd)) wx) (fun _ i _ => n - (intOf i).toNat)
              case atStart => exact ⟨0, by omega, rfl, rfl, HX.out⟩
              case round =>
                clear b4 HX
                obtain ⟨k, hk, rfl, rfl, hX⟩ := hrel
                have HX := Lib.hid hX
                by_cases hlt : k < n
                · obtain ⟨b, rfl, hb, e0, e1⟩ := HD.out k hlt
                  have d0 := (hX.bl.cell (p := ⟨b, k * 2, none⟩) hb).trans e0
                  have d1 := (hX.bl.cell (p := ⟨b, k * 2 + 1, none⟩) hb).trans e1
                  have hbr := Nat.lt_of_lt_of_le hb hX.bl.size
                  have HY := Lib.hid (Box.new wr [.string ⟨#[121]⟩, .slice (some ⟨g, 0, none⟩) 39 c] 42)
                  clear hX e0 e1 hb
                  go_wp2_with fail
                  refine (rformat_l g c a _ ((HN.out (by omega)).below (chain0 HX.out.bl HY.out.bl)) hc).mono ?_
                  rintro e w4 ⟨rfl, hb4⟩
                  have HY4 := Lib.hid (HY.out.step hb4)
                  have HX4 := Lib.hid (HX.out.step HY4.out.bl)
                  have x0 : w4.cell? ⟨wr.heap.size, 0, none⟩ = some (.string ⟨#[121]⟩) := HY4.out.c 0 _ rfl
                  have hps : (planB k).size ≤ 20000 := by rw [planB_size]; omega
                  have hms : (minT 19).size = 953 := minT_size 19
                  have q1 : ¬ 9223372036854775807 < (planB k).size + 6 := by omega
                  have q2 : ¬ 9223372036854775807 < (planB k).size + 6 + 1 := by omega
                  have q3 : ¬ 9223372036854775807 < (planB k).size + 6 + 1 + 3 := by omega
                  have q4 : ¬ 9223372036854775807 < (planB k).size + 6 + 1 + 3 + 953 := by omega
                  have q5 : ¬ 9223372036854775807 < (planB k).size + 6 + 1 + 3 + 953 + 1 := by omega
                  clear hb4 d0 d1 HY
                  go_wp2_with fail
                  rw [cat_def]
                  go_roundw
                  case rel => exact ⟨k + 1, by omega, by go_num, rfl, HX4.out⟩
                  case measure => simp [intOf]; omega
                · obtain rfl : k = n := by omega
                  clear hX
                  go_wp2_with fail
                  go_ret
                  exact ⟨rfl, HX.out.bl⟩
end Go.Proofs.YtenjefbplpbjaaaGreatDoor
namespace Go.Proofs.YtenjefbplpbjaaaGreatDoor
open Go.RowKit Go.Sort Cal Go.Maps
set_option maxHeartbeats 3200000 in
theorem rvalidate_n (g1 c1 g2 c2 g3 c3 g c n : Nat) (a : Nat → Nat) (dv : Value) (w : World) (hP : PlanAt g1 g2 g3 c3 w) (hD : DefsAt g c n dv w) (hN : 0 < n → NodesAt g a w) (hc : 39 ≤ c) (hn : n ≤ 20) :
    Calls Tryz.prog 11 #[planW g1 c1 g2 c2 dv] w fun e w' => e = .returned (.int .i64 (errV n)) ∧ Below w.heap.size w w' := by
  obtain ⟨p, cd, rfl, hcd, hf⟩ := hD.form
  have HD := Lib.hid hD
  have HN := Lib.hid hN
  have HP := Lib.hid hP
  have HB := Lib.hid (Box.new w (planWL g1 c1 g2 c2 (.slice p n cd)) 28)
  clear hP hD hf hN
  unfold planW
  go_enter Tryz.func11, Tryz.ntmps11
  go_wp2_with fail
  refine (rrules_at g1 g2 g3 c3 c1 _ (HP.out.below HB.out.bl)).mono ?_
  rintro e w1 ⟨rfl, hb1⟩
  have H1 := Lib.hid (HB.out.step hb1)
  clear hb1 HB
  have b2 : w1.cell? ⟨w.heap.size, 2, none⟩ = some (.slice (some ⟨g2, 0, none⟩) 1 c2) := H1.out.c 2 _ rfl
  go_wp2_with fail
  refine (rvchains_at g1 g2 g3 c3 c2 _ (HP.out.below H1.out.bl)).mono ?_
  rintro e w2 ⟨rfl, hb2⟩
  have H2 := Lib.hid (H1.out.step hb2)
  clear hb2 b2 H1
  have b3 : w2.cell? ⟨w.heap.size, 3, none⟩ = some (.slice none 0 0) := H2.out.c 3 _ rfl
  go_wp2_with fail
  refine (rspecials_none _).mono ?_
  rintro e w3 ⟨rfl, hb3⟩
  have H3 := Lib.hid (H2.out.step hb3)
  clear hb3 b3 H2
  have b5 : w3.cell? ⟨w.heap.size, 5, none⟩ = some (.slice none 0 0) := H3.out.c 5 _ rfl
  go_wp2_with fail
  refine (rpublications_none _).mono ?_
  rintro e w4 ⟨rfl, hb4⟩
  have H4 := Lib.hid (H3.out.step hb4)
  clear hb4 b5 H3
  have b4 : w4.cell? ⟨w.heap.size, 4, none⟩ = some (.slice p n cd) := H4.out.c 4 _ rfl
  go_wp2_with fail
  refine (rdefinitions_n g c n a _ _ (HD.out.below H4.out.bl) (fun h => (HN.out h).below H4.out.bl) hc hn).mono ?_
  rintro e w5 ⟨rfl, hb5⟩
  have H5 := Lib.hid (H4.out.step hb5)
  clear hb5 b4 H4
  have b0 : w5.cell? ⟨w.heap.size, 0, none⟩ = some (.int .i64 1) := H5.out.c 0 _ rfl
  have b1 : w5.cell? ⟨w.heap.size, 1, none⟩ = some (.slice (some ⟨g1, 0, none⟩) 1 c1) := H5.out.c 1 _ rfl
  have b2 : w5.cell? ⟨w.heap.size, 2, none⟩ = some (.slice (some ⟨g2, 0, none⟩) 1 c2) := H5.out.c 2 _ rfl
  have b3 : w5.cell? ⟨w.heap.size, 3, none⟩ = some (.slice none 0 0) := H5.out.c 3 _ rfl
  have b4 : w5.cell? ⟨w.heap.size, 4, none⟩ = some (.slice p n cd) := H5.out.c 4 _ rfl
  have b5 : w5.cell? ⟨w.heap.size, 5, none⟩ = some (.slice none 0 0) := H5.out.c 5 _ rfl
  go_wp2_with fail
  refine (rtext_n g1 c1 g2 c2 g3 c3 g c n a _ _ (HP.out.below H5.out.bl) (HD.out.below H5.out.bl) (fun h => (HN.out h).below H5.out.bl) hc hn).mono ?_
  rintro e w6 ⟨rfl, hb6⟩
  have HF := Lib.hid (chain0 H5.out.bl hb6)
  clear hb6 b0 b1 b2 b3 b4 b5
  have hsz := planB_size n
  by_cases hbig : 8192 < (planB n).size
  · have HV := Lib.hid (errV_big hbig).1
    have hd : (8192 : Int) < ((planB n).size : Int) := by omega
    clear hbig hsz
    generalize planB n = s at *
    go_wp2
    go_ret
    exact ⟨by first | (rw [HV.out]; rfl) | rw [HV.out], HF.out⟩
  · have HV := Lib.hid (errV_ok hbig).1
    have hd : ¬ (8192 : Int) < ((planB n).size : Int) := by omega
    clear hbig hsz
    generalize planB n = s at *
    go_wp2
    go_ret
    exact ⟨by first | (rw [HV.out]; rfl) | rw [HV.out], HF.out⟩
set_option maxHeartbeats 3200000 in
theorem rpformat_n (g1 c1 g2 c2 g3 c3 g c n : Nat) (a : Nat → Nat) (dv : Value) (w : World) (hP : PlanAt g1 g2 g3 c3 w) (hD : DefsAt g c n dv w) (hN : 0 < n → NodesAt g a w) (hc : 39 ≤ c) (hn : n ≤ 20) :
    Calls Tryz.prog 8 #[planW g1 c1 g2 c2 dv] w fun e w' => e = .returned (.tuple #[.string (outS n), .int .i64 (errV n)]) ∧ Below w.heap.size w w' := by
  obtain ⟨p, cd, rfl, hcd, hf⟩ := hD.form
  have HD := Lib.hid hD
  have HN := Lib.hid hN
  have HP := Lib.hid hP
  have HB := Lib.hid (Box.new w (planWL g1 c1 g2 c2 (.slice p n cd)) 28)
  clear hP hD hf hN
  unfold planW
  go_enter Tryz.func8, Tryz.ntmps8
  go_wp2_with fail
  refine (rvalidate_n g1 c1 g2 c2 g3 c3 g c n a _ _ (HP.out.below HB.out.bl) (HD.out.below HB.out.bl) (fun h => (HN.out h).below HB.out.bl) hc hn).mono ?_
  rintro e w5 ⟨rfl, hb1⟩
  have H5 := Lib.hid (HB.out.step hb1)
  clear hb1 HB
  have b0 : w5.cell? ⟨w.heap.size, 0, none⟩ = some (.int .i64 1) := H5.out.c 0 _ rfl
  have b1 : w5.cell? ⟨w.heap.size, 1, none⟩ = some (.slice (some ⟨g1, 0, none⟩) 1 c1) := H5.out.c 1 _ rfl
  have b2 : w5.cell? ⟨w.heap.size, 2, none⟩ = some (.slice (some ⟨g2, 0, none⟩) 1 c2) := H5.out.c 2 _ rfl
  have b3 : w5.cell? ⟨w.heap.size, 3, none⟩ = some (.slice none 0 0) := H5.out.c 3 _ rfl
  have b4 : w5.cell? ⟨w.heap.size, 4, none⟩ = some (.slice p n cd) := H5.out.c 4 _ rfl
  have b5 : w5.cell? ⟨w.heap.size, 5, none⟩ = some (.slice none 0 0) := H5.out.c 5 _ rfl
  by_cases hbig : 8192 < (planB n).size
  · have HV := Lib.hid (errV_big hbig)
    have hv : errV n = 365 := (errV_big hbig).1
    have HF := Lib.hid H5.out.bl
    rw [hv]
    clear hbig hv b0 b1 b2 b3 b4 b5
    go_wp2_with fail
    go_ret2
    exact ⟨by first | (rw [HV.out.1, HV.out.2]; rfl) | rw [HV.out.1, HV.out.2], HF.out⟩
  · have HV := Lib.hid (errV_ok hbig)
    have hv : errV n = 0 := (errV_ok hbig).1
    rw [hv]
    clear hbig hv
    go_wp2_with fail
    refine (rtext_n g1 c1 g2 c2 g3 c3 g c n a _ _ (HP.out.below H5.out.bl) (HD.out.below H5.out.bl) (fun h => (HN.out h).below H5.out.bl) hc hn).mono ?_
    rintro e w6 ⟨rfl, hb6⟩
    have HF := Lib.hid (chain0 H5.out.bl hb6)
    clear hb6 b0 b1 b2 b3 b4 b5
    go_wp2
    go_ret2
    exact ⟨by first | (rw [HV.out.1, HV.out.2]; rfl) | rw [HV.out.1, HV.out.2], HF.out⟩
end Go.Proofs.YtenjefbplpbjaaaGreatDoor
