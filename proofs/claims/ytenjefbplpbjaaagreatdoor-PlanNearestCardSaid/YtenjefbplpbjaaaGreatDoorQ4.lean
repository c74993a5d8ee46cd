/- Contracts of write, Validate and Format at the small plan. -/
import Derived.Test.YtenjefbplpbjaaaGreatDoorQ3
namespace Go.Proofs.YtenjefbplpbjaaaGreatDoor
open Go.RowKit Go.Sort Cal Go.Maps
def L1 : List UInt8 := [100, 105, 103, 105, 116, 115, 32, 49, 10]
def L2 : List UInt8 := [100, 105, 103, 105, 116, 115, 32, 49, 10, 114, 117, 108, 101, 32, 97, 108, 108, 32, 106, 101, 118, 111, 110, 115, 10]
def L3 : List UInt8 := [100, 105, 103, 105, 116, 115, 32, 49, 10, 114, 117, 108, 101, 32, 97, 108, 108, 32, 106, 101, 118, 111, 110, 115, 10, 105, 109, 112, 117, 116, 101, 32, 97, 108, 108, 32, 99, 108, 97, 115, 115, 32, 50, 44, 32, 99, 97, 114, 114, 121, 32, 51, 44, 32, 100, 114, 111, 112, 10]
def smallB : ByteArray := ⟨#[100, 105, 103, 105, 116, 115, 32, 49, 10, 114, 117, 108, 101, 32, 97, 108, 108, 32, 106, 101, 118, 111, 110, 115, 10, 105, 109, 112, 117, 116, 101, 32, 97, 108, 108, 32, 99, 108, 97, 115, 115, 32, 50, 44, 32, 99, 97, 114, 114, 121, 32, 51, 44, 32, 100, 114, 111, 112, 10]⟩
/-- The small plan as a value. -/
def planV (g1 c1 g2 c2 : Nat) : Value := .agg #[.int .i64 1, .slice (some ⟨g1, 0, none⟩) 1 c1, .slice (some ⟨g2, 0, none⟩) 1 c2, .slice none 0 0, .slice none 0 0, .slice none 0 0]
theorem cells_new (w : World) (xs : List ByteArray) (t : TypeId) : ∀ (j : Nat) x, xs[j]? = some x → (w.alloc (.cells (xs.map Value.string).toArray t)).cell? ⟨w.heap.size, 0 + j, none⟩ = some (.string x) := by
  intro j x hx
  have X := Box.new w (xs.map Value.string) t
  rw [Nat.zero_add]
  exact X.c j _ (by rw [List.getElem?_map, hx]; rfl)
theorem cells_new' (w : World) (n : Nat) (hn : n = w.heap.size) (xs : List ByteArray) (t : TypeId) : ∀ (j : Nat) x, xs[j]? = some x → (w.alloc (.cells (xs.map Value.string).toArray t)).cell? ⟨n, 0 + j, none⟩ = some (.string x) := by
  subst hn; exact cells_new w xs t
/-- What write has at hand: the plan in a block of its own, the builder behind it. -/
structure WAt (g1 c1 g2 c2 : Nat) (l : List UInt8) (w0 w : World) : Prop where
  bld : Lib.IsBuilderF 89 5 (w0.heap.size + 1) (w0.heap.size + 1) (Lib.byteCells l) w
  box : w.heap[w0.heap.size]? = some (.cells #[.int .i64 1, .slice (some ⟨g1, 0, none⟩) 1 c1, .slice (some ⟨g2, 0, none⟩) 1 c2, .slice none 0 0, .slice none 0 0, .slice none 0 0] 28 (0, 0))
  bl : Below w0.heap.size w0 w
  sz : w0.heap.size + 1 < w.heap.size
theorem WAt.below {g1 c1 g2 c2 : Nat} {l : List UInt8} {w0 w w' : World} (h : WAt g1 c1 g2 c2 l w0 w) (hb : Below w.heap.size w w') : WAt g1 c1 g2 c2 l w0 w' :=
  ⟨builder_below h.bld hb, (hb.block _ (by have := h.sz; omega)).trans h.box, h.bl.trans (hb.mono h.bl.size), Nat.lt_of_lt_of_le h.sz hb.size⟩
theorem WAt.line {g1 c1 g2 c2 : Nat} {l l' : List UInt8} {w0 w w' : World} (h : WAt g1 c1 g2 c2 l w0 w) (hb : Lib.IsBuilderF 89 5 (w0.heap.size + 1) (w0.heap.size + 1) (Lib.byteCells l') w') (hbl : Below (w0.heap.size + 1) w w') : WAt g1 c1 g2 c2 l' w0 w' :=
  ⟨hb, (hbl.block _ (by omega)).trans h.box, h.bl.trans (hbl.mono (by omega)), Nat.lt_of_lt_of_le h.sz hbl.size⟩
theorem WAt.new (g1 c1 g2 c2 : Nat) (w : World) : WAt g1 c1 g2 c2 [] w ((w.alloc (.cells #[.int .i64 1, .slice (some ⟨g1, 0, none⟩) 1 c1, .slice (some ⟨g2, 0, none⟩) 1 c2, .slice none 0 0, .slice none 0 0, .slice none 0 0] 28)).alloc (.cells #[.pointer none, .slice none 0 0] 89)) := by
  refine ⟨Or.inl ⟨Nat.le_refl _, .slice none 0 0, ?_, World.ownsRowF_nil _ _ _ _, by simp [Value.ownBlock]⟩, ?_, ((Below.refl _ _).alloc (Nat.le_refl _) _).alloc (by simp) _, by simp⟩
  · show (Array.push (Array.push w.heap _) _)[_]? = _
    rw [Array.getElem?_push, if_pos (by simp)]
  · show (Array.push (Array.push w.heap _) _)[_]? = _
    rw [Array.getElem?_push, if_neg (by simp), Array.getElem?_push, if_pos rfl]
set_option maxRecDepth 100000 in
set_option maxHeartbeats 3200000 in
theorem write_at (g1 c1 g2 c2 g3 c3 : Nat) (w : World) (hP : PlanAt g1 g2 g3 c3 w) :
    Calls Tryz.prog 21 #[planV g1 c1 g2 c2] w fun e w' => e = .returned (.string smallB) ∧ Below w.heap.size w w' := by
  unfold planV
  have HP := Lib.hid hP
  have HW := Lib.hid (WAt.new g1 c1 g2 c2 w)
  clear hP
  go_enter Tryz.func21, Tryz.ntmps21
  go_wp2_with fail
  refine (itoa_lit 1 (by omega) ⟨#[49]⟩ (by first | kernel_rfl | simp [Lib.decDigits]) _).mono ?_
  rintro e w1 ⟨rfl, rfl⟩
  go_wp2_with fail
  have HA := Lib.hid (HW.out.below ((Below.refl _ _).alloc (Nat.le_refl _) (.cells #[.string ⟨#[100, 105, 103, 105, 116, 115]⟩, .string ⟨#[49]⟩] 9)))
  refine (line_at (w.heap.size + 1) (w.heap.size + 1) [] (w.heap.size + 1 + 1) 2 2 [⟨#[100, 105, 103, 105, 116, 115]⟩, ⟨#[49]⟩] ⟨#[100, 105, 103, 105, 116, 115, 32, 49, 10]⟩ _ HA.out.bld (by have := HA.out.sz; omega) rfl (cells_new' _ _ (by simp) [⟨#[100, 105, 103, 105, 116, 115]⟩, ⟨#[49]⟩] _) (by simp) (by omega) (by omega) (by first | rfl | kernel_rfl) (by decide) (by decide)).mono ?_
  rintro e w1 ⟨rfl, hb1, hbl1, hk1⟩
  have H1 : Hid (WAt g1 c1 g2 c2 L1 w w1) := Lib.hid (HA.out.line hb1 hbl1)
  clear hb1 hbl1 hk1 HA HW
  have b1 : w1.cell? ⟨w.heap.size, 1, none⟩ = some (.slice (some ⟨g1, 0, none⟩) 1 c1) := cell_blk H1.out.box 1 _ rfl
  go_wp2_with fail
  go_loopw [29] (fun i wr => ∃ k : Nat, k ≤ 1 ∧ i = .int .i64 k ∧ WAt g1 c1 g2 c2 (if k = 0 then L1 else L2) w wr) (fun i _ => 1 - (intOf i).toNat)
  case atStart => exact ⟨0, by omega, rfl, H1.out⟩
  case round =>
    clear b1 H1
    obtain ⟨k, hk3, rfl, hB⟩ := hrel
    obtain rfl | rfl : k = 0 ∨ k = 1 := by omega
    · have HR : Hid (WAt g1 c1 g2 c2 L1 w wr) := Lib.hid hB
      have P := HP.out.below hB.bl
      have r0 := P.r0
      have r1 := P.r1
      have r2 := P.r2
      have r3 := P.r3
      have hl1 := P.l1
      clear hB P
      have KS : Hid (∀ W, Below (wr.alloc (.cells #[.string ⟨#[]⟩, .int .i64 1, .int .i64 0, .int .i64 0] 50)).heap.size (wr.alloc (.cells #[.string ⟨#[]⟩, .int .i64 1, .int .i64 0, .int .i64 0] 50)) W → W.cell? ⟨wr.heap.size, 0, none⟩ = some (.string ⟨#[]⟩) ∧ W.cell? ⟨wr.heap.size, 1, none⟩ = some (.int .i64 1) ∧ W.cell? ⟨wr.heap.size, 2, none⟩ = some (.int .i64 0)) := Lib.hid (fun W hW => by
        have X := (Box.new wr [.string ⟨#[]⟩, .int .i64 1, .int .i64 0, .int .i64 0] 50).step hW
        exact ⟨X.c 0 _ rfl, X.c 1 _ rfl, X.c 2 _ rfl⟩)
      have KW : Hid (∀ W, Below (wr.alloc (.cells #[.string ⟨#[]⟩, .int .i64 1, .int .i64 0, .int .i64 0] 50)).heap.size (wr.alloc (.cells #[.string ⟨#[]⟩, .int .i64 1, .int .i64 0, .int .i64 0] 50)) W → WAt g1 c1 g2 c2 L1 w W) := Lib.hid (fun W hW => (HR.out.below ((Below.refl _ _).alloc (Nat.le_refl _) _)).below hW)
      have ix : ∀ w, (Instr.index 96 (.agg #[.string ⟨#[]⟩, .string ⟨#[106, 101, 118, 111, 110, 115]⟩, .string ⟨#[100, 117, 116, 111, 116]⟩, .string ⟨#[99, 97, 114, 108, 105]⟩, .string ⟨#[104, 97, 114, 109, 111, 110, 105, 99]⟩, .string ⟨#[104, 121, 98, 114, 105, 100]⟩, .string ⟨#[103, 101, 107, 115]⟩, .string ⟨#[103, 101, 97, 114, 121]⟩, .string ⟨#[100, 117, 109, 109, 121]⟩, .string ⟨#[116, 97, 114, 105, 102, 102]⟩]) (.int .i64 1)).run Tryz.prog w = .ok (.string ⟨#[106, 101, 118, 111, 110, 115]⟩) w := fun _ => by kernel_rfl
      go_wp2_with fail
      obtain ⟨W, hW⟩ : ∃ W, W = wr.alloc (.cells #[.string ⟨#[]⟩, .int .i64 1, .int .i64 0, .int .i64 0] 50) := ⟨_, rfl⟩
      rw [← hW] at KS KW ⊢
      clear hW r0 r1 r2 r3
      go_region_held3 (fun w' => w'.cell? ⟨wr.heap.size, 0, none⟩ = some (.string ⟨#[]⟩) ∧ w'.cell? ⟨wr.heap.size, 1, none⟩ = some (.int .i64 1) ∧ w'.cell? ⟨wr.heap.size, 2, none⟩ = some (.int .i64 0)) (exact KS.out _ (by first | assumption | exact (Below.refl _ _).drew | exact chainAlloc (by assumption) _))
        (first
          | (go_at_call 45; refine (shown_all _).mono ?_; rintro e w6 ⟨rfl, rfl⟩)
          | (go_at_call 46; refine (methods_any _).mono ?_; rintro e w6 ⟨rfl, hb6⟩; have hB6 := chain0 (show Below W.heap.size W _ by first | assumption | exact (Below.refl _ _).drew) hb6; clear hb6))
      all_goals
        have HB6 := Lib.hid hB6
        clear hB6
        have q2 := (KS.out _ HB6.out).2.2
        go_wp2_with fail
        have HA := Lib.hid ((KW.out _ HB6.out).below ((Below.refl _ _).alloc (Nat.le_refl _) (.cells #[.string ⟨#[114, 117, 108, 101]⟩, .string ⟨#[97, 108, 108]⟩, .string ⟨#[106, 101, 118, 111, 110, 115]⟩] 9)))
        refine (line_at (w.heap.size + 1) (w.heap.size + 1) L1 _ 3 3 [⟨#[114, 117, 108, 101]⟩, ⟨#[97, 108, 108]⟩, ⟨#[106, 101, 118, 111, 110, 115]⟩] ⟨#[114, 117, 108, 101, 32, 97, 108, 108, 32, 106, 101, 118, 111, 110, 115, 10]⟩ _ HA.out.bld (by have := HA.out.sz; omega) rfl (cells_new' _ _ (by simp) [⟨#[114, 117, 108, 101]⟩, ⟨#[97, 108, 108]⟩, ⟨#[106, 101, 118, 111, 110, 115]⟩] _) (by simp) (by omega) (by omega) (by first | rfl | kernel_rfl) (by decide) (by decide)).mono ?_
        rintro e w7 ⟨rfl, hb7, hbl7, hk7⟩
        have H7 : Hid (WAt g1 c1 g2 c2 L2 w w7) := Lib.hid (HA.out.line hb7 hbl7)
        clear hb7 hbl7 hk7 HA
        go_wp2_with fail
        go_roundw
        case rel => exact ⟨1, by omega, by go_num, H7.out⟩
        case measure => simp [intOf]
    · have H2 : Hid (WAt g1 c1 g2 c2 L2 w wr) := Lib.hid hB
      have b2 : wr.cell? ⟨w.heap.size, 2, none⟩ = some (.slice (some ⟨g2, 0, none⟩) 1 c2) := cell_blk hB.box 2 _ rfl
      clear hB
      go_wp2_with fail
      go_loopw [61] (fun i wr => ∃ k : Nat, k ≤ 1 ∧ i = .int .i64 k ∧ WAt g1 c1 g2 c2 (if k = 0 then L2 else L3) w wr) (fun i _ => 1 - (intOf i).toNat)
      case atStart => exact ⟨0, by omega, rfl, H2.out⟩
      case round =>
        clear b2 H2
        obtain ⟨k, hk3, rfl, hB⟩ := hrel
        obtain rfl | rfl : k = 0 ∨ k = 1 := by omega
        · have HR : Hid (WAt g1 c1 g2 c2 L2 w wr) := Lib.hid hB
          have P := HP.out.below hB.bl
          have d0 := P.c0
          have d1 := P.c1
          have hl2 := P.l2
          have HPR := Lib.hid P
          clear hB P
          have KH : Hid (∀ W, Below (wr.alloc (.cells #[.string ⟨#[]⟩, .slice (some ⟨g3, 0, none⟩) 3 c3] 60)).heap.size (wr.alloc (.cells #[.string ⟨#[]⟩, .slice (some ⟨g3, 0, none⟩) 3 c3] 60)) W → W.heap[wr.heap.size]? = some (.cells #[.string ⟨#[]⟩, .slice (some ⟨g3, 0, none⟩) 3 c3] 60 (0, 0))) := Lib.hid (fun W hW => (hW.block _ (by simp)).trans (by
            show (Array.push wr.heap _)[_]? = _
            rw [Array.getElem?_push, if_pos rfl]))
          have KW : Hid (∀ W, Below (wr.alloc (.cells #[.string ⟨#[]⟩, .slice (some ⟨g3, 0, none⟩) 3 c3] 60)).heap.size (wr.alloc (.cells #[.string ⟨#[]⟩, .slice (some ⟨g3, 0, none⟩) 3 c3] 60)) W → WAt g1 c1 g2 c2 L2 w W) := Lib.hid (fun W hW => (HR.out.below ((Below.refl _ _).alloc (Nat.le_refl _) _)).below hW)
          have KP : Hid (∀ W, Below (wr.alloc (.cells #[.string ⟨#[]⟩, .slice (some ⟨g3, 0, none⟩) 3 c3] 60)).heap.size (wr.alloc (.cells #[.string ⟨#[]⟩, .slice (some ⟨g3, 0, none⟩) 3 c3] 60)) W → PlanAt g1 g2 g3 c3 W) := Lib.hid (fun W hW => (HPR.out.below ((Below.refl _ _).alloc (Nat.le_refl _) _)).below hW)
          go_wp2_with fail
          obtain ⟨W, hW⟩ : ∃ W, W = wr.alloc (.cells #[.string ⟨#[]⟩, .slice (some ⟨g3, 0, none⟩) 3 c3] 60) := ⟨_, rfl⟩
          rw [← hW] at KH KW KP ⊢
          clear hW d0 d1
          have KS : Hid (∀ W', Below W.heap.size W W' → W'.cell? ⟨wr.heap.size, 0, none⟩ = some (.string ⟨#[]⟩) ∧ W'.cell? ⟨wr.heap.size, 1, none⟩ = some (.slice (some ⟨g3, 0, none⟩) 3 c3)) := Lib.hid (fun W' hW => ⟨cell_blk (KH.out _ hW) 0 _ rfl, cell_blk (KH.out _ hW) 1 _ rfl⟩)
          go_region_held3 (fun w' => w'.cell? ⟨wr.heap.size, 0, none⟩ = some (.string ⟨#[]⟩) ∧ w'.cell? ⟨wr.heap.size, 1, none⟩ = some (.slice (some ⟨g3, 0, none⟩) 3 c3)) (first | exact KS.out _ (by first | assumption | exact (Below.refl _ _).drew | exact chainAlloc (by assumption) _) | assumption)
            (first
              | (go_at_call 45; refine (shown_all _).mono ?_; rintro e w6 ⟨rfl, rfl⟩)
              | (go_at_call 48; refine (chain_at g1 g2 g3 c3 _ (KP.out _ (by first | assumption | exact (Below.refl _ _).drew))).mono ?_; rintro e w6 ⟨rfl, hb6⟩; have hB6 := chain0 (show Below W.heap.size W _ by first | assumption | exact (Below.refl _ _).drew) hb6; clear hb6)
              | (go_at_call 41; have HB7 := Lib.hid (chainAlloc hB6 (.cells #[.string ⟨#[105, 109, 112, 117, 116, 101]⟩, .string ⟨#[97, 108, 108]⟩, .string ⟨#[99, 108, 97, 115, 115, 32, 50, 44, 32, 99, 97, 114, 114, 121, 32, 51, 44, 32, 100, 114, 111, 112]⟩] 9)); clear hB6; refine (line_at (w.heap.size + 1) (w.heap.size + 1) L2 _ 3 3 [⟨#[105, 109, 112, 117, 116, 101]⟩, ⟨#[97, 108, 108]⟩, ⟨#[99, 108, 97, 115, 115, 32, 50, 44, 32, 99, 97, 114, 114, 121, 32, 51, 44, 32, 100, 114, 111, 112]⟩] ⟨#[105, 109, 112, 117, 116, 101, 32, 97, 108, 108, 32, 99, 108, 97, 115, 115, 32, 50, 44, 32, 99, 97, 114, 114, 121, 32, 51, 44, 32, 100, 114, 111, 112, 10]⟩ _ (KW.out _ HB7.out).bld (by have := (KW.out _ HB7.out).sz; omega) rfl (cells_new' _ _ (by simp) [⟨#[105, 109, 112, 117, 116, 101]⟩, ⟨#[97, 108, 108]⟩, ⟨#[99, 108, 97, 115, 115, 32, 50, 44, 32, 99, 97, 114, 114, 121, 32, 51, 44, 32, 100, 114, 111, 112]⟩] _) (by simp) (by omega) (by omega) (by first | rfl | kernel_rfl) (by decide) (by decide)).mono ?_; rintro e w8 ⟨rfl, hb8, hbl8, hk8⟩; have hh8 := hk8 _ _ (KH.out _ HB7.out) (fun e => by have := HR.out.sz; simp at e; omega) (fun _ _ e => by simp at e); have hS8 := And.intro (cell_blk hh8 0 _ rfl) (cell_blk hh8 1 _ rfl); have H8 : Hid (WAt g1 c1 g2 c2 L3 w w8) := Lib.hid ((KW.out _ HB7.out).line hb8 hbl8); clear hb8 hbl8 hk8 hh8 HB7))
          all_goals
            go_wp2_with fail
            go_roundw
            case rel =>
              refine ⟨_, _, _, _, _, _, _, _, _, _, _, _, _, _, _, ⟨1, by omega, ?_, H8.out⟩, rfl⟩
              go_num
            case measure => simp [intOf]
        · have H3 : Hid (WAt g1 c1 g2 c2 L3 w wr) := Lib.hid hB
          have b3 : wr.cell? ⟨w.heap.size, 3, none⟩ = some (.slice none 0 0) := cell_blk hB.box 3 _ rfl
          have b4 : wr.cell? ⟨w.heap.size, 4, none⟩ = some (.slice none 0 0) := cell_blk hB.box 4 _ rfl
          have b5 : wr.cell? ⟨w.heap.size, 5, none⟩ = some (.slice none 0 0) := cell_blk hB.box 5 _ rfl
          clear hB
          go_wp2_with fail
          go_loopw [78] (fun i wx => i = .int .i64 0 ∧ WAt g1 c1 g2 c2 L3 w wx) (fun _ _ => 0)
          case atStart => exact ⟨rfl, H3.out⟩
          case round =>
            clear b3 b4 b5 H3
            obtain ⟨rfl, hB⟩ := hrel
            have H3 : Hid (WAt g1 c1 g2 c2 L3 w wr) := Lib.hid hB
            have b5 : wr.cell? ⟨w.heap.size, 5, none⟩ = some (.slice none 0 0) := cell_blk hB.box 5 _ rfl
            clear hB
            go_wp2_with fail
            go_loopw [105] (fun i wx => i = .int .i64 0 ∧ WAt g1 c1 g2 c2 L3 w wx) (fun _ _ => 0)
            case atStart => exact ⟨rfl, H3.out⟩
            case round =>
              clear b5 H3
              obtain ⟨rfl, hB⟩ := hrel
              have H3 : Hid (WAt g1 c1 g2 c2 L3 w wr) := Lib.hid hB
              have b4 : wr.cell? ⟨w.heap.size, 4, none⟩ = some (.slice none 0 0) := cell_blk hB.box 4 _ rfl
              clear hB
              go_wp2_with fail
              go_loopw [125] (fun i wx => i = .int .i64 0 ∧ WAt g1 c1 g2 c2 L3 w wx) (fun _ _ => 0)
              case atStart => exact ⟨rfl, H3.out⟩
              case round =>
                clear b4 H3
                obtain ⟨rfl, hB⟩ := hrel
                have H3 : Hid (WAt g1 c1 g2 c2 L3 w wr) := Lib.hid hB
                clear hB
                go_wp2_with fail
                refine (Tryz.Builder_String_any_k (w.heap.size + 1) (w.heap.size + 1) L3 _ H3.out.bld (by have := H3.out.sz; omega)).mono ?_
                rintro e w9 ⟨rfl, hb9, hbl9, hk9⟩
                go_wp2
                go_ret
                exact ⟨rfl, H3.out.bl.trans (hbl9.mono (by omega))⟩
end Go.Proofs.YtenjefbplpbjaaaGreatDoor
