/- The reference's arithmetic at numbers of one limb, and its texts of small whole numbers. -/
import Derived.Test.YtenjefbplpbjaaaGreatDoorZ9
import Derived.Test.YtenjefbplpbjaaaGreatDoorR8
import Derived.Test.YtenjefbplpbjaaaGreatDoorIv
import Derived.Deep.OwnRows
namespace Go.Proofs.YtenjefbplpbjaaaGreatDoor
open Go.RowKit Go.Sort Cal Go.Maps
/-- A number of one limb in a new block. -/
theorem limb_new (w : World) (N : Nat) (h : 0 < N) (t : TypeId) : LimbAt (w.alloc (.cells #[.int .u32 (N : Int)] t)) (.slice (some ⟨w.heap.size, 0, none⟩) 1 1) N := by
  have X := Box.new w [.int .u32 (N : Int)] t
  exact Or.inr ⟨h, _, _, rfl, Nat.le_refl _, X.sz, X.c 0 _ rfl⟩
set_option maxHeartbeats 800000 in
theorem rden_nil (p : Option Addr) (n c : Nat) (w : World) : Calls Tryz.prog 188 #[.agg #[.bool false, .slice p n c, .slice none 0 0]] w (LimbPost 1 w) := by
  have HB := Lib.hid (Box.new w [.bool false, .slice p n c, .slice none 0 0] 36)
  go_enter Tryz.func188, Tryz.ntmps188
  go_wp2_with fail
  refine (trim_nil _).mono ?_
  rintro e w1 ⟨rfl, hb1⟩
  have HB1 := Lib.hid (chain0 HB.out.bl hb1)
  have HP : Hid (LimbPost 1 w (.returned (.slice (some ⟨w1.heap.size, 0, none⟩) 1 1)) (w1.alloc (.cells #[.int .u32 1] 129))) := Lib.hid ⟨_, rfl, ⟨_, _, rfl, Nat.le_refl _, HB1.out.size, by simp, fun _ => ⟨(Box.new w1 [.int .u32 1] 129).c 0 _ rfl, by simp⟩⟩, chainAlloc HB1.out _⟩
  clear hb1
  go_wp2_with fail
  go_ret
  exact HP.out
set_option maxHeartbeats 800000 in
theorem raise_0 (v : Value) (N : Nat) (w : World) (hv : LimbAt w v N) : Calls Tryz.prog 88 #[v, .int .i64 0] w (LimbPost 1 w) := by
  have HX := Lib.hid (Box.new w [.int .u32 1] 129)
  have HV := Lib.hid (hv.raw.below HX.out.bl)
  have hf0 : (w.alloc (.cells #[.int .u32 1] 129)).frozen? ⟨w.heap.size, 0, none⟩ = false := by simp
  have HF0 := Lib.hid hf0
  clear hv hf0
  go_enter Tryz.func88, Tryz.ntmps88
  go_wp2_with fail
  refine (trim_raw _ N _ HV.out).mono ?_
  rintro e w1 ⟨u, rfl, hf, hb1⟩
  have HB1 := Lib.hid (chain0 HX.out.bl hb1)
  have HP : Hid (LimbPost 1 w (.returned (.slice (some ⟨w.heap.size, 0, none⟩) 1 1)) w1) := Lib.hid ⟨_, rfl, ⟨_, _, rfl, Nat.le_refl _, Nat.le_refl _, (HX.out.step hb1).sz, fun _ => ⟨(HX.out.step hb1).c 0 _ rfl, (hb1.frozen (p := ⟨w.heap.size, 0, none⟩) HX.out.sz).trans HF0.out⟩⟩, HB1.out⟩
  clear hf hb1
  go_wp2_with fail
  go_loop [0, 1, 5] (fun a k o => k = .int .i64 0 ∧ o = .slice (some ⟨w.heap.size, 0, none⟩) 1 1) (fun _ _ _ => 0)
  case atStart => exact ⟨rfl, rfl⟩
  case round =>
    obtain ⟨rfl, rfl⟩ := hrel
    go_wp2_with fail
    go_ret
    exact HP.out
/-- Two limbs in a block of the call's own. -/
structure Out2 (B : Nat) (x y : Int) (w0 w : World) : Prop where
  blk : w.heap[B]? = some (.cells #[.int .u32 x, .int .u32 y] 129 (0, 0))
  bl : Below w0.heap.size w0 w
  lo : w0.heap.size ≤ B
theorem Out2.lt {B : Nat} {x y : Int} {w0 w : World} (h : Out2 B x y w0 w) : B < w.heap.size := (Array.getElem?_eq_some_iff.1 h.blk).1
theorem Out2.below {B : Nat} {x y : Int} {w0 w w' : World} (h : Out2 B x y w0 w) (hb : Below w.heap.size w w') : Out2 B x y w0 w' := ⟨(hb.block B h.lt).trans h.blk, chain0 h.bl hb, h.lo⟩
theorem Out2.set0 {B : Nat} {x y : Int} {w0 w : World} (h : Out2 B x y w0 w) (z : Int) : Out2 B z y w0 (w.setCell ⟨B, 0, none⟩ (.int .u32 z)) := ⟨by have := set_blk h.blk 0 (.int .u32 z); simpa using this, h.bl.setCell (p := ⟨B, 0, none⟩) h.lo _, h.lo⟩
theorem Out2.set1 {B : Nat} {x y : Int} {w0 w : World} (h : Out2 B x y w0 w) (z : Int) : Out2 B x z w0 (w.setCell ⟨B, 1, none⟩ (.int .u32 z)) := ⟨by have := set_blk h.blk 1 (.int .u32 z); simpa using this, h.bl.setCell (p := ⟨B, 1, none⟩) h.lo _, h.lo⟩
theorem Out2.raw {B N : Nat} {w0 w : World} (h : Out2 B (N : Int) 0 w0 w) : RawAt w (.slice (some ⟨B, 0, none⟩) 2 2) N :=
  Or.inr (Or.inr ⟨_, _, rfl, Nat.le_refl _, h.lt, cell_blk h.blk 0 _ rfl, cell_blk h.blk 1 _ rfl⟩)
theorem Out2.new (w : World) : Out2 w.heap.size 0 0 w (w.alloc (.cells (madeCells #[.int .u32 0] 2) 129)) := by
  refine ⟨?_, chainAlloc (Below.refl _ _) _, Nat.le_refl _⟩
  show (Array.push w.heap _)[_]? = _
  rw [Array.getElem?_push, if_pos rfl, show madeCells #[Value.int .u32 0] 2 = #[.int .u32 0, .int .u32 0] by kernel_rfl]
theorem Out2.drawn (w : World) (n : Nat) : Out2 w.heap.size 0 0 w ((w.drewN n).alloc (.cells (madeCells #[.int .u32 0] 2) 129)) := by
  have h := Out2.new (w.drewN n)
  have e : (w.drewN n).heap.size = w.heap.size := by simp
  have hb := h.blk
  rw [e] at hb
  exact ⟨hb, chain0 (below_drewN (Below.refl _ _) n) h.bl, Nat.le_refl _⟩
theorem limb_low {P : Nat} {w0 w w' : World} {v : Value} (hb : Below w0.heap.size w0 w) (hf : Fresh w.heap.size w' v P) (hb2 : Below w.heap.size w w') : LimbPost P w0 (.returned v) w' := ⟨v, rfl, hf.low hb.size, chain0 hb hb2⟩
theorem size_one (b c M : Nat) (w : World) (hM : 0 < M) (hc : 1 ≤ c) (hb : b < w.heap.size) (h0 : w.cell? ⟨b, 0, none⟩ = some (.int .u32 (M : Int))) :
    Calls Tryz.prog 185 #[.slice (some ⟨b, 0, none⟩) 1 c] w fun e w' => e = .returned (.int .i64 1) ∧ w = w' :=
  (size_raw _ M w (Or.inr (Or.inl ⟨b, c, rfl, hc, hb, h0⟩))).mono fun _ _ ⟨he, hw⟩ => ⟨by rw [he, lim_pos (by omega)], hw⟩
set_option maxRecDepth 100000 in
set_option maxHeartbeats 3200000 in
theorem rmul_1 (u v : Value) (M N P : Nat) (w : World) (hu : LimbAt w u M) (hv : LimbAt w v N) (hM : 0 < M) (hN : 0 < N) (hP : M * N = P) (hl : P < 4294967296) :
    Calls Tryz.prog 144 #[u, v] w (LimbPost P w) := by
  rcases hu with ⟨h, _⟩ | ⟨_, b1, c1, rfl, hc1, hb1, hx1⟩
  · omega
  rcases hv with ⟨h, _⟩ | ⟨_, b2, c2, rfl, hc2, hb2, hx2⟩
  · omega
  have hMl : M ≤ P := by rw [← hP]; exact Nat.le_mul_of_pos_right _ hN
  have hNl : N ≤ P := by rw [← hP]; exact Nat.le_mul_of_pos_left _ hM
  have hpi : (M : Int) * (N : Int) = (P : Int) := by rw [← hP]; simp
  have S1 : Hid (∀ n, Calls Tryz.prog 185 #[.slice (some ⟨b1, 0, none⟩) 1 c1] (w.drewN n) fun e w' => e = .returned (.int .i64 1) ∧ w' = w.drewN n) := Lib.hid (fun n => flip_eq (size_one b1 c1 M _ hM hc1 (by simpa using hb1) (((below_drewN (Below.refl w.heap.size w) n).cell (p := ⟨b1, 0, none⟩) hb1).trans hx1)))
  have S2 : Hid (∀ n, Calls Tryz.prog 185 #[.slice (some ⟨b2, 0, none⟩) 1 c2] (w.drewN n) fun e w' => e = .returned (.int .i64 1) ∧ w' = w.drewN n) := Lib.hid (fun n => flip_eq (size_one b2 c2 N _ hN hc2 (by simpa using hb2) (((below_drewN (Below.refl w.heap.size w) n).cell (p := ⟨b2, 0, none⟩) hb2).trans hx2)))
  have hmk : ∀ w : World, (Instr.makeSlice 34 (.int .i64 2) (.int .i64 2)).run Tryz.prog w = .ok (.slice (some ⟨w.heap.size, 0, none⟩) 2 2) (w.alloc (.cells (madeCells #[.int .u32 0] 2) 129)) := fun w => run_make_row' (P := Tryz.prog) 34 129 (.int .u32 0) 4 Tryz.underlying34 info_u32 rfl .i64 .i64 2 (by omega) (by omega) w
  go_enter Tryz.func144, Tryz.ntmps144
  go_wp2
  go_quiet (first
    | (go_at_call 185; ((with_reducible refine Calls.quiet_of_same (S1.out _))))
    | (go_at_call 185; ((with_reducible refine Calls.quiet_of_same (S2.out _)))))
  go_wp2_with fail
  clear hmk
  obtain ⟨W1, hW1⟩ : ∃ W, W = (w.drewN nq).alloc (.cells (madeCells #[.int .u32 0] 2) 129) := ⟨_, rfl⟩
  have HO : Hid (Out2 w.heap.size 0 0 w W1) := Lib.hid (by rw [hW1]; exact Out2.drawn w nq)
  rw [← hW1]
  have HX1 := Lib.hid hx1
  have HX2 := Lib.hid hx2
  clear hW1 hx1 hx2
  have am := and_mask P hl
  have d1 : (P : Int) % 4294967296 = P := by omega
  have d2 : (P : Int) / 4294967296 = 0 := by omega
  have d3 : IntKind.u64.wrap (P : Int) = (P : Int) := by rw [IntKind.wrap_u64]; omega
  go_loopw [25] (fun i wr => (i = .int .i64 0 ∧ Out2 w.heap.size 0 0 w wr) ∨ (i = .int .i64 1 ∧ Out2 w.heap.size (P : Int) 0 w wr)) (fun i _ => 1 - (intOf i).toNat)
  case atStart => exact Or.inl ⟨rfl, HO.out⟩
  case round =>
    clear HO
    obtain ⟨wo, rfl⟩ : ∃ wo : World, wo = wr := ⟨_, rfl⟩
    rcases hrel with ⟨rfl, hO⟩ | ⟨rfl, hO⟩
    · have HO := Lib.hid hO
      clear hO
      go_wp2_with fail
      go_loopw [7, 30] (fun cv kv wx => (cv = .int .u64 0 ∧ kv = .int .i64 0 ∧ Out2 w.heap.size 0 0 w wx) ∨ (cv = .int .u64 0 ∧ kv = .int .i64 1 ∧ Out2 w.heap.size (P : Int) 0 w wx)) (fun _ kv _ => 1 - (intOf kv).toNat)
      case atStart => exact Or.inl ⟨rfl, rfl, HO.out⟩
      case round =>
        clear HO
        rcases hrel with ⟨rfl, rfl, hO⟩ | ⟨rfl, rfl, hO⟩
        · have HO := Lib.hid hO
          have o0 : wr.cell? ⟨w.heap.size, 0, none⟩ = some (.int .u32 0) := cell_blk hO.blk 0 _ rfl
          have y0 := free_blk hO.blk 0
          have x1 := (hO.bl.cell (p := ⟨b1, 0, none⟩) hb1).trans HX1.out
          have x2 := (hO.bl.cell (p := ⟨b2, 0, none⟩) hb2).trans HX2.out
          have zl := hO.lt
          have zb1 := Nat.lt_of_lt_of_le hb1 hO.bl.size
          have zb2 := Nat.lt_of_lt_of_le hb2 hO.bl.size
          clear hO
          go_wp2
          go_quiet (fail)
          go_wp2_with fail
          go_roundw
          case rel => exact Or.inr ⟨rfl, by first | rfl | go_num, (HO.out.below (below_drewN (Below.refl _ _) _)).set0 _⟩
          case measure => simp [intOf]
        · have HO := Lib.hid hO
          have o0 : wr.cell? ⟨w.heap.size, 1, none⟩ = some (.int .u32 0) := cell_blk hO.blk 1 _ rfl
          have y0 := free_blk hO.blk 1
          have zl := hO.lt
          clear hO
          go_wp2_with fail
          go_roundw
          case rel => exact Or.inr ⟨by first | rfl | go_num, HO.out.set1 _⟩
          case measure => simp [intOf]
    · have HO := Lib.hid hO
      clear hO d1 d2 d3 am
      go_wp2_with fail
      refine (trim_raw _ P _ HO.out.raw).mono ?_
      rintro e w2 ⟨r, rfl, hf, hb2⟩
      have HP := Lib.hid (limb_low HO.out.bl hf hb2)
      clear hf hb2
      go_wp2_with fail
      go_ret
      exact HP.out
set_option maxRecDepth 100000 in
set_option maxHeartbeats 3200000 in
theorem radd_1 (u v : Value) (M N P : Nat) (w : World) (hu : LimbAt w u M) (hv : LimbAt w v N) (hM : 0 < M) (hN : 0 < N) (hP : M + N = P) (hl : P < 4294967296) :
    Calls Tryz.prog 143 #[u, v] w (LimbPost P w) := by
  rcases hu with ⟨h, _⟩ | ⟨_, b1, c1, rfl, hc1, hb1, hx1⟩
  · omega
  rcases hv with ⟨h, _⟩ | ⟨_, b2, c2, rfl, hc2, hb2, hx2⟩
  · omega
  have hpi : (M : Int) + (N : Int) = (P : Int) := by omega
  have hmk : ∀ w : World, (Instr.makeSlice 34 (.int .i64 2) (.int .i64 2)).run Tryz.prog w = .ok (.slice (some ⟨w.heap.size, 0, none⟩) 2 2) (w.alloc (.cells (madeCells #[.int .u32 0] 2) 129)) := fun w => run_make_row' (P := Tryz.prog) 34 129 (.int .u32 0) 4 Tryz.underlying34 info_u32 rfl .i64 .i64 2 (by omega) (by omega) w
  have HO := Lib.hid (Out2.new w)
  have HX1 := Lib.hid hx1
  have HX2 := Lib.hid hx2
  clear hx1 hx2
  go_enter Tryz.func143, Tryz.ntmps143
  go_wp2_with fail
  clear hmk
  have am := and_mask P hl
  have d1 : (P : Int) % 4294967296 = P := by omega
  have d2 : (P : Int) / 4294967296 = 0 := by omega
  have d3 : IntKind.u64.wrap (P : Int) = (P : Int) := by rw [IntKind.wrap_u64]; omega
  go_loopw [17, 6] (fun i cv wr => (i = .int .i64 0 ∧ cv = .int .u64 0 ∧ Out2 w.heap.size 0 0 w wr) ∨ (i = .int .i64 1 ∧ cv = .int .u64 0 ∧ Out2 w.heap.size (P : Int) 0 w wr) ∨ (i = .int .i64 2 ∧ cv = .int .u64 0 ∧ Out2 w.heap.size (P : Int) 0 w wr)) (fun i _ _ => 2 - (intOf i).toNat)
  case atStart => exact Or.inl ⟨rfl, rfl, HO.out⟩
  case round =>
    clear HO
    rcases hrel with ⟨rfl, rfl, hO⟩ | ⟨rfl, rfl, hO⟩ | ⟨rfl, rfl, hO⟩
    · have HO := Lib.hid hO
      have o0 : wr.cell? ⟨w.heap.size, 0, none⟩ = some (.int .u32 0) := cell_blk hO.blk 0 _ rfl
      have y0 := free_blk hO.blk 0
      have x1 := (hO.bl.cell (p := ⟨b1, 0, none⟩) hb1).trans HX1.out
      have x2 := (hO.bl.cell (p := ⟨b2, 0, none⟩) hb2).trans HX2.out
      have zl := hO.lt
      clear hO
      go_wp2_with fail
      go_roundw
      case rel => exact Or.inr (Or.inl ⟨by first | rfl | go_num, by first | rfl | go_num, HO.out.set0 _⟩)
      case measure => simp [intOf]
    · have HO := Lib.hid hO
      have o0 : wr.cell? ⟨w.heap.size, 1, none⟩ = some (.int .u32 0) := cell_blk hO.blk 1 _ rfl
      have y0 := free_blk hO.blk 1
      have zl := hO.lt
      clear hO
      go_wp2_with fail
      go_roundw
      case rel => exact Or.inr (Or.inr ⟨by first | rfl | go_num, by first | rfl | go_num, HO.out.set1 _⟩)
      case measure => simp [intOf]
    · have HO := Lib.hid hO
      clear hO d1 d2 d3 am
      go_wp2_with fail
      refine (trim_raw _ P _ HO.out.raw).mono ?_
      rintro e w2 ⟨r, rfl, hf, hb2⟩
      have HP := Lib.hid (limb_low HO.out.bl hf hb2)
      clear hf hb2
      go_wp2_with fail
      go_ret
      exact HP.out
/-- A quotient that is not nil. -/
def QuoPost (M N : Nat) (w : World) (e : Ending) (w' : World) : Prop :=
  ∃ q r, e = .returned (.tuple #[q, r, .bool true]) ∧ LimbAt w' q (M / N) ∧ Below w.heap.size w w'
set_option maxRecDepth 100000 in
set_option maxHeartbeats 1600000 in
theorem rdivide_ge (u v : Value) (M N : Nat) (w : World) (hu : LimbAt w u M) (hv : LimbAt w v N) (hM : M < 4294967296) (h0 : 0 < N) (hN : N < 4294967296) (hlt : ¬ M < N) :
    Calls Tryz.prog 146 #[u, v] w (QuoPost M N w) := by
  have HU := Lib.hid hu
  have HV := Lib.hid hv
  have HL := Lib.hid (lim_pos (show ¬ N = 0 by omega))
  rcases hv with ⟨h, _⟩ | ⟨_, b, c, rfl, hc, hb, hcell⟩
  · omega
  clear hu
  have HC : Hid (cmpN M N = 0 ∨ cmpN M N = 1) := Lib.hid (by unfold cmpN; rw [if_neg hlt]; split <;> simp)
  go_enter Tryz.func146, Tryz.ntmps146
  go_wp2_with fail
  refine (size_raw _ N _ HV.out.raw).mono ?_
  rintro e w1 ⟨rfl, rfl⟩
  rw [HL.out]
  go_wp2_with fail
  refine (compare_at _ _ M N _ HU.out HV.out).mono ?_
  rintro e w1 ⟨rfl, n, rfl⟩
  have HU2 := Lib.hid (HU.out.below (below_drewN (Below.refl _ _) n))
  generalize cmpN M N = z at *
  rcases HC.out with rfl | rfl
  all_goals
    go_wp2_with fail
    refine (short_at _ M N _ HU2.out hM h0 hN).mono ?_
    rintro e w2 ⟨q, rfl, hf, hb2⟩
    have HF := Lib.hid hf.limb
    have HB2 := Lib.hid (chain0 (below_drewN (Below.refl w.heap.size w) n) hb2)
    have hml : M % N < 4294967296 := Nat.lt_of_le_of_lt (Nat.mod_le _ _) hM
    obtain ⟨R, hR⟩ : ∃ R, R = M % N := ⟨_, rfl⟩
    rw [← hR] at hml ⊢
    clear hf hb2 hR
    go_wp2_with fail
    refine (fromUint_at R _ hml).mono ?_
    rintro e w3 ⟨r, rfl, hf, hb3⟩
    have HP : Hid (QuoPost M N w (.returned (.tuple #[q, r, .bool true])) w3) := Lib.hid ⟨_, _, rfl, HF.out.below hb3, chain0 HB2.out hb3⟩
    clear hf hb3
    go_wp2_with fail
    exact bodyPost_ret (v := .tuple #[q, r, .bool true]) (by simp [results, Tryz.results146, go_sem]) rfl HP.out
end Go.Proofs.YtenjefbplpbjaaaGreatDoor
namespace Go.Proofs.YtenjefbplpbjaaaGreatDoor
open Go.RowKit Go.Sort Cal Go.Maps
def RU2 (B : Nat) (num two : Value) (N : Nat) (k : Nat) (u : Value) (w : World) : Prop :=
  match k with
  | 0 => u = .pointer (some ⟨B, 1, none⟩)
  | 1 => u = num
  | 2 => LimbAt w u 10
  | 3 => u = .int .i64 0
  | 4 => LimbAt w u 1
  | 5 => LimbAt w u N
  | 6 => u = two
  | _ => LimbAt w u (2 * N)
theorem RU2.below {B N : Nat} {num two : Value} {w w' : World} (hb : Below w.heap.size w w') : ∀ k u, RU2 B num two N k u w → RU2 B num two N k u w' := by
  intro k u h
  match k, h with
  | 0, h => exact h
  | 1, h => exact h
  | 2, h => exact LimbAt.below h hb
  | 3, h => exact h
  | 4, h => exact LimbAt.below h hb
  | 5, h => exact LimbAt.below h hb
  | 6, h => exact h
  | _ + 7, h => exact LimbAt.below h hb
/-- The same invariant where the slots lie apart: operation k writes slot sl k. -/
structure IVs (sl : Nat → Nat) (n : Nat) (R : Nat → Value → World → Prop) (K : Array Bool → World → Prop) (a0 : Act) (listed : Array Bool) (a : Act) (w : World) : Prop where
  defers : a.defers = a0.defers
  size : a.tmps.size = a0.tmps.size
  frame : ∀ t, (∀ k, k < n → sl k ≠ t) → a.tmps.getD t undef = a0.tmps.getD t undef
  world : K listed w
  vals : ∀ k, k < n → listed.getD k false = true → R k (a.tmps.getD (sl k) undef) w
theorem IVs.start {sl : Nat → Nat} {n m : Nat} {R : Nat → Value → World → Prop} {K : Array Bool → World → Prop} {a0 : Act} {w : World} (h : K (Array.replicate m false) w) : IVs sl n R K a0 (Array.replicate m false) a0 w :=
  ⟨rfl, rfl, fun _ _ => rfl, h, fun k _ hk => by rw [getD_replicate_false] at hk; cases hk⟩
theorem IVs.put {sl : Nat → Nat} {n : Nat} {R : Nat → Value → World → Prop} {K : Array Bool → World → Prop} {a0 a : Act} {listed : Array Bool} {w w' : World} (h : IVs sl n R K a0 listed a w) (k : Nat) (hk : k < n) (hp : ∀ j, j < n → sl k = sl j → k = j) (hs : sl k < a0.tmps.size) (v : Value) (hK : K (listed.setIfInBounds k true) w') (hst : ∀ j u, R j u w → R j u w') (hv : R k v w') :
    IVs sl n R K a0 (listed.setIfInBounds k true) (a.put (some (sl k)) v) w' := by
  refine ⟨h.defers, by simp [Act.put, h.size], fun t ht => ?_, hK, fun j hj hl => ?_⟩
  · have : sl k ≠ t := ht k hk
    simp only [Act.put]
    rw [Array.getD_eq_getD_getElem?, Array.getElem?_setIfInBounds_ne this, ← Array.getD_eq_getD_getElem?]
    exact h.frame t ht
  · simp only [Act.put]
    by_cases e : k = j
    · subst e
      have hlt : sl k < a.tmps.size := by rw [h.size]; exact hs
      rw [Array.getD_eq_getD_getElem?, Array.getElem?_setIfInBounds_self_of_lt hlt]
      exact hv
    · have : sl k ≠ sl j := fun e2 => e (hp j hj e2)
      rw [Array.getD_eq_getD_getElem?, Array.getElem?_setIfInBounds_ne this, ← Array.getD_eq_getD_getElem?]
      rw [getD_set_ne false e] at hl
      exact hst j _ (h.vals j hj hl)
def putS (a0 : Act) (sl : Nat → Nat) (u : Nat → Value) : Nat → Act
  | 0 => a0
  | n + 1 => (putS a0 sl u n).put (some (sl n)) (u n)
theorem putS_get (a0 : Act) (sl : Nat → Nat) (u : Nat → Value) : ∀ n, (∀ k, k < n → sl k < a0.tmps.size) → (∀ i, i < n → ∀ j, j < n → sl i = sl j → i = j) → (putS a0 sl u n).defers = a0.defers ∧ (putS a0 sl u n).tmps.size = a0.tmps.size ∧ (∀ k, k < n → (putS a0 sl u n).tmps.getD (sl k) undef = u k) ∧ ∀ t, (∀ k, k < n → sl k ≠ t) → (putS a0 sl u n).tmps.getD t undef = a0.tmps.getD t undef
  | 0, _, _ => ⟨rfl, rfl, fun k hk => absurd hk (by omega), fun _ _ => rfl⟩
  | n + 1, h, hi => by
    obtain ⟨h1, h2, h3, h4⟩ := putS_get a0 sl u n (fun k hk => h k (by omega)) (fun i hi1 j hj => hi i (by omega) j (by omega))
    refine ⟨h1, by simp [putS, Act.put, h2], fun k hk => ?_, fun t ht => ?_⟩
    · simp only [putS, Act.put]
      by_cases e : k = n
      · subst e
        rw [Array.getD_eq_getD_getElem?, Array.getElem?_setIfInBounds_self_of_lt (by rw [h2]; exact h k (by omega))]
        rfl
      · have : sl n ≠ sl k := fun e2 => e (hi n (by omega) k hk e2).symm
        rw [Array.getD_eq_getD_getElem?, Array.getElem?_setIfInBounds_ne this, ← Array.getD_eq_getD_getElem?]
        exact h3 k (by omega)
    · simp only [putS, Act.put]
      rw [Array.getD_eq_getD_getElem?, Array.getElem?_setIfInBounds_ne (ht n (by omega)), ← Array.getD_eq_getD_getElem?]
      exact h4 t (fun k hk => ht k (by omega))
theorem IVs.fin {sl : Nat → Nat} {n : Nat} {R : Nat → Value → World → Prop} {K : Array Bool → World → Prop} {a0 a : Act} {listed : Array Bool} {w : World} (h : IVs sl n R K a0 listed a w) (hs : ∀ k, k < n → sl k < a0.tmps.size) (hi : ∀ i, i < n → ∀ j, j < n → sl i = sl j → i = j) (hl : ∀ j, j < n → listed.getD j false = true) :
    ∃ u : Nat → Value, a = putS a0 sl u n ∧ ∀ k, k < n → R k (u k) w := by
  refine ⟨fun k => a.tmps.getD (sl k) undef, ?_, fun k hk => h.vals k hk (hl k hk)⟩
  obtain ⟨h1, h2, h3, h4⟩ := putS_get a0 sl (fun k => a.tmps.getD (sl k) undef) n hs hi
  refine act_eq (h.defers.trans h1.symm) (h.size.trans h2.symm) (fun t => ?_)
  by_cases e : ∃ k, k < n ∧ sl k = t
  · obtain ⟨k, hk, rfl⟩ := e
    exact (h3 k hk).symm
  · have e2 : ∀ k, k < n → sl k ≠ t := fun k hk e3 => e ⟨k, hk, e3⟩
    exact (h.frame t e2).trans (h4 t e2).symm
theorem IVs.slot {sl : Nat → Nat} {n : Nat} {R : Nat → Value → World → Prop} {K : Array Bool → World → Prop} {a0 a : Act} {listed : Array Bool} {w : World} (h : IVs sl n R K a0 listed a w) (t : Nat) (ht : ∀ k, k < n → sl k ≠ t) : (a.tmps[t]?).getD undef = a0.tmps.getD t undef := by
  rw [← h.frame t ht, Array.getD_eq_getD_getElem?]
theorem IVs.val {sl : Nat → Nat} {n : Nat} {R : Nat → Value → World → Prop} {K : Array Bool → World → Prop} {a0 a : Act} {listed : Array Bool} {w : World} (h : IVs sl n R K a0 listed a w) (k : Nat) (hk : k < n) (hl : listed.getD k false = true) (t : Nat) (e : t = sl k) : R k ((a.tmps[t]?).getD undef) w := by
  have := h.vals k hk hl
  rw [← e, Array.getD_eq_getD_getElem?] at this
  exact this
def sl3 (k : Nat) : Nat := if k ≤ 8 then 20 + k else if k = 9 then 19 else if k ≤ 12 then 19 + k else k - 6
theorem sl3_0 : sl3 0 = 20 := rfl
theorem sl3_1 : sl3 1 = 21 := rfl
theorem sl3_2 : sl3 2 = 22 := rfl
theorem sl3_3 : sl3 3 = 23 := rfl
theorem sl3_4 : sl3 4 = 24 := rfl
theorem sl3_5 : sl3 5 = 25 := rfl
theorem sl3_6 : sl3 6 = 26 := rfl
theorem sl3_7 : sl3 7 = 27 := rfl
theorem sl3_8 : sl3 8 = 28 := rfl
theorem sl3_9 : sl3 9 = 19 := rfl
theorem sl3_10 : sl3 10 = 29 := rfl
theorem sl3_11 : sl3 11 = 30 := rfl
theorem sl3_12 : sl3 12 = 31 := rfl
theorem sl3_13 : sl3 13 = 7 := rfl
theorem sl3_14 : sl3 14 = 8 := rfl
theorem sl3_lt : ∀ k, k < 15 → sl3 k < 33 := by decide
def RU3 (num two n2 : Value) (N : Nat) (k : Nat) (u : Value) (w : World) : Prop :=
  match k with
  | 0 => u = n2
  | 1 => u = .agg #[.bool false, num, .slice none 0 0]
  | 2 => LimbAt w u 1
  | 3 => LimbAt w u (2 * N + 1)
  | 4 => u = .agg #[.bool false, num, .slice none 0 0]
  | 5 => LimbAt w u 1
  | 6 => u = two
  | 7 => LimbAt w u 2
  | 8 => ∃ q r, u = .tuple #[q, r, .bool true] ∧ LimbAt w q N
  | 9 => ∃ q r, u = .tuple #[q, r, .bool true] ∧ LimbAt w q N
  | 10 => LimbAt w u N
  | 13 => LimbAt w u N
  | _ => True
theorem RU3.below {N : Nat} {num two n2 : Value} {w w' : World} (hb : Below w.heap.size w w') : ∀ k u, RU3 num two n2 N k u w → RU3 num two n2 N k u w' := by
  intro k u h
  match k, h with
  | 0, h => exact h
  | 1, h => exact h
  | 2, h => exact LimbAt.below h hb
  | 3, h => exact LimbAt.below h hb
  | 4, h => exact h
  | 5, h => exact LimbAt.below h hb
  | 6, h => exact h
  | 7, h => exact LimbAt.below h hb
  | 8, h =>
    obtain ⟨q, r, e, hq⟩ := h
    exact ⟨q, r, e, hq.below hb⟩
  | 9, h =>
    obtain ⟨q, r, e, hq⟩ := h
    exact ⟨q, r, e, hq.below hb⟩
  | 10, h => exact LimbAt.below h hb
  | 11, h => exact h
  | 12, h => exact h
  | 13, h => exact LimbAt.below h hb
  | _ + 14, h => exact h
def UnitsPost (N : Nat) (w : World) (e : Ending) (w' : World) : Prop := ∃ v, e = .returned v ∧ LimbAt w' v N ∧ Below w.heap.size w w'
set_option maxRecDepth 100000 in
set_option maxHeartbeats 6400000 in
theorem runits (num : Value) (N : Nat) (w : World) (hv : LimbAt w num N) (h1 : 1 ≤ N) (h9 : N ≤ 9) :
    Calls Tryz.prog 137 #[.agg #[.bool false, num, .slice none 0 0], .int .i64 0] w (UnitsPost N w) := by
  rcases hv with ⟨h, _⟩ | ⟨_, b, c, rfl, hc, hb, hx⟩
  · omega
  have X := Box.new w [.bool false, .slice (some ⟨b, 0, none⟩) 1 c, .slice none 0 0] 36
  have Y := Box.new (w.alloc (.cells #[.bool false, .slice (some ⟨b, 0, none⟩) 1 c, .slice none 0 0] 36)) [.int .u32 2] 129
  have HBX0 := Lib.hid (X.step Y.bl)
  have HNUM0 : Hid (LimbAt w (.slice (some ⟨b, 0, none⟩) 1 c) N) := Lib.hid (Or.inr ⟨by omega, b, c, rfl, hc, hb, hx⟩)
  have HTWO0 := Lib.hid (limb_new (w.alloc (.cells #[.bool false, .slice (some ⟨b, 0, none⟩) 1 c, .slice none 0 0] 36)) 2 (by decide) 129)
  clear X Y hx
  go_enter Tryz.func137, Tryz.ntmps137
  go_upto_region 2 with fail
  obtain ⟨W0, hW0⟩ : ∃ W, W = (w.alloc (.cells #[.bool false, .slice (some ⟨b, 0, none⟩) 1 c, .slice none 0 0] 36)).alloc (.cells #[.int .u32 2] 129) := ⟨_, rfl⟩
  have HBX : Hid (Box w.heap.size w [.bool false, .slice (some ⟨b, 0, none⟩) 1 c, .slice none 0 0] W0) := Lib.hid (by rw [hW0]; exact HBX0.out)
  have HTWO : Hid (LimbAt W0 (.slice (some ⟨w.heap.size + 1, 0, none⟩) 1 1) 2) := Lib.hid (by have h := HTWO0.out; rw [World.size_alloc] at h; rw [hW0]; exact h)
  have HNUM := Lib.hid (HNUM0.out.below HBX.out.bl)
  rw [← hW0]
  clear hW0 HBX0 HTWO0
  refine wp_region_inv 8 (fun a0 _ => IV 11 8 (RU2 w.heap.size (.slice (some ⟨b, 0, none⟩) 1 c) (.slice (some ⟨w.heap.size + 1, 0, none⟩) 1 1) N) (fun _ wy => Below W0.heap.size W0 wy) a0) (by kernel_rfl) (by decide) (by kernel_rfl) (by kernel_rfl) (by kernel_rfl) (by kernel_rfl) (by kernel_rfl) (IV.start ((Below.refl _ _).drew)) ?_ ?_
  · refine And.intro ?_ (And.intro ?_ (And.intro ?_ (And.intro ?_ (And.intro ?_ (And.intro ?_ (And.intro ?_ (And.intro ?_ trivial)))))))
    · intro listed a wy hI hu hd
      have f2 : (a.tmps[2]?).getD undef = .pointer (some ⟨w.heap.size, 0, none⟩) := hI.slot 2 (by decide)
      refine keep_op fun K hK => ?_
      clear hd
      have hI := Lib.hid hI
      go_simp
      exact hK _ _ (hI.out.put 0 (by decide) (Nat.le_of_ble_eq_true rfl) _ hI.out.world (fun _ _ h => h) rfl)
    · intro listed a wy hI hu hd
      have d0 : listed.getD 0 false = true := hd ⟨0, .data⟩ (by simp) rfl
      have e0 : (a.tmps[11]?).getD undef = .pointer (some ⟨w.heap.size, 1, none⟩) := hI.val 0 (by decide) d0 11 rfl
      have c1 : wy.cell? ⟨w.heap.size, 1, none⟩ = some (.slice (some ⟨b, 0, none⟩) 1 c) := (HBX.out.step hI.world).c 1 _ rfl
      have hz := (HBX.out.step hI.world).sz
      refine keep_op fun K hK => ?_
      clear hd
      have hI := Lib.hid hI
      go_simp
      exact hK _ _ (hI.out.put 1 (by decide) (Nat.le_of_ble_eq_true rfl) _ hI.out.world (fun _ _ h => h) rfl)
    · intro listed a wy hI hu hd
      have hbw := Lib.hid hI.world
      refine keep_op fun K hK => ?_
      clear hd
      have hI := Lib.hid hI
      go_simp
      exact hK _ _ (hI.out.put 2 (by decide) (Nat.le_of_ble_eq_true rfl) _ (chainAlloc hI.out.world _) (RU2.below (chainAlloc (Below.refl _ _) _)) (limb_new wy 10 (by decide) _))
    · intro listed a wy hI hu hd
      have f1 : (a.tmps[1]?).getD undef = .int .i64 0 := hI.slot 1 (by decide)
      refine keep_op fun K hK => ?_
      clear hd
      have hI := Lib.hid hI
      go_simp
      exact hK _ _ (hI.out.put 3 (by decide) (Nat.le_of_ble_eq_true rfl) _ hI.out.world (fun _ _ h => h) rfl)
    · intro listed a wy hI hu hd
      have d2 : listed.getD 2 false = true := hd ⟨2, .data⟩ (by simp) rfl
      have d3 : listed.getD 3 false = true := hd ⟨3, .data⟩ (by simp) rfl
      have e3 : (a.tmps[14]?).getD undef = .int .i64 0 := hI.val 3 (by decide) d3 14 rfl
      have v2 : LimbAt wy ((a.tmps[13]?).getD undef) 10 := hI.val 2 (by decide) d2 13 rfl
      have V2 := Lib.hid v2
      clear v2
      refine keep_op fun K hK => ?_
      clear hd
      have hI := Lib.hid hI
      go_simp
      refine (raise_0 _ 10 _ V2.out).mono ?_
      rintro e w9 ⟨r, rfl, hf, hb9⟩
      exact hK _ _ (hI.out.put 4 (by decide) (Nat.le_of_ble_eq_true rfl) _ (chain0 hI.out.world hb9) (RU2.below hb9) hf.limb)
    · intro listed a wy hI hu hd
      have d1 : listed.getD 1 false = true := hd ⟨1, .data⟩ (by simp) rfl
      have d4 : listed.getD 4 false = true := hd ⟨4, .data⟩ (by simp) rfl
      have e1 : (a.tmps[12]?).getD undef = (.slice (some ⟨b, 0, none⟩) 1 c) := hI.val 1 (by decide) d1 12 rfl
      have v4 : LimbAt wy ((a.tmps[15]?).getD undef) 1 := hI.val 4 (by decide) d4 15 rfl
      have V4 := Lib.hid v4
      have VN := Lib.hid (HNUM.out.below hI.world)
      clear v4
      refine keep_op fun K hK => ?_
      clear hd
      have hI := Lib.hid hI
      go_simp
      refine (rmul_1 _ _ N 1 N _ VN.out V4.out (by omega) (by omega) (by omega) (by omega)).mono ?_
      rintro e w9 ⟨r, rfl, hf, hb9⟩
      exact hK _ _ (hI.out.put 5 (by decide) (Nat.le_of_ble_eq_true rfl) _ (chain0 hI.out.world hb9) (RU2.below hb9) hf.limb)
    · intro listed a wy hI hu hd
      have f5 : (a.tmps[5]?).getD undef = (.slice (some ⟨w.heap.size + 1, 0, none⟩) 1 1) := hI.slot 5 (by decide)
      refine keep_op fun K hK => ?_
      clear hd
      have hI := Lib.hid hI
      go_simp
      exact hK _ _ (hI.out.put 6 (by decide) (Nat.le_of_ble_eq_true rfl) _ hI.out.world (fun _ _ h => h) rfl)
    · intro listed a wy hI hu hd
      have d5 : listed.getD 5 false = true := hd ⟨5, .data⟩ (by simp) rfl
      have d6 : listed.getD 6 false = true := hd ⟨6, .data⟩ (by simp) rfl
      have e6 : (a.tmps[17]?).getD undef = (.slice (some ⟨w.heap.size + 1, 0, none⟩) 1 1) := hI.val 6 (by decide) d6 17 rfl
      have v5 : LimbAt wy ((a.tmps[16]?).getD undef) N := hI.val 5 (by decide) d5 16 rfl
      have V5 := Lib.hid v5
      have VT := Lib.hid (HTWO.out.below hI.world)
      clear v5
      refine keep_op fun K hK => ?_
      clear hd
      have hI := Lib.hid hI
      go_simp
      refine (rmul_1 _ _ N 2 (2 * N) _ V5.out VT.out (by omega) (by omega) (by omega) (by omega)).mono ?_
      rintro e w9 ⟨r, rfl, hf, hb9⟩
      exact hK _ _ (hI.out.put 7 (by decide) (Nat.le_of_ble_eq_true rfl) _ (chain0 hI.out.world hb9) (RU2.below hb9) hf.limb)
  · intro listed a wy hI hl
    have HBY := Lib.hid (HBX.out.step hI.world)
    have HTY := Lib.hid (HTWO.out.below hI.world)
    obtain ⟨u, rfl, hu⟩ := IV.fin hI (Nat.le_of_ble_eq_true rfl) hl
    have HN2 : Hid (LimbAt wy (u 7) (2 * N)) := Lib.hid (hu 7 (by decide))
    clear hI hl hu
    simp only [putN, Act.put, Nat.reduceAdd, List.setIfInBounds_toArray, List.set_cons_succ, List.set_cons_zero, List.drop_succ_cons, List.drop_zero]
    generalize u 0 = u0 at *; generalize u 1 = u1 at *; generalize u 2 = u2 at *; generalize u 3 = u3 at *; generalize u 4 = u4 at *; generalize u 5 = u5 at *; generalize u 6 = u6 at *; generalize u 7 = n2 at *
    obtain ⟨Wn, rfl⟩ : ∃ W, W = wy := ⟨_, rfl⟩
    go_upto_region 3 with fail
    refine wp_region_inv 15 (fun a0 _ => IVs sl3 15 (RU3 (.slice (some ⟨b, 0, none⟩) 1 c) (.slice (some ⟨w.heap.size + 1, 0, none⟩) 1 1) n2 N) (fun _ wy => Below Wn.heap.size Wn wy) a0) (by kernel_rfl) (by decide) (by kernel_rfl) (by kernel_rfl) (by kernel_rfl) (by kernel_rfl) (by kernel_rfl) (IVs.start ((Below.refl _ _).drew)) ?_ ?_
    · refine And.intro ?_ (And.intro ?_ (And.intro ?_ (And.intro ?_ (And.intro ?_ (And.intro ?_ (And.intro ?_ (And.intro ?_ (And.intro ?_ (And.intro ?_ (And.intro ?_ (And.intro ?_ (And.intro ?_ (And.intro ?_ (And.intro ?_ trivial))))))))))))))
      · intro listed a wy hI hu hd
        have f6 : (a.tmps[6]?).getD undef = n2 := hI.slot 6 (by decide)
        refine keep_op fun K hK => ?_
        clear hd
        have hI := Lib.hid hI
        go_simp
        exact hK _ _ (hI.out.put 0 (by decide) (by decide) (Nat.le_of_ble_eq_true rfl) _ hI.out.world (fun _ _ h => h) rfl)
      · intro listed a wy hI hu hd
        have f2 : (a.tmps[2]?).getD undef = .pointer (some ⟨w.heap.size, 0, none⟩) := hI.slot 2 (by decide)
        have hX := HBY.out.step hI.world
        have c0 : wy.cell? ⟨w.heap.size, 0, none⟩ = some (.bool false) := hX.c 0 _ rfl
        have c1 : wy.cell? ⟨w.heap.size, 1, none⟩ = some (.slice (some ⟨b, 0, none⟩) 1 c) := hX.c 1 _ rfl
        have c2 : wy.cell? ⟨w.heap.size, 2, none⟩ = some (.slice none 0 0) := hX.c 2 _ rfl
        have hz := hX.sz
        clear hX
        refine keep_op fun K hK => ?_
        clear hd
        have hI := Lib.hid hI
        go_simp
        exact hK _ _ (hI.out.put 1 (by decide) (by decide) (Nat.le_of_ble_eq_true rfl) _ hI.out.world (fun _ _ h => h) rfl)
      · intro listed a wy hI hu hd
        have d1 : listed.getD 1 false = true := hd ⟨1, .data⟩ (by simp) rfl
        have e1 : (a.tmps[21]?).getD undef = .agg #[.bool false, .slice (some ⟨b, 0, none⟩) 1 c, .slice none 0 0] := hI.val 1 (by decide) d1 21 rfl
        refine keep_op fun K hK => ?_
        clear hd
        have hI := Lib.hid hI
        go_simp
        refine (rden_nil _ _ _ _).mono ?_
        rintro e w9 ⟨r, rfl, hf, hb9⟩
        exact hK _ _ (hI.out.put 2 (by decide) (by decide) (Nat.le_of_ble_eq_true rfl) _ (chain0 hI.out.world hb9) (RU3.below hb9) hf.limb)
      · intro listed a wy hI hu hd
        have d0 : listed.getD 0 false = true := hd ⟨0, .data⟩ (by simp) rfl
        have d2 : listed.getD 2 false = true := hd ⟨2, .data⟩ (by simp) rfl
        have e0 : (a.tmps[20]?).getD undef = n2 := hI.val 0 (by decide) d0 20 rfl
        have v2 : LimbAt wy ((a.tmps[22]?).getD undef) 1 := hI.val 2 (by decide) d2 22 rfl
        have V2 := Lib.hid v2
        have VN := Lib.hid (HN2.out.below hI.world)
        clear v2
        refine keep_op fun K hK => ?_
        clear hd
        have hI := Lib.hid hI
        go_simp
        refine (radd_1 _ _ (2 * N) 1 (2 * N + 1) _ VN.out V2.out (by omega) (by omega) (by omega) (by omega)).mono ?_
        rintro e w9 ⟨r, rfl, hf, hb9⟩
        exact hK _ _ (hI.out.put 3 (by decide) (by decide) (Nat.le_of_ble_eq_true rfl) _ (chain0 hI.out.world hb9) (RU3.below hb9) hf.limb)
      · intro listed a wy hI hu hd
        have f2 : (a.tmps[2]?).getD undef = .pointer (some ⟨w.heap.size, 0, none⟩) := hI.slot 2 (by decide)
        have hX := HBY.out.step hI.world
        have c0 : wy.cell? ⟨w.heap.size, 0, none⟩ = some (.bool false) := hX.c 0 _ rfl
        have c1 : wy.cell? ⟨w.heap.size, 1, none⟩ = some (.slice (some ⟨b, 0, none⟩) 1 c) := hX.c 1 _ rfl
        have c2 : wy.cell? ⟨w.heap.size, 2, none⟩ = some (.slice none 0 0) := hX.c 2 _ rfl
        have hz := hX.sz
        clear hX
        refine keep_op fun K hK => ?_
        clear hd
        have hI := Lib.hid hI
        go_simp
        exact hK _ _ (hI.out.put 4 (by decide) (by decide) (Nat.le_of_ble_eq_true rfl) _ hI.out.world (fun _ _ h => h) rfl)
      · intro listed a wy hI hu hd
        have d4 : listed.getD 4 false = true := hd ⟨4, .data⟩ (by simp) rfl
        have e4 : (a.tmps[24]?).getD undef = .agg #[.bool false, .slice (some ⟨b, 0, none⟩) 1 c, .slice none 0 0] := hI.val 4 (by decide) d4 24 rfl
        refine keep_op fun K hK => ?_
        clear hd
        have hI := Lib.hid hI
        go_simp
        refine (rden_nil _ _ _ _).mono ?_
        rintro e w9 ⟨r, rfl, hf, hb9⟩
        exact hK _ _ (hI.out.put 5 (by decide) (by decide) (Nat.le_of_ble_eq_true rfl) _ (chain0 hI.out.world hb9) (RU3.below hb9) hf.limb)
      · intro listed a wy hI hu hd
        have f5 : (a.tmps[5]?).getD undef = (.slice (some ⟨w.heap.size + 1, 0, none⟩) 1 1) := hI.slot 5 (by decide)
        refine keep_op fun K hK => ?_
        clear hd
        have hI := Lib.hid hI
        go_simp
        exact hK _ _ (hI.out.put 6 (by decide) (by decide) (Nat.le_of_ble_eq_true rfl) _ hI.out.world (fun _ _ h => h) rfl)
      · intro listed a wy hI hu hd
        have d5 : listed.getD 5 false = true := hd ⟨5, .data⟩ (by simp) rfl
        have d6 : listed.getD 6 false = true := hd ⟨6, .data⟩ (by simp) rfl
        have e6 : (a.tmps[26]?).getD undef = (.slice (some ⟨w.heap.size + 1, 0, none⟩) 1 1) := hI.val 6 (by decide) d6 26 rfl
        have v5 : LimbAt wy ((a.tmps[25]?).getD undef) 1 := hI.val 5 (by decide) d5 25 rfl
        have V5 := Lib.hid v5
        have VT := Lib.hid (HTY.out.below hI.world)
        clear v5
        refine keep_op fun K hK => ?_
        clear hd
        have hI := Lib.hid hI
        go_simp
        refine (rmul_1 _ _ 1 2 2 _ V5.out VT.out (by omega) (by omega) (by omega) (by omega)).mono ?_
        rintro e w9 ⟨r, rfl, hf, hb9⟩
        exact hK _ _ (hI.out.put 7 (by decide) (by decide) (Nat.le_of_ble_eq_true rfl) _ (chain0 hI.out.world hb9) (RU3.below hb9) hf.limb)
      · intro listed a wy hI hu hd
        have d3 : listed.getD 3 false = true := hd ⟨3, .data⟩ (by simp) rfl
        have d7 : listed.getD 7 false = true := hd ⟨7, .data⟩ (by simp) rfl
        have v3 : LimbAt wy ((a.tmps[23]?).getD undef) (2 * N + 1) := hI.val 3 (by decide) d3 23 rfl
        have v7 : LimbAt wy ((a.tmps[27]?).getD undef) 2 := hI.val 7 (by decide) d7 27 rfl
        have V3 := Lib.hid v3
        have V7 := Lib.hid v7
        clear v3 v7
        refine keep_op fun K hK => ?_
        clear hd
        have hI := Lib.hid hI
        go_simp
        refine (rdivide_ge _ _ (2 * N + 1) 2 _ V3.out V7.out (by omega) (by omega) (by omega) (by omega)).mono ?_
        rintro e w9 ⟨q, r, rfl, hq, hb9⟩
        rw [show (2 * N + 1) / 2 = N by omega] at hq
        exact hK _ _ (hI.out.put 8 (by decide) (by decide) (Nat.le_of_ble_eq_true rfl) _ (chain0 hI.out.world hb9) (RU3.below hb9) ⟨q, r, rfl, hq⟩)
      · intro listed a wy hI hu hd
        have d8 : listed.getD 8 false = true := hd ⟨8, .data⟩ (by simp) rfl
        obtain ⟨q, r, e8, hq⟩ := hI.val 8 (by decide) d8 28 rfl
        have HQ := Lib.hid hq
        clear hq
        refine keep_op fun K hK => ?_
        clear hd
        have hI := Lib.hid hI
        go_simp
        exact hK _ _ (hI.out.put 9 (by decide) (by decide) (Nat.le_of_ble_eq_true rfl) _ hI.out.world (fun _ _ h => h) ⟨q, r, rfl, HQ.out⟩)
      · intro listed a wy hI hu hd
        have d9 : listed.getD 9 false = true := hd ⟨9, .data⟩ (by simp) rfl
        obtain ⟨q, r, e8, hq⟩ := hI.val 9 (by decide) d9 19 rfl
        have HQ := Lib.hid hq
        clear hq
        refine keep_op fun K hK => ?_
        clear hd
        have hI := Lib.hid hI
        go_simp
        exact hK _ _ (hI.out.put 10 (by decide) (by decide) (Nat.le_of_ble_eq_true rfl) _ hI.out.world (fun _ _ h => h) HQ.out)
      · intro listed a wy hI hu hd
        have d9 : listed.getD 9 false = true := hd ⟨9, .data⟩ (by simp) rfl
        obtain ⟨q, r, e8, hq⟩ := hI.val 9 (by decide) d9 19 rfl
        have HQ := Lib.hid hq
        clear hq
        refine keep_op fun K hK => ?_
        clear hd
        have hI := Lib.hid hI
        go_simp
        exact hK _ _ (hI.out.put 11 (by decide) (by decide) (Nat.le_of_ble_eq_true rfl) _ hI.out.world (fun _ _ h => h) trivial)
      · intro listed a wy hI hu hd
        have d9 : listed.getD 9 false = true := hd ⟨9, .data⟩ (by simp) rfl
        obtain ⟨q, r, e8, hq⟩ := hI.val 9 (by decide) d9 19 rfl
        have HQ := Lib.hid hq
        clear hq
        refine keep_op fun K hK => ?_
        clear hd
        have hI := Lib.hid hI
        go_simp
        exact hK _ _ (hI.out.put 12 (by decide) (by decide) (Nat.le_of_ble_eq_true rfl) _ hI.out.world (fun _ _ h => h) trivial)
      · intro listed a wy hI hu hd
        have d10 : listed.getD 10 false = true := hd ⟨10, .data⟩ (by simp) rfl
        have v10 : LimbAt wy ((a.tmps[29]?).getD undef) N := hI.val 10 (by decide) d10 29 rfl
        have V10 := Lib.hid v10
        clear v10
        refine keep_op fun K hK => ?_
        clear hd
        have hI := Lib.hid hI
        go_simp
        exact hK _ _ (hI.out.put 13 (by decide) (by decide) (Nat.le_of_ble_eq_true rfl) _ hI.out.world (fun _ _ h => h) V10.out)
      · intro listed a wy hI hu hd
        refine keep_op fun K hK => ?_
        clear hd
        have hI := Lib.hid hI
        go_simp
        exact hK _ _ (hI.out.put 14 (by decide) (by decide) (Nat.le_of_ble_eq_true rfl) _ hI.out.world (fun _ _ h => h) trivial)
    · intro listed a wy hI hl
      have HBZ := Lib.hid (HBY.out.step hI.world)
      obtain ⟨u, rfl, hu⟩ := IVs.fin hI (fun k hk => Nat.lt_of_lt_of_le (sl3_lt k hk) (Nat.le_of_ble_eq_true rfl)) (by decide) hl
      have HP : Hid (UnitsPost N w (.returned (u 13)) wy) := Lib.hid ⟨u 13, rfl, hu 13 (by decide), HBZ.out.bl⟩
      clear hI hl hu
      simp only [putS, sl3_0, sl3_1, sl3_2, sl3_3, sl3_4, sl3_5, sl3_6, sl3_7, sl3_8, sl3_9, sl3_10, sl3_11, sl3_12, sl3_13, sl3_14, Act.put, List.setIfInBounds_toArray, List.set_cons_succ, List.set_cons_zero, List.drop_succ_cons, List.drop_zero]
      generalize u 0 = u0 at *; generalize u 1 = u1 at *; generalize u 2 = u2 at *; generalize u 3 = u3 at *; generalize u 4 = u4 at *; generalize u 5 = u5 at *; generalize u 6 = u6 at *; generalize u 7 = u7 at *; generalize u 8 = u8 at *; generalize u 9 = u9 at *; generalize u 10 = u10 at *; generalize u 11 = u11 at *; generalize u 12 = u12 at *; generalize u 13 = u13 at *; generalize u 14 = u14 at *
      go_wp2_with fail
      go_ret
      exact HP.out
end Go.Proofs.YtenjefbplpbjaaaGreatDoor
namespace Go.Proofs.YtenjefbplpbjaaaGreatDoor
open Go.RowKit Go.Sort Cal Go.Maps
theorem info_u8 : (Tryz.prog.info? 5).map (fun i => (i.zero, i.size, i.bytes)) = some (some (.int .u8 0), 1, 1) := by kernel_rfl
set_option maxRecDepth 100000 in
set_option maxHeartbeats 3200000 in
theorem rfmt01 (v : Value) (N : Nat) (w : World) (hv : LimbAt w v N) (h1 : 1 ≤ N) (h9 : N ≤ 9) :
    Calls Tryz.prog 163 #[v] w fun e w' => e = .returned (.string (dg1 N)) ∧ Below w.heap.size w w' := by
  obtain ⟨i0, hi0, hz0, hz1, hz2⟩ := info_parts info_u8
  have HV := Lib.hid hv.raw
  clear hv
  go_enter Tryz.func163, Tryz.ntmps163
  go_wp2_with fail
  refine (trim_raw _ N _ HV.out).mono ?_
  rintro e w1 ⟨r, rfl, hf, hb1⟩
  have HL := Lib.hid hf.limb
  have HB1 := Lib.hid hb1
  obtain ⟨b, c, rfl, hc, hbs, hlt, hk⟩ := hf.form
  have HLN : Hid (limN N = 1) := Lib.hid (by unfold limN; rw [if_neg (by omega)])
  clear hf hb1 hk
  go_wp2_with fail
  rw [HLN.out]
  have hmk : ∀ w : World, (Instr.makeSlice 45 (.int .i64 1) (.int .i64 1)).run Tryz.prog w = .ok (.slice (some ⟨w.heap.size, 0, none⟩) 1 1) (w.alloc (.cells (madeCells #[.int .u8 0] 1) 5)) := fun w => run_make_row' (P := Tryz.prog) 45 5 (.int .u8 0) 1 Tryz.underlying45 info_u8 rfl .i64 .i64 1 (by omega) (by omega) w
  have HMK := Lib.hid hmk
  clear hmk
  go_loopw [0, 3] (fun a o wx => (a = .slice (some ⟨b, 0, none⟩) 1 c ∧ o = .slice none 0 0 ∧ LimbAt wx (.slice (some ⟨b, 0, none⟩) 1 c) N ∧ Below w.heap.size w wx) ∨ (∃ p c', a = .slice p 0 c' ∧ wx.ownsRow w.heap.size 5 1 o 1 [.int .u8 (48 + (N : Int))] ∧ Below w.heap.size w wx)) (fun a _ _ => match a with | .slice _ n _ => n | _ => 0)
  case atStart => exact Or.inl ⟨rfl, rfl, by have := HL.out; rwa [HLN.out] at this, HB1.out⟩
  case round =>
    rcases hrel with ⟨rfl, rfl, hl, hB⟩ | ⟨p, c', rfl, hown, hB⟩
    · have HL2 := Lib.hid hl
      have HB := Lib.hid hB
      clear hl hB
      go_wp2_with fail
      refine (short_at _ N 10 _ HL2.out (by omega) (by omega) (by omega)).mono ?_
      rintro e w2 ⟨q, rfl, hf, hb2⟩
      obtain ⟨b2, c2, rfl, _, _, _, _⟩ := hf.form
      have e1 : N % 10 = N := Nat.mod_eq_of_lt (by omega)
      have e2 : limN (N / 10) = 0 := by rw [Nat.div_eq_of_lt (by omega)]; rfl
      rw [e1, e2]
      have HB2 := Lib.hid (chain0 HB.out hb2)
      have hs2 := HB2.out.size
      clear hf hb2 e1 e2
      go_wp2_with (first
        | (at_builtin; refine wpList_append_own _ rfl _ _ 45 rfl w.heap.size 5 i0 (.int .u8 0) 1 1 Tryz.underlying45 hi0 hz0 hz1 hz2 rfl (by decide) _ _ _ rfl (World.ownsRow_nil _ _ _ _) ⟨w2.heap.size, 0, none⟩ 1 1 [.int .u8 (48 + (N : Int))] rfl rfl (cell_one_new _ _ _) (by simp [Value.oneCell']) (by unfold maxLen; omega) (by omega) (by simp; omega) ?_)
        | fail)
      intro v' w3 hown3 hgrow _
      have HO3 : Hid (w3.ownsRow w.heap.size 5 1 v' 1 [.int .u8 (48 + (N : Int))]) := Lib.hid hown3
      have HB3 : Hid (Below w.heap.size w w3) := Lib.hid ((HB2.out.alloc hs2 _).grown hgrow (by simp; omega) (fun j hj => by simp [Value.ownBlock] at hj))
      clear hown3 hgrow
      go_wp2_with fail
      go_roundw
      case rel => exact Or.inr ⟨_, _, rfl, HO3.out, HB3.out⟩
      case measure => simp
    · obtain ⟨gg, cap, rfl, _, hlo⟩ := World.ownsRow.form hown (by omega)
      have f0 : wr.cell? ⟨gg, 0, none⟩ = some (.int .u8 (48 + (N : Int))) := (own_cell hown).1 0 _ rfl
      have HB := Lib.hid hB
      have HX := Lib.hid (Box.new wr [.int .u8 0] 5)
      have hmk := HMK.out
      have hm1 : madeCells #[Value.int .u8 0] 1 = #[.int .u8 0] := by kernel_rfl
      have hs := hB.size
      clear hown hB
      go_wp2_with fail
      clear hmk hm1
      obtain ⟨wo, rfl⟩ : ∃ wo : World, wo = wr := ⟨_, rfl⟩
      have hne : gg ≠ wo.heap.size := by omega
      go_loopw [33] (fun i wx => (i = .int .i64 0 ∧ wx = wo.alloc (.cells #[.int .u8 0] 5)) ∨ (i = .int .i64 1 ∧ wx.cell? ⟨wo.heap.size, 0, none⟩ = some (.int .u8 (48 + (N : Int))) ∧ Below w.heap.size w wx)) (fun i _ => 1 - (intOf i).toNat)
      case atStart => exact Or.inl ⟨rfl, rfl⟩
      case round =>
        rcases hrel with ⟨rfl, rfl⟩ | ⟨rfl, hcell, hB⟩
        · have HW : Hid (((wo.alloc (.cells #[.int .u8 0] 5)).setCell ⟨wo.heap.size, 0, none⟩ (.int .u8 (48 + (N : Int)))).cell? ⟨wo.heap.size, 0, none⟩ = some (.int .u8 (48 + (N : Int))) ∧ Below w.heap.size w ((wo.alloc (.cells #[.int .u8 0] 5)).setCell ⟨wo.heap.size, 0, none⟩ (.int .u8 (48 + (N : Int))))) := Lib.hid (by
            have hb0 : (wo.alloc (.cells #[.int .u8 0] 5)).heap[wo.heap.size]? = some (.cells #[.int .u8 0] 5 (0, 0)) := by
              show (Array.push wo.heap _)[_]? = _
              rw [Array.getElem?_push, if_pos rfl]
            have h := set_blk hb0 0 (.int .u8 (48 + (N : Int)))
            exact ⟨cell_blk h 0 _ (by simp), (HB.out.alloc HB.out.size _).setCell (p := ⟨wo.heap.size, 0, none⟩) HB.out.size _⟩)
          have HW2 : Hid ((wo.alloc (.cells #[.int .u8 (48 + (N : Int))] 5)).cell? ⟨wo.heap.size, 0, none⟩ = some (.int .u8 (48 + (N : Int))) ∧ Below w.heap.size w (wo.alloc (.cells #[.int .u8 (48 + (N : Int))] 5))) := Lib.hid ⟨(Box.new wo [.int .u8 (48 + (N : Int))] 5).c 0 _ rfl, HB.out.alloc HB.out.size _⟩
          go_wp2_with fail
          go_roundw
          case rel => first | exact Or.inr ⟨by first | rfl | go_num, HW.out.1, HW.out.2⟩ | exact Or.inr ⟨by first | rfl | go_num, HW2.out.1, HW2.out.2⟩
          case measure => simp [intOf]
        · have HB2 := Lib.hid hB
          have hconv : (convert 45 9 (.slice (some ⟨wo.heap.size, 0, none⟩) 1 1)).run Tryz.prog wr = .ok (.string (dg1 N)) wr := by
            have h := Lib.run_convert_whole (P := Tryz.prog) wr 45 5 9 Tryz.underlying45 Tryz.underlying5 Tryz.underlying9 wo.heap.size 0 (dg1 N) (by
              intro i hi
              have a := ofNat_toNat N (by omega)
              obtain rfl : i = 0 := by rw [dg1_size] at hi; omega
              have e : ((dg1 N)[0]).toNat = 48 + N := a
              rw [e]; simpa using hcell) 1
            rw [dg1_size] at h
            exact h
          clear hB
          go_wp2_with fail
          go_ret
          exact ⟨rfl, HB2.out⟩
theorem num_fin {w0 w : World} (hz : w.heap[w0.heap.size]? = some (.cells #[.bool false, .slice none 0 0, .slice none 0 0] 36 (0, 0))) (hb : Below w0.heap.size w0 w) (v1 v2 : Value) :
    ∀ wf, wf = (((w.setCell ⟨w0.heap.size, 0, none⟩ (.bool false)).setCell ⟨w0.heap.size, 1, none⟩ v1).setCell ⟨w0.heap.size, 2, none⟩ v2) →
      wf.heap[w0.heap.size]? = some (.cells #[.bool false, v1, v2] 36 (0, 0)) ∧ Below w0.heap.size w0 wf ∧ Touch w0.heap.size w wf := by
  intro wf hwf
  have hk := set_blk (set_blk (set_blk hz 0 (.bool false)) 1 v1) 2 v2
  have hb' := (((hb.setCell (p := ⟨w0.heap.size, 0, none⟩) (Nat.le_refl _) (.bool false)).setCell (p := ⟨w0.heap.size, 1, none⟩) (Nat.le_refl _) v1).setCell (p := ⟨w0.heap.size, 2, none⟩) (Nat.le_refl _) v2)
  have ht := ((((Touch.refl w0.heap.size w).set 0 (.bool false)).set 1 v1).set 2 v2)
  rw [← hwf] at hk hb' ht
  exact ⟨hk, hb', ht⟩
def NumPost (N : Nat) (w : World) (e : Ending) (w' : World) : Prop := ∃ v, e = .returned (.agg #[.bool false, v, .slice none 0 0]) ∧ LimbAt w' v N ∧ Below w.heap.size w w'
set_option maxRecDepth 100000 in
set_option maxHeartbeats 1600000 in
theorem rfromInt (N : Nat) (w : World) (h1 : 1 ≤ N) (h9 : N ≤ 9) : Calls Tryz.prog 102 #[.int .i64 N] w (NumPost N w) := by
  have hz0 : (w.alloc (.cells #[.bool false, .slice none 0 0, .slice none 0 0] 36)).heap[w.heap.size]? = some (.cells #[.bool false, .slice none 0 0, .slice none 0 0] 36 (0, 0)) := by
    show (Array.push w.heap _)[_]? = _
    rw [Array.getElem?_push, if_pos rfl]
  have HX := Lib.hid (Box.new w [.bool false, .slice none 0 0, .slice none 0 0] 36)
  have HZ0 := Lib.hid hz0
  have hn1 : decide ((N : Int) < 0) = false := by simp
  clear hz0
  go_enter Tryz.func102, Tryz.ntmps102
  go_wp2_with fail
  refine (whole_at N _ (by omega)).mono ?_
  rintro e w1 ⟨a, rfl, ha, hb1⟩
  obtain ⟨b, c, rfl, hc, hbs, hlt, hk⟩ := ha.form
  have hk := (hk (by omega)).1
  have HLN : Hid (limN N = 1) := Lib.hid (by unfold limN; rw [if_neg (by omega)])
  have hz1 := (hb1.block _ HX.out.sz).trans HZ0.out
  have HZ1 := Lib.hid hz1
  have HB1 := Lib.hid (chain0 HX.out.bl hb1)
  have hsz := (Array.getElem?_eq_some_iff.1 hz1).1
  have hbne : b ≠ w.heap.size := by have := HX.out.sz; simp at hbs; omega
  have z0 : w1.cell? ⟨w.heap.size, 0, none⟩ = some (.bool false) := cell_blk hz1 0 _ rfl
  have z1 : w1.cell? ⟨w.heap.size, 1, none⟩ = some (.slice none 0 0) := cell_blk hz1 1 _ rfl
  have z2 : w1.cell? ⟨w.heap.size, 2, none⟩ = some (.slice none 0 0) := cell_blk hz1 2 _ rfl
  have y0 : w1.frozen? ⟨w.heap.size, 0, none⟩ = false := free_blk hz1 0
  have y1 : w1.frozen? ⟨w.heap.size, 1, none⟩ = false := free_blk hz1 1
  have y2 : w1.frozen? ⟨w.heap.size, 2, none⟩ = false := free_blk hz1 2
  rw [HLN.out]
  have HK := Lib.hid hk
  have HC : Hid (1 ≤ c) := Lib.hid (by rw [HLN.out] at hc; exact hc)
  clear hb1 hz1 ha hk hc hbs
  go_wp2
  obtain ⟨wf, hwf⟩ : ∃ wf, wf = (((w1.setCell ⟨w.heap.size, 0, none⟩ (.bool false)).setCell ⟨w.heap.size, 1, none⟩ (.slice (some ⟨b, 0, none⟩) 1 c)).setCell ⟨w.heap.size, 2, none⟩ (.slice none 0 0)) := ⟨_, rfl⟩
  rw [← hwf]
  obtain ⟨hf, hbf, ht⟩ := num_fin HZ1.out HB1.out _ _ wf hwf
  have a0 := cell_blk hf 0 (.bool false) rfl
  have a1 := cell_blk hf 1 (.slice (some ⟨b, 0, none⟩) 1 c) rfl
  have a2 := cell_blk hf 2 (.slice none 0 0) rfl
  have HP : Hid (NumPost N w (.returned (.agg #[.bool false, .slice (some ⟨b, 0, none⟩) 1 c, .slice none 0 0])) wf) := Lib.hid ⟨_, rfl, Or.inr ⟨by omega, b, c, rfl, HC.out, Nat.lt_of_lt_of_le hlt ht.size, (World.cell?_of_block (w := w1) (w' := wf) (a := ⟨b, 0, none⟩) (ht.block b hlt hbne)).trans HK.out⟩, hbf⟩
  clear hwf hf hbf ht
  exact bodyPost_ret (v := .agg #[.bool false, .slice (some ⟨b, 0, none⟩) 1 c, .slice none 0 0]) (by simp [results, Tryz.results102, go_sem, a0, a1, a2]) rfl HP.out
theorem rclamp_0 (w : World) : Calls Tryz.prog 136 #[.int .i64 0] w fun e w' => e = .returned (.int .i64 0) ∧ w = w' := by
  go_enter Tryz.func136, Tryz.ntmps136
  go_wp2
  go_ret
  exact ⟨rfl, rfl⟩
set_option maxHeartbeats 1600000 in
theorem rfmt02 (num : Value) (N : Nat) (w : World) (hv : LimbAt w num N) (h1 : 1 ≤ N) (h9 : N ≤ 9) :
    Calls Tryz.prog 101 #[.agg #[.bool false, num, .slice none 0 0], .int .i64 0] w fun e w' => e = .returned (.string (dg1 N)) ∧ Below w.heap.size w w' := by
  rcases hv with ⟨h, _⟩ | ⟨h0, b, c, rfl, hc, hb, hx⟩
  · omega
  have HX := Lib.hid (Box.new w [.bool false, .slice (some ⟨b, 0, none⟩) 1 c, .slice none 0 0] 36)
  have HV : Hid (LimbAt w (.slice (some ⟨b, 0, none⟩) 1 c) N) := Lib.hid (Or.inr ⟨h0, b, c, rfl, hc, hb, hx⟩)
  clear hx
  go_enter Tryz.func101, Tryz.ntmps101
  go_wp2_with fail
  refine (rclamp_0 _).mono ?_
  rintro e w' ⟨rfl, rfl⟩
  go_wp2_with fail
  refine (runits _ N _ (HV.out.below HX.out.bl) h1 h9).mono ?_
  rintro e w1 ⟨v, rfl, hl, hb1⟩
  have HL := Lib.hid hl
  have HX1 := Lib.hid (HX.out.step hb1)
  clear hl hb1
  go_wp2_with fail
  refine (rfmt01 _ N _ HL.out h1 h9).mono ?_
  rintro e w2 ⟨rfl, hb2⟩
  have HX2 := Lib.hid (HX1.out.step hb2)
  have x0 : w2.cell? ⟨w.heap.size, 0, none⟩ = some (.bool false) := HX2.out.c 0 _ rfl
  have hs : ((dg1 (N : Int)).size : Int) = 1 := by rw [dg1_size]; rfl
  have hs2 : (dg1 (N : Int)).size = 1 := dg1_size _
  obtain ⟨d, hd⟩ : ∃ d, d = dg1 (N : Int) := ⟨_, rfl⟩
  have HD := Lib.hid hd
  rw [← hd] at hs hs2 ⊢
  clear hb2 hd
  go_wp2_with fail
  go_loop [7] (fun v => v = .string d) (fun _ => 0)
  case atStart => rfl
  case round =>
    obtain rfl := hrel
    go_wp2
    go_ret
    exact ⟨by rw [← HD.out]; rfl, HX2.out.bl⟩
set_option maxHeartbeats 1600000 in
theorem rnumber (N : Nat) (w : World) (h1 : 1 ≤ N) (h9 : N ≤ 9) :
    Calls Tryz.prog 52 #[.int .i64 N] w fun e w' => e = .returned (.string (dg1 N)) ∧ Below w.heap.size w w' := by
  have n9 : (N : Int) ≤ 9 := by omega
  go_enter Tryz.func52, Tryz.ntmps52
  go_wp2_with fail
  refine (rfromInt N _ h1 h9).mono ?_
  rintro e w1 ⟨v, rfl, hl, hb1⟩
  have HL := Lib.hid hl
  have HB1 := Lib.hid hb1
  clear hl hb1
  go_wp2_with fail
  refine (rfmt02 _ N _ HL.out h1 h9).mono ?_
  rintro e w2 ⟨rfl, hb2⟩
  have HB2 := Lib.hid (chain0 HB1.out hb2)
  clear hb2
  go_wp2
  go_ret
  exact ⟨rfl, HB2.out⟩
end Go.Proofs.YtenjefbplpbjaaaGreatDoor
