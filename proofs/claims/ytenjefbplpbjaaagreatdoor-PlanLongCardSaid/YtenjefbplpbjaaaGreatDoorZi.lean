/- The reference's Parse at the small plan's text; the program's Parse at the long texts of zero bytes. -/
import Derived.Test.YtenjefbplpbjaaaGreatDoorZh
namespace Go.Proofs.YtenjefbplpbjaaaGreatDoor
open Go.RowKit Go.Sort Cal Go.Maps
theorem nl_at : ∀ k, k < 59 → (smallB.data.toList.getD k 0 = 10 ↔ (k = 8 ∨ k = 24 ∨ k = 58)) := by decide
theorem lineX0 : smallB.extract 0 8 = ⟨#[100, 105, 103, 105, 116, 115, 32, 49]⟩ := by decide
theorem lineX1 : smallB.extract 9 24 = ⟨#[114, 117, 108, 101, 32, 97, 108, 108, 32, 106, 101, 118, 111, 110, 115]⟩ := by decide
theorem lineX2 : smallB.extract 25 58 = ⟨#[105, 109, 112, 117, 116, 101, 32, 97, 108, 108, 32, 99, 108, 97, 115, 115, 32, 50, 44, 32, 99, 97, 114, 114, 121, 32, 51, 44, 32, 100, 114, 111, 112]⟩ := by decide
theorem wordsX0 : wordsL ⟨#[100, 105, 103, 105, 116, 115, 32, 49]⟩ = [⟨#[100, 105, 103, 105, 116, 115]⟩, ⟨#[49]⟩] := by kernel_rfl
theorem wordsX1 : wordsL ⟨#[114, 117, 108, 101, 32, 97, 108, 108, 32, 106, 101, 118, 111, 110, 115]⟩ = [⟨#[114, 117, 108, 101]⟩, ⟨#[97, 108, 108]⟩, ⟨#[106, 101, 118, 111, 110, 115]⟩] := by kernel_rfl
theorem wordsX2 : wordsL ⟨#[105, 109, 112, 117, 116, 101, 32, 97, 108, 108, 32, 99, 108, 97, 115, 115, 32, 50, 44, 32, 99, 97, 114, 114, 121, 32, 51, 44, 32, 100, 114, 111, 112]⟩ = [⟨#[105, 109, 112, 117, 116, 101]⟩, ⟨#[97, 108, 108]⟩, ⟨#[99, 108, 97, 115, 115]⟩, ⟨#[50, 44]⟩, ⟨#[99, 97, 114, 114, 121]⟩, ⟨#[51, 44]⟩, ⟨#[100, 114, 111, 112]⟩] := by kernel_rfl
theorem u8_10 (x : UInt8) : x = 10 ↔ (x.toNat : Int) = 10 := by
  constructor
  · intro h; rw [h]; rfl
  · intro h; apply UInt8.toNat_inj.1; show x.toNat = 10; omega
/-- The blocks of the result and of the plan that is read. -/
structure PR (B : Nat) (L : List Value) (w0 w : World) : Prop where
  z : w.heap[B]? = some (.cells #[.int .i64 0, .slice none 0 0, .slice none 0 0, .slice none 0 0, .slice none 0 0, .slice none 0 0] 28 (0, 0))
  p : w.heap[B + 1]? = some (.cells L.toArray 28 (0, 0))
  bl : Below B w0 w
theorem PR.lt {B : Nat} {L : List Value} {w0 w : World} (h : PR B L w0 w) : B + 1 < w.heap.size := (Array.getElem?_eq_some_iff.1 h.p).1
theorem PR.below {B : Nat} {L : List Value} {w0 w w' : World} (h : PR B L w0 w) (hb : Below w.heap.size w w') : PR B L w0 w' :=
  ⟨(hb.block B (by have := h.lt; omega)).trans h.z, (hb.block (B + 1) h.lt).trans h.p, h.bl.trans (hb.mono (by have := h.lt; omega))⟩
theorem PR.set {B : Nat} {L L' : List Value} {w0 w : World} (h : PR B L w0 w) (j : Nat) (v : Value) (hL : L.toArray.setIfInBounds j v = L'.toArray) : PR B L' w0 (w.setCell ⟨B + 1, j, none⟩ v) :=
  ⟨set_other h.z (by omega) j v, by rw [← hL]; exact set_blk h.p j v, h.bl.setCell (p := ⟨B + 1, j, none⟩) (by show B ≤ B + 1; omega) _⟩
theorem PR.new (w : World) : PR w.heap.size [.int .i64 0, .slice none 0 0, .slice none 0 0, .slice none 0 0, .slice none 0 0, .slice none 0 0] w ((w.alloc (.cells #[.int .i64 0, .slice none 0 0, .slice none 0 0, .slice none 0 0, .slice none 0 0, .slice none 0 0] 28)).alloc (.cells #[.int .i64 0, .slice none 0 0, .slice none 0 0, .slice none 0 0, .slice none 0 0, .slice none 0 0] 28)) := by
  refine ⟨?_, ?_, chainAlloc (chainAlloc (Below.refl _ _) _) _⟩
  · show (Array.push (Array.push w.heap _) _)[_]? = _
    rw [Array.getElem?_push, if_neg (by simp), Array.getElem?_push, if_pos rfl]
  · show (Array.push (Array.push w.heap _) _)[_]? = _
    rw [Array.getElem?_push, if_pos (by simp)]
/-- What a region that appends a row to a list of the plan has at hand. -/
def RApp (bp f : Nat) (wsv : Value) (row : List Value → World → Prop) (k : Nat) (u : Value) (w : World) : Prop :=
  match k with
  | 0 => u = .pointer (some ⟨bp, f, none⟩)
  | 1 => u = .slice none 0 0
  | 2 => u = wsv
  | 3 => ∃ l : List Value, u = .agg l.toArray ∧ row l w
  | 4 => ∃ (B : Nat) (l : List Value), u = .slice (some ⟨B, 0, none⟩) 1 1 ∧ B < w.heap.size ∧ (∀ j x, l[j]? = some x → w.cell? ⟨B, j, none⟩ = some x) ∧ row l w
  | _ => True
theorem RApp.below {bp f : Nat} {wsv : Value} {row : List Value → World → Prop} {w w' : World} (hrow : ∀ l, row l w → row l w') (hb : Below w.heap.size w w') : ∀ k u, RApp bp f wsv row k u w → RApp bp f wsv row k u w' := by
  intro k u h
  match k, h with
  | 0, h => exact h
  | 1, h => exact h
  | 2, h => exact h
  | 3, ⟨l, e, hl⟩ => exact ⟨l, e, hrow l hl⟩
  | 4, ⟨B, l, e, hB, hc, hl⟩ => exact ⟨B, l, e, Nat.lt_of_lt_of_le hB hb.size, fun j x hj => (hb.cell (p := ⟨B, j, none⟩) hB).trans (hc j x hj), hrow l hl⟩
  | k + 5, _ => exact True.intro
def rowR (l : List Value) (_ : World) : Prop := l = [.string ⟨#[]⟩, .int .i64 1, .int .i64 0, .int .i64 0]
def rowC (b : Nat) (l : List Value) (w : World) : Prop := ∃ g c, l = [.string ⟨#[]⟩, .slice (some ⟨g, 0, none⟩) 3 c] ∧ w.ownsRow b 82 2 (.slice (some ⟨g, 0, none⟩) 3 c) 3 stepC
theorem rowC.below {b : Nat} {w w' : World} (hb : Below w.heap.size w w') (l : List Value) (h : rowC b l w) : rowC b l w' := by
  obtain ⟨g, c, e, ho⟩ := h
  exact ⟨g, c, e, ownsRow_below ho hb⟩
/-- What has been read before the k-th byte, where the line begins. -/
def PSt (B : Nat) (w0 : World) (k : Nat) (q : Int) (w : World) : Prop :=
  (k ≤ 8 ∧ q = 0 ∧ PR B [.int .i64 0, .slice none 0 0, .slice none 0 0, .slice none 0 0, .slice none 0 0, .slice none 0 0] w0 w) ∨
  (9 ≤ k ∧ k ≤ 24 ∧ q = 9 ∧ PR B [.int .i64 1, .slice none 0 0, .slice none 0 0, .slice none 0 0, .slice none 0 0, .slice none 0 0] w0 w) ∨
  (25 ≤ k ∧ k ≤ 58 ∧ q = 25 ∧ ∃ g1 c1, PR B [.int .i64 1, .slice (some ⟨g1, 0, none⟩) 1 c1, .slice none 0 0, .slice none 0 0, .slice none 0 0, .slice none 0 0] w0 w ∧ w.ownsRow (B + 2) 50 4 (.slice (some ⟨g1, 0, none⟩) 1 c1) 1 [.string ⟨#[]⟩, .int .i64 1, .int .i64 0, .int .i64 0]) ∨
  (k = 59 ∧ q = 59 ∧ ∃ g1 c1 g2 c2 g3 c3, PR B [.int .i64 1, .slice (some ⟨g1, 0, none⟩) 1 c1, .slice (some ⟨g2, 0, none⟩) 1 c2, .slice none 0 0, .slice none 0 0, .slice none 0 0] w0 w ∧ PlanAt g1 g2 g3 c3 w)
set_option maxRecDepth 100000 in
set_option maxHeartbeats 12800000 in
theorem rparse_at (s : ByteArray) (hs : s = smallB) (w : World) :
    Calls Tryz.prog 5 #[.string s] w (PlanGiven (.int .i64 0) w) := by
  obtain ⟨i0, hi0, hz0, hz1, hz2⟩ := info_parts info_rule
  obtain ⟨j0, hj0, hk0, hk1, hk2⟩ := info_parts info_chain
  have HS := Lib.hid hs
  have HP0 := Lib.hid (PR.new w)
  have hsz : s.size = 59 := by rw [hs]; kernel_rfl
  have HNL : Hid (∀ k (h : k < s.size), (((s[k]'h).toNat : Int) == 10) = (decide (k = 8) || decide (k = 24) || decide (k = 58))) := Lib.hid (by
    intro k h
    have h1 := nl_at k (by omega)
    rw [← HS.out, byte_at s k h, u8_10] at h1
    by_cases hk : k = 8 ∨ k = 24 ∨ k = 58
    · have e1 := h1.2 hk
      have e2 : (decide (k = 8) || decide (k = 24) || decide (k = 58)) = true := by rcases hk with rfl | rfl | rfl <;> rfl
      rw [e1, e2]; rfl
    · have e1 := fun e => hk (h1.1 e)
      have e2 : (decide (k = 8) || decide (k = 24) || decide (k = 58)) = false := by simp; omega
      rw [e2]; simpa using e1)
  clear hs
  go_enter Tryz.func5, Tryz.ntmps5
  go_wp2_with fail
  obtain ⟨WX, hWX⟩ : ∃ W, W = (w.alloc (.cells #[.int .i64 0, .slice none 0 0, .slice none 0 0, .slice none 0 0, .slice none 0 0, .slice none 0 0] 28)).alloc (.cells #[.int .i64 0, .slice none 0 0, .slice none 0 0, .slice none 0 0, .slice none 0 0, .slice none 0 0] 28) := ⟨_, rfl⟩
  rw [← hWX] at HP0 ⊢
  clear hWX
  go_loopw [5, 18] (fun fr i wr => ∃ (k : Nat) (q : Int), k ≤ 59 ∧ i = .int .i64 k ∧ fr = .int .i64 q ∧ PSt w.heap.size w k q wr) (fun _ i _ => 59 - (intOf i).toNat)
  case atStart => exact ⟨0, 0, by omega, rfl, rfl, Or.inl ⟨by omega, rfl, HP0.out⟩⟩
  case round =>
    clear HP0
    obtain ⟨k, q, hk, rfl, rfl, hst⟩ := hrel
    rcases hst with ⟨hq, rfl, hP⟩ | ⟨hq1, hq2, rfl, hP⟩ | ⟨hq1, hq2, rfl, g1, c1, hP, hown⟩ | ⟨rfl, rfl, g1, c1, g2, c2, g3, c3, hP, hA⟩
    · by_cases h8 : k = 8
      · subst h8
        have hk59 : 8 < s.size := by omega
        have hnl : (((s[8]'hk59).toNat : Int) == 10) = true := by rw [HNL.out 8 hk59]; rfl
        have hx : s.extract 0 8 = ⟨#[100, 105, 103, 105, 116, 115, 32, 49]⟩ := by rw [HS.out]; exact lineX0
        have HP := Lib.hid hP
        clear hP
        go_wp2_with fail
        refine (rwords _ _ (by decide)).mono ?_
        rintro e w2 ⟨wv, m, rfl, hm, hown2, hb2⟩
        rw [wordsX0] at hm hown2
        obtain rfl : m = 2 := hm.symm
        obtain ⟨gw, cw, rfl, _, hgw⟩ := World.ownsRow.form hown2 (by omega)
        have HW := Lib.hid (own_cell hown2).1
        have HP2 := Lib.hid (HP.out.below hb2)
        have t0 : w2.cell? ⟨gw, 0, none⟩ = some (.string ⟨#[100, 105, 103, 105, 116, 115]⟩) := HW.out 0 _ rfl
        have hl2 := HP2.out.lt
        have hcw := own_cap hown2
        have t1 : w2.cell? ⟨gw, 1, none⟩ = some (.string ⟨#[49]⟩) := HW.out 1 _ rfl
        clear hm hown2 hb2 hnl hx
        go_wp2_with fail
        refine (rvalue_1 _).mono ?_
        rintro e w3 ⟨rfl, rfl⟩
        have d0 : w2.cell? ⟨w.heap.size + 1, 0, none⟩ = some (.int .i64 0) := cell_blk HP2.out.p 0 _ rfl
        have y0 : w2.frozen? ⟨w.heap.size + 1, 0, none⟩ = false := free_blk HP2.out.p 0
        have HN := Lib.hid (HP2.out.set (L' := [.int .i64 1, .slice none 0 0, .slice none 0 0, .slice none 0 0, .slice none 0 0, .slice none 0 0]) 0 (.int .i64 1) rfl)
        go_wp2_with fail
        go_roundw
        case rel => exact ⟨9, _, by omega, by first | rfl | go_num, by first | rfl | go_num, Or.inr (Or.inl ⟨by omega, by omega, by rfl, HN.out⟩)⟩
        case measure => simp [intOf]
      · have hk59 : k < s.size := by omega
        have hnl : (((s[k]'hk59).toNat : Int) == 10) = false := by rw [HNL.out k hk59]; simp; omega
        have HP := Lib.hid hP
        clear hP
        go_wp2_with fail
        go_roundw
        case rel => exact ⟨k + 1, _, by omega, by go_num, rfl, Or.inl ⟨by omega, rfl, HP.out⟩⟩
        case measure => simp [intOf]; omega
    · by_cases h24 : k = 24
      · subst h24
        have hk59 : 24 < s.size := by omega
        have hnl : (((s[24]'hk59).toNat : Int) == 10) = true := by rw [HNL.out 24 hk59]; rfl
        have hx : s.extract 9 24 = ⟨#[114, 117, 108, 101, 32, 97, 108, 108, 32, 106, 101, 118, 111, 110, 115]⟩ := by rw [HS.out]; exact lineX1
        have HP := Lib.hid hP
        clear hP
        go_wp2_with fail
        refine (rwords _ _ (by decide)).mono ?_
        rintro e w2 ⟨wv, m, rfl, hm, hown2, hb2⟩
        rw [wordsX1] at hm hown2
        obtain rfl : m = 3 := hm.symm
        obtain ⟨gw, cw, rfl, _, hgw⟩ := World.ownsRow.form hown2 (by omega)
        have HW := Lib.hid (own_cell hown2).1
        have HP2 := Lib.hid (HP.out.below hb2)
        have t0 : w2.cell? ⟨gw, 0, none⟩ = some (.string ⟨#[114, 117, 108, 101]⟩) := HW.out 0 _ rfl
        have hl2 := HP2.out.lt
        have hcw := own_cap hown2
        clear hm hown2 hb2 hnl hx
        go_upto_region 16 with fail
        refine wp_region_inv 5 (fun a0 _ => IV 46 5 (RApp (w.heap.size + 1) 1 (.slice (some ⟨gw, 0, none⟩) 3 cw) rowR) (fun _ wy => Below w2.heap.size w2 wy) a0) (by kernel_rfl) (by decide) (by kernel_rfl) (by kernel_rfl) (by kernel_rfl) (by kernel_rfl) (by kernel_rfl) (IV.start ((Below.refl _ _).drew)) ?_ ?_
        · refine And.intro ?_ (And.intro ?_ (And.intro ?_ (And.intro ?_ (And.intro ?_ trivial))))
          · intro listed a wy hI hu hd
            have f4 : (a.tmps[4]?).getD undef = .pointer (some ⟨w.heap.size + 1, 0, none⟩) := hI.slot 4 (by decide)
            have hz := (HP2.out.below hI.world).lt
            refine keep_op fun K hK => ?_
            clear hd
            have hI := Lib.hid hI
            go_simp
            exact hK _ _ (hI.out.put 0 (by decide) (Nat.le_of_ble_eq_true rfl) _ hI.out.world (fun _ _ h => h) rfl)
          · intro listed a wy hI hu hd
            have d0 : listed.getD 0 false = true := hd ⟨0, .data⟩ (by simp) rfl
            have e0 : (a.tmps[46]?).getD undef = .pointer (some ⟨w.heap.size + 1, 1, none⟩) := hI.val 0 (by decide) d0 46 rfl
            have c1 : wy.cell? ⟨w.heap.size + 1, 1, none⟩ = some (.slice none 0 0) := cell_blk (HP2.out.below hI.world).p 1 _ rfl
            have hz := (HP2.out.below hI.world).lt
            refine keep_op fun K hK => ?_
            clear hd
            have hI := Lib.hid hI
            go_simp
            exact hK _ _ (hI.out.put 1 (by decide) (Nat.le_of_ble_eq_true rfl) _ hI.out.world (fun _ _ h => h) rfl)
          · intro listed a wy hI hu hd
            have f8 : (a.tmps[8]?).getD undef = (.slice (some ⟨gw, 0, none⟩) 3 cw) := hI.slot 8 (by decide)
            refine keep_op fun K hK => ?_
            clear hd
            have hI := Lib.hid hI
            go_simp
            exact hK _ _ (hI.out.put 2 (by decide) (Nat.le_of_ble_eq_true rfl) _ hI.out.world (fun _ _ h => h) rfl)
          · intro listed a wy hI hu hd
            have d2 : listed.getD 2 false = true := hd ⟨2, .data⟩ (by simp) rfl
            have e2 : (a.tmps[48]?).getD undef = (.slice (some ⟨gw, 0, none⟩) 3 cw) := hI.val 2 (by decide) d2 48 rfl
            have HWY : Hid (∀ j u, ([.string ⟨#[114, 117, 108, 101]⟩, .string ⟨#[97, 108, 108]⟩, .string ⟨#[106, 101, 118, 111, 110, 115]⟩] : List Value)[j]? = some u → wy.cell? ⟨gw, j, none⟩ = some u) := Lib.hid (fun j u hj => (hI.world.cell (p := ⟨gw, j, none⟩) hgw).trans (HW.out j u hj))
            have HGW : Hid (gw < wy.heap.size) := Lib.hid (Nat.lt_of_lt_of_le hgw hI.world.size)
            have HLW : Hid (w.heap.size + 2 ≤ wy.heap.size) := Lib.hid (HP2.out.below hI.world).lt
            refine keep_op fun K hK => ?_
            clear hd
            have hI := Lib.hid hI
            go_simp
            refine (rreadRule gw cw _ HGW.out (HWY.out 1 _ rfl) (HWY.out 2 _ rfl)).mono ?_
            rintro e w9 ⟨rfl, hb9⟩
            exact hK _ _ (hI.out.put 3 (by decide) (Nat.le_of_ble_eq_true rfl) _ (chain0 hI.out.world hb9) (RApp.below (fun _ h => h) hb9) ⟨_, rfl, rfl⟩)
          · intro listed a wy hI hu hd
            have d3 : listed.getD 3 false = true := hd ⟨3, .data⟩ (by simp) rfl
            obtain ⟨l9, e3, hr9⟩ := hI.val 3 (by decide) d3 49 rfl
            obtain rfl : l9 = [.string ⟨#[]⟩, .int .i64 1, .int .i64 0, .int .i64 0] := hr9
            have HR9 : Hid (rowR [.string ⟨#[]⟩, .int .i64 1, .int .i64 0, .int .i64 0] wy) := Lib.hid rfl
            refine keep_op fun K hK => ?_
            clear hd
            have hI := Lib.hid hI
            go_simp
            exact hK _ _ (hI.out.put 4 (by decide) (Nat.le_of_ble_eq_true rfl) _ (chainAlloc hI.out.world _) (RApp.below (fun _ h => h) (chainAlloc (Below.refl _ _) _)) ⟨wy.heap.size, _, rfl, by simp, (Box.new wy [.string ⟨#[]⟩, .int .i64 1, .int .i64 0, .int .i64 0] 50).c, rfl⟩)
        · intro listed a wy hI hl
          have HPY := Lib.hid (HP2.out.below hI.world)
          have HBY := Lib.hid hI.world
          obtain ⟨u, rfl, hu⟩ := IV.fin hI (Nat.le_of_ble_eq_true rfl) hl
          have e1 : u 1 = .slice none 0 0 := hu 1 (by decide)
          obtain ⟨BX, l9, e4, hBX, hbx, hr9⟩ := hu 4 (by decide)
          obtain rfl : l9 = [.string ⟨#[]⟩, .int .i64 1, .int .i64 0, .int .i64 0] := hr9
          have hnews : ∀ (q : Nat) x, ([.string ⟨#[]⟩, .int .i64 1, .int .i64 0, .int .i64 0] : List Value)[q]? = some x → wy.cell? ((⟨BX, 0, none⟩ : Addr).add q) = some x := by
            intro q x hq
            have hadd : ((⟨BX, 0, none⟩ : Addr).add q) = ⟨BX, q, none⟩ := by simp [Addr.add]; try omega
            rw [hadd]
            exact hbx q x hq
          have hly := HPY.out.lt
          clear hI hl hu hbx
          simp only [putN, Act.put, e1, e4, Nat.reduceAdd, List.setIfInBounds_toArray, List.set_cons_succ, List.set_cons_zero, List.drop_succ_cons, List.drop_zero]
          generalize u 0 = u0 at *; generalize u 2 = u2 at *; generalize u 3 = u3 at *
          clear e1 e4
          go_wp2_with (first
            | (at_builtin; refine wpList_append_own_at _ rfl _ _ 22 rfl (w.heap.size + 2) 50 i0 (.agg #[.string ⟨#[]⟩, .int .i64 0, .int .i64 0, .int .i64 0]) 4 40 Tryz.underlying22 hi0 hz0 hz1 hz2 rfl (by decide) _ _ _ rfl (World.ownsRow_nil _ _ _ _) ⟨BX, 0, none⟩ 1 1 [.string ⟨#[]⟩, .int .i64 1, .int .i64 0, .int .i64 0] rfl rfl hnews (by simp [Value.oneCell']) (by unfold maxLen; omega) (by omega) (by omega) ?_)
            | fail)
          intro v' w9 hown9 hgrow _ hob
          obtain ⟨g9a, cap9, rfl, hg9a, _⟩ := World.ownsRow.form hown9 (by omega)
          have hb9 : Below wy.heap.size wy w9 := (Below.refl _ wy).grown hgrow (Nat.le_refl _) (fun j hj => by simp [Value.ownBlock] at hj)
          have HP9 := Lib.hid (HPY.out.below hb9)
          have HB9 := Lib.hid (chain0 HBY.out hb9)
          have cC : w9.cell? ⟨w.heap.size + 1, 1, none⟩ = some (.slice none 0 0) := cell_blk HP9.out.p 1 _ rfl
          have fC : w9.frozen? ⟨w.heap.size + 1, 1, none⟩ = false := free_blk HP9.out.p 1
          have hl9 := HP9.out.lt
          have HN := Lib.hid (HP9.out.set (L' := [.int .i64 1, .slice (some ⟨g9a, 0, none⟩) 1 cap9, .slice none 0 0, .slice none 0 0, .slice none 0 0, .slice none 0 0]) 1 (.slice (some ⟨g9a, 0, none⟩) 1 cap9) rfl)
          have HNO := Lib.hid (ownsRow_touch hown9 ((Touch.refl (w.heap.size + 1) w9).set 1 (.slice (some ⟨g9a, 0, none⟩) 1 cap9)) (by omega))
          clear hown9 hgrow hob hnews hb9
          go_wp2
          go_roundw
          case rel => exact ⟨25, _, by omega, by first | rfl | go_num, by first | rfl | go_num, Or.inr (Or.inr (Or.inl ⟨by omega, by omega, by rfl, g9a, cap9, HN.out, HNO.out⟩))⟩
          case measure => simp [intOf]
      · have hk59 : k < s.size := by omega
        have hnl : (((s[k]'hk59).toNat : Int) == 10) = false := by rw [HNL.out k hk59]; simp; omega
        have HP := Lib.hid hP
        clear hP
        go_wp2_with fail
        go_roundw
        case rel => exact ⟨k + 1, _, by omega, by go_num, rfl, Or.inr (Or.inl ⟨by omega, by omega, rfl, HP.out⟩)⟩
        case measure => simp [intOf]; omega
    · have HOW := Lib.hid hown
      clear hown
      by_cases h58 : k = 58
      · subst h58
        have hk59 : 58 < s.size := by omega
        have hnl : (((s[58]'hk59).toNat : Int) == 10) = true := by rw [HNL.out 58 hk59]; rfl
        have hx : s.extract 25 58 = ⟨#[105, 109, 112, 117, 116, 101, 32, 97, 108, 108, 32, 99, 108, 97, 115, 115, 32, 50, 44, 32, 99, 97, 114, 114, 121, 32, 51, 44, 32, 100, 114, 111, 112]⟩ := by rw [HS.out]; exact lineX2
        have HP := Lib.hid hP
        clear hP
        go_wp2_with fail
        refine (rwords _ _ (by decide)).mono ?_
        rintro e w2 ⟨wv, m, rfl, hm, hown2, hb2⟩
        rw [wordsX2] at hm hown2
        obtain rfl : m = 7 := hm.symm
        obtain ⟨gw, cw, rfl, _, hgw⟩ := World.ownsRow.form hown2 (by omega)
        have HW := Lib.hid (own_cell hown2).1
        have HP2 := Lib.hid (HP.out.below hb2)
        have t0 : w2.cell? ⟨gw, 0, none⟩ = some (.string ⟨#[105, 109, 112, 117, 116, 101]⟩) := HW.out 0 _ rfl
        have hl2 := HP2.out.lt
        have hcw := own_cap hown2
        have HOW2 := Lib.hid (ownsRow_below HOW.out ((Below.refl _ wr).trans hb2))
        clear hm hown2 hb2 hnl hx
        go_upto_region 18 with fail
        refine wp_region_inv 5 (fun a0 _ => IV 55 5 (RApp (w.heap.size + 1) 2 (.slice (some ⟨gw, 0, none⟩) 7 cw) (rowC (w.heap.size + 2))) (fun _ wy => Below w2.heap.size w2 wy) a0) (by kernel_rfl) (by decide) (by kernel_rfl) (by kernel_rfl) (by kernel_rfl) (by kernel_rfl) (by kernel_rfl) (IV.start ((Below.refl _ _).drew)) ?_ ?_
        · refine And.intro ?_ (And.intro ?_ (And.intro ?_ (And.intro ?_ (And.intro ?_ trivial))))
          · intro listed a wy hI hu hd
            have f4 : (a.tmps[4]?).getD undef = .pointer (some ⟨w.heap.size + 1, 0, none⟩) := hI.slot 4 (by decide)
            have hz := (HP2.out.below hI.world).lt
            refine keep_op fun K hK => ?_
            clear hd
            have hI := Lib.hid hI
            go_simp
            exact hK _ _ (hI.out.put 0 (by decide) (Nat.le_of_ble_eq_true rfl) _ hI.out.world (fun _ _ h => h) rfl)
          · intro listed a wy hI hu hd
            have d0 : listed.getD 0 false = true := hd ⟨0, .data⟩ (by simp) rfl
            have e0 : (a.tmps[55]?).getD undef = .pointer (some ⟨w.heap.size + 1, 2, none⟩) := hI.val 0 (by decide) d0 55 rfl
            have c1 : wy.cell? ⟨w.heap.size + 1, 2, none⟩ = some (.slice none 0 0) := cell_blk (HP2.out.below hI.world).p 2 _ rfl
            have hz := (HP2.out.below hI.world).lt
            refine keep_op fun K hK => ?_
            clear hd
            have hI := Lib.hid hI
            go_simp
            exact hK _ _ (hI.out.put 1 (by decide) (Nat.le_of_ble_eq_true rfl) _ hI.out.world (fun _ _ h => h) rfl)
          · intro listed a wy hI hu hd
            have f8 : (a.tmps[8]?).getD undef = (.slice (some ⟨gw, 0, none⟩) 7 cw) := hI.slot 8 (by decide)
            refine keep_op fun K hK => ?_
            clear hd
            have hI := Lib.hid hI
            go_simp
            exact hK _ _ (hI.out.put 2 (by decide) (Nat.le_of_ble_eq_true rfl) _ hI.out.world (fun _ _ h => h) rfl)
          · intro listed a wy hI hu hd
            have d2 : listed.getD 2 false = true := hd ⟨2, .data⟩ (by simp) rfl
            have e2 : (a.tmps[57]?).getD undef = (.slice (some ⟨gw, 0, none⟩) 7 cw) := hI.val 2 (by decide) d2 57 rfl
            have HWY : Hid (∀ j u, ([.string ⟨#[105, 109, 112, 117, 116, 101]⟩, .string ⟨#[97, 108, 108]⟩, .string ⟨#[99, 108, 97, 115, 115]⟩, .string ⟨#[50, 44]⟩, .string ⟨#[99, 97, 114, 114, 121]⟩, .string ⟨#[51, 44]⟩, .string ⟨#[100, 114, 111, 112]⟩] : List Value)[j]? = some u → wy.cell? ⟨gw, j, none⟩ = some u) := Lib.hid (fun j u hj => (hI.world.cell (p := ⟨gw, j, none⟩) hgw).trans (HW.out j u hj))
            have HGW : Hid (gw < wy.heap.size) := Lib.hid (Nat.lt_of_lt_of_le hgw hI.world.size)
            have HLW : Hid (w.heap.size + 2 ≤ wy.heap.size) := Lib.hid (HP2.out.below hI.world).lt
            refine keep_op fun K hK => ?_
            clear hd
            have hI := Lib.hid hI
            go_simp
            refine (rreadChain gw cw _ HGW.out HWY.out).mono ?_
            rintro e w9 ⟨g9, c9, rfl, ho9, hb9⟩
            exact hK _ _ (hI.out.put 3 (by decide) (Nat.le_of_ble_eq_true rfl) _ (chain0 hI.out.world hb9) (RApp.below (rowC.below hb9) hb9) ⟨_, rfl, g9, c9, rfl, own_base' ho9 HLW.out⟩)
          · intro listed a wy hI hu hd
            have d3 : listed.getD 3 false = true := hd ⟨3, .data⟩ (by simp) rfl
            obtain ⟨l9, e3, hr9⟩ := hI.val 3 (by decide) d3 58 rfl
            obtain ⟨g9, c9, rfl, ho9⟩ := hr9
            have HR9 : Hid (rowC (w.heap.size + 2) [.string ⟨#[]⟩, .slice (some ⟨g9, 0, none⟩) 3 c9] wy) := Lib.hid ⟨g9, c9, rfl, ho9⟩
            clear ho9
            refine keep_op fun K hK => ?_
            clear hd
            have hI := Lib.hid hI
            go_simp
            exact hK _ _ (hI.out.put 4 (by decide) (Nat.le_of_ble_eq_true rfl) _ (chainAlloc hI.out.world _) (RApp.below (rowC.below (chainAlloc (Below.refl _ _) _)) (chainAlloc (Below.refl _ _) _)) ⟨wy.heap.size, _, rfl, by simp, (Box.new wy [.string ⟨#[]⟩, .slice (some ⟨g9, 0, none⟩) 3 c9] 60).c, (rowC.below (chainAlloc (Below.refl _ _) _) _ HR9.out)⟩)
        · intro listed a wy hI hl
          have HPY := Lib.hid (HP2.out.below hI.world)
          have HBY := Lib.hid hI.world
          obtain ⟨u, rfl, hu⟩ := IV.fin hI (Nat.le_of_ble_eq_true rfl) hl
          have e1 : u 1 = .slice none 0 0 := hu 1 (by decide)
          obtain ⟨BX, l9, e4, hBX, hbx, hr9⟩ := hu 4 (by decide)
          obtain ⟨g9, c9, rfl, ho9⟩ := hr9
          have HO9 := Lib.hid ho9
          clear ho9
          have hnews : ∀ (q : Nat) x, ([.string ⟨#[]⟩, .slice (some ⟨g9, 0, none⟩) 3 c9] : List Value)[q]? = some x → wy.cell? ((⟨BX, 0, none⟩ : Addr).add q) = some x := by
            intro q x hq
            have hadd : ((⟨BX, 0, none⟩ : Addr).add q) = ⟨BX, q, none⟩ := by simp [Addr.add]; try omega
            rw [hadd]
            exact hbx q x hq
          have hly := HPY.out.lt
          clear hI hl hu hbx
          simp only [putN, Act.put, e1, e4, Nat.reduceAdd, List.setIfInBounds_toArray, List.set_cons_succ, List.set_cons_zero, List.drop_succ_cons, List.drop_zero]
          generalize u 0 = u0 at *; generalize u 2 = u2 at *; generalize u 3 = u3 at *
          clear e1 e4
          go_wp2_with (first
            | (at_builtin; refine wpList_append_own_at _ rfl _ _ 23 rfl (w.heap.size + 2) 60 j0 (.agg #[.string ⟨#[]⟩, .slice none 0 0]) 2 40 Tryz.underlying23 hj0 hk0 hk1 hk2 rfl (by decide) _ _ _ rfl (World.ownsRow_nil _ _ _ _) ⟨BX, 0, none⟩ 1 1 [.string ⟨#[]⟩, .slice (some ⟨g9, 0, none⟩) 3 c9] rfl rfl hnews (by simp [Value.oneCell']) (by unfold maxLen; omega) (by omega) (by omega) ?_)
            | fail)
          intro v' w9 hown9 hgrow _ hob
          obtain ⟨g9a, cap9, rfl, hg9a, _⟩ := World.ownsRow.form hown9 (by omega)
          have hb9 : Below wy.heap.size wy w9 := (Below.refl _ wy).grown hgrow (Nat.le_refl _) (fun j hj => by simp [Value.ownBlock] at hj)
          have HP9 := Lib.hid (HPY.out.below hb9)
          have HB9 := Lib.hid (chain0 HBY.out hb9)
          have cC : w9.cell? ⟨w.heap.size + 1, 2, none⟩ = some (.slice none 0 0) := cell_blk HP9.out.p 2 _ rfl
          have fC : w9.frozen? ⟨w.heap.size + 1, 2, none⟩ = false := free_blk HP9.out.p 2
          have hl9 := HP9.out.lt
          have HN := Lib.hid (HP9.out.set (L' := [.int .i64 1, .slice (some ⟨g1, 0, none⟩) 1 c1, .slice (some ⟨g9a, 0, none⟩) 1 cap9, .slice none 0 0, .slice none 0 0, .slice none 0 0]) 2 (.slice (some ⟨g9a, 0, none⟩) 1 cap9) rfl)
          have HSET := Lib.hid ((Touch.refl (w.heap.size + 1) w9).set 2 (.slice (some ⟨g9a, 0, none⟩) 1 cap9))
          have HNA : Hid (PlanAt g1 g9a g9 c9 (w9.setCell ⟨w.heap.size + 1, 2, none⟩ (.slice (some ⟨g9a, 0, none⟩) 1 cap9))) := Lib.hid (planAt_own (ownsRow_touch (ownsRow_below HOW2.out HB9.out) HSET.out (by omega)) (ownsRow_touch hown9 HSET.out (by omega)) (ownsRow_touch (ownsRow_below HO9.out hb9) HSET.out (by omega)) (own_cap HO9.out))
          clear hown9 hgrow hob hnews hb9
          go_wp2
          go_roundw
          case rel => exact ⟨59, _, by omega, by first | rfl | go_num, by first | rfl | go_num, Or.inr (Or.inr (Or.inr ⟨rfl, by rfl, g1, c1, g9a, cap9, g9, c9, HN.out, HNA.out⟩))⟩
          case measure => simp [intOf]
      · have hk59 : k < s.size := by omega
        have hnl : (((s[k]'hk59).toNat : Int) == 10) = false := by rw [HNL.out k hk59]; simp; omega
        have HP := Lib.hid hP
        clear hP
        go_wp2_with fail
        go_roundw
        case rel => exact ⟨k + 1, _, by omega, by go_num, rfl, Or.inr (Or.inr (Or.inl ⟨by omega, by omega, rfl, g1, c1, HP.out, HOW.out⟩))⟩
        case measure => simp [intOf]; omega
    · have HP := Lib.hid hP
      have HA := Lib.hid hA
      have d0 : wr.cell? ⟨w.heap.size + 1, 0, none⟩ = some (.int .i64 1) := cell_blk hP.p 0 _ rfl
      have d1 : wr.cell? ⟨w.heap.size + 1, 1, none⟩ = some (.slice (some ⟨g1, 0, none⟩) 1 c1) := cell_blk hP.p 1 _ rfl
      have d2 : wr.cell? ⟨w.heap.size + 1, 2, none⟩ = some (.slice (some ⟨g2, 0, none⟩) 1 c2) := cell_blk hP.p 2 _ rfl
      have d3 : wr.cell? ⟨w.heap.size + 1, 3, none⟩ = some (.slice none 0 0) := cell_blk hP.p 3 _ rfl
      have d4 : wr.cell? ⟨w.heap.size + 1, 4, none⟩ = some (.slice none 0 0) := cell_blk hP.p 4 _ rfl
      have d5 : wr.cell? ⟨w.heap.size + 1, 5, none⟩ = some (.slice none 0 0) := cell_blk hP.p 5 _ rfl
      have hlr := hP.lt
      clear hP hA
      go_wp2_with fail
      refine (rpformat_n g1 c1 g2 c2 g3 c3 0 39 0 (fun _ => 0) (.slice none 0 0) _ HA.out (DefsAt.none 0 39 _) (fun h => absurd h (by omega)) (by omega) (by omega)).mono ?_
      rintro e w2 ⟨rfl, hb2⟩
      rw [errV_zero.1, errV_zero.2, ← HS.out]
      have HP2 := Lib.hid (HP.out.below hb2)
      have HA2 := Lib.hid (HA.out.below hb2)
      have q0 : w2.cell? ⟨w.heap.size + 1, 0, none⟩ = some (.int .i64 1) := cell_blk HP2.out.p 0 _ rfl
      have q1 : w2.cell? ⟨w.heap.size + 1, 1, none⟩ = some (.slice (some ⟨g1, 0, none⟩) 1 c1) := cell_blk HP2.out.p 1 _ rfl
      have q2 : w2.cell? ⟨w.heap.size + 1, 2, none⟩ = some (.slice (some ⟨g2, 0, none⟩) 1 c2) := cell_blk HP2.out.p 2 _ rfl
      have q3 : w2.cell? ⟨w.heap.size + 1, 3, none⟩ = some (.slice none 0 0) := cell_blk HP2.out.p 3 _ rfl
      have q4 : w2.cell? ⟨w.heap.size + 1, 4, none⟩ = some (.slice none 0 0) := cell_blk HP2.out.p 4 _ rfl
      have q5 : w2.cell? ⟨w.heap.size + 1, 5, none⟩ = some (.slice none 0 0) := cell_blk HP2.out.p 5 _ rfl
      have z0 : w2.cell? ⟨w.heap.size, 0, none⟩ = some (.int .i64 0) := cell_blk HP2.out.z 0 _ rfl
      have z1 : w2.cell? ⟨w.heap.size, 1, none⟩ = some (.slice none 0 0) := cell_blk HP2.out.z 1 _ rfl
      have z2 : w2.cell? ⟨w.heap.size, 2, none⟩ = some (.slice none 0 0) := cell_blk HP2.out.z 2 _ rfl
      have z3 : w2.cell? ⟨w.heap.size, 3, none⟩ = some (.slice none 0 0) := cell_blk HP2.out.z 3 _ rfl
      have z4 : w2.cell? ⟨w.heap.size, 4, none⟩ = some (.slice none 0 0) := cell_blk HP2.out.z 4 _ rfl
      have z5 : w2.cell? ⟨w.heap.size, 5, none⟩ = some (.slice none 0 0) := cell_blk HP2.out.z 5 _ rfl
      have f0 : w2.frozen? ⟨w.heap.size, 0, none⟩ = false := free_blk HP2.out.z 0
      have f1 : w2.frozen? ⟨w.heap.size, 1, none⟩ = false := free_blk HP2.out.z 1
      have f2 : w2.frozen? ⟨w.heap.size, 2, none⟩ = false := free_blk HP2.out.z 2
      have f3 : w2.frozen? ⟨w.heap.size, 3, none⟩ = false := free_blk HP2.out.z 3
      have f4 : w2.frozen? ⟨w.heap.size, 4, none⟩ = false := free_blk HP2.out.z 4
      have f5 : w2.frozen? ⟨w.heap.size, 5, none⟩ = false := free_blk HP2.out.z 5
      have hl2 := HP2.out.lt
      have g0 : w.heap.size < w2.heap.size := by omega
      clear hb2 d0 d1 d2 d3 d4 d5
      go_wp2
      obtain ⟨wf, hwf⟩ : ∃ wf, wf = (((((w2.setCell ⟨w.heap.size, 0, none⟩ (.int .i64 1)).setCell ⟨w.heap.size, 1, none⟩ (.slice (some ⟨g1, 0, none⟩) 1 c1)).setCell ⟨w.heap.size, 2, none⟩ (.slice (some ⟨g2, 0, none⟩) 1 c2)).setCell ⟨w.heap.size, 3, none⟩ (.slice none 0 0)).setCell ⟨w.heap.size, 4, none⟩ (.slice none 0 0)).setCell ⟨w.heap.size, 5, none⟩ (.slice none 0 0) := ⟨_, rfl⟩
      rw [← hwf]
      obtain ⟨hfin, ht, HPF⟩ := parse_fin HP2.out.z HA2.out wf hwf
      have a0 := cell_blk hfin 0 (.int .i64 1) rfl
      have a1 := cell_blk hfin 1 (.slice (some ⟨g1, 0, none⟩) 1 c1) rfl
      have a2 := cell_blk hfin 2 (.slice (some ⟨g2, 0, none⟩) 1 c2) rfl
      have a3 := cell_blk hfin 3 (.slice none 0 0) rfl
      have a4 := cell_blk hfin 4 (.slice none 0 0) rfl
      have a5 := cell_blk hfin 5 (.slice none 0 0) rfl
      have HPG : Hid (PlanGiven (.int .i64 0) w (.returned (.tuple #[.agg #[.int .i64 1, .slice (some ⟨g1, 0, none⟩) 1 c1, .slice (some ⟨g2, 0, none⟩) 1 c2, .slice none 0 0, .slice none 0 0, .slice none 0 0], .int .i64 0])) wf) := Lib.hid ⟨⟨g1, c1, g2, c2, g3, c3, rfl, HPF⟩, HP2.out.bl.trans (ht.below (Nat.le_of_lt g0))⟩
      clear hwf hfin ht HPF
      exact bodyPost_ret (v := .tuple #[.agg #[.int .i64 1, .slice (some ⟨g1, 0, none⟩) 1 c1, .slice (some ⟨g2, 0, none⟩) 1 c2, .slice none 0 0, .slice none 0 0, .slice none 0 0], .int .i64 0]) (by simp [results, Tryz.results5, go_sem, a0, a1, a2, a3, a4, a5]) rfl HPG.out
end Go.Proofs.YtenjefbplpbjaaaGreatDoor
namespace Go.Proofs.YtenjefbplpbjaaaGreatDoor
open Go.RowKit Go.Sort Cal Go.Maps
def zerosB (n : Nat) : ByteArray := ⟨(List.replicate n (0 : UInt8)).toArray⟩
theorem zerosB_size (n : Nat) : (zerosB n).size = n := by show (List.replicate n (0 : UInt8)).toArray.size = n; simp
theorem zerosB_at (n i : Nat) (h : i < (zerosB n).size) : ((zerosB n)[i]'h).toNat = 0 := by
  have : (zerosB n)[i]'h = 0 := by
    show (List.replicate n (0 : UInt8)).toArray[i]'_ = 0
    simp
  rw [this]; rfl
theorem zerosB_suffix (n : Nat) : Lib.hasSuffix (zerosB n).data.toList [10] = false := by
  have hn : ¬ (List.isSuffixOf [10] (List.replicate n (0 : UInt8)) = true) := by
    intro h
    rw [List.isSuffixOf_iff_suffix] at h
    have h1 := h.subset (List.mem_singleton.2 rfl)
    have h2 := List.eq_of_mem_replicate h1
    exact absurd h2 (by decide)
  show List.isSuffixOf [10] (List.replicate n (0 : UInt8)).toArray.toList = false
  simp [hn]
theorem bytes_zero (w : World) (m n : Nat) (h : n ≤ m) : Lib.Bytes (w.alloc (.cells (madeCells #[.int .u8 0] m) 5)) w.heap.size 0 (zerosB n) := by
  intro i hi
  rw [zerosB_at n i hi]
  rw [zerosB_size] at hi
  have e : (madeCells #[.int .u8 0] m)[i]? = some (.int .u8 0) := by
    unfold madeCells
    rw [Array.getElem?_map, Array.getElem?_range]
    simp [show i < m by omega, Nat.mod_one]
  have hb : (w.alloc (.cells (madeCells #[.int .u8 0] m) 5)).heap[w.heap.size]? = some (.cells (madeCells #[.int .u8 0] m) 5 (0, 0)) := by
    show (Array.push w.heap _)[_]? = _
    rw [Array.getElem?_push, if_pos rfl]
  rw [Nat.zero_add]
  exact cell_blk hb i _ e
theorem zp_new (w : World) : (w.alloc (.cells #[.int .i64 0, .slice none 0 0, .slice none 0 0, .slice none 0 0, .slice none 0 0, .slice none 0 0] 28)).heap[w.heap.size]? = some (.cells #[.int .i64 0, .slice none 0 0, .slice none 0 0, .slice none 0 0, .slice none 0 0, .slice none 0 0] 28 (0, 0)) := by
  show (Array.push w.heap _)[_]? = _
  rw [Array.getElem?_push, if_pos rfl]
theorem zp_fin {w0 w : World} {b : Nat} (hb : w.heap[b]? = some (.cells #[.int .i64 0, .slice none 0 0, .slice none 0 0, .slice none 0 0, .slice none 0 0, .slice none 0 0] 28 (0, 0))) (hbl : Below b w0 w) :
    ∀ wf, wf = ((((((w.setCell ⟨b, 0, none⟩ (.int .i64 0)).setCell ⟨b, 1, none⟩ (.slice none 0 0)).setCell ⟨b, 2, none⟩ (.slice none 0 0)).setCell ⟨b, 3, none⟩ (.slice none 0 0)).setCell ⟨b, 4, none⟩ (.slice none 0 0)).setCell ⟨b, 5, none⟩ (.slice none 0 0)) → wf.heap[b]? = some (.cells #[.int .i64 0, .slice none 0 0, .slice none 0 0, .slice none 0 0, .slice none 0 0, .slice none 0 0] 28 (0, 0)) ∧ Below b w0 wf := by
  intro wf hwf
  have hk := (set_blk (set_blk (set_blk (set_blk (set_blk (set_blk hb 0 (.int .i64 0)) 1 (.slice none 0 0)) 2 (.slice none 0 0)) 3 (.slice none 0 0)) 4 (.slice none 0 0)) 5 (.slice none 0 0))
  have hl := ((((((hbl.setCell (p := ⟨b, 0, none⟩) (Nat.le_refl b) (.int .i64 0)).setCell (p := ⟨b, 1, none⟩) (Nat.le_refl b) (.slice none 0 0)).setCell (p := ⟨b, 2, none⟩) (Nat.le_refl b) (.slice none 0 0)).setCell (p := ⟨b, 3, none⟩) (Nat.le_refl b) (.slice none 0 0)).setCell (p := ⟨b, 4, none⟩) (Nat.le_refl b) (.slice none 0 0)).setCell (p := ⟨b, 5, none⟩) (Nat.le_refl b) (.slice none 0 0))
  rw [← hwf] at hk hl
  exact ⟨by simpa using hk, hl⟩
set_option maxRecDepth 100000 in
set_option maxHeartbeats 800000 in
theorem read_bad (s : ByteArray) (w : World) (hs : s.size ≤ 1000000) (hn : Lib.hasSuffix s.data.toList [10] = false) :
    Calls Tryz.prog 23 #[.string s] w fun e w' => e = .returned (.tuple #[.agg #[.int .i64 0, .slice none 0 0, .slice none 0 0, .slice none 0 0, .slice none 0 0, .slice none 0 0], .bool false]) ∧ Below w.heap.size w w' := by
  have HS := Lib.hid hs
  have HN := Lib.hid hn
  have hz := zp_new w
  have HZ := Lib.hid hz
  have HB := Lib.hid (chainAlloc (Below.refl w.heap.size w) (.cells #[.int .i64 0, .slice none 0 0, .slice none 0 0, .slice none 0 0, .slice none 0 0, .slice none 0 0] 28))
  clear hs hn hz
  go_enter Tryz.func23, Tryz.ntmps23
  go_wp2_with fail
  refine (Tryz.strings_CutSuffix s ⟨#[10]⟩ _ (by have := HS.out; omega)).mono ?_
  rintro e w1 ⟨rfl, rfl⟩
  rw [HN.out]
  obtain ⟨W1, hW1⟩ : ∃ W, W = w.alloc (.cells #[.int .i64 0, .slice none 0 0, .slice none 0 0, .slice none 0 0, .slice none 0 0, .slice none 0 0] 28) := ⟨_, rfl⟩
  rw [← hW1] at HZ HB ⊢
  clear hW1
  have d0 : W1.cell? ⟨w.heap.size, 0, none⟩ = some (.int .i64 0) := cell_blk HZ.out 0 _ rfl
  have d1 : W1.cell? ⟨w.heap.size, 1, none⟩ = some (.slice none 0 0) := cell_blk HZ.out 1 _ rfl
  have d2 : W1.cell? ⟨w.heap.size, 2, none⟩ = some (.slice none 0 0) := cell_blk HZ.out 2 _ rfl
  have d3 : W1.cell? ⟨w.heap.size, 3, none⟩ = some (.slice none 0 0) := cell_blk HZ.out 3 _ rfl
  have d4 : W1.cell? ⟨w.heap.size, 4, none⟩ = some (.slice none 0 0) := cell_blk HZ.out 4 _ rfl
  have d5 : W1.cell? ⟨w.heap.size, 5, none⟩ = some (.slice none 0 0) := cell_blk HZ.out 5 _ rfl
  have f0 : W1.frozen? ⟨w.heap.size, 0, none⟩ = false := free_blk HZ.out 0
  have f1 : W1.frozen? ⟨w.heap.size, 1, none⟩ = false := free_blk HZ.out 1
  have f2 : W1.frozen? ⟨w.heap.size, 2, none⟩ = false := free_blk HZ.out 2
  have f3 : W1.frozen? ⟨w.heap.size, 3, none⟩ = false := free_blk HZ.out 3
  have f4 : W1.frozen? ⟨w.heap.size, 4, none⟩ = false := free_blk HZ.out 4
  have f5 : W1.frozen? ⟨w.heap.size, 5, none⟩ = false := free_blk HZ.out 5
  have hl : w.heap.size < W1.heap.size := (Array.getElem?_eq_some_iff.1 HZ.out).1
  go_wp2
  obtain ⟨wf, hwf⟩ : ∃ wf, wf = ((((((W1.setCell ⟨w.heap.size, 0, none⟩ (.int .i64 0)).setCell ⟨w.heap.size, 1, none⟩ (.slice none 0 0)).setCell ⟨w.heap.size, 2, none⟩ (.slice none 0 0)).setCell ⟨w.heap.size, 3, none⟩ (.slice none 0 0)).setCell ⟨w.heap.size, 4, none⟩ (.slice none 0 0)).setCell ⟨w.heap.size, 5, none⟩ (.slice none 0 0)) := ⟨_, rfl⟩
  rw [← hwf]
  obtain ⟨hfin, hbf⟩ := zp_fin HZ.out HB.out wf hwf
  have a0 := cell_blk hfin 0 (.int .i64 0) rfl
  have a1 := cell_blk hfin 1 (.slice none 0 0) rfl
  have a2 := cell_blk hfin 2 (.slice none 0 0) rfl
  have a3 := cell_blk hfin 3 (.slice none 0 0) rfl
  have a4 := cell_blk hfin 4 (.slice none 0 0) rfl
  have a5 := cell_blk hfin 5 (.slice none 0 0) rfl
  clear hwf hfin
  exact bodyPost_ret (v := .tuple #[.agg #[.int .i64 0, .slice none 0 0, .slice none 0 0, .slice none 0 0, .slice none 0 0, .slice none 0 0], .bool false]) (by simp [results, Tryz.results23, go_sem, a0, a1, a2, a3, a4, a5]) rfl ⟨rfl, hbf⟩
set_option maxRecDepth 100000 in
set_option maxHeartbeats 800000 in
theorem parse_long (s : ByteArray) (w : World) (hs : s.size = 8193) :
    Calls Tryz.prog 9 #[.string s] w fun e w' => e = .returned (.tuple #[.agg #[.int .i64 0, .slice none 0 0, .slice none 0 0, .slice none 0 0, .slice none 0 0, .slice none 0 0], .int .i64 365]) ∧ Below w.heap.size w w' := by
  have hd : (8192 : Int) < (s.size : Int) := by omega
  clear hs
  have HZ := Lib.hid (zp_new w)
  have HB := Lib.hid (chainAlloc (Below.refl w.heap.size w) (.cells #[.int .i64 0, .slice none 0 0, .slice none 0 0, .slice none 0 0, .slice none 0 0, .slice none 0 0] 28))
  go_enter Tryz.func9, Tryz.ntmps9
  go_wp2
  first
    | (exact bodyPost_ret (v := .tuple #[.agg #[.int .i64 0, .slice none 0 0, .slice none 0 0, .slice none 0 0, .slice none 0 0, .slice none 0 0], .int .i64 365]) (by simp [results, Tryz.results9, go_sem]) rfl ⟨rfl, HB.out⟩)
    | (
      obtain ⟨wf, hwf⟩ : ∃ wf, wf = (((((((w.alloc (.cells #[.int .i64 0, .slice none 0 0, .slice none 0 0, .slice none 0 0, .slice none 0 0, .slice none 0 0] 28)).setCell ⟨w.heap.size, 0, none⟩ (.int .i64 0)).setCell ⟨w.heap.size, 1, none⟩ (.slice none 0 0)).setCell ⟨w.heap.size, 2, none⟩ (.slice none 0 0)).setCell ⟨w.heap.size, 3, none⟩ (.slice none 0 0)).setCell ⟨w.heap.size, 4, none⟩ (.slice none 0 0)).setCell ⟨w.heap.size, 5, none⟩ (.slice none 0 0)) := ⟨_, rfl⟩
      rw [← hwf]
      obtain ⟨hfin, hbf⟩ := zp_fin HZ.out HB.out wf hwf
      have a0 := cell_blk hfin 0 (.int .i64 0) rfl
      have a1 := cell_blk hfin 1 (.slice none 0 0) rfl
      have a2 := cell_blk hfin 2 (.slice none 0 0) rfl
      have a3 := cell_blk hfin 3 (.slice none 0 0) rfl
      have a4 := cell_blk hfin 4 (.slice none 0 0) rfl
      have a5 := cell_blk hfin 5 (.slice none 0 0) rfl
      clear hwf hfin
      exact bodyPost_ret (v := .tuple #[.agg #[.int .i64 0, .slice none 0 0, .slice none 0 0, .slice none 0 0, .slice none 0 0, .slice none 0 0], .int .i64 365]) (by simp [results, Tryz.results9, go_sem, a0, a1, a2, a3, a4, a5]) rfl ⟨rfl, hbf⟩)
set_option maxRecDepth 100000 in
set_option maxHeartbeats 800000 in
theorem parse_bad (s : ByteArray) (w : World) (hs : s.size = 8192) (hn : Lib.hasSuffix s.data.toList [10] = false) :
    Calls Tryz.prog 9 #[.string s] w fun e w' => e = .returned (.tuple #[.agg #[.int .i64 0, .slice none 0 0, .slice none 0 0, .slice none 0 0, .slice none 0 0, .slice none 0 0], .int .i64 366]) ∧ Below w.heap.size w w' := by
  have HN := Lib.hid hn
  have HZ := Lib.hid (zp_new w)
  have HB := Lib.hid (chainAlloc (Below.refl w.heap.size w) (.cells #[.int .i64 0, .slice none 0 0, .slice none 0 0, .slice none 0 0, .slice none 0 0, .slice none 0 0] 28))
  have hd : ¬ (8192 : Int) < (s.size : Int) := by omega
  have hd2 : Hid (s.size ≤ 1000000) := Lib.hid (by omega)
  clear hn hs
  go_enter Tryz.func9, Tryz.ntmps9
  go_wp2_with fail
  refine (read_bad s _ hd2.out HN.out).mono ?_
  rintro e w1 ⟨rfl, hb1⟩
  have HB1 := Lib.hid (chain0 HB.out hb1)
  have HZ1 := Lib.hid ((hb1.block w.heap.size (by simp)).trans HZ.out)
  have HB2 := Lib.hid (chainAlloc HB1.out (.cells #[.int .i64 0, .slice none 0 0, .slice none 0 0, .slice none 0 0, .slice none 0 0, .slice none 0 0] 28))
  have HZ2 : Hid ((w1.alloc (.cells #[.int .i64 0, .slice none 0 0, .slice none 0 0, .slice none 0 0, .slice none 0 0, .slice none 0 0] 28)).heap[w.heap.size]? = some (.cells #[.int .i64 0, .slice none 0 0, .slice none 0 0, .slice none 0 0, .slice none 0 0, .slice none 0 0] 28 (0, 0))) := Lib.hid (((chainAlloc (Below.refl w1.heap.size w1) _).block w.heap.size (Array.getElem?_eq_some_iff.1 HZ1.out).1).trans HZ1.out)
  clear hb1
  go_upto_region 4 with fail
  obtain ⟨W2, hW2⟩ : ∃ W, W = w1.alloc (.cells #[.int .i64 0, .slice none 0 0, .slice none 0 0, .slice none 0 0, .slice none 0 0, .slice none 0 0] 28) := ⟨_, rfl⟩
  rw [← hW2] at HZ2 HB2 ⊢
  clear hW2 HZ1 HB1 HZ HB
  have d0 : W2.cell? ⟨w.heap.size, 0, none⟩ = some (.int .i64 0) := cell_blk HZ2.out 0 _ rfl
  have d1 : W2.cell? ⟨w.heap.size, 1, none⟩ = some (.slice none 0 0) := cell_blk HZ2.out 1 _ rfl
  have d2 : W2.cell? ⟨w.heap.size, 2, none⟩ = some (.slice none 0 0) := cell_blk HZ2.out 2 _ rfl
  have d3 : W2.cell? ⟨w.heap.size, 3, none⟩ = some (.slice none 0 0) := cell_blk HZ2.out 3 _ rfl
  have d4 : W2.cell? ⟨w.heap.size, 4, none⟩ = some (.slice none 0 0) := cell_blk HZ2.out 4 _ rfl
  have d5 : W2.cell? ⟨w.heap.size, 5, none⟩ = some (.slice none 0 0) := cell_blk HZ2.out 5 _ rfl
  have f0 : W2.frozen? ⟨w.heap.size, 0, none⟩ = false := free_blk HZ2.out 0
  have f1 : W2.frozen? ⟨w.heap.size, 1, none⟩ = false := free_blk HZ2.out 1
  have f2 : W2.frozen? ⟨w.heap.size, 2, none⟩ = false := free_blk HZ2.out 2
  have f3 : W2.frozen? ⟨w.heap.size, 3, none⟩ = false := free_blk HZ2.out 3
  have f4 : W2.frozen? ⟨w.heap.size, 4, none⟩ = false := free_blk HZ2.out 4
  have f5 : W2.frozen? ⟨w.heap.size, 5, none⟩ = false := free_blk HZ2.out 5
  have hl : w.heap.size < W2.heap.size := (Array.getElem?_eq_some_iff.1 HZ2.out).1
  go_wp2
  obtain ⟨wf, hwf⟩ : ∃ wf, wf = ((((((W2.setCell ⟨w.heap.size, 0, none⟩ (.int .i64 0)).setCell ⟨w.heap.size, 1, none⟩ (.slice none 0 0)).setCell ⟨w.heap.size, 2, none⟩ (.slice none 0 0)).setCell ⟨w.heap.size, 3, none⟩ (.slice none 0 0)).setCell ⟨w.heap.size, 4, none⟩ (.slice none 0 0)).setCell ⟨w.heap.size, 5, none⟩ (.slice none 0 0)) := ⟨_, rfl⟩
  rw [← hwf]
  obtain ⟨hfin, hbf⟩ := zp_fin HZ2.out HB2.out wf hwf
  have a0 := cell_blk hfin 0 (.int .i64 0) rfl
  have a1 := cell_blk hfin 1 (.slice none 0 0) rfl
  have a2 := cell_blk hfin 2 (.slice none 0 0) rfl
  have a3 := cell_blk hfin 3 (.slice none 0 0) rfl
  have a4 := cell_blk hfin 4 (.slice none 0 0) rfl
  have a5 := cell_blk hfin 5 (.slice none 0 0) rfl
  clear hwf hfin
  exact bodyPost_ret (v := .tuple #[.agg #[.int .i64 0, .slice none 0 0, .slice none 0 0, .slice none 0 0, .slice none 0 0, .slice none 0 0], .int .i64 366]) (by simp [results, Tryz.results9, go_sem, a0, a1, a2, a3, a4, a5]) rfl ⟨rfl, hbf⟩
end Go.Proofs.YtenjefbplpbjaaaGreatDoor
