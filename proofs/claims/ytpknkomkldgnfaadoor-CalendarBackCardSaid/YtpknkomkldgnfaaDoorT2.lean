/- The holidays that a tape gives: a short list in new memory. -/
import Derived.Test.YtpknkomkldgnfaaDoorT1
import Derived.Deep.AppendLies
namespace Go.Proofs.YtpknkomkldgnfaaDoor
open Go.RowKit Go.Sort Cal
def SomePost (b : Nat) (sv : Value) (zs : List Int) (i : Nat) (n : Int) (w : World) (e : Ending) (w' : World) : Prop :=
  ∃ v : Int, 0 ≤ v ∧ v < n ∧ e = .returned (.int .i64 v) ∧ TapeAt b sv zs (i + 1) w' ∧ Touch b w w'
theorem next_some (b : Nat) (sv : Value) (zs : List Int) (i : Nat) (n : Int) (w : World) (hT : TapeAt b sv zs i w) (hi : i ≤ 1000000) (h1 : 1 ≤ n) (h2 : n ≤ 1000000) :
    Calls Tryd.prog 50 #[.pointer (some ⟨b, 0, none⟩), .int .i64 n] w (SomePost b sv zs i n w) :=
  (next_any b sv zs i n w hT hi h1 h2).mono fun _ _ ⟨he, ht, hk⟩ => ⟨_, (fold_bd _ _ h1).1, (fold_bd _ _ h1).2, he, ht, hk⟩
theorem Touch.grown {b : Nat} {w0 w1 w2 : World} {row : Option Nat} (h : Touch b w0 w1) (hg : w1.grownBy w2 row) (hr : ∀ k, row = some k → w0.heap.size ≤ k) : Touch b w0 w2 :=
  ⟨hg.os.trans h.os, hg.tape.trans h.tape, hg.output.trans h.output, Nat.le_trans h.size hg.size, fun k hk hn => (hg.block k (Nat.lt_of_lt_of_le hk h.size) (fun e => by have := hr k e.symm; omega)).trans (h.block k hk hn)⟩
theorem TapeAt.keep {b : Nat} {sv : Value} {zs : List Int} {i : Nat} {w w' : World} (h : TapeAt b sv zs i w) (hk : ∀ k, k ≤ b → w'.heap[k]? = w.heap[k]?) : TapeAt b sv zs i w' := by
  refine ⟨(hk b (Nat.le_refl _)).trans h.blk, ?_, h.fits⟩
  rcases h.ints with h0 | ⟨h0, b', off, cap, e, hlt, hc⟩
  · exact Or.inl h0
  · exact Or.inr ⟨h0, b', off, cap, e, hlt, fun j hj => (World.cell?_of_block (w := w) (w' := w') (a := ⟨b', off + j, none⟩) (hk b' (by omega))).trans (hc j hj)⟩
theorem ownsRow_touch {b : Nat} {w w' : World} {base size n : Nat} {e : TypeId} {v : Value} {xs : List Value} (h : w.ownsRow base e size v n xs) (ht : Touch b w w') (hb : b < base) : w'.ownsRow base e size v n xs := by
  refine ⟨h.1, ?_⟩
  rcases h.2 with h0 | ⟨g, cap, cur, hv, hbase, hblk, h1, h2, h3, h4⟩
  · exact Or.inl h0
  · exact Or.inr ⟨g, cap, cur, hv, hbase, (ht.block g (Array.getElem?_eq_some_iff.1 hblk).1 (by omega)).trans hblk, h1, h2, h3, h4⟩
/-- What a call owns reads as a slice of integers. -/
theorem ints_of_own {w : World} {base n : Nat} {v : Value} {xs : List Int} (h : w.ownsRow base 3 1 v n (xs.map (Value.int .i64))) (hn : n = xs.length) : IntsAt w v xs := by
  subst hn
  by_cases h0 : 0 < xs.length
  · obtain ⟨g, cap, rfl, _, hlt⟩ := World.ownsRow.form h h0
    refine Or.inr ⟨h0, g, 0, cap, rfl, hlt, fun j hj => ?_⟩
    have := h.cellAt j (by omega)
    rw [Nat.zero_add, this]
    simp [List.getD, hj]
  · have e : xs = [] := List.eq_nil_of_length_eq_zero (by omega)
    subst e
    refine Or.inl ⟨rfl, ?_⟩
    rcases h.2 with ⟨hv, _⟩ | ⟨g, cap, cur, hv, _⟩
    · exact ⟨_, _, hv⟩
    · exact ⟨_, _, hv⟩
theorem info3p : (Tryd.prog.info? 3).map (fun i => (i.zero, i.size, i.bytes)) = some (some (.int .i64 0), 1, 8) := by kernel_rfl
def Near (xs : List Int) : Prop := ∀ j, j < xs.length → -9999 ≤ xs.getD j 0 ∧ xs.getD j 0 ≤ 300000
theorem Near.snoc {xs : List Int} (h : Near xs) (x : Int) (hx : -9999 ≤ x ∧ x ≤ 300000) : Near (xs ++ [x]) := by
  intro j hj
  simp at hj
  by_cases e : j < xs.length
  · rw [show (xs ++ [x]).getD j 0 = xs.getD j 0 from by simp [List.getD, List.getElem?_append_left e]]
    exact h j e
  · have : j = xs.length := by omega
    subst this
    simpa [List.getD] using hx
theorem Near.fits {xs : List Int} (h : Near xs) (hl : xs.length ≤ 1000) : Fits xs := ⟨by omega, fun j hj => by have := h j hj; omega⟩
def HolPost (b : Nat) (w : World) (e : Ending) (w' : World) : Prop :=
  ∃ sv xs, e = .returned sv ∧ IntsAt w' sv xs ∧ xs.length ≤ 13 ∧ Near xs ∧ Touch b w w'
set_option maxRecDepth 100000 in
set_option maxHeartbeats 1600000 in
theorem hol_any (b : Nat) (sv : Value) (zs : List Int) (i : Nat) (day : Int) (w : World) (hT : TapeAt b sv zs i w) (hi : i ≤ 1000) (h1 : 0 ≤ day) (h2 : day ≤ 200000) :
    Calls Tryd.prog 20 #[.pointer (some ⟨b, 0, none⟩), .int .i64 day] w (HolPost b w) := by
  have hbw := hT.lt
  have HT := Lib.hid hT
  clear hT
  obtain ⟨i0, hi0, hz0, hz1, hz2⟩ := info_parts info3p
  go_enter Tryd.func20, Tryd.ntmps20
  go_wp2_with (first
    | (go_at_call 50; refine (next_some b sv zs i 12 _ HT.out (by omega) (by omega) (by omega)).mono ?_; rintro e w1 ⟨c, hc0, hc1, rfl, hT1, ht1⟩)
    | fail)
  have HT1 := Lib.hid hT1
  have HK1 := Lib.hid ht1
  clear hT1 ht1
  go_loopw [5, 8] (fun v q wr => ∃ (k : Nat) (xs : List Int), (k : Int) ≤ c ∧ q = .int .i64 k ∧ xs.length = k ∧ Near xs ∧ wr.ownsRow w.heap.size 3 1 v k (xs.map (Value.int .i64)) ∧ TapeAt b sv zs (i + 1 + k) wr ∧ Touch b w wr) (fun _ q _ => c.toNat - (intOf q).toNat)
  case atStart => exact ⟨0, [], by omega, rfl, rfl, fun j hj => by simp at hj, World.ownsRow_nil _ _ _ _, HT1.out, HK1.out⟩
  case round =>
    obtain ⟨k, xs, hk, rfl, hxl, hnear, hown, hTr, hTo⟩ := hrel
    have HXL := Lib.hid hxl
    have HNE := Lib.hid hnear
    have HTR := Lib.hid hTr
    have HTO := Lib.hid hTo
    clear hxl hnear hTr hTo
    by_cases hlt : (k : Int) < c
    · go_wp2_with (first
        | (go_at_call 50; refine (next_some b sv zs (i + 1 + k) 21 _ HTR.out (by omega) (by omega) (by omega)).mono ?_; rintro e w2 ⟨x, hx0, hx1, rfl, hT2, ht2⟩; have hown1 := ownsRow_touch hown ht2 hbw; have HT2 := Lib.hid hT2; have HK2 := Lib.hid ht2; clear hT2 ht2)
        | (at_builtin; refine wpList_append_own _ rfl _ _ 27 rfl w.heap.size 3 i0 (.int .i64 0) 1 8 Tryd.underlying27 hi0 hz0 hz1 hz2 rfl (by decide) _ _ _ rfl (hown1.alloc _) ⟨w2.heap.size, 0, none⟩ 1 1 [.int .i64 (day - 10 + x)] rfl rfl ?c1 ?c2 ?c3 ?c4 ?c5 ?_)
        | fail)
      case c1 =>
        intro j u hj
        match j, hj with
        | 0, hj => simp at hj; subst hj; simp [Addr.add]
      case c2 => intro u hu; simp at hu; subst hu; rfl
      case c3 => unfold maxLen; omega
      case c4 => omega
      case c5 => have := HTO.out.size; have := HK2.out.size; simp; omega
      · intro v' w3 hown2 hgrow _
        have hown3 : w3.ownsRow w.heap.size 3 1 v' (k + 1) ((xs ++ [day - 10 + x]).map (Value.int .i64)) := by rw [List.map_append]; exact hown2
        have hlo := fun j hj => (hown1.lt j hj).1
        have hTo3 : Touch b w w3 := ((HTO.out.trans HK2.out).trans (Touch.of_below ((Below.refl _ _).alloc (Nat.le_refl _) _))).grown hgrow hlo
        have hTa3 : TapeAt b sv zs (i + 1 + (k + 1)) w3 := (HT2.out.below ((Below.refl _ _).alloc (Nat.le_refl _) _)).keep (fun j hj => hgrow.block j (by have := HT2.out.lt; simp; omega) (fun e => by have := hlo j e.symm; omega))
        have HH := Lib.hid (And.intro hown3 (And.intro hTo3 hTa3))
        clear hown2 hgrow hown3 hTo3 hTa3 hlo
        go_wp2
        go_roundw
        case rel => exact ⟨k + 1, xs ++ [day - 10 + x], by omega, by go_num, by simp [HXL.out], HNE.out.snoc _ (by omega), HH.out.1, HH.out.2.2, HH.out.2.1⟩
        case measure => simp [intOf]; omega
    · go_wp2_with fail
      refine (next_some b sv zs (i + 1 + k) 3 _ HTR.out (by omega) (by omega) (by omega)).mono ?_
      rintro e w2 ⟨x, hx0, hx1, rfl, hT2, ht2⟩
      have hown1 := ownsRow_touch hown ht2 hbw
      have HT2 := Lib.hid hT2
      have HK2 := Lib.hid ht2
      clear hT2 ht2
      go_wp2_with fail
      refine (next_some b sv zs (i + 1 + k + 1) 3 _ HT2.out (by omega) (by omega) (by omega)).mono ?_
      rintro e w3 ⟨y, hy0, hy1, rfl, hT3, ht3⟩
      have hown2 := ownsRow_touch hown1 ht3 hbw
      have HK3 := Lib.hid ht3
      clear hT3 ht3
      go_wp2_with (first
        | (at_builtin; refine wpList_append_own _ rfl _ _ 27 rfl w.heap.size 3 i0 (.int .i64 0) 1 8 Tryd.underlying27 hi0 hz0 hz1 hz2 rfl (by decide) _ _ _ rfl (hown2.alloc _) ⟨w3.heap.size, 0, none⟩ 2 2 [.int .i64 (-1 - x), .int .i64 (182621 + y)] rfl rfl ?c1 ?c2 ?c3 ?c4 ?c5 ?_)
        | fail)
      case c1 =>
        intro j u hj
        match j, hj with
        | 0, hj => simp at hj; subst hj; simp [Addr.add]
        | 1, hj => simp at hj; subst hj; simp [Addr.add]
      case c2 => intro u hu; simp at hu; rcases hu with rfl | rfl <;> rfl
      case c3 => unfold maxLen; omega
      case c4 => omega
      case c5 => have := HTO.out.size; have := HK2.out.size; have := HK3.out.size; simp; omega
      · intro v' w4 hown3 hgrow _
        have hown4 : w4.ownsRow w.heap.size 3 1 v' (k + 2) (((xs ++ [-1 - x]) ++ [182621 + y]).map (Value.int .i64)) := by rw [List.map_append, List.map_append, List.append_assoc]; exact hown3
        have hlo := fun j hj => (hown2.lt j hj).1
        have hTo4 : Touch b w w4 := (((HTO.out.trans HK2.out).trans HK3.out).trans (Touch.of_below ((Below.refl _ _).alloc (Nat.le_refl _) _))).grown hgrow hlo
        have HH := Lib.hid (And.intro (ints_of_own hown4 (by simp [HXL.out])) hTo4)
        clear hown3 hgrow hown4 hTo4 hlo
        go_wp2
        go_ret
        exact ⟨v', (xs ++ [-1 - x]) ++ [182621 + y], rfl, HH.out.1, by simp [HXL.out]; omega, (HNE.out.snoc _ (by omega)).snoc _ (by omega), HH.out.2⟩
end Go.Proofs.YtpknkomkldgnfaaDoor
