/- The walk of CalendarMonths. -/
import Derived.Test.YtpknkomkldgnfaaDoorF2
namespace Go.Proofs.YtpknkomkldgnfaaDoor
open Go.RowKit Go.Sort Cal
/-- The cells of a block of the call's own stay as they are; what was there before the call stays. -/
structure Box (B : Nat) (w0 : World) (cs : List Value) (w : World) : Prop where
  c : ∀ j u, cs[j]? = some u → w.cell? ⟨B, j, none⟩ = some u
  sz : B < w.heap.size
  lo : w0.heap.size ≤ B
  bl : Below w0.heap.size w0 w
theorem Box.step {B : Nat} {w0 w w1 : World} {cs : List Value} (h : Box B w0 cs w) (hb : Below w.heap.size w w1) : Box B w0 cs w1 :=
  ⟨fun j u hj => (hb.cell (p := ⟨B, j, none⟩) h.sz).trans (h.c j u hj), Nat.lt_of_lt_of_le h.sz hb.size, h.lo, h.bl.trans (hb.mono (Nat.le_trans h.lo (Nat.le_of_lt h.sz)))⟩
theorem Box.new (w : World) (cs : List Value) (t : TypeId) : Box w.heap.size w cs (w.alloc (.cells cs.toArray t)) :=
  ⟨fun j u hj => by
    have hlt : j < cs.length := (List.getElem?_eq_some_iff.1 hj).1
    simp [hj], by simp, Nat.le_refl _, (Below.refl _ _).alloc (Nat.le_refl _) _⟩
set_option maxHeartbeats 800000 in
theorem months_walk (p : Int) (hlo : -9223372036854775808 ≤ p) (hhi : p ≤ 9223372036854775807) (w : World) (hT : Tab w) :
    Calls Tryd.prog 5 #[.int .i64 p] w fun e w' => e = .returned (.bool true) ∧ Below w.heap.size w w' := by
  have HT := Lib.hid hT
  clear hT
  have fb := fold_bd p 6000 (by omega)
  go_enter Tryd.func5, Tryd.ntmps5
  go_wp2_with (first
    | (go_at_call 19; refine (fold_any p 6000 _ (by omega) (by omega)).mono ?_; rintro e w' ⟨rfl, rfl⟩)
    | fail)
  go_loopw [10] (fun i wr => ∃ k : Nat, k ≤ 2 ∧ i = .int .i64 k ∧ Box w.heap.size w [.int .i64 p, .int .i64 (foldZ p 6000)] wr) (fun i _ => 2 - (intOf i).toNat)
  case atStart => exact ⟨0, by omega, rfl, Box.new w _ _⟩
  case round =>
    obtain ⟨k, hk, rfl, hB⟩ := hrel
    by_cases hlt : k < 2
    · obtain ⟨z, hz1, hz2, hz⟩ : ∃ z : Int, -9223372036854775808 ≤ z ∧ z ≤ 9223372036854775807 ∧ wr.cell? ⟨w.heap.size, k, none⟩ = some (.int .i64 z) := by
        have hk2 : k = 0 ∨ k = 1 := by omega
        rcases hk2 with rfl | rfl
        · exact ⟨p, hlo, hhi, hB.c 0 _ rfl⟩
        · exact ⟨foldZ p 6000, by omega, by omega, hB.c 1 _ rfl⟩
      go_wp2_with (first
        | (go_at_call 23; refine (Month_any z _).mono ?_; rintro e w' ⟨rfl, rfl⟩)
        | (go_at_call 24; refine (rMonth_any z _).mono ?_; rintro e w' ⟨rfl, rfl⟩)
        | (go_at_call 25; refine (firstDay_any z _ hz1 hz2).mono ?_; rintro e w1 ⟨rfl, hb1⟩)
        | (go_at_call 26; refine (rfirst_any z _).mono ?_; rintro e w' ⟨rfl, rfl⟩)
        | (go_at_call 27; refine (lastDay_any z _).mono ?_; rintro e w2 ⟨rfl, hb2⟩)
        | (go_at_call 28; refine (rlastDay_any z _).mono ?_; rintro e w' ⟨rfl, rfl⟩)
        | (go_at_call 29; refine (december_any z _).mono ?_; rintro e w' ⟨rfl, rfl⟩)
        | (go_at_call 30; refine (rdecember_any z _).mono ?_; rintro e w' ⟨rfl, rfl⟩)
        | fail)
      go_roundw
      case rel => exact ⟨k + 1, by omega, by go_num, (hB.step hb1).step hb2⟩
      case measure => simp [intOf]; omega
    · obtain rfl : k = 2 := by omega
      have hbl := hB.bl
      go_wp2_with (first
        | (go_at_call 18; refine (awake_any _ (HT.out.below hbl)).mono ?_; rintro e w1 ⟨rfl, hb1⟩)
        | fail)
      go_ret
      exact ⟨rfl, hbl.trans (hb1.mono hbl.size)⟩
end Go.Proofs.YtpknkomkldgnfaaDoor
