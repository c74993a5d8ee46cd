/- The reference's arithmetic at numbers of one limb: short division. -/
import Derived.Test.YtenjefbplpbjaaaGreatDoorR6
namespace Go.Proofs.YtenjefbplpbjaaaGreatDoor
open Go.RowKit Go.Sort Cal Go.Maps
theorem quo_nat (M b : Nat) : (M : Int).tdiv (b : Int) = ((M / b : Nat) : Int) := by
  rw [Int.tdiv_eq_ediv_of_nonneg (by omega)]; rfl
theorem rem_nat (M b : Nat) : (M : Int).tmod (b : Int) = ((M % b : Nat) : Int) := by
  rw [Int.tmod_eq_emod_of_nonneg (by omega)]; rfl
def ShortPost (M b : Nat) (w : World) (e : Ending) (w' : World) : Prop :=
  ∃ q, e = .returned (.tuple #[q, .int .u32 ((M % b : Nat) : Int)]) ∧ Fresh w.heap.size w' q (M / b) ∧ Below w.heap.size w w'
theorem Fresh.low {base base' : Nat} {w : World} {v : Value} {N : Nat} (h : Fresh base w v N) (hb : base' ≤ base) : Fresh base' w v N := by
  obtain ⟨b, c, e, h1, h2, h3⟩ := h.form
  exact ⟨b, c, e, h1, Nat.le_trans hb h2, h3⟩
set_option maxRecDepth 100000 in
set_option maxHeartbeats 1600000 in
theorem short_at (u : Value) (M b : Nat) (w : World) (hu : LimbAt w u M) (hM : M < 4294967296) (hb0 : 0 < b) (hb : b < 4294967296) :
    Calls Tryz.prog 195 #[u, .int .u32 b] w (ShortPost M b w) := by
  have HU := Lib.hid hu.raw
  clear hu
  by_cases h0 : M = 0
  · subst h0
    have HQ : Hid (0 / b = 0 ∧ 0 % b = 0) := Lib.hid ⟨Nat.zero_div _, Nat.zero_mod _⟩
    go_enter Tryz.func195, Tryz.ntmps195
    go_wp2_with fail
    refine (trim_raw _ 0 _ HU.out).mono ?_
    rintro e w1 ⟨v, rfl, hf, hb1⟩
    obtain ⟨g, c, rfl, hc, hg, hlt, hk⟩ := hf.form
    have HF := Lib.hid hf.limb.raw
    have HB1 := Lib.hid hb1
    rw [show limN 0 = 0 from rfl]
    clear hk hf hb1
    go_wp2_with fail
    go_loop [7, 8] (fun r i => r = .int .u64 0 ∧ i = .int .i64 (-1)) (fun _ _ => 0)
    case atStart => exact ⟨rfl, rfl⟩
    case round =>
      obtain ⟨rfl, rfl⟩ := hrel
      go_wp2_with fail
      refine (trim_raw _ 0 _ HF.out).mono ?_
      rintro e w2 ⟨v, rfl, hf2, hb2⟩
      have HP : Hid (ShortPost 0 b w (.returned (.tuple #[v, .int .u32 0])) w2) := Lib.hid ⟨v, by rw [HQ.out.2]; rfl, by rw [HQ.out.1]; exact hf2.low HB1.out.size, chain0 HB1.out hb2⟩
      clear hf2 hb2
      go_wp2_with fail
      go_ret2
      exact HP.out
  · have h1 : limN M = 1 := by unfold limN; rw [if_neg h0]
    have hor := or_zero M hM
    have hbz : ((b : Int) == 0) = false := by simp; omega
    obtain ⟨Q, hQ⟩ : ∃ Q, Q = M / b := ⟨_, rfl⟩
    obtain ⟨R, hR⟩ : ∃ R, R = M % b := ⟨_, rfl⟩
    have hql : Q < 4294967296 := by rw [hQ]; exact Nat.lt_of_le_of_lt (Nat.div_le_self _ _) hM
    have hrl : R < 4294967296 := by rw [hR]; exact Nat.lt_of_le_of_lt (Nat.mod_le _ _) hM
    have hq0 : (M : Int) / (b : Int) = (Q : Int) := by rw [hQ]; rfl
    have hr0 : (M : Int) % (b : Int) = (R : Int) := by rw [hR]; rfl
    have hqq : IntKind.u64.wrap (Q : Int) % 4294967296 = (Q : Int) := by rw [IntKind.wrap_u64]; omega
    have HQ := Lib.hid hQ
    have HR := Lib.hid hR
    clear hQ hR
    go_enter Tryz.func195, Tryz.ntmps195
    go_wp2_with fail
    refine (trim_raw _ M _ HU.out).mono ?_
    rintro e w1 ⟨v, rfl, hf, hb1⟩
    obtain ⟨g, c, rfl, hc, hg, hlt, hk⟩ := hf.form
    rw [h1] at hc ⊢
    obtain ⟨hcell, hfr⟩ := hk (by omega)
    have HB1 := Lib.hid hb1
    have HRW : Hid (RawAt (w1.setCell ⟨g, 0, none⟩ (.int .u32 (Q : Int))) (.slice (some ⟨g, 0, none⟩) 1 c) Q) := Lib.hid (Or.inr (Or.inl ⟨g, c, rfl, hc, by simpa [World.setCell] using hlt, World.cell?_setCell_same _ _ _ hcell⟩))
    have HBW : Hid (Below w.heap.size w (w1.setCell ⟨g, 0, none⟩ (.int .u32 (Q : Int)))) := Lib.hid (hb1.setCell (p := ⟨g, 0, none⟩) hg _)
    clear hk hf hb1
    go_wp2_with fail
    go_loopw [7, 8] (fun r i wr => (r = .int .u64 0 ∧ i = .int .i64 0 ∧ wr = w1) ∨ (r = .int .u64 (R : Int) ∧ i = .int .i64 (-1) ∧ wr = w1.setCell ⟨g, 0, none⟩ (.int .u32 (Q : Int)))) (fun _ i _ => (intOf i + 1).toNat)
    case atStart => exact Or.inl ⟨rfl, rfl, rfl⟩
    case round =>
      rcases hrel with ⟨rfl, rfl, rfl⟩ | ⟨rfl, rfl, rfl⟩
      · go_wp2
        go_roundw
        case rel => exact Or.inr ⟨by simp only [hr0], by first | rfl | trivial, by first | rfl | trivial⟩
        case measure => simp [intOf]
      · clear hcell hfr hq0 hr0
        go_wp2_with fail
        refine (trim_raw _ Q _ HRW.out).mono ?_
        rintro e w2 ⟨v, rfl, hf2, hb2⟩
        have HP : Hid (ShortPost M b w (.returned (.tuple #[v, .int .u32 (R : Int)])) w2) := Lib.hid ⟨v, by rw [← HR.out], by rw [← HQ.out]; exact hf2.low HBW.out.size, chain0 HBW.out hb2⟩
        clear hf2 hb2
        go_wp2_with fail
        go_ret2
        exact HP.out
end Go.Proofs.YtenjefbplpbjaaaGreatDoor
