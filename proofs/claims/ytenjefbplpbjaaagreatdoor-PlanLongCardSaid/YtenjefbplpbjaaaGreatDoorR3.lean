/- The reference's arithmetic at numbers of one limb: sizes, trimming, comparing. -/
import Derived.Test.YtenjefbplpbjaaaGreatDoorBs
namespace Go.Proofs.YtenjefbplpbjaaaGreatDoor
open Go.RowKit Go.Sort Cal Go.Maps
/-- A number of at most one limb; zero limbs above it are let in. -/
def RawAt (w : World) (v : Value) (N : Nat) : Prop :=
  (N = 0 ∧ ∃ a c, v = .slice (some a) 0 c) ∨
  (∃ b c, v = .slice (some ⟨b, 0, none⟩) 1 c ∧ 1 ≤ c ∧ b < w.heap.size ∧ w.cell? ⟨b, 0, none⟩ = some (.int .u32 N)) ∨
  (∃ b c, v = .slice (some ⟨b, 0, none⟩) 2 c ∧ 2 ≤ c ∧ b < w.heap.size ∧ w.cell? ⟨b, 0, none⟩ = some (.int .u32 N) ∧ w.cell? ⟨b, 1, none⟩ = some (.int .u32 0))
/-- The same without zero limbs. -/
def LimbAt (w : World) (v : Value) (N : Nat) : Prop :=
  (N = 0 ∧ ∃ a c, v = .slice (some a) 0 c) ∨
  (0 < N ∧ ∃ b c, v = .slice (some ⟨b, 0, none⟩) 1 c ∧ 1 ≤ c ∧ b < w.heap.size ∧ w.cell? ⟨b, 0, none⟩ = some (.int .u32 N))
theorem LimbAt.raw {w : World} {v : Value} {N : Nat} (h : LimbAt w v N) : RawAt w v N := by
  rcases h with h | ⟨_, h⟩
  · exact Or.inl h
  · exact Or.inr (Or.inl h)
theorem LimbAt.below {w w' : World} {v : Value} {N : Nat} (h : LimbAt w v N) (hb : Below w.heap.size w w') : LimbAt w' v N := by
  rcases h with h | ⟨h0, b, c, e, hc, hlt, h⟩
  · exact Or.inl h
  · exact Or.inr ⟨h0, b, c, e, hc, Nat.lt_of_lt_of_le hlt hb.size, (hb.cell (p := ⟨b, 0, none⟩) hlt).trans h⟩
theorem RawAt.below {w w' : World} {v : Value} {N : Nat} (h : RawAt w v N) (hb : Below w.heap.size w w') : RawAt w' v N := by
  rcases h with h | ⟨b, c, e, hc, hlt, h⟩ | ⟨b, c, e, hc, hlt, h, h1⟩
  · exact Or.inl h
  · exact Or.inr (Or.inl ⟨b, c, e, hc, Nat.lt_of_lt_of_le hlt hb.size, (hb.cell (p := ⟨b, 0, none⟩) hlt).trans h⟩)
  · exact Or.inr (Or.inr ⟨b, c, e, hc, Nat.lt_of_lt_of_le hlt hb.size, (hb.cell (p := ⟨b, 0, none⟩) hlt).trans h, (hb.cell (p := ⟨b, 1, none⟩) hlt).trans h1⟩)
/-- How many limbs. -/
def lim (N : Nat) : Int := if N = 0 then 0 else 1
theorem lim_zero : lim 0 = 0 := rfl
theorem lim_pos {N : Nat} (h : ¬ N = 0) : lim N = 1 := by unfold lim; rw [if_neg h]
set_option maxHeartbeats 800000 in
theorem size_raw (v : Value) (N : Nat) (w : World) (h : RawAt w v N) :
    Calls Tryz.prog 185 #[v] w fun e w' => e = .returned (.int .i64 (lim N)) ∧ w = w' := by
  rcases h with ⟨rfl, q, c, rfl⟩ | ⟨b, c, rfl, hc, hb, h0⟩ | ⟨b, c, rfl, hc, hb, h0, h1⟩
  · go_enter Tryz.func185, Tryz.ntmps185
    go_wp2_with fail
    go_loop [3] (fun k => k = .int .i64 0) (fun _ => 0)
    case atStart => rfl
    case round =>
      subst hrel
      go_wp2
      go_ret
      exact ⟨rfl, rfl⟩
  · by_cases hN : N = 0
    · subst hN
      go_enter Tryz.func185, Tryz.ntmps185
      go_wp2_with fail
      go_loop [3] (fun k => k = .int .i64 1 ∨ k = .int .i64 0) (fun k => (intOf k).toNat)
      case atStart => exact Or.inl rfl
      case round =>
        rcases hrel with rfl | rfl
        · go_wp2
          go_round
          case rel => exact Or.inr rfl
          case measure => simp [intOf]
        · go_wp2
          go_ret
          exact ⟨rfl, rfl⟩
    · have HL := Lib.hid (lim_pos hN)
      have hz : ((N : Int) == 0) = false := by simpa using hN
      clear hN
      go_enter Tryz.func185, Tryz.ntmps185
      go_wp2_with fail
      go_loop [3] (fun k => k = .int .i64 1) (fun _ => 0)
      case atStart => rfl
      case round =>
        subst hrel
        go_wp2
        go_ret
        exact ⟨by rw [HL.out]; rfl, rfl⟩
  · by_cases hN : N = 0
    · subst hN
      go_enter Tryz.func185, Tryz.ntmps185
      go_wp2_with fail
      go_loop [3] (fun k => k = .int .i64 2 ∨ k = .int .i64 1 ∨ k = .int .i64 0) (fun k => (intOf k).toNat)
      case atStart => exact Or.inl rfl
      case round =>
        rcases hrel with rfl | rfl | rfl
        · go_wp2
          go_round
          case rel => exact Or.inr (Or.inl rfl)
          case measure => simp [intOf]
        · go_wp2
          go_round
          case rel => exact Or.inr (Or.inr rfl)
          case measure => simp [intOf]
        · go_wp2
          go_ret
          exact ⟨rfl, rfl⟩
    · have HL := Lib.hid (lim_pos hN)
      have hz : ((N : Int) == 0) = false := by simpa using hN
      clear hN
      go_enter Tryz.func185, Tryz.ntmps185
      go_wp2_with fail
      go_loop [3] (fun k => k = .int .i64 2 ∨ k = .int .i64 1) (fun k => (intOf k).toNat)
      case atStart => exact Or.inl rfl
      case round =>
        rcases hrel with rfl | rfl
        · go_wp2
          go_round
          case rel => exact Or.inr rfl
          case measure => simp [intOf]
        · go_wp2
          go_ret
          exact ⟨by rw [HL.out]; rfl, rfl⟩
end Go.Proofs.YtenjefbplpbjaaaGreatDoor
