/- What the laws on codes share: a slice cut short, a tape over a slice that came in, SameInts and SameStrings of equal lists, Format in one word. -/
import Derived.Test.YtnmcmnllmnpjkaaGreatDoorG7
namespace Go.Proofs.YtnmcmnllmnpjkaaGreatDoor
open Go.RowKit Go.Sort Cal Go.Maps
theorem Fits.take {zs : List Int} (h : Fits zs) (k : Nat) : Fits (zs.take k) := by
  refine ⟨by have := h.1; simp; omega, fun j hj => ?_⟩
  have hj' : j < k ∧ j < zs.length := by simpa [Nat.lt_min] using hj
  rw [show (zs.take k).getD j 0 = zs.getD j 0 from by simp [List.getD, hj'.1]]
  exact h.2 j hj'.2
/-- The first m elements of a slice that came in. -/
theorem IntsAt.cut {w : World} {q : Option Addr} {n c : Nat} {zs : List Int} (h : IntsAt w (.slice q n c) zs) (hn : n = zs.length) (m : Nat) (hm : 0 < m) : IntsAt w (.slice q (min (n : Int) (m : Int)).toNat c) (zs.take m) := by
  subst hn
  have e : (min (zs.length : Int) (m : Int)).toNat = min zs.length m := by omega
  rw [e]
  rcases h with ⟨rfl, _⟩ | ⟨h0, b, off, cap, he, hl, hb, hc⟩
  · exact Or.inl ⟨by simp, q, c, by simp⟩
  · cases he
    have hln : (zs.take m).length = min zs.length m := by simp; omega
    refine Or.inr ⟨by omega, b, off, c, by rw [hln], by omega, hb, fun j hj => ?_⟩
    rw [hln] at hj
    rw [show (zs.take m).getD j 0 = zs.getD j 0 from by simp [List.getD, show j < m from by omega]]
    exact hc j (by omega)
theorem ints_under {w : World} {sv : Value} {zs : List Int} (h : IntsAt w sv zs) (o : Obj) : IntsUnder w.heap.size (w.alloc o) sv zs := by
  rcases h with h | ⟨h0, b, off, cap, e, _, hlt, hc⟩
  · exact Or.inl h
  · exact Or.inr ⟨h0, b, off, cap, e, hlt, fun j hj => (((Below.refl _ _).alloc (Nat.le_refl _) o).cell (p := ⟨b, off + j, none⟩) hlt).trans (hc j hj)⟩
/-- A tape over a slice that came in, just made. -/
theorem tape_new {w : World} {sv : Value} {zs : List Int} (h : IntsAt w sv zs) (hf : Fits zs) : TapeAt w.heap.size sv zs 0 (w.alloc (.cells #[sv, .int .i64 0] 28)) :=
  ⟨by show (w.heap.push _)[_]? = _; rw [Array.getElem?_push, if_pos rfl]; rfl, ints_under h _, hf⟩
theorem format_any (sv : Value) (zs : List Int) (w : World) (hz : IntsAt w sv zs) (hl : zs.length ≤ 9223372036854775807) (hT : Tab w) :
    Calls Tryz.prog 48 #[sv] w fun e w' => e = .returned (FormatV zs) ∧ Below w.heap.size w w' := by
  unfold FormatV
  by_cases ho : okP zs
  · rw [if_pos ho]; exact format_yes sv zs w hz ho hT
  · rw [if_neg ho]; exact (format_no sv zs w hz hl ho).mono fun _ _ ⟨a, b⟩ => ⟨a, b ▸ Below.refl _ _⟩
theorem IntsAt.nil {w : World} (p : Option Addr) (c : Nat) : IntsAt w (.slice p 0 c) [] := Or.inl ⟨rfl, p, c, rfl⟩
end Go.Proofs.YtnmcmnllmnpjkaaGreatDoor
