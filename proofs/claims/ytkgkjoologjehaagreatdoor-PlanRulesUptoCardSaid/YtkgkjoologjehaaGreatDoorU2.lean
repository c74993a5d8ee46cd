/- What the generators of a plan share: the tape read on, beside rows of the call's own; Codes, Steps. -/
import Derived.Test.YtkgkjoologjehaaGreatDoorQ12
import Derived.Test.YtkgkjoologjehaaGreatDoorU1
namespace Go.Proofs.YtkgkjoologjehaaGreatDoor
open Go.RowKit Go.Sort Cal Go.Maps
/-- The tape stands at its i-th number; since w0 nothing has turned but it and new blocks. -/
structure Gen (b : Nat) (sv : Value) (zs : List Int) (i : Nat) (w0 w : World) : Prop where
  tape : TapeAt b sv zs i w
  touch : Touch b w0 w
  lt : b < w0.heap.size
theorem Gen.start {b : Nat} {sv : Value} {zs : List Int} {i : Nat} {w : World} (h : TapeAt b sv zs i w) : Gen b sv zs i w w := ⟨h, Touch.refl _ _, h.lt⟩
theorem Gen.below {b : Nat} {sv : Value} {zs : List Int} {i : Nat} {w0 w w' : World} (h : Gen b sv zs i w0 w) (hb : Below w.heap.size w w') : Gen b sv zs i w0 w' := ⟨h.tape.below hb, h.touch.trans (Touch.of_below hb), h.lt⟩
theorem Gen.alloc {b : Nat} {sv : Value} {zs : List Int} {i : Nat} {w0 w : World} (h : Gen b sv zs i w0 w) (o : Obj) : Gen b sv zs i w0 (w.alloc o) := h.below ((Below.refl _ _).alloc (Nat.le_refl _) o)
theorem Gen.step {b : Nat} {sv : Value} {zs : List Int} {i i' : Nat} {w0 w w' : World} (h : Gen b sv zs i w0 w) (hT : TapeAt b sv zs i' w') (ht : Touch b w w') : Gen b sv zs i' w0 w' := ⟨hT, h.touch.trans ht, h.lt⟩
theorem Gen.grown {b : Nat} {sv : Value} {zs : List Int} {i : Nat} {w0 w w' : World} {row : Option Nat} (h : Gen b sv zs i w0 w) (hg : w.grownBy w' row) (hr : ∀ k, row = some k → w0.heap.size ≤ k) : Gen b sv zs i w0 w' :=
  ⟨h.tape.keep (fun k hk => hg.block k (by have := h.lt; have := h.touch.size; omega) (fun e => by have := hr k e.symm; have := h.lt; omega)), h.touch.grown hg hr, h.lt⟩
theorem Gen.size {b : Nat} {sv : Value} {zs : List Int} {i : Nat} {w0 w : World} (h : Gen b sv zs i w0 w) : w0.heap.size ≤ w.heap.size := h.touch.size
theorem Gen.own {b : Nat} {sv : Value} {zs : List Int} {i : Nat} {w0 w w' : World} (h : Gen b sv zs i w0 w) (ht : Touch b w w') {size n : Nat} {e : TypeId} {v : Value} {xs : List Value} (ho : w.ownsRow w0.heap.size e size v n xs) : w'.ownsRow w0.heap.size e size v n xs := ownsRow_touch ho ht h.lt
def NextGen (b : Nat) (sv : Value) (zs : List Int) (i : Nat) (n : Nat) (w0 w : World) (e : Ending) (w' : World) : Prop :=
  ∃ v : Nat, v < n ∧ e = .returned (.int .i64 (v : Int)) ∧ Gen b sv zs (i + 1) w0 w' ∧ Touch b w w'
theorem next_gen {b : Nat} {sv : Value} {zs : List Int} {i : Nat} {w0 w : World} (n : Nat) (h : Gen b sv zs i w0 w) (hi : i ≤ 1000000) (h1 : 1 ≤ n) (h2 : n ≤ 1000000) :
    Calls Tryz.prog 25 #[.pointer (some ⟨b, 0, none⟩), .int .i64 (n : Int)] w (NextGen b sv zs i n w0 w) :=
  (next_some b sv zs i n w h.tape hi (by omega) (by omega)).mono fun _ _ ⟨v, h0, hv, he, hT, ht⟩ => by
    obtain ⟨k, rfl⟩ := Int.eq_ofNat_of_zero_le h0
    exact ⟨k, by omega, he, h.step hT ht, ht⟩
/-- A list in memory of the call's own, and the tape read on. -/
def RowPost (t : TypeId) (size m d : Nat) (b : Nat) (sv : Value) (zs : List Int) (i : Nat) (w : World) (e : Ending) (w' : World) : Prop :=
  ∃ (v : Value) (n : Nat) (xs : List Value) (i' : Nat), e = .returned v ∧ w'.ownsRow w.heap.size t size v n xs ∧ n ≤ m ∧ i' ≤ i + d ∧ Gen b sv zs i' w w'
theorem codes_at (w : World) :
    Calls Tryz.prog 11 #[] w fun e w' => e = .returned (.slice (some ⟨w.heap.size, 0, none⟩) 4 4) ∧ w' = w.alloc (.cells #[.string ⟨#[48, 49]⟩, .string ⟨#[48, 49, 46, 49]⟩, .string ⟨#[48, 49, 46, 50]⟩, .string ⟨#[48, 50]⟩] 9) := by
  go_enter Tryz.func11, Tryz.ntmps11
  go_wp2
  go_ret
  exact ⟨rfl, rfl⟩
end Go.Proofs.YtkgkjoologjehaaGreatDoor
