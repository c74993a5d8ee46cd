/- The tape: what Next does to it and gives; no condition but that it lies in a block of its own. -/
import Derived.Test.YtpknkomkldgnfaaDoorM1
namespace Go.Proofs.YtpknkomkldgnfaaDoor
open Go.RowKit Go.Sort Cal
/-- But for block b and new blocks nothing turns. -/
structure Touch (b : Nat) (w w' : World) : Prop where
  os : w'.os = w.os
  tape : w'.tape = w.tape
  output : w'.output = w.output
  size : w.heap.size ≤ w'.heap.size
  block : ∀ k, k < w.heap.size → k ≠ b → w'.heap[k]? = w.heap[k]?
theorem Touch.refl (b : Nat) (w : World) : Touch b w w := ⟨rfl, rfl, rfl, Nat.le_refl _, fun _ _ _ => rfl⟩
theorem Touch.trans {b : Nat} {u v w : World} (h : Touch b u v) (k : Touch b v w) : Touch b u w :=
  ⟨k.os.trans h.os, k.tape.trans h.tape, k.output.trans h.output, Nat.le_trans h.size k.size, fun i hi hn => (k.block i (Nat.lt_of_lt_of_le hi h.size) hn).trans (h.block i hi hn)⟩
theorem Touch.of_below {b : Nat} {w w' : World} (h : Below w.heap.size w w') : Touch b w w' := ⟨h.os, h.tape, h.output, h.size, fun k hk _ => h.block k hk⟩
theorem Touch.below {b : Nat} {w w' : World} (h : Touch b w w') (hb : b ≤ w.heap.size) : Below b w w' := ⟨h.os, h.tape, h.output, h.size, fun k hk => h.block k (by omega) (by omega)⟩
theorem Touch.set {b : Nat} {w w' : World} (h : Touch b w w') (j : Nat) (v : Value) : Touch b w (w'.setCell ⟨b, j, none⟩ v) :=
  h.trans ⟨rfl, rfl, rfl, by simp [World.setCell], fun k _ hn => Below.heap_setCell _ _ _ _ hn⟩
theorem Touch.drewN {b : Nat} {w w' : World} (h : Touch b w w') (n : Nat) : Touch b w (w'.drewN n) := h.trans (Touch.of_below (below_drewN (Below.refl _ _) n))
/-- A slice of integers in a block below m. -/
def IntsUnder (m : Nat) (w : World) (sv : Value) (zs : List Int) : Prop :=
  (zs = [] ∧ ∃ p c, sv = .slice p 0 c) ∨
  (0 < zs.length ∧ ∃ b off cap, sv = .slice (some ⟨b, off, none⟩) zs.length cap ∧ b < m ∧ ∀ j, j < zs.length → w.cell? ⟨b, off + j, none⟩ = some (.int .i64 (zs.getD j 0)))
theorem IntsUnder.touch {m b : Nat} {w w' : World} {sv : Value} {zs : List Int} (h : IntsUnder m w sv zs) (ht : Touch b w w') (hm : m ≤ b) (hb : b < w.heap.size) : IntsUnder m w' sv zs := by
  rcases h with h | ⟨h0, b', off, cap, e, hlt, hc⟩
  · exact Or.inl h
  · exact Or.inr ⟨h0, b', off, cap, e, hlt, fun j hj => (World.cell?_of_block (w := w) (w' := w') (a := ⟨b', off + j, none⟩) (ht.block b' (by omega) (by omega))).trans (hc j hj)⟩
/-- A tape in block b: what is still to be read, and how far it has been read. -/
structure TapeAt (b : Nat) (sv : Value) (zs : List Int) (i : Nat) (w : World) : Prop where
  blk : w.heap[b]? = some (.cells #[sv, .int .i64 (i : Int)] 32 (0, 0))
  ints : IntsUnder b w sv zs
  fits : Fits zs
theorem TapeAt.lt {b : Nat} {sv : Value} {zs : List Int} {i : Nat} {w : World} (h : TapeAt b sv zs i w) : b < w.heap.size := (Array.getElem?_eq_some_iff.1 h.blk).1
theorem TapeAt.below {b : Nat} {sv : Value} {zs : List Int} {i : Nat} {w w' : World} (h : TapeAt b sv zs i w) (hb : Below w.heap.size w w') : TapeAt b sv zs i w' :=
  ⟨(hb.block b h.lt).trans h.blk, h.ints.touch (Touch.of_below (b := b) hb) (Nat.le_refl _) h.lt, h.fits⟩
theorem TapeAt.step {b : Nat} {sv : Value} {zs : List Int} {i : Nat} {w : World} (h : TapeAt b sv zs i w) : TapeAt b sv zs (i + 1) (w.setCell ⟨b, 1, none⟩ (.int .i64 ((i : Int) + 1))) :=
  ⟨set_blk h.blk 1 _, h.ints.touch ((Touch.refl b w).set 1 _) (Nat.le_refl _) h.lt, h.fits⟩
def NextPost (b : Nat) (sv : Value) (zs : List Int) (i : Nat) (n : Int) (w : World) (e : Ending) (w' : World) : Prop :=
  e = .returned (.int .i64 (foldZ (zs.getD i 0) n)) ∧ TapeAt b sv zs (i + 1) w' ∧ Touch b w w'
set_option maxHeartbeats 800000 in
theorem next_any (b : Nat) (sv : Value) (zs : List Int) (i : Nat) (n : Int) (w : World) (hT : TapeAt b sv zs i w) (hi : i ≤ 1000000) (h1 : 1 ≤ n) (h2 : n ≤ 1000000) :
    Calls Tryd.prog 50 #[.pointer (some ⟨b, 0, none⟩), .int .i64 n] w (NextPost b sv zs i n w) := by
  have HT := Lib.hid hT
  have c0 := cell_blk hT.blk 0 sv rfl
  have c1 := cell_blk hT.blk 1 (.int .i64 (i : Int)) rfl
  have f1 := free_blk hT.blk 1
  have hmx : max n 1 = n := by omega
  have hlen := hT.fits.1
  have hin := hT.ints
  have hfit := Lib.hid hT.fits.2
  clear hT
  have fin : ∀ (v : Int) (d : Nat), v = zs.getD i 0 → NextPost b sv zs i n w (.returned (.int .i64 (foldZ v n))) ((w.drewN d).setCell ⟨b, 1, none⟩ (.int .i64 ((i : Int) + 1))) := fun v d e =>
    ⟨by rw [e], (HT.out.below (below_drewN (Below.refl _ _) d)).step, ((Touch.refl b w).drewN d).set 1 _⟩
  have FIN := Lib.hid fin
  clear fin
  by_cases hlt : i < zs.length
  · rcases hin with ⟨rfl, p, c, rfl⟩ | ⟨hp, b', off, cap, rfl, hb', hc⟩
    · simp at hlt
    have hcell := hc i hlt
    have hz := hfit.out i hlt
    clear hc
    obtain ⟨z, ez⟩ : ∃ z, z = zs.getD i 0 := ⟨_, rfl⟩
    have HE := Lib.hid ez
    rw [← ez] at hcell hz
    clear ez
    go_enter Tryd.func50, Tryd.ntmps50
    go_wp2
    go_quiet (fail)
    go_wp2
    go_quiet (fail)
    go_wp2
    go_ret
    have h := fun d => FIN.out z d HE.out
    rw [← fold_eq z n h1 h2] at h
    exact h _
  · have HE : Hid (0 = zs.getD i 0) := Lib.hid (by simp [List.getD, List.getElem?_eq_none (by omega : zs.length ≤ i)])
    have h0 : foldZ 0 n = 0 := by simp [foldZ]
    rcases hin with ⟨rfl, p, c, rfl⟩ | ⟨hp, b', off, cap, rfl, hb', hc⟩
    · clear hfit
      go_enter Tryd.func50, Tryd.ntmps50
      go_wp2
      go_quiet (fail)
      go_wp2
      go_ret
      have h := fun d => FIN.out 0 d HE.out
      rw [h0] at h
      exact h _
    · clear hc hfit
      have hlt' : zs.length ≤ i := by omega
      clear hlt
      go_enter Tryd.func50, Tryd.ntmps50
      go_wp2
      go_quiet (fail)
      go_wp2
      go_ret
      have h := fun d => FIN.out 0 d HE.out
      rw [h0] at h
      exact h _
end Go.Proofs.YtpknkomkldgnfaaDoor
