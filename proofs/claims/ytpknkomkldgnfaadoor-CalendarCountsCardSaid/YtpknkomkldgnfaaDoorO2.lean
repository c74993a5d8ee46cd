/- What a law over slices of integers needs beside its walk: a slice that came in, read as a list. -/
import Derived.Test.YtpknkomkldgnfaaDoorO
import Derived.Test.YtpknkomkldgnfaaDoorM1
import Derived.Carry
namespace Go.Proofs.YtpknkomkldgnfaaDoor
open Go.ChangeShapes Go.WideShapes Go.ChangeAt Go.RowKit
theorem laidOut : laidOutB Tryd.prog = true := by kernel_rfl
theorem cells_int : Tryd.prog.cellsOf 3 = 1 := by kernel_rfl
set_option maxRecDepth 100000 in
/-- A slice of integers that came in. -/
theorem ints_of_trod {H : Type} {enc : TypeId × Value → H} {W : World} {b0 : Nat} {v : Value} {d : DataW H} {p : List MemPlace} (hv : Value.okWide Tryd.prog W .any b0 27 v)
    (h : DataW.Trod enc Tryd.prog W 0 (fun _ => true) true 27 v d p) : ∃ q n c zs, v = .slice q n c ∧ n = zs.length ∧ n ≤ c ∧ c ≤ maxLen ∧ IntsAt W v zs ∧ Fits zs := by
  obtain ⟨q, n, c, rfl⟩ := okWide_slice Tryd.underlying27 hv
  obtain ⟨fuel, hf⟩ := h
  rcases open_ints Tryd.underlying27 Tryd.underlying3 cells_int hf with ⟨hcs, _⟩ | ⟨a, n', c', zs, hcs, _, hl, hm, hz, _, hcell, hwf⟩
  · simp [Value.cells] at hcs
    obtain ⟨rfl, rfl, rfl⟩ := hcs
    exact ⟨none, 0, 0, [], rfl, rfl, by omega, by unfold maxLen; omega, Or.inl ⟨rfl, none, 0, rfl⟩, by simp [Fits]⟩
  · simp [Value.cells] at hcs
    obtain ⟨rfl, rfl, rfl⟩ := hcs
    simp at hz
    have hln : (zs.take n).length = n := by simp; omega
    have hget : ∀ j, j < n → (zs.take n).getD j 0 = zs.getD j 0 := fun j hj => by simp [List.getD, hj]
    refine ⟨some a, n, c, zs.take n, rfl, hln.symm, hl, hm, ?_, by rw [hln]; unfold maxLen at hm; omega, fun j hj => ?_⟩
    · by_cases h0 : 0 < n
      · obtain ⟨b, off, rfl, hc⟩ := ints_at hcell (by omega)
        refine Or.inr ⟨by omega, b, off, c, by rw [hln], ?_, fun j hj => ?_⟩
        · exact World.block_lt_of_cell? W _ (hc 0 (by omega))
        · rw [hln] at hj
          rw [hget j hj]
          exact hc j (by omega)
      · have : n = 0 := by omega
        subst this
        exact Or.inl ⟨by simp, some a, c, rfl⟩
    · rw [hln] at hj
      rw [hget j hj]
      have := hwf (zs[j]'(by omega)) (List.getElem_mem _)
      have e : zs.getD j 0 = zs[j]'(by omega) := by simp [List.getD, show j < zs.length from by omega]
      rw [e]
      exact int_range this
end Go.Proofs.YtpknkomkldgnfaaDoor
