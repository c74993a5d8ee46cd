/- A slice of strings and a classification that came in, read as lists. -/
import Derived.Test.YtnmcmnllmnpjkaaGreatDoorOc
import Derived.Test.YtnmcmnllmnpjkaaGreatDoorG8
import Derived.SliceStrings
namespace Go.Proofs.YtnmcmnllmnpjkaaGreatDoor
open Go.ChangeShapes Go.WideShapes Go.ChangeAt Go.RowKit
theorem cells_str : Tryz.prog.cellsOf 9 = 1 := by kernel_rfl
theorem cells_class : Tryz.prog.cellsOf 24 = 2 := by kernel_rfl
set_option maxRecDepth 100000 in
/-- A slice of strings that came in. -/
theorem strs_of_open {H : Type} {enc : TypeId × Value → H} {W : World} {fuel : Nat} {cs : List Value} {x : DataW H × List MemPlace}
    (h : DataW.trod enc Tryz.prog W 0 (fun _ => true) true fuel 22 cs = some x) : ∃ q n c zs, cs = [.slice q n c] ∧ n = zs.length ∧ n ≤ c ∧ c ≤ maxLen ∧ StrsAt W (.slice q n c) zs ∧ ∀ s ∈ zs, s.size ≤ maxLen := by
  rcases open_strings Tryz.underlying22 Tryz.underlying9 cells_str h with ⟨rfl, _⟩ | ⟨a, n, c, ss, rfl, _, hl, hm, hz, _, hcell, hwf⟩
  · exact ⟨none, 0, 0, [], rfl, rfl, by omega, by unfold maxLen; omega, Or.inl ⟨rfl, none, 0, rfl⟩, fun s hs => by cases hs⟩
  · simp at hz
    have hln : (ss.take n).length = n := by simp; omega
    have hget : ∀ j, j < n → (ss.take n).getD j ByteArray.empty = ss.getD j ByteArray.empty := fun j hj => by simp [List.getD, hj]
    refine ⟨some a, n, c, ss.take n, rfl, hln.symm, hl, hm, ?_, fun s hs => hwf s (List.mem_of_mem_take hs)⟩
    by_cases h0 : 0 < n
    · obtain ⟨b, off, spot⟩ := a
      have hspot : spot = none := by simpa [Addr.add] using World.cell?_spot (hcell 0 (by omega))
      subst hspot
      have hc : ∀ j, j < ss.length → W.cell? ⟨b, off + j, none⟩ = some (.string (ss.getD j ByteArray.empty)) := fun j hj => by rw [← Go.WideShapes.add_plain]; exact hcell j hj
      refine Or.inr ⟨by omega, b, off, c, by rw [hln], by omega, World.block_lt_of_cell? W _ (hc 0 (by omega)), fun j hj => ?_⟩
      rw [hln] at hj
      rw [hget j hj]
      exact hc j (by omega)
    · have : n = 0 := by omega
      subst this
      exact Or.inl ⟨by simp, some a, c, rfl⟩
set_option maxRecDepth 100000 in
theorem strs_of_trod {H : Type} {enc : TypeId × Value → H} {W : World} {b0 : Nat} {v : Value} {d : DataW H} {p : List MemPlace} (hv : Value.okWide Tryz.prog W .any b0 22 v)
    (h : DataW.Trod enc Tryz.prog W 0 (fun _ => true) true 22 v d p) : ∃ q n c zs, v = .slice q n c ∧ n = zs.length ∧ n ≤ c ∧ c ≤ maxLen ∧ StrsAt W (.slice q n c) zs ∧ ∀ s ∈ zs, s.size ≤ maxLen := by
  obtain ⟨q, n, c, rfl⟩ := okWide_slice Tryz.underlying22 hv
  obtain ⟨fuel, hf⟩ := h
  obtain ⟨q', n', c', zs, hcs, h1, h2, h3, h4, h5⟩ := strs_of_open hf
  simp [Value.cells] at hcs
  obtain ⟨rfl, rfl, rfl⟩ := hcs
  exact ⟨q, n, c, zs, rfl, h1, h2, h3, h4, h5⟩
set_option maxRecDepth 100000 in
theorem class_of_trod {H : Type} {enc : TypeId × Value → H} {W : World} {b0 : Nat} {v : Value} {d : DataW H} {p : List MemPlace} (hv : Value.okWide Tryz.prog W .any b0 24 v)
    (h : DataW.Trod enc Tryz.prog W 0 (fun _ => true) true 24 v d p) : ∃ nm q n c zs, v = .agg #[.string nm, .slice q n c] ∧ n = zs.length ∧ n ≤ c ∧ c ≤ maxLen ∧ StrsAt W (.slice q n c) zs ∧ ∀ s ∈ zs, s.size ≤ maxLen := by
  obtain ⟨v0, v1, y0, y1, m, rfl, rfl, rfl, h0, h1⟩ := Go.Joins.open_agg2 Tryz.underlying24 (by kernel_rfl) cells_class hv h
  obtain ⟨s, e0, _, _⟩ := DataW.trod_string Tryz.underlying9 h0
  obtain ⟨q, n, c, zs, e1, k1, k2, k3, k4, k5⟩ := strs_of_open h1
  simp at e0 e1
  subst e0 e1
  exact ⟨s, q, n, c, zs, rfl, k1, k2, k3, k4, k5⟩
end Go.Proofs.YtnmcmnllmnpjkaaGreatDoor
