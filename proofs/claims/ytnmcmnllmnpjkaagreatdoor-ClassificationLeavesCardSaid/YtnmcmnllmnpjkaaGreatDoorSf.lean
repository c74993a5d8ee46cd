/- Small facts on slices of strings, for the seat of ClassificationLeaves. -/
import Derived.Test.YtnmcmnllmnpjkaaGreatDoorG9
namespace Go.Proofs.YtnmcmnllmnpjkaaGreatDoor
open Go.RowKit Go.Sort Cal Go.Maps
theorem getD_size (ss : List ByteArray) (n : Nat) (h : ∀ x ∈ ss, x.size ≤ n) (k : Nat) : (ss.getD k ByteArray.empty).size ≤ n := by
  by_cases hk : k < ss.length
  · rw [List.getD, List.getElem?_eq_getElem hk]; exact h _ (List.getElem_mem hk)
  · rw [List.getD, List.getElem?_eq_none (by omega)]; exact Nat.zero_le _
theorem strs_form {w : World} {sv : Value} {ss : List ByteArray} (h : StrsAt w sv ss) : ∃ q l c, sv = .slice q l c := by
  rcases h with ⟨_, p, c, e⟩ | ⟨_, b, off, cap, e, _⟩
  · exact ⟨_, _, _, e⟩
  · exact ⟨_, _, _, e⟩
end Go.Proofs.YtnmcmnllmnpjkaaGreatDoor
