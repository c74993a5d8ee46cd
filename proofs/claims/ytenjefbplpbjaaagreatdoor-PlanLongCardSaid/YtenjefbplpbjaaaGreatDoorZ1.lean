/- The long plan's expression (plain): what its nodes hold, what its texts are, what the texts of the plans are. -/
import Derived.Test.YtenjefbplpbjaaaGreatDoorQ12
import Derived.Test.YtenjefbplpbjaaaGreatDoorG5
namespace Go.Proofs.YtenjefbplpbjaaaGreatDoor
open Go.RowKit Go.Sort Cal Go.Maps
def refB : ByteArray := ⟨#[57, 57, 46, 57, 57, 46, 57, 57, 46, 57, 57, 46, 57, 57, 64, 97, 98, 99, 100, 101, 102, 103, 104, 105, 106, 107, 108, 109, 110, 111, 112, 113, 114, 115, 116, 117, 118, 119, 120]⟩
def regB : ByteArray := ⟨#[97, 98, 99, 100, 101, 102, 103, 104, 105, 106, 107, 108, 109, 110, 111, 112, 113, 114, 115, 116, 117, 118, 119, 120]⟩
def c99B : ByteArray := ⟨#[57, 57, 46, 57, 57, 46, 57, 57, 46, 57, 57, 46, 57, 57]⟩
def quoB : ByteArray := ⟨#[34, 57, 57, 46, 57, 57, 46, 57, 57, 46, 57, 57, 46, 57, 57, 64, 97, 98, 99, 100, 101, 102, 103, 104, 105, 106, 107, 108, 109, 110, 111, 112, 113, 114, 115, 116, 117, 118, 119, 120, 34]⟩
theorem quo_eq : (⟨#[34]⟩ : ByteArray) ++ refB ++ ⟨#[34]⟩ = quoB := by decide
/-- The text of the k-th min. -/
def minT : Nat → ByteArray
  | 0 => quoB
  | k + 1 => (((⟨#[109, 105, 110, 40]⟩ : ByteArray) ++ minT k) ++ ⟨#[44, 32]⟩) ++ quoB ++ ⟨#[41]⟩
theorem minT_size (k : Nat) : (minT k).size = 41 + 48 * k := by
  induction k with
  | zero => rfl
  | succ k ih =>
    simp only [minT, ByteArray.size_append, ih]
    have e1 : (⟨#[109, 105, 110, 40]⟩ : ByteArray).size = 4 := rfl
    have e2 : (⟨#[44, 32]⟩ : ByteArray).size = 2 := rfl
    have e3 : quoB.size = 41 := rfl
    have e4 : (⟨#[41]⟩ : ByteArray).size = 1 := rfl
    omega
/-- The text of the i-th node. -/
def nodeT (i : Nat) : ByteArray := if i % 2 = 1 then quoB else minT (i / 2)
theorem nodeT_odd (i : Nat) (h : i % 2 = 1) : nodeT i = quoB := by unfold nodeT; rw [if_pos h]
theorem nodeT_zero : nodeT 0 = quoB := rfl
theorem nodeT_min (i : Nat) (h : i % 2 = 0) (h0 : 0 < i) : nodeT i = (((⟨#[109, 105, 110, 40]⟩ : ByteArray) ++ nodeT (i - 2)) ++ ⟨#[44, 32]⟩) ++ nodeT (i - 1) ++ ⟨#[41]⟩ := by
  obtain ⟨k, rfl⟩ : ∃ k, i = 2 * k + 2 := ⟨i / 2 - 1, by omega⟩
  have a : nodeT (2 * k + 2) = minT (k + 1) := by unfold nodeT; rw [if_neg (by omega), show (2 * k + 2) / 2 = k + 1 by omega]
  have b : nodeT (2 * k + 2 - 2) = minT k := by unfold nodeT; rw [if_neg (by omega), show (2 * k + 2 - 2) / 2 = k by omega]
  have c : nodeT (2 * k + 2 - 1) = quoB := nodeT_odd _ (by omega)
  rw [a, b, c]; rfl
theorem nodeT_size (i : Nat) (h : i < 39) : (nodeT i).size ≤ 1000 := by
  unfold nodeT
  split
  · exact Nat.le_of_ble_eq_true rfl
  · rw [minT_size]; omega
theorem nodeT_38 : nodeT 38 = minT 19 := rfl
/-- A node without arguments, or the least of the two before it. -/
def isLeaf (i : Nat) : Bool := decide (i = 0) || decide (i % 2 = 1)
def nodeL (a : Nat → Nat) (i : Nat) : List Value :=
  if isLeaf i = true then [.int .i64 3, .string refB, .bool false, .slice none 0 0, .slice none 0 0, .slice none 0 0]
  else [.int .i64 8, .string ⟨#[]⟩, .bool false, .slice none 0 0, .slice none 0 0, .slice (some ⟨a i, 0, none⟩) 2 2]
theorem nodeL_len (a : Nat → Nat) (i : Nat) : (nodeL a i).length = 6 := by unfold nodeL; split <;> rfl
theorem nodeL_leaf (a : Nat → Nat) {i : Nat} (h : isLeaf i = true) : nodeL a i = [.int .i64 3, .string refB, .bool false, .slice none 0 0, .slice none 0 0, .slice none 0 0] := by unfold nodeL; rw [if_pos h]
theorem nodeL_min (a : Nat → Nat) {i : Nat} (h : isLeaf i = false) : nodeL a i = [.int .i64 8, .string ⟨#[]⟩, .bool false, .slice none 0 0, .slice none 0 0, .slice (some ⟨a i, 0, none⟩) 2 2] := by unfold nodeL; rw [if_neg (by rw [h]; decide)]
theorem leaf_iff (i : Nat) : isLeaf i = false ↔ (0 < i ∧ i % 2 = 0) := by unfold isLeaf; simp; omega
/-- The expression's nodes lie one behind the other in one block, the arguments of each min in a block of its own. -/
structure NodesAt (g : Nat) (a : Nat → Nat) (w : World) : Prop where
  lt : g < w.heap.size
  c : ∀ i j u, i < 39 → (nodeL a i)[j]? = some u → w.cell? ⟨g, i * 6 + j, none⟩ = some u
  al : ∀ i, i < 39 → isLeaf i = false → a i < w.heap.size
  a0 : ∀ i, i < 39 → isLeaf i = false → w.cell? ⟨a i, 0, none⟩ = some (.int .i64 ((i - 2 : Nat) : Int))
  a1 : ∀ i, i < 39 → isLeaf i = false → w.cell? ⟨a i, 1, none⟩ = some (.int .i64 ((i - 1 : Nat) : Int))
theorem NodesAt.below {g : Nat} {a : Nat → Nat} {w w' : World} (h : NodesAt g a w) (hb : Below w.heap.size w w') : NodesAt g a w' where
  lt := Nat.lt_of_lt_of_le h.lt hb.size
  c := fun i j u hi hj => (hb.cell (p := ⟨g, i * 6 + j, none⟩) h.lt).trans (h.c i j u hi hj)
  al := fun i hi hf => Nat.lt_of_lt_of_le (h.al i hi hf) hb.size
  a0 := fun i hi hf => (hb.cell (p := ⟨a i, 0, none⟩) (h.al i hi hf)).trans (h.a0 i hi hf)
  a1 := fun i hi hf => (hb.cell (p := ⟨a i, 1, none⟩) (h.al i hi hf)).trans (h.a1 i hi hf)
/-- The cells of the i-th node. -/
theorem NodesAt.leaf {g : Nat} {a : Nat → Nat} {w : World} (h : NodesAt g a w) {i : Nat} (hi : i < 39) (hl : isLeaf i = true) :
    w.cell? ⟨g, i * 6, none⟩ = some (.int .i64 3) ∧ w.cell? ⟨g, i * 6 + 1, none⟩ = some (.string refB) ∧ w.cell? ⟨g, i * 6 + 2, none⟩ = some (.bool false) ∧ w.cell? ⟨g, i * 6 + 3, none⟩ = some (.slice none 0 0) ∧ w.cell? ⟨g, i * 6 + 4, none⟩ = some (.slice none 0 0) ∧ w.cell? ⟨g, i * 6 + 5, none⟩ = some (.slice none 0 0) :=
  ⟨h.c i 0 _ hi (by rw [nodeL_leaf a hl]; rfl), h.c i 1 _ hi (by rw [nodeL_leaf a hl]; rfl), h.c i 2 _ hi (by rw [nodeL_leaf a hl]; rfl), h.c i 3 _ hi (by rw [nodeL_leaf a hl]; rfl), h.c i 4 _ hi (by rw [nodeL_leaf a hl]; rfl), h.c i 5 _ hi (by rw [nodeL_leaf a hl]; rfl)⟩
theorem NodesAt.min {g : Nat} {a : Nat → Nat} {w : World} (h : NodesAt g a w) {i : Nat} (hi : i < 39) (hl : isLeaf i = false) :
    w.cell? ⟨g, i * 6, none⟩ = some (.int .i64 8) ∧ w.cell? ⟨g, i * 6 + 1, none⟩ = some (.string ⟨#[]⟩) ∧ w.cell? ⟨g, i * 6 + 2, none⟩ = some (.bool false) ∧ w.cell? ⟨g, i * 6 + 3, none⟩ = some (.slice none 0 0) ∧ w.cell? ⟨g, i * 6 + 4, none⟩ = some (.slice none 0 0) ∧ w.cell? ⟨g, i * 6 + 5, none⟩ = some (.slice (some ⟨a i, 0, none⟩) 2 2) :=
  ⟨h.c i 0 _ hi (by rw [nodeL_min a hl]; rfl), h.c i 1 _ hi (by rw [nodeL_min a hl]; rfl), h.c i 2 _ hi (by rw [nodeL_min a hl]; rfl), h.c i 3 _ hi (by rw [nodeL_min a hl]; rfl), h.c i 4 _ hi (by rw [nodeL_min a hl]; rfl), h.c i 5 _ hi (by rw [nodeL_min a hl]; rfl)⟩
/-- The line of one definition; the text of a plan with n of them. -/
def lineB : ByteArray := (⟨#[105, 110, 100, 101, 120, 32, 121, 32, 61, 32]⟩ : ByteArray) ++ minT 19 ++ ⟨#[10]⟩
theorem lineB_size : lineB.size = 964 := by
  have e0 : lineB.size = ((⟨#[105, 110, 100, 101, 120, 32, 121, 32, 61, 32]⟩ : ByteArray) ++ minT 19 ++ ⟨#[10]⟩).size := rfl
  simp only [ByteArray.size_append] at e0
  have e3 := minT_size 19
  have e1 : (⟨#[105, 110, 100, 101, 120, 32, 121, 32, 61, 32]⟩ : ByteArray).size = 10 := rfl
  have e2 : (⟨#[10]⟩ : ByteArray).size = 1 := rfl
  omega
def planB : Nat → ByteArray
  | 0 => smallB
  | n + 1 => planB n ++ lineB
theorem planB_size (n : Nat) : (planB n).size = 59 + 964 * n := by
  induction n with
  | zero => rfl
  | succ n ih => rw [planB, ByteArray.size_append, ih, lineB_size]; omega
/-- The definitions of a plan: n of them, all of the one expression; dv is the list as a value. -/
structure DefsAt (g c : Nat) (n : Nat) (dv : Value) (w : World) : Prop where
  form : ∃ p cd, dv = .slice p n cd ∧ n ≤ cd ∧ ∀ i, i < n → ∃ b, p = some ⟨b, 0, none⟩ ∧ b < w.heap.size ∧ w.cell? ⟨b, i * 2, none⟩ = some (.string ⟨#[121]⟩) ∧ w.cell? ⟨b, i * 2 + 1, none⟩ = some (.slice (some ⟨g, 0, none⟩) 39 c)
theorem DefsAt.below {g c n : Nat} {dv : Value} {w w' : World} (h : DefsAt g c n dv w) (hb : Below w.heap.size w w') : DefsAt g c n dv w' := by
  obtain ⟨p, cd, e, hc, hf⟩ := h.form
  refine ⟨p, cd, e, hc, fun i hi => ?_⟩
  obtain ⟨b, e, hlt, c0, c1⟩ := hf i hi
  exact ⟨b, e, Nat.lt_of_lt_of_le hlt hb.size, (hb.cell (p := ⟨b, i * 2, none⟩) hlt).trans c0, (hb.cell (p := ⟨b, i * 2 + 1, none⟩) hlt).trans c1⟩
theorem DefsAt.none (g c : Nat) (w : World) : DefsAt g c 0 (.slice none 0 0) w := ⟨_, _, rfl, Nat.le_refl _, fun i hi => absurd hi (by omega)⟩
end Go.Proofs.YtenjefbplpbjaaaGreatDoor
