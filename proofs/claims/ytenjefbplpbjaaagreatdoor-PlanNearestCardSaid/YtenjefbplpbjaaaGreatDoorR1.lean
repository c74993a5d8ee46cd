/- The rule of the nearest code: what the program computes of a list of rules, round by round. No program in sight, but for the cells of a list of rules. -/
import Derived.Test.YtenjefbplpbjaaaGreatDoorG5
namespace Go.Proofs.YtenjefbplpbjaaaGreatDoor
open Go.RowKit Go.Sort Cal Go.Maps
structure RuleR where
  c : ByteArray
  m : Int
  n : Int
  s : Int
def ruleL (r : RuleR) : List Value := [.string r.c, .int .i64 r.m, .int .i64 r.n, .int .i64 r.s]
def zeroR : RuleR := ⟨emptyB, 0, 0, 0⟩
/-- What has been found so far: the rule, whether there is one, the level of its code. -/
structure Acc where
  o : RuleR
  f : Bool
  l : Int
def takes (code : ByteArray) (a : Acc) (r : RuleR) : Bool := decide (a.l < levelV r.c) && withinB code r.c
def accStep (code : ByteArray) (a : Acc) (r : RuleR) : Acc := if takes code a r = true then ⟨r, true, levelV r.c⟩ else a
def accV (code : ByteArray) (RS : List RuleR) (k : Nat) : Acc := (RS.take k).foldl (accStep code) ⟨zeroR, false, -1⟩
theorem accV_succ (code : ByteArray) (RS : List RuleR) (k : Nat) (r : RuleR) (h : RS[k]? = some r) : accV code RS (k + 1) = accStep code (accV code RS k) r := by
  obtain ⟨hlt, e⟩ := List.getElem?_eq_some_iff.1 h
  unfold accV
  rw [List.take_succ_eq_append_getElem hlt, List.foldl_append, e]
  rfl
theorem accV_yes (code : ByteArray) (RS : List RuleR) (k : Nat) (r : RuleR) (h : RS[k]? = some r) (h1 : (accV code RS k).l < levelV r.c) (h2 : withinB code r.c = true) : accV code RS (k + 1) = ⟨r, true, levelV r.c⟩ := by
  rw [accV_succ code RS k r h, accStep, if_pos (by simp [takes, h1, h2])]
theorem accV_no1 (code : ByteArray) (RS : List RuleR) (k : Nat) (r : RuleR) (h : RS[k]? = some r) (h1 : ¬ (accV code RS k).l < levelV r.c) : accV code RS (k + 1) = accV code RS k := by
  rw [accV_succ code RS k r h, accStep, if_neg (by simp [takes, h1])]
theorem accV_no2 (code : ByteArray) (RS : List RuleR) (k : Nat) (r : RuleR) (h : RS[k]? = some r) (h2 : withinB code r.c = false) : accV code RS (k + 1) = accV code RS k := by
  rw [accV_succ code RS k r h, accStep, if_neg (by simp [takes, h2])]
/-- The rules of a list lie one behind the other in one block. -/
def RulesAt (w : World) (sv : Value) (RS : List RuleR) : Prop :=
  (RS = [] ∧ ∃ q c, sv = .slice q 0 c) ∨
  (0 < RS.length ∧ ∃ b c, sv = .slice (some ⟨b, 0, none⟩) RS.length c ∧ RS.length ≤ c ∧ b < w.heap.size ∧ ∀ j r, RS[j]? = some r →
    w.cell? ⟨b, j * 4, none⟩ = some (.string r.c) ∧ w.cell? ⟨b, j * 4 + 1, none⟩ = some (.int .i64 r.m) ∧ w.cell? ⟨b, j * 4 + 2, none⟩ = some (.int .i64 r.n) ∧ w.cell? ⟨b, j * 4 + 3, none⟩ = some (.int .i64 r.s))
theorem RulesAt.below {w w' : World} {sv : Value} {RS : List RuleR} (h : RulesAt w sv RS) (hb : Below w.heap.size w w') : RulesAt w' sv RS := by
  rcases h with h | ⟨h0, b, c, e, hc, hlt, hr⟩
  · exact Or.inl h
  · refine Or.inr ⟨h0, b, c, e, hc, Nat.lt_of_lt_of_le hlt hb.size, fun j r hj => ?_⟩
    obtain ⟨a0, a1, a2, a3⟩ := hr j r hj
    exact ⟨(hb.cell (p := ⟨b, j * 4, none⟩) hlt).trans a0, (hb.cell (p := ⟨b, j * 4 + 1, none⟩) hlt).trans a1, (hb.cell (p := ⟨b, j * 4 + 2, none⟩) hlt).trans a2, (hb.cell (p := ⟨b, j * 4 + 3, none⟩) hlt).trans a3⟩
theorem within_level {c a : ByteArray} (h : withinB c a = true) : 0 ≤ levelV a := by
  unfold levelV
  cases hp : partsO a with
  | none => rw [within_no (Or.inr hp)] at h; cases h
  | some P => simp
/-- The same, one form for all lists. -/
theorem RulesAt.form {w : World} {sv : Value} {RS : List RuleR} (h : RulesAt w sv RS) : ∃ q n c, sv = .slice q n c ∧ RS.length = n ∧ ∀ j r, RS[j]? = some r →
    ∃ b, q = some ⟨b, 0, none⟩ ∧ b < w.heap.size ∧ w.cell? ⟨b, j * 4, none⟩ = some (.string r.c) ∧ w.cell? ⟨b, j * 4 + 1, none⟩ = some (.int .i64 r.m) ∧ w.cell? ⟨b, j * 4 + 2, none⟩ = some (.int .i64 r.n) ∧ w.cell? ⟨b, j * 4 + 3, none⟩ = some (.int .i64 r.s) := by
  rcases h with ⟨rfl, q, c, rfl⟩ | ⟨h0, b, c, rfl, hc, hlt, hr⟩
  · exact ⟨q, 0, c, rfl, rfl, fun j r hj => by simp at hj⟩
  · exact ⟨_, _, c, rfl, rfl, fun j r hj => ⟨b, rfl, hlt, hr j r hj⟩⟩
/-- The blocks of RuleOf's results and of what has been found so far. -/
structure Out (B : Nat) (w0 : World) (o : RuleR) (w : World) : Prop where
  z : w.heap[B + 1]? = some (.cells #[.string ⟨#[]⟩, .int .i64 0, .int .i64 0, .int .i64 0] 50 (0, 0))
  k : w.heap[B + 1 + 1]? = some (.cells (ruleL o).toArray 50 (0, 0))
  bl : Below w0.heap.size w0 w
  lo : w0.heap.size = B
theorem Out.lt {B : Nat} {w0 w : World} {o : RuleR} (h : Out B w0 o w) : B + 1 + 1 < w.heap.size := (Array.getElem?_eq_some_iff.1 h.k).1
theorem Out.step {B : Nat} {w0 w w1 : World} {o : RuleR} (h : Out B w0 o w) (hb : Below w.heap.size w w1) : Out B w0 o w1 :=
  ⟨(hb.block (B + 1) (by have := h.lt; omega)).trans h.z, (hb.block (B + 1 + 1) h.lt).trans h.k, chain0 h.bl hb, h.lo⟩
theorem Out.store {B : Nat} {w0 w : World} {o : RuleR} (h : Out B w0 o w) (r : RuleR) :
    ∀ wf, wf = (((w.setCell ⟨B + 1 + 1, 0, none⟩ (.string r.c)).setCell ⟨B + 1 + 1, 1, none⟩ (.int .i64 r.m)).setCell ⟨B + 1 + 1, 2, none⟩ (.int .i64 r.n)).setCell ⟨B + 1 + 1, 3, none⟩ (.int .i64 r.s) → Out B w0 r wf := by
  intro wf hwf
  have hk := set_blk (set_blk (set_blk (set_blk h.k 0 (.string r.c)) 1 (.int .i64 r.m)) 2 (.int .i64 r.n)) 3 (.int .i64 r.s)
  have hz := set_other (set_other (set_other (set_other h.z (show B + 1 ≠ B + 1 + 1 by omega) 0 (.string r.c)) (show B + 1 ≠ B + 1 + 1 by omega) 1 (.int .i64 r.m)) (show B + 1 ≠ B + 1 + 1 by omega) 2 (.int .i64 r.n)) (show B + 1 ≠ B + 1 + 1 by omega) 3 (.int .i64 r.s)
  have hlo := h.lo
  have hb := (((h.bl.setCell (p := ⟨B + 1 + 1, 0, none⟩) (show w0.heap.size ≤ B + 1 + 1 by omega) (.string r.c)).setCell (p := ⟨B + 1 + 1, 1, none⟩) (show w0.heap.size ≤ B + 1 + 1 by omega) (.int .i64 r.m)).setCell (p := ⟨B + 1 + 1, 2, none⟩) (show w0.heap.size ≤ B + 1 + 1 by omega) (.int .i64 r.n)).setCell (p := ⟨B + 1 + 1, 3, none⟩) (show w0.heap.size ≤ B + 1 + 1 by omega) (.int .i64 r.s)
  rw [← hwf] at hk hz hb
  exact ⟨hz, hk, hb, hlo⟩
theorem Out.new (w : World) (l : List Value) : Out w.heap.size w zeroR (((w.alloc (.cells l.toArray 28)).alloc (.cells #[.string ⟨#[]⟩, .int .i64 0, .int .i64 0, .int .i64 0] 50)).alloc (.cells #[.string ⟨#[]⟩, .int .i64 0, .int .i64 0, .int .i64 0] 50)) where
  z := by
    show (Array.push (Array.push (Array.push w.heap _) _) _)[_]? = _
    rw [Array.getElem?_push, if_neg (by simp), Array.getElem?_push, if_pos (by simp)]
  k := by
    show (Array.push (Array.push (Array.push w.heap _) _) _)[_]? = _
    rw [Array.getElem?_push, if_pos (by simp)]
    rfl
  bl := chainAlloc (chainAlloc (chainAlloc (Below.refl _ _) _) _) _
  lo := rfl
theorem Out.fin {B : Nat} {w0 w : World} {o : RuleR} (h : Out B w0 o w) :
    ∀ wf, wf = (((w.setCell ⟨B + 1, 0, none⟩ (.string o.c)).setCell ⟨B + 1, 1, none⟩ (.int .i64 o.m)).setCell ⟨B + 1, 2, none⟩ (.int .i64 o.n)).setCell ⟨B + 1, 3, none⟩ (.int .i64 o.s) →
      wf.heap[B + 1]? = some (.cells (ruleL o).toArray 50 (0, 0)) ∧ Below w0.heap.size w0 wf := by
  intro wf hwf
  have hk := set_blk (set_blk (set_blk (set_blk h.z 0 (.string o.c)) 1 (.int .i64 o.m)) 2 (.int .i64 o.n)) 3 (.int .i64 o.s)
  have hlo := h.lo
  have hb := (((h.bl.setCell (p := ⟨B + 1, 0, none⟩) (show w0.heap.size ≤ B + 1 by omega) (.string o.c)).setCell (p := ⟨B + 1, 1, none⟩) (show w0.heap.size ≤ B + 1 by omega) (.int .i64 o.m)).setCell (p := ⟨B + 1, 2, none⟩) (show w0.heap.size ≤ B + 1 by omega) (.int .i64 o.n)).setCell (p := ⟨B + 1, 3, none⟩) (show w0.heap.size ≤ B + 1 by omega) (.int .i64 o.s)
  rw [← hwf] at hk hb
  exact ⟨hk, hb⟩
end Go.Proofs.YtenjefbplpbjaaaGreatDoor
