/- What the law PlanLong builds, and its walk. -/
import Derived.Test.YtenjefbplpbjaaaGreatDoorZi
namespace Go.Proofs.YtenjefbplpbjaaaGreatDoor
open Go.RowKit Go.Sort Cal Go.Maps
def flatN (a : Nat → Nat) : Nat → List Value
  | 0 => []
  | n + 1 => flatN a n ++ nodeL a n
theorem flatN_len (a : Nat → Nat) (n : Nat) : (flatN a n).length = n * 6 := by
  induction n with
  | zero => rfl
  | succ n ih => rw [flatN, List.length_append, ih, nodeL_len]; omega
theorem flatN_get (a : Nat → Nat) (n i j : Nat) (u : Value) (hi : i < n) (hj : (nodeL a i)[j]? = some u) : (flatN a n)[i * 6 + j]? = some u := by
  induction n with
  | zero => omega
  | succ n ih =>
    have hj6 : j < 6 := by have := (List.getElem?_eq_some_iff.1 hj).1; rwa [nodeL_len] at this
    rw [flatN]
    by_cases e : i = n
    · subst e
      rw [List.getElem?_append_right (by rw [flatN_len]; omega), flatN_len, show i * 6 + j - i * 6 = j by omega]
      exact hj
    · rw [List.getElem?_append_left (by rw [flatN_len]; omega)]
      exact ih (by omega)
theorem nodeL_upd (a a' : Nat → Nat) (i : Nat) (h : isLeaf i = false → a' i = a i) : nodeL a' i = nodeL a i := by
  unfold nodeL
  by_cases e : isLeaf i = true
  · rw [if_pos e, if_pos e]
  · rw [if_neg e, if_neg e, h (by simpa using e)]
theorem flatN_upd (a a' : Nat → Nat) (n : Nat) (h : ∀ i, i < n → isLeaf i = false → a' i = a i) : flatN a' n = flatN a n := by
  induction n with
  | zero => rfl
  | succ n ih => rw [flatN, flatN, ih (fun i hi => h i (by omega)), nodeL_upd a a' n (h n (by omega))]
/-- The first n nodes as a row of the call's own, the arguments of each min in a block of its own. -/
structure LIn (b n : Nat) (a : Nat → Nat) (v : Value) (w : World) : Prop where
  own : w.ownsRow b 39 6 v n (flatN a n)
  lo : ∀ i, i < n → isLeaf i = false → b ≤ a i
  lt : ∀ i, i < n → isLeaf i = false → a i < w.heap.size
  a0 : ∀ i, i < n → isLeaf i = false → w.cell? ⟨a i, 0, none⟩ = some (.int .i64 ((i - 2 : Nat) : Int))
  a1 : ∀ i, i < n → isLeaf i = false → w.cell? ⟨a i, 1, none⟩ = some (.int .i64 ((i - 1 : Nat) : Int))
theorem LIn.below {b n : Nat} {a : Nat → Nat} {v : Value} {w w' : World} (h : LIn b n a v w) (hb : Below w.heap.size w w') : LIn b n a v w' :=
  ⟨ownsRow_below h.own hb, h.lo, fun i hi hf => Nat.lt_of_lt_of_le (h.lt i hi hf) hb.size, fun i hi hf => (hb.cell (p := ⟨a i, 0, none⟩) (h.lt i hi hf)).trans (h.a0 i hi hf), fun i hi hf => (hb.cell (p := ⟨a i, 1, none⟩) (h.lt i hi hf)).trans (h.a1 i hi hf)⟩
theorem LIn.touch {b n p : Nat} {a : Nat → Nat} {v : Value} {w w' : World} (h : LIn b n a v w) (ht : Touch p w w') (hp : p < b) : LIn b n a v w' := by
  have hk : ∀ i, i < n → isLeaf i = false → ∀ j, w'.cell? ⟨a i, j, none⟩ = w.cell? ⟨a i, j, none⟩ := fun i hi hf j => World.cell?_of_block (w := w) (w' := w') (a := ⟨a i, j, none⟩) (ht.block _ (h.lt i hi hf) (by have := h.lo i hi hf; show ¬ a i = p; omega))
  exact ⟨ownsRow_touch h.own ht hp, h.lo, fun i hi hf => Nat.lt_of_lt_of_le (h.lt i hi hf) ht.size, fun i hi hf => (hk i hi hf 0).trans (h.a0 i hi hf), fun i hi hf => (hk i hi hf 1).trans (h.a1 i hi hf)⟩
theorem LIn.nodes {b g c : Nat} {a : Nat → Nat} {w : World} (h : LIn b 39 a (.slice (some ⟨g, 0, none⟩) 39 c) w) : NodesAt g a w :=
  ⟨(own_cell h.own).2, fun i j u hi hj => (own_cell h.own).1 (i * 6 + j) u (flatN_get a 39 i j u hi hj), h.lt, h.a0, h.a1⟩
theorem LIn.start (W : World) : LIn W.heap.size 1 (fun _ => 0) (.slice (some ⟨W.heap.size, 0, none⟩) 1 1) (W.alloc (.cells #[.int .i64 3, .string refB, .bool false, .slice none 0 0, .slice none 0 0, .slice none 0 0] 39)) := by
  refine ⟨World.ownsRow_lit (e := 39) (size := 6) (base := W.heap.size) W #[.int .i64 3, .string refB, .bool false, .slice none 0 0, .slice none 0 0, .slice none 0 0] 1 (Nat.le_refl _) (by decide) rfl, ?_, ?_, ?_, ?_⟩
  all_goals
    intro i hi hf
    have := (leaf_iff i).1 hf
    omega
/-- A leaf and a min are appended. -/
theorem LIn.next {b n : Nat} {a : Nat → Nat} {v v' : Value} {w w3 : World} {x y : Int} (h : LIn b n a v w) (hn : n % 2 = 1) (hx : x = ((n - 1 : Nat) : Int)) (hy : y = (n : Int)) (hbw : b ≤ w.heap.size)
    {o : Obj} (hown : w3.ownsRow b 39 6 v' (n + 2) (flatN a n ++ [.int .i64 3, .string refB, .bool false, .slice none 0 0, .slice none 0 0, .slice none 0 0, .int .i64 8, .string ⟨#[]⟩, .bool false, .slice none 0 0, .slice none 0 0, .slice (some ⟨w.heap.size, 0, none⟩) 2 2]))
    (hg : ((w.alloc (.cells #[.int .i64 x, .int .i64 y] 3)).alloc o).grownBy w3 v.ownBlock) :
    LIn b (n + 2) (fun i => if i = n + 1 then w.heap.size else a i) v' w3 := by
  obtain ⟨g, c, rfl, _, hgl⟩ := World.ownsRow.form h.own (by omega)
  have h1 : w.cell? ⟨g, 1, none⟩ = some (.string refB) := by
    have e := (own_cell h.own).1 (0 * 6 + 1) (.string refB) (flatN_get a n 0 1 _ (by omega) rfl)
    simpa using e
  have hW := chainAlloc (chainAlloc (Below.refl w.heap.size w) (.cells #[.int .i64 x, .int .i64 y] 3)) o
  have hsz : ((w.alloc (.cells #[.int .i64 x, .int .i64 y] 3)).alloc o).heap.size = w.heap.size + 2 := by simp
  have X := (Box.new w [.int .i64 x, .int .i64 y] 3).step (chainAlloc (Below.refl _ _) o)
  have hk : ∀ q, q < w.heap.size → q ≠ g → ∀ j, w3.cell? ⟨q, j, none⟩ = w.cell? ⟨q, j, none⟩ := fun q hq hne j =>
    World.cell?_of_block (w := w) (w' := w3) (a := ⟨q, j, none⟩) ((hg.block q (by omega) (fun e => hne (by simpa [Value.ownBlock] using e))).trans (hW.block q hq))
  have hB : ∀ j, w3.cell? ⟨w.heap.size, j, none⟩ = ((w.alloc (.cells #[.int .i64 x, .int .i64 y] 3)).alloc o).cell? ⟨w.heap.size, j, none⟩ := fun j =>
    World.cell?_of_block (a := ⟨w.heap.size, j, none⟩) (hg.block w.heap.size (by omega) (fun e => by
      have e2 : w.heap.size = g := by simpa [Value.ownBlock] using e
      omega))
  have hne : ∀ i, i < n → isLeaf i = false → a i ≠ g := fun i hi hf e => by
    have h2 := h.a1 i hi hf
    rw [e, h1] at h2
    cases h2
  have hls : ∀ i, i < n + 2 → isLeaf i = false → i = n + 1 ∨ i < n := fun i hi hf => by
    have := (leaf_iff i).1 hf
    omega
  have hs3 : w.heap.size + 2 ≤ w3.heap.size := by have := hg.size; omega
  have hfl : flatN a n ++ [.int .i64 3, .string refB, .bool false, .slice none 0 0, .slice none 0 0, .slice none 0 0, .int .i64 8, .string ⟨#[]⟩, .bool false, .slice none 0 0, .slice none 0 0, .slice (some ⟨w.heap.size, 0, none⟩) 2 2] = flatN (fun i => if i = n + 1 then w.heap.size else a i) (n + 2) := by
    have e1 : flatN (fun i => if i = n + 1 then w.heap.size else a i) n = flatN a n := flatN_upd a _ n (fun i hi _ => if_neg (by omega))
    have e2 : nodeL (fun i => if i = n + 1 then w.heap.size else a i) n = [.int .i64 3, .string refB, .bool false, .slice none 0 0, .slice none 0 0, .slice none 0 0] := nodeL_leaf _ (by unfold isLeaf; simp [hn])
    have e3 : nodeL (fun i => if i = n + 1 then w.heap.size else a i) (n + 1) = [.int .i64 8, .string ⟨#[]⟩, .bool false, .slice none 0 0, .slice none 0 0, .slice (some ⟨w.heap.size, 0, none⟩) 2 2] := by
      rw [nodeL_min _ ((leaf_iff _).2 (by omega)), if_pos rfl]
    rw [flatN, flatN, e1, e2, e3, List.append_assoc]
    rfl
  rw [hfl] at hown
  refine ⟨hown, fun i hi hf => ?_, fun i hi hf => ?_, fun i hi hf => ?_, fun i hi hf => ?_⟩
  · rcases hls i hi hf with rfl | hlt
    · simpa using hbw
    · simp only [show i ≠ n + 1 by omega, if_false]; exact h.lo i hlt hf
  · rcases hls i hi hf with rfl | hlt
    · simp; omega
    · simp only [show i ≠ n + 1 by omega, if_false]; have := h.lt i hlt hf; omega
  · rcases hls i hi hf with rfl | hlt
    · simp only [if_true]
      rw [hB 0, X.c 0 _ rfl, hx]
      rfl
    · simp only [show i ≠ n + 1 by omega, if_false]
      rw [hk _ (h.lt i hlt hf) (hne i hlt hf)]
      exact h.a0 i hlt hf
  · rcases hls i hi hf with rfl | hlt
    · simp only [if_true]
      rw [hB 1, X.c 1 _ rfl, hy]
      rfl
    · simp only [show i ≠ n + 1 by omega, if_false]
      rw [hk _ (h.lt i hlt hf) (hne i hlt hf)]
      exact h.a1 i hlt hf
/-- n definitions of the one expression. -/
def flatD (g c : Nat) : Nat → List Value
  | 0 => []
  | n + 1 => flatD g c n ++ [.string ⟨#[121]⟩, .slice (some ⟨g, 0, none⟩) 39 c]
theorem flatD_len (g c n : Nat) : (flatD g c n).length = n * 2 := by
  induction n with
  | zero => rfl
  | succ n ih => rw [flatD, List.length_append, ih]; simp; omega
theorem flatD_get (g c n i : Nat) (hi : i < n) : (flatD g c n)[i * 2]? = some (.string ⟨#[121]⟩) ∧ (flatD g c n)[i * 2 + 1]? = some (.slice (some ⟨g, 0, none⟩) 39 c) := by
  induction n with
  | zero => omega
  | succ n ih =>
    rw [flatD]
    by_cases e : i = n
    · subst e
      rw [List.getElem?_append_right (by rw [flatD_len]; omega), List.getElem?_append_right (by rw [flatD_len]; omega), flatD_len, show i * 2 - i * 2 = 0 by omega, show i * 2 + 1 - i * 2 = 1 by omega]
      exact ⟨rfl, rfl⟩
    · rw [List.getElem?_append_left (by rw [flatD_len]; omega), List.getElem?_append_left (by rw [flatD_len]; omega)]
      exact ih (by omega)
theorem defs_own {w : World} {b g c n : Nat} {v : Value} (h : w.ownsRow b 42 2 v n (flatD g c n)) : DefsAt g c n v w := by
  by_cases h0 : 0 < n
  · obtain ⟨q, cd, rfl, _, hl⟩ := World.ownsRow.form h h0
    refine ⟨_, cd, rfl, own_cap h, fun i hi => ⟨q, rfl, hl, (own_cell h).1 _ _ (flatD_get g c n i hi).1, (own_cell h).1 _ _ (flatD_get g c n i hi).2⟩⟩
  · obtain rfl : n = 0 := by omega
    obtain ⟨p, c', rfl⟩ := own_form h
    exact ⟨p, c', rfl, by omega, fun i hi => absurd hi (by omega)⟩
/-- The plan's block while its definitions are appended. -/
structure DIn (B b : Nat) (g1 c1 g2 c2 g c n : Nat) (v : Value) (w0 w : World) : Prop where
  p : w.heap[B]? = some (.cells #[.int .i64 1, .slice (some ⟨g1, 0, none⟩) 1 c1, .slice (some ⟨g2, 0, none⟩) 1 c2, .slice none 0 0, v, .slice none 0 0] 28 (0, 0))
  own : w.ownsRow b 42 2 v n (flatD g c n)
  t : Touch B w0 w
  lb : b = w0.heap.size
  lo : B < b
theorem DIn.next {B b g1 c1 g2 c2 g c n : Nat} {v v' : Value} {w0 w w3 : World} {o : Obj} (h : DIn B b g1 c1 g2 c2 g c n v w0 w) (hown : w3.ownsRow b 42 2 v' (n + 1) (flatD g c (n + 1))) (hg : (w.alloc o).grownBy w3 v.ownBlock) :
    w3.cell? ⟨B, 4, none⟩ = some v ∧ w3.frozen? ⟨B, 4, none⟩ = false ∧ B < w3.heap.size ∧ DIn B b g1 c1 g2 c2 g c (n + 1) v' w0 (w3.setCell ⟨B, 4, none⟩ v') := by
  have hlo : ∀ j, v.ownBlock = some j → b ≤ j := fun j hj => (h.own.lt j hj).1
  have hl : B < w.heap.size := (Array.getElem?_eq_some_iff.1 h.p).1
  have hb := h.lo
  have ha := chainAlloc (Below.refl w.heap.size w) o
  have hp3 : w3.heap[B]? = some (.cells #[.int .i64 1, .slice (some ⟨g1, 0, none⟩) 1 c1, .slice (some ⟨g2, 0, none⟩) 1 c2, .slice none 0 0, v, .slice none 0 0] 28 (0, 0)) :=
    (hg.block B (by simp; omega) (fun e => by have := hlo B e.symm; omega)).trans ((ha.block B hl).trans h.p)
  have ht3 : Touch B w0 w3 := (h.t.trans (Touch.of_below ha)).grown hg (fun j hj => by have := hlo j hj; have := h.lb; omega)
  exact ⟨cell_blk hp3 4 _ rfl, free_blk hp3 4, (Array.getElem?_eq_some_iff.1 hp3).1, ⟨by have := set_blk hp3 4 v'; simpa using this, ownsRow_touch hown ((Touch.refl _ _).set 4 v') hb, ht3.set 4 v', h.lb, hb⟩⟩
end Go.Proofs.YtenjefbplpbjaaaGreatDoor
namespace Go.Proofs.YtenjefbplpbjaaaGreatDoor
open Go.RowKit Go.Sort Cal Go.Maps
theorem info_node : (Tryz.prog.info? 39).map (fun i => (i.zero, i.size, i.bytes)) = some (some (.agg #[.int .i64 0, .string ⟨#[]⟩, .bool false, .slice none 0 0, .slice none 0 0, .slice none 0 0]), 6, 104) := by kernel_rfl
theorem info_def : (Tryz.prog.info? 42).map (fun i => (i.zero, i.size, i.bytes)) = some (some (.agg #[.string ⟨#[]⟩, .slice none 0 0]), 2, 40) := by kernel_rfl
theorem conv_zeros (W : World) (b n m cap : Nat) (hn : n = m) (h : Lib.Bytes W b 0 (zerosB n)) : (convert 45 9 (.slice (some ⟨b, 0, none⟩) m cap)).run Tryz.prog W = .ok (.string (zerosB n)) W := by
  subst hn
  have h2 := Lib.run_convert_whole (P := Tryz.prog) W 45 5 9 Tryz.underlying45 Tryz.underlying5 Tryz.underlying9 b 0 (zerosB n) h cap
  rw [zerosB_size] at h2
  exact h2
theorem bytes_keep {w w' : World} {b n : Nat} (h : Lib.Bytes w b 0 (zerosB n)) (hb : Below w.heap.size w w') (hl : b < w.heap.size) : Lib.Bytes w' b 0 (zerosB n) :=
  fun i hi => (hb.cell (p := ⟨b, 0 + i, none⟩) hl).trans (h i hi)
theorem make_zeros (w : World) : (Instr.makeSlice 45 (.int .i64 8193) (.int .i64 8193)).run Tryz.prog w = .ok (.slice (some ⟨w.heap.size, 0, none⟩) 8193 8193) (w.alloc (.cells (madeCells #[.int .u8 0] 8193) 5)) :=
  run_make_row' (P := Tryz.prog) 45 5 (.int .u8 0) 1 Tryz.underlying45 info_u8 rfl .i64 .i64 8193 (by omega) (by omega) w
set_option maxRecDepth 100000 in
set_option maxHeartbeats 12800000 in
theorem long_walk (w : World) (k : Int) (hE : Env w) :
    Calls Tryz.prog 3 #[.int .i64 k] w fun e w' => e = .returned (.bool true) ∧ Below w.heap.size w w' := by
  obtain ⟨n0, hn0, hnz0, hnz1, hnz2⟩ := info_parts info_node
  obtain ⟨d0, hd0, hdz0, hdz1, hdz2⟩ := info_parts info_def
  have HE := Lib.hid hE
  have f1 := fold_bd k 21 (by omega)
  clear hE
  go_enter Tryz.func3, Tryz.ntmps3
  go_wp2_with fail
  refine (rparse_at _ small_eq _).mono ?_
  rintro e w1 ⟨⟨g1, c1, g2, c2, g3, c3, rfl, hP⟩, hb1⟩
  have HX2 := Lib.hid (Box.new w1 [.int .i64 1, .slice (some ⟨g1, 0, none⟩) 1 c1, .slice (some ⟨g2, 0, none⟩) 1 c2, .slice none 0 0, .slice none 0 0, .slice none 0 0] 28)
  have HP2 := Lib.hid (hP.below HX2.out.bl)
  have HB2 := Lib.hid (chain0 hb1 HX2.out.bl)
  have hk2 : (w1.alloc (.cells #[.int .i64 1, .slice (some ⟨g1, 0, none⟩) 1 c1, .slice (some ⟨g2, 0, none⟩) 1 c2, .slice none 0 0, .slice none 0 0, .slice none 0 0] 28)).heap[w1.heap.size]? = some (.cells #[.int .i64 1, .slice (some ⟨g1, 0, none⟩) 1 c1, .slice (some ⟨g2, 0, none⟩) 1 c2, .slice none 0 0, .slice none 0 0, .slice none 0 0] 28 (0, 0)) := by
    show (Array.push w1.heap _)[_]? = _
    rw [Array.getElem?_push, if_pos rfl]
  have HK2 := Lib.hid hk2
  have HL1 : Hid (w.heap.size ≤ w1.heap.size) := Lib.hid hb1.size
  clear hP hb1 hk2
  unfold planV
  go_wp2_with fail
  refine (fold_any k 21 _ (by omega) (by omega)).mono ?_
  rintro e w' ⟨rfl, rfl⟩
  obtain ⟨n, hn⟩ : ∃ n : Nat, foldZ k 21 = (n : Int) := ⟨(foldZ k 21).toNat, by omega⟩
  rw [hn] at f1 ⊢
  clear hn
  obtain ⟨W2, hW2⟩ : ∃ W, W = w1.alloc (.cells #[.int .i64 1, .slice (some ⟨g1, 0, none⟩) 1 c1, .slice (some ⟨g2, 0, none⟩) 1 c2, .slice none 0 0, .slice none 0 0, .slice none 0 0] 28) := ⟨_, rfl⟩
  have hl12 : w1.heap.size < W2.heap.size := by rw [hW2]; simp
  have HX3 : Hid (Box w1.heap.size w1 [.int .i64 1, .slice (some ⟨g1, 0, none⟩) 1 c1, .slice (some ⟨g2, 0, none⟩) 1 c2, .slice none 0 0, .slice none 0 0, .slice none 0 0] W2) := Lib.hid (by rw [hW2]; exact HX2.out)
  clear HX2
  rw [← hW2] at HP2 HB2 HK2 ⊢
  clear hW2
  have HL0 : Hid (LIn W2.heap.size 1 (fun _ => 0) (.slice (some ⟨W2.heap.size, 0, none⟩) 1 1) (W2.alloc (.cells #[.int .i64 3, .string ⟨#[57, 57, 46, 57, 57, 46, 57, 57, 46, 57, 57, 46, 57, 57, 64, 97, 98, 99, 100, 101, 102, 103, 104, 105, 106, 107, 108, 109, 110, 111, 112, 113, 114, 115, 116, 117, 118, 119, 120]⟩, .bool false, .slice none 0 0, .slice none 0 0, .slice none 0 0] 39))) := Lib.hid (LIn.start W2)
  go_wp2_with fail
  go_loopw [6, 7] (fun l i wr => ∃ (q m : Nat) (a : Nat → Nat), 1 ≤ q ∧ q ≤ 20 ∧ m + 1 = 2 * q ∧ i = .int .i64 q ∧ LIn W2.heap.size m a l wr ∧ Below W2.heap.size W2 wr) (fun _ i _ => 20 - (intOf i).toNat)
  case atStart => exact ⟨1, 1, _, by omega, by omega, by omega, rfl, HL0.out, chainAlloc (Below.refl _ _) _⟩
  case round =>
    clear HL0
    obtain ⟨q, m, a, hq1, hq2, hm, rfl, hL, hB⟩ := hrel
    obtain ⟨g, c, rfl, _, hgl⟩ := World.ownsRow.form hL.own (by omega)
    have HL := Lib.hid hL
    have HB := Lib.hid hB
    have hcap := own_cap hL.own
    have hs2 := hB.size
    have HC := Lib.hid (own_cell hL.own).1
    clear hL hB
    by_cases hlt : q < 20
    · have hm0 : (0 : Int) < (m : Int) := by omega
      have hown := HL.out.own
      have c0 : wr.cell? ⟨g, 0, none⟩ = some (.int .i64 3) := HC.out 0 _ (show (flatN a m)[0]? = _ from flatN_get a m 0 0 _ (by omega) rfl)
      have c1 : wr.cell? ⟨g, 1, none⟩ = some (.string refB) := HC.out 1 _ (show (flatN a m)[1]? = _ from flatN_get a m 0 1 _ (by omega) rfl)
      have c2 : wr.cell? ⟨g, 2, none⟩ = some (.bool false) := HC.out 2 _ (show (flatN a m)[2]? = _ from flatN_get a m 0 2 _ (by omega) rfl)
      have c3 : wr.cell? ⟨g, 3, none⟩ = some (.slice none 0 0) := HC.out 3 _ (show (flatN a m)[3]? = _ from flatN_get a m 0 3 _ (by omega) rfl)
      have c4 : wr.cell? ⟨g, 4, none⟩ = some (.slice none 0 0) := HC.out 4 _ (show (flatN a m)[4]? = _ from flatN_get a m 0 4 _ (by omega) rfl)
      have c5 : wr.cell? ⟨g, 5, none⟩ = some (.slice none 0 0) := HC.out 5 _ (show (flatN a m)[5]? = _ from flatN_get a m 0 5 _ (by omega) rfl)
      go_wp2_with (first
        | (at_builtin; refine wpList_append_own_at _ rfl _ _ 40 rfl W2.heap.size 39 n0 (.agg #[.int .i64 0, .string ⟨#[]⟩, .bool false, .slice none 0 0, .slice none 0 0, .slice none 0 0]) 6 104 Tryz.underlying40 hn0 hnz0 hnz1 hnz2 rfl (by decide) _ _ _ rfl ((hown.alloc _).alloc _) ⟨wr.heap.size + 1, 0, none⟩ 2 2 [.int .i64 3, .string refB, .bool false, .slice none 0 0, .slice none 0 0, .slice none 0 0, .int .i64 8, .string ⟨#[]⟩, .bool false, .slice none 0 0, .slice none 0 0, .slice (some ⟨wr.heap.size, 0, none⟩) 2 2] rfl rfl (cells_row _ _ (by simp) _ _) (by simp [Value.oneCell']) (by unfold maxLen; omega) (by omega) (by simp; omega) ?_)
        | fail)
      intro v' w3 hown3 hgrow _ hob
      have HN := Lib.hid (HL.out.next (by omega) (by omega) (by omega) hs2 hown3 hgrow)
      have HBN : Hid (Below W2.heap.size W2 w3) := Lib.hid ((chainAlloc (chainAlloc HB.out _) _).grown hgrow (by simp; omega) (fun j hj => (hown.lt j hj).1))
      clear hown3 hgrow hown hob c0 c1 c2 c3 c4 c5
      go_wp2_with fail
      go_roundw
      case rel => exact ⟨q + 1, m + 2, _, by omega, by omega, by omega, by go_num, HN.out, HBN.out⟩
      case measure => simp [intOf]; omega
    · obtain rfl : q = 20 := by omega
      obtain rfl : m = 39 := by omega
      obtain ⟨W4, rfl⟩ : ∃ W, W = wr := ⟨_, rfl⟩
      have HP4 := Lib.hid (HP2.out.below (HB.out.mono (Nat.le_refl _)))
      have hk4 := (HB.out.block _ hl12).trans HK2.out
      have HK4 := Lib.hid hk4
      have hl4 : w1.heap.size < W4.heap.size := by omega
      have HB4 := Lib.hid (chain0 HB2.out HB.out)
      have HD0 : Hid (DIn w1.heap.size W4.heap.size g1 c1 g2 c2 g c 0 (.slice none 0 0) W4 W4) := Lib.hid ⟨hk4, World.ownsRow_nil _ _ _ _, Touch.refl _ _, rfl, hl4⟩
      clear hk4 HC
      go_wp2_with fail
      go_loopw [44] (fun i wr => ∃ (j : Nat) (v : Value), j ≤ n ∧ i = .int .i64 j ∧ DIn w1.heap.size W4.heap.size g1 c1 g2 c2 g c j v W4 wr) (fun i _ => n - (intOf i).toNat)
      case atStart => exact ⟨0, _, by omega, rfl, HD0.out⟩
      case round =>
        clear HD0
        obtain ⟨j, v, hj, rfl, hD⟩ := hrel
        obtain ⟨pd, cd, rfl⟩ := own_form hD.own
        have HD := Lib.hid hD
        have e4 : wr.cell? ⟨w1.heap.size, 4, none⟩ = some (.slice pd j cd) := cell_blk hD.p 4 _ rfl
        have hlr : w1.heap.size < wr.heap.size := (Array.getElem?_eq_some_iff.1 hD.p).1
        have hs4 := hD.t.size
        clear hD
        by_cases hjn : j < n
        · have hjn2 : (j : Int) < (n : Int) := by omega
          have hown := HD.out.own
          go_wp2_with (first
            | (at_builtin; refine wpList_append_own_at _ rfl _ _ 25 rfl W4.heap.size 42 d0 (.agg #[.string ⟨#[]⟩, .slice none 0 0]) 2 40 Tryz.underlying25 hd0 hdz0 hdz1 hdz2 rfl (by decide) _ _ _ rfl (hown.alloc _) ⟨wr.heap.size, 0, none⟩ 1 1 [.string ⟨#[121]⟩, .slice (some ⟨g, 0, none⟩) 39 c] rfl rfl (cells_row _ _ (by simp) _ _) (by simp [Value.oneCell']) (by unfold maxLen; omega) (by omega) (by simp; omega) ?_)
            | fail)
          intro v' w3 hown3 hgrow _ hob
          obtain ⟨hc3, hf3, hl3, hN⟩ := HD.out.next hown3 hgrow
          obtain ⟨p2, cd2, rfl⟩ := own_form hown3
          have HN := Lib.hid hN
          clear hown3 hgrow hown hob hN e4
          go_wp2_with fail
          go_roundw
          case rel => exact ⟨j + 1, _, by omega, by go_num, HN.out⟩
          case measure => simp [intOf]; omega
        · obtain rfl : n = j := by omega
          obtain ⟨W5, rfl⟩ : ∃ W, W = wr := ⟨_, rfl⟩
          have HT := Lib.hid HD.out.t
          have HB5 := Lib.hid (HB4.out.trans ((HT.out.below (Nat.le_of_lt hl4)).mono HL1.out))
          have HE5 := Lib.hid (HE.out.below HB5.out)
          have HP5 := Lib.hid (planAt_touch (l := [.slice (some ⟨g2, 0, none⟩) 1 c2, .slice none 0 0, .slice none 0 0, .slice none 0 0]) HP4.out HT.out HK4.out)
          have HN5 := Lib.hid (HL.out.touch HT.out hl12).nodes
          have HDF5 := Lib.hid (defs_own HD.out.own)
          have HC5 : Hid (∀ i u, ([.int .i64 1, .slice (some ⟨g1, 0, none⟩) 1 c1, .slice (some ⟨g2, 0, none⟩) 1 c2, .slice none 0 0, .slice pd n cd, .slice none 0 0] : List Value)[i]? = some u → W5.cell? ⟨w1.heap.size, i, none⟩ = some u) := Lib.hid (fun i u hi => cell_blk HD.out.p i u (by simpa using hi))
          have q0 : W5.cell? ⟨w1.heap.size, 0, none⟩ = some (.int .i64 1) := HC5.out 0 _ rfl
          have q1 : W5.cell? ⟨w1.heap.size, 1, none⟩ = some (.slice (some ⟨g1, 0, none⟩) 1 c1) := HC5.out 1 _ rfl
          have q2 : W5.cell? ⟨w1.heap.size, 2, none⟩ = some (.slice (some ⟨g2, 0, none⟩) 1 c2) := HC5.out 2 _ rfl
          have q3 : W5.cell? ⟨w1.heap.size, 3, none⟩ = some (.slice none 0 0) := HC5.out 3 _ rfl
          have q4 : W5.cell? ⟨w1.heap.size, 4, none⟩ = some (.slice pd n cd) := HC5.out 4 _ rfl
          have q5 : W5.cell? ⟨w1.heap.size, 5, none⟩ = some (.slice none 0 0) := HC5.out 5 _ rfl
          clear e4
          go_wp2_with fail
          refine (pformat_n g1 c1 g2 c2 g3 c3 g c n a (.slice pd n cd) _ HP5.out HDF5.out HN5.out HE5.out (by omega)).mono ?_
          rintro e w6 ⟨rfl, hb6⟩
          have HB6 := Lib.hid hb6
          have HC6 : Hid (∀ i u, ([.int .i64 1, .slice (some ⟨g1, 0, none⟩) 1 c1, .slice (some ⟨g2, 0, none⟩) 1 c2, .slice none 0 0, .slice pd n cd, .slice none 0 0] : List Value)[i]? = some u → w6.cell? ⟨w1.heap.size, i, none⟩ = some u) := Lib.hid (fun i u hi => (hb6.cell (p := ⟨w1.heap.size, i, none⟩) hlr).trans (HC5.out i u hi))
          have r0 : w6.cell? ⟨w1.heap.size, 0, none⟩ = some (.int .i64 1) := HC6.out 0 _ rfl
          have r1 : w6.cell? ⟨w1.heap.size, 1, none⟩ = some (.slice (some ⟨g1, 0, none⟩) 1 c1) := HC6.out 1 _ rfl
          have r2 : w6.cell? ⟨w1.heap.size, 2, none⟩ = some (.slice (some ⟨g2, 0, none⟩) 1 c2) := HC6.out 2 _ rfl
          have r3 : w6.cell? ⟨w1.heap.size, 3, none⟩ = some (.slice none 0 0) := HC6.out 3 _ rfl
          have r4 : w6.cell? ⟨w1.heap.size, 4, none⟩ = some (.slice pd n cd) := HC6.out 4 _ rfl
          have r5 : w6.cell? ⟨w1.heap.size, 5, none⟩ = some (.slice none 0 0) := HC6.out 5 _ rfl
          have hl6 : w1.heap.size < w6.heap.size := Nat.lt_of_lt_of_le hlr hb6.size
          clear hb6 q0 q1 q2 q3 q4 q5
          go_wp2_with fail
          refine (rpformat_n g1 c1 g2 c2 g3 c3 g c n a (.slice pd n cd) _ (HP5.out.below HB6.out) (HDF5.out.below HB6.out) (fun _ => HN5.out.below HB6.out) hcap (by omega)).mono ?_
          rintro e w7 ⟨rfl, hb7⟩
          have HB7 := Lib.hid (chain0 HB6.out hb7)
          have hl7 : w1.heap.size < w7.heap.size := Nat.lt_of_lt_of_le hl6 hb7.size
          clear hb7 r0 r1 r2 r3 r4 r5
          have hmk := make_zeros w7
          have hZ1 := bytes_zero w7 8193 8193 (Nat.le_refl _)
          have HZ2 := Lib.hid (bytes_zero w7 8193 8192 (by omega))
          have hcv := conv_zeros _ _ 8193 8193 8193 rfl hZ1
          have HB8 := Lib.hid (chainAlloc HB7.out (.cells (madeCells #[.int .u8 0] 8193) 5))
          clear hZ1
          generalize hmc : madeCells #[.int .u8 0] 8193 = mc at *
          clear hmc
          go_wp2_with fail
          refine (parse_long (zerosB 8193) _ (zerosB_size _)).mono ?_
          rintro e w8 ⟨rfl, hb8⟩
          clear hmk hcv
          have hl8 : w7.heap.size + 1 ≤ w8.heap.size := by have := hb8.size; rw [World.size_alloc] at this; exact this
          have hZ8 := bytes_keep (bytes_keep HZ2.out hb8 (by rw [World.size_alloc]; omega)) (chainAlloc (Below.refl _ _) (.cells #[.int .i64 0, .slice none 0 0, .slice none 0 0, .slice none 0 0, .slice none 0 0, .slice none 0 0] 28)) (by omega)
          have hcv := conv_zeros _ _ 8192 8192 8193 rfl hZ8
          have HB9 := Lib.hid (chainAlloc (chain0 HB8.out hb8) (.cells #[.int .i64 0, .slice none 0 0, .slice none 0 0, .slice none 0 0, .slice none 0 0, .slice none 0 0] 28))
          clear hb8 hZ8 HZ2
          go_wp2_with fail
          refine (parse_bad (zerosB 8192) _ (zerosB_size _) (zerosB_suffix _)).mono ?_
          rintro e w9 ⟨rfl, hb9⟩
          clear hcv
          have HB10 := Lib.hid (chainAlloc (chain0 HB9.out hb9) (.cells #[.int .i64 0, .slice none 0 0, .slice none 0 0, .slice none 0 0, .slice none 0 0, .slice none 0 0] 28))
          have hl9 : w8.heap.size + 1 ≤ w9.heap.size := by have := hb9.size; rw [World.size_alloc] at this; exact this
          clear hb9
          go_upto_region 17 with fail
          obtain ⟨WR, hWR⟩ : ∃ W, W = w9.alloc (.cells #[.int .i64 0, .slice none 0 0, .slice none 0 0, .slice none 0 0, .slice none 0 0, .slice none 0 0] 28) := ⟨_, rfl⟩
          have hlR : w1.heap.size < WR.heap.size := by rw [hWR, World.size_alloc]; omega
          rw [← hWR] at HB10 ⊢
          clear hWR
          have s0 : ∀ d os, (grow (redrawn WR d) os).cell? ⟨w1.heap.size, 0, none⟩ = some (.int .i64 1) := fun d os => ((below_regrown WR d os).cell (p := ⟨w1.heap.size, 0, none⟩) hlR).trans ((HB10.out.cell (p := ⟨w1.heap.size, 0, none⟩) hlr).trans (HC5.out 0 _ rfl))
          have s1 : ∀ d os, (grow (redrawn WR d) os).cell? ⟨w1.heap.size, 1, none⟩ = some (.slice (some ⟨g1, 0, none⟩) 1 c1) := fun d os => ((below_regrown WR d os).cell (p := ⟨w1.heap.size, 1, none⟩) hlR).trans ((HB10.out.cell (p := ⟨w1.heap.size, 1, none⟩) hlr).trans (HC5.out 1 _ rfl))
          have s2 : ∀ d os, (grow (redrawn WR d) os).cell? ⟨w1.heap.size, 2, none⟩ = some (.slice (some ⟨g2, 0, none⟩) 1 c2) := fun d os => ((below_regrown WR d os).cell (p := ⟨w1.heap.size, 2, none⟩) hlR).trans ((HB10.out.cell (p := ⟨w1.heap.size, 2, none⟩) hlr).trans (HC5.out 2 _ rfl))
          have s3 : ∀ d os, (grow (redrawn WR d) os).cell? ⟨w1.heap.size, 3, none⟩ = some (.slice none 0 0) := fun d os => ((below_regrown WR d os).cell (p := ⟨w1.heap.size, 3, none⟩) hlR).trans ((HB10.out.cell (p := ⟨w1.heap.size, 3, none⟩) hlr).trans (HC5.out 3 _ rfl))
          have s4 : ∀ d os, (grow (redrawn WR d) os).cell? ⟨w1.heap.size, 4, none⟩ = some (.slice pd n cd) := fun d os => ((below_regrown WR d os).cell (p := ⟨w1.heap.size, 4, none⟩) hlR).trans ((HB10.out.cell (p := ⟨w1.heap.size, 4, none⟩) hlr).trans (HC5.out 4 _ rfl))
          have s5 : ∀ d os, (grow (redrawn WR d) os).cell? ⟨w1.heap.size, 5, none⟩ = some (.slice none 0 0) := fun d os => ((below_regrown WR d os).cell (p := ⟨w1.heap.size, 5, none⟩) hlR).trans ((HB10.out.cell (p := ⟨w1.heap.size, 5, none⟩) hlr).trans (HC5.out 5 _ rfl))
          have HPR : Hid (∀ d os, PlanAt g1 g2 g3 c3 (grow (redrawn WR d) os)) := Lib.hid (fun d os => (HP5.out.below HB10.out).below (below_regrown WR d os))
          have HDR : Hid (∀ d os, DefsAt g c n (.slice pd n cd) (grow (redrawn WR d) os)) := Lib.hid (fun d os => (HDF5.out.below HB10.out).below (below_regrown WR d os))
          have HNR : Hid (∀ d os, NodesAt g a (grow (redrawn WR d) os)) := Lib.hid (fun d os => (HN5.out.below HB10.out).below (below_regrown WR d os))
          have HER : Hid (∀ d os, Env (grow (redrawn WR d) os)) := Lib.hid (fun d os => (HE5.out.below HB10.out).below (below_regrown WR d os))
          have HCAP := Lib.hid hcap
          have HN20 : Hid (n ≤ 20) := Lib.hid (by omega)
          have HBF := Lib.hid (chain0 HB5.out HB10.out)
          clear hl9 hl8 hl7 hl6 hlr hs4 hl4 hs2 hl12 hcap hgl hjn hj hm hq1 hq2 hlt f1
          refine wp_region_quiet_below (by kernel_rfl) (by kernel_rfl) ?_
          repeat (go_big_quiet_step (first
            | (go_at_call 10; exact Calls.regrown_of (validate_n g1 c1 g2 c2 g3 c3 g c n a (.slice pd n cd) _ (HPR.out _ _) (HDR.out _ _) (HNR.out _ _) (HER.out _ _) HN20.out))
            | (go_at_call 11; exact Calls.regrown_of (rvalidate_n g1 c1 g2 c2 g3 c3 g c n a (.slice pd n cd) _ (HPR.out _ _) (HDR.out _ _) (fun _ => HNR.out _ _) HCAP.out HN20.out))
            | (go_at_call 12; exact Calls.regrown_of (awake_at _ (HER.out _ _)))))
          refine wpQuiet_nil ?_
          intro _ hw'
          obtain ⟨⟨dq, osq⟩, hw''⟩ := hw'
          subst hw''
          clear s0 s1 s2 s3 s4 s5
          go_wp2
          go_ret
          exact ⟨rfl, chain0 HBF.out (below_regrown WR dq osq)⟩
end Go.Proofs.YtenjefbplpbjaaaGreatDoor
