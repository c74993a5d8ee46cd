/- What the laws on codes share: blocks of the call's own, slices of integers, the tape, the environment that the library reads, Atoi, Fold. -/
import Derived.Test.YtenjefbplpbjaaaGreatDoorK
import Derived.Test.YtenjefbplpbjaaaGreatDoorTy
import Derived.Test.YtenjefbplpbjaaaGreatDoorShelf
import Derived.Lib.AtoiErrMem
import Derived.Maps.OwnOps
import Derived.Maps.Views
import Derived.Deep.LoopGhost
import Derived.Deep.RegionWith
import Derived.Deep.AppendLies
namespace Go.Proofs.YtenjefbplpbjaaaGreatDoor
open Go.RowKit Go.Sort Cal Go.Maps
theorem cell_blk {w : World} {b : Nat} {cs : Array Value} {t : TypeId} (h : w.heap[b]? = some (.cells cs t (0, 0))) (j : Nat) (u : Value) (hj : cs[j]? = some u) : w.cell? ⟨b, j, none⟩ = some u := by
  simp [World.cell?, h, hj]
theorem free_blk {w : World} {b : Nat} {cs : Array Value} {t : TypeId} (h : w.heap[b]? = some (.cells cs t (0, 0))) (j : Nat) : w.frozen? ⟨b, j, none⟩ = false := by
  simp [World.frozen?, h]
theorem set_blk {w : World} {b : Nat} {cs : Array Value} {t : TypeId} (h : w.heap[b]? = some (.cells cs t (0, 0))) (j : Nat) (v : Value) : (w.setCell ⟨b, j, none⟩ v).heap[b]? = some (.cells (cs.setIfInBounds j v) t (0, 0)) := by
  simp [World.setCell, Array.getElem?_modify, h]
theorem set_other {w : World} {b b' : Nat} {o : Option Obj} (h : w.heap[b']? = o) (hne : b' ≠ b) (j : Nat) (v : Value) : (w.setCell ⟨b, j, none⟩ v).heap[b']? = o := by
  rw [Below.heap_setCell _ _ _ _ hne]; exact h
/-- The cells of a block of the call's own stay as they are; what was there before the call stays. -/
structure Box (B : Nat) (w0 : World) (cs : List Value) (w : World) : Prop where
  c : ∀ j u, cs[j]? = some u → w.cell? ⟨B, j, none⟩ = some u
  sz : B < w.heap.size
  lo : w0.heap.size ≤ B
  bl : Below w0.heap.size w0 w
theorem Box.step {B : Nat} {w0 w w1 : World} {cs : List Value} (h : Box B w0 cs w) (hb : Below w.heap.size w w1) : Box B w0 cs w1 :=
  ⟨fun j u hj => (hb.cell (p := ⟨B, j, none⟩) h.sz).trans (h.c j u hj), Nat.lt_of_lt_of_le h.sz hb.size, h.lo, h.bl.trans (hb.mono (Nat.le_trans h.lo (Nat.le_of_lt h.sz)))⟩
theorem Box.new (w : World) (cs : List Value) (t : TypeId) : Box w.heap.size w cs (w.alloc (.cells cs.toArray t)) :=
  ⟨fun j u hj => by
    have hlt : j < cs.length := (List.getElem?_eq_some_iff.1 hj).1
    simp [hj], by simp, Nat.le_refl _, (Below.refl _ _).alloc (Nat.le_refl _) _⟩
theorem chain {a b c : World} (h1 : Below a.heap.size a b) (h2 : Below b.heap.size b c) : Below a.heap.size a c := h1.trans (h2.mono h1.size)
theorem chainAlloc {a b : World} (h : Below a.heap.size a b) (o : Obj) : Below a.heap.size a (b.alloc o) := h.alloc h.size o
theorem chain0 {a b c : World} (h1 : Below a.heap.size a b) (h2 : Below b.heap.size b c) : Below a.heap.size a c := h1.trans (h2.mono h1.size)
theorem plainElem_bool_inv {H : Type} {P : Program} {e : TypeId} (he : P.underlying e = some .bool) {v : Value} {z : DataW H × List MemPlace} (h : plainElem P e v = some z) : ∃ c, v = .bool c ∧ z = (.lit (.bool c), []) := by
  unfold plainElem at h
  rw [he] at h
  cases v <;> simp at h
  exact ⟨_, rfl, h.symm⟩
theorem lookup_bool {H : Type} {P : Program} {w : World} {k t e : TypeId} {b n : Nat} {D : DataW H} (hown : w.ownsMap P k (plainElem P e) b n D) (K : Keyed P k) (ht : P.underlying t = some (.map k e)) (he : P.underlying e = some .bool) (hz : (zeroValue e).run P w = .ok (.bool false) w)
    {key : Value} {kl : Lit} (hkey : keyOf P k key = some kl) : ∃ c, (Instr.lookup t (.map (some b)) key false).run P w = .ok (.bool c) w ∧ D.atKey kl (.lit (.bool false)) = .lit (.bool c) := by
  obtain ⟨v, ps, hrun, hv⟩ := hown.lookup K ht hz (plainElem_bool he false) hkey
  obtain ⟨c, rfl, hc⟩ := plainElem_bool_inv he hv
  simp only [Prod.mk.injEq] at hc
  exact ⟨c, hrun, hc.1⟩
def IntsAt (w : World) (sv : Value) (zs : List Int) : Prop :=
  (zs = [] ∧ ∃ p c, sv = .slice p 0 c) ∨
  (0 < zs.length ∧ ∃ b off cap, sv = .slice (some ⟨b, off, none⟩) zs.length cap ∧ zs.length ≤ cap ∧ b < w.heap.size ∧ ∀ j, j < zs.length → w.cell? ⟨b, off + j, none⟩ = some (.int .i64 (zs.getD j 0)))
theorem IntsAt.below {w w' : World} {sv : Value} {zs : List Int} (h : IntsAt w sv zs) (hb : Below w.heap.size w w') : IntsAt w' sv zs := by
  rcases h with h | ⟨h0, b, off, cap, e, hl, hlt, hc⟩
  · exact Or.inl h
  · exact Or.inr ⟨h0, b, off, cap, e, hl, Nat.lt_of_lt_of_le hlt hb.size, fun j hj => (hb.cell (p := ⟨b, off + j, none⟩) hlt).trans (hc j hj)⟩
/-- All its numbers are ints. -/
def Fits (zs : List Int) : Prop := zs.length ≤ 9223372036854775807 ∧ ∀ j, j < zs.length → -9223372036854775808 ≤ zs.getD j 0 ∧ zs.getD j 0 ≤ 9223372036854775807
theorem zeroBool (w : World) : (zeroValue 4).run Tryz.prog w = .ok (.bool false) w := by kernel_rfl
theorem wf_of {z : Int} (h : -9223372036854775808 ≤ z ∧ z ≤ 9223372036854775807) : (Lit.int .i64 z).wf = true := WalkArith.wf_i64 (by omega)
/-- A raw number brought to 0 .. n - 1. -/
def foldZ (v n : Int) : Int := (v % 18446744073709551616) % n
theorem fold_bd (v n : Int) (h1 : 1 ≤ n) : 0 ≤ foldZ v n ∧ foldZ v n < n := ⟨Int.emod_nonneg _ (by omega), Int.emod_lt_of_pos _ (by omega)⟩
theorem fold_eq (v n : Int) (h1 : 1 ≤ n) (h2 : n ≤ 1000000) : wrap64 ((IntKind.u64.wrap v).tmod n) = foldZ v n := by
  have e : IntKind.u64.wrap v = v % 18446744073709551616 := by rw [IntKind.wrap_u64]
  have h := fold_bd v n h1
  rw [e, Int.tmod_eq_emod_of_nonneg (Int.emod_nonneg _ (by decide))]
  exact IntWalk.wrap64_in _ ⟨by unfold foldZ at h; omega, by unfold foldZ at h; omega⟩
theorem fold_any (v n : Int) (w : World) (h1 : 1 ≤ n) (h2 : n ≤ 1000000) :
    Calls Tryz.prog 6 #[.int .i64 v, .int .i64 n] w fun e w' => e = .returned (.int .i64 (foldZ v n)) ∧ w = w' := by
  have hmx : max n 1 = n := by omega
  go_enter Tryz.func6, Tryz.ntmps6
  go_wp2
  go_ret
  exact ⟨ret_int (fold_eq v n h1 h2), rfl⟩
/-- But for block b and new blocks nothing turns. -/
structure Touch (b : Nat) (w w' : World) : Prop where
  os : w'.os = w.os
  tape : w'.tape = w.tape
  output : w'.output = w.output
  size : w.heap.size ≤ w'.heap.size
  block : ∀ k, k < w.heap.size → k ≠ b → w'.heap[k]? = w.heap[k]?
theorem Touch.refl (b : Nat) (w : World) : Touch b w w := ⟨rfl, rfl, rfl, Nat.le_refl _, fun _ _ _ => rfl⟩
theorem Touch.trans {b : Nat} {u v w : World} (h : Touch b u v) (k : Touch b v w) : Touch b u w :=
  ⟨k.os.trans h.os, k.tape.trans h.tape, k.output.trans h.output, Nat.le_trans h.size k.size, fun i hi hn => (k.block i (Nat.lt_of_lt_of_le hi h.size) hn).trans (h.block i hi hn)⟩
theorem Touch.of_below {b : Nat} {w w' : World} (h : Below w.heap.size w w') : Touch b w w' := ⟨h.os, h.tape, h.output, h.size, fun k hk _ => h.block k hk⟩
theorem Touch.below {b : Nat} {w w' : World} (h : Touch b w w') (hb : b ≤ w.heap.size) : Below b w w' := ⟨h.os, h.tape, h.output, h.size, fun k hk => h.block k (by omega) (by omega)⟩
theorem Touch.set {b : Nat} {w w' : World} (h : Touch b w w') (j : Nat) (v : Value) : Touch b w (w'.setCell ⟨b, j, none⟩ v) :=
  h.trans ⟨rfl, rfl, rfl, by simp [World.setCell], fun k _ hn => Below.heap_setCell _ _ _ _ hn⟩
theorem Touch.drewN {b : Nat} {w w' : World} (h : Touch b w w') (n : Nat) : Touch b w (w'.drewN n) := h.trans (Touch.of_below (below_drewN (Below.refl _ _) n))
/-- A slice of integers in a block below m. -/
def IntsUnder (m : Nat) (w : World) (sv : Value) (zs : List Int) : Prop :=
  (zs = [] ∧ ∃ p c, sv = .slice p 0 c) ∨
  (0 < zs.length ∧ ∃ b off cap, sv = .slice (some ⟨b, off, none⟩) zs.length cap ∧ b < m ∧ ∀ j, j < zs.length → w.cell? ⟨b, off + j, none⟩ = some (.int .i64 (zs.getD j 0)))
theorem IntsUnder.touch {m b : Nat} {w w' : World} {sv : Value} {zs : List Int} (h : IntsUnder m w sv zs) (ht : Touch b w w') (hm : m ≤ b) (hb : b < w.heap.size) : IntsUnder m w' sv zs := by
  rcases h with h | ⟨h0, b', off, cap, e, hlt, hc⟩
  · exact Or.inl h
  · exact Or.inr ⟨h0, b', off, cap, e, hlt, fun j hj => (World.cell?_of_block (w := w) (w' := w') (a := ⟨b', off + j, none⟩) (ht.block b' (by omega) (by omega))).trans (hc j hj)⟩
theorem Touch.grown {b : Nat} {w0 w1 w2 : World} {row : Option Nat} (h : Touch b w0 w1) (hg : w1.grownBy w2 row) (hr : ∀ k, row = some k → w0.heap.size ≤ k) : Touch b w0 w2 :=
  ⟨hg.os.trans h.os, hg.tape.trans h.tape, hg.output.trans h.output, Nat.le_trans h.size hg.size, fun k hk hn => (hg.block k (Nat.lt_of_lt_of_le hk h.size) (fun e => by have := hr k e.symm; omega)).trans (h.block k hk hn)⟩
theorem ownsRow_touch {b : Nat} {w w' : World} {base size n : Nat} {e : TypeId} {v : Value} {xs : List Value} (h : w.ownsRow base e size v n xs) (ht : Touch b w w') (hb : b < base) : w'.ownsRow base e size v n xs := by
  refine ⟨h.1, ?_⟩
  rcases h.2 with h0 | ⟨g, cap, cur, hv, hbase, hblk, h1, h2, h3, h4⟩
  · exact Or.inl h0
  · exact Or.inr ⟨g, cap, cur, hv, hbase, (ht.block g (Array.getElem?_eq_some_iff.1 hblk).1 (by omega)).trans hblk, h1, h2, h3, h4⟩
/-- What a call owns reads as a slice of integers. -/
theorem own_cap {w : World} {base size n : Nat} {e : TypeId} {xs : List Value} {a : Addr} {c : Nat} (h : w.ownsRow base e size (.slice (some a) n c) n xs) : n ≤ c := by
  rcases h.2 with ⟨h0, _⟩ | ⟨g', cap', cur, hv, _, _, h1, _⟩
  · cases h0
  · simp only [Value.slice.injEq] at hv
    obtain ⟨_, _, e⟩ := hv
    omega
theorem ints_of_own {w : World} {base n : Nat} {v : Value} {xs : List Int} (h : w.ownsRow base 3 1 v n (xs.map (Value.int .i64))) (hn : n = xs.length) : IntsAt w v xs := by
  subst hn
  by_cases h0 : 0 < xs.length
  · obtain ⟨g, cap, rfl, _, hlt⟩ := World.ownsRow.form h h0
    refine Or.inr ⟨h0, g, 0, cap, rfl, own_cap h, hlt, fun j hj => ?_⟩
    have := h.cellAt j (by omega)
    rw [Nat.zero_add, this]
    simp [List.getD, hj]
  · have e : xs = [] := List.eq_nil_of_length_eq_zero (by omega)
    subst e
    refine Or.inl ⟨rfl, ?_⟩
    rcases h.2 with ⟨hv, _⟩ | ⟨g, cap, cur, hv, _⟩
    · exact ⟨_, _, hv⟩
    · exact ⟨_, _, hv⟩
theorem info3p : (Tryz.prog.info? 3).map (fun i => (i.zero, i.size, i.bytes)) = some (some (.int .i64 0), 1, 8) := by kernel_rfl
theorem gSyn : Tryz.prog.globalNamed "strconv.ErrSyntax" = some 3 := by kernel_rfl
theorem gRan : Tryz.prog.globalNamed "strconv.ErrRange" = some 4 := by kernel_rfl
/-- What the library's functions read: the table, two sentinels, one number. -/
structure Env (w : World) : Prop where
  tab : Tab w
  len : ∃ m, w.cell? ⟨1, 0, none⟩ = some (.int .i64 m)
  es : ∃ tp p, w.var? Tryz.prog "strconv.ErrSyntax" = some #[.iface tp p]
  er : ∃ tp p, w.var? Tryz.prog "strconv.ErrRange" = some #[.iface tp p]
theorem Env.below {w w' : World} (h : Env w) (hb : Below w.heap.size w w') : Env w' := by
  obtain ⟨m, hm⟩ := h.len
  obtain ⟨tp, p, hs⟩ := h.es
  obtain ⟨tq, q, hr⟩ := h.er
  have z0 := World.block_lt_of_cell? w _ hm
  have z1 := World.block_lt_of_cell? w _ (by simpa using World.var?_cell gSyn hs 0 : w.cell? ⟨3, 0, none⟩ = some (.iface tp p))
  have z2 := World.block_lt_of_cell? w _ (by simpa using World.var?_cell gRan hr 0 : w.cell? ⟨4, 0, none⟩ = some (.iface tq q))
  exact ⟨h.tab.below hb, ⟨m, (hb.cell (p := ⟨1, 0, none⟩) z0).trans hm⟩, ⟨tp, p, var?_below hb gSyn z1 hs⟩, ⟨tq, q, var?_below hb gRan z2 hr⟩⟩
def AtoiPost (s : ByteArray) (w : World) (e : Ending) (w' : World) : Prop := ∃ ev : Value, e = .returned (.tuple #[.int .i64 (atoiV s.data.toList), ev]) ∧ Below w.heap.size w w'
theorem atoi_any (s : ByteArray) (w : World) (hs : s.size ≤ 2000000) (hE : Env w) : Calls Tryz.prog 107 #[.string s] w (AtoiPost s w) := by
  cases h : Lib.atoiAll s.data.toList
  · rename_i v
    have e : atoiV s.data.toList = v := by unfold atoiV; rw [h]
    refine (Any.strconv_Atoi_ok Tryz.laysC172 s (by omega) _ h w).mono fun _ _ ⟨he, hw⟩ => ⟨_, by rw [e]; exact he, ?_⟩
    rcases hw with rfl | ⟨t, rfl⟩
    · exact Below.refl _ _
    · exact Lib.bytesWorld_below _ _ _
  · have e : atoiV s.data.toList = 0 := by unfold atoiV; rw [h]
    obtain ⟨tp, p, hv⟩ := hE.es
    exact (Any.strconv_Atoi_syntax_var Tryz.laysC172 s (by omega) h tp p w hv).mono fun _ _ ⟨N, he, _, _, hb⟩ => ⟨_, by rw [e]; exact he, hb⟩
  · have e : atoiV s.data.toList = Lib.atoiSat s.data.toList := by unfold atoiV; rw [h]
    obtain ⟨tp, p, hv⟩ := hE.er
    exact (Any.strconv_Atoi_range_var Tryz.laysC172 s (by omega) h tp p w hv).mono fun _ _ ⟨N, he, _, _, hb⟩ => ⟨_, by rw [e]; exact he, hb⟩
end Go.Proofs.YtenjefbplpbjaaaGreatDoor
