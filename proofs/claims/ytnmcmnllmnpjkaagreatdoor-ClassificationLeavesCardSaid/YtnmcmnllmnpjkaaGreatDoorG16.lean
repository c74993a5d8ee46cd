/- Contract of spoiled: a made list of at most 20 codes of at most 15 bytes each. -/
import Derived.Test.YtnmcmnllmnpjkaaGreatDoorG13
import Derived.Test.YtnmcmnllmnpjkaaGreatDoorSf
import Derived.IntWalk
import Derived.Deep.RegionHeld3
namespace Go.Proofs.YtnmcmnllmnpjkaaGreatDoor
open Go.RowKit Go.Sort Cal Go.Maps
/-- Between two steps of spoiled: the tape in block b, the result's block, the struct in block B. -/
structure SpB (B b : Nat) (sv : Value) (zs : List Int) (i : Nat) (v : Value) (w0 w : World) : Prop where
  tape : TapeAt b sv zs i w
  res : w.heap[w0.heap.size]? = some (.cells #[.string ⟨#[]⟩, .slice none 0 0] 24 (0, 0))
  blk : w.heap[B]? = some (.cells #[.string ⟨#[99]⟩, v] 24 (0, 0))
  touch : Touch b w0 w
  lo : b < w0.heap.size
  hi : w0.heap.size < B
section
variable {B b : Nat} {sv : Value} {zs : List Int} {i j : Nat} {v v' : Value} {w0 w w1 w2 : World}
theorem SpB.lt (h : SpB B b sv zs i v w0 w) : B < w.heap.size := (Array.getElem?_eq_some_iff.1 h.blk).1
theorem SpB.below (h : SpB B b sv zs i v w0 w) (hb : Below w.heap.size w w1) : SpB B b sv zs i v w0 w1 :=
  ⟨h.tape.below hb, (hb.block _ (by have := h.lt; have := h.hi; omega)).trans h.res, (hb.block _ h.lt).trans h.blk, h.touch.trans (Touch.of_below hb), h.lo, h.hi⟩
theorem SpB.next (h : SpB B b sv zs i v w0 w) (hT : TapeAt b sv zs j w1) (ht : Touch b w w1) : SpB B b sv zs j v w0 w1 :=
  ⟨hT, (ht.block _ (by have := h.lt; have := h.hi; omega) (by have := h.lo; omega)).trans h.res, (ht.block _ h.lt (by have := h.lo; have := h.hi; omega)).trans h.blk, h.touch.trans ht, h.lo, h.hi⟩
theorem SpB.grown {row : Option Nat} (h : SpB B b sv zs i v w0 w) (hg : w.grownBy w1 row) (hlo : ∀ k, row = some k → w0.heap.size < k ∧ k ≠ B) : SpB B b sv zs i v w0 w1 := by
  have key : ∀ k, k < w.heap.size → (k ≤ w0.heap.size ∨ k = B) → w1.heap[k]? = w.heap[k]? := fun k hk hk2 => hg.block k hk (fun e => by have := hlo k e.symm; omega)
  have hlt := h.lt
  have hhi := h.hi
  exact ⟨h.tape.keep (fun k hk => key k (by have := h.tape.lt; omega) (Or.inl (by have := h.lo; omega))), (key _ (by omega) (Or.inl (Nat.le_refl _))).trans h.res, (key _ hlt (Or.inr rfl)).trans h.blk, h.touch.grown hg (fun k e => by have := hlo k e; omega), h.lo, hhi⟩
theorem SpB.store (h : SpB B b sv zs i v w0 w) : SpB B b sv zs i v' w0 (w.setCell ⟨B, 1, none⟩ v') := by
  have hl := h.lo
  have hh := h.hi
  refine ⟨h.tape.keep (fun k hk => set_other rfl (by omega) 1 v'), set_other h.res (by omega) 1 v', by have := set_blk h.blk 1 v'; simpa using this, ?_, hl, hh⟩
  exact ⟨h.touch.os, h.touch.tape, h.touch.output, by have := h.touch.size; simpa [World.setCell] using this, fun k hk hn => (set_other rfl (by omega) 1 v').trans (h.touch.block k hk hn)⟩
theorem SpB.other {g k : Nat} (h : SpB B b sv zs i v w0 w) (hg : w0.heap.size < g) (hne : g ≠ B) (u : Value) : SpB B b sv zs i v w0 (w.setCell ⟨g, k, none⟩ u) := by
  have hl := h.lo
  have hh := h.hi
  refine ⟨h.tape.keep (fun j hj => set_other rfl (by omega) k u), set_other h.res (by omega) k u, set_other h.blk (by omega) k u, ?_, hl, hh⟩
  exact ⟨h.touch.os, h.touch.tape, h.touch.output, by have := h.touch.size; simpa [World.setCell] using this, fun j hj hn => (set_other rfl (by omega) k u).trans (h.touch.block j hj hn)⟩
theorem SpB.fin (h : SpB B b sv zs i v w0 w) (x u : Value) :
    (((w.setCell ⟨w0.heap.size, 0, none⟩ x).setCell ⟨w0.heap.size, 1, none⟩ u).cell? ⟨w0.heap.size, 0, none⟩ = some x ∧ ((w.setCell ⟨w0.heap.size, 0, none⟩ x).setCell ⟨w0.heap.size, 1, none⟩ u).cell? ⟨w0.heap.size, 1, none⟩ = some u) ∧
    TapeAt b sv zs i ((w.setCell ⟨w0.heap.size, 0, none⟩ x).setCell ⟨w0.heap.size, 1, none⟩ u) ∧ Touch b w0 ((w.setCell ⟨w0.heap.size, 0, none⟩ x).setCell ⟨w0.heap.size, 1, none⟩ u) := by
  have hl := h.lo
  have hr := set_blk (set_blk h.res 0 x) 1 u
  have key : ∀ k, k ≠ w0.heap.size → ((w.setCell ⟨w0.heap.size, 0, none⟩ x).setCell ⟨w0.heap.size, 1, none⟩ u).heap[k]? = w.heap[k]? := fun k hk => set_other (set_other rfl hk 0 x) hk 1 u
  refine ⟨⟨cell_blk hr 0 x rfl, cell_blk hr 1 u rfl⟩, h.tape.keep (fun k hk => key k (by omega)), h.touch.os, h.touch.tape, h.touch.output, ?_, fun k hk hn => (key k (by omega)).trans (h.touch.block k hk hn)⟩
  have := h.touch.size
  simpa [World.setCell] using this
end
theorem strs_store {w : World} {v : Value} {ss : List ByteArray} {N : Nat} {x u : Value} (h : StrsAt w v ss) (hN : ∀ q n c, v = .slice (some q) n c → 0 < n → q.block ≠ N) : StrsAt ((w.setCell ⟨N, 0, none⟩ x).setCell ⟨N, 1, none⟩ u) v ss := by
  rcases h with h | ⟨h0, b, off, cap, e, hl, hlt, hc⟩
  · exact Or.inl h
  · have hne : b ≠ N := hN _ _ _ e h0
    refine Or.inr ⟨h0, b, off, cap, e, hl, by simpa [World.setCell] using hlt, fun j hj => ?_⟩
    rw [World.cell?_setCell_other _ _ _ _ (fun e => hne (congrArg Addr.block e).symm), World.cell?_setCell_other _ _ _ _ (fun e => hne (congrArg Addr.block e).symm)]
    exact hc j hj
/-- At most 20 strings of at most 15 bytes each. -/
def Mild (ss : List ByteArray) : Prop := ss.length ≤ 20 ∧ ∀ x ∈ ss, x.size ≤ 15
theorem Mild.short {ss : List ByteArray} (h : Mild ss) : Short ss := by
  intro k
  have := getD_size ss 15 h.2 k
  show (ss.getD k ByteArray.empty).size ≤ 1000
  omega
theorem mild_tree {PS : List (List Int)} (h : TreeOK PS) (h2 : PS.length ≤ 10) : Mild (codesOf PS) := by
  refine ⟨by rw [codesOf_len]; omega, fun x hx => ?_⟩
  obtain ⟨P, hP, rfl⟩ := List.mem_map.1 hx
  have h1 := codeB_size P
  have h5 := (h.ok P hP).2.1
  omega
def SpoilPost (b : Nat) (sv : Value) (zs : List Int) (i : Nat) (w : World) (e : Ending) (w' : World) : Prop :=
  ∃ (q : Option Addr) (n c : Nat) (ss : List ByteArray) (i' : Nat), e = .returned (.agg #[.string ⟨#[99]⟩, .slice q n c]) ∧ Mild ss ∧ n = ss.length ∧ StrsAt w' (.slice q n c) ss ∧ i' ≤ i + 40 ∧ TapeAt b sv zs i' w' ∧ Touch b w w' ∧ (q = none → c = 0) ∧ ∀ a, q = some a → 0 < n → w.heap.size < a.block
/-- Behind the switch. -/
def SpRel (B b : Nat) (sv : Value) (zs : List Int) (i : Nat) (w w' : World) : Prop :=
  ∃ (q : Option Addr) (n c : Nat) (ss : List ByteArray) (i' : Nat), SpB B b sv zs i' (.slice q n c) w w' ∧ Mild ss ∧ n = ss.length ∧ StrsAt w' (.slice q n c) ss ∧ (q = none → c = 0) ∧ (∀ a, q = some a → 0 < n → w.heap.size < a.block) ∧ i' ≤ i + 40
theorem own_none {w : World} {base n c : Nat} {e : TypeId} {xs : List Value} (h : w.ownsRow base e 1 (.slice none n c) n xs) : c = 0 := by
  rcases h.2 with ⟨e, _⟩ | ⟨g, cap, cur, e, _⟩
  · cases e; rfl
  · cases e
theorem strs_len {w : World} {q : Option Addr} {n c : Nat} {ss : List ByteArray} (h : StrsAt w (.slice q n c) ss) : n = ss.length := by
  rcases h with ⟨rfl, p, c', e⟩ | ⟨_, b, off, cap, e, _⟩
  · cases e; rfl
  · cases e; rfl
theorem own_strs {w : World} {base n : Nat} {v : Value} {xs : List ByteArray} (h : w.ownsRow base 9 1 v n (xs.map Value.string)) : ∃ q c, v = .slice q n c ∧ n = xs.length ∧ StrsAt w (.slice q n c) xs ∧ (∀ a, q = some a → base ≤ a.block) := by
  have hn : n = xs.length := by have := h.1; simpa using this.symm
  have hs := strs_of_own h hn
  rcases h.2 with ⟨rfl, rfl⟩ | ⟨g, cap, cur, rfl, hb, _⟩
  · exact ⟨none, 0, rfl, hn, hs, fun a e => by cases e⟩
  · exact ⟨_, cap, rfl, hn, hs, fun a e => by cases e; exact hb⟩
/-- One element of a row changed. -/
theorem StrsAt.set {w : World} {g n c k : Nat} {ss : List ByteArray} (h : StrsAt w (.slice (some ⟨g, 0, none⟩) n c) ss) (s : ByteArray) (hk : k < ss.length) : StrsAt (w.setCell ⟨g, k, none⟩ (.string s)) (.slice (some ⟨g, 0, none⟩) n c) (ss.set k s) := by
  rcases h with ⟨rfl, _⟩ | ⟨h0, b, off, cap, e, hl, hlt, hc⟩
  · simp at hk
  · cases e
    refine Or.inr ⟨by simpa using h0, g, 0, c, by simp, by simpa using hl, by simpa [World.setCell] using hlt, fun j hj => ?_⟩
    rw [List.length_set] at hj
    by_cases e : j = k
    · subst e
      have := hc j hj
      rw [Nat.zero_add] at this ⊢
      rw [World.cell?_setCell_same' _ _ _ (by rw [this]; rfl)]
      simp [List.getD, hj]
    · rw [Nat.zero_add, World.cell?_setCell_other _ _ _ _ (fun x => e (by cases x; rfl))]
      have := hc j hj
      rw [Nat.zero_add] at this
      rw [this]
      simp [List.getD, show k ≠ j from fun x => e x.symm]
theorem mild_set {ss : List ByteArray} (h : Mild ss) (k : Nat) (s : ByteArray) (hs : s.size ≤ 15) : Mild (ss.set k s) := by
  refine ⟨by rw [List.length_set]; exact h.1, fun x hx => ?_⟩
  rcases List.mem_or_eq_of_mem_set hx with k | k
  · exact h.2 x k
  · rw [k]; exact hs
/-- append at a step of a region that draws its order, nothing to be appended let in. -/
theorem step_append_at {P : Program} {w : World} {ops : Array Oper} {o : Oper} {a : Act} {K : Act → World → Prop} {Q : Exit → Act → World → Prop} {E : Prop} (hgd : o.guard = none) (s x : Operand) (t : TypeId)
    (ho : o.op = .call { callee := .builtin .append, args := #[s, x], argTypes := #[t, t] })
    (base : Nat) (e : TypeId) (i : TypeInfo) (z : Value) (size bytes : Nat) (ht : P.underlying t = some (.slice e)) (hi : P.info? e = some i) (hz : i.zero = some z)
    (hsize : i.size = size) (hby : i.bytes = bytes) (hzs : z.cells.size = size) (hsz : 0 < size)
    (v : Value) (n : Nat) (xs : List Value) (hs : a.eval s = v) (hown : w.ownsRow base e size v n xs)
    (ad : Addr) (m c : Nat) (news : List Value) (hx : a.eval x = .slice (some ad) m c) (hl : news.length = m * size) (hnews : ∀ j u, news[j]? = some u → w.cell? (ad.add j) = some u) (h1 : ∀ u ∈ news, u.oneCell' = true)
    (h63 : n + m ≤ maxLen) (hbytes : (n + m) * bytes ≤ 140737488355328) (hbase : base ≤ w.heap.size)
    (h : ∀ v' w', w'.ownsRow base e size v' (n + m) (xs ++ news) → w.grownBy w' v.ownBlock → K (a.put o.dst v') w') :
    if Region.wanted o (yielded ops a.tmps) = true then Oper.wp P o a w K Q else E := by
  rw [if_pos (by simp [Region.wanted, hgd])]
  obtain ⟨v', w', hr, h2, h3, _⟩ := run_append_own_at (P := P) w base t o.type e i z size bytes ht hi hz hsize hby hzs hsz v n xs hown ad m c news hl hnews h1 h63 hbytes hbase
  unfold Oper.wp execOp
  simp only [ho, resolve, invoke, builtin, Sem.run_bind, Sem.run_pure, Result.andThen_ok, List.map_toArray, List.map_cons, List.map_nil, hs, hx, hr]
  exact h v' w' h2 h3
theorem news_take {w : World} {base g n cap k : Nat} {e : TypeId} {xs : List Value} (h : w.ownsRow base e 1 (.slice (some ⟨g, 0, none⟩) n cap) n xs) : ∀ j u, (xs.take k)[j]? = some u → w.cell? ((⟨g, 0, none⟩ : Addr).add j) = some u := by
  intro j u hu
  have hj := (List.getElem?_eq_some_iff.1 hu).1
  rw [List.length_take] at hj
  have hl := h.1
  have hk : xs[j]? = some u := by rw [← hu, List.getElem?_take, if_pos (by omega)]
  rw [Go.WideShapes.add_plain, Nat.zero_add, h.cellAt j (by omega), hk]
theorem news_drop {w : World} {base g n cap k : Nat} {e : TypeId} {xs : List Value} (h : w.ownsRow base e 1 (.slice (some ⟨g, 0, none⟩) n cap) n xs) : ∀ j u, (xs.drop k)[j]? = some u → w.cell? ((⟨g, k, none⟩ : Addr).add j) = some u := by
  intro j u hu
  rw [List.getElem?_drop] at hu
  have hj := (List.getElem?_eq_some_iff.1 hu).1
  have hl := h.1
  rw [Go.WideShapes.add_plain, h.cellAt (k + j) (by omega), hu]
theorem own_caps {w : World} {base n cap : Nat} {a : Option Addr} {e : TypeId} {xs : List Value} (h : w.ownsRow base e 1 (.slice a n cap) n xs) : n ≤ cap ∧ cap ≤ maxLen := by
  rcases h.2 with ⟨e, rfl⟩ | ⟨g, c, cur, e, _, _, h1, h2, _⟩
  · cases e; exact ⟨Nat.le_refl _, Nat.zero_le _⟩
  · cases e; exact ⟨h1, h2⟩
theorem own_free {w : World} {base g n cap k : Nat} {e : TypeId} {xs : List Value} (h : w.ownsRow base e 1 (.slice (some ⟨g, 0, none⟩) n cap) n xs) : w.frozen? ⟨g, k, none⟩ = false := by
  rcases h.2 with ⟨e, _⟩ | ⟨g', c, cur, e, _, hb, _⟩
  · cases e
  · cases e; exact free_blk hb k
/-- A row of strings lies in another block than a classification. -/
theorem own_far {w : World} {base n B : Nat} {v : Value} {xs : List Value} {cs : Array Value} (h : w.ownsRow base 9 1 v n xs) (hb : w.heap[B]? = some (.cells cs 24 (0, 0))) : ∀ j, v.ownBlock = some j → j ≠ B := by
  rintro j e rfl
  rcases h.2 with ⟨rfl, _⟩ | ⟨g, c, cur, rfl, _, hg, _⟩
  · cases e
  · cases e
    rw [hb] at hg
    cases hg
theorem strs_far {w : World} {base n N c : Nat} {q : Option Addr} {xs : List ByteArray} {u : Value} (h : w.ownsRow base 9 1 (.slice q n c) n (xs.map Value.string)) (hN : ∀ j, (Value.slice q n c).ownBlock = some j → j ≠ N) : StrsAt (w.setCell ⟨N, 1, none⟩ u) (.slice q n c) xs := by
  have hn : n = xs.length := by have := h.1; simpa using this.symm
  rcases strs_of_own h hn with h1 | ⟨h0, b, off, cap, e, hl, hlt, hc⟩
  · exact Or.inl h1
  · have hne : b ≠ N := by cases e; exact hN b rfl
    refine Or.inr ⟨h0, b, off, cap, e, hl, by simpa [World.setCell] using hlt, fun j hj => ?_⟩
    rw [World.cell?_setCell_other _ _ _ _ (fun e => hne (congrArg Addr.block e).symm)]
    exact hc j hj
theorem strs_one (xs : List ByteArray) : ∀ u ∈ xs.map Value.string, u.oneCell' = true := by
  intro u hu
  obtain ⟨s, _, rfl⟩ := List.mem_map.1 hu
  rfl
theorem mild_cut {ss : List ByteArray} (h : Mild ss) (k : Nat) : Mild (ss.take k ++ ss.drop (k + 1)) := by
  refine ⟨by have := h.1; simp; omega, fun x hx => ?_⟩
  rcases List.mem_append.1 hx with h1 | h1
  · exact h.2 x (List.mem_of_mem_take h1)
  · exact h.2 x (List.mem_of_mem_drop h1)
theorem mild_more {ss : List ByteArray} (h : Mild ss) (hl : ss.length ≤ 10) (k : Nat) (hk : k < ss.length) : Mild (ss ++ [ss[k]]) := by
  refine ⟨by simp; omega, fun x hx => ?_⟩
  rcases List.mem_append.1 hx with h1 | h1
  · exact h.2 x h1
  · rw [List.mem_singleton.1 h1]; exact h.2 _ (List.getElem_mem hk)
set_option maxRecDepth 100000 in
set_option maxHeartbeats 6400000 in
theorem spoiled_any (b : Nat) (sv : Value) (zs : List Int) (i : Nat) (w : World) (hT : TapeAt b sv zs i w) (hi : i ≤ 700000) :
    Calls Tryz.prog 5 #[.pointer (some ⟨b, 0, none⟩)] w (SpoilPost b sv zs i w) := by
  have hbw := hT.lt
  have HT0 := Lib.hid (hT.below ((Below.refl _ _).alloc (Nat.le_refl _) (.cells #[.string ⟨#[]⟩, .slice none 0 0] 24)))
  obtain ⟨i0, hi0, hz0, hz1, hz2⟩ := info_parts info9p
  clear hT
  go_enter Tryz.func5, Tryz.ntmps5
  go_wp2_with fail
  refine (tree_any b sv zs i _ HT0.out (by omega)).mono ?_
  rintro e w1 ⟨v, PS, i1, rfl, hOK, hP1, hP10, hown, hi1, hT1, ht1⟩
  have hown1 : w1.ownsRow (w.heap.size + 3) 9 1 v PS.length ((codesOf PS).map Value.string) := by simpa using hown
  obtain ⟨n, hn⟩ : ∃ n, n = PS.length := ⟨_, rfl⟩
  obtain ⟨ss, hss⟩ : ∃ ss, ss = codesOf PS := ⟨_, rfl⟩
  have HMI : Hid (Mild ss) := Lib.hid (by rw [hss]; exact mild_tree hOK hP10)
  have HNL : Hid (n = ss.length) := Lib.hid (by rw [hss, hn, codesOf_len])
  rw [← hn] at hP1 hP10 hown1
  rw [← hss] at hown1
  clear hown hOK hn hss
  have hs1 : w.heap.size + 1 ≤ w1.heap.size := by have := ht1.size; simpa using this
  obtain ⟨g, cp, rfl, hg, hg1⟩ := World.ownsRow.form hown1 (by omega)
  have HSB : Hid (SpB w1.heap.size b sv zs i1 (.slice (some ⟨g, 0, none⟩) n cp) w (w1.alloc (.cells #[.string ⟨#[99]⟩, .slice (some ⟨g, 0, none⟩) n cp] 24))) := Lib.hid (by
    have hb : Below w1.heap.size w1 (w1.alloc (.cells #[.string ⟨#[99]⟩, .slice (some ⟨g, 0, none⟩) n cp] 24)) := (Below.refl _ _).alloc (Nat.le_refl _) _
    refine ⟨hT1.below hb, ?_, ?_, (((Touch.of_below ((Below.refl _ _).alloc (Nat.le_refl _) _)).trans ht1).trans (Touch.of_below hb)), hbw, by omega⟩
    · refine ((hb.block _ (by omega)).trans (ht1.block _ (by simp) (by omega))).trans ?_
      show (w.heap.push _)[_]? = _
      rw [Array.getElem?_push, if_pos rfl]
    · show (w1.heap.push _)[_]? = _
      rw [Array.getElem?_push, if_pos rfl])
  have HOW := Lib.hid (ownsRow_below hown1 ((Below.refl _ w1).alloc (Nat.le_refl _) (.cells #[.string ⟨#[99]⟩, .slice (some ⟨g, 0, none⟩) n cp] 24)))
  have HT1 := Lib.hid hT1
  clear hown1 hT1 ht1
  go_wp2_with fail
  refine (next_some b sv zs i1 n _ HSB.out.tape (by omega) (by omega) (by omega)).mono ?_
  rintro e w2 ⟨x, hx0, hx1, rfl, hT2, ht2⟩
  obtain ⟨k, rfl⟩ := Int.eq_ofNat_of_zero_le hx0
  have hkn : k < n := by omega
  have HSB2 := Lib.hid (HSB.out.next hT2 ht2)
  have HOW2 := Lib.hid (ownsRow_touch HOW.out ht2 (by omega))
  clear hT2 ht2
  go_wp2_with fail
  refine (next_some b sv zs (i1 + 1) 5 _ HSB2.out.tape (by omega) (by omega) (by omega)).mono ?_
  rintro e w3 ⟨y, hy0, hy1, rfl, hT3, ht3⟩
  have HSB3 := Lib.hid (HSB2.out.next hT3 ht3)
  have HOW3 := Lib.hid (ownsRow_touch HOW2.out ht3 (by omega))
  have hs3 := HSB3.out.lt
  have cf3 := cell_blk HSB3.out.blk 1 _ rfl
  have ff3 := free_blk HSB3.out.blk 1
  clear hT3 ht3
  have hy : y = 0 ∨ y = 1 ∨ y = 2 ∨ 3 ≤ y := by omega
  go_upto_block 0 with fail
  go_cut [14] (fun _ wx => SpRel w1.heap.size b sv zs i w wx)
  case first =>
    rcases hy with rfl | rfl | rfl | hy
    · have hwr : w3.drew.alloc (.cells #[] 9) = w3.drew.alloc (.cells #[] 9) := rfl
      have hbA : Below w3.heap.size w3 (w3.drew.alloc (.cells #[] 9)) := ((Below.refl _ w3).drew).alloc (by simp) _
      have hlit : (w3.drew.alloc (.cells #[] 9)).ownsRow w3.heap.size 9 1 (.slice (some ⟨w3.heap.size, 0, none⟩) 0 0) 0 [] := World.ownsRow_lit w3.drew #[] 0 (Nat.le_refl _) (by decide) rfl
      have hcut1 := hbA
      have HOA := Lib.hid (ownsRow_below HOW3.out hbA)
      have HSA := Lib.hid (HSB3.out.below hbA)
      have HLIT := Lib.hid hlit
      have hcc := own_caps HOW3.out
      have hn1 : n ≤ cp := hcc.1
      have hc9 : cp ≤ 9223372036854775807 := by have := hcc.2; unfold maxLen at this; omega
      have hk1 : (k : Int) ≤ (cp : Int) := by omega
      have hk2 : (k : Int) + 1 ≤ (n : Int) := by omega
      have hgw : g < w3.heap.size := by omega
      clear hcc hlit hbA hwr hcut1
      by_cases hcap : cp = k + 1
      · have hn9 : n = k + 1 := by omega
        subst hcap hn9
        have HDR : Hid (ss.drop (k + 1) = []) := Lib.hid (List.drop_of_length_le (by rw [← HNL.out]; exact Nat.le_refl _))
        have R1 : Hid (∀ j, (some w3.heap.size : Option Nat) = some j → w.heap.size < j ∧ j ≠ w1.heap.size) := Lib.hid (fun j e => by have e2 := Option.some.inj e; exact ⟨by omega, by omega⟩)
        have R2 : Hid (∀ j, (some w3.heap.size : Option Nat) = some j → w3.heap.size ≤ j) := Lib.hid (fun j e => by have e2 := Option.some.inj e; omega)
        have R3 : Hid (∀ j, w3.heap.size ≤ j → w.heap.size < j ∧ j ≠ w1.heap.size) := Lib.hid (fun j e => ⟨by omega, by omega⟩)
        have L1 : Hid (((ss.take k).map Value.string).length = k * 1) := Lib.hid (by rw [List.length_map, List.length_take, ← HNL.out]; omega)
        have M1 : Hid (0 + k ≤ maxLen ∧ (0 + k) * 16 ≤ 140737488355328) := Lib.hid ⟨by unfold maxLen; omega, by omega⟩
        have M2 : Hid (k + 0 ≤ maxLen ∧ (k + 0) * 16 ≤ 140737488355328) := Lib.hid ⟨by unfold maxLen; omega, by omega⟩
        have hk0 : (0 : Int) ≤ (k : Int) + 1 := by omega
        have hk3 : (k : Int) + 1 ≤ ((k + 1 : Nat) : Int) := by omega
        have hk5 : (k : Int) ≤ (k : Int) + 1 := by omega
        have hkt : ((k : Int) + 1).toNat = k + 1 := by omega
        have hkw : IntKind.i64.wrap ((k : Int) + 1) = (k : Int) + 1 := IntWalk.i64_in _ (by omega)
        go_wp2_with fail
        go_region_law (first
          | (refine step_append_at (by rfl) _ _ 22 (by rfl) w3.heap.size 9 i0 (.string ⟨#[]⟩) 1 16 Tryz.underlying22 hi0 hz0 hz1 hz2 (by rfl) (by decide) v1 k _ (by rfl) hownP ⟨g, 0, none⟩ 0 0 [] (by rfl) (by rfl) (by intro j u hu; simp at hu) (by intro u hu; cases hu) M2.out.1 M2.out.2 HZ4.out ?_; intro v2 w5 hownR hgrow2; have hownR' : w5.ownsRow w3.heap.size 9 1 v2 k ((ss.take k ++ ss.drop (k + 1)).map Value.string) := (by rw [HDR.out, List.append_nil]; simpa using hownR); clear hownR; obtain ⟨q2, c2, rfl, -, -, hq2⟩ := own_strs hownR'; have HS5 := Lib.hid (HS4.out.grown hgrow2 (fun j e => R3.out j (hownP.lt j e).1)); have cf5 := cell_blk HS5.out.blk 1 _ rfl; have ff5 := free_blk HS5.out.blk 1; clear hgrow2)
          | (refine step_append_at (by rfl) _ _ 22 (by rfl) w3.heap.size 9 i0 (.string ⟨#[]⟩) 1 16 Tryz.underlying22 hi0 hz0 hz1 hz2 (by rfl) (by decide) (.slice (some ⟨w3.heap.size, 0, none⟩) 0 0) 0 _ (by rfl) HLIT.out ⟨g, 0, none⟩ k (k + 1) ((ss.take k).map Value.string) (by rfl) L1.out (by rw [List.map_take]; exact news_take HOA.out) (strs_one _) M1.out.1 M1.out.2 (by simp) ?_; intro v1 w4 hownP0 hgrow1; have hownP : w4.ownsRow w3.heap.size 9 1 v1 k ((ss.take k).map Value.string) := (by simpa using hownP0); clear hownP0; have HS4 := Lib.hid (HSA.out.grown hgrow1 R1.out); have cf4 := cell_blk HS4.out.blk 1 _ rfl; have ff4 := free_blk HS4.out.blk 1; have hownQ := own_belowN HOA.out (own_where HOW3.out) (((Below.refl w3.heap.size _).grown hgrow1 (by simp) R2.out)); have HZ4 : Hid (w3.heap.size ≤ w4.heap.size) := Lib.hid (Nat.le_trans (by simp) hgrow1.size); clear hgrow1))
        all_goals
          have HOR := Lib.hid (own_store hownR' (show w1.heap.size < w3.heap.size by omega) (i := 1) (u := .slice q2 k c2))
          clear hownR' hownQ hownP cf4 ff4 cf5 ff5 hkw
          go_wp2_with fail
          go_meet
          case rel =>
            obtain ⟨q3, c3, e3, hn3, hst3, hq3⟩ := own_strs HOR.out
            cases e3
            exact ⟨q2, _, c2, _, _, HS5.out.store, mild_cut HMI.out k, hn3, hst3, (fun e => by subst e; exact own_none HOR.out), fun a ha _ => by have := hq3 a ha; omega, by omega⟩
      · have R1 : Hid (∀ j, (some w3.heap.size : Option Nat) = some j → w.heap.size < j ∧ j ≠ w1.heap.size) := Lib.hid (fun j e => by have e2 := Option.some.inj e; exact ⟨by omega, by omega⟩)
        have R2 : Hid (∀ j, (some w3.heap.size : Option Nat) = some j → w3.heap.size ≤ j) := Lib.hid (fun j e => by have e2 := Option.some.inj e; omega)
        have R3 : Hid (∀ j, w3.heap.size ≤ j → w.heap.size < j ∧ j ≠ w1.heap.size) := Lib.hid (fun j e => ⟨by omega, by omega⟩)
        have L1 : Hid (((ss.take k).map Value.string).length = k * 1) := Lib.hid (by rw [List.length_map, List.length_take, ← HNL.out]; omega)
        have L2 : Hid (((ss.drop (k + 1)).map Value.string).length = (n - (k + 1)) * 1) := Lib.hid (by rw [List.length_map, List.length_drop, ← HNL.out]; omega)
        have M1 : Hid (0 + k ≤ maxLen ∧ (0 + k) * 16 ≤ 140737488355328) := Lib.hid ⟨by unfold maxLen; omega, by omega⟩
        have M2 : Hid (k + (n - (k + 1)) ≤ maxLen ∧ (k + (n - (k + 1))) * 16 ≤ 140737488355328) := Lib.hid ⟨by unfold maxLen; omega, by omega⟩
        have hk0 : (0 : Int) ≤ (k : Int) + 1 := by omega
        have hk3 : (k : Int) + 1 ≤ (cp : Int) := by omega
        have hkt : ((k : Int) + 1).toNat = k + 1 := by omega
        have hcap' : ¬ cp = k + 1 := hcap
        have hkw : IntKind.i64.wrap ((k : Int) + 1) = (k : Int) + 1 := IntWalk.i64_in _ (by omega)
        go_wp2_with fail
        go_region_law (first
          | (refine step_append_at (by rfl) _ _ 22 (by rfl) w3.heap.size 9 i0 (.string ⟨#[]⟩) 1 16 Tryz.underlying22 hi0 hz0 hz1 hz2 (by rfl) (by decide) v1 k _ (by rfl) hownP ⟨g, k + 1, none⟩ (n - (k + 1)) (cp - (k + 1)) ((ss.drop (k + 1)).map Value.string) (by rfl) L2.out (by rw [List.map_drop]; exact news_drop hownQ) (strs_one _) M2.out.1 M2.out.2 HZ4.out ?_; intro v2 w5 hownR hgrow2; have hownR' : w5.ownsRow w3.heap.size 9 1 v2 (k + (n - (k + 1))) ((ss.take k ++ ss.drop (k + 1)).map Value.string) := (by rw [List.map_append]; exact hownR); clear hownR; obtain ⟨q2, c2, rfl, -, -, hq2⟩ := own_strs hownR'; have HS5 := Lib.hid (HS4.out.grown hgrow2 (fun j e => R3.out j (hownP.lt j e).1)); have cf5 := cell_blk HS5.out.blk 1 _ rfl; have ff5 := free_blk HS5.out.blk 1; clear hgrow2)
          | (refine step_append_at (by rfl) _ _ 22 (by rfl) w3.heap.size 9 i0 (.string ⟨#[]⟩) 1 16 Tryz.underlying22 hi0 hz0 hz1 hz2 (by rfl) (by decide) (.slice (some ⟨w3.heap.size, 0, none⟩) 0 0) 0 _ (by rfl) HLIT.out ⟨g, 0, none⟩ k cp ((ss.take k).map Value.string) (by rfl) L1.out (by rw [List.map_take]; exact news_take HOA.out) (strs_one _) M1.out.1 M1.out.2 (by simp) ?_; intro v1 w4 hownP0 hgrow1; have hownP : w4.ownsRow w3.heap.size 9 1 v1 k ((ss.take k).map Value.string) := (by simpa using hownP0); clear hownP0; have HS4 := Lib.hid (HSA.out.grown hgrow1 R1.out); have cf4 := cell_blk HS4.out.blk 1 _ rfl; have ff4 := free_blk HS4.out.blk 1; have hownQ := own_belowN HOA.out (own_where HOW3.out) (((Below.refl w3.heap.size _).grown hgrow1 (by simp) R2.out)); have HZ4 : Hid (w3.heap.size ≤ w4.heap.size) := Lib.hid (Nat.le_trans (by simp) hgrow1.size); clear hgrow1))
        all_goals
          have HOR := Lib.hid (own_store hownR' (show w1.heap.size < w3.heap.size by omega) (i := 1) (u := .slice q2 (k + (n - (k + 1))) c2))
          clear hownR' hownQ hownP cf4 ff4 cf5 ff5 hkw
          go_wp2_with fail
          go_meet
          case rel =>
            obtain ⟨q3, c3, e3, hn3, hst3, hq3⟩ := own_strs HOR.out
            cases e3
            exact ⟨q2, _, c2, _, _, HS5.out.store, mild_cut HMI.out k, hn3, hst3, (fun e => by subst e; exact own_none HOR.out), fun a ha _ => by have := hq3 a ha; omega, by omega⟩
    · have hcc := own_caps HOW3.out
      have hn1 : n ≤ cp := hcc.1
      have hk0 : (0 : Int) ≤ (k : Int) := by omega
      have hk1 : (k : Int) < (n : Int) := by omega
      have hne : g ≠ w1.heap.size := by omega
      have hne' : w1.heap.size ≠ g := by omega
      have hb10 : ((1 : Int) == 0) = false := by decide
      have HSD := Lib.hid (HSB3.out.below (Below.refl _ w3).drew)
      have HOD := Lib.hid (ownsRow_below HOW3.out (Below.refl _ w3).drew)
      have HKS : Hid (k < ss.length) := Lib.hid (by rw [← HNL.out]; exact hkn)
      clear hcc
      go_wp2_with fail
      go_region_held3 (fun w' => w'.cell? ⟨w1.heap.size, 1, none⟩ = some (.slice (some ⟨g, 0, none⟩) n cp)) (first | assumption | go_keep) ((go_at_call 6; refine (code_any b sv zs (i1 + 1 + 1) _ HSD.out.tape (by omega)).mono ?_; rintro e w4 ⟨s, i4, rfl, hs, hi4, hT4, ht4⟩; have HS4 := Lib.hid (HSD.out.next hT4 ht4); have cf4 := cell_blk HS4.out.blk 1 _ rfl; have HO4 := Lib.hid (ownsRow_touch HOD.out ht4 (by omega)); have cg4 : w4.cell? ⟨g, k, none⟩ = some (.string (ss[k]'HKS.out)) := (by rw [HO4.out.cellAt k (by omega)]; simp [HKS.out]); have fg4 : w4.frozen? ⟨g, k, none⟩ = false := own_free HO4.out; clear hT4 ht4))
      all_goals
        have HST4 := Lib.hid ((strs_of_own HO4.out HNL.out).set (k := k) s HKS.out)
        clear cf4 cg4 fg4
        go_wp2_with fail
        go_meet
        case rel => exact ⟨_, _, _, ss.set k s, i4, HS4.out.other (by omega) hne _, mild_set HMI.out k s hs, by rw [List.length_set]; exact HNL.out, HST4.out, (fun e => by cases e), fun a ha _ => by cases ha; show w.heap.size < g; omega, by omega⟩
    · have hcc := own_caps HOW3.out
      have hn1 : n ≤ cp := hcc.1
      have hk0 : (0 : Int) ≤ (k : Int) := by omega
      have hk1 : (k : Int) < (n : Int) := by omega
      have hb20 : ((2 : Int) == 0) = false := by decide
      have hb21 : ((2 : Int) == 1) = false := by decide
      have hkl : k < ss.length := by rw [← HNL.out]; exact hkn
      have HMM : Hid (Mild (ss ++ [ss[k]'hkl])) := Lib.hid (mild_more HMI.out (by rw [← HNL.out]; exact hP10) k hkl)
      have cg3 : w3.cell? ⟨g, k, none⟩ = some (.string (ss[k]'hkl)) := by rw [HOW3.out.cellAt k (by omega)]; simp [hkl]
      obtain ⟨s, hs⟩ : ∃ s, s = ss[k]'hkl := ⟨_, rfl⟩
      rw [← hs] at cg3 HMM
      have hbA : Below w3.heap.size w3 (w3.drew.alloc (.cells #[.string s] 9)) := ((Below.refl _ w3).drew).alloc (by simp) _
      have HOA := Lib.hid (ownsRow_below HOW3.out hbA)
      have HSA := Lib.hid (HSB3.out.below hbA)
      have M1 : Hid (n + 1 ≤ maxLen ∧ (n + 1) * 16 ≤ 140737488355328 ∧ w.heap.size + 3 ≤ (w3.drew.alloc (.cells #[.string s] 9)).heap.size) := Lib.hid ⟨by unfold maxLen; omega, by omega, by simp; omega⟩
      have R1 : Hid (∀ j, (some g : Option Nat) = some j → w.heap.size < j ∧ j ≠ w1.heap.size) := Lib.hid (fun j e => by have e2 := Option.some.inj e; exact ⟨by omega, by omega⟩)
      clear hcc hbA hs
      go_wp2_with fail
      go_region_law ((refine step_append_at (by rfl) _ _ 22 (by rfl) (w.heap.size + 3) 9 i0 (.string ⟨#[]⟩) 1 16 Tryz.underlying22 hi0 hz0 hz1 hz2 (by rfl) (by decide) (.slice (some ⟨g, 0, none⟩) n cp) n _ (by rfl) HOA.out ⟨w3.heap.size, 0, none⟩ 1 1 [.string s] (by rfl) (by rfl) (cell_one_new _ _ _) (by simp [Value.oneCell']) M1.out.1 M1.out.2.1 M1.out.2.2 ?_; intro v2 w5 hownR hgrow2; have hownR' : w5.ownsRow (w.heap.size + 3) 9 1 v2 (n + 1) ((ss ++ [s]).map Value.string) := (by rw [List.map_append]; exact hownR); clear hownR; have HS5 := Lib.hid (HSA.out.grown hgrow2 R1.out); have HRR : Hid (∀ j, v2.ownBlock = some j → j ≠ w1.heap.size) := Lib.hid (own_far hownR' HS5.out.blk); obtain ⟨q2, c2, rfl, -, -, hq2⟩ := own_strs hownR'; have cf5 := cell_blk HS5.out.blk 1 _ rfl; have ff5 := free_blk HS5.out.blk 1; clear hgrow2))
      all_goals
        have HST5 := Lib.hid (strs_far hownR' (N := w1.heap.size) (u := .slice q2 (n + 1) c2) HRR.out)
        have HQ5 : Hid (q2 = none → c2 = 0) := Lib.hid (fun e => by subst e; exact own_none hownR')
        clear hownR' cf5 ff5
        go_wp2_with fail
        go_meet
        case rel => exact ⟨q2, _, c2, _, _, HS5.out.store, HMM.out, strs_len HST5.out, HST5.out, HQ5.out, fun a ha _ => by have := hq2 a ha; omega, by omega⟩
    · have hb0 : (y == 0) = false := by rw [beq_eq_false_iff_ne]; omega
      have hb1 : (y == 1) = false := by rw [beq_eq_false_iff_ne]; omega
      have hb2 : (y == 2) = false := by rw [beq_eq_false_iff_ne]; omega
      go_wp2_with fail
      go_meet
      case rel =>
        exact ⟨_, _, _, ss, _, HSB3.out, HMI.out, HNL.out, strs_of_own HOW3.out HNL.out, (fun e => by cases e), fun a ha _ => by cases ha; show w.heap.size < g; omega, by omega⟩
  case rest =>
    obtain ⟨q, m, c, ts, i4, hSB4, hmi, hml, hst, hqn, hqb, hi4⟩ := hcut
    have c0 := cell_blk hSB4.blk 0 _ rfl
    have c1 := cell_blk hSB4.blk 1 _ rfl
    have r0 := cell_blk hSB4.res 0 _ rfl
    have r1 := cell_blk hSB4.res 1 _ rfl
    have f0 := free_blk hSB4.res 0
    have f1 := free_blk hSB4.res 1
    have hsl := hSB4.lt
    have hsh := hSB4.hi
    have HFIN := Lib.hid (hSB4.fin (.string ⟨#[99]⟩) (.slice q m c))
    have HST := Lib.hid (strs_store (N := w.heap.size) (x := .string ⟨#[99]⟩) (u := .slice q m c) hst (fun q' n' c' e h => by cases e; have := hqb _ rfl h; omega))
    have HMI4 := Lib.hid hmi
    have HML := Lib.hid hml
    have HQB := Lib.hid hqb
    have HQN := Lib.hid hqn
    clear hSB4 hmi hml hst hqb hqn
    go_wp2
    have a0 := HFIN.out.1.1
    have a1 := HFIN.out.1.2
    exact bodyPost_ret (v := .agg #[.string ⟨#[99]⟩, .slice q m c]) (by simp [results, Tryz.results5, go_sem, a0, a1]) rfl ⟨q, m, c, ts, i4, rfl, HMI4.out, HML.out, HST.out, hi4, HFIN.out.2.1, HFIN.out.2.2, HQN.out, HQB.out⟩
end Go.Proofs.YtnmcmnllmnpjkaaGreatDoor
