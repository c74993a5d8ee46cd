/- Regions that draw their order, by an invariant over the operations done; what the drawn statements of the generator of plans keep. -/
import Derived.Test.YtkgkjoologjehaaGreatDoorU8
import Derived.StillTail
namespace Go.Proofs.YtkgkjoologjehaaGreatDoor
section
open Go.RowKit Go.Sort Cal Go.Maps
section
variable {P : Program} {Q : Exit → Act → World → Prop}
def rem (listed : Array Bool) : Nat → Nat
  | 0 => 0
  | n + 1 => rem listed n + (if listed.getD n true = true then 0 else 1)
theorem rem_other (listed : Array Bool) (i : Nat) : ∀ n, n ≤ i → rem (listed.setIfInBounds i true) n = rem listed n
  | 0, _ => rfl
  | n + 1, h => by
    unfold rem
    rw [rem_other listed i n (by omega), getD_set_ne true (by omega)]
theorem rem_set (listed : Array Bool) (i : Nat) (hi : i < listed.size) (hu : listed.getD i true = false) : ∀ n, i < n → rem (listed.setIfInBounds i true) n + 1 = rem listed n
  | 0, h => by omega
  | n + 1, h => by
    unfold rem
    by_cases e : i = n
    · subst e
      have h1 : (listed.setIfInBounds i true).getD i true = true := by simp [hi]
      rw [rem_other listed i i (Nat.le_refl _), h1, hu]
      simp
    · have ih := rem_set listed i hi hu n (by omega)
      rw [getD_set_ne true e]
      omega
theorem rem_zero (listed : Array Bool) : ∀ n, rem listed n = 0 → ∀ j, j < n → listed.getD j true = true
  | 0, _, j, h => by omega
  | n + 1, h, j, hj => by
    unfold rem at h
    by_cases e : j = n
    · subst e
      by_cases hb : listed.getD j true = true
      · exact hb
      · rw [if_neg hb] at h; omega
    · exact rem_zero listed n (by omega) j (by omega)
theorem rem_pos (listed : Array Bool) : ∀ n, rem listed n ≠ 0 → ∃ j, j < n ∧ listed.getD j true = false ∧ ∀ k, k < j → listed.getD k true = true
  | 0, h => absurd rfl h
  | n + 1, h => by
    by_cases h0 : rem listed n = 0
    · refine ⟨n, by omega, ?_, fun k hk => rem_zero listed n h0 k hk⟩
      unfold rem at h
      by_cases hb : listed.getD n true = true
      · rw [if_pos hb, h0] at h; exact absurd rfl h
      · simpa using hb
    · obtain ⟨j, hj, h1, h2⟩ := rem_pos listed n h0
      exact ⟨j, by omega, h1, h2⟩
/-- Each operation waits for earlier ones alone. -/
def backB (ops : Array Oper) : Bool := (List.range ops.size).all fun i => match ops[i]? with | some o => o.after.all fun e => decide (e.on < i) | none => true
def Keeps (P : Program) (Q : Exit → Act → World → Prop) (I : Array Bool → Act → World → Prop) : List Oper → Nat → Prop
  | [], _ => True
  | o :: l, i => (∀ listed a w, I listed a w → listed.getD i true = false → (∀ e ∈ o.after, Region.binds .any e = true → listed.getD e.on false = true) → o.wp P a w (fun a' w' => I (listed.setIfInBounds i true) a' w') Q) ∧ Keeps P Q I l (i + 1)
theorem Keeps.at {I : Array Bool → Act → World → Prop} : ∀ (l : List Oper) (i : Nat), Keeps P Q I l i → ∀ (j : Nat) (o : Oper), l[j]? = some o → ∀ (listed : Array Bool) (a : Act) (w : World), I listed a w → listed.getD (i + j) true = false → (∀ e ∈ o.after, Region.binds .any e = true → listed.getD e.on false = true) → o.wp P a w (fun a' w' => I (listed.setIfInBounds (i + j) true) a' w') Q := by
  intro l
  induction l with
  | nil => intro i _ j o h; simp at h
  | cons x l ih =>
    intro i h j o ho
    cases j with
    | zero => simp at ho; subst ho; exact h.1
    | succ j =>
      have := ih (i + 1) h.2 j o (by simpa using ho)
      rw [show i + 1 + j = i + (j + 1) by omega] at this
      exact this
def plainB (ops : Array Oper) (n : Nat) : Bool := (List.range n).all fun i => match ops[i]? with | some o => o.guard.isNone | none => true
theorem wpAny_inv {ops : Array Oper} {n : Nat} {l : List Oper} (hl : l = ops.toList) (I : Array Bool → Act → World → Prop) (hn : n < ops.size) (hs : Region.sinkB .any ops n = true) (hc : Region.chainB .any ops n = true) (hb : backB ops = true) (hg : plainB ops n = true)
    (hseq : Region.seqB .any ops (ops.size - n) n (Array.ofFn (n := ops.size) fun i => decide (i.val < n)) = true)
    (hk : Keeps P Q I (l.take n) 0) (hfin : ∀ listed a w, I listed a w → (∀ j, j < n → listed.getD j false = true) → wpList P ops Q (l.drop n) a w) :
    ∀ (f : Nat) (listed : Array Bool) (a : Act) (w : World), HeadInv .any ops n listed → I listed a w → rem listed n = f → wpAny P .any ops Q (f + (ops.size - n)) listed a w := by
  have back : ∀ (i : Nat) (o : Oper), ops[i]? = some o → ∀ e ∈ o.after, e.on < i := by
    intro i o ho e he
    have hi := (Array.getElem?_eq_some_iff.1 ho).1
    have := List.all_eq_true.1 hb i (List.mem_range.2 hi)
    rw [ho] at this
    simpa using Array.all_eq_true'.1 this e he
  intro f
  induction f with
  | zero =>
    intro listed a w inv hI hr
    have hall := rem_zero listed n hr
    have hall' : ∀ j, j < n → listed.getD j false = true := fun j hj => by
      have := hall j hj
      have hjs : j < listed.size := by rw [inv.size]; omega
      simpa [hjs] using this
    have e : listed = Array.ofFn (n := ops.size) fun i => decide (i.val < n) := by
      apply Array.ext
      · simp [inv.size]
      · intro j h1 h2
        simp
        by_cases hj : j < n
        · have := hall' j hj
          simp [h1] at this
          simp [this, hj]
        · have := inv.tail j (by omega) (by rw [← inv.size]; exact h1)
          simp [h1] at this
          simp [this, hj]
    have hlen : (l.drop n).length = ops.size - n := by rw [hl]; simp
    have h := wpAny_of_seq (md := .any) (Q' := Q) (l.drop n) n listed a w (fun j => by rw [hl]; simp [List.getElem?_drop]) (by rw [hlen, e]; exact hseq) (hfin listed a w hI hall')
    rw [hlen] at h
    rw [Nat.zero_add]
    exact h
  | succ f ih =>
    intro listed a w inv hI hr
    obtain ⟨j, hj, hju, hjb⟩ := rem_pos listed n (by omega)
    have hjs : j < listed.size := by rw [inv.size]; omega
    have hjr : j ∈ Region.ready .any ops listed := by
      refine mem_ready.2 ⟨hju, ops[j]'(by omega), by simp [show j < ops.size by omega], fun e he _ => ?_⟩
      have hlt := back j _ (by simp [show j < ops.size by omega]) e he
      have := hjb e.on hlt
      have hes : e.on < listed.size := by omega
      simpa [hes] using this
    rw [show f + 1 + (ops.size - n) = (f + (ops.size - n)) + 1 by omega]
    refine ⟨fun h0 => (by rw [h0] at hjr; cases hjr), fun i hi => ?_⟩
    have hin : i < n := by
      rcases Nat.lt_or_ge i n with h | h
      · exact h
      · exact absurd hi (tail_waits hs hc hn inv _ j rfl hj hju i h)
    obtain ⟨hiu, oi, hoi, hdeps⟩ := mem_ready.1 hi
    have hgi : oi.guard = none := by
      have := List.all_eq_true.1 hg i (List.mem_range.2 hin)
      rw [hoi] at this
      simpa using this
    have hli : (l.take n)[i]? = some oi := by rw [hl, List.getElem?_take, if_pos hin]; simpa using hoi
    have hw := hk.at _ _ i oi hli listed a w hI (by rw [Nat.zero_add]; exact hiu) hdeps
    rw [Nat.zero_add] at hw
    have his : i < listed.size := by rw [inv.size]; omega
    have hrem := rem_set listed i his hiu n hin
    unfold wpOp
    simp only [hoi]
    have hwant : Region.wanted oi (yielded ops a.tmps) = true := by simp [Region.wanted, hgi]
    rw [if_pos hwant]
    exact Or.inl (Oper.wp_mono (fun a' w' h' => ih _ a' w' (inv.set hi hin) h' (by omega)) hw)
theorem wp_region_inv {id : Nat} {l : List Oper} {a : Act} {w : World} (n : Nat) (I : Act → World → Array Bool → Act → World → Prop) (hm : P.follows .mixedOrders = true) (hn : n < l.toArray.size) (hs : Region.sinkB .any l.toArray n = true) (hc : Region.chainB .any l.toArray n = true) (hb : backB l.toArray = true) (hg : plainB l.toArray n = true)
    (hseq : Region.seqB .any l.toArray (l.toArray.size - n) n (Array.ofFn (n := l.toArray.size) fun i => decide (i.val < n)) = true)
    (h0 : I a w (Array.replicate l.toArray.size false) a w.drew)
    (hk : Keeps P Q (I a w) (l.take n) 0) (hfin : ∀ listed a' w', I a w listed a' w' → (∀ j, j < n → listed.getD j false = true) → wpList P l.toArray Q (l.drop n) a' w') :
    (Code.region id l.toArray true).wp P Q a w := by
  refine wp_region_any hm ?_
  have inv0 : HeadInv .any l.toArray n (Array.replicate l.toArray.size false) :=
    ⟨by simp, fun j oj _ hl => (by rw [getD_replicate_false] at hl; cases hl), fun t _ ht => getD_in (by simpa using ht) (getD_replicate_false _ _)⟩
  have hr : ∀ m, m ≤ l.toArray.size → rem (Array.replicate l.toArray.size false) m = m := by
    intro m
    induction m with
    | zero => intro _; rfl
    | succ m ih =>
      intro hm'
      unfold rem
      rw [ih (by omega), getD_in (by simp at hm' ⊢; omega) (getD_replicate_false _ _)]
      rfl
  have h := wpAny_inv (P := P) (Q := Q) rfl (I a w) hn hs hc hb hg hseq hk hfin n _ a w.drew inv0 h0 (hr n (Nat.le_of_lt hn))
  rw [show n + (l.toArray.size - n) = l.toArray.size by omega] at h
  exact h
end
end
section
open Go.RowKit Go.Sort Cal Go.Maps
/-- Slots s0 .. s0 + n - 1 are the region's, in the text's order; R: what each holds once it has come up; K: what the world keeps. -/
structure IV (s0 n : Nat) (R : Nat → Value → World → Prop) (K : Array Bool → World → Prop) (a0 : Act) (listed : Array Bool) (a : Act) (w : World) : Prop where
  defers : a.defers = a0.defers
  size : a.tmps.size = a0.tmps.size
  frame : ∀ t, t < s0 ∨ s0 + n ≤ t → a.tmps.getD t undef = a0.tmps.getD t undef
  world : K listed w
  vals : ∀ k, k < n → listed.getD k false = true → R k (a.tmps.getD (s0 + k) undef) w
theorem IV.start {s0 n m : Nat} {R : Nat → Value → World → Prop} {K : Array Bool → World → Prop} {a0 : Act} {w : World} (h : K (Array.replicate m false) w) : IV s0 n R K a0 (Array.replicate m false) a0 w :=
  ⟨rfl, rfl, fun _ _ => rfl, h, fun k _ hk => by rw [getD_replicate_false] at hk; cases hk⟩
theorem IV.put {s0 n : Nat} {R : Nat → Value → World → Prop} {K : Array Bool → World → Prop} {a0 a : Act} {listed : Array Bool} {w w' : World} (h : IV s0 n R K a0 listed a w) (k : Nat) (hk : k < n) (hs : s0 + n ≤ a0.tmps.size) (v : Value) (hK : K (listed.setIfInBounds k true) w') (hst : ∀ j u, R j u w → R j u w') (hv : R k v w') :
    IV s0 n R K a0 (listed.setIfInBounds k true) (a.put (some (s0 + k)) v) w' := by
  refine ⟨h.defers, by simp [Act.put, h.size], fun t ht => ?_, hK, fun j hj hl => ?_⟩
  · have : s0 + k ≠ t := by omega
    simp only [Act.put]
    rw [Array.getD_eq_getD_getElem?, Array.getElem?_setIfInBounds_ne this, ← Array.getD_eq_getD_getElem?]
    exact h.frame t ht
  · simp only [Act.put]
    by_cases e : k = j
    · subst e
      have hlt : s0 + k < a.tmps.size := by rw [h.size]; omega
      rw [Array.getD_eq_getD_getElem?, Array.getElem?_setIfInBounds_self_of_lt hlt]
      exact hv
    · have : s0 + k ≠ s0 + j := by omega
      rw [Array.getD_eq_getD_getElem?, Array.getElem?_setIfInBounds_ne this, ← Array.getD_eq_getD_getElem?]
      rw [getD_set_ne false e] at hl
      exact hst j _ (h.vals j hj hl)
def putN (a0 : Act) (s0 : Nat) (u : Nat → Value) : Nat → Act
  | 0 => a0
  | n + 1 => (putN a0 s0 u n).put (some (s0 + n)) (u n)
theorem putN_get (a0 : Act) (s0 : Nat) (u : Nat → Value) : ∀ n, s0 + n ≤ a0.tmps.size → (putN a0 s0 u n).defers = a0.defers ∧ (putN a0 s0 u n).tmps.size = a0.tmps.size ∧ ∀ t, (putN a0 s0 u n).tmps.getD t undef = if s0 ≤ t ∧ t < s0 + n then u (t - s0) else a0.tmps.getD t undef
  | 0, _ => ⟨rfl, rfl, fun t => by rw [if_neg (by omega)]; rfl⟩
  | n + 1, h => by
    obtain ⟨h1, h2, h3⟩ := putN_get a0 s0 u n (by omega)
    refine ⟨h1, by simp [putN, Act.put, h2], fun t => ?_⟩
    simp only [putN, Act.put]
    by_cases e : s0 + n = t
    · subst e
      rw [Array.getD_eq_getD_getElem?, Array.getElem?_setIfInBounds_self_of_lt (by rw [h2]; omega), if_pos (by omega), show s0 + n - s0 = n by omega]
      rfl
    · rw [Array.getD_eq_getD_getElem?, Array.getElem?_setIfInBounds_ne e, ← Array.getD_eq_getD_getElem?, h3 t]
      by_cases h4 : s0 ≤ t ∧ t < s0 + n
      · rw [if_pos h4, if_pos (by omega)]
      · rw [if_neg h4, if_neg (by omega)]
theorem act_eq {a a' : Act} (h1 : a.defers = a'.defers) (h2 : a.tmps.size = a'.tmps.size) (h3 : ∀ t, a.tmps.getD t undef = a'.tmps.getD t undef) : a = a' := by
  obtain ⟨t, d⟩ := a
  obtain ⟨t', d'⟩ := a'
  have e : t = t' := by
    apply Array.ext h2
    intro i hi hi'
    have := h3 i
    simpa [hi, hi'] using this
  simp at h1
  rw [e, h1]
theorem IV.fin {s0 n : Nat} {R : Nat → Value → World → Prop} {K : Array Bool → World → Prop} {a0 a : Act} {listed : Array Bool} {w : World} (h : IV s0 n R K a0 listed a w) (hs : s0 + n ≤ a0.tmps.size) (hl : ∀ j, j < n → listed.getD j false = true) :
    ∃ u : Nat → Value, a = putN a0 s0 u n ∧ ∀ k, k < n → R k (u k) w := by
  refine ⟨fun k => a.tmps.getD (s0 + k) undef, ?_, fun k hk => h.vals k hk (hl k hk)⟩
  obtain ⟨h1, h2, h3⟩ := putN_get a0 s0 (fun k => a.tmps.getD (s0 + k) undef) n hs
  refine act_eq (h.defers.trans h1.symm) (h.size.trans h2.symm) (fun t => ?_)
  rw [h3 t]
  by_cases e : s0 ≤ t ∧ t < s0 + n
  · rw [if_pos e, show s0 + (t - s0) = t by omega]
  · rw [if_neg e]
    exact h.frame t (by omega)
/-- Has it come up? -/
def tick (listed : Array Bool) (k : Nat) : Nat := if listed.getD k false = true then 1 else 0
theorem tick_other (listed : Array Bool) (k j : Nat) (h : k ≠ j) : tick (listed.setIfInBounds k true) j = tick listed j := by
  unfold tick; rw [getD_set_ne false h]
theorem tick_self (listed : Array Bool) (k : Nat) (h : listed.getD k true = false) : tick (listed.setIfInBounds k true) k = tick listed k + 1 := by
  have hk : k < listed.size := by
    rcases Nat.lt_or_ge k listed.size with h' | h'
    · exact h'
    · simp [Array.getElem?_eq_none h'] at h
  have h1 : listed.getD k false = false := getD_both h
  unfold tick
  rw [h1, Array.getD_eq_getD_getElem?, Array.getElem?_setIfInBounds_self_of_lt hk]
  rfl
theorem tick_le (listed : Array Bool) (k : Nat) : tick listed k ≤ 1 := by unfold tick; split <;> omega
theorem tick_new (m k : Nat) : tick (Array.replicate m false) k = 0 := by unfold tick; rw [getD_replicate_false]; rfl
end
section
open Go.RowKit Go.Sort Cal Go.Maps
variable {b : Nat} {sv : Value} {zs : List Int} {w0 : World} {B4 B5 G N N1 : Nat} {L : List Value} {t : TypeId} {sz : Nat} {v1 : Value} {RS : List RuleR} {i : Nat} {cs : List Value} {v : Value} {n : Nat} {xs : List Value} {w : World}
theorem St.first {RS0 : List RuleR} (h : St b sv zs w0 B4 B5 G N N1 L 43 4 v1 RS0 i cs v n (flatR RS) w) (hn : RS.length = n) {G' : Nat} {L' : List Value} (t' : TypeId) (sz' : Nat) (hstr : ∀ j u, L'[j]? = some u → w.cell? ⟨G', j, none⟩ = some u) (hg : B5 < G') (hgl : G' < w.heap.size) :
    St b sv zs w0 B4 B5 G' w.heap.size w.heap.size L' t' sz' v RS i cs (.slice none 0 0) 0 [] w :=
  ⟨h.tape, h.touch, h.z, h.k, hstr, World.ownsRow_nil _ _ _ _, by rw [hn]; exact own_base' h.own (by have := h.lg; have := h.ln; omega), fun g hg => (h.own.lt g hg).2, h.lb, h.l4, h.l5, hg, hgl, Nat.le_refl _, Nat.le_refl _⟩
theorem St.again (h : St b sv zs w0 B4 B5 G N N1 L t sz v1 RS i cs v n xs w) {G' : Nat} {L' : List Value} (t' : TypeId) (sz' : Nat) (hstr : ∀ j u, L'[j]? = some u → w.cell? ⟨G', j, none⟩ = some u) (hg : B5 < G') (hgl : G' < w.heap.size) :
    St b sv zs w0 B4 B5 G' w.heap.size N1 L' t' sz' v1 RS i cs (.slice none 0 0) 0 [] w :=
  ⟨h.tape, h.touch, h.z, h.k, hstr, World.ownsRow_nil _ _ _ _, h.rl, h.r1, h.lb, h.l4, h.l5, hg, hgl, by have := h.l1; have := h.lw; omega, Nat.le_refl _⟩
/-- Another list of the call's own has grown. -/
theorem St.apart (h : St b sv zs w0 B4 B5 G N N1 L t sz v1 RS i cs v n xs w) {w' : World} {row : Option Nat} (hg : w.grownBy w' row) (hr : ∀ k, row = some k → N ≤ k ∧ v.ownBlock ≠ some k) : St b sv zs w0 B4 B5 G N N1 L t sz v1 RS i cs v n xs w' := by
  have h1 := h.lb; have h2 := h.l4; have h3 := h.l5; have h4 := h.lg; have h5 := h.ln; have h6 := h.lw; have h7 := h.l1
  have hk : ∀ k, k < w.heap.size → (∀ r, row = some r → k ≠ r) → w'.heap[k]? = w.heap[k]? := fun k hkl hn => hg.block k hkl (fun e => hn k e.symm rfl)
  have hlow : ∀ k, k < N → w'.heap[k]? = w.heap[k]? := fun k hkN => hk k (by omega) (fun r e => by have := (hr r e).1; omega)
  exact ⟨h.tape.keep (fun k hkb => hlow k (by omega)), h.touch.grown hg (fun k e => by have := (hr k e).1; omega), (hlow _ (by omega)).trans h.z, (hlow _ (by omega)).trans h.k, fun j u hj => (World.cell?_of_block (w := w) (w' := w') (a := ⟨G, j, none⟩) (hlow G h5)).trans (h.str j u hj), own_keep h.own (fun g hgv => hk g (h.own.lt g hgv).2 (fun r e => by have := (hr r e).2; rw [hgv] at this; exact fun e2 => this (by rw [e2]))), own_keep h.rl (fun g hgv => hlow g (by have := h.r1 g hgv; omega)), h.r1, h1, h2, h3, h4, h5, h7, Nat.le_trans h6 hg.size⟩
/-- It is some slice. -/
def IsSl (v : Value) : Prop := ∃ q m c, v = .slice q m c
/-- In block B lie m slices. -/
def SlAt (b B m : Nat) (w : World) : Prop := B ≠ b ∧ B < w.heap.size ∧ ∀ j, j < m → ∃ u, w.cell? ⟨B, j, none⟩ = some u ∧ IsSl u
theorem SlAt.touch {B m : Nat} {w' : World} (h : SlAt b B m w) (ht : Touch b w w') : SlAt b B m w' :=
  ⟨h.1, Nat.lt_of_lt_of_le h.2.1 ht.size, fun j hj => by
    obtain ⟨u, hu, hs⟩ := h.2.2 j hj
    exact ⟨u, (ht.cell h.2.1 h.1).trans hu, hs⟩⟩
/-- A cell that stays. -/
def CellAt (b B j : Nat) (P : Value → Prop) (w : World) : Prop := B ≠ b ∧ B < w.heap.size ∧ ∃ u, w.cell? ⟨B, j, none⟩ = some u ∧ P u
theorem CellAt.touch {B j : Nat} {P : Value → Prop} {w' : World} (h : CellAt b B j P w) (ht : Touch b w w') : CellAt b B j P w' := by
  obtain ⟨h1, h2, u, hu, hp⟩ := h
  exact ⟨h1, Nat.lt_of_lt_of_le h2 ht.size, u, (ht.cell h2 h1).trans hu, hp⟩
/-- The definitions' statement: what its slots hold. -/
def R28 (b B5 : Nat) (v : Value) (s : ByteArray) (k : Nat) (u : Value) (w : World) : Prop :=
  match k with
  | 0 => u = .pointer (some ⟨B5, 4, none⟩)
  | 1 => u = v
  | 2 => u = .string s
  | 3 => u = .pointer (some ⟨b, 0, none⟩)
  | 4 => IsSl u
  | 5 => ∃ q m c, u = .agg #[.string s, .slice q m c]
  | 6 => ∃ B q m c, u = .slice (some ⟨B, 0, none⟩) 1 1 ∧ B ≠ b ∧ B < w.heap.size ∧ w.cell? ⟨B, 0, none⟩ = some (.string s) ∧ w.cell? ⟨B, 1, none⟩ = some (.slice q m c)
  | _ => True
theorem R28.touch {B5 : Nat} {s : ByteArray} {w' : World} (ht : Touch b w w') : ∀ k u, R28 b B5 v s k u w → R28 b B5 v s k u w' := by
  intro k u h
  match k, h with
  | 0, h => exact h
  | 1, h => exact h
  | 2, h => exact h
  | 3, h => exact h
  | 4, h => exact h
  | 5, h => exact h
  | 6, ⟨B, q, m, c, e, h1, h2, h3, h4⟩ => exact ⟨B, q, m, c, e, h1, Nat.lt_of_lt_of_le h2 ht.size, (ht.cell h2 h1).trans h3, (ht.cell h2 h1).trans h4⟩
  | k + 7, h => exact h
end
section
open Go.RowKit Go.Sort Cal Go.Maps
theorem keep_op {P : Program} {Q : Exit → Act → World → Prop} {o : Oper} {a : Act} {w : World} {J : Act → World → Prop} (h : ∀ K : Act → World → Prop, (∀ a' w', J a' w' → K a' w') → o.wp P a w K Q) : o.wp P a w J Q := h _ fun _ _ h => h
/-- The tape has gone on by the calls that have come up. -/
def Kt (I j1 d1 j2 d2 : Nat) (ST : Nat → World → Prop) (listed : Array Bool) (w : World) : Prop := ∃ i', i' ≤ I + d1 * tick listed j1 + d2 * tick listed j2 ∧ ST i' w
variable {I j1 d1 j2 d2 : Nat} {ST : Nat → World → Prop} {listed : Array Bool} {w w' : World}
theorem Kt.start {m : Nat} (h : ST I w) : Kt I j1 d1 j2 d2 ST (Array.replicate m false) w := ⟨I, by omega, h⟩
theorem Kt.other (h : Kt I j1 d1 j2 d2 ST listed w) (k : Nat) (h1 : k ≠ j1) (h2 : k ≠ j2) (hs : ∀ i', ST i' w → ST i' w') : Kt I j1 d1 j2 d2 ST (listed.setIfInBounds k true) w' := by
  obtain ⟨i', hi, hst⟩ := h
  exact ⟨i', by rw [tick_other _ _ _ h1, tick_other _ _ _ h2]; exact hi, hs _ hst⟩
theorem Kt.fst (hu : listed.getD j1 true = false) (h12 : j1 ≠ j2) {i' e : Nat} (hi : i' ≤ I + d1 * tick listed j1 + d2 * tick listed j2) (he : e ≤ i' + d1) (hs : ST e w') : Kt I j1 d1 j2 d2 ST (listed.setIfInBounds j1 true) w' :=
  ⟨e, by rw [tick_self _ _ hu, tick_other _ _ _ h12, Nat.mul_succ]; omega, hs⟩
theorem Kt.snd (hu : listed.getD j2 true = false) (h12 : j1 ≠ j2) {i' e : Nat} (hi : i' ≤ I + d1 * tick listed j1 + d2 * tick listed j2) (he : e ≤ i' + d2) (hs : ST e w') : Kt I j1 d1 j2 d2 ST (listed.setIfInBounds j2 true) w' :=
  ⟨e, by rw [tick_self _ _ hu, tick_other _ _ _ (Ne.symm h12), Nat.mul_succ]; omega, hs⟩
theorem Kt.fin (h : Kt I j1 d1 j2 d2 ST listed w) : ∃ i', i' ≤ I + d1 + d2 ∧ ST i' w := by
  obtain ⟨i', hi, hst⟩ := h
  have h1 := Nat.mul_le_mul_left d1 (tick_le listed j1)
  have h2 := Nat.mul_le_mul_left d2 (tick_le listed j2)
  exact ⟨i', by omega, hst⟩
theorem Kt.open (h : Kt I j1 d1 j2 d2 ST listed w) : ∃ i', i' ≤ I + d1 + d2 ∧ i' ≤ I + d1 * tick listed j1 + d2 * tick listed j2 ∧ ST i' w := by
  obtain ⟨i', hi, hst⟩ := h
  have h1 := Nat.mul_le_mul_left d1 (tick_le listed j1)
  have h2 := Nat.mul_le_mul_left d2 (tick_le listed j2)
  exact ⟨i', by omega, hi, hst⟩
variable {b : Nat}
theorem IV.slot {s0 n : Nat} {R : Nat → Value → World → Prop} {K : Array Bool → World → Prop} {a0 a : Act} (h : IV s0 n R K a0 listed a w) (t : Nat) (ht : t < s0) : (a.tmps[t]?).getD undef = a0.tmps.getD t undef := by
  rw [← h.frame t (Or.inl ht), Array.getD_eq_getD_getElem?]
theorem IV.val {s0 n : Nat} {R : Nat → Value → World → Prop} {K : Array Bool → World → Prop} {a0 a : Act} (h : IV s0 n R K a0 listed a w) (k : Nat) (hk : k < n) (hl : listed.getD k false = true) (t : Nat) (e : t = s0 + k) : R k ((a.tmps[t]?).getD undef) w := by
  have := h.vals k hk hl
  rw [← e, Array.getD_eq_getD_getElem?] at this
  exact this
theorem Touch.new (b : Nat) (w : World) (o : Obj) : Touch b w (w.alloc o) := Touch.of_below ((Below.refl _ _).alloc (Nat.le_refl _) o)
theorem SlAt.new {w : World} {b : Nat} (hb : b < w.heap.size) (xs : List Value) (t : TypeId) (m : Nat) (hm : m ≤ xs.length) (hx : ∀ x ∈ xs, IsSl x) : SlAt b w.heap.size m (w.alloc (.cells xs.toArray t)) :=
  ⟨by omega, by simp, fun j hj => ⟨xs[j]'(by omega), (Box.new w xs t).c j _ (List.getElem?_eq_getElem (by omega)), hx _ (List.getElem_mem _)⟩⟩
/-- The specials' statement. -/
def R16 (b B5 : Nat) (v : Value) (s : ByteArray) (k : Nat) (u : Value) (w : World) : Prop :=
  match k with
  | 0 => u = .pointer (some ⟨B5, 3, none⟩)
  | 1 => u = v
  | 2 => u = .string s
  | 3 => IsSl u
  | 4 => IsSl u
  | 5 => IsSl u
  | 6 => ∃ B, u = .slice (some ⟨B, 0, none⟩) 3 3 ∧ SlAt b B 3 w
  | 7 => u = .pointer (some ⟨b, 0, none⟩)
  | 8 => ∃ j : Nat, j < 3 ∧ u = .int .i64 (j : Int)
  | 9 => ∃ B j, u = .pointer (some ⟨B, j, none⟩) ∧ CellAt b B j IsSl w
  | 10 => IsSl u
  | 11 => IsSl u
  | 12 => ∃ B, u = .slice (some ⟨B, 0, none⟩) 2 2 ∧ SlAt b B 2 w
  | 13 => u = .pointer (some ⟨b, 0, none⟩)
  | 14 => ∃ j : Nat, j < 2 ∧ u = .int .i64 (j : Int)
  | 15 => ∃ B j, u = .pointer (some ⟨B, j, none⟩) ∧ CellAt b B j IsSl w
  | 16 => IsSl u
  | 17 => ∃ q m c q' m' c', u = .agg #[.string s, .slice q m c, .slice q' m' c']
  | 18 => ∃ B q m c q' m' c', u = .slice (some ⟨B, 0, none⟩) 1 1 ∧ B ≠ b ∧ B < w.heap.size ∧ w.cell? ⟨B, 0, none⟩ = some (.string s) ∧ w.cell? ⟨B, 1, none⟩ = some (.slice q m c) ∧ w.cell? ⟨B, 2, none⟩ = some (.slice q' m' c')
  | _ => True
theorem R16.touch {B5 : Nat} {v : Value} {s : ByteArray} (ht : Touch b w w') : ∀ k u, R16 b B5 v s k u w → R16 b B5 v s k u w' := by
  intro k u h
  match k, h with
  | 0, h => exact h
  | 1, h => exact h
  | 2, h => exact h
  | 3, h => exact h
  | 4, h => exact h
  | 5, h => exact h
  | 6, ⟨B, e, h1⟩ => exact ⟨B, e, h1.touch ht⟩
  | 7, h => exact h
  | 8, h => exact h
  | 9, ⟨B, j, e, h1⟩ => exact ⟨B, j, e, h1.touch ht⟩
  | 10, h => exact h
  | 11, h => exact h
  | 12, ⟨B, e, h1⟩ => exact ⟨B, e, h1.touch ht⟩
  | 13, h => exact h
  | 14, h => exact h
  | 15, ⟨B, j, e, h1⟩ => exact ⟨B, j, e, h1.touch ht⟩
  | 16, h => exact h
  | 17, h => exact h
  | 18, ⟨B, q, m, c, q', m', c', e, h1, h2, h3, h4, h5⟩ => exact ⟨B, q, m, c, q', m', c', e, h1, Nat.lt_of_lt_of_le h2 ht.size, (ht.cell h2 h1).trans h3, (ht.cell h2 h1).trans h4, (ht.cell h2 h1).trans h5⟩
  | k + 19, h => exact h
/-- The publications' statement. -/
def R22 (b B5 : Nat) (v : Value) (s : ByteArray) (k : Nat) (u : Value) (w : World) : Prop :=
  match k with
  | 0 => u = .pointer (some ⟨B5, 5, none⟩)
  | 1 => u = v
  | 2 => u = .string s
  | 3 => u = .pointer (some ⟨b, 0, none⟩)
  | 4 => ∃ j : Nat, j < 4 ∧ u = .int .i64 (j : Int)
  | 5 => u = .pointer (some ⟨b, 0, none⟩)
  | 6 => ∃ j : Nat, j < 5 ∧ u = .int .i64 (j : Int)
  | 7 => ∃ q m c q' m' c', u = .agg #[.bool false, .slice q m c, .slice q' m' c']
  | 8 => ∃ j : Nat, ∃ q m c q' m' c', u = .agg #[.string s, .int .i64 (j : Int), .bool false, .slice q m c, .slice q' m' c']
  | 9 => ∃ B, ∃ j : Nat, ∃ q m c q' m' c', u = .slice (some ⟨B, 0, none⟩) 1 1 ∧ B ≠ b ∧ B < w.heap.size ∧ w.cell? ⟨B, 0, none⟩ = some (.string s) ∧ w.cell? ⟨B, 1, none⟩ = some (.int .i64 (j : Int)) ∧ w.cell? ⟨B, 2, none⟩ = some (.bool false) ∧ w.cell? ⟨B, 3, none⟩ = some (.slice q m c) ∧ w.cell? ⟨B, 4, none⟩ = some (.slice q' m' c')
  | _ => True
theorem R22.touch {B5 : Nat} {v : Value} {s : ByteArray} (ht : Touch b w w') : ∀ k u, R22 b B5 v s k u w → R22 b B5 v s k u w' := by
  intro k u h
  match k, h with
  | 0, h => exact h
  | 1, h => exact h
  | 2, h => exact h
  | 3, h => exact h
  | 4, h => exact h
  | 5, h => exact h
  | 6, h => exact h
  | 7, h => exact h
  | 8, h => exact h
  | 9, ⟨B, j, q, m, c, q', m', c', e, h1, h2, h3, h4, h5, h6, h7⟩ => exact ⟨B, j, q, m, c, q', m', c', e, h1, Nat.lt_of_lt_of_le h2 ht.size, (ht.cell h2 h1).trans h3, (ht.cell h2 h1).trans h4, (ht.cell h2 h1).trans h5, (ht.cell h2 h1).trans h6, (ht.cell h2 h1).trans h7⟩
  | k + 10, h => exact h
end
end Go.Proofs.YtkgkjoologjehaaGreatDoor
