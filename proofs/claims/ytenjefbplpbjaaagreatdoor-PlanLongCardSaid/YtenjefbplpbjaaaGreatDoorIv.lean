/- A region that draws its order, by an invariant that every operation keeps in whatever order, up to a tail whose order is forced. -/
import Derived.Test.YtenjefbplpbjaaaGreatDoorBs
import Derived.StillTail
namespace Go.Proofs.YtenjefbplpbjaaaGreatDoor
open Go.RowKit Go.Sort Cal Go.Maps
section
variable {P : Program} {Q : Exit → Act → World → Prop}
def rem (listed : Array Bool) : Nat → Nat
  | 0 => 0
  | n + 1 => rem listed n + (if listed.getD n true = true then 0 else 1)
theorem rem_other (listed : Array Bool) (i : Nat) : ∀ n, n ≤ i → rem (listed.setIfInBounds i true) n = rem listed n
  | 0, _ => rfl
  | n + 1, h => by
    unfold rem
    rw [rem_other listed i n (by omega), getD_set_ne true (by omega)]
theorem rem_set (listed : Array Bool) (i : Nat) (hi : i < listed.size) (hu : listed.getD i true = false) : ∀ n, i < n → rem (listed.setIfInBounds i true) n + 1 = rem listed n
  | 0, h => by omega
  | n + 1, h => by
    unfold rem
    by_cases e : i = n
    · subst e
      have h1 : (listed.setIfInBounds i true).getD i true = true := by simp [hi]
      rw [rem_other listed i i (Nat.le_refl _), h1, hu]
      simp
    · have ih := rem_set listed i hi hu n (by omega)
      rw [getD_set_ne true e]
      omega
theorem rem_zero (listed : Array Bool) : ∀ n, rem listed n = 0 → ∀ j, j < n → listed.getD j true = true
  | 0, _, j, h => by omega
  | n + 1, h, j, hj => by
    unfold rem at h
    by_cases e : j = n
    · subst e
      by_cases hb : listed.getD j true = true
      · exact hb
      · rw [if_neg hb] at h; omega
    · exact rem_zero listed n (by omega) j (by omega)
theorem rem_pos (listed : Array Bool) : ∀ n, rem listed n ≠ 0 → ∃ j, j < n ∧ listed.getD j true = false ∧ ∀ k, k < j → listed.getD k true = true
  | 0, h => absurd rfl h
  | n + 1, h => by
    by_cases h0 : rem listed n = 0
    · refine ⟨n, by omega, ?_, fun k hk => rem_zero listed n h0 k hk⟩
      unfold rem at h
      by_cases hb : listed.getD n true = true
      · rw [if_pos hb, h0] at h; exact absurd rfl h
      · simpa using hb
    · obtain ⟨j, hj, h1, h2⟩ := rem_pos listed n h0
      exact ⟨j, by omega, h1, h2⟩
/-- Each operation waits for earlier ones alone. -/
def backB (ops : Array Oper) : Bool := (List.range ops.size).all fun i => match ops[i]? with | some o => o.after.all fun e => !Region.binds .any e || decide (e.on < i) | none => true
def Keeps (P : Program) (Q : Exit → Act → World → Prop) (I : Array Bool → Act → World → Prop) : List Oper → Nat → Prop
  | [], _ => True
  | o :: l, i => (∀ listed a w, I listed a w → listed.getD i true = false → (∀ e ∈ o.after, Region.binds .any e = true → listed.getD e.on false = true) → o.wp P a w (fun a' w' => I (listed.setIfInBounds i true) a' w') Q) ∧ Keeps P Q I l (i + 1)
theorem Keeps.at {I : Array Bool → Act → World → Prop} : ∀ (l : List Oper) (i : Nat), Keeps P Q I l i → ∀ (j : Nat) (o : Oper), l[j]? = some o → ∀ (listed : Array Bool) (a : Act) (w : World), I listed a w → listed.getD (i + j) true = false → (∀ e ∈ o.after, Region.binds .any e = true → listed.getD e.on false = true) → o.wp P a w (fun a' w' => I (listed.setIfInBounds (i + j) true) a' w') Q := by
  intro l
  induction l with
  | nil => intro i _ j o h; simp at h
  | cons x l ih =>
    intro i h j o ho
    cases j with
    | zero => simp at ho; subst ho; exact h.1
    | succ j =>
      have := ih (i + 1) h.2 j o (by simpa using ho)
      rw [show i + 1 + j = i + (j + 1) by omega] at this
      exact this
def plainB (ops : Array Oper) (n : Nat) : Bool := (List.range n).all fun i => match ops[i]? with | some o => o.guard.isNone | none => true
theorem wpAny_inv {ops : Array Oper} {n : Nat} {l : List Oper} (hl : l = ops.toList) (I : Array Bool → Act → World → Prop) (hn : n < ops.size) (hs : Region.sinkB .any ops n = true) (hc : Region.chainB .any ops n = true) (hb : backB ops = true) (hg : plainB ops n = true)
    (hseq : Region.seqB .any ops (ops.size - n) n (Array.ofFn (n := ops.size) fun i => decide (i.val < n)) = true)
    (hk : Keeps P Q I (l.take n) 0) (hfin : ∀ listed a w, I listed a w → (∀ j, j < n → listed.getD j false = true) → wpList P ops Q (l.drop n) a w) :
    ∀ (f : Nat) (listed : Array Bool) (a : Act) (w : World), HeadInv .any ops n listed → I listed a w → rem listed n = f → wpAny P .any ops Q (f + (ops.size - n)) listed a w := by
  have back : ∀ (i : Nat) (o : Oper), ops[i]? = some o → ∀ e ∈ o.after, Region.binds .any e = true → e.on < i := by
    intro i o ho e he hbe
    have hi := (Array.getElem?_eq_some_iff.1 ho).1
    have := List.all_eq_true.1 hb i (List.mem_range.2 hi)
    rw [ho] at this
    have h2 := Array.all_eq_true'.1 this e he
    rw [hbe] at h2
    simpa using h2
  intro f
  induction f with
  | zero =>
    intro listed a w inv hI hr
    have hall := rem_zero listed n hr
    have hall' : ∀ j, j < n → listed.getD j false = true := fun j hj => by
      have := hall j hj
      have hjs : j < listed.size := by rw [inv.size]; omega
      simpa [hjs] using this
    have e : listed = Array.ofFn (n := ops.size) fun i => decide (i.val < n) := by
      apply Array.ext
      · simp [inv.size]
      · intro j h1 h2
        simp
        by_cases hj : j < n
        · have := hall' j hj
          simp [h1] at this
          simp [this, hj]
        · have := inv.tail j (by omega) (by rw [← inv.size]; exact h1)
          simp [h1] at this
          simp [this, hj]
    have hlen : (l.drop n).length = ops.size - n := by rw [hl]; simp
    have h := wpAny_of_seq (md := .any) (Q' := Q) (l.drop n) n listed a w (fun j => by rw [hl]; simp [List.getElem?_drop]) (by rw [hlen, e]; exact hseq) (hfin listed a w hI hall')
    rw [hlen] at h
    rw [Nat.zero_add]
    exact h
  | succ f ih =>
    intro listed a w inv hI hr
    obtain ⟨j, hj, hju, hjb⟩ := rem_pos listed n (by omega)
    have hjs : j < listed.size := by rw [inv.size]; omega
    have hjr : j ∈ Region.ready .any ops listed := by
      refine mem_ready.2 ⟨hju, ops[j]'(by omega), by simp [show j < ops.size by omega], fun e he hbe => ?_⟩
      have hlt := back j _ (by simp [show j < ops.size by omega]) e he hbe
      have := hjb e.on hlt
      have hes : e.on < listed.size := by omega
      simpa [hes] using this
    rw [show f + 1 + (ops.size - n) = (f + (ops.size - n)) + 1 by omega]
    refine ⟨fun h0 => (by rw [h0] at hjr; cases hjr), fun i hi => ?_⟩
    have hin : i < n := by
      rcases Nat.lt_or_ge i n with h | h
      · exact h
      · exact absurd hi (tail_waits hs hc hn inv _ j rfl hj hju i h)
    obtain ⟨hiu, oi, hoi, hdeps⟩ := mem_ready.1 hi
    have hgi : oi.guard = none := by
      have := List.all_eq_true.1 hg i (List.mem_range.2 hin)
      rw [hoi] at this
      simpa using this
    have hli : (l.take n)[i]? = some oi := by rw [hl, List.getElem?_take, if_pos hin]; simpa using hoi
    have hw := hk.at _ _ i oi hli listed a w hI (by rw [Nat.zero_add]; exact hiu) hdeps
    rw [Nat.zero_add] at hw
    have his : i < listed.size := by rw [inv.size]; omega
    have hrem := rem_set listed i his hiu n hin
    unfold wpOp
    simp only [hoi]
    have hwant : Region.wanted oi (yielded ops a.tmps) = true := by simp [Region.wanted, hgi]
    rw [if_pos hwant]
    exact Or.inl (Oper.wp_mono (fun a' w' h' => ih _ a' w' (inv.set hi hin) h' (by omega)) hw)
theorem wp_region_inv {id : Nat} {l : List Oper} {a : Act} {w : World} (n : Nat) (I : Act → World → Array Bool → Act → World → Prop) (hm : P.follows .mixedOrders = true) (hn : n < l.toArray.size) (hs : Region.sinkB .any l.toArray n = true) (hc : Region.chainB .any l.toArray n = true) (hb : backB l.toArray = true) (hg : plainB l.toArray n = true)
    (hseq : Region.seqB .any l.toArray (l.toArray.size - n) n (Array.ofFn (n := l.toArray.size) fun i => decide (i.val < n)) = true)
    (h0 : I a w (Array.replicate l.toArray.size false) a w.drew)
    (hk : Keeps P Q (I a w) (l.take n) 0) (hfin : ∀ listed a' w', I a w listed a' w' → (∀ j, j < n → listed.getD j false = true) → wpList P l.toArray Q (l.drop n) a' w') :
    (Code.region id l.toArray true).wp P Q a w := by
  refine wp_region_any hm ?_
  have inv0 : HeadInv .any l.toArray n (Array.replicate l.toArray.size false) :=
    ⟨by simp, fun j oj _ hl => (by rw [getD_replicate_false] at hl; cases hl), fun t _ ht => getD_in (by simpa using ht) (getD_replicate_false _ _)⟩
  have hr : ∀ m, m ≤ l.toArray.size → rem (Array.replicate l.toArray.size false) m = m := by
    intro m
    induction m with
    | zero => intro _; rfl
    | succ m ih =>
      intro hm'
      unfold rem
      rw [ih (by omega), getD_in (by simp at hm' ⊢; omega) (getD_replicate_false _ _)]
      rfl
  have h := wpAny_inv (P := P) (Q := Q) rfl (I a w) hn hs hc hb hg hseq hk hfin n _ a w.drew inv0 h0 (hr n (Nat.le_of_lt hn))
  rw [show n + (l.toArray.size - n) = l.toArray.size by omega] at h
  exact h
end
/-- Slots s0 .. s0 + n - 1 are the region's, in the text's order; R: what each holds once it has come up; K: what the world keeps. -/
structure IV (s0 n : Nat) (R : Nat → Value → World → Prop) (K : Array Bool → World → Prop) (a0 : Act) (listed : Array Bool) (a : Act) (w : World) : Prop where
  defers : a.defers = a0.defers
  size : a.tmps.size = a0.tmps.size
  frame : ∀ t, t < s0 ∨ s0 + n ≤ t → a.tmps.getD t undef = a0.tmps.getD t undef
  world : K listed w
  vals : ∀ k, k < n → listed.getD k false = true → R k (a.tmps.getD (s0 + k) undef) w
theorem IV.start {s0 n m : Nat} {R : Nat → Value → World → Prop} {K : Array Bool → World → Prop} {a0 : Act} {w : World} (h : K (Array.replicate m false) w) : IV s0 n R K a0 (Array.replicate m false) a0 w :=
  ⟨rfl, rfl, fun _ _ => rfl, h, fun k _ hk => by rw [getD_replicate_false] at hk; cases hk⟩
theorem IV.put {s0 n : Nat} {R : Nat → Value → World → Prop} {K : Array Bool → World → Prop} {a0 a : Act} {listed : Array Bool} {w w' : World} (h : IV s0 n R K a0 listed a w) (k : Nat) (hk : k < n) (hs : s0 + n ≤ a0.tmps.size) (v : Value) (hK : K (listed.setIfInBounds k true) w') (hst : ∀ j u, R j u w → R j u w') (hv : R k v w') :
    IV s0 n R K a0 (listed.setIfInBounds k true) (a.put (some (s0 + k)) v) w' := by
  refine ⟨h.defers, by simp [Act.put, h.size], fun t ht => ?_, hK, fun j hj hl => ?_⟩
  · have : s0 + k ≠ t := by omega
    simp only [Act.put]
    rw [Array.getD_eq_getD_getElem?, Array.getElem?_setIfInBounds_ne this, ← Array.getD_eq_getD_getElem?]
    exact h.frame t ht
  · simp only [Act.put]
    by_cases e : k = j
    · subst e
      have hlt : s0 + k < a.tmps.size := by rw [h.size]; omega
      rw [Array.getD_eq_getD_getElem?, Array.getElem?_setIfInBounds_self_of_lt hlt]
      exact hv
    · have : s0 + k ≠ s0 + j := by omega
      rw [Array.getD_eq_getD_getElem?, Array.getElem?_setIfInBounds_ne this, ← Array.getD_eq_getD_getElem?]
      rw [getD_set_ne false e] at hl
      exact hst j _ (h.vals j hj hl)
def putN (a0 : Act) (s0 : Nat) (u : Nat → Value) : Nat → Act
  | 0 => a0
  | n + 1 => (putN a0 s0 u n).put (some (s0 + n)) (u n)
theorem putN_get (a0 : Act) (s0 : Nat) (u : Nat → Value) : ∀ n, s0 + n ≤ a0.tmps.size → (putN a0 s0 u n).defers = a0.defers ∧ (putN a0 s0 u n).tmps.size = a0.tmps.size ∧ ∀ t, (putN a0 s0 u n).tmps.getD t undef = if s0 ≤ t ∧ t < s0 + n then u (t - s0) else a0.tmps.getD t undef
  | 0, _ => ⟨rfl, rfl, fun t => by rw [if_neg (by omega)]; rfl⟩
  | n + 1, h => by
    obtain ⟨h1, h2, h3⟩ := putN_get a0 s0 u n (by omega)
    refine ⟨h1, by simp [putN, Act.put, h2], fun t => ?_⟩
    simp only [putN, Act.put]
    by_cases e : s0 + n = t
    · subst e
      rw [Array.getD_eq_getD_getElem?, Array.getElem?_setIfInBounds_self_of_lt (by rw [h2]; omega), if_pos (by omega), show s0 + n - s0 = n by omega]
      rfl
    · rw [Array.getD_eq_getD_getElem?, Array.getElem?_setIfInBounds_ne e, ← Array.getD_eq_getD_getElem?, h3 t]
      by_cases h4 : s0 ≤ t ∧ t < s0 + n
      · rw [if_pos h4, if_pos (by omega)]
      · rw [if_neg h4, if_neg (by omega)]
theorem act_eq {a a' : Act} (h1 : a.defers = a'.defers) (h2 : a.tmps.size = a'.tmps.size) (h3 : ∀ t, a.tmps.getD t undef = a'.tmps.getD t undef) : a = a' := by
  obtain ⟨t, d⟩ := a
  obtain ⟨t', d'⟩ := a'
  have e : t = t' := by
    apply Array.ext h2
    intro i hi hi'
    have := h3 i
    simpa [hi, hi'] using this
  simp at h1
  rw [e, h1]
theorem IV.fin {s0 n : Nat} {R : Nat → Value → World → Prop} {K : Array Bool → World → Prop} {a0 a : Act} {listed : Array Bool} {w : World} (h : IV s0 n R K a0 listed a w) (hs : s0 + n ≤ a0.tmps.size) (hl : ∀ j, j < n → listed.getD j false = true) :
    ∃ u : Nat → Value, a = putN a0 s0 u n ∧ ∀ k, k < n → R k (u k) w := by
  refine ⟨fun k => a.tmps.getD (s0 + k) undef, ?_, fun k hk => h.vals k hk (hl k hk)⟩
  obtain ⟨h1, h2, h3⟩ := putN_get a0 s0 (fun k => a.tmps.getD (s0 + k) undef) n hs
  refine act_eq (h.defers.trans h1.symm) (h.size.trans h2.symm) (fun t => ?_)
  rw [h3 t]
  by_cases e : s0 ≤ t ∧ t < s0 + n
  · rw [if_pos e, show s0 + (t - s0) = t by omega]
  · rw [if_neg e]
    exact h.frame t (by omega)
theorem keep_op {P : Program} {Q : Exit → Act → World → Prop} {o : Oper} {a : Act} {w : World} {J : Act → World → Prop} (h : ∀ K : Act → World → Prop, (∀ a' w', J a' w' → K a' w') → o.wp P a w K Q) : o.wp P a w J Q := h _ fun _ _ h => h
section
variable {listed : Array Bool} {w : World}
theorem IV.slot {s0 n : Nat} {R : Nat → Value → World → Prop} {K : Array Bool → World → Prop} {a0 a : Act} (h : IV s0 n R K a0 listed a w) (t : Nat) (ht : t < s0) : (a.tmps[t]?).getD undef = a0.tmps.getD t undef := by
  rw [← h.frame t (Or.inl ht), Array.getD_eq_getD_getElem?]
theorem IV.val {s0 n : Nat} {R : Nat → Value → World → Prop} {K : Array Bool → World → Prop} {a0 a : Act} (h : IV s0 n R K a0 listed a w) (k : Nat) (hk : k < n) (hl : listed.getD k false = true) (t : Nat) (e : t = s0 + k) : R k ((a.tmps[t]?).getD undef) w := by
  have := h.vals k hk hl
  rw [← e, Array.getD_eq_getD_getElem?] at this
  exact this
end
end Go.Proofs.YtenjefbplpbjaaaGreatDoor
