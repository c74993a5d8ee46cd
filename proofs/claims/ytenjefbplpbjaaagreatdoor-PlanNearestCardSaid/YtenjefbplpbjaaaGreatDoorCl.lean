/- Plain facts on codes: the text of a list of parts, what the library's split and Atoi make of it, and what a scan of two digits at most makes of it. No program in sight. -/
import Derived.Test.YtenjefbplpbjaaaGreatDoorTy
import Derived.Lib.SplitLaws
namespace Go.Proofs.YtenjefbplpbjaaaGreatDoor.Cal
/-- A number from 1 to 99 without a leading zero. -/
def wd (n : Nat) : List UInt8 := if n < 10 then [UInt8.ofNat (48 + n)] else dig2 n
theorem itoa_wd (n : Nat) (h : n < 100) : Lib.itoa (n : Int) = wd n := by
  have e := wordL_two n h
  unfold wordL at e
  unfold wd
  by_cases h10 : n < 10
  · rw [if_pos (by omega)] at e
    rw [if_pos h10]
    have e2 : dig2 n = [48, UInt8.ofNat (48 + n)] := by
      unfold dig2
      rw [show n / 10 = 0 by omega, show n % 10 = n by omega]; rfl
    rw [e2] at e
    exact (List.cons.inj e).2
  · rw [if_neg (by omega)] at e
    rw [if_neg h10]
    exact e
theorem atoi_wd (n : Nat) (h : n < 100) : atoiV (wd n) = n := by
  unfold wd
  by_cases h10 : n < 10
  · rw [if_pos h10]
    have e : Lib.atoiAll [UInt8.ofNat (48 + n)] = .ok (n : Int) := by
      rw [atoi_dig n h10 []]
      show Lib.signless (.ok n) = _
      show (if _ then _ else _) = _
      rw [if_neg (by omega)]
    unfold atoiV
    rw [e]
  · rw [if_neg h10]
    exact atoi_two n h
theorem dig_ne (n : Nat) (h : n < 10) (k : UInt8) (hk : k.toNat < 48 ∨ 57 < k.toNat) : UInt8.ofNat (48 + n) ≠ k := by
  intro e
  have a := dig_bd n h
  rw [e] at a
  omega
theorem dig2_dot (n : Nat) (h : n < 100) : ∀ c ∈ dig2 n, c ≠ 46 := by
  intro c hc
  have hc' : c = UInt8.ofNat (48 + n / 10) ∨ c = UInt8.ofNat (48 + n % 10) := by
    rcases List.mem_cons.1 hc with k | k
    · exact Or.inl k
    · exact Or.inr (List.mem_singleton.1 k)
  rcases hc' with k | k
  · rw [k]; exact dig_ne _ (by omega) _ (by decide)
  · rw [k]; exact dig_ne _ (by omega) _ (by decide)
theorem wd_dot (n : Nat) (h : n < 100) : ∀ c ∈ wd n, c ≠ 46 := by
  unfold wd
  by_cases h10 : n < 10
  · rw [if_pos h10]
    intro c hc
    rw [List.mem_singleton.1 hc]
    exact dig_ne n h10 _ (by decide)
  · rw [if_neg h10]; exact dig2_dot n h
/-- The parts behind the first one. -/
def tailL (r : List Int) : List UInt8 := r.flatMap fun n => 46 :: wd n.toNat
def codeL : List Int → List UInt8
  | [] => []
  | a :: r => dig2 a.toNat ++ tailL r
def codeB (P : List Int) : ByteArray := bs (codeL P)
def inP (P : List Int) : Prop := ∀ n ∈ P, 1 ≤ n ∧ n ≤ 99
def okP (P : List Int) : Prop := 1 ≤ P.length ∧ P.length ≤ 5 ∧ inP P
instance (P : List Int) : Decidable (inP P) := by unfold inP; exact inferInstance
instance (P : List Int) : Decidable (okP P) := by unfold okP; exact inferInstance
/-! ### The library's split -/
def dotB : ByteArray := ⟨#[46]⟩
def cutB (s : ByteArray) : List ByteArray := Lib.splitB dotB 0 (Lib.countB s dotB) s
theorem dot_one (l : List UInt8) : Lib.indexB (bs l) dotB = Lib.indexByte l 46 := by
  show Lib.index (bs l).data.toList [46] = _
  rw [bs_data, Lib.index_one]
theorem dot_skip (a r : List UInt8) (h : ∀ c ∈ a, c ≠ 46) : Lib.indexByte (a ++ 46 :: r) 46 = a.length := by
  induction a with
  | nil => rfl
  | cons c a ih =>
    have hc := h c (by simp)
    have ih' := ih (fun x hx => h x (by simp [hx]))
    show (if (c == 46) = true then (0 : Int) else if (Lib.indexByte (a ++ 46 :: r) 46 == -1) = true then -1 else Lib.indexByte (a ++ 46 :: r) 46 + 1) = _
    rw [if_neg (by simpa using hc), ih', if_neg (by rw [beq_iff_eq]; omega)]
    simp
theorem dot_miss (a : List UInt8) (h : ∀ c ∈ a, c ≠ 46) : Lib.indexByte a 46 = -1 := by
  induction a with
  | nil => rfl
  | cons c a ih =>
    have hc := h c (by simp)
    have ih' := ih (fun x hx => h x (by simp [hx]))
    show (if (c == 46) = true then (0 : Int) else if (Lib.indexByte a 46 == -1) = true then -1 else Lib.indexByte a 46 + 1) = _
    rw [if_neg (by simpa using hc), ih', if_pos (by decide)]
theorem cut_hit (a r : List UInt8) (h : ∀ c ∈ a, c ≠ 46) : cutB (bs (a ++ 46 :: r)) = bs a :: cutB (bs r) := by
  have hi : Lib.indexB (bs (a ++ 46 :: r)) dotB = (a.length : Nat) := by rw [dot_one, dot_skip a r h]
  have e2 : (bs (a ++ 46 :: r)).extract (a.length + dotB.size) (bs (a ++ 46 :: r)).size = bs r := by
    rw [bs_extract, bs_size]
    have e3 : dotB.size = 1 := rfl
    have e4 : (a ++ 46 :: r).drop (a.length + 1) = r := by
      rw [List.drop_append]; simp
    rw [e3, e4, List.take_of_length_le]
    simp
    omega
  unfold cutB
  rw [Lib.countB_hit _ _ _ (by decide) hi, e2, Nat.add_comm, Lib.splitB_hit _ _ _ _ _ hi, e2, bs_extract]
  have e1 : ((a ++ 46 :: r).drop 0).take (a.length + 0 - 0) = a := by simp
  rw [e1]
theorem cut_miss (a : List UInt8) (h : ∀ c ∈ a, c ≠ 46) : cutB (bs a) = [bs a] := by
  unfold cutB
  exact Lib.splitB_miss _ _ _ _ (by rw [dot_one, dot_miss a h])
theorem cut_words (r : List Int) : ∀ (a : List UInt8), (∀ c ∈ a, c ≠ 46) → inP r → cutB (bs (a ++ tailL r)) = bs a :: r.map fun n => bs (wd n.toNat) := by
  induction r with
  | nil => intro a ha _; simp only [tailL, List.flatMap_nil, List.append_nil, List.map_nil]; exact cut_miss a ha
  | cons n r ih =>
    intro a ha hr
    have hn := hr n (by simp)
    have e : a ++ tailL (n :: r) = a ++ 46 :: (wd n.toNat ++ tailL r) := by simp [tailL]
    rw [e, cut_hit a _ ha, ih _ (wd_dot _ (by omega)) (fun x hx => hr x (by simp [hx]))]
    rfl
theorem cut_ne (s : ByteArray) : cutB s ≠ [] := by
  intro e
  have := Lib.splitB_all dotB (by decide) 0 _ s rfl
  unfold cutB at e
  rw [e] at this
  simp at this
theorem cut_len (s : ByteArray) : (cutB s).length = Lib.countB s dotB + 1 := Lib.splitB_all dotB (by decide) 0 _ s rfl
theorem cut_bd (s : ByteArray) : (cutB s).length ≤ s.size + 1 := by
  rw [cut_len]
  have := Lib.countB_le dotB (by decide) s.size s (Nat.le_refl _)
  omega
theorem split_piece (sep : ByteArray) (v : Nat) : ∀ (k : Nat) (s p : ByteArray), p ∈ Lib.splitB sep v k s → p.size ≤ s.size
  | 0, s, p => by intro h; rw [Lib.splitB_zero] at h; rw [List.mem_singleton.1 h]; exact Nat.le_refl _
  | k + 1, s, p => by
    intro h
    rw [Lib.splitB] at h
    split at h
    · rw [List.mem_singleton.1 h]; exact Nat.le_refl _
    · rcases List.mem_cons.1 h with h | h
      · rw [h, ByteArray.size_extract]; omega
      · have := split_piece sep v k _ p h
        rw [ByteArray.size_extract] at this; omega
theorem cut_piece (s p : ByteArray) (h : p ∈ cutB s) : p.size ≤ s.size := split_piece _ _ _ _ _ h
/-- The numbers of a string's pieces. -/
def partsOf (s : ByteArray) : List Int := (cutB s).map fun p => atoiV p.data.toList
theorem parts_code (P : List Int) (h : okP P) : partsOf (codeB P) = P := by
  obtain ⟨h1, h5, hP⟩ := h
  match P, h1, hP with
  | a :: r, _, hP =>
    have ha := hP a (by simp)
    have hr : inP r := fun x hx => hP x (by simp [hx])
    unfold partsOf codeB codeL
    rw [cut_words r _ (dig2_dot _ (by omega)) hr, List.map_cons, List.map_map, bs_data, atoi_two _ (by omega)]
    have e : (r.map ((fun p : ByteArray => atoiV p.data.toList) ∘ fun n : Int => bs (wd n.toNat))) = r := by
      rw [List.map_congr_left (g := id) (fun n hn => by
        have := hr n hn
        show atoiV (bs (wd n.toNat)).data.toList = n
        rw [bs_data, atoi_wd _ (by omega)]; omega)]
      simp
    rw [e, show ((a.toNat : Nat) : Int) = a by omega]
theorem codeB_inj {P Q : List Int} (hP : okP P) (hQ : okP Q) (h : codeB P = codeB Q) : P = Q := by
  rw [← parts_code P hP, ← parts_code Q hQ, h]
/-- A code's parts. -/
def parseO (s : ByteArray) : Option (List Int) := if okP (partsOf s) ∧ codeB (partsOf s) = s then some (partsOf s) else none
theorem parseO_code (P : List Int) (h : okP P) : parseO (codeB P) = some P := by
  unfold parseO
  rw [parts_code P h, if_pos ⟨h, rfl⟩]
theorem parseO_some {s : ByteArray} {P : List Int} (h : parseO s = some P) : okP P ∧ s = codeB P := by
  unfold parseO at h
  split at h
  · rename_i hc
    cases h
    exact ⟨hc.1, hc.2.symm⟩
  · cases h
theorem parseO_none {s : ByteArray} (h : parseO s = none) : ∀ P, okP P → s ≠ codeB P := by
  intro P hP e
  rw [e, parseO_code P hP] at h
  cases h
theorem wd_pos (n : Nat) : 1 ≤ (wd n).length := by
  unfold wd; split <;> simp [dig2]
theorem wd_le (n : Nat) : (wd n).length ≤ 2 := by
  unfold wd; split <;> simp [dig2]
theorem tailL_len (r : List Int) : (tailL r).length ≤ 3 * r.length := by
  induction r with
  | nil => simp [tailL]
  | cons n r ih =>
    have := wd_le n.toNat
    have e : tailL (n :: r) = (46 :: wd n.toNat) ++ tailL r := by simp [tailL]
    rw [e, List.length_append]
    simp only [List.length_cons]
    omega
theorem codeL_len (P : List Int) : (codeL P).length ≤ 3 * P.length := by
  match P with
  | [] => simp [codeL]
  | a :: r =>
    have := tailL_len r
    unfold codeL
    simp [dig2]
    omega
theorem codeB_size (P : List Int) : (codeB P).size ≤ 3 * P.length := by
  unfold codeB; rw [bs_size]; exact codeL_len P
theorem codeB_ne (P : List Int) (h : P ≠ []) : (codeB P).size ≠ 0 := by
  match P, h with
  | a :: r, _ => unfold codeB codeL; rw [bs_size]; simp [dig2]
theorem codeL_snoc (P : List Int) (n : Int) (h : P ≠ []) : codeL (P ++ [n]) = codeL P ++ 46 :: wd n.toNat := by
  match P, h with
  | a :: r, _ => simp [codeL, tailL]
theorem tailL_append (a b : List Int) : tailL (a ++ b) = tailL a ++ tailL b := by simp [tailL]
theorem codeL_append (P Q : List Int) (h : P ≠ []) : codeL (P ++ Q) = codeL P ++ tailL Q := by
  match P, h with
  | a :: r, _ => simp [codeL, tailL]
/-! ### A scan of two digits at most -/
def isDg (c : UInt8) : Prop := 48 ≤ c.toNat ∧ c.toNat ≤ 57
instance (c : UInt8) : Decidable (isDg c) := by unfold isDg; exact inferInstance
/-- How many digits stand ahead, two at most. -/
def cnt : List UInt8 → Nat
  | [] => 0
  | [c] => if isDg c then 1 else 0
  | c :: d :: _ => if isDg c then if isDg d then 2 else 1 else 0
/-- Their number. -/
def valF : List UInt8 → Int
  | [] => 0
  | [c] => if isDg c then (c.toNat : Int) - 48 else 0
  | c :: d :: _ => if isDg c then if isDg d then 10 * ((c.toNat : Int) - 48) + ((d.toNat : Int) - 48) else (c.toNat : Int) - 48 else 0
def scanF : Nat → Bool → List UInt8 → Option (List Int)
  | 0, _, _ => none
  | f + 1, first, l =>
    if cnt l = 0 ∨ valF l = 0 ∨ (first = true ∧ cnt l ≠ 2) ∨ (first = false ∧ l.head? = some 48) then none
    else match l.drop (cnt l) with
      | [] => some [valF l]
      | b :: r => if b = 46 then (scanF f false r).map (valF l :: ·) else none
/-- The text that a scan reads. -/
def textF : Bool → List Int → List UInt8
  | _, [] => []
  | true, a :: r => dig2 a.toNat ++ tailL r
  | false, a :: r => wd a.toNat ++ tailL r
theorem dg_of (n : Nat) (h : n < 10) : isDg (UInt8.ofNat (48 + n)) ∧ ((UInt8.ofNat (48 + n)).toNat : Int) - 48 = n := by
  have e := ofNat_toNat n h
  exact ⟨by unfold isDg; omega, by omega⟩
def wordF : Bool → Nat → List UInt8
  | true, n => dig2 n
  | false, n => wd n
/-- Either nothing stands behind, or no digit. -/
def Ends (r : List UInt8) : Prop := ∀ c ∈ r.head?, ¬ isDg c
theorem tail_ends (r : List Int) : Ends (tailL r) := by
  match r with
  | [] => intro c hc; simp [tailL] at hc
  | n :: r => intro c hc; simp [tailL] at hc; subst hc; decide
theorem cnt_dig2 (n : Nat) (h : n < 100) (r : List UInt8) : cnt (dig2 n ++ r) = 2 ∧ valF (dig2 n ++ r) = n ∧ (dig2 n ++ r).drop 2 = r := by
  have a := dg_of (n / 10) (by omega)
  have b := dg_of (n % 10) (by omega)
  refine ⟨?_, ?_, rfl⟩
  · show (if isDg _ then if isDg _ then 2 else 1 else 0) = 2
    rw [if_pos a.1, if_pos b.1]
  · show (if isDg _ then if isDg _ then _ else _ else _) = _
    rw [if_pos a.1, if_pos b.1, a.2, b.2]
    omega
theorem cnt_wd (n : Nat) (h : n < 100) (r : List UInt8) (hr : Ends r) : cnt (wd n ++ r) = (wd n).length ∧ valF (wd n ++ r) = n ∧ (wd n ++ r).drop (wd n).length = r := by
  unfold wd
  by_cases h10 : n < 10
  · rw [if_pos h10]
    have a := dg_of n h10
    refine ⟨?_, ?_, by simp⟩
    · match r, hr with
      | [], _ => show (if isDg _ then 1 else 0) = 1; rw [if_pos a.1]
      | d :: r, hr =>
        show (if isDg _ then if isDg d then 2 else 1 else 0) = 1
        rw [if_pos a.1, if_neg (hr d rfl)]
    · match r, hr with
      | [], _ => show (if isDg _ then _ else _) = _; rw [if_pos a.1, a.2]
      | d :: r, hr =>
        show (if isDg _ then if isDg d then _ else _ else _) = _
        rw [if_pos a.1, if_neg (hr d rfl), a.2]
  · rw [if_neg h10]
    exact cnt_dig2 n h r
theorem wd_head (n : Nat) (h1 : 1 ≤ n) (h : n < 100) (r : List UInt8) : (wd n ++ r).head? ≠ some 48 := by
  unfold wd
  by_cases h10 : n < 10
  · rw [if_pos h10]
    have e := ofNat_toNat n h10
    intro k
    have k' : UInt8.ofNat (48 + n) = 48 := by simpa using k
    rw [k'] at e
    have : (48 : UInt8).toNat = 48 := rfl
    omega
  · rw [if_neg h10]
    have e := ofNat_toNat (n / 10) (by omega)
    intro k
    have k' : UInt8.ofNat (48 + n / 10) = 48 := by simpa [dig2] using k
    rw [k'] at e
    have : (48 : UInt8).toNat = 48 := rfl
    omega
theorem scan_text : ∀ (f : Nat) (first : Bool) (R : List Int), R ≠ [] → R.length ≤ f → inP R → scanF f first (textF first R) = some R
  | 0, _, R, h, hl, _ => by
    match R, h with
    | _ :: _, _ => simp at hl
  | f + 1, first, R, h, hl, hR => by
    match R, h with
    | a :: r, _ =>
      have ha := hR a (by simp)
      have hr : inP r := fun x hx => hR x (by simp [hx])
      have hl' : r.length ≤ f := by simpa using hl
      have he : ((a.toNat : Nat) : Int) = a := by omega
      have rest : ∀ l : List UInt8, l.drop (cnt l) = tailL r → valF l = a → ¬ (cnt l = 0 ∨ valF l = 0 ∨ (first = true ∧ cnt l ≠ 2) ∨ (first = false ∧ l.head? = some 48)) → scanF (f + 1) first l = some (a :: r) := by
        intro l h1 h2 h3
        rw [scanF, if_neg h3, h1, h2]
        match r, hr, hl' with
        | [], _, _ => rfl
        | b :: r', hr, hl' =>
          have e : tailL (b :: r') = 46 :: textF false (b :: r') := by simp [tailL, textF]
          rw [e]
          show (if (46 : UInt8) = 46 then (scanF f false (textF false (b :: r'))).map (a :: ·) else none) = _
          rw [if_pos rfl, scan_text f false (b :: r') (by simp) hl' hr]
          rfl
      match first with
      | true =>
        obtain ⟨c1, c2, c3⟩ := cnt_dig2 a.toNat (by omega) (tailL r)
        refine rest _ (by rw [textF, c1]; exact c3) (by rw [textF, c2]; exact he) ?_
        rw [textF, c1, c2]
        simp
        omega
      | false =>
        obtain ⟨c1, c2, c3⟩ := cnt_wd a.toNat (by omega) (tailL r) (tail_ends r)
        refine rest _ (by rw [textF, c1]; exact c3) (by rw [textF, c2]; exact he) ?_
        have hp := wd_pos a.toNat
        have hh := wd_head a.toNat (by omega) (by omega) (tailL r)
        rw [textF, c1, c2]
        rintro (k | k | ⟨k, _⟩ | ⟨_, k⟩)
        · omega
        · omega
        · cases k
        · exact hh k
theorem dg_eq {c : UInt8} (h : isDg c) : c = UInt8.ofNat (48 + (c.toNat - 48)) := by
  have h' := h
  unfold isDg at h'
  exact u8_eq c (c.toNat - 48) (by omega) (by omega)
/-- What the digits ahead are, where they are two. -/
theorem two_ahead (l : List UInt8) (h : cnt l = 2) : 0 ≤ valF l ∧ valF l ≤ 99 ∧ l = dig2 (valF l).toNat ++ l.drop 2 := by
  match l, h with
  | [], h => simp [cnt] at h
  | [c], h => simp only [cnt] at h; split at h <;> omega
  | c :: d :: r, h =>
    simp only [cnt] at h
    by_cases hc : isDg c
    · rw [if_pos hc] at h
      by_cases hd : isDg d
      · have ev : valF (c :: d :: r) = 10 * ((c.toNat : Int) - 48) + ((d.toNat : Int) - 48) := by
          show (if isDg c then if isDg d then _ else _ else _) = _
          rw [if_pos hc, if_pos hd]
        have hc' := hc
        have hd' := hd
        unfold isDg at hc' hd'
        refine ⟨by omega, by omega, ?_⟩
        rw [ev]
        have e1 : (10 * ((c.toNat : Int) - 48) + ((d.toNat : Int) - 48)).toNat / 10 = c.toNat - 48 := by omega
        have e2 : (10 * ((c.toNat : Int) - 48) + ((d.toNat : Int) - 48)).toNat % 10 = d.toNat - 48 := by omega
        unfold dig2
        rw [e1, e2, ← dg_eq hc, ← dg_eq hd]
        rfl
      · rw [if_neg hd] at h; omega
    · rw [if_neg hc] at h; omega
theorem one_ahead (l : List UInt8) (h : cnt l = 1) : 0 ≤ valF l ∧ valF l ≤ 9 ∧ l = wd (valF l).toNat ++ l.drop 1 := by
  have fin : ∀ (c : UInt8) (r : List UInt8), isDg c → valF (c :: r) = (c.toNat : Int) - 48 → 0 ≤ valF (c :: r) ∧ valF (c :: r) ≤ 9 ∧ (c :: r) = wd (valF (c :: r)).toNat ++ (c :: r).drop 1 := by
    intro c r hc ev
    have hc' := hc
    unfold isDg at hc'
    refine ⟨by omega, by omega, ?_⟩
    rw [ev]
    have e : ((c.toNat : Int) - 48).toNat = c.toNat - 48 := by omega
    unfold wd
    rw [e, if_pos (by omega), ← dg_eq hc]
    rfl
  match l, h with
  | [], h => simp [cnt] at h
  | [c], h =>
    simp only [cnt] at h
    by_cases hc : isDg c
    · exact fin c [] hc (by show (if isDg c then _ else _) = _; rw [if_pos hc])
    · rw [if_neg hc] at h; omega
  | c :: d :: r, h =>
    simp only [cnt] at h
    by_cases hc : isDg c
    · by_cases hd : isDg d
      · rw [if_pos hc, if_pos hd] at h; omega
      · exact fin c (d :: r) hc (by show (if isDg c then if isDg d then _ else _ else _) = _; rw [if_pos hc, if_neg hd])
    · rw [if_neg hc] at h; omega
theorem cnt_le (l : List UInt8) : cnt l ≤ 2 := by
  match l with
  | [] => simp [cnt]
  | [c] => simp only [cnt]; split <;> omega
  | c :: d :: r =>
    simp only [cnt]
    by_cases h : isDg c
    · rw [if_pos h]; split <;> omega
    · rw [if_neg h]; omega
theorem dig2_wd (n : Nat) (h : 10 ≤ n) : dig2 n = wd n := by unfold wd; rw [if_neg (by omega)]
theorem scan_sound : ∀ (f : Nat) (first : Bool) (l : List UInt8) (R : List Int), scanF f first l = some R → R ≠ [] ∧ R.length ≤ f ∧ inP R ∧ l = textF first R
  | 0, _, _, _, h => by simp [scanF] at h
  | f + 1, first, l, R, h => by
    rw [scanF] at h
    split at h
    · cases h
    rename_i hn
    have h0 : cnt l ≠ 0 := fun k => hn (Or.inl k)
    have hv : valF l ≠ 0 := fun k => hn (Or.inr (Or.inl k))
    have hcl := cnt_le l
    have main : 1 ≤ valF l ∧ valF l ≤ 99 ∧ ∀ r, l = wordF first (valF l).toNat ++ r ↔ l.drop (cnt l) = r := by
      have hc12 : cnt l = 1 ∨ cnt l = 2 := by omega
      rcases hc12 with hc | hc
      · obtain ⟨a, b, e⟩ := one_ahead l hc
        have hf : first = false := by
          cases first with
          | false => rfl
          | true => exact absurd (Or.inr (Or.inr (Or.inl ⟨rfl, by omega⟩))) hn
        subst hf
        refine ⟨by omega, by omega, fun r => ?_⟩
        rw [hc]
        constructor
        · intro k
          exact List.append_cancel_left (e.symm.trans k)
        · intro k
          rw [← k]; exact e
      · obtain ⟨a, b, e⟩ := two_ahead l hc
        have ew : wordF first (valF l).toNat = dig2 (valF l).toNat := by
          cases first with
          | true => rfl
          | false =>
            have hh : l.head? ≠ some 48 := fun k => hn (Or.inr (Or.inr (Or.inr ⟨rfl, k⟩)))
            by_cases h10 : 10 ≤ (valF l).toNat
            · exact (dig2_wd _ h10).symm
            · exfalso
              apply hh
              rw [e]
              unfold dig2
              rw [show (valF l).toNat / 10 = 0 by omega]
              rfl
        refine ⟨by omega, by omega, fun r => ?_⟩
        rw [hc, ew]
        constructor
        · intro k
          exact List.append_cancel_left (e.symm.trans k)
        · intro k
          rw [← k]; exact e
    obtain ⟨m1, m2, m3⟩ := main
    have tx : ∀ R' : List Int, textF first (valF l :: R') = wordF first (valF l).toNat ++ tailL R' := by
      intro R'; cases first <;> rfl
    split at h
    · rename_i hd
      cases h
      refine ⟨by simp, by simp, fun x hx => by rw [List.mem_singleton.1 hx]; exact ⟨m1, m2⟩, ?_⟩
      rw [tx]
      exact (m3 _).2 hd
    · rename_i b r hd
      split at h
      · rename_i hb
        subst hb
        obtain ⟨R', hR', rfl⟩ := Option.map_eq_some_iff.1 h
        obtain ⟨i1, i2, i3, i4⟩ := scan_sound f false r R' hR'
        refine ⟨by simp, by simpa using i2, ?_, ?_⟩
        · intro x hx
          rcases List.mem_cons.1 hx with k | k
          · rw [k]; exact ⟨m1, m2⟩
          · exact i3 x k
        · rw [tx]
          refine (m3 _).2 ?_
          rw [hd, i4]
          match R', i1 with
          | b :: R'', _ => simp [tailL, textF]
      · cases h
theorem scan_parse (l : List UInt8) : scanF 5 true l = parseO (bs l) := by
  cases h : scanF 5 true l with
  | some R =>
    obtain ⟨h1, h2, h3, h4⟩ := scan_sound 5 true l R h
    have hl : 1 ≤ R.length := by
      match R, h1 with
      | _ :: _, _ => simp
    have e : l = codeL R := by
      rw [h4]
      match R, h1 with
      | _ :: _, _ => rfl
    rw [e]
    exact (parseO_code R ⟨hl, h2, h3⟩).symm
  | none =>
    cases h2 : parseO (bs l) with
    | none => rfl
    | some P =>
      obtain ⟨⟨o1, o2, o3⟩, e⟩ := parseO_some h2
      have e2 : l = codeL P := by
        have := congrArg (fun s : ByteArray => s.data.toList) e
        simpa [codeB, bs_data] using this
      have : scanF 5 true l = some P := by
        rw [e2]
        match P, o1, o2, o3 with
        | a :: r, o1, o2, o3 => exact scan_text 5 true (a :: r) (by simp) o2 o3
      rw [h] at this
      cases this
end Go.Proofs.YtenjefbplpbjaaaGreatDoor.Cal
