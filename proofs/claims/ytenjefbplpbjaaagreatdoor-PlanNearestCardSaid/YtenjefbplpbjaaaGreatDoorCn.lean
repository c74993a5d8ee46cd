/- Plain facts on the scan of a code, in the steps of the reference's loop. No program in sight. -/
import Derived.Test.YtenjefbplpbjaaaGreatDoorCl
namespace Go.Proofs.YtenjefbplpbjaaaGreatDoor.Cal
def valJ (l : List UInt8) (j : Nat) : Int := (l.take j).foldl (fun n c => 10 * n + ((c.toNat : Int) - 48)) 0
theorem valJ_succ (l : List UInt8) (j : Nat) (h : j < l.length) : valJ l (j + 1) = 10 * valJ l j + ((l[j].toNat : Int) - 48) := by
  unfold valJ
  rw [List.take_succ_eq_append_getElem h, List.foldl_append]
  rfl
theorem cnt_digit (l : List UInt8) (j : Nat) (hj : j < cnt l) : ∃ h : j < l.length, isDg l[j] := by
  match l, hj with
  | [], hj => simp [cnt] at hj
  | [c], hj =>
    simp only [cnt] at hj
    by_cases hc : isDg c
    · rw [if_pos hc] at hj
      obtain rfl : j = 0 := by omega
      exact ⟨by simp, hc⟩
    · rw [if_neg hc] at hj; omega
  | c :: d :: r, hj =>
    simp only [cnt] at hj
    by_cases hc : isDg c
    · rw [if_pos hc] at hj
      by_cases hd : isDg d
      · rw [if_pos hd] at hj
        have h2 : j = 0 ∨ j = 1 := by omega
        rcases h2 with rfl | rfl
        · exact ⟨by simp, hc⟩
        · exact ⟨by simp, hd⟩
      · rw [if_neg hd] at hj
        obtain rfl : j = 0 := by omega
        exact ⟨by simp, hc⟩
    · rw [if_neg hc] at hj; omega
theorem cnt_end (l : List UInt8) : cnt l = 2 ∨ cnt l = l.length ∨ ∃ h : cnt l < l.length, ¬ isDg l[cnt l] := by
  match l with
  | [] => exact Or.inr (Or.inl rfl)
  | [c] =>
    by_cases hc : isDg c
    · have e : cnt [c] = 1 := by simp only [cnt]; rw [if_pos hc]
      exact Or.inr (Or.inl e)
    · have e : cnt [c] = 0 := by simp only [cnt]; rw [if_neg hc]
      exact Or.inr (Or.inr ⟨by rw [e]; simp, by simp only [e]; exact hc⟩)
  | c :: d :: r =>
    by_cases hc : isDg c
    · by_cases hd : isDg d
      · exact Or.inl (by simp only [cnt]; rw [if_pos hc, if_pos hd])
      · have e : cnt (c :: d :: r) = 1 := by simp only [cnt]; rw [if_pos hc, if_neg hd]
        exact Or.inr (Or.inr ⟨by rw [e]; simp, by simp only [e]; exact hd⟩)
    · have e : cnt (c :: d :: r) = 0 := by simp only [cnt]; rw [if_neg hc]
      exact Or.inr (Or.inr ⟨by rw [e]; simp, by simp only [e]; exact hc⟩)
theorem cnt_len (l : List UInt8) : cnt l ≤ l.length := by
  rcases Nat.lt_or_ge l.length (cnt l) with h | h
  · obtain ⟨k, _⟩ := cnt_digit l l.length h
    omega
  · exact h
theorem valJ_cnt (l : List UInt8) : valJ l (cnt l) = valF l := by
  match l with
  | [] => rfl
  | [c] =>
    by_cases hc : isDg c
    · have e : cnt [c] = 1 := by simp only [cnt]; rw [if_pos hc]
      rw [e]; simp only [valF]; rw [if_pos hc]; simp [valJ]
    · have e : cnt [c] = 0 := by simp only [cnt]; rw [if_neg hc]
      rw [e]; simp only [valF]; rw [if_neg hc]; rfl
  | c :: d :: r =>
    by_cases hc : isDg c
    · by_cases hd : isDg d
      · have e : cnt (c :: d :: r) = 2 := by simp only [cnt]; rw [if_pos hc, if_pos hd]
        rw [e]; simp only [valF]; rw [if_pos hc, if_pos hd]; simp [valJ]
      · have e : cnt (c :: d :: r) = 1 := by simp only [cnt]; rw [if_pos hc, if_neg hd]
        rw [e]; simp only [valF]; rw [if_pos hc, if_neg hd]; simp [valJ]
    · have e : cnt (c :: d :: r) = 0 := by simp only [cnt]; rw [if_neg hc]
      rw [e]; simp only [valF]; rw [if_neg hc]; rfl
theorem valJ_bd (l : List UInt8) (j : Nat) (hj : j ≤ cnt l) : 0 ≤ valJ l j ∧ valJ l j < 10 ^ j := by
  induction j with
  | zero => exact ⟨Int.le_refl _, by show (0 : Int) < 10 ^ 0; decide⟩
  | succ j ih =>
    obtain ⟨i1, i2⟩ := ih (by omega)
    obtain ⟨h, hd⟩ := cnt_digit l j (by omega)
    unfold isDg at hd
    rw [valJ_succ l j h, Int.pow_succ]
    constructor <;> omega
/-- Where the reference's loop stands: the parts so far, and what is still to be scanned. -/
def Scan (s : List UInt8) (P : List Int) (a : Nat) : Prop := parseO (bs s) = (scanF (5 - P.length) P.isEmpty (s.drop a)).map (P ++ ·)
theorem Scan.start (s : List UInt8) : Scan s [] 0 := by
  unfold Scan
  rw [← scan_parse]
  show scanF 5 true s = (scanF 5 true s).map _
  cases scanF 5 true s <;> rfl
def BadP (l : List UInt8) (P : List Int) : Prop := cnt l = 0 ∨ valF l = 0 ∨ (P.length = 0 ∧ cnt l ≠ 2) ∨ (0 < P.length ∧ l.head? = some 48) ∨ P.length = 5
theorem empty_iff (P : List Int) : (P.isEmpty = true ↔ P.length = 0) ∧ (P.isEmpty = false ↔ 0 < P.length) := by
  cases P <;> simp
theorem Scan.bad {s : List UInt8} {P : List Int} {a : Nat} (h : Scan s P a) (hb : BadP (s.drop a) P) (h5 : P.length ≤ 5) : parseO (bs s) = none := by
  rw [h]
  unfold BadP at hb
  by_cases e : P.length = 5
  · rw [e]; rfl
  · obtain ⟨f, hf⟩ : ∃ f, 5 - P.length = f + 1 := ⟨4 - P.length, by omega⟩
    rw [hf, scanF, if_pos (by
      rw [(empty_iff P).1, (empty_iff P).2]
      rcases hb with k | k | k | k | k
      · exact Or.inl k
      · exact Or.inr (Or.inl k)
      · exact Or.inr (Or.inr (Or.inl k))
      · exact Or.inr (Or.inr (Or.inr k))
      · exact absurd k e)]
    rfl
theorem Scan.open {s : List UInt8} {P : List Int} {a : Nat} (h : Scan s P a) (hb : ¬ BadP (s.drop a) P) (h5 : P.length ≤ 5) :
    parseO (bs s) = (match s.drop (a + cnt (s.drop a)) with
      | [] => some [valF (s.drop a)]
      | b :: r => if b = 46 then (scanF (4 - P.length) false r).map (valF (s.drop a) :: ·) else none).map (P ++ ·) := by
  rw [h]
  unfold BadP at hb
  have hn5 : P.length ≠ 5 := fun k => hb (Or.inr (Or.inr (Or.inr (Or.inr k))))
  have hf : 5 - P.length = (4 - P.length) + 1 := by omega
  rw [hf, scanF, if_neg (by
      rw [(empty_iff P).1, (empty_iff P).2]
      rintro (k | k | k | k)
      · exact hb (Or.inl k)
      · exact hb (Or.inr (Or.inl k))
      · exact hb (Or.inr (Or.inr (Or.inl k)))
      · exact hb (Or.inr (Or.inr (Or.inr (Or.inl k))))), List.drop_drop]
  cases s.drop (a + cnt (s.drop a)) <;> rfl
theorem Scan.fin {s : List UInt8} {P : List Int} {a : Nat} (h : Scan s P a) (hb : ¬ BadP (s.drop a) P) (h5 : P.length ≤ 5) (he : a + cnt (s.drop a) = s.length) : parseO (bs s) = some (P ++ [valF (s.drop a)]) := by
  rw [h.open hb h5, he, List.drop_length]
  rfl
theorem Scan.stop {s : List UInt8} {P : List Int} {a : Nat} (h : Scan s P a) (hb : ¬ BadP (s.drop a) P) (h5 : P.length ≤ 5) (hl : a + cnt (s.drop a) < s.length) (hd : s[a + cnt (s.drop a)] ≠ 46) : parseO (bs s) = none := by
  rw [h.open hb h5, List.drop_eq_getElem_cons hl]
  show (if _ then _ else _ : Option (List Int)).map _ = _
  rw [if_neg hd]
  rfl
theorem Scan.next {s : List UInt8} {P : List Int} {a : Nat} (h : Scan s P a) (hb : ¬ BadP (s.drop a) P) (h5 : P.length ≤ 5) (hl : a + cnt (s.drop a) < s.length) (hd : s[a + cnt (s.drop a)] = 46) : Scan s (P ++ [valF (s.drop a)]) (a + cnt (s.drop a) + 1) := by
  unfold Scan
  rw [h.open hb h5, List.drop_eq_getElem_cons hl]
  show (if _ then _ else _ : Option (List Int)).map _ = _
  rw [if_pos hd, Option.map_map]
  have e1 : 5 - (P ++ [valF (s.drop a)]).length = 4 - P.length := by rw [List.length_append]; show 5 - (P.length + 1) = _; omega
  have e2 : (P ++ [valF (s.drop a)]).isEmpty = false := by cases P <;> rfl
  rw [e1, e2]
  congr 1
  funext x
  simp
theorem Scan.stop2 {s : List UInt8} {P : List Int} {a c : Nat} (h : Scan s P a) (ec : c = cnt (s.drop a)) (hb : ¬ BadP (s.drop a) P) (h5 : P.length ≤ 5) (hl : a + c < s.length) (hd : s[a + c] ≠ 46) : parseO (bs s) = none := by
  subst ec; exact h.stop hb h5 hl hd
theorem Scan.next2 {s : List UInt8} {P : List Int} {a c : Nat} (h : Scan s P a) (ec : c = cnt (s.drop a)) (hb : ¬ BadP (s.drop a) P) (h5 : P.length ≤ 5) (hl : a + c < s.length) (hd : s[a + c] = 46) : Scan s (P ++ [valF (s.drop a)]) (a + c + 1) := by
  subst ec; exact h.next hb h5 hl hd
end Go.Proofs.YtenjefbplpbjaaaGreatDoor.Cal
