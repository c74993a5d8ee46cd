/- Plain facts on the texts of dates: what the library's split and Atoi make of them. No program in sight. -/
import Derived.Test.YtenjefbplpbjaaaGreatDoorTx
namespace Go.Proofs.YtenjefbplpbjaaaGreatDoor.Cal
/-- What Atoi gives beside its error. -/
def atoiV (l : List UInt8) : Int :=
  match Lib.atoiAll l with
  | .ok v => v
  | .range => Lib.atoiSat l
  | _ => 0
theorem atoiV_bd (l : List UInt8) : -9223372036854775808 ≤ atoiV l ∧ atoiV l ≤ 9223372036854775807 := by
  unfold atoiV
  split
  · rename_i v h; exact Lib.atoiAll_bounds h
  · exact Lib.atoiSat_bounds l
  · omega
theorem dig_bd (n : Nat) (h : n < 10) : 48 ≤ (UInt8.ofNat (48 + n)).toNat ∧ (UInt8.ofNat (48 + n)).toNat ≤ 57 := by
  rw [ofNat_toNat n h]; omega
theorem parse_dig (acc : Nat) (n : Nat) (h : n < 10) (r : List UInt8) (ha : acc < 100000) : Lib.parseUint10 acc (UInt8.ofNat (48 + n) :: r) = Lib.parseUint10 (acc * 10 + n) r := by
  have e := ofNat_toNat n h
  show (if _ then _ else _) = _
  rw [e, if_pos (by omega), if_neg (by omega), if_neg (by omega)]
  congr 1
  omega
theorem atoi_dig (n : Nat) (h : n < 10) (r : List UInt8) : Lib.atoiAll (UInt8.ofNat (48 + n) :: r) = Lib.signless (Lib.parseUint10 n r) := by
  have e := ofNat_toNat n h
  rw [Lib.atoiAll_plain _ _ (by omega) (by omega)]
  unfold Lib.parseMag
  rw [if_neg (by simp), parse_dig 0 n h r (by omega)]
  congr 2
  omega
theorem atoi_two (n : Nat) (h : n < 100) : atoiV (dig2 n) = n := by
  have e : Lib.atoiAll (dig2 n) = .ok (n : Int) := by
    show Lib.atoiAll (UInt8.ofNat (48 + n / 10) :: UInt8.ofNat (48 + n % 10) :: []) = _
    rw [atoi_dig _ (by omega), parse_dig _ _ (by omega) _ (by omega)]
    show Lib.signless (.ok (n / 10 * 10 + n % 10)) = _
    have e2 : n / 10 * 10 + n % 10 = n := by omega
    rw [e2]
    show (if _ then _ else _) = _
    rw [if_neg (by omega)]
  unfold atoiV; rw [e]
theorem atoi_four (n : Nat) (h : n < 10000) : atoiV (dig2 (n / 100) ++ dig2 (n % 100)) = n := by
  have e : Lib.atoiAll (dig2 (n / 100) ++ dig2 (n % 100)) = .ok (n : Int) := by
    show Lib.atoiAll (UInt8.ofNat (48 + n / 100 / 10) :: UInt8.ofNat (48 + n / 100 % 10) :: UInt8.ofNat (48 + n % 100 / 10) :: UInt8.ofNat (48 + n % 100 % 10) :: []) = _
    rw [atoi_dig _ (by omega), parse_dig _ _ (by omega) _ (by omega), parse_dig _ _ (by omega) _ (by omega), parse_dig _ _ (by omega) _ (by omega)]
    show Lib.signless (.ok (((n / 100 / 10 * 10 + n / 100 % 10) * 10 + n % 100 / 10) * 10 + n % 100 % 10)) = _
    have e2 : ((n / 100 / 10 * 10 + n / 100 % 10) * 10 + n % 100 / 10) * 10 + n % 100 % 10 = n := by omega
    rw [e2]
    show (if _ then _ else _) = _
    rw [if_neg (by omega)]
  unfold atoiV; rw [e]
/-- A list of bytes as a string. -/
def bs (l : List UInt8) : ByteArray := ⟨l.toArray⟩
/-- The pieces that SplitN gives of a text, at most three. -/
def piecesB (s : ByteArray) : List ByteArray := Lib.splitB ⟨#[45]⟩ 0 (min 3 (s.size + 1) - 1) s
theorem bs_data (l : List UInt8) : (bs l).data.toList = l := by simp [bs]
theorem bs_size (l : List UInt8) : (bs l).size = l.length := by rw [Lib.size_eq, bs_data]
theorem bs_ext {s t : ByteArray} (h : s.data.toList = t.data.toList) : s = t := by
  rw [← Lib.mk_data s, ← Lib.mk_data t, h]
theorem bs_of (s : ByteArray) : s = bs s.data.toList := (Lib.mk_data s).symm
theorem bs_extract (l : List UInt8) (i j : Nat) : (bs l).extract i j = bs ((l.drop i).take (j - i)) := bs_ext (by rw [Lib.extract_data, bs_data, bs_data])
theorem bs_append (a b : List UInt8) : bs a ++ bs b = bs (a ++ b) := bs_ext (by
  have e : (bs a ++ bs b).data = (bs a).data ++ (bs b).data := by simp
  rw [e, Array.toList_append, bs_data, bs_data, bs_data])
theorem indexB_eq (l : List UInt8) : Lib.indexB (bs l) ⟨#[45]⟩ = Lib.indexByte l 45 := by
  show Lib.index (bs l).data.toList [45] = _
  rw [bs_data, Lib.index_one]
theorem index_skip (a r : List UInt8) (h : ∀ c ∈ a, c ≠ 45) : Lib.indexByte (a ++ 45 :: r) 45 = a.length := by
  induction a with
  | nil => rfl
  | cons c a ih =>
    have hc := h c (by simp)
    have ih' := ih (fun x hx => h x (by simp [hx]))
    show (if (c == 45) = true then (0 : Int) else if (Lib.indexByte (a ++ 45 :: r) 45 == -1) = true then -1 else Lib.indexByte (a ++ 45 :: r) 45 + 1) = _
    rw [if_neg (by simpa using hc), ih', if_neg (by rw [beq_iff_eq]; omega)]
    simp
/-- A piece, the separator, the rest. -/
theorem split_hit (a r : List UInt8) (k : Nat) (h : ∀ c ∈ a, c ≠ 45) : Lib.splitB ⟨#[45]⟩ 0 (k + 1) (bs (a ++ 45 :: r)) = bs a :: Lib.splitB ⟨#[45]⟩ 0 k (bs r) := by
  have hi : Lib.indexB (bs (a ++ 45 :: r)) ⟨#[45]⟩ = (a.length : Nat) := by rw [indexB_eq, index_skip a r h]
  rw [Lib.splitB_hit _ _ _ _ _ hi, bs_extract, bs_extract, bs_size]
  have e1 : ((a ++ 45 :: r).drop 0).take (a.length + 0 - 0) = a := by simp
  have e2 : ((a ++ 45 :: r).drop (a.length + (⟨#[45]⟩ : ByteArray).size)).take ((a ++ 45 :: r).length - (a.length + (⟨#[45]⟩ : ByteArray).size)) = r := by
    have e3 : (⟨#[45]⟩ : ByteArray).size = 1 := rfl
    have e4 : (a ++ 45 :: r).drop (a.length + 1) = r := by
      rw [List.drop_append]; simp
    rw [e3, e4]
    apply List.take_of_length_le
    simp
    omega
  rw [e1, e2]
theorem dig2_no (n : Nat) (h : n < 100) : ∀ c ∈ dig2 n, c ≠ 45 := by
  intro c hc e
  have a := dig_bd (n / 10) (by omega)
  have b := dig_bd (n % 10) (by omega)
  have hc' : c = UInt8.ofNat (48 + n / 10) ∨ c = UInt8.ofNat (48 + n % 10) := by
    rcases List.mem_cons.1 hc with k | k
    · exact Or.inl k
    · exact Or.inr (List.mem_singleton.1 k)
  rcases hc' with k | k
  · rw [← k, e] at a; revert a; decide
  · rw [← k, e] at b; revert b; decide
theorem pieces_text (y m d : Nat) (hy : y < 10000) (hm : m < 100) : piecesB (bs (dateL y m d)) = [bs (dig2 (y / 100) ++ dig2 (y % 100)), bs (dig2 m), bs (dig2 d)] := by
  unfold piecesB
  rw [bs_size]
  have e : min 3 ((dateL y m d).length + 1) - 1 = 1 + 1 := rfl
  have e2 : dateL y m d = (dig2 (y / 100) ++ dig2 (y % 100)) ++ 45 :: (dig2 m ++ 45 :: dig2 d) := rfl
  rw [e, e2, split_hit _ _ _ (by
    intro c hc
    rcases List.mem_append.1 hc with hc | hc
    · exact dig2_no _ (by omega) c hc
    · exact dig2_no _ (by omega) c hc), split_hit _ _ _ (dig2_no m hm), Lib.splitB_zero]
/-- The number of the j-th piece, 0 where there is none. -/
def partV (s : ByteArray) (j : Nat) : Int := match (piecesB s)[j]? with
  | some p => atoiV p.data.toList
  | none => 0
theorem partV_bd (s : ByteArray) (j : Nat) : -9223372036854775808 ≤ partV s j ∧ partV s j ≤ 9223372036854775807 := by
  unfold partV
  split
  · exact atoiV_bd _
  · omega
/-- The text of a date. -/
def textB (y m d : Int) : ByteArray := if vd y m d = true then bs (dateL y.toNat m.toNat d.toNat) else ⟨#[]⟩
/-- What the program reads. -/
def progP (s : ByteArray) : Option (Int × Int × Int) :=
  if s.data.toList ≠ [] ∧ textB (partV s 0) (partV s 1) (partV s 2) = s then some (partV s 0, partV s 1, partV s 2) else none
theorem prog_ref (s : ByteArray) : progP s = refP s.data.toList := by
  cases hr : refP s.data.toList with
  | some x =>
    obtain ⟨y, m, d⟩ := x
    obtain ⟨a, b, c, rfl, rfl, rfl, hv, hl⟩ := refP_sound _ _ _ _ hr
    obtain ⟨va, vb, vc, ve, vf, vg⟩ := (vd_iff _ _ _).1 hv
    have lb := len_bd a b
    have hs : s = bs (dateL a b c) := by rw [bs_of s, hl]
    have hp := pieces_text a b c (by omega) (by omega)
    have p0 : partV s 0 = a := by unfold partV; rw [hs, hp]; show atoiV (bs _).data.toList = _; rw [bs_data, atoi_four a (by omega)]
    have p1 : partV s 1 = b := by unfold partV; rw [hs, hp]; show atoiV (bs _).data.toList = _; rw [bs_data, atoi_two b (by omega)]
    have p2 : partV s 2 = c := by unfold partV; rw [hs, hp]; show atoiV (bs _).data.toList = _; rw [bs_data, atoi_two c (by omega)]
    unfold progP
    rw [p0, p1, p2, if_pos]
    refine ⟨by rw [hl]; simp [dateL, dig2], ?_⟩
    unfold textB
    rw [if_pos hv, hs]; rfl
  | none =>
    unfold progP
    by_cases hc : s.data.toList ≠ [] ∧ textB (partV s 0) (partV s 1) (partV s 2) = s
    · exfalso
      obtain ⟨h1, h2⟩ := hc
      unfold textB at h2
      by_cases hv : vd (partV s 0) (partV s 1) (partV s 2) = true
      · rw [if_pos hv] at h2
        obtain ⟨va, vb, vc, ve, vf, vg⟩ := (vd_iff _ _ _).1 hv
        have t := refP_text (partV s 0).toNat (partV s 1).toNat (partV s 2).toNat (by
          rw [Int.toNat_of_nonneg (by omega), Int.toNat_of_nonneg (by omega), Int.toNat_of_nonneg (by omega)]; exact hv)
        have e : s.data.toList = dateL (partV s 0).toNat (partV s 1).toNat (partV s 2).toNat := by rw [← bs_data (dateL _ _ _), h2]
        rw [e, t] at hr
        cases hr
      · rw [if_neg hv] at h2
        rw [← h2] at h1
        exact h1 rfl
    · rw [if_neg hc]
end Go.Proofs.YtenjefbplpbjaaaGreatDoor.Cal
