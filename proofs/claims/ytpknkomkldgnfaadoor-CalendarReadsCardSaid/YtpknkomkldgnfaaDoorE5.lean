/- Contracts of the reference's ParseDate whole, of both ParsePeriods, and of the reference's texts. -/
import Derived.Test.YtpknkomkldgnfaaDoorE4
namespace Go.Proofs.YtpknkomkldgnfaaDoor
open Go.RowKit Go.Sort Cal
theorem rparse_form (s : ByteArray) (w : World) (h : ¬ (s.data.toList.length = 10 ∧ s.data.toList.getD 4 0 = 45 ∧ s.data.toList.getD 7 0 = 45)) :
    Calls Tryd.prog 45 #[.string s] w fun e w' => e = .returned (parseV none) ∧ Below w.heap.size w w' := by
  rw [← Lib.size_eq] at h
  by_cases h10 : s.size = 10
  · have hl : s.data.toList.length = 10 := by rw [← Lib.size_eq]; exact h10
    have g4 : s.data.toList.getD 4 0 = (s[4]'(by omega)) := by rw [List.getD, List.getElem?_eq_getElem (by omega)]; rfl
    have g7 : s.data.toList.getD 7 0 = (s[7]'(by omega)) := by rw [List.getD, List.getElem?_eq_getElem (by omega)]; rfl
    rw [g4, g7] at h
    clear g4 g7 hl
    by_cases k4 : (s[4]'(by omega)) = 45
    · have k7 : (s[7]'(by omega)) ≠ 45 := fun k => h ⟨h10, k4, k⟩
      have n4 : ((s[4]'(by omega)).toNat : Int) = 45 := by rw [k4]; rfl
      have n7 : ¬ ((s[7]'(by omega)).toNat : Int) = 45 := fun k => k7 (UInt8.toNat.inj (by show (s[7]'(by omega)).toNat = 45; omega))
      clear k4 k7 h
      go_enter Tryd.func45, Tryd.ntmps45
      go_wp2
      go_returns
      exact ⟨rfl, by go_grown⟩
    · have n4 : ¬ ((s[4]'(by omega)).toNat : Int) = 45 := fun k => k4 (UInt8.toNat.inj (by show (s[4]'(by omega)).toNat = 45; omega))
      clear k4 h
      go_enter Tryd.func45, Tryd.ntmps45
      go_wp2
      go_returns
      exact ⟨rfl, by go_grown⟩
  · clear h
    have h10' : ¬ ((s.size : Nat) : Int) = 10 := by omega
    go_enter Tryd.func45, Tryd.ntmps45
    go_wp2
    go_returns
    exact ⟨rfl, by go_grown⟩
theorem rparse_any (s : ByteArray) (w : World) :
    Calls Tryd.prog 45 #[.string s] w fun e w' => e = .returned (parseV (refP s.data.toList)) ∧ Below w.heap.size w w' := by
  unfold refP
  by_cases h : s.data.toList.length = 10 ∧ s.data.toList.getD 4 0 = 45 ∧ s.data.toList.getD 7 0 = 45
  · rw [if_pos h]
    have h10 : s.size = 10 := by rw [Lib.size_eq]; exact h.1
    have g4 : s.data.toList.getD 4 0 = (s[4]'(by omega)) := by rw [List.getD, List.getElem?_eq_getElem (by omega)]; rfl
    have g7 : s.data.toList.getD 7 0 = (s[7]'(by omega)) := by rw [List.getD, List.getElem?_eq_getElem (by omega)]; rfl
    have n4 : ((s[4]'(by omega)).toNat : Int) = 45 := by rw [← g4, h.2.1]; rfl
    have n7 : ((s[7]'(by omega)).toNat : Int) = 45 := by rw [← g7, h.2.2]; rfl
    by_cases hv : vd (numF 0 (s.data.toList.take 4)) (numF 0 ((s.data.toList.drop 5).take 2)) (numF 0 ((s.data.toList.drop 8).take 2)) = true
    · rw [if_pos hv]
      exact rparse_good s w _ _ _ h10 n4 n7 (Lib.hid rfl) (Lib.hid rfl) (Lib.hid rfl) hv
    · rw [if_neg hv]
      exact rparse_bad s w _ _ _ h10 n4 n7 (Lib.hid rfl) (Lib.hid rfl) (Lib.hid rfl) (by simpa using hv)
  · rw [if_neg h]
    exact rparse_form s w h
theorem pparse_ref (s : ByteArray) (w : World) (hs : s.size ≤ 1000) (hE : Env w) :
    Calls Tryd.prog 44 #[.string s] w fun e w' => e = .returned (parseV (refP s.data.toList)) ∧ Below w.heap.size w w' := by
  rw [← prog_ref]; exact pparse_any s w hs hE
/-- What ParsePeriod gives. -/
def perV : Option (Int × Int × Int) → Value
  | some (y, m, _) => .tuple #[.int .i64 (12 * (y - 1900) + m - 1), .int .i64 0]
  | none => .tuple #[.int .i64 0, .int .i64 54]
def firstB (s : ByteArray) : ByteArray := s ++ ⟨#[45, 48, 49]⟩
theorem firstB_size (s : ByteArray) : (firstB s).size = s.size + 3 := by unfold firstB; rw [ByteArray.size_append]; rfl
theorem refP_vd (l : List UInt8) (y m d : Int) (h : refP l = some (y, m, d)) : 1900 ≤ y ∧ y ≤ 2399 ∧ 1 ≤ m ∧ m ≤ 12 := by
  obtain ⟨_, _, _, _, _, _, hv, _⟩ := refP_sound l y m d h
  obtain ⟨a, b, c, e, _, _⟩ := (vd_iff _ _ _).1 hv
  exact ⟨a, b, c, e⟩
set_option maxRecDepth 100000 in
theorem parsePer_any (s : ByteArray) (w : World) (hs : s.size ≤ 900) (hE : Env w) :
    Calls Tryd.prog 43 #[.string s] w fun e w' => e = .returned (perV (refP (firstB s).data.toList)) ∧ Below w.heap.size w w' := by
  have hfs := firstB_size s
  have HE := Lib.hid hE
  clear hE
  have kc := pparse_ref (firstB s) w (by omega) HE.out
  unfold firstB at kc ⊢
  generalize hr : refP (s ++ (⟨#[45, 48, 49]⟩ : ByteArray)).data.toList = r at kc ⊢
  match r, hr, kc with
  | none, _, kc =>
    go_enter Tryd.func43, Tryd.ntmps43
    go_wp2_with fail
    refine kc.mono ?_
    rintro e w1 ⟨rfl, hb1⟩
    unfold parseV
    go_wp2
    go_returns
    exact ⟨rfl, hb1.alloc hb1.size _⟩
  | some (y, m, d), hr, kc =>
    obtain ⟨b1, b2, b3, b4⟩ := refP_vd _ _ _ _ hr
    clear hr
    go_enter Tryd.func43, Tryd.ntmps43
    go_wp2_with fail
    refine kc.mono ?_
    rintro e w1 ⟨rfl, hb1⟩
    unfold parseV
    go_wp2
    go_returns
    exact ⟨rfl, hb1.alloc hb1.size _⟩
theorem refP_seven (s : ByteArray) (h : s.size ≠ 7) : refP (firstB s).data.toList = none := by
  unfold refP
  rw [if_neg]
  intro ⟨h1, _⟩
  rw [← Lib.size_eq, firstB_size] at h1
  omega
set_option maxRecDepth 100000 in
theorem rparsePer_any (s : ByteArray) (w : World) :
    Calls Tryd.prog 46 #[.string s] w fun e w' => e = .returned (perV (refP (firstB s).data.toList)) ∧ Below w.heap.size w w' := by
  by_cases h7 : s.size = 7
  · have kc := rparse_any (firstB s) w
    unfold firstB at kc ⊢
    generalize hr : refP (s ++ (⟨#[45, 48, 49]⟩ : ByteArray)).data.toList = r at kc ⊢
    match r, hr, kc with
    | none, _, kc =>
      go_enter Tryd.func46, Tryd.ntmps46
      go_wp2_with fail
      refine kc.mono ?_
      rintro e w1 ⟨rfl, hb1⟩
      unfold parseV
      go_wp2
      go_returns
      exact ⟨rfl, hb1.alloc hb1.size _⟩
    | some (y, m, d), hr, kc =>
      obtain ⟨b1, b2, b3, b4⟩ := refP_vd _ _ _ _ hr
      clear hr
      go_enter Tryd.func46, Tryd.ntmps46
      go_wp2_with fail
      refine kc.mono ?_
      rintro e w1 ⟨rfl, hb1⟩
      unfold parseV
      go_wp2
      go_returns
      exact ⟨rfl, hb1.alloc hb1.size _⟩
  · rw [refP_seven s h7]
    have h7' : ¬ ((s.size : Nat) : Int) = 7 := by omega
    clear h7
    go_enter Tryd.func46, Tryd.ntmps46
    go_wp2
    go_returns
    exact ⟨rfl, Below.refl _ _⟩
end Go.Proofs.YtpknkomkldgnfaaDoor
