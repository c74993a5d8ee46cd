/- Plain facts on working days: how many days on, forward and back. No program in sight. -/
import Derived.WalkKit
namespace Go.Proofs.YtpknkomkldgnfaaDoor.Cal
def inCal (n : Int) : Bool := decide (0 ≤ n ∧ n ≤ 182620)
theorem inCal_iff (n : Int) : inCal n = true ↔ (0 ≤ n ∧ n ≤ 182620) := by simp [inCal]
/-- r working days on from d, step by step. -/
def goTo (p : Int → Bool) (s : Int) : Nat → Int → Nat → Option Int
  | _, d, 0 => some d
  | 0, _, _ + 1 => none
  | f + 1, d, r + 1 => if inCal (d + s) = true then (if p (d + s) = true then goTo p s f (d + s) r else goTo p s f (d + s) (r + 1)) else none
theorem go_zero (p : Int → Bool) (s : Int) (f : Nat) (d : Int) : goTo p s f d 0 = some d := by cases f <;> rfl
theorem go_out (p : Int → Bool) (s : Int) (f : Nat) (d : Int) (r : Nat) (h : inCal (d + s) = false) : goTo p s (f + 1) d (r + 1) = none := by
  show (if _ then _ else _) = _
  rw [if_neg (by simp [h])]
theorem go_work (p : Int → Bool) (s : Int) (f : Nat) (d : Int) (r : Nat) (h : inCal (d + s) = true) (hp : p (d + s) = true) : goTo p s (f + 1) d (r + 1) = goTo p s f (d + s) r := by
  show (if _ then _ else _) = _
  rw [if_pos h, if_pos hp]
theorem go_rest (p : Int → Bool) (s : Int) (f : Nat) (d : Int) (r : Nat) (h : inCal (d + s) = true) (hp : p (d + s) = false) : goTo p s (f + 1) d (r + 1) = goTo p s f (d + s) (r + 1) := by
  show (if _ then _ else _) = _
  rw [if_pos h, if_neg (by simp [hp])]
/-- How many of the n days behind a are working days. -/
def cntF (p : Int → Bool) (a : Int) : Nat → Nat
  | 0 => 0
  | n + 1 => cntF p a n + (if p (a + (n : Int) + 1) = true then 1 else 0)
theorem cntF_front (p : Int → Bool) (a : Int) (n : Nat) : cntF p a (n + 1) = (if p (a + 1) = true then 1 else 0) + cntF p (a + 1) n := by
  induction n with
  | zero => simp [cntF]
  | succ n ih =>
    have e : a + ((n + 1 : Nat) : Int) + 1 = a + 1 + (n : Int) + 1 := by omega
    show cntF p a (n + 1) + (if p (a + ((n + 1 : Nat) : Int) + 1) = true then 1 else 0) = _ + (cntF p (a + 1) n + (if p (a + 1 + (n : Int) + 1) = true then 1 else 0))
    rw [ih, e]; omega
/-- Forward: what is reached. -/
theorem go_fwd (p : Int → Bool) (f : Nat) : ∀ (d : Int) (r : Nat) (x : Int), goTo p 1 f d (r + 1) = some x → ∃ n : Nat, x = d + (n : Int) + 1 ∧ cntF p d n = r ∧ p x = true ∧ inCal x = true ∧ (∀ i : Nat, i ≤ n → inCal (d + (i : Int) + 1) = true) := by
  induction f with
  | zero => intro d r x h; cases h
  | succ f ih =>
    intro d r x h
    by_cases hc : inCal (d + 1) = true
    · by_cases hp : p (d + 1) = true
      · rw [go_work p 1 f d r hc hp] at h
        cases r with
        | zero =>
          rw [go_zero] at h
          cases h
          refine ⟨0, by simp, rfl, hp, hc, fun i hi => ?_⟩
          have hi0 : i = 0 := by omega
          subst hi0
          simpa using hc
        | succ r =>
          obtain ⟨n, h1, h2, h3, h4, h5⟩ := ih _ _ _ h
          refine ⟨n + 1, by omega, ?_, h3, h4, ?_⟩
          · rw [cntF_front, if_pos hp, h2]; omega
          · intro i hi
            cases i with
            | zero => simpa using hc
            | succ i =>
              have := h5 i (by omega)
              rw [show d + ((i + 1 : Nat) : Int) + 1 = d + 1 + (i : Int) + 1 from by omega]; exact this
      · have hp' : p (d + 1) = false := by simpa using hp
        rw [go_rest p 1 f d r hc hp'] at h
        obtain ⟨n, h1, h2, h3, h4, h5⟩ := ih _ _ _ h
        refine ⟨n + 1, by omega, ?_, h3, h4, ?_⟩
        · rw [cntF_front, if_neg hp, h2]; omega
        · intro i hi
          cases i with
          | zero => simpa using hc
          | succ i =>
            have := h5 i (by omega)
            rw [show d + ((i + 1 : Nat) : Int) + 1 = d + 1 + (i : Int) + 1 from by omega]; exact this
    · have hc' : inCal (d + 1) = false := by simpa using hc
      rw [go_out p 1 f d r hc'] at h
      cases h
/-- Backward: from d + n + 1 down to d, if d works and n days between hold r - 1 .. working days. -/
theorem go_bwd (p : Int → Bool) (n : Nat) : ∀ (f : Nat) (d : Int) (r : Nat), n < f → p d = true → cntF p d n = r → (∀ i : Nat, i ≤ n → inCal (d + (i : Int)) = true) → goTo p (-1) f (d + (n : Int) + 1) (r + 1) = some d := by
  induction n with
  | zero =>
    intro f d r hf hd hr hc
    obtain ⟨f', rfl⟩ : ∃ f', f = f' + 1 := ⟨f - 1, by omega⟩
    have h0 := hc 0 (by omega)
    have e : d + ((0 : Nat) : Int) + 1 + -1 = d := by omega
    have r0 : r = 0 := by rw [← hr]; rfl
    subst r0
    rw [go_work p (-1) f' _ 0 (by rw [e]; simpa using h0) (by rw [e]; exact hd), e, go_zero]
  | succ n ih =>
    intro f d r hf hd hr hc
    obtain ⟨f', rfl⟩ : ∃ f', f = f' + 1 := ⟨f - 1, by omega⟩
    have hn := hc (n + 1) (by omega)
    have e : d + ((n + 1 : Nat) : Int) + 1 + -1 = d + (n : Int) + 1 := by omega
    have e2 : d + ((n + 1 : Nat) : Int) = d + (n : Int) + 1 := by omega
    rw [e2] at hn
    have hr' : cntF p d n + (if p (d + (n : Int) + 1) = true then 1 else 0) = r := hr
    by_cases hp : p (d + (n : Int) + 1) = true
    · rw [if_pos hp] at hr'
      obtain ⟨r', rfl⟩ : ∃ r', r = r' + 1 := ⟨r - 1, by omega⟩
      rw [go_work p (-1) f' _ _ (by rw [e]; exact hn) (by rw [e]; exact hp), e]
      exact ih f' d r' (by omega) hd (by omega) (fun i hi => hc i (by omega))
    · rw [if_neg hp] at hr'
      have hp' : p (d + (n : Int) + 1) = false := by simpa using hp
      rw [go_rest p (-1) f' _ _ (by rw [e]; exact hn) (by rw [e]; exact hp'), e]
      exact ih f' d r (by omega) hd (by omega) (fun i hi => hc i (by omega))
/-- How many weekend days come next. -/
def wkn (d : Int) : Nat := if d % 7 = 4 then 2 else if d % 7 = 5 then 1 else 0
theorem wkn_le (d : Int) : wkn d ≤ 2 := by
  unfold wkn
  split
  · omega
  · split <;> omega
def aft (zs : List Int) (d : Int) : Nat := (zs.filter (fun z => decide (d < z))).length
theorem aft_mono (zs : List Int) (d : Int) : aft zs (d + 1) ≤ aft zs d := by
  induction zs with
  | nil => exact Nat.le_refl _
  | cons z zs ih =>
    unfold aft at *
    simp only [List.filter_cons]
    by_cases a : d + 1 < z
    · simp [a, show d < z from by omega]; omega
    · by_cases b : d < z
      · simp [a, b]; omega
      · simp [a, b]; omega
theorem aft_drop (zs : List Int) (d : Int) (h : zs.contains (d + 1) = true) : aft zs (d + 1) + 1 ≤ aft zs d := by
  induction zs with
  | nil => simp at h
  | cons z zs ih =>
    have hm := aft_mono zs d
    unfold aft at *
    simp only [List.filter_cons]
    by_cases e : z = d + 1
    · subst e
      simp [show d < d + 1 from by omega]; omega
    · have h' : zs.contains (d + 1) = true := by
        have h2 : (z :: zs).contains (d + 1) = true := h
        simp only [List.contains_cons, Bool.or_eq_true, beq_iff_eq] at h2
        rcases h2 with a | a
        · exact absurd a.symm e
        · exact a
      have := ih h'
      by_cases a : d + 1 < z
      · simp [a, show d < z from by omega]; omega
      · by_cases b : d < z
        · simp [a, b]; omega
        · simp [a, b]; omega
/-- There is a working day soon: a list of holidays shuts out as many days as it is long. -/
theorem go_ok (zs : List Int) (p : Int → Bool) (hp : ∀ n, p n = (decide (n % 7 < 5) && !zs.contains n)) : ∀ (f : Nat) (d : Int) (r H : Nat), aft zs d ≤ H → 3 * (r + H) + wkn d ≤ f → -1 ≤ d → d + (3 * (r + H) + wkn d : Nat) ≤ 182620 →
    ∃ x, goTo p 1 f d r = some x ∧ d ≤ x ∧ x ≤ d + (3 * (r + H) + wkn d : Nat) := by
  intro f
  induction f with
  | zero =>
    intro d r H hH hf h0 h1
    have : r = 0 := by omega
    subst this
    exact ⟨d, go_zero _ _ _ _, by omega, by omega⟩
  | succ f ih =>
    intro d r H hH hf h0 h1
    cases r with
    | zero => exact ⟨d, go_zero _ _ _ _, by omega, by omega⟩
    | succ r =>
      have hc : inCal (d + 1) = true := (inCal_iff _).2 ⟨by omega, by omega⟩
      have hmono := aft_mono zs d
      have hwk := wkn_le (d + 1)
      by_cases hw : (d + 1) % 7 < 5
      · by_cases hh : zs.contains (d + 1) = true
        · have hpf : p (d + 1) = false := by rw [hp, hh]; simp
          have hlt := aft_drop zs d hh
          obtain ⟨x, e1, e2, e3⟩ := ih (d + 1) (r + 1) (H - 1) (by omega) (by omega) (by omega) (by omega)
          exact ⟨x, by rw [go_rest p 1 f d r hc hpf]; exact e1, by omega, by omega⟩
        · have hh' : zs.contains (d + 1) = false := by simpa using hh
          have hpt : p (d + 1) = true := by rw [hp, hh']; simp [hw]
          obtain ⟨x, e1, e2, e3⟩ := ih (d + 1) r H (by omega) (by omega) (by omega) (by omega)
          exact ⟨x, by rw [go_work p 1 f d r hc hpt]; exact e1, by omega, by omega⟩
      · have hpf : p (d + 1) = false := by rw [hp]; simp [hw]
        have hwk : wkn (d + 1) + 1 = wkn d := by
          unfold wkn
          by_cases a : d % 7 = 4
          · rw [if_pos a, if_neg (by omega), if_pos (by omega)]
          · have b : d % 7 = 5 := by omega
            rw [if_neg (by omega), if_neg (by omega), if_neg a, if_pos b]
        obtain ⟨x, e1, e2, e3⟩ := ih (d + 1) (r + 1) H (by omega) (by omega) (by omega) (by omega)
        exact ⟨x, by rw [go_rest p 1 f d r hc hpf]; exact e1, by omega, by omega⟩
theorem aft_le (zs : List Int) (d : Int) : aft zs d ≤ zs.length := List.length_filter_le _ _
theorem go_work' (p : Int → Bool) (s : Int) (f : Nat) (d : Int) (r : Nat) (hf : 0 < f) (hr : 0 < r) (h : inCal (d + s) = true) (hp : p (d + s) = true) : goTo p s f d r = goTo p s (f - 1) (d + s) (r - 1) := by
  obtain ⟨f', rfl⟩ : ∃ f', f = f' + 1 := ⟨f - 1, by omega⟩
  obtain ⟨r', rfl⟩ : ∃ r', r = r' + 1 := ⟨r - 1, by omega⟩
  exact go_work p s f' d r' h hp
theorem go_rest' (p : Int → Bool) (s : Int) (f : Nat) (d : Int) (r : Nat) (hf : 0 < f) (hr : 0 < r) (h : inCal (d + s) = true) (hp : p (d + s) = false) : goTo p s f d r = goTo p s (f - 1) (d + s) r := by
  obtain ⟨f', rfl⟩ : ∃ f', f = f' + 1 := ⟨f - 1, by omega⟩
  obtain ⟨r', rfl⟩ : ∃ r', r = r' + 1 := ⟨r - 1, by omega⟩
  exact go_rest p s f' d r' h hp
theorem go_out' (p : Int → Bool) (s : Int) (f : Nat) (d : Int) (r : Nat) (hf : 0 < f) (hr : 0 < r) (h : inCal (d + s) = false) : goTo p s f d r = none := by
  obtain ⟨f', rfl⟩ : ∃ f', f = f' + 1 := ⟨f - 1, by omega⟩
  obtain ⟨r', rfl⟩ : ∃ r', r = r' + 1 := ⟨r - 1, by omega⟩
  exact go_out p s f' d r' h
/-- A day and an error. -/
def outS : Option Int → Int × Int
  | some x => (x, 0)
  | none => (0, 53)
end Go.Proofs.YtpknkomkldgnfaaDoor.Cal
