/- Plain facts on two shifts of the calendar: there and back, and what lies between. -/
import Derived.Test.YtpknkomkldgnfaaDoorS1
namespace Go.Proofs.YtpknkomkldgnfaaDoor
open Go.RowKit Cal
theorem works_is (zs : List Int) : ∀ n, worksB zs n = (decide (n % 7 < 5) && !zs.contains n) := fun _ => rfl
theorem near_aft (zs : List Int) (d : Int) (h : zs.length ≤ 13) : aft zs d ≤ 13 := Nat.le_trans (aft_le zs d) h
/-- A business day on or behind n. -/
theorem shift_here (zs : List Int) (n : Int) (h : zs.length ≤ 13) (h0 : 1000 ≤ n) (h1 : n ≤ 181620) :
    ∃ x, shiftR zs n 0 = (x, 0) ∧ n ≤ x ∧ x ≤ n + 50 ∧ worksB zs x = true := by
  obtain ⟨x, e1, e2, e3⟩ := go_ok zs (worksB zs) (works_is zs) 200000 (n - 1) 1 13 (near_aft zs _ h) (by have := wkn_le (n - 1); omega) (by omega) (by have := wkn_le (n - 1); omega)
  obtain ⟨m, f1, _, f3, _, _⟩ := go_fwd (worksB zs) 200000 (n - 1) 0 x e1
  have hw := wkn_le (n - 1)
  refine ⟨x, ?_, by omega, by omega, f3⟩
  unfold shiftR shiftT
  rw [if_neg (by simp [isDay]; omega), if_neg (by omega), if_neg (by omega), if_neg (by omega), if_pos rfl, e1]
  rfl
/-- j business days on. -/
theorem shift_on (zs : List Int) (d j : Int) (h : zs.length ≤ 13) (h0 : 0 ≤ d) (h1 : d ≤ 182250) (j0 : 1 ≤ j) (j1 : j ≤ 30) :
    ∃ m : Nat, shiftR zs d j = (d + (m : Int) + 1, 0) ∧ (m : Int) ≤ 140 ∧ (cntF (worksB zs) d m : Int) = j - 1 ∧ worksB zs (d + (m : Int) + 1) = true ∧ (∀ i : Nat, i ≤ m → isDay (d + (i : Int) + 1) = true) := by
  have hw := wkn_le d
  obtain ⟨r, hr⟩ : ∃ r : Nat, j = (r : Int) + 1 := ⟨(j - 1).toNat, by omega⟩
  obtain ⟨x, e1, e2, e3⟩ := go_ok zs (worksB zs) (works_is zs) 200000 d (r + 1) 13 (near_aft zs _ h) (by omega) (by omega) (by omega)
  obtain ⟨m, f1, f2, f3, _, f5⟩ := go_fwd (worksB zs) 200000 d r x e1
  refine ⟨m, ?_, by omega, by omega, by rw [← f1]; exact f3, f5⟩
  unfold shiftR shiftT
  rw [if_neg (by simp [isDay]; omega), if_neg (by omega), if_neg (by omega), if_neg (by omega), if_neg (by omega), show j.toNat = r + 1 from by omega, e1, f1]
  rfl
/-- j business days back. -/
theorem shift_back (zs : List Int) (d j : Int) (m : Nat) (h : zs.length ≤ 13) (h0 : 0 ≤ d) (h1 : d ≤ 182250) (j0 : 1 ≤ j) (j1 : j ≤ 30) (hm : (m : Int) ≤ 140) (hc : (cntF (worksB zs) d m : Int) = j - 1) (hd : worksB zs d = true) :
    shiftR zs (d + (m : Int) + 1) (-j) = (d, 0) := by
  obtain ⟨r, hr⟩ : ∃ r : Nat, j = (r : Int) + 1 := ⟨(j - 1).toNat, by omega⟩
  have hb := go_bwd (worksB zs) m 200000 d r (by omega) hd (by omega) (fun i hi => (inCal_iff _).2 ⟨by omega, by omega⟩)
  unfold shiftR shiftT
  rw [if_neg (by simp [isDay]; omega), if_neg (by omega), if_neg (by omega), if_pos (by omega), show (- -j).toNat = r + 1 from by omega, hb]
  rfl
theorem IntsAt.shape {w : World} {sv : Value} {zs : List Int} (h : IntsAt w sv zs) : ∃ q n c, sv = .slice q n c ∧ n = zs.length := by
  rcases h with ⟨rfl, p, c, rfl⟩ | ⟨_, b, off, cap, rfl, _⟩
  · exact ⟨p, 0, c, rfl, rfl⟩
  · exact ⟨_, _, cap, rfl, rfl⟩
end Go.Proofs.YtpknkomkldgnfaaDoor
