/- The reference's arithmetic at numbers of one limb: Compare. -/
import Derived.Test.YtenjefbplpbjaaaGreatDoorR5
namespace Go.Proofs.YtenjefbplpbjaaaGreatDoor
open Go.RowKit Go.Sort Cal Go.Maps
def cmpN (M N : Nat) : Int := if M < N then -1 else if N < M then 1 else 0
def CmpPost (M N : Nat) (w : World) (e : Ending) (w' : World) : Prop := e = .returned (.int .i64 (cmpN M N)) ∧ ∃ n, w' = w.drewN n
set_option maxRecDepth 100000 in
set_option maxHeartbeats 1600000 in
theorem compare_at (u v : Value) (M N : Nat) (w : World) (hu : LimbAt w u M) (hv : LimbAt w v N) :
    Calls Tryz.prog 194 #[u, v] w (CmpPost M N w) := by
  have HU := Lib.hid hu.raw
  have HV := Lib.hid hv.raw
  by_cases hM : M = 0
  · have HLM : Hid (lim M = 0) := Lib.hid (by subst hM; rfl)
    by_cases hN : N = 0
    · have HLN : Hid (lim N = 0) := Lib.hid (by subst hN; rfl)
      have HC : Hid (cmpN M N = 0) := Lib.hid (by subst hM hN; rfl)
      clear hM hN hu hv
      go_enter Tryz.func194, Tryz.ntmps194
      go_wp2_with fail
      refine (size_raw _ M _ HU.out).mono ?_
      rintro e w1 ⟨rfl, rfl⟩
      rw [HLM.out]
      go_wp2_with fail
      refine (size_raw _ N _ HV.out).mono ?_
      rintro e w1 ⟨rfl, rfl⟩
      rw [HLN.out]
      go_wp2_with fail
      go_loop [7] (fun i => i = .int .i64 (-1)) (fun _ => 0)
      case atStart => rfl
      case round =>
        subst hrel
        go_wp2
        go_ret
        exact ⟨by rw [HC.out]; rfl, 0, rfl⟩
    · have HLN := Lib.hid (lim_pos hN)
      have HC : Hid (cmpN M N = -1) := Lib.hid (by subst hM; unfold cmpN; rw [if_pos (by omega)])
      clear hM hN hu hv
      go_enter Tryz.func194, Tryz.ntmps194
      go_wp2_with fail
      refine (size_raw _ M _ HU.out).mono ?_
      rintro e w1 ⟨rfl, rfl⟩
      rw [HLM.out]
      go_wp2_with fail
      refine (size_raw _ N _ HV.out).mono ?_
      rintro e w1 ⟨rfl, rfl⟩
      rw [HLN.out]
      go_wp2_with fail
      go_ret
      exact ⟨by rw [HC.out]; rfl, 0, rfl⟩
  · have HLM := Lib.hid (lim_pos hM)
    by_cases hN : N = 0
    · have HLN : Hid (lim N = 0) := Lib.hid (by subst hN; rfl)
      have HC : Hid (cmpN M N = 1) := Lib.hid (by subst hN; unfold cmpN; rw [if_neg (by omega), if_pos (by omega)])
      clear hM hN hu hv
      go_enter Tryz.func194, Tryz.ntmps194
      go_wp2_with fail
      refine (size_raw _ M _ HU.out).mono ?_
      rintro e w1 ⟨rfl, rfl⟩
      rw [HLM.out]
      go_wp2_with fail
      refine (size_raw _ N _ HV.out).mono ?_
      rintro e w1 ⟨rfl, rfl⟩
      rw [HLN.out]
      go_wp2_with fail
      go_ret
      exact ⟨by rw [HC.out]; rfl, 0, rfl⟩
    · have HLN := Lib.hid (lim_pos hN)
      rcases hu with ⟨h, _⟩ | ⟨_, b, c, rfl, hc, hb, h0⟩
      · exact absurd h hM
      rcases hv with ⟨h, _⟩ | ⟨_, b', c', rfl, hc', hb', h0'⟩
      · exact absurd h hN
      clear hM hN
      have hcase : M < N ∨ N < M ∨ M = N := by omega
      rcases hcase with hlt | hlt | rfl
      · have HC : Hid (cmpN M N = -1) := Lib.hid (by unfold cmpN; rw [if_pos hlt])
        have hd : decide ((M : Int) < (N : Int)) = true := by simpa using hlt
        have hd2 : decide (M < N) = true := by simpa using hlt
        go_enter Tryz.func194, Tryz.ntmps194
        go_wp2_with fail
        refine (size_raw _ M _ HU.out).mono ?_
        rintro e w1 ⟨rfl, rfl⟩
        rw [HLM.out]
        go_wp2_with fail
        refine (size_raw _ N _ HV.out).mono ?_
        rintro e w1 ⟨rfl, rfl⟩
        rw [HLN.out]
        go_wp2_with fail
        go_loop [7] (fun i => i = .int .i64 0) (fun _ => 0)
        case atStart => rfl
        case round =>
          subst hrel
          go_wp2
          go_quiet (fail)
          go_wp2
          go_ret
          exact ⟨by rw [HC.out]; rfl, _, rfl⟩
      · have HC : Hid (cmpN M N = 1) := Lib.hid (by unfold cmpN; rw [if_neg (by omega), if_pos hlt])
        have hd : decide ((M : Int) < (N : Int)) = false := by simp; omega
        have hd2 : decide (M < N) = false := by simp; omega
        have hd3 : decide ((N : Int) < (M : Int)) = true := by simpa using hlt
        have hd4 : decide (N < M) = true := by simpa using hlt
        go_enter Tryz.func194, Tryz.ntmps194
        go_wp2_with fail
        refine (size_raw _ M _ HU.out).mono ?_
        rintro e w1 ⟨rfl, rfl⟩
        rw [HLM.out]
        go_wp2_with fail
        refine (size_raw _ N _ HV.out).mono ?_
        rintro e w1 ⟨rfl, rfl⟩
        rw [HLN.out]
        go_wp2_with fail
        go_loop [7] (fun i => i = .int .i64 0) (fun _ => 0)
        case atStart => rfl
        case round =>
          subst hrel
          go_wp2
          go_quiet (fail)
          go_wp2
          go_quiet (fail)
          go_wp2
          go_ret
          exact ⟨by rw [HC.out]; rfl, _, World.drewN_drewN _ _ _⟩
      · have HC : Hid (cmpN M M = 0) := Lib.hid (by unfold cmpN; rw [if_neg (by omega), if_neg (by omega)])
        have hd : decide ((M : Int) < (M : Int)) = false := by simp
        have hd2 : decide (M < M) = false := by simp
        go_enter Tryz.func194, Tryz.ntmps194
        go_wp2_with fail
        refine (size_raw _ M _ HU.out).mono ?_
        rintro e w1 ⟨rfl, rfl⟩
        rw [HLM.out]
        go_wp2_with fail
        refine (size_raw _ M _ HV.out).mono ?_
        rintro e w1 ⟨rfl, rfl⟩
        rw [HLM.out]
        go_wp2_with fail
        go_loopw [7] (fun i wr => (i = .int .i64 0 ∨ i = .int .i64 (-1)) ∧ ∃ n, wr = w.drewN n) (fun i _ => (intOf i + 1).toNat)
        case atStart => exact ⟨Or.inl rfl, 0, rfl⟩
        case round =>
          obtain ⟨hi, n, rfl⟩ := hrel
          rcases hi with rfl | rfl
          · go_wp2
            go_quiet (fail)
            go_wp2
            go_quiet (fail)
            go_wp2
            go_roundw
            case rel => exact ⟨Or.inr rfl, _, rfl⟩
            case measure => simp [intOf]
          · go_wp2
            go_ret
            exact ⟨by rw [HC.out]; rfl, _, rfl⟩
end Go.Proofs.YtenjefbplpbjaaaGreatDoor
