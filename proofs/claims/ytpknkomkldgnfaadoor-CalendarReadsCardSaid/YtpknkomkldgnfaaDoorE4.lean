/- Contract of the reference's ParseDate. -/
import Derived.Test.YtpknkomkldgnfaaDoorE3
namespace Go.Proofs.YtpknkomkldgnfaaDoor
open Go.RowKit Go.Sort Cal
theorem Res.new2 (w : World) (y m d : Int) : Res (w.heap.size + 1) y m d w ((w.alloc (.cells #[.int .i64 0, .int .i64 0, .int .i64 0] 23 (0, 0))).alloc (.cells #[.int .i64 y, .int .i64 m, .int .i64 d] 23 (0, 0))) :=
  ⟨by show ((w.heap.push _).push _)[_]? = _; rw [Array.getElem?_push, if_neg (by simp), Array.getElem?_push, if_pos rfl], by show ((w.heap.push _).push _)[_]? = _; rw [Array.getElem?_push, if_pos (by simp)], by omega, by go_grown⟩
theorem dig04 (s : ByteArray) (w : World) (y : Int) (h10 : s.size = 10) (hy : Hid (y = numF 0 ((s.data.toList.drop 0).take 4))) : Calls Tryd.prog 59 #[.string s, .int .i64 0, .int .i64 4] w fun e w' => e = .returned (.int .i64 y) ∧ w = w' := by
  have h := digits_any s 0 4 w (by omega) (by omega) (by omega)
  rw [← hy.out] at h
  exact h
theorem dig52 (s : ByteArray) (w : World) (y : Int) (h10 : s.size = 10) (hy : Hid (y = numF 0 ((s.data.toList.drop 5).take 2))) : Calls Tryd.prog 59 #[.string s, .int .i64 5, .int .i64 2] w fun e w' => e = .returned (.int .i64 y) ∧ w = w' := by
  have h := digits_any s 5 2 w (by omega) (by omega) (by omega)
  rw [← hy.out] at h
  exact h
theorem dig82 (s : ByteArray) (w : World) (y : Int) (h10 : s.size = 10) (hy : Hid (y = numF 0 ((s.data.toList.drop 8).take 2))) : Calls Tryd.prog 59 #[.string s, .int .i64 8, .int .i64 2] w fun e w' => e = .returned (.int .i64 y) ∧ w = w' := by
  have h := digits_any s 8 2 w (by omega) (by omega) (by omega)
  rw [← hy.out] at h
  exact h
set_option maxRecDepth 100000 in
set_option maxHeartbeats 1000000 in
theorem rparse_good (s : ByteArray) (w : World) (y m d : Int) (h10 : s.size = 10) (h4 : ((s[4]'(by omega)).toNat : Int) = 45) (h7 : ((s[7]'(by omega)).toNat : Int) = 45) (HY : Hid (y = numF 0 ((s.data.toList.drop 0).take 4))) (HM : Hid (m = numF 0 ((s.data.toList.drop 5).take 2))) (HD : Hid (d = numF 0 ((s.data.toList.drop 8).take 2))) (hv : vd y m d = true) :
    Calls Tryd.prog 45 #[.string s] w fun e w' => e = .returned (parseV (some (y, m, d))) ∧ Below w.heap.size w w' := by
  have HA := Lib.hid (Res.new2 w y m d)
  go_enter Tryd.func45, Tryd.ntmps45
  go_wp2_with fail
  refine (dig04 s _ y h10 HY).mono ?_
  rintro e w1 ⟨rfl, rfl⟩
  go_wp2_with fail
  refine (dig52 s _ m h10 HM).mono ?_
  rintro e w1 ⟨rfl, rfl⟩
  go_wp2_with fail
  refine (dig82 s _ d h10 HD).mono ?_
  rintro e w1 ⟨rfl, rfl⟩
  go_wp2_with (go_at_call 15; refine (rvalid_any y m d _).mono ?_; rintro e w2 ⟨rfl, hb2⟩; have HA2 := Lib.hid (HA.out.step hb2); obtain ⟨z0, z1, z2, k0, k1, k2⟩ := HA2.out.facts; obtain ⟨a0, a1, a2⟩ := HA2.out.after y m d; obtain ⟨d0, d1, d2⟩ := HA2.out.date; clear hb2)
  all_goals
    refine bodyPost_ret (v := parseV (some (y, m, d))) (by simp [parseV, results, Tryd.results45, go_sem, a0, a1, a2]) rfl ⟨rfl, ?_⟩
    exact HA2.out.fin y m d
set_option maxRecDepth 100000 in
set_option maxHeartbeats 1000000 in
theorem rparse_bad (s : ByteArray) (w : World) (y m d : Int) (h10 : s.size = 10) (h4 : ((s[4]'(by omega)).toNat : Int) = 45) (h7 : ((s[7]'(by omega)).toNat : Int) = 45) (HY : Hid (y = numF 0 ((s.data.toList.drop 0).take 4))) (HM : Hid (m = numF 0 ((s.data.toList.drop 5).take 2))) (HD : Hid (d = numF 0 ((s.data.toList.drop 8).take 2))) (hv : vd y m d = false) :
    Calls Tryd.prog 45 #[.string s] w fun e w' => e = .returned (parseV none) ∧ Below w.heap.size w w' := by
  have HA := Lib.hid (Res.new2 w y m d)
  go_enter Tryd.func45, Tryd.ntmps45
  go_wp2_with fail
  refine (dig04 s _ y h10 HY).mono ?_
  rintro e w1 ⟨rfl, rfl⟩
  go_wp2_with fail
  refine (dig52 s _ m h10 HM).mono ?_
  rintro e w1 ⟨rfl, rfl⟩
  go_wp2_with fail
  refine (dig82 s _ d h10 HD).mono ?_
  rintro e w1 ⟨rfl, rfl⟩
  go_wp2_with (go_at_call 15; refine (rvalid_any y m d _).mono ?_; rintro e w2 ⟨rfl, hb2⟩; have HA2 := Lib.hid (HA.out.step hb2); obtain ⟨z0, z1, z2, k0, k1, k2⟩ := HA2.out.facts; obtain ⟨a0, a1, a2⟩ := HA2.out.after 0 0 0; obtain ⟨d0, d1, d2⟩ := HA2.out.date; clear hb2)
  all_goals
    refine bodyPost_ret (v := parseV none) (by simp [parseV, results, Tryd.results45, go_sem, a0, a1, a2]) rfl ⟨rfl, ?_⟩
    exact HA2.out.fin 0 0 0
end Go.Proofs.YtpknkomkldgnfaaDoor
