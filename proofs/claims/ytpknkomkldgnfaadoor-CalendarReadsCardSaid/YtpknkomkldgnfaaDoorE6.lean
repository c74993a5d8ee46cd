/- Contracts of the reference's FormatDate and FormatPeriod. -/
import Derived.Test.YtpknkomkldgnfaaDoorE5
namespace Go.Proofs.YtpknkomkldgnfaaDoor
open Go.RowKit Go.Sort Cal
theorem two_int (z : Int) (w : World) (h0 : 0 ≤ z) (h1 : z < 100) : Calls Tryd.prog 56 #[.int .i64 z] w fun e w' => e = .returned (.string (bs (dig2 z.toNat))) ∧ Below w.heap.size w w' := by
  obtain ⟨n, rfl⟩ := Int.eq_ofNat_of_zero_le h0
  exact two_any n w (by omega)
theorem text_join (y m d : Int) (hv : vd y m d = true) : bs (dig2 (y / 100).toNat) ++ bs (dig2 (y % 100).toNat) ++ (⟨#[45]⟩ : ByteArray) ++ bs (dig2 m.toNat) ++ (⟨#[45]⟩ : ByteArray) ++ bs (dig2 d.toNat) = textB y m d := by
  obtain ⟨a, b, c, e, f, g⟩ := (vd_iff _ _ _).1 hv
  have h : (⟨#[45]⟩ : ByteArray) = bs [45] := rfl
  unfold textB
  rw [if_pos hv, h]
  simp only [bs_append]
  congr 1
  rw [show (y / 100).toNat = y.toNat / 100 by omega, show (y % 100).toNat = y.toNat % 100 by omega]
  rfl
set_option maxRecDepth 100000 in
theorem rformatDate_any (y m d : Int) (w : World) : Calls Tryd.prog 41 #[.agg #[.int .i64 y, .int .i64 m, .int .i64 d]] w fun e w' => e = .returned (.string (textB y m d)) ∧ Below w.heap.size w w' := by
  by_cases hv : vd y m d = true
  · have HJ := Lib.hid (text_join y m d hv)
    obtain ⟨a, b, c, e, f, g⟩ := (vd_iff _ _ _).1 hv
    have lb := len_bd y m
    have hd31 : d ≤ 31 := by omega
    clear g
    go_enter Tryd.func41, Tryd.ntmps41
    go_wp2_with (first
      | (go_at_call 15; refine (rvalid_any y m d _).mono ?_; rintro e w1 ⟨rfl, hb⟩; have hB := (Box3.new w y m d _).step hb; obtain ⟨c0, c1, c2, cz, cl, cb⟩ := hB)
      | fail)
    have q0 := fun d os => cell_regrown c0 d os
    have q1 := fun d os => cell_regrown c1 d os
    have q2 := fun d os => cell_regrown c2 d os
    have dz : ∀ n, (bs (dig2 n)).size = 2 := fun n => bs_size _
    have da : ∀ a b : ByteArray, (a ++ b).size = a.size + b.size := fun a b => ByteArray.size_append
    have d45 : (⟨#[45]⟩ : ByteArray).size = 1 := rfl
    refine wp_region_quiet_below (by kernel_rfl) (by kernel_rfl) ?_
    repeat (go_big_quiet_step ((go_at_call 56; exact Calls.regrown_of (two_int _ _ (by omega) (by omega)))))
    refine wpQuiet_nil ?_
    intro _ hw'
    obtain ⟨⟨dq, osq⟩, hw''⟩ := hw'
    subst hw''
    rw [HJ.out]
    go_wp2
    go_ret
    exact ⟨rfl, cb.trans ((below_regrown w1 dq osq).mono cb.size)⟩
  · have hv' : vd y m d = false := by simpa using hv
    have HJ : Hid (textB y m d = ⟨#[]⟩) := Lib.hid (by unfold textB; rw [if_neg hv])
    clear hv
    go_enter Tryd.func41, Tryd.ntmps41
    go_wp2_with (first
      | (go_at_call 15; refine (rvalid_any y m d _).mono ?_; rintro e w1 ⟨rfl, hb⟩; have hB := ((Box3.new w y m d _).step hb).bl)
      | fail)
    go_ret
    exact ⟨by rw [HJ.out]; rfl, hB⟩
theorem per_join (p : Int) (h0 : 0 ≤ p) (h1 : p ≤ 5999) : bs (dig2 ((1900 + p / 12) / 100).toNat) ++ bs (dig2 ((1900 + p / 12) % 100).toNat) ++ (⟨#[45]⟩ : ByteArray) ++ bs (dig2 (p % 12 + 1).toNat) = perB p := by
  have h : (⟨#[45]⟩ : ByteArray) = bs [45] := rfl
  unfold perB
  rw [if_pos ⟨h0, h1⟩, h]
  simp only [bs_append]
  obtain ⟨y, hy⟩ := Int.eq_ofNat_of_zero_le (show 0 ≤ 1900 + p / 12 by omega)
  obtain ⟨m, hm⟩ := Int.eq_ofNat_of_zero_le (show 0 ≤ p % 12 + 1 by omega)
  rw [hy, hm]
  apply bs_ext
  rw [bs_data]
  show _ = ((Lib.join (([(y : Int), (m : Int)].map wordB).map (·.data.toList)) [45]).toArray).toList
  simp only [List.map_cons, List.map_nil, wordB_data]
  rw [wordL_four y (by omega) (by omega), wordL_two m (by omega), Lib.join_cons]
  rw [show ((y : Int) / 100).toNat = y / 100 by omega, show ((y : Int) % 100).toNat = y % 100 by omega]
  simp [Lib.joinTail]
set_option maxRecDepth 100000 in
theorem rformatPeriod_any (p : Int) (w : World) : Calls Tryd.prog 42 #[.int .i64 p] w fun e w' => e = .returned (.string (perB p)) ∧ Below w.heap.size w w' := by
  by_cases h : 0 ≤ p ∧ p ≤ 5999
  · obtain ⟨h0, h1⟩ := h
    have HJ := Lib.hid (per_join p h0 h1)
    have l0 : ¬ p < 0 := by omega
    have l1 : ¬ 5999 < p := by omega
    go_enter Tryd.func42, Tryd.ntmps42
    go_wp2_with fail
    refine (two_int _ _ (by omega) (by omega)).mono ?_
    rintro e w1 ⟨rfl, hb1⟩
    go_wp2_with fail
    refine (two_int _ _ (by omega) (by omega)).mono ?_
    rintro e w2 ⟨rfl, hb2⟩
    go_wp2_with fail
    refine (two_int _ _ (by omega) (by omega)).mono ?_
    rintro e w3 ⟨rfl, hb3⟩
    go_wp2
    go_ret
    exact ⟨congrArg (fun x => Ending.returned (Value.string x)) HJ.out, chain0 (chain0 hb1 hb2) hb3⟩
  · have HJ : Hid (perB p = ⟨#[]⟩) := Lib.hid (by unfold perB; rw [if_neg h])
    by_cases l0 : p < 0
    · clear h
      go_enter Tryd.func42, Tryd.ntmps42
      go_wp2
      go_ret
      exact ⟨by rw [HJ.out]; rfl, Below.refl _ _⟩
    · have l1 : 5999 < p := by omega
      clear h
      go_enter Tryd.func42, Tryd.ntmps42
      go_wp2
      go_ret
      exact ⟨by rw [HJ.out]; rfl, Below.refl _ _⟩
end Go.Proofs.YtpknkomkldgnfaaDoor
