/- The walk of CalendarTexts. -/
import Derived.Test.YtpknkomkldgnfaaDoorE6
import Derived.Test.YtpknkomkldgnfaaDoorL5
namespace Go.Proofs.YtpknkomkldgnfaaDoor
open Go.RowKit Go.Sort Cal
theorem vd_date (y m d : Int) (a : 1900 ≤ y) (b : y ≤ 2399) (c : 1 ≤ m) (e : m ≤ 12) (f : 1 ≤ d) (g : d ≤ len y m) : vd y m d = true := (vd_iff _ _ _).2 ⟨a, b, c, e, f, g⟩
theorem textB_size (y m d : Int) : (textB y m d).size ≤ 10 := by
  unfold textB
  split
  · rw [bs_size]; simp [dateL, dig2]
  · show (0 : Nat) ≤ 10; omega
theorem perB_size (p : Int) : (perB p).size ≤ 7 := by
  by_cases h : 0 ≤ p ∧ p ≤ 5999
  · rw [← per_join p h.1 h.2]
    simp only [ByteArray.size_append, bs_size]
    show 2 + 2 + 1 + 2 ≤ 7
    omega
  · unfold perB; rw [if_neg h]; show (0 : Nat) ≤ 7; omega
/-- A good date's text is read back. -/
theorem ref_text (y m d : Int) (hv : vd y m d = true) : refP (textB y m d).data.toList = some (y, m, d) := by
  obtain ⟨a, b, c, e, f, g⟩ := (vd_iff _ _ _).1 hv
  obtain ⟨y', rfl⟩ := Int.eq_ofNat_of_zero_le (show 0 ≤ y by omega)
  obtain ⟨m', rfl⟩ := Int.eq_ofNat_of_zero_le (show 0 ≤ m by omega)
  obtain ⟨d', rfl⟩ := Int.eq_ofNat_of_zero_le (show 0 ≤ d by omega)
  unfold textB
  rw [if_pos hv, bs_data]
  exact refP_text y' m' d' hv
/-- A month's text with the first day behind it. -/
theorem ref_per (n : Int) (h0 : 0 ≤ n) (h1 : n ≤ 5999) : refP (firstB (perB n)).data.toList = some (1900 + n / 12, n % 12 + 1, 1) := by
  have lb := len_bd (1900 + n / 12) (n % 12 + 1)
  have hv := vd_date (1900 + n / 12) (n % 12 + 1) 1 (by omega) (by omega) (by omega) (by omega) (by omega) (by omega)
  have e : firstB (perB n) = textB (1900 + n / 12) (n % 12 + 1) 1 := by
    rw [← text_join _ _ _ hv]
    unfold firstB
    rw [← per_join n h0 h1, ByteArray.append_assoc]
    rfl
  rw [e]
  exact ref_text _ _ _ hv
theorem per_read (n : Int) (h0 : 0 ≤ n) (h1 : n ≤ 5999) : perV (refP (firstB (perB n)).data.toList) = .tuple #[.int .i64 n, .int .i64 0] := by
  rw [ref_per n h0 h1]
  show Value.tuple #[.int .i64 (12 * (1900 + n / 12 - 1900) + (n % 12 + 1) - 1), .int .i64 0] = _
  rw [show 12 * (1900 + n / 12 - 1900) + (n % 12 + 1) - 1 = n by omega]
set_option maxRecDepth 100000 in
set_option maxHeartbeats 1600000 in
theorem texts_walk (w : World) (y m d p : Int) (_ : -9223372036854775808 ≤ d) (_ : d ≤ 9223372036854775807) (_ : -9223372036854775808 ≤ p) (_ : p ≤ 9223372036854775807) (hE : Env w) :
    Calls Tryd.prog 12 #[.agg #[.int .i64 y, .int .i64 m, .int .i64 d], .int .i64 p] w fun e w' => e = .returned (.bool true) ∧ Below w.heap.size w w' := by
  have fn := fold_bd p 6000 (by omega)
  have fd' := fold_bd d 182621 (by omega)
  obtain ⟨x, mx, dx, hV, _, a1, a2, a3, a4, a5, a6⟩ := date_parts (foldZ d 182621) (by omega) (by omega)
  have hv := vd_date x mx dx a1 a2 a3 a4 a5 a6
  have HE := Lib.hid hE
  have HV := Lib.hid hV
  have HR := Lib.hid (per_read (foldZ p 6000) (by omega) (by omega))
  have HT := Lib.hid (ref_text x mx dx hv)
  clear hE hV a1 a2 a3 a4 a5 a6
  go_enter Tryd.func12, Tryd.ntmps12
  go_wp2_with fail
  have hX0 := Box.new w [.int .i64 y, .int .i64 m, .int .i64 d] 23
  refine (formatDate_any y m d _ (HE.out.tab.below hX0.bl)).mono ?_
  rintro e w1 ⟨rfl, hb1⟩
  have HX1 := Lib.hid (hX0.step hb1)
  clear hX0 hb1
  go_wp2_with fail
  refine (formatPeriod_any p _ (HE.out.tab.below HX1.out.bl)).mono ?_
  rintro e w2 ⟨rfl, hb2⟩
  have hX2 := HX1.out.step hb2
  have HX2 := Lib.hid hX2
  have c0 := hX2.c 0 (.int .i64 y) rfl
  have c1 := hX2.c 1 (.int .i64 m) rfl
  have c2 := hX2.c 2 (.int .i64 d) rfl
  clear hX2 hb2 HX1
  go_wp2_with fail
  refine (rformatDate_any y m d _).mono ?_
  rintro e w3 ⟨rfl, hb3⟩
  have HX3 := Lib.hid (HX2.out.step hb3)
  clear c0 c1 c2 hb3 HX2
  go_wp2_with fail
  refine (rformatPeriod_any p _).mono ?_
  rintro e w4 ⟨rfl, hb4⟩
  have HX4 := Lib.hid (HX3.out.step hb4)
  clear hb4 HX3
  go_wp2_with fail
  refine (fold_any p 6000 _ (by omega) (by omega)).mono ?_
  rintro e w4' ⟨rfl, rfl⟩
  go_wp2_with fail
  refine (formatPeriod_any (foldZ p 6000) _ (HE.out.tab.below HX4.out.bl)).mono ?_
  rintro e w5 ⟨rfl, hb5⟩
  have HX5 := Lib.hid (HX4.out.step hb5)
  clear hb5 HX4
  go_wp2_with fail
  refine (parsePer_any (perB (foldZ p 6000)) _ (Nat.le_trans (perB_size _) (by decide)) (HE.out.below HX5.out.bl)).mono ?_
  rintro e w6 ⟨rfl, hb6⟩
  rw [HR.out]
  have hX6 := HX5.out.step hb6
  have HX6 := Lib.hid hX6
  have c2 := hX6.c 2 (.int .i64 d) rfl
  clear hb6 HX5 hX6
  go_wp2_with fail
  refine (fold_any d 182621 _ (by omega) (by omega)).mono ?_
  rintro e w6' ⟨rfl, rfl⟩
  go_wp2_with fail
  refine (rdate_yes (foldZ d 182621) _ (by omega) (by omega)).mono ?_
  rintro e w7 ⟨rfl, hb7⟩
  rw [HV.out]
  have HX7 := Lib.hid (HX6.out.step hb7)
  clear hb7 HX6 c2
  go_wp2_with fail
  have hb70 : Below w.heap.size w w7 := HX7.out.bl
  have hY0 := Box.new w7 [.int .i64 x, .int .i64 mx, .int .i64 dx] 23
  refine (formatDate_any x mx dx _ (HE.out.tab.below (hb70.trans (hY0.bl.mono hb70.size)))).mono ?_
  rintro e w8 ⟨rfl, hb8⟩
  have HY8 := Lib.hid (hY0.step hb8)
  clear hb8 hY0 HX7
  go_wp2_with fail
  refine (pparse_ref (textB x mx dx) _ (Nat.le_trans (textB_size _ _ _) (by decide)) (HE.out.below (hb70.trans (HY8.out.bl.mono hb70.size)))).mono ?_
  rintro e w9 ⟨rfl, hb9⟩
  rw [HT.out]
  unfold parseV
  have hY9 := HY8.out.step hb9
  have HY9 := Lib.hid hY9
  have c0 := hY9.c 0 (.int .i64 x) rfl
  have c1 := hY9.c 1 (.int .i64 mx) rfl
  have c2 := hY9.c 2 (.int .i64 dx) rfl
  have cs := hY9.sz
  clear hb9 hY9 HY8
  go_wp2_with fail
  have hb90 : Below w.heap.size w w9 := hb70.trans (HY9.out.bl.mono hb70.size)
  refine (awake_any _ (HE.out.tab.below (chainAlloc hb90 _))).mono ?_
  rintro e w10 ⟨rfl, hb10⟩
  go_wp2_with fail
  go_ret
  exact ⟨rfl, chain (chainAlloc hb90 _) hb10⟩
end Go.Proofs.YtpknkomkldgnfaaDoor
