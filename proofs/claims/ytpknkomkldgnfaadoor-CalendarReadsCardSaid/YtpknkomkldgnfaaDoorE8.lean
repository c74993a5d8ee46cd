/- The walk of CalendarReads. -/
import Derived.Test.YtpknkomkldgnfaaDoorE7
import Derived.Lib.ConvBytes
import Derived.Deep.RegionHeld3
namespace Go.Proofs.YtpknkomkldgnfaaDoor
open Go.RowKit Go.Sort Cal
/-- The bytes of a date's text lie in a block of the call's own, one of them changed. -/
theorem conv_cell (w : World) (t : ByteArray) (j : Nat) (hj : j < t.size) : (Lib.bytesWorld w 5 t).cell? ⟨w.heap.size, j, none⟩ = some (.int .u8 (t.data.toList.getD j 0).toNat) := Lib.bytesWorld_cell w _ t j hj
theorem conv_free (w : World) (t : ByteArray) (j : Nat) (hj : j < t.size) : (Lib.bytesWorld w 5 t).frozen? ⟨w.heap.size, j, none⟩ = false := by
  have h : (Lib.bytesCells w 5 t).size = t.size + (grownCap w t.size 0 5 - t.size) := by simp [Lib.bytesCells]
  simp [World.frozen?, Lib.bytesWorld_at_new]
  omega
def putB (t : ByteArray) (k : Nat) (v : Int) : ByteArray := bs (t.data.toList.set k (UInt8.ofNat v.toNat))
theorem putB_size (t : ByteArray) (k : Nat) (v : Int) : (putB t k v).size = t.size := by unfold putB; rw [bs_size, List.length_set, Lib.size_eq]
theorem put_bytes (w : World) (t : ByteArray) (k : Nat) (v : Int) (hk : k < t.size) (h0 : 0 ≤ v) (h1 : v ≤ 255) :
    Lib.Bytes ((Lib.bytesWorld w 5 t).setCell ⟨w.heap.size, k, none⟩ (.int .u8 v)) w.heap.size 0 (putB t k v) := by
  intro i hi
  rw [putB_size] at hi
  have hl : t.data.toList.length = t.size := (Lib.size_eq t).symm
  have e : (putB t k v)[i] = (t.data.toList.set k (UInt8.ofNat v.toNat))[i]'(by rw [List.length_set]; omega) := rfl
  rw [e, List.getElem_set, Nat.zero_add]
  by_cases hik : k = i
  · subst hik
    rw [if_pos rfl]
    have hc := conv_cell w t k hk
    have e2 : ((UInt8.ofNat v.toNat).toNat : Int) = v := by
      show ((v.toNat % 256 : Nat) : Int) = v
      omega
    rw [e2]
    exact World.cell?_setCell_same _ _ _ hc
  · rw [if_neg hik]
    have hc := conv_cell w t i hi
    have e2 : (t.data.toList.getD i 0) = t.data.toList[i] := by rw [List.getD, List.getElem?_eq_getElem (by omega)]; rfl
    rw [e2] at hc
    rw [World.cell?_setCell_other _ _ _ _ (by intro h; simp only [Addr.mk.injEq] at h; omega)]
    exact hc
/-- Both conversions of the block's bytes, in any world that holds them. -/
theorem convs_of {w : World} {B : Nat} {t : ByteArray} (h : Lib.Bytes w B 0 t) (h10 : t.size = 10) (cp : Nat) :
    (convert 51 9 (.slice (some ⟨B, 0, none⟩) 10 cp)).run Tryd.prog w = .ok (.string (t.extract 0 10)) w ∧ (convert 51 9 (.slice (some ⟨B, 0, none⟩) 7 cp)).run Tryd.prog w = .ok (.string (t.extract 0 7)) w := by
  have k1 := Lib.run_convert_window (P := Tryd.prog) w 51 5 9 Tryd.underlying51 Tryd.underlying5 Tryd.underlying9 B 0 t h 0 10 cp (by omega)
  have k2 := Lib.run_convert_window (P := Tryd.prog) w 51 5 9 Tryd.underlying51 Tryd.underlying5 Tryd.underlying9 B 0 t h 0 7 cp (by omega)
  simp only [Nat.zero_add, Nat.add_zero] at k1 k2
  exact ⟨k1, k2⟩
theorem parseV_form (r : Option (Int × Int × Int)) : ∃ y m d c : Int, parseV r = .tuple #[.agg #[.int .i64 y, .int .i64 m, .int .i64 d], .int .i64 c] := by
  match r with
  | none => exact ⟨_, _, _, _, rfl⟩
  | some (y, m, d) => exact ⟨_, _, _, _, rfl⟩
theorem perV_form (r : Option (Int × Int × Int)) : ∃ p c : Int, perV r = .tuple #[.int .i64 p, .int .i64 c] := by
  match r with
  | none => exact ⟨_, _, rfl⟩
  | some (y, m, d) => exact ⟨_, _, rfl⟩
set_option maxRecDepth 100000 in
set_option maxHeartbeats 1600000 in
theorem reads_walk (w : World) (s : ByteArray) (day at' v : Int) (_ : -9223372036854775808 ≤ day) (_ : day ≤ 9223372036854775807) (_ : -9223372036854775808 ≤ at') (_ : at' ≤ 9223372036854775807) (hv0 : 0 ≤ v) (hv1 : v ≤ 255) (hE : Env w) :
    Calls Tryd.prog 13 #[.string s, .int .i64 day, .int .i64 at', .int .u8 v] w fun e w' => e = .returned (.bool true) ∧ Below w.heap.size w w' := by
  have fd' := fold_bd day 182621 (by omega)
  have fa := fold_bd at' 10 (by omega)
  obtain ⟨x, mx, dx, hV, _, a1, a2, a3, a4, a5, a6⟩ := date_parts (foldZ day 182621) (by omega) (by omega)
  have hv := vd_date x mx dx a1 a2 a3 a4 a5 a6
  have HE := Lib.hid hE
  have HV := Lib.hid hV
  have kc := fun (w : World) (s : ByteArray) => Lib.run_convert_string_bytes (P := Tryd.prog) w 9 51 5 s Tryd.underlying9 Tryd.underlying51 Tryd.underlying5
  clear hE hV a1 a2 a3 a4 a5 a6
  go_enter Tryd.func13, Tryd.ntmps13
  go_wp2_with fail
  refine (fold_any day 182621 _ (by omega) (by omega)).mono ?_
  rintro e w0' ⟨rfl, rfl⟩
  go_wp2_with fail
  refine (rdate_yes (foldZ day 182621) _ (by omega) (by omega)).mono ?_
  rintro e w1 ⟨rfl, hb1⟩
  rw [HV.out]
  go_wp2_with fail
  refine (rformatDate_any x mx dx _).mono ?_
  rintro e w2 ⟨rfl, hb2⟩
  have hb20 : Below w.heap.size w w2 := chain (chainAlloc hb1 _) hb2
  clear hb1 hb2
  have hts : (textB x mx dx).size = 10 := by unfold textB; rw [if_pos hv, bs_size]; rfl
  obtain ⟨tx, htx⟩ : ∃ tx, tx = textB x mx dx := ⟨_, rfl⟩
  rw [← htx] at hts ⊢
  clear htx
  go_wp2_with fail
  refine (fold_any at' 10 _ (by omega) (by omega)).mono ?_
  rintro e w2' ⟨rfl, rfl⟩
  obtain ⟨k, hk⟩ := Int.eq_ofNat_of_zero_le fa.1
  rw [hk] at fa ⊢
  have hkc := conv_cell w2 tx k (by omega)
  have hkf := conv_free w2 tx k (by omega)
  have HBy := put_bytes w2 tx k v (by omega) hv0 hv1
  go_wp2_with fail
  have hcap := grownCap_ge w2 10 0 5
  generalize grownCap w2 10 0 5 = cp at *
  have hps : (putB tx k v).size = 10 := by rw [putB_size]; exact hts
  generalize hwc : (Lib.bytesWorld w2 5 tx).setCell ⟨w2.heap.size, k, none⟩ (.int .u8 v) = wc at *
  obtain ⟨ub, hub⟩ : ∃ u, u = (putB tx k v).extract 0 10 := ⟨_, rfl⟩
  obtain ⟨uc, huc⟩ : ∃ u, u = (putB tx k v).extract 0 7 := ⟨_, rfl⟩
  have hus : ub.size ≤ 20 := by rw [hub, ByteArray.size_extract]; omega
  have hut : uc.size ≤ 20 := by rw [huc, ByteArray.size_extract]; omega
  have HBH := Lib.hid HBy
  have hbl : w2.heap.size < wc.heap.size := by rw [← hwc]; simp [Lib.bytesWorld_size]
  have HC : ∀ w' : World, Below wc.heap.size wc w' → (convert 51 9 (.slice (some ⟨w2.heap.size, 0, none⟩) 10 cp)).run Tryd.prog w' = .ok (.string ub) w' ∧ (convert 51 9 (.slice (some ⟨w2.heap.size, 0, none⟩) 7 cp)).run Tryd.prog w' = .ok (.string uc) w' := by
    intro w' hb
    rw [hub, huc]
    exact convs_of (fun i hi => (hb.cell (p := ⟨w2.heap.size, 0 + i, none⟩) hbl).trans (HBH.out i hi)) hps cp
  have HCH := Lib.hid HC
  have HWC := Lib.hid hwc
  clear hub huc HBy hkc hkf kc hwc hps hts fd' hv HC
  have hc7 : (7 : Int) ≤ (cp : Int) := by omega
  have hm0 : (0 : Int) ≤ min ((s.size : Nat) : Int) 20 := by omega
  have hm1 : min ((s.size : Nat) : Int) 20 ≤ ((s.size : Nat) : Int) := by omega
  go_region_held3 (fun w' => (convert 51 9 (.slice (some ⟨w2.heap.size, 0, none⟩) 10 cp)).run Tryd.prog w' = .ok (.string ub) w' ∧ (convert 51 9 (.slice (some ⟨w2.heap.size, 0, none⟩) 7 cp)).run Tryd.prog w' = .ok (.string uc) w') (exact HCH.out _ (by go_grown)) (fail)
  have hu0 : (s.extract 0 (min ((s.size : Nat) : Int) 20).toNat).size ≤ 20 := by rw [ByteArray.size_extract]; omega
  generalize s.extract 0 (min ((s.size : Nat) : Int) 20).toNat = u0 at *
  go_wp2_with fail
  have hbc : Below w.heap.size w wc := by
    rw [← HWC.out]
    exact (hb20.trans ((Lib.bytesWorld_below _ _ _).mono hb20.size)).setCell (by have := hb20.size; simpa using this) _
  have hB0 := (Box.new wc [.string u0, .string ub, .string uc] 9).step (Below.refl _ _).drew
  go_loopw [50] (fun i wr => ∃ j : Nat, j ≤ 3 ∧ i = .int .i64 j ∧ Box wc.heap.size wc [.string u0, .string ub, .string uc] wr) (fun i _ => 3 - (intOf i).toNat)
  case atStart => exact ⟨0, by omega, rfl, hB0⟩
  case round =>
    obtain ⟨j, hj, rfl, hB⟩ := hrel
    have HB := Lib.hid hB
    by_cases hlt : j < 3
    · obtain ⟨u, hus', hu⟩ : ∃ u : ByteArray, u.size ≤ 20 ∧ wr.cell? ⟨wc.heap.size, j, none⟩ = some (.string u) := by
        have hj3 : j = 0 ∨ j = 1 ∨ j = 2 := by omega
        rcases hj3 with rfl | rfl | rfl
        · exact ⟨u0, hu0, hB.c 0 _ rfl⟩
        · exact ⟨ub, hus, hB.c 1 _ rfl⟩
        · exact ⟨uc, hut, hB.c 2 _ rfl⟩
      clear hB
      obtain ⟨y0, m0, d0, c0, hpv⟩ := parseV_form (refP u.data.toList)
      obtain ⟨p1, c1, hqv⟩ := perV_form (refP (firstB u).data.toList)
      have HPV := Lib.hid hpv
      have HQV := Lib.hid hqv
      clear hpv hqv
      have HBC := Lib.hid hbc
      clear hbc
      have hEr : Env wr := HE.out.below (chain0 HBC.out HB.out.bl)
      have HER := Lib.hid hEr
      clear hEr
      go_wp2_with fail
      refine (pparse_ref u _ (by omega) HER.out).mono ?_
      rintro e w3 ⟨rfl, hb3⟩
      rw [HPV.out]
      go_wp2_with fail
      refine (rparse_any u _).mono ?_
      rintro e w4 ⟨rfl, hb4⟩
      rw [HPV.out]
      have hD0 := (Box.new w3 [.int .i64 y0, .int .i64 m0, .int .i64 d0] 23).step hb4
      have hbr4 : Below wr.heap.size wr w4 := chain0 (chainAlloc hb3 _) hb4
      clear hb3 hb4
      have HD0 := Lib.hid hD0
      clear hD0
      go_wp2_with fail
      refine (parsePer_any u _ (by omega) (HER.out.below (chainAlloc hbr4 _))).mono ?_
      rintro e w5 ⟨rfl, hb5⟩
      rw [HQV.out]
      go_wp2_with fail
      refine (rparsePer_any u _).mono ?_
      rintro e w6 ⟨rfl, hb6⟩
      rw [HQV.out]
      have hF := ((Box.new w4 [.int .i64 y0, .int .i64 m0, .int .i64 d0] 23).step hb5).step hb6
      have hD := HD0.out.step (chain0 (chainAlloc (Below.refl _ _) _) (chain0 hb5 hb6))
      have hbr6 : Below wr.heap.size wr w6 := chain0 (chain0 (chainAlloc hbr4 _) hb5) hb6
      have cd0 := hD.c 0 _ rfl
      have cd1 := hD.c 1 _ rfl
      have cd2 := hD.c 2 _ rfl
      have cf0 := hF.c 0 _ rfl
      have cf1 := hF.c 1 _ rfl
      have cf2 := hF.c 2 _ rfl
      clear hD hF hb5 hb6 hbr4
      go_wp2_with fail
      go_roundw
      case rel => exact ⟨j + 1, by omega, by go_num, HB.out.step hbr6⟩
      case measure => simp [intOf]; omega
    · obtain rfl : j = 3 := by omega
      have hbl : Below w.heap.size w wr := hbc.trans (hB.bl.mono hbc.size)
      go_wp2_with fail
      refine (awake_any _ (HE.out.tab.below hbl)).mono ?_
      rintro e w10 ⟨rfl, hb10⟩
      go_wp2_with fail
      go_ret
      exact ⟨rfl, chain0 hbl hb10⟩
end Go.Proofs.YtpknkomkldgnfaaDoor
