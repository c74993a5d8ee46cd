/- The walk of ClassificationOrders. -/
import Derived.Test.YtnmcmnllmnpjkaaDoorG15
import Derived.Test.YtnmcmnllmnpjkaaDoorG10
import Derived.Deep.RegionHeld3
namespace Go.Proofs.YtnmcmnllmnpjkaaDoor
open Go.RowKit Go.Sort Cal Go.Maps
/-- Five short strings. -/
theorem five_at (l : List ByteArray) (h : ∀ x ∈ l, x.size ≤ 20) {B : Nat} {w0 w : World} (hB : Box B w0 (l.map Value.string) w) (j : Nat) (hj : j < l.length) : ∃ u : ByteArray, u.size ≤ 20 ∧ w.cell? ⟨B, j, none⟩ = some (.string u) :=
  ⟨l[j], h _ (List.getElem_mem hj), hB.c j _ (by simp [hj])⟩
set_option maxRecDepth 100000 in
set_option maxHeartbeats 6400000 in
theorem orders_walk (w : World) (a : ByteArray) (ha : a.size ≤ maxLen) (b : ByteArray) (hb : b.size ≤ maxLen) (q1 : Option Addr) (n1 c1 : Nat) (zs1 : List Int) (_e1 : n1 = zs1.length) (_h1 : n1 ≤ c1) (_hm1 : c1 ≤ maxLen) (hz1 : IntsAt w (.slice q1 n1 c1) zs1) (hf1 : Fits zs1) (hE : Env w) :
    Calls Tryd.prog 9 #[.string a, .string b, .slice q1 n1 c1] w fun e w' => e = .returned (.bool true) ∧ Below w.heap.size w w' := by
  have HE := Lib.hid hE
  have HT := Lib.hid (tape_new hz1 hf1)
  have hma : a.size ≤ 9223372036854775807 := by unfold maxLen at ha; omega
  have hmb : b.size ≤ 9223372036854775807 := by unfold maxLen at hb; omega
  have hm0 : (0 : Int) ≤ min ((a.size : Nat) : Int) 20 := by omega
  have hm2 : min ((a.size : Nat) : Int) 20 ≤ ((a.size : Nat) : Int) := by omega
  have hk0 : (0 : Int) ≤ min ((b.size : Nat) : Int) 20 := by omega
  have hk2 : min ((b.size : Nat) : Int) 20 ≤ ((b.size : Nat) : Int) := by omega
  have hu0 : (a.extract 0 (min ((a.size : Nat) : Int) 20).toNat).size ≤ 20 := by rw [ByteArray.size_extract]; omega
  have hv0 : (b.extract 0 (min ((b.size : Nat) : Int) 20).toNat).size ≤ 20 := by rw [ByteArray.size_extract]; omega
  obtain ⟨u0, hu⟩ : ∃ u, u = a.extract 0 (min ((a.size : Nat) : Int) 20).toNat := ⟨_, rfl⟩
  obtain ⟨v0, hv⟩ : ∃ u, u = b.extract 0 (min ((b.size : Nat) : Int) 20).toNat := ⟨_, rfl⟩
  have HU := Lib.hid hu
  have HV := Lib.hid hv
  rw [← hu] at hu0
  rw [← hv] at hv0
  clear hE hz1 hf1 _e1 ha hb hu hv
  go_enter Tryd.func9, Tryd.ntmps9
  go_upto_region 2 with fail
  go_cut [8] (fun sl wx => ∃ (s2 s3 : ByteArray) (w1 : World), s2.size ≤ 15 ∧ s3.size ≤ 15 ∧ sl = .slice (some ⟨w1.heap.size, 0, none⟩) 5 5 ∧ Below w.heap.size w w1 ∧ Box w1.heap.size w1 [.string u0, .string v0, .string s2, .string s3, .string emptyB] wx)
  case first =>
    go_region_held3 (fun _ => True) (trivial) ((go_at_call 13; first
      | (refine (code_any w.heap.size (.slice q1 n1 c1) zs1 i1 _ (by first | exact hT1 | exact hT1.below (Below.refl _ _).drew) (by omega)).mono ?_; rintro e w2 ⟨s3, i2, rfl, hs3, hi2, hT2, ht2⟩)
      | (refine (code_any w.heap.size (.slice q1 n1 c1) zs1 0 _ (HT.out.below (Below.refl _ _).drew) (by omega)).mono ?_; rintro e w1 ⟨s2, i1, rfl, hs2, hi1, hT1, ht1⟩)))
    all_goals
      have hs1 := ht1.size
      simp only [World.size_alloc, World.size_drew] at hs1
      have hB2 : Below w.heap.size w w2 := ((((Below.refl _ _).alloc (Nat.le_refl _) _).drew).trans (ht1.below (by simp))).trans (ht2.below (by first | omega | (simp; omega)))
      have hB := Box.new w2 [.string u0, .string v0, .string s2, .string s3, .string emptyB] 9
      rw [HU.out, HV.out] at hB
      clear hT1 hT2 ht1 ht2
      go_wp2_with fail
      go_meet
      case rel =>
        refine ⟨s2, s3, w2, hs2, hs3, rfl, hB2, ?_⟩
        rw [HU.out, HV.out]
        first
          | exact hB
          | exact hB.step (Below.refl _ _).drew
  case rest =>
    obtain ⟨s2, s3, w1, hs2, hs3, rfl, hb1, hB0⟩ := hcut
    have HB1 := Lib.hid hb1
    have H5 : Hid (∀ wx, Box w1.heap.size w1 [.string u0, .string v0, .string s2, .string s3, .string emptyB] wx → ∀ j, j < 5 → ∃ u : ByteArray, u.size ≤ 20 ∧ wx.cell? ⟨w1.heap.size, j, none⟩ = some (.string u)) := Lib.hid (fun wx hx j hj => five_at [u0, v0, s2, s3, emptyB] (by
      intro x hx
      simp only [List.mem_cons, List.not_mem_nil, or_false] at hx
      rcases hx with rfl | rfl | rfl | rfl | rfl
      · exact hu0
      · exact hv0
      · omega
      · omega
      · decide) hx j hj)
    clear hb1
    go_wp2_with fail
    go_loopw [33] (fun i wr => ∃ j : Nat, j ≤ 5 ∧ i = .int .i64 j ∧ Box w1.heap.size w1 [.string u0, .string v0, .string s2, .string s3, .string emptyB] wr) (fun i _ => 5 - (intOf i).toNat)
    case atStart => exact ⟨0, by omega, rfl, hB0⟩
    case round =>
      obtain ⟨j, hj, rfl, hB⟩ := hrel
      have HB := Lib.hid hB
      by_cases hlt : j < 5
      · obtain ⟨x, hxs, hx⟩ := H5.out _ hB j hlt
        clear hB
        have hdj : decide ((j : Int) < 5) = true := decide_eq_true (by omega)
        go_wp2_with fail
        go_loopw [39] (fun i wq => ∃ k : Nat, k ≤ 5 ∧ i = .int .i64 k ∧ Box w1.heap.size w1 [.string u0, .string v0, .string s2, .string s3, .string emptyB] wq) (fun i _ => 5 - (intOf i).toNat)
        case atStart => exact ⟨0, by omega, rfl, HB.out⟩
        case round =>
          obtain ⟨k, hk, rfl, hBk⟩ := hrel
          have HBK := Lib.hid hBk
          by_cases hlt2 : k < 5
          · obtain ⟨y, hys, hy⟩ := H5.out _ hBk k hlt2
            have HER := Lib.hid (HE.out.below (chain0 HB1.out hBk.bl))
            clear hBk hx
            go_wp2_with fail
            refine (compare_any x y _ (by omega) (by omega) HER.out).mono ?_
            rintro e w2 ⟨rfl, hb2⟩
            go_wp2_with fail
            refine (rcompare_any x y _ (by omega) (by omega)).mono ?_
            rintro e w3 ⟨rfl, hb3⟩
            have HB3 := Lib.hid (chain0 hb2 hb3)
            clear hb2 hb3
            generalize cmpV x y = z
            go_wp2_with fail
            refine (within_any x y _ (by omega) (by omega) (HER.out.below HB3.out)).mono ?_
            rintro e w4 ⟨rfl, hb4⟩
            go_wp2_with fail
            refine (rwithin_any x y _ (by omega)).mono ?_
            rintro e w5 ⟨rfl, hb5⟩
            have HB5 := Lib.hid (chain0 HB3.out (chain0 hb4 hb5))
            clear hb4 hb5
            generalize withinB x y = f
            go_wp2_with fail
            refine (common_any x y _ (by omega) (by omega) (HER.out.below HB5.out)).mono ?_
            rintro e w6 ⟨rfl, hb6⟩
            go_wp2_with fail
            refine (rcommon_any x y _ (by omega) (by omega)).mono ?_
            rintro e w7 ⟨rfl, hb7⟩
            have HBN := Lib.hid (HBK.out.step (chain0 HB5.out (chain0 hb6 hb7)))
            clear hb6 hb7
            generalize commonV x y = g
            go_wp2_with fail
            go_roundw
            case rel => exact ⟨k + 1, by omega, by go_num, HBN.out⟩
            case measure => simp [intOf]; omega
          · clear hBk hx
            go_wp2_with fail
            go_roundw
            case rel => exact ⟨j + 1, by omega, by go_num, HBK.out⟩
            case measure => simp [intOf]; omega
      · have HBR := Lib.hid (chain0 HB1.out hB.bl)
        clear hB
        go_wp2_with fail
        refine (awake_any _ (HE.out.below HBR.out)).mono ?_
        rintro e w4 ⟨rfl, hb4⟩
        go_wp2
        go_ret
        exact ⟨rfl, chain0 HBR.out hb4⟩
end Go.Proofs.YtnmcmnllmnpjkaaDoor
