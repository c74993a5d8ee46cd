/- The reference's arithmetic at numbers of one limb: Divide, GCD, made, Fraction. -/
import Derived.Test.YtenjefbplpbjaaaGreatDoorR7
namespace Go.Proofs.YtenjefbplpbjaaaGreatDoor
open Go.RowKit Go.Sort Cal Go.Maps
theorem limb_form {w : World} {v : Value} {N : Nat} (h : LimbAt w v N) : ∃ a n c, v = .slice (some a) n c ∧ (n : Int) = lim N := by
  rcases h with ⟨rfl, a, c, rfl⟩ | ⟨h0, b, c, rfl, _⟩
  · exact ⟨a, 0, c, rfl, rfl⟩
  · exact ⟨_, 1, c, rfl, by rw [lim_pos (by omega)]; rfl⟩
def DivPost (M N : Nat) (w : World) (e : Ending) (w' : World) : Prop :=
  ∃ q r, e = .returned (.tuple #[q, r, .bool true]) ∧ (q = .slice none 0 0 ∨ LimbAt w' q (M / N)) ∧ LimbAt w' r (M % N) ∧ Below w.heap.size w w'
set_option maxRecDepth 100000 in
set_option maxHeartbeats 1600000 in
theorem divide_at (u v : Value) (M N : Nat) (w : World) (hu : LimbAt w u M) (hv : LimbAt w v N) (hM : M < 4294967296) (h0 : 0 < N) (hN : N < 4294967296) :
    Calls Tryz.prog 146 #[u, v] w (DivPost M N w) := by
  have HU := Lib.hid hu
  have HV := Lib.hid hv
  have HL := Lib.hid (lim_pos (show ¬ N = 0 by omega))
  rcases hv with ⟨h, _⟩ | ⟨_, b, c, rfl, hc, hb, hcell⟩
  · omega
  clear hu
  by_cases hlt : M < N
  · have HC : Hid (cmpN M N = -1) := Lib.hid (by unfold cmpN; rw [if_pos hlt])
    have HR : Hid (M % N = M) := Lib.hid (Nat.mod_eq_of_lt hlt)
    go_enter Tryz.func146, Tryz.ntmps146
    go_wp2_with fail
    refine (size_raw _ N _ HV.out.raw).mono ?_
    rintro e w1 ⟨rfl, rfl⟩
    rw [HL.out]
    go_wp2_with fail
    refine (compare_at _ _ M N _ HU.out HV.out).mono ?_
    rintro e w1 ⟨rfl, n, rfl⟩
    rw [HC.out]
    have HU2 := Lib.hid (HU.out.below (below_drewN (Below.refl _ _) n))
    go_wp2_with fail
    refine (trim_raw _ M _ HU2.out.raw).mono ?_
    rintro e w2 ⟨r, rfl, hf, hb2⟩
    have HP : Hid (DivPost M N w (.returned (.tuple #[.slice none 0 0, r, .bool true])) w2) := Lib.hid ⟨_, _, rfl, Or.inl rfl, by rw [HR.out]; exact hf.limb, chain0 (below_drewN (Below.refl _ _) n) hb2⟩
    clear hf hb2
    go_wp2_with fail
    exact bodyPost_ret (v := .tuple #[.slice none 0 0, r, .bool true]) (by simp [results, Tryz.results146, go_sem]) rfl HP.out
  · have HC : Hid (cmpN M N = 0 ∨ cmpN M N = 1) := Lib.hid (by unfold cmpN; rw [if_neg hlt]; split <;> simp)
    go_enter Tryz.func146, Tryz.ntmps146
    go_wp2_with fail
    refine (size_raw _ N _ HV.out.raw).mono ?_
    rintro e w1 ⟨rfl, rfl⟩
    rw [HL.out]
    go_wp2_with fail
    refine (compare_at _ _ M N _ HU.out HV.out).mono ?_
    rintro e w1 ⟨rfl, n, rfl⟩
    have HU2 := Lib.hid (HU.out.below (below_drewN (Below.refl _ _) n))
    generalize cmpN M N = z at *
    rcases HC.out with rfl | rfl
    all_goals
      go_wp2_with fail
      refine (short_at _ M N _ HU2.out hM h0 hN).mono ?_
      rintro e w2 ⟨q, rfl, hf, hb2⟩
      have HF := Lib.hid hf.limb
      have HB2 := Lib.hid (chain0 (below_drewN (Below.refl w.heap.size w) n) hb2)
      have hml : M % N < 4294967296 := Nat.lt_of_le_of_lt (Nat.mod_le _ _) hM
      obtain ⟨R, hR⟩ : ∃ R, R = M % N := ⟨_, rfl⟩
      have HR := Lib.hid hR
      rw [← hR] at hml ⊢
      clear hf hb2 hR
      go_wp2_with fail
      refine (fromUint_at R _ hml).mono ?_
      rintro e w3 ⟨r, rfl, hf, hb3⟩
      have HP : Hid (DivPost M N w (.returned (.tuple #[q, r, .bool true])) w3) := Lib.hid ⟨_, _, rfl, Or.inr (HF.out.below hb3), by rw [← HR.out]; exact hf.limb, chain0 HB2.out hb3⟩
      clear hf hb3
      go_wp2_with fail
      exact bodyPost_ret (v := .tuple #[q, r, .bool true]) (by simp [results, Tryz.results146, go_sem]) rfl HP.out
/-- The number that a slice of at most one limb bears. -/
def limbV (w : World) : Value → Nat
  | .slice (some a) 1 _ => match w.cell? a with | some v => (intOf v).toNat | none => 0
  | _ => 0
theorem limbV_of {w : World} {v : Value} {N : Nat} (h : LimbAt w v N) : limbV w v = N := by
  rcases h with ⟨rfl, a, c, rfl⟩ | ⟨h0, b, c, rfl, _, _, hc⟩
  · rfl
  · simp [limbV, hc, intOf]
def GcdPost (w : World) (e : Ending) (w' : World) : Prop := ∃ g G, e = .returned g ∧ LimbAt w' g G ∧ 0 < G ∧ G < 4294967296 ∧ Below w.heap.size w w'
set_option maxRecDepth 100000 in
set_option maxHeartbeats 1600000 in
theorem gcd_at (u v : Value) (M N : Nat) (w : World) (hu : LimbAt w u M) (hv : LimbAt w v N) (hM : M < 4294967296) (h0 : 0 < N) (hN : N < 4294967296) :
    Calls Tryz.prog 145 #[u, v] w (GcdPost w) := by
  have HU := Lib.hid hu
  have HV := Lib.hid hv
  clear hu hv
  go_enter Tryz.func145, Tryz.ntmps145
  go_wp2_with fail
  refine (trim_raw _ M _ HU.out.raw).mono ?_
  rintro e w1 ⟨a, rfl, hf, hb1⟩
  have HA := Lib.hid hf.limb
  have HB1 := Lib.hid hb1
  clear hf hb1
  go_wp2_with fail
  refine (trim_raw _ N _ (HV.out.below HB1.out).raw).mono ?_
  rintro e w2 ⟨b, rfl, hf, hb2⟩
  have HA2 := Lib.hid (HA.out.below hb2)
  have HB := Lib.hid hf.limb
  have HB2 := Lib.hid (chain0 HB1.out hb2)
  clear hf hb2
  go_wp2_with fail
  go_loopw [0, 1] (fun a b wr => ∃ A B, LimbAt wr a A ∧ LimbAt wr b B ∧ A < 4294967296 ∧ B < 4294967296 ∧ (0 < A ∨ 0 < B) ∧ Below w.heap.size w wr) (fun _ b wr => limbV wr b)
  case atStart => exact ⟨M, N, HA2.out, HB.out, hM, hN, Or.inr h0, HB2.out⟩
  case round =>
    obtain ⟨A, B, hA, hB, hAl, hBl, hAB, hbr⟩ := hrel
    have HA := Lib.hid hA
    have HB := Lib.hid hB
    have HBR := Lib.hid hbr
    clear hA hbr
    by_cases hB0 : B = 0
    · have HP : Hid (GcdPost w (.returned u0) wr) := Lib.hid ⟨u0, A, rfl, HA.out, by omega, hAl, HBR.out⟩
      rcases hB with ⟨_, a, c, rfl⟩ | ⟨h, _⟩
      · go_wp2
        go_ret
        exact HP.out
      · omega
    · rcases hB with ⟨h, _⟩ | ⟨_, b', c', rfl, hc', hlt', hcell'⟩
      · omega
      go_wp2_with fail
      refine (divide_at _ _ A B _ HA.out HB.out hAl (by omega) hBl).mono ?_
      rintro e w3 ⟨q, r, rfl, hq, hr, hb3⟩
      have hml : A % B < B := Nat.mod_lt _ (by omega)
      have HN : Hid (LimbAt w3 (.slice (some ⟨b', 0, none⟩) 1 c') B ∧ LimbAt w3 r (A % B) ∧ Below w.heap.size w w3) := Lib.hid ⟨HB.out.below hb3, hr, chain0 HBR.out hb3⟩
      have HV1 := Lib.hid (limbV_of hr)
      have HV2 := Lib.hid (limbV_of HB.out)
      clear hq hr hb3
      go_wp2_with fail
      go_roundw
      case rel => exact ⟨B, A % B, HN.out.1, HN.out.2.1, hBl, by omega, Or.inl (by omega), HN.out.2.2⟩
      case measure => rw [HV1.out, HV2.out]; exact hml
end Go.Proofs.YtenjefbplpbjaaaGreatDoor
