/- Contracts of Common, of the program and of the reference: any short strings. -/
import Derived.Test.YtnmcmnllmnpjkaaDoorBk
import Derived.Test.YtnmcmnllmnpjkaaDoorG9
import Derived.Test.YtnmcmnllmnpjkaaDoorCp
namespace Go.Proofs.YtnmcmnllmnpjkaaDoor
open Go.RowKit Go.Shelf Go.Sort Cal Go.Maps
theorem path_size (s : ByteArray) : ∀ x ∈ pathV s, x.size ≤ 15 := by
  intro x hx
  unfold pathV at hx
  cases hp : parseO s with
  | none => rw [hp] at hx; simp at hx
  | some P =>
    rw [hp] at hx
    obtain ⟨i, hi, e⟩ := mem_ups.1 hx
    have h1 := codeB_size (P.take (i + 1))
    have h2 := (parseO_some hp).1.2.1
    rw [List.length_take] at h1
    rw [e]; omega
theorem getD_size (ss : List ByteArray) (n : Nat) (h : ∀ x ∈ ss, x.size ≤ n) (k : Nat) : (ss.getD k ByteArray.empty).size ≤ n := by
  by_cases hk : k < ss.length
  · rw [List.getD, List.getElem?_eq_getElem hk]; exact h _ (List.getElem_mem hk)
  · rw [List.getD, List.getElem?_eq_none (by omega)]; exact Nat.zero_le _
set_option maxRecDepth 100000 in
set_option maxHeartbeats 1600000 in
theorem rcommon_any (a b : ByteArray) (w : World) (ha : a.size ≤ 1000) (hb : b.size ≤ 1000) :
    Calls Tryd.prog 38 #[.string a, .string b] w fun e w' => e = .returned (.string (commonV a b)) ∧ Below w.heap.size w w' := by
  have HV := Lib.hid (common_last a b)
  have HPL := Lib.hid (path_len a)
  have HPS := Lib.hid (path_size a)
  go_enter Tryd.func38, Tryd.ntmps38
  go_wp2_with fail
  refine (rpath_any a _ ha).mono ?_
  rintro e w1 ⟨sv, rfl, hown, hb1⟩
  have hS := strs_of_own hown rfl
  obtain ⟨ss, hss⟩ : ∃ ss, ss = pathV a := ⟨_, rfl⟩
  rw [← hss] at hS HV HPL HPS
  have hsl : ss.length ≤ 5 := HPL.out
  have HB1 := Lib.hid hb1
  clear hown hss hb1
  rcases hS with ⟨rfl, pv, cv, rfl⟩ | ⟨v0, bv, ov, cv, rfl, _, bvl, hvc⟩
  · go_wp2_with fail
    go_rounds 1
    go_ret
    exact ⟨by rw [HV.out]; rfl, HB1.out⟩
  have HC := Lib.hid hvc
  clear hvc
  go_wp2_with fail
  go_loopw [5, 11] (fun o q wr => ∃ k : Nat, k ≤ ss.length ∧ q = .int .i64 k ∧ o = .string (lastW b (ss.take k)) ∧ Below w1.heap.size w1 wr) (fun _ q _ => ss.length - (intOf q).toNat)
  case atStart => exact ⟨0, by omega, rfl, rfl, Below.refl _ _⟩
  case round =>
    obtain ⟨k, hk, rfl, rfl, hbr⟩ := hrel
    have HBR := Lib.hid hbr
    by_cases hlt : k < ss.length
    · have hc := (hbr.cell (p := ⟨bv, ov + k, none⟩) bvl).trans (HC.out k hlt)
      have hsz := getD_size ss 15 HPS.out k
      have HS : Hid (lastW b (ss.take (k + 1)) = if withinB b (ss.getD k ByteArray.empty) then ss.getD k ByteArray.empty else lastW b (ss.take k)) := Lib.hid (by
        rw [List.take_succ_eq_append_getElem hlt, lastW_snoc]; simp [List.getD, hlt])
      obtain ⟨x, ex⟩ : ∃ x, x = ss.getD k ByteArray.empty := ⟨_, rfl⟩
      obtain ⟨o, eo⟩ : ∃ o, o = lastW b (ss.take k) := ⟨_, rfl⟩
      rw [← ex] at hc hsz HS
      rw [← eo] at HS ⊢
      clear ex eo hbr
      go_wp2_with fail
      refine (rwithin_any b x _ hb).mono ?_
      rintro e w2 ⟨rfl, hb2⟩
      have HB2 := Lib.hid (chain0 HBR.out hb2)
      clear hb2
      cases hw : withinB b x with
      | true =>
        have HN : Hid (lastW b (ss.take (k + 1)) = x) := Lib.hid (by rw [HS.out, hw]; rfl)
        clear hw
        go_wp2_with fail
        go_roundw
        case rel => exact ⟨k + 1, by omega, by go_num, by rw [HN.out], HB2.out⟩
        case measure => simp [intOf]; omega
      | false =>
        have HN : Hid (lastW b (ss.take (k + 1)) = o) := Lib.hid (by rw [HS.out, hw]; rfl)
        clear hw
        go_wp2_with fail
        go_roundw
        case rel => exact ⟨k + 1, by omega, by go_num, by rw [HN.out], HB2.out⟩
        case measure => simp [intOf]; omega
    · obtain rfl : k = ss.length := by omega
      have HN : Hid (lastW b (ss.take ss.length) = commonV a b) := Lib.hid (by rw [HV.out, List.take_length])
      rw [HN.out]
      go_wp2
      go_ret
      exact ⟨rfl, chain0 HB1.out HBR.out⟩
end Go.Proofs.YtnmcmnllmnpjkaaDoor
