/- Contracts of the program's Level, Parent, Path and Within: any short strings. -/
import Derived.Test.YtnmcmnllmnpjkaaGreatDoorG3
namespace Go.Proofs.YtnmcmnllmnpjkaaGreatDoor
open Go.RowKit Go.Sort Cal Go.Maps
theorem empty_no {s : ByteArray} (h : s.size ≠ 0) : s.toList.isEmpty = false := by
  rw [ByteArray.toList_eq]
  cases h2 : s.data.toList with
  | nil => exact absurd (by rw [Lib.size_eq, h2]; rfl) h
  | cons _ _ => rfl
theorem size_code {s : ByteArray} {P : List Int} (h : parseO s = some P) : s.size ≠ 0 := by
  obtain ⟨a, e⟩ := parseO_some h
  rw [e]; exact codeB_pos a
set_option maxHeartbeats 800000 in
theorem level_any (s : ByteArray) (w : World) (hs : s.size ≤ 1000) (hE : Env w) :
    Calls Tryz.prog 19 #[.string s] w fun e w' => e = .returned (.int .i64 (levelV s)) ∧ Below w.heap.size w w' := by
  have HE := Lib.hid hE
  clear hE
  cases hp : parseO s with
  | some P =>
    have HP := Lib.hid hp
    have HL : Hid (levelV s = P.length) := Lib.hid (by unfold levelV partsO; rw [if_neg (size_code hp), hp])
    clear hp
    go_enter Tryz.func19, Tryz.ntmps19
    go_wp2_with fail
    refine (parse_yes s P _ hs HP.out HE.out).mono ?_
    rintro e w1 ⟨sv, rfl, hown, hb⟩
    obtain ⟨p, c, rfl⟩ := own_form hown
    clear hown
    go_wp2
    go_ret
    exact ⟨by rw [HL.out]; rfl, hb⟩
  | none =>
    have HP := Lib.hid hp
    by_cases h0 : s.size = 0
    · have HL : Hid (levelV s = 0) := Lib.hid (by unfold levelV partsO; rw [if_pos h0]; rfl)
      have e := size_zero h0
      subst e
      clear hp h0
      go_enter Tryz.func19, Tryz.ntmps19
      go_wp2_with fail
      refine (parse_no emptyB _ hs HP.out HE.out).mono ?_
      rintro e w1 ⟨rfl, hb⟩
      unfold emptyB
      go_wp2
      go_ret
      exact ⟨by rw [HL.out]; rfl, hb⟩
    · have HL : Hid (levelV s = -1) := Lib.hid (by unfold levelV partsO; rw [if_neg h0, hp])
      have hne := empty_no h0
      clear hp h0
      go_enter Tryz.func19, Tryz.ntmps19
      go_wp2_with fail
      refine (parse_no s _ hs HP.out HE.out).mono ?_
      rintro e w1 ⟨rfl, hb⟩
      go_wp2
      go_ret
      exact ⟨by rw [HL.out]; rfl, hb⟩
set_option maxHeartbeats 800000 in
theorem parent_any (s : ByteArray) (w : World) (hs : s.size ≤ 1000) (hE : Env w) :
    Calls Tryz.prog 22 #[.string s] w fun e w' => e = .returned (.tuple #[.string (parentV s).1, .bool (parentV s).2]) ∧ Below w.heap.size w w' := by
  have HE := Lib.hid hE
  clear hE
  cases hp : parseO s with
  | some P =>
    have HV : Hid (parentV s = (cutLast s, true)) := Lib.hid (by
      obtain ⟨o, e⟩ := parseO_some hp
      have h1 : parentV s = (codeB P.dropLast, true) := by unfold parentV; rw [hp]
      rw [h1]
      have h2 : cutLast s = codeB P.dropLast := by rw [e]; exact cutLast_code P o
      rw [h2])
    have HB : Hid ((parseO s).isSome = true) := Lib.hid (by rw [hp]; rfl)
    have hlb := last_bd s.data.toList
    rw [← Lib.size_eq] at hlb
    obtain ⟨k, hk⟩ : ∃ k, k = Lib.lastIndex s.data.toList [46] := ⟨_, rfl⟩
    have HK := Lib.hid hk
    rw [← hk] at hlb
    have hk1 : (0 : Int) ≤ max k 0 := by omega
    have hk2 : max k 0 ≤ (s.size : Int) := by omega
    clear hp hk
    go_enter Tryz.func22, Tryz.ntmps22
    go_wp2_with fail
    refine (is_any s _ hs HE.out).mono ?_
    rintro e w1 ⟨rfl, hb⟩
    rw [HB.out]
    go_wp2_with fail
    refine (Tryz.strings_LastIndex s ⟨#[46]⟩ (by omega) _).mono ?_
    rintro e w2 ⟨rfl, rfl⟩
    rw [show (⟨#[46]⟩ : ByteArray).data.toList = [46] from rfl, ← HK.out]
    go_wp2
    go_ret2
    exact ⟨by rw [HV.out]; unfold cutLast; rw [← HK.out]; rfl, hb⟩
  | none =>
    have HV : Hid (parentV s = (emptyB, false)) := Lib.hid (by unfold parentV; rw [hp])
    have HB : Hid ((parseO s).isSome = false) := Lib.hid (by rw [hp]; rfl)
    clear hp
    go_enter Tryz.func22, Tryz.ntmps22
    go_wp2_with fail
    refine (is_any s _ hs HE.out).mono ?_
    rintro e w1 ⟨rfl, hb⟩
    rw [HB.out]
    go_wp2
    go_ret2
    exact ⟨by rw [HV.out]; rfl, hb⟩
theorem info9p : (Tryz.prog.info? 9).map (fun i => (i.zero, i.size, i.bytes)) = some (some (.string ⟨#[]⟩), 1, 16) := by kernel_rfl
/-- What Path gives: the ancestors and the code, in memory of its own. -/
def PathPost (s : ByteArray) (w : World) (e : Ending) (w' : World) : Prop :=
  ∃ sv, e = .returned sv ∧ w'.ownsRow w.heap.size 9 1 sv (pathV s).length ((pathV s).map Value.string) ∧ Below w.heap.size w w'
end Go.Proofs.YtnmcmnllmnpjkaaGreatDoor
