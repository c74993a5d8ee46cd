/- Contracts of the program's Level, Parent, Path and Within: any short strings. -/
import Derived.Test.YtenjefbplpbjaaaGreatDoorG3
namespace Go.Proofs.YtenjefbplpbjaaaGreatDoor
open Go.RowKit Go.Sort Cal Go.Maps
theorem empty_no {s : ByteArray} (h : s.size ≠ 0) : s.toList.isEmpty = false := by
  rw [ByteArray.toList_eq]
  cases h2 : s.data.toList with
  | nil => exact absurd (by rw [Lib.size_eq, h2]; rfl) h
  | cons _ _ => rfl
theorem size_code {s : ByteArray} {P : List Int} (h : parseO s = some P) : s.size ≠ 0 := by
  obtain ⟨a, e⟩ := parseO_some h
  rw [e]; exact codeB_pos a
set_option maxHeartbeats 800000 in
theorem level_any (s : ByteArray) (w : World) (hs : s.size ≤ 2000000) (hE : Env w) :
    Calls Tryz.prog 34 #[.string s] w fun e w' => e = .returned (.int .i64 (levelV s)) ∧ Below w.heap.size w w' := by
  have HE := Lib.hid hE
  clear hE
  cases hp : parseO s with
  | some P =>
    have HP := Lib.hid hp
    have HL : Hid (levelV s = P.length) := Lib.hid (by unfold levelV partsO; rw [if_neg (size_code hp), hp])
    clear hp
    go_enter Tryz.func34, Tryz.ntmps34
    go_wp2_with fail
    refine (parse_yes s P _ hs HP.out HE.out).mono ?_
    rintro e w1 ⟨sv, rfl, hown, hb⟩
    obtain ⟨p, c, rfl⟩ := own_form hown
    clear hown
    go_wp2
    go_ret
    exact ⟨by rw [HL.out]; rfl, hb⟩
  | none =>
    have HP := Lib.hid hp
    by_cases h0 : s.size = 0
    · have HL : Hid (levelV s = 0) := Lib.hid (by unfold levelV partsO; rw [if_pos h0]; rfl)
      have e := size_zero h0
      subst e
      clear hp h0
      go_enter Tryz.func34, Tryz.ntmps34
      go_wp2_with fail
      refine (parse_no emptyB _ hs HP.out HE.out).mono ?_
      rintro e w1 ⟨rfl, hb⟩
      unfold emptyB
      go_wp2
      go_ret
      exact ⟨by rw [HL.out]; rfl, hb⟩
    · have HL : Hid (levelV s = -1) := Lib.hid (by unfold levelV partsO; rw [if_neg h0, hp])
      have hne := empty_no h0
      clear hp h0
      go_enter Tryz.func34, Tryz.ntmps34
      go_wp2_with fail
      refine (parse_no s _ hs HP.out HE.out).mono ?_
      rintro e w1 ⟨rfl, hb⟩
      go_wp2
      go_ret
      exact ⟨by rw [HL.out]; rfl, hb⟩
theorem info9p : (Tryz.prog.info? 9).map (fun i => (i.zero, i.size, i.bytes)) = some (some (.string ⟨#[]⟩), 1, 16) := by kernel_rfl
end Go.Proofs.YtenjefbplpbjaaaGreatDoor
