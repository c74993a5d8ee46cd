/- Contracts of the plan's small helpers: number, hidden, shown, the tables of names, place. -/
import Derived.Test.YtenjefbplpbjaaaGreatDoorBs
namespace Go.Proofs.YtenjefbplpbjaaaGreatDoor
open Go.RowKit Go.Sort Cal Go.Maps
theorem number_of (s : ByteArray) (v : Int) (w : World) (hs : s.size ≤ 1000) (h : Lib.atoiAll s.data.toList = .ok v) :
    Calls Tryz.prog 60 #[.string s] w fun e w' => e = .returned (.tuple #[.int .i64 v, .bool true]) ∧ Below w.heap.size w w' := by
  have C : Calls Tryz.prog 107 #[.string s] w fun e w' => e = .returned (.tuple #[.int .i64 v, .nilIface]) ∧ Below w.heap.size w w' :=
    (Any.strconv_Atoi_ok Tryz.laysC172 s (by omega) _ h w).mono fun _ _ ⟨he, hw⟩ => ⟨he, by
      rcases hw with rfl | ⟨t, rfl⟩
      · exact Below.refl _ _
      · exact Lib.bytesWorld_below _ _ _⟩
  clear h
  go_enter Tryz.func60, Tryz.ntmps60
  go_wp2_with fail
  refine C.mono ?_
  rintro e w1 ⟨rfl, hb⟩
  clear C
  go_wp2
  go_quiet (fail)
  go_wp2
  go_ret2
  exact ⟨rfl, below_drewN hb _⟩
theorem hidden_all (w : World) : Calls Tryz.prog 173 #[.string ⟨#[97, 108, 108]⟩] w fun e w' => e = .returned (.string ⟨#[]⟩) ∧ w = w' := by
  have hb : ((⟨#[97, 108, 108]⟩ : ByteArray).toList == (⟨#[97, 108, 108]⟩ : ByteArray).toList) = true := by simp
  go_enter Tryz.func173, Tryz.ntmps173
  go_wp2
  go_ret
  exact ⟨rfl, rfl⟩
theorem shown_all (w : World) : Calls Tryz.prog 45 #[.string ⟨#[]⟩] w fun e w' => e = .returned (.string ⟨#[97, 108, 108]⟩) ∧ w = w' := by
  go_enter Tryz.func45, Tryz.ntmps45
  go_wp2
  go_ret
  exact ⟨rfl, rfl⟩
theorem methods_any (w : World) : Calls Tryz.prog 46 #[] w fun e w' => e = .returned (.agg #[.string ⟨#[]⟩, .string ⟨#[106, 101, 118, 111, 110, 115]⟩, .string ⟨#[100, 117, 116, 111, 116]⟩, .string ⟨#[99, 97, 114, 108, 105]⟩, .string ⟨#[104, 97, 114, 109, 111, 110, 105, 99]⟩, .string ⟨#[104, 121, 98, 114, 105, 100]⟩, .string ⟨#[103, 101, 107, 115]⟩, .string ⟨#[103, 101, 97, 114, 121]⟩, .string ⟨#[100, 117, 109, 109, 121]⟩, .string ⟨#[116, 97, 114, 105, 102, 102]⟩]) ∧ Below w.heap.size w w' := by
  go_enter Tryz.func46, Tryz.ntmps46
  go_wp2
  exact bodyPost_ret (v := .agg #[.string ⟨#[]⟩, .string ⟨#[106, 101, 118, 111, 110, 115]⟩, .string ⟨#[100, 117, 116, 111, 116]⟩, .string ⟨#[99, 97, 114, 108, 105]⟩, .string ⟨#[104, 97, 114, 109, 111, 110, 105, 99]⟩, .string ⟨#[104, 121, 98, 114, 105, 100]⟩, .string ⟨#[103, 101, 107, 115]⟩, .string ⟨#[103, 101, 97, 114, 121]⟩, .string ⟨#[100, 117, 109, 109, 121]⟩, .string ⟨#[116, 97, 114, 105, 102, 102]⟩]) (by simp [results, Tryz.results46, go_sem]) rfl ⟨rfl, by go_grown⟩
theorem splices_any (w : World) : Calls Tryz.prog 47 #[] w fun e w' => e = .returned (.agg #[.string ⟨#[]⟩, .string ⟨#[109, 111, 118, 101, 109, 101, 110, 116]⟩, .string ⟨#[119, 105, 110, 100, 111, 119]⟩, .string ⟨#[104, 97, 108, 102]⟩, .string ⟨#[109, 101, 97, 110]⟩]) ∧ Below w.heap.size w w' := by
  go_enter Tryz.func47, Tryz.ntmps47
  go_wp2
  exact bodyPost_ret (v := .agg #[.string ⟨#[]⟩, .string ⟨#[109, 111, 118, 101, 109, 101, 110, 116]⟩, .string ⟨#[119, 105, 110, 100, 111, 119]⟩, .string ⟨#[104, 97, 108, 102]⟩, .string ⟨#[109, 101, 97, 110]⟩]) (by simp [results, Tryz.results47, go_sem]) rfl ⟨rfl, by go_grown⟩
theorem steps_any (w : World) : Calls Tryz.prog 94 #[] w fun e w' => e = .returned (.agg #[.string ⟨#[]⟩, .string ⟨#[99, 108, 97, 115, 115]⟩, .string ⟨#[112, 97, 114, 101, 110, 116]⟩, .string ⟨#[99, 97, 114, 114, 121]⟩, .string ⟨#[100, 114, 111, 112]⟩]) ∧ Below w.heap.size w w' := by
  go_enter Tryz.func94, Tryz.ntmps94
  go_wp2
  exact bodyPost_ret (v := .agg #[.string ⟨#[]⟩, .string ⟨#[99, 108, 97, 115, 115]⟩, .string ⟨#[112, 97, 114, 101, 110, 116]⟩, .string ⟨#[99, 97, 114, 114, 121]⟩, .string ⟨#[100, 114, 111, 112]⟩]) (by simp [results, Tryz.results94, go_sem]) rfl ⟨rfl, by go_grown⟩
theorem place_at (b n c : Nat) (ss : List ByteArray) (nm : ByteArray) (i : Nat) (w : World) (hn : n = ss.length) (hc : ∀ j, j < ss.length → w.cell? ⟨b, j, none⟩ = some (.string (ss.getD j ByteArray.empty))) (h20 : n ≤ 20) (h1 : 1 ≤ i) (hi : i < n)
    (hno : ∀ j, 1 ≤ j → j < i → ((ss.getD j ByteArray.empty).toList == nm.toList) = false) (hyes : ((ss.getD i ByteArray.empty).toList == nm.toList) = true) :
    Calls Tryz.prog 174 #[.slice (some ⟨b, 0, none⟩) n c, .string nm] w fun e w' => e = .returned (.tuple #[.int .i64 i, .bool true]) ∧ w = w' := by
  have HC := Lib.hid hc
  have HN := Lib.hid hno
  have HY := Lib.hid hyes
  have HL := Lib.hid hn
  clear hc hno hyes hn
  go_enter Tryz.func174, Tryz.ntmps174
  go_wp2_with fail
  go_loopw [10] (fun j wr => ∃ k : Nat, k ≤ i ∧ j = .int .i64 k ∧ wr = w) (fun j _ => n - (intOf j).toNat)
  case atStart => exact ⟨0, by omega, rfl, rfl⟩
  case round =>
    obtain ⟨k, hk, rfl, rfl⟩ := hrel
    have hcell : wr.cell? ⟨b, 0 + k, none⟩ = some (.string (ss.getD k ByteArray.empty)) := by rw [Nat.zero_add]; exact HC.out k (by have := HL.out; omega)
    have hcell' : wr.cell? ⟨b, k, none⟩ = some (.string (ss.getD k ByteArray.empty)) := HC.out k (by have := HL.out; omega)
    by_cases h0 : k = 0
    · subst h0
      generalize ss.getD 0 ByteArray.empty = x at *
      go_wp2_with fail
      go_roundw
      case rel => exact ⟨1, by omega, by go_num, by trivial⟩
      case measure => simp [intOf]; omega
    · by_cases hki : k < i
      · have hb := HN.out k (by omega) hki
        generalize ss.getD k ByteArray.empty = x at *
        go_wp2_with fail
        go_roundw
        case rel => exact ⟨k + 1, by omega, by go_num, by trivial⟩
        case measure => simp [intOf]; omega
      · obtain rfl : k = i := by omega
        have hb := HY.out
        generalize ss.getD k ByteArray.empty = x at *
        go_wp2
        go_ret2
        exact ⟨rfl, rfl⟩
end Go.Proofs.YtenjefbplpbjaaaGreatDoor
