/- Contracts of the reference's two, number and ParseDate. -/
import Derived.Test.YtpknkomkldgnfaaDoorE2
import Derived.Lib.SlBytesRow
namespace Go.Proofs.YtpknkomkldgnfaaDoor
open Go.RowKit Go.Sort Cal
set_option maxRecDepth 100000 in
theorem two_any (n : Nat) (w : World) (hn : n < 100) : Calls Tryd.prog 56 #[.int .i64 n] w fun e w' => e = .returned (.string (bs (dig2 n))) ∧ Below w.heap.size w w' := by
  have kc : (convert 51 9 (.slice (some ⟨w.heap.size, 0, none⟩) 2 2)).run Tryd.prog (w.alloc (.cells #[.int .u8 (48 + (n : Int) / 10), .int .u8 (48 + (n : Int) % 10)] 5)) = .ok (.string (bs (dig2 n))) (w.alloc (.cells #[.int .u8 (48 + (n : Int) / 10), .int .u8 (48 + (n : Int) % 10)] 5)) := by
    have h := Lib.run_convert_whole (P := Tryd.prog) (w.alloc (.cells #[.int .u8 (48 + (n : Int) / 10), .int .u8 (48 + (n : Int) % 10)] 5)) 51 5 9 Tryd.underlying51 Tryd.underlying5 Tryd.underlying9 w.heap.size 0 (bs (dig2 n)) (by
      intro i hi
      have a := ofNat_toNat (n / 10) (by omega)
      have b := ofNat_toNat (n % 10) (by omega)
      have hi2 : i = 0 ∨ i = 1 := by have : (bs (dig2 n)).size = 2 := bs_size _; omega
      rcases hi2 with rfl | rfl
      · have e : ((bs (dig2 n))[0]).toNat = 48 + n / 10 := a
        rw [e]; simp
      · have e : ((bs (dig2 n))[1]).toNat = 48 + n % 10 := b
        rw [e]; simp) 2
    have e : (bs (dig2 n)).size = 2 := bs_size _
    rw [e] at h
    exact h
  go_enter Tryd.func56, Tryd.ntmps56
  go_wp2
  go_ret
  exact ⟨rfl, by go_grown⟩
theorem digits_any (s : ByteArray) (i n : Nat) (w : World) (hn : n ≤ 4) (hi : i + n ≤ s.size) (hs : s.size ≤ 1000) : Calls Tryd.prog 59 #[.string s, .int .i64 i, .int .i64 n] w fun e w' => e = .returned (.int .i64 (numF 0 ((s.data.toList.drop i).take n))) ∧ w = w' := by
  go_enter Tryd.func59, Tryd.ntmps59
  go_wp2_with fail
  go_loop [7, 8] (fun o q => ∃ (k : Nat) (out : Int), k ≤ n ∧ q = .int .i64 ((i + k : Nat) : Int) ∧ o = .int .i64 out ∧ 0 ≤ out ∧ out < 10 ^ k ∧ numF out ((s.data.toList.drop (i + k)).take (n - k)) = numF 0 ((s.data.toList.drop i).take n)) (fun _ q => i + n - (intOf q).toNat)
  case atStart => exact ⟨0, 0, Nat.zero_le _, rfl, rfl, by omega, by simp, rfl⟩
  case round =>
    obtain ⟨k, out, hk, rfl, rfl, ho0, ho1, hnum⟩ := hrel
    have HN := Lib.hid hnum
    clear hnum
    have hp : (10 : Int) ^ k ≤ 10000 := by
      have hk4 : k = 0 ∨ k = 1 ∨ k = 2 ∨ k = 3 ∨ k = 4 := by omega
      rcases hk4 with rfl | rfl | rfl | rfl | rfl <;> decide
    by_cases hlt : k < n
    · have hlt2 : i + k < s.size := by omega
      obtain ⟨c, hc⟩ : ∃ c : Nat, c = (s[i + k]'hlt2).toNat := ⟨_, rfl⟩
      have HS : Hid (numF out ((s.data.toList.drop (i + k)).take (n - k)) = if c < 48 ∨ 57 < c then -1 else numF (10 * out + ((c : Int) - 48)) ((s.data.toList.drop (i + (k + 1))).take (n - (k + 1)))) := Lib.hid (by
        have hl : i + k < s.data.toList.length := by rw [← Lib.size_eq]; exact hlt2
        rw [List.drop_eq_getElem_cons hl, show n - k = (n - (k + 1)) + 1 by omega, List.take_succ_cons, numF_cons]
        have e : (s.data.toList[i + k]).toNat = c := by rw [hc]; rfl
        rw [e]; rfl)
      have hpow : (10 : Int) ^ (k + 1) = 10 * 10 ^ k := by rw [Int.pow_succ]; omega
      have HP := Lib.hid hpow
      clear hpow
      by_cases hbad : c < 48 ∨ 57 < c
      · have HB : Hid (numF 0 ((s.data.toList.drop i).take n) = -1) := Lib.hid (by rw [← HN.out, HS.out, if_pos hbad])
        go_wp2
        all_goals first
          | (go_ret; exact ⟨ret_int HB.out.symm, rfl⟩)
          | (exfalso; omega)
      · go_wp2
        all_goals first
          | (exfalso; omega)
          | go_round
        case rel => exact ⟨k + 1, 10 * out + ((c : Int) - 48), by omega, by go_num, by rw [hc], by omega, by rw [HP.out]; omega, by rw [← HN.out, HS.out, if_neg hbad]⟩
        case measure => simp [intOf]; omega
    · obtain rfl : k = n := by omega
      have HB : Hid (numF 0 ((s.data.toList.drop i).take k) = out) := Lib.hid (by rw [← HN.out]; simp [numF])
      go_wp2
      go_ret
      exact ⟨ret_int HB.out.symm, rfl⟩
end Go.Proofs.YtpknkomkldgnfaaDoor
