/- Contracts of the reference's Is and Format: any short string, any list of numbers. -/
import Derived.Test.YtkgkjoologjehaaGreatDoorG2
import Derived.Lib.SlBytesRow
namespace Go.Proofs.YtkgkjoologjehaaGreatDoor
open Go.RowKit Go.Sort Cal Go.Maps
theorem rparse_yes (s : ByteArray) (P : List Int) (w : World) (hs : s.size ≤ 2000000) (hp : parseO s = some P) :
    Calls Tryz.prog 54 #[.string s] w (ParseYes P w) := (rparse_any s w hs).mono fun _ _ h => h.1 P hp
theorem rparse_no (s : ByteArray) (w : World) (hs : s.size ≤ 2000000) (hp : parseO s = none) :
    Calls Tryz.prog 54 #[.string s] w (ParseNo w) := (rparse_any s w hs).mono fun _ _ h => h.2 hp
theorem ris_any (s : ByteArray) (w : World) (hs : s.size ≤ 2000000) :
    Calls Tryz.prog 208 #[.string s] w fun e w' => e = .returned (.bool (parseO s).isSome) ∧ Below w.heap.size w w' := by
  cases hp : parseO s with
  | none =>
    have HP := Lib.hid hp
    clear hp
    go_enter Tryz.func208, Tryz.ntmps208
    go_wp2_with fail
    refine (rparse_no s _ hs HP.out).mono ?_
    rintro e w1 ⟨rfl, hb⟩
    go_wp2_with fail
    go_ret
    exact ⟨rfl, hb⟩
  | some P =>
    have HP := Lib.hid hp
    clear hp
    go_enter Tryz.func208, Tryz.ntmps208
    go_wp2_with fail
    refine (rparse_yes s P _ hs HP.out).mono ?_
    rintro e w1 ⟨sv, rfl, _, hb⟩
    go_wp2_with fail
    go_ret
    exact ⟨rfl, hb⟩
def dg1 (n : Int) : ByteArray := bs [UInt8.ofNat (48 + n.toNat)]
theorem dg1_size (n : Int) : (dg1 n).size = 1 := bs_size _
theorem conv_one (n : Int) (h0 : 0 ≤ n) (h1 : n ≤ 9) (W : World) : (convert 125 9 (.slice (some ⟨W.heap.size, 0, none⟩) 1 1)).run Tryz.prog (W.alloc (.cells #[.int .u8 (48 + n)] 5)) = .ok (.string (dg1 n)) (W.alloc (.cells #[.int .u8 (48 + n)] 5)) := by
  have h := Lib.run_convert_whole (P := Tryz.prog) (W.alloc (.cells #[.int .u8 (48 + n)] 5)) 125 5 9 Tryz.underlying125 Tryz.underlying5 Tryz.underlying9 W.heap.size 0 (dg1 n) (by
      intro i hi
      have a := ofNat_toNat n.toNat (by omega)
      obtain rfl : i = 0 := by rw [dg1_size] at hi; omega
      have e : ((dg1 n)[0]).toNat = 48 + n.toNat := a
      rw [e]; simp; omega) 1
  rw [dg1_size] at h
  exact h
theorem wd_one (n : Int) (h0 : 1 ≤ n) (h1 : n ≤ 9) : bs (wd n.toNat) = dg1 (n % 10) := by
  unfold wd dg1
  rw [if_pos (by omega), show (n % 10).toNat = n.toNat by omega]
theorem wd_two (n : Int) (h0 : 1 ≤ n) (h1 : n ≤ 99) : dg1 (n / 10) ++ dg1 (n % 10) = bs (dig2 n.toNat) := by
  unfold dg1 dig2
  rw [bs_append, show (n / 10).toNat = n.toNat / 10 by omega, show (n % 10).toNat = n.toNat % 10 by omega]
  rfl
theorem code_first (n : Int) (h0 : 1 ≤ n) (h1 : n ≤ 99) : dg1 (n / 10) ++ dg1 (n % 10) = codeB [n] := by
  rw [wd_two n h0 h1]; unfold codeB codeL tailL; simp
theorem code_next (P : List Int) (n : Int) (hP : P ≠ []) : codeB P ++ (⟨#[46]⟩ : ByteArray) ++ bs (wd n.toNat) = codeB (P ++ [n]) := by
  have e : codeB P ++ (⟨#[46]⟩ : ByteArray) = bs (codeL P ++ [46]) := bs_append _ [46]
  unfold codeB at e ⊢
  rw [e, bs_append, codeL_snoc P n hP]
  simp
theorem take_snoc (zs : List Int) (k : Nat) (h : k < zs.length) : zs.take (k + 1) = zs.take k ++ [zs.getD k 0] := by
  rw [List.take_succ_eq_append_getElem h, List.getD, List.getElem?_eq_getElem h]; rfl
/-- What Format gives. -/
def FormatV (zs : List Int) : Value := if okP zs then .tuple #[.string (codeB zs), .int .i64 0] else .tuple #[.string emptyB, .int .i64 64]
set_option maxRecDepth 100000 in
set_option maxHeartbeats 1600000 in
theorem rformat_any (sv : Value) (zs : List Int) (w : World) (hz : IntsAt w sv zs) (hl : zs.length ≤ 9223372036854775807) :
    Calls Tryz.prog 102 #[sv] w fun e w' => e = .returned (FormatV zs) ∧ Below w.heap.size w w' := by
  rcases hz with ⟨rfl, p, c, rfl⟩ | ⟨h0, b, off, cap, rfl, hcl, hlt, hc⟩
  · go_enter Tryz.func102, Tryz.ntmps102
    go_wp2
    go_ret2
    exact ⟨rfl, Below.refl _ _⟩
  have HC := Lib.hid hc
  clear hc
  by_cases h5 : 5 < zs.length
  · have HF : Hid (FormatV zs = .tuple #[.string emptyB, .int .i64 64]) := Lib.hid (by unfold FormatV; rw [if_neg (fun h => by have := h.2.1; omega)])
    go_enter Tryz.func102, Tryz.ntmps102
    go_wp2
    go_ret2
    exact ⟨by rw [HF.out]; rfl, Below.refl _ _⟩
  go_enter Tryz.func102, Tryz.ntmps102
  go_wp2_with fail
  go_loopw [4, 17] (fun v i wr => ∃ (k : Nat) (t : ByteArray), k ≤ zs.length ∧ i = .int .i64 k ∧ v = .string t ∧ t = codeB (zs.take k) ∧ inP (zs.take k) ∧ Below w.heap.size w wr) (fun _ i _ => zs.length - (intOf i).toNat)
  case atStart => exact ⟨0, emptyB, by omega, rfl, rfl, rfl, fun n hn => by simp at hn, Below.refl _ _⟩
  case round =>
    obtain ⟨k, t, hk, rfl, rfl, ht, hin, hbr⟩ := hrel
    have HT := Lib.hid ht
    have HIN := Lib.hid hin
    have hts : t.size ≤ 15 := by
      have := codeB_size (zs.take k)
      rw [List.length_take] at this
      rw [ht]; omega
    clear ht hin
    by_cases hlt2 : k < zs.length
    · have hcell : wr.cell? ⟨b, off + k, none⟩ = some (.int .i64 (zs.getD k 0)) := (hbr.cell (p := ⟨b, off + k, none⟩) hlt).trans (HC.out k hlt2)
      have HTS := Lib.hid (take_snoc zs k hlt2)
      have hmem : zs.getD k 0 ∈ zs := by rw [List.getD, List.getElem?_eq_getElem hlt2]; simp
      have HM := Lib.hid hmem
      obtain ⟨n, en⟩ : ∃ n, n = zs.getD k 0 := ⟨_, rfl⟩
      rw [← en] at hcell HTS HM
      clear en hmem
      by_cases hbad : n < 1 ∨ 99 < n
      · have HF : Hid (FormatV zs = .tuple #[.string emptyB, .int .i64 64]) := Lib.hid (by
          unfold FormatV; rw [if_neg (fun h => by have := h.2.2 n HM.out; omega)])
        have hlh : n < 1 ∨ (1 ≤ n ∧ 99 < n) := by omega
        clear hbad
        rcases hlh with hlo | ⟨hlo, hhi⟩
        all_goals
          go_wp2
          go_ret2
          exact ⟨by rw [HF.out]; rfl, hbr⟩
      · have hn1 : 1 ≤ n := by omega
        have hn99 : n ≤ 99 := by omega
        have HI2 : Hid (inP (zs.take (k + 1))) := Lib.hid (by
          rw [HTS.out]
          intro x hx
          rcases List.mem_append.1 hx with h | h
          · exact HIN.out x h
          · rw [List.mem_singleton.1 h]; exact ⟨hn1, hn99⟩)
        have kc1 := conv_one (n / 10) (by omega) (by omega)
        have kc2 := conv_one (n % 10) (by omega) (by omega)
        have kc3 : (convert 125 9 (.slice (some ⟨wr.heap.size + 1, 0, none⟩) 1 1)).run Tryz.prog ((wr.alloc (.cells #[.int .u8 (48 + n / 10)] 5)).alloc (.cells #[.int .u8 (48 + n % 10)] 5)) = .ok (.string (dg1 (n % 10))) ((wr.alloc (.cells #[.int .u8 (48 + n / 10)] 5)).alloc (.cells #[.int .u8 (48 + n % 10)] 5)) := by
          have h := kc2 (wr.alloc (.cells #[.int .u8 (48 + n / 10)] 5))
          rw [World.size_alloc] at h
          exact h
        have hb1 : Below w.heap.size w (wr.alloc (.cells #[.int .u8 (48 + n % 10)] 5)) := hbr.alloc hbr.size _
        have hb2 : Below w.heap.size w ((wr.alloc (.cells #[.int .u8 (48 + n / 10)] 5)).alloc (.cells #[.int .u8 (48 + n % 10)] 5)) := (hbr.alloc hbr.size _).alloc (by have := hbr.size; simp; omega) _
        have HB1 := Lib.hid hb1
        have HB2 := Lib.hid hb2
        clear hb1 hb2
        have hd1 := dg1_size (n / 10)
        have hd2 := dg1_size (n % 10)
        have hd1' : (dg1 (n / 10)).size ≤ 1 := by omega
        have hd2' : (dg1 (n % 10)).size ≤ 1 := by omega
        clear hd1 hd2 hbad
        by_cases hk0 : k = 0
        · subst hk0
          rw [Nat.add_zero] at hcell
          have ht0 : Hid (t ++ dg1 (n / 10) ++ dg1 (n % 10) = codeB (zs.take 1)) := Lib.hid (by
            rw [HT.out, HTS.out, ByteArray.append_assoc, code_first n hn1 hn99]
            show emptyB ++ codeB [n] = codeB [n]
            exact ByteArray.empty_append)
          by_cases hn9 : 9 < n
          all_goals
            go_wp2_with fail
            go_roundw
            case rel => exact ⟨0 + 1, t ++ dg1 (n / 10) ++ dg1 (n % 10), by omega, by go_num, rfl, ht0.out, HI2.out, HB2.out⟩
            case measure => simp [intOf]; omega
        · have hkb : ((k : Int) == 0) = false := by rw [beq_eq_false_iff_ne]; omega
          have hne : zs.take k ≠ [] := by
            intro h
            have h1 : (zs.take k).length = 0 := by rw [h]; rfl
            rw [List.length_take] at h1
            omega
          have HX : Hid (t ++ (⟨#[46]⟩ : ByteArray) ++ bs (wd n.toNat) = codeB (zs.take (k + 1))) := Lib.hid (by
            rw [HT.out, HTS.out]; exact code_next _ _ hne)
          clear hne
          by_cases hn9 : 9 < n
          · have HX2 : Hid (t ++ (⟨#[46]⟩ : ByteArray) ++ dg1 (n / 10) ++ dg1 (n % 10) = codeB (zs.take (k + 1))) := Lib.hid (by
              rw [← HX.out, ByteArray.append_assoc, wd_two n hn1 hn99, dig2_wd _ (by omega)])
            go_wp2_with fail
            go_roundw
            case rel => exact ⟨k + 1, t ++ (⟨#[46]⟩ : ByteArray) ++ dg1 (n / 10) ++ dg1 (n % 10), by omega, by go_num, rfl, HX2.out, HI2.out, HB2.out⟩
            case measure => simp [intOf]; omega
          · have HX2 : Hid (t ++ (⟨#[46]⟩ : ByteArray) ++ dg1 (n % 10) = codeB (zs.take (k + 1))) := Lib.hid (by
              rw [← HX.out, wd_one n hn1 (by omega)])
            go_wp2_with fail
            go_roundw
            case rel => exact ⟨k + 1, t ++ (⟨#[46]⟩ : ByteArray) ++ dg1 (n % 10), by omega, by go_num, rfl, HX2.out, HI2.out, HB1.out⟩
            case measure => simp [intOf]; omega
    · obtain rfl : k = zs.length := by omega
      have HF : Hid (FormatV zs = .tuple #[.string t, .int .i64 0]) := Lib.hid (by
        have h1 := HT.out
        have h2 := HIN.out
        rw [List.take_length] at h1 h2
        unfold FormatV; rw [if_pos ⟨by omega, by omega, h2⟩, h1])
      go_wp2
      go_ret2
      exact ⟨by rw [HF.out]; rfl, hbr⟩
end Go.Proofs.YtkgkjoologjehaaGreatDoor
