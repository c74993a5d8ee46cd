/- Contracts of the reference's Is and Format: any short string, any list of numbers. -/
import Derived.Test.YtenjefbplpbjaaaGreatDoorG2
import Derived.Lib.SlBytesRow
namespace Go.Proofs.YtenjefbplpbjaaaGreatDoor
open Go.RowKit Go.Sort Cal Go.Maps
theorem rparse_yes (s : ByteArray) (P : List Int) (w : World) (hs : s.size ≤ 2000000) (hp : parseO s = some P) :
    Calls Tryz.prog 129 #[.string s] w (ParseYes P w) := (rparse_any s w hs).mono fun _ _ h => h.1 P hp
theorem rparse_no (s : ByteArray) (w : World) (hs : s.size ≤ 2000000) (hp : parseO s = none) :
    Calls Tryz.prog 129 #[.string s] w (ParseNo w) := (rparse_any s w hs).mono fun _ _ h => h.2 hp
theorem ris_any (s : ByteArray) (w : World) (hs : s.size ≤ 2000000) :
    Calls Tryz.prog 130 #[.string s] w fun e w' => e = .returned (.bool (parseO s).isSome) ∧ Below w.heap.size w w' := by
  cases hp : parseO s with
  | none =>
    have HP := Lib.hid hp
    clear hp
    go_enter Tryz.func130, Tryz.ntmps130
    go_wp2_with fail
    refine (rparse_no s _ hs HP.out).mono ?_
    rintro e w1 ⟨rfl, hb⟩
    go_wp2_with fail
    go_ret
    exact ⟨rfl, hb⟩
  | some P =>
    have HP := Lib.hid hp
    clear hp
    go_enter Tryz.func130, Tryz.ntmps130
    go_wp2_with fail
    refine (rparse_yes s P _ hs HP.out).mono ?_
    rintro e w1 ⟨sv, rfl, _, hb⟩
    go_wp2_with fail
    go_ret
    exact ⟨rfl, hb⟩
def dg1 (n : Int) : ByteArray := bs [UInt8.ofNat (48 + n.toNat)]
theorem dg1_size (n : Int) : (dg1 n).size = 1 := bs_size _
theorem conv_one (n : Int) (h0 : 0 ≤ n) (h1 : n ≤ 9) (W : World) : (convert 45 9 (.slice (some ⟨W.heap.size, 0, none⟩) 1 1)).run Tryz.prog (W.alloc (.cells #[.int .u8 (48 + n)] 5)) = .ok (.string (dg1 n)) (W.alloc (.cells #[.int .u8 (48 + n)] 5)) := by
  have h := Lib.run_convert_whole (P := Tryz.prog) (W.alloc (.cells #[.int .u8 (48 + n)] 5)) 45 5 9 Tryz.underlying45 Tryz.underlying5 Tryz.underlying9 W.heap.size 0 (dg1 n) (by
      intro i hi
      have a := ofNat_toNat n.toNat (by omega)
      obtain rfl : i = 0 := by rw [dg1_size] at hi; omega
      have e : ((dg1 n)[0]).toNat = 48 + n.toNat := a
      rw [e]; simp; omega) 1
  rw [dg1_size] at h
  exact h
theorem wd_one (n : Int) (h0 : 1 ≤ n) (h1 : n ≤ 9) : bs (wd n.toNat) = dg1 (n % 10) := by
  unfold wd dg1
  rw [if_pos (by omega), show (n % 10).toNat = n.toNat by omega]
theorem wd_two (n : Int) (h0 : 1 ≤ n) (h1 : n ≤ 99) : dg1 (n / 10) ++ dg1 (n % 10) = bs (dig2 n.toNat) := by
  unfold dg1 dig2
  rw [bs_append, show (n / 10).toNat = n.toNat / 10 by omega, show (n % 10).toNat = n.toNat % 10 by omega]
  rfl
theorem code_first (n : Int) (h0 : 1 ≤ n) (h1 : n ≤ 99) : dg1 (n / 10) ++ dg1 (n % 10) = codeB [n] := by
  rw [wd_two n h0 h1]; unfold codeB codeL tailL; simp
theorem code_next (P : List Int) (n : Int) (hP : P ≠ []) : codeB P ++ (⟨#[46]⟩ : ByteArray) ++ bs (wd n.toNat) = codeB (P ++ [n]) := by
  have e : codeB P ++ (⟨#[46]⟩ : ByteArray) = bs (codeL P ++ [46]) := bs_append _ [46]
  unfold codeB at e ⊢
  rw [e, bs_append, codeL_snoc P n hP]
  simp
theorem take_snoc (zs : List Int) (k : Nat) (h : k < zs.length) : zs.take (k + 1) = zs.take k ++ [zs.getD k 0] := by
  rw [List.take_succ_eq_append_getElem h, List.getD, List.getElem?_eq_getElem h]; rfl
/-- What Format gives. -/
def FormatV (zs : List Int) : Value := if okP zs then .tuple #[.string (codeB zs), .int .i64 0] else .tuple #[.string emptyB, .int .i64 64]
end Go.Proofs.YtenjefbplpbjaaaGreatDoor
