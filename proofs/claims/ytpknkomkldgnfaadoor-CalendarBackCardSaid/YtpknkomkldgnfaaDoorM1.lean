/- Contracts of set, works, Business, of the program and of the reference: any day, any list. -/
import Derived.Test.YtpknkomkldgnfaaDoorL5
import Derived.Maps.OwnOps
import Derived.Maps.Views
namespace Go.Proofs.YtpknkomkldgnfaaDoor
open Go.RowKit Go.Sort Cal Go.Maps
/-! ### A look-up in a map of bools that the call made -/
theorem plainElem_bool_inv {H : Type} {P : Program} {e : TypeId} (he : P.underlying e = some .bool) {v : Value} {z : DataW H × List MemPlace} (h : plainElem P e v = some z) : ∃ c, v = .bool c ∧ z = (.lit (.bool c), []) := by
  unfold plainElem at h
  rw [he] at h
  cases v <;> simp at h
  exact ⟨_, rfl, h.symm⟩
theorem lookup_bool {H : Type} {P : Program} {w : World} {k t e : TypeId} {b n : Nat} {D : DataW H} (hown : w.ownsMap P k (plainElem P e) b n D) (K : Keyed P k) (ht : P.underlying t = some (.map k e)) (he : P.underlying e = some .bool) (hz : (zeroValue e).run P w = .ok (.bool false) w)
    {key : Value} {kl : Lit} (hkey : keyOf P k key = some kl) : ∃ c, (Instr.lookup t (.map (some b)) key false).run P w = .ok (.bool c) w ∧ D.atKey kl (.lit (.bool false)) = .lit (.bool c) := by
  obtain ⟨v, ps, hrun, hv⟩ := hown.lookup K ht hz (plainElem_bool he false) hkey
  obtain ⟨c, rfl, hc⟩ := plainElem_bool_inv he hv
  simp only [Prod.mk.injEq] at hc
  exact ⟨c, hrun, hc.1⟩
/-- The set of a list's numbers. -/
def setD (zs : List Int) : DataW Unit := zs.foldl (fun D z => D.put (.int .i64 z) (.lit (.bool true))) (.map [])
theorem setD_snoc (zs : List Int) (z : Int) : setD (zs ++ [z]) = (setD zs).put (.int .i64 z) (.lit (.bool true)) := by
  unfold setD; rw [List.foldl_append]; rfl
theorem put_fold (zs : List Int) : ∀ D : DataW Unit, IsMap D → IsMap (zs.foldl (fun D z => D.put (.int .i64 z) (.lit (.bool true))) D) ∧
    ∀ x c, D.atKey (.int .i64 x) (.lit (.bool false)) = .lit (.bool c) → (zs.foldl (fun D z => D.put (.int .i64 z) (.lit (.bool true))) D).atKey (.int .i64 x) (.lit (.bool false)) = .lit (.bool (c || zs.contains x)) := by
  induction zs with
  | nil => intro D hD; exact ⟨hD, fun x c h => by simpa using h⟩
  | cons z zs ih =>
    intro D hD
    obtain ⟨i1, i2⟩ := ih (D.put (.int .i64 z) (.lit (.bool true))) (hD.put _ _)
    refine ⟨i1, fun x c h => ?_⟩
    by_cases e : x = z
    · subst e
      have := i2 x true (atKey_put_same hD (show WideAt.IsKeyLit (.int .i64 x) from trivial) _ _)
      simpa using this
    · have := i2 x c (by rw [atKey_put_other (by intro k; cases k; exact e rfl)]; exact h)
      simpa [e] using this
theorem setD_at (zs : List Int) (x : Int) : (setD zs).atKey (.int .i64 x) (.lit (.bool false)) = .lit (.bool (zs.contains x)) := by
  have := (put_fold zs (.map []) isMap_empty).2 x false rfl
  simpa [setD] using this
/-! ### A slice of integers, wherever it lies -/
def IntsAt (w : World) (sv : Value) (zs : List Int) : Prop :=
  (zs = [] ∧ ∃ p c, sv = .slice p 0 c) ∨
  (0 < zs.length ∧ ∃ b off cap, sv = .slice (some ⟨b, off, none⟩) zs.length cap ∧ b < w.heap.size ∧ ∀ j, j < zs.length → w.cell? ⟨b, off + j, none⟩ = some (.int .i64 (zs.getD j 0)))
theorem IntsAt.below {w w' : World} {sv : Value} {zs : List Int} (h : IntsAt w sv zs) (hb : Below w.heap.size w w') : IntsAt w' sv zs := by
  rcases h with h | ⟨h0, b, off, cap, e, hlt, hc⟩
  · exact Or.inl h
  · exact Or.inr ⟨h0, b, off, cap, e, Nat.lt_of_lt_of_le hlt hb.size, fun j hj => (hb.cell (p := ⟨b, off + j, none⟩) hlt).trans (hc j hj)⟩
/-- All its numbers are ints. -/
def Fits (zs : List Int) : Prop := zs.length ≤ 9223372036854775807 ∧ ∀ j, j < zs.length → -9223372036854775808 ≤ zs.getD j 0 ∧ zs.getD j 0 ≤ 9223372036854775807
theorem mapLaw : Keyed Tryd.prog 3 := int_keyed Tryd.underlying3
theorem zeroBool (w : World) : (zeroValue 4).run Tryd.prog w = .ok (.bool false) w := by kernel_rfl
theorem wf_of {z : Int} (h : -9223372036854775808 ≤ z ∧ z ≤ 9223372036854775807) : (Lit.int .i64 z).wf = true := WalkArith.wf_i64 (by omega)
/-- The program's set: a map in block B that reads as the list's set. -/
def SetPost (zs : List Int) (w : World) (e : Ending) (w' : World) : Prop :=
  ∃ B, e = .returned (.map (some B)) ∧ w.heap.size ≤ B ∧ w'.ownsMap Tryd.prog 3 (plainElem Tryd.prog 4) B zs.length (setD zs) ∧ Below w.heap.size w w'
set_option maxHeartbeats 800000 in
theorem set_any (sv : Value) (zs : List Int) (w : World) (hz : IntsAt w sv zs) (hf : Fits zs) :
    Calls Tryd.prog 53 #[sv] w (SetPost zs w) := by
  have hmm := @run_makeMap Tryd.prog
  rcases hz with ⟨rfl, p, c, rfl⟩ | ⟨h0, b, off, cap, rfl, hlt, hc⟩
  · go_enter Tryd.func53, Tryd.ntmps53
    go_wp2_with fail
    go_rounds 1
    go_ret
    exact ⟨w.heap.size, rfl, Nat.le_refl _, World.ownsMap_made _ _ _ _, (Below.refl _ _).alloc (Nat.le_refl _) _⟩
  · have HC := Lib.hid hc
    have HF := Lib.hid hf
    have hl := hf.1
    clear hc hf
    go_enter Tryd.func53, Tryd.ntmps53
    go_wp2_with fail
    go_loopw [9] (fun i wr => ∃ k : Nat, k ≤ zs.length ∧ i = .int .i64 k ∧ wr.ownsMap Tryd.prog 3 (plainElem Tryd.prog 4) w.heap.size k (setD (zs.take k)) ∧ Below w.heap.size w wr) (fun i _ => zs.length - (intOf i).toNat)
    case atStart => exact ⟨0, Nat.zero_le _, rfl, World.ownsMap_made _ _ _ _, (Below.refl _ _).alloc (Nat.le_refl _) _⟩
    case round =>
      obtain ⟨k, hk, rfl, hown, hbl⟩ := hrel
      by_cases hk2 : k < zs.length
      · have hcell : wr.cell? ⟨b, off + k, none⟩ = some (.int .i64 (zs.getD k 0)) := (hbl.cell (p := ⟨b, off + k, none⟩) hlt).trans (HC.out k hk2)
        have hzk := HF.out.2 k hk2
        have HS : Hid (setD (zs.take (k + 1)) = (setD (zs.take k)).put (.int .i64 (zs.getD k 0)) (.lit (.bool true))) := Lib.hid (by
          rw [List.take_succ_eq_append_getElem hk2, setD_snoc]; simp [List.getD, hk2])
        obtain ⟨z, ez⟩ : ∃ z, z = zs.getD k 0 := ⟨_, rfl⟩
        rw [← ez] at hcell hzk HS
        clear ez
        go_wp2_with (first
          | (at_mapUpdate; refine wpList_mapUpdate_own _ rfl _ _ _ 56 rfl 3 4 mapLaw Tryd.underlying56 _ w.heap.size k _ rfl hown (by unfold maxLen; omega) _ _ _ rfl rfl (keyOf_int_mk Tryd.underlying3 (wf_of hzk)) _ [] (plainElem_bool Tryd.underlying4 true) ?_; intro w1 hown1 hgrow1)
          | fail)
        go_roundw
        case rel => exact ⟨k + 1, by omega, by go_num, by rw [HS.out]; exact hown1, hbl.grown hgrow1 hbl.size (fun j hj => by cases hj; exact Nat.le_refl _)⟩
        case measure => simp [intOf]; omega
      · obtain rfl : k = zs.length := by omega
        rw [List.take_length] at hown
        go_wp2
        go_ret
        exact ⟨w.heap.size, rfl, Nat.le_refl _, hown, hbl⟩
/-- Is the day at work? -/
def worksB (zs : List Int) (n : Int) : Bool := decide (n % 7 < 5) && !zs.contains n
theorem works_any (n : Int) (zs : List Int) (B k : Nat) (w : World) (h0 : 0 ≤ n) (h1 : n ≤ 182620) (hown : w.ownsMap Tryd.prog 3 (plainElem Tryd.prog 4) B k (setD zs)) :
    Calls Tryd.prog 52 #[.int .i64 n, .map (some B)] w fun e w' => e = .returned (.bool (worksB zs n)) ∧ w = w' := by
  obtain ⟨c, hrun, hat⟩ := lookup_bool hown mapLaw Tryd.underlying56 Tryd.underlying4 (zeroBool _) (keyOf_int_mk Tryd.underlying3 (wf_of (z := n) (by omega)))
  rw [setD_at] at hat
  have hcc : c = zs.contains n := by simpa using hat.symm
  clear hat hown
  by_cases h7 : n % 7 < 5
  · have HL : Hid (worksB zs n = !c) := Lib.hid (by simp [worksB, h7, hcc])
    clear hcc
    go_enter Tryd.func52, Tryd.ntmps52
    go_wp2
    go_ret
    exact ⟨ret_bool HL.out.symm, rfl⟩
  · have h7' : decide (n % 7 < 5) = false := by simpa using h7
    have HL : Hid (worksB zs n = false) := Lib.hid (by simp [worksB, h7])
    clear hcc
    go_enter Tryd.func52, Tryd.ntmps52
    go_wp2
    go_ret
    exact ⟨ret_bool HL.out.symm, rfl⟩
def busB (zs : List Int) (n : Int) : Bool := isDay n && worksB zs n
theorem bus_any (n : Int) (sv : Value) (zs : List Int) (w : World) (hz : IntsAt w sv zs) (hf : Fits zs) :
    Calls Tryd.prog 21 #[.int .i64 n, sv] w fun e w' => e = .returned (.bool (busB zs n)) ∧ Below w.heap.size w w' := by
  have HZ := Lib.hid hz
  have HF := Lib.hid hf
  clear hz hf
  by_cases h : 0 ≤ n ∧ n ≤ 182620
  · obtain ⟨h0, h1⟩ := h
    have hv := isDay_yes h0 h1
    have HL : Hid (busB zs n = worksB zs n) := Lib.hid (by simp [busB, hv])
    go_enter Tryd.func21, Tryd.ntmps21
    go_wp2_with (first
      | (go_at_call 51; refine (isvalid_any _ _).mono ?_; rintro e w' ⟨rfl, rfl⟩)
      | (go_at_call 53; refine (set_any sv zs _ HZ.out HF.out).mono ?_; rintro e w1 ⟨B, rfl, hB, hown, hb⟩)
      | (go_at_call 52; refine (works_any n zs B _ _ h0 h1 hown).mono ?_; rintro e w' ⟨rfl, rfl⟩)
      | fail)
    go_ret
    exact ⟨ret_bool HL.out.symm, hb⟩
  · have hv := isDay_no (n := n) (by omega)
    have HL : Hid (busB zs n = false) := Lib.hid (by simp [busB, hv])
    clear h
    go_enter Tryd.func21, Tryd.ntmps21
    go_wp2_with (go_at_call 51; refine (isvalid_any _ _).mono ?_; rintro e w' ⟨rfl, rfl⟩)
    go_ret
    exact ⟨ret_bool HL.out.symm, Below.refl _ _⟩
theorem contains_take_succ (zs : List Int) (k : Nat) (n : Int) (h : k < zs.length) : (zs.take (k + 1)).contains n = ((zs.take k).contains n || zs.getD k 0 == n) := by
  have e : zs.getD k 0 = zs[k] := by simp [List.getD, h]
  rw [List.take_succ_eq_append_getElem h, e, Bool.eq_iff_iff, Bool.or_eq_true, List.contains_iff_mem, List.contains_iff_mem, List.mem_append, List.mem_singleton, beq_iff_eq]
  exact ⟨fun h => h.elim Or.inl fun e => Or.inr e.symm, fun h => h.elim Or.inl fun e => Or.inr e.symm⟩
theorem rbus_any (n : Int) (sv : Value) (zs : List Int) (w : World) (hz : IntsAt w sv zs) (hf : Fits zs) :
    Calls Tryd.prog 22 #[.int .i64 n, sv] w fun e w' => e = .returned (.bool (busB zs n)) ∧ w = w' := by
  by_cases h0 : n < 0
  · have HL : Hid (busB zs n = false) := Lib.hid (by simp [busB, isDay_no (n := n) (by omega)])
    clear hz hf
    go_enter Tryd.func22, Tryd.ntmps22
    go_wp2
    go_ret
    exact ⟨ret_bool HL.out.symm, rfl⟩
  by_cases h1 : 182621 ≤ n
  · have HL : Hid (busB zs n = false) := Lib.hid (by simp [busB, isDay_no (n := n) (by omega)])
    clear hz hf
    go_enter Tryd.func22, Tryd.ntmps22
    go_wp2
    go_ret
    exact ⟨ret_bool HL.out.symm, rfl⟩
  have hv := isDay_yes (n := n) (by omega) (by omega)
  by_cases h5 : 5 ≤ n % 7
  · have HL : Hid (busB zs n = false) := Lib.hid (by simp [busB, worksB]; omega)
    clear hz hf hv
    go_enter Tryd.func22, Tryd.ntmps22
    go_wp2
    go_ret
    exact ⟨ret_bool HL.out.symm, rfl⟩
  have HB : Hid (busB zs n = !zs.contains n) := Lib.hid (by
    have : n % 7 < 5 := by omega
    simp [busB, worksB, hv, this])
  clear hv
  rcases hz with ⟨rfl, p, c, rfl⟩ | ⟨hp, b, off, cap, rfl, hlt, hc⟩
  · go_enter Tryd.func22, Tryd.ntmps22
    go_wp2_with fail
    go_rounds 1
    go_ret
    exact ⟨ret_bool (by rw [HB.out]; rfl), rfl⟩
  · have HC := Lib.hid hc
    have hl := hf.1
    clear hc hf
    go_enter Tryd.func22, Tryd.ntmps22
    go_wp2_with fail
    go_loop [20] (fun i => ∃ k : Nat, k ≤ zs.length ∧ i = .int .i64 k ∧ (zs.take k).contains n = false) (fun i => zs.length - (intOf i).toNat)
    case atStart => exact ⟨0, Nat.zero_le _, rfl, rfl⟩
    case round =>
      obtain ⟨k, hk, rfl, hnc⟩ := hrel
      have HN := Lib.hid hnc
      clear hnc
      by_cases hk2 : k < zs.length
      · have hcell : w.cell? ⟨b, off + k, none⟩ = some (.int .i64 (zs.getD k 0)) := HC.out k hk2
        have HT := Lib.hid (contains_take_succ zs k n hk2)
        obtain ⟨z, ez⟩ : ∃ z, z = zs.getD k 0 := ⟨_, rfl⟩
        have HE := Lib.hid ez
        rw [← ez] at hcell HT
        clear ez
        by_cases he : (z == n) = true
        · have HF : Hid (zs.contains n = true) := Lib.hid (by
            have e := beq_iff_eq.1 he
            rw [List.contains_iff_mem, ← e, HE.out]
            simp [List.getD, hk2])
          go_wp2
          go_ret
          exact ⟨ret_bool (by rw [HB.out, HF.out]; rfl), rfl⟩
        · have he' : (z == n) = false := by simpa using he
          clear he
          go_wp2
          go_round
          case rel => exact ⟨k + 1, by omega, by go_num, by rw [HT.out, HN.out, he']; rfl⟩
          case measure => simp [intOf]; omega
      · obtain rfl : k = zs.length := by omega
        go_wp2
        go_ret
        exact ⟨ret_bool (by have := HN.out; rw [List.take_length] at this; rw [HB.out, this]; rfl), rfl⟩
end Go.Proofs.YtpknkomkldgnfaaDoor
