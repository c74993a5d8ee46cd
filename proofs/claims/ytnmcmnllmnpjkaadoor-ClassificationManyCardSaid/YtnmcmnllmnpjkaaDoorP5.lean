/- The walk of ClassificationMany. -/
import Derived.Test.YtnmcmnllmnpjkaaDoorMn
namespace Go.Proofs.YtnmcmnllmnpjkaaDoor
open Go.RowKit Go.Sort Cal Go.Maps
/-- The struct in block B, its codes in memory of their own behind it. -/
structure Made (B : Nat) (w0 : World) (k : Nat) (v : Value) (w : World) : Prop where
  blk : w.heap[B]? = some (.cells #[.string emptyB, v] 46 (0, 0))
  own : w.ownsRow (B + 1) 9 1 v k ((manyL k).map Value.string)
  bl : Below w0.heap.size w0 w
  lo : w0.heap.size ≤ B
theorem Made.lt {B : Nat} {w0 : World} {k : Nat} {v : Value} {w : World} (h : Made B w0 k v w) : B < w.heap.size := (Array.getElem?_eq_some_iff.1 h.blk).1
theorem Made.step {B : Nat} {w0 : World} {k : Nat} {v : Value} {w w1 : World} (h : Made B w0 k v w) (hb : Below w.heap.size w w1) : Made B w0 k v w1 :=
  ⟨(hb.block B h.lt).trans h.blk, ownsRow_below h.own hb, h.bl.trans (hb.mono h.bl.size), h.lo⟩
theorem Made.grow {B : Nat} {w0 : World} {k : Nat} {v : Value} {w2 w3 : World} {o : Obj} {row : Option Nat} (h : Made B w0 k v w2) (hg : (w2.alloc o).grownBy w3 row) (hlo : ∀ j, row = some j → B + 1 ≤ j) :
    w3.heap[B]? = some (.cells #[.string emptyB, v] 46 (0, 0)) ∧ Below w0.heap.size w0 w3 :=
  ⟨(hg.block B (by have := h.lt; simp; omega) (fun e => by have := hlo B e.symm; omega)).trans ((((Below.refl _ _).alloc (Nat.le_refl _) o).block B h.lt).trans h.blk),
   (h.bl.alloc h.bl.size _).grown hg (by have := h.bl.size; simp; omega) (fun j hj => by have := hlo j hj; have := h.lo; omega)⟩
theorem own_set {w : World} {base size n B i : Nat} {e : TypeId} {v u : Value} {xs : List Value} (h : w.ownsRow base e size v n xs) (hB : B < base) : (w.setCell ⟨B, i, none⟩ u).ownsRow base e size v n xs := by
  refine ⟨h.1, ?_⟩
  rcases h.2 with h0 | ⟨g, cap, cur, hv, hbase, hblk, h1, h2, h3, h4⟩
  · exact Or.inl h0
  · exact Or.inr ⟨g, cap, cur, hv, hbase, set_other hblk (by omega) i u, h1, h2, h3, h4⟩
theorem Made.store {B : Nat} {w0 : World} {k : Nat} {v v' : Value} {w3 : World} (hblk : w3.heap[B]? = some (.cells #[.string emptyB, v] 46 (0, 0))) (hown : w3.ownsRow (B + 1) 9 1 v' k ((manyL k).map Value.string)) (hbl : Below w0.heap.size w0 w3) (hlo : w0.heap.size ≤ B) :
    Made B w0 k v' (w3.setCell ⟨B, 1, none⟩ v') :=
  ⟨by have := set_blk hblk 1 v'; simpa using this, own_set hown (by omega), hbl.setCell (by simpa using hlo) _, hlo⟩
theorem format_part (i : Nat) (h : i ≤ 300) : FormatV (partM i) = .tuple #[.string (codeB (partM i)), .int .i64 0] := by
  unfold FormatV; rw [if_pos (partM_ok i h)]
theorem two_ints (w : World) (x y : Int) (t : TypeId) : IntsAt (w.alloc (.cells #[.int .i64 x, .int .i64 y] t)) (.slice (some ⟨w.heap.size, 0, none⟩) 2 2) [x, y] :=
  Or.inr ⟨by simp, _, _, _, rfl, by simp, by simp, fun j hj => by
    have h2 : j = 0 ∨ j = 1 := by simp at hj; omega
    rcases h2 with rfl | rfl <;> simp⟩
set_option maxRecDepth 100000 in
set_option maxHeartbeats 3200000 in
theorem many_walk (w : World) (nn : Int) (_ : -9223372036854775808 ≤ nn) (_ : nn ≤ 9223372036854775807) (hE : Env w) :
    Calls Tryd.prog 8 #[.int .i64 nn] w fun e w' => e = .returned (.bool true) ∧ Below w.heap.size w w' := by
  have HE := Lib.hid hE
  have fb := fold_bd nn 3 (by omega)
  obtain ⟨i0, hi0, hz0, hz1, hz2⟩ := info_parts info9p
  clear hE
  go_enter Tryd.func8, Tryd.ntmps8
  go_wp2_with fail
  refine (fold_any nn 3 _ (by omega) (by omega)).mono ?_
  rintro e w' ⟨rfl, rfl⟩
  obtain ⟨F, hF⟩ := Int.eq_ofNat_of_zero_le fb.1
  rw [hF] at fb ⊢
  have hF2 : F ≤ 2 := by omega
  clear hF fb
  go_wp2_with fail
  go_loopw [16] (fun q wr => ∃ (i : Nat) (v : Value), i ≤ 199 + F ∧ q = .int .i64 i ∧ Made w.heap.size w i v wr) (fun q _ => 199 + F - (intOf q).toNat)
  case atStart => exact ⟨0, .slice none 0 0, by omega, rfl, ⟨by show (w.heap.push _)[_]? = _; rw [Array.getElem?_push, if_pos rfl]; rfl, World.ownsRow_nil _ _ _ _, (Below.refl _ _).alloc (Nat.le_refl _) _, Nat.le_refl _⟩⟩
  case round =>
    obtain ⟨i, v, hi, rfl, hM⟩ := hrel
    by_cases hlt : i < 199 + F
    · have hi300 : i ≤ 300 := by omega
      by_cases hm : i % 100 = 0
      · have hmb : ((i : Int) % 100 == 0) = true := by rw [beq_iff_eq]; omega
        have HF : Hid (FormatV [1 + (i : Int) / 100] = .tuple #[.string (codeB (partM i)), .int .i64 0]) := Lib.hid (by
          have e : [1 + (i : Int) / 100] = partM i := by unfold partM; rw [if_pos hm]; congr 1
          rw [e]; exact format_part i hi300)
        clear hm
        have hB9 := (Made.step hM ((Below.refl _ _).alloc (Nat.le_refl _) (.cells #[.int .i64 (1 + (i : Int) / 100)] 3)))
        have HB9 := Lib.hid hB9
        clear hB9
        go_wp2_with fail
        refine (rformat_any _ [1 + (i : Int) / 100] _ (one_at wr _ _) (by simp)).mono ?_
        rintro e w2 ⟨rfl, hb2⟩
        rw [HF.out]
        have hM2 := HB9.out.step hb2
        have HM2 := Lib.hid hM2
        have hown := hM2.own
        have hs2 := hM2.lt
        have cf := cell_blk hM2.blk 1 v rfl
        clear hM2 hb2
        go_wp2_with (first
          | (at_builtin; refine wpList_append_own _ rfl _ _ 27 rfl (w.heap.size + 1) 9 i0 (.string ⟨#[]⟩) 1 16 Tryd.underlying27 hi0 hz0 hz1 hz2 rfl (by decide) _ _ _ rfl (hown.alloc _) ⟨w2.heap.size, 0, none⟩ 1 1 [.string (codeB (partM i))] rfl rfl (cell_one_new _ _ _) (by simp [Value.oneCell']) (by unfold maxLen; omega) (by omega) (by simp; omega) ?_)
          | fail)
        intro v' w3 hown2 hgrow _
        have hG := HM2.out.grow hgrow (fun j hj => (hown.lt j hj).1)
        have HO3 : Hid (w3.ownsRow (w.heap.size + 1) 9 1 v' (i + 1) ((manyL (i + 1)).map Value.string)) := Lib.hid (by
          rw [manyL_succ, List.map_append]; exact hown2)
        obtain ⟨g', cp', ev', _, _⟩ := World.ownsRow.form HO3.out (by omega)
        subst ev'
        have HG := Lib.hid hG
        have cf3 := cell_blk hG.1 1 v rfl
        have ff3 := free_blk hG.1 1
        clear hown2 hgrow hown hG cf
        go_wp2
        go_roundw
        case rel => exact ⟨i + 1, _, by omega, by go_num, Made.store HG.out.1 HO3.out HG.out.2 (Nat.le_refl _)⟩
        case measure => simp [intOf]; omega
      · have hmb : ((i : Int) % 100 == 0) = false := by rw [beq_eq_false_iff_ne]; omega
        have HF : Hid (FormatV [1 + (i : Int) / 100, (i : Int) % 100] = .tuple #[.string (codeB (partM i)), .int .i64 0]) := Lib.hid (by
          have e : [1 + (i : Int) / 100, (i : Int) % 100] = partM i := by unfold partM; rw [if_neg hm]; congr 1
          rw [e]; exact format_part i hi300)
        clear hm
        have hB9 := (Made.step hM ((Below.refl _ _).alloc (Nat.le_refl _) (.cells #[.int .i64 (1 + (i : Int) / 100), .int .i64 ((i : Int) % 100)] 3)))
        have HB9 := Lib.hid hB9
        clear hB9
        go_wp2_with fail
        refine (rformat_any _ [1 + (i : Int) / 100, (i : Int) % 100] _ (two_ints wr _ _ _) (by simp)).mono ?_
        rintro e w2 ⟨rfl, hb2⟩
        rw [HF.out]
        have hM2 := HB9.out.step hb2
        have HM2 := Lib.hid hM2
        have hown := hM2.own
        have hs2 := hM2.lt
        have cf := cell_blk hM2.blk 1 v rfl
        clear hM2 hb2
        go_wp2_with (first
          | (at_builtin; refine wpList_append_own _ rfl _ _ 27 rfl (w.heap.size + 1) 9 i0 (.string ⟨#[]⟩) 1 16 Tryd.underlying27 hi0 hz0 hz1 hz2 rfl (by decide) _ _ _ rfl (hown.alloc _) ⟨w2.heap.size, 0, none⟩ 1 1 [.string (codeB (partM i))] rfl rfl (cell_one_new _ _ _) (by simp [Value.oneCell']) (by unfold maxLen; omega) (by omega) (by simp; omega) ?_)
          | fail)
        intro v' w3 hown2 hgrow _
        have hG := HM2.out.grow hgrow (fun j hj => (hown.lt j hj).1)
        have HO3 : Hid (w3.ownsRow (w.heap.size + 1) 9 1 v' (i + 1) ((manyL (i + 1)).map Value.string)) := Lib.hid (by
          rw [manyL_succ, List.map_append]; exact hown2)
        obtain ⟨g', cp', ev', _, _⟩ := World.ownsRow.form HO3.out (by omega)
        subst ev'
        have HG := Lib.hid hG
        have cf3 := cell_blk hG.1 1 v rfl
        have ff3 := free_blk hG.1 1
        clear hown2 hgrow hown hG cf
        go_wp2
        go_roundw
        case rel => exact ⟨i + 1, _, by omega, by go_num, Made.store HG.out.1 HO3.out HG.out.2 (Nat.le_refl _)⟩
        case measure => simp [intOf]; omega
    · obtain rfl : i = 199 + F := by omega
      have HM := Lib.hid hM
      have c0 := cell_blk hM.blk 0 _ rfl
      have c1 := cell_blk hM.blk 1 v rfl
      have HS := Lib.hid (strs_of_own hM.own (manyL_len _).symm)
      have HV := Lib.hid (many_valid (199 + F) (by omega) (by omega))
      have HSH := Lib.hid (many_short (199 + F) (by omega))
      clear hM
      go_wp2_with fail
      refine (validate_any emptyB v (manyL (199 + F)) _ HS.out (by rw [manyL_len]; omega) HSH.out (HE.out.below HM.out.bl)).mono ?_
      rintro e w2 ⟨rfl, hb2⟩
      rw [HV.out]
      have HB2 := Lib.hid (chain0 HM.out.bl hb2)
      have hF3 : F = 0 ∨ F = 1 ∨ F = 2 := by omega
      clear hb2
      rcases hF3 with rfl | rfl | rfl
      all_goals
        go_wp2_with fail
        refine (awake_any _ (HE.out.below HB2.out)).mono ?_
        rintro e w3 ⟨rfl, hb3⟩
        go_wp2
        go_ret
        exact ⟨rfl, chain0 HB2.out hb3⟩
end Go.Proofs.YtnmcmnllmnpjkaaDoor
