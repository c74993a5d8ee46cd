/- Contract of the tape's Tree: it makes a valid classification of one to ten codes. -/
import Derived.Test.YtnmcmnllmnpjkaaGreatDoorTr
namespace Go.Proofs.YtnmcmnllmnpjkaaGreatDoor
open Go.RowKit Go.Sort Cal Go.Maps
/-- Between two steps of Tree: the tape in block b, the result's block, the struct's block behind it. -/
structure TreeB (b : Nat) (sv : Value) (zs : List Int) (i : Nat) (v : Value) (w0 w : World) : Prop where
  tape : TapeAt b sv zs i w
  res : w.heap[w0.heap.size]? = some (.cells #[.string ⟨#[]⟩, .slice none 0 0] 24 (0, 0))
  blk : w.heap[w0.heap.size + 1]? = some (.cells #[.string ⟨#[99]⟩, v] 24 (0, 0))
  touch : Touch b w0 w
  lo : b < w0.heap.size
theorem TreeB.lt {b : Nat} {sv : Value} {zs : List Int} {i : Nat} {v : Value} {w0 w : World} (h : TreeB b sv zs i v w0 w) : w0.heap.size + 1 < w.heap.size := (Array.getElem?_eq_some_iff.1 h.blk).1
theorem TreeB.below {b : Nat} {sv : Value} {zs : List Int} {i : Nat} {v : Value} {w0 w w1 : World} (h : TreeB b sv zs i v w0 w) (hb : Below w.heap.size w w1) : TreeB b sv zs i v w0 w1 :=
  ⟨h.tape.below hb, (hb.block _ (by have := h.lt; omega)).trans h.res, (hb.block _ h.lt).trans h.blk, h.touch.trans (Touch.of_below hb), h.lo⟩
theorem TreeB.next {b : Nat} {sv : Value} {zs : List Int} {i j : Nat} {v : Value} {w0 w w1 : World} (h : TreeB b sv zs i v w0 w) (hT : TapeAt b sv zs j w1) (ht : Touch b w w1) : TreeB b sv zs j v w0 w1 :=
  ⟨hT, (ht.block _ (by have := h.lt; omega) (by have := h.lo; omega)).trans h.res, (ht.block _ h.lt (by have := h.lo; omega)).trans h.blk, h.touch.trans ht, h.lo⟩
theorem TreeB.grown {b : Nat} {sv : Value} {zs : List Int} {i : Nat} {v : Value} {w0 w2 w3 : World} {o : Obj} {row : Option Nat} (h : TreeB b sv zs i v w0 w2) (hg : (w2.alloc o).grownBy w3 row) (hlo : ∀ j, row = some j → w0.heap.size + 1 + 1 ≤ j) : TreeB b sv zs i v w0 w3 := by
  have h1 := h.below ((Below.refl _ _).alloc (Nat.le_refl _) o)
  have key : ∀ k, k ≤ w0.heap.size + 1 → w3.heap[k]? = (w2.alloc o).heap[k]? := fun k hk => hg.block k (by have := h1.lt; omega) (fun e => by have := hlo k e.symm; omega)
  exact ⟨h1.tape.keep (fun k hk => key k (by have := h.lo; omega)), (key _ (by omega)).trans h1.res, (key _ (Nat.le_refl _)).trans h1.blk, h1.touch.grown hg (fun j hj => by have := hlo j hj; omega), h.lo⟩
theorem TreeB.store {b : Nat} {sv : Value} {zs : List Int} {i : Nat} {v v' : Value} {w0 w : World} (h : TreeB b sv zs i v w0 w) : TreeB b sv zs i v' w0 (w.setCell ⟨w0.heap.size + 1, 1, none⟩ v') := by
  have hl := h.lo
  refine ⟨h.tape.keep (fun k hk => set_other rfl (by omega) 1 v'), set_other h.res (by omega) 1 v', by have := set_blk h.blk 1 v'; simpa using this, ?_, hl⟩
  refine ⟨h.touch.os, h.touch.tape, h.touch.output, by have := h.touch.size; simpa [World.setCell] using this, fun k hk hn => ?_⟩
  exact (set_other rfl (by omega) 1 v').trans (h.touch.block k hk hn)
theorem TreeB.fin {b : Nat} {sv : Value} {zs : List Int} {i : Nat} {v : Value} {w0 w : World} (h : TreeB b sv zs i v w0 w) (x u : Value) :
    (((w.setCell ⟨w0.heap.size, 0, none⟩ x).setCell ⟨w0.heap.size, 1, none⟩ u).cell? ⟨w0.heap.size, 0, none⟩ = some x ∧ ((w.setCell ⟨w0.heap.size, 0, none⟩ x).setCell ⟨w0.heap.size, 1, none⟩ u).cell? ⟨w0.heap.size, 1, none⟩ = some u) ∧
    TapeAt b sv zs i ((w.setCell ⟨w0.heap.size, 0, none⟩ x).setCell ⟨w0.heap.size, 1, none⟩ u) ∧ Touch b w0 ((w.setCell ⟨w0.heap.size, 0, none⟩ x).setCell ⟨w0.heap.size, 1, none⟩ u) := by
  have hl := h.lo
  have hr := set_blk (set_blk h.res 0 x) 1 u
  have key : ∀ k, k ≠ w0.heap.size → ((w.setCell ⟨w0.heap.size, 0, none⟩ x).setCell ⟨w0.heap.size, 1, none⟩ u).heap[k]? = w.heap[k]? := fun k hk => set_other (set_other rfl hk 0 x) hk 1 u
  refine ⟨⟨cell_blk hr 0 x rfl, cell_blk hr 1 u rfl⟩, h.tape.keep (fun k hk => key k (by omega)), h.touch.os, h.touch.tape, h.touch.output, ?_, fun k hk hn => (key k (by omega)).trans (h.touch.block k hk hn)⟩
  have := h.touch.size
  simpa [World.setCell] using this
def TreePost (b : Nat) (sv : Value) (zs : List Int) (i : Nat) (w : World) (e : Ending) (w' : World) : Prop :=
  ∃ (v : Value) (PS : List (List Int)) (i' : Nat), e = .returned (.agg #[.string ⟨#[99]⟩, v]) ∧ TreeOK PS ∧ 1 ≤ PS.length ∧ PS.length ≤ 10 ∧
    w'.ownsRow (w.heap.size + 2) 9 1 v PS.length ((codesOf PS).map Value.string) ∧ i' ≤ i + 30 ∧ TapeAt b sv zs i' w' ∧ Touch b w w'
theorem format_ok {P : List Int} (h : okP P) : FormatV P = .tuple #[.string (codeB P), .int .i64 0] := by unfold FormatV; rw [if_pos h]
theorem TreeB.start {b : Nat} {sv : Value} {zs : List Int} {i : Nat} {w : World} (hT : TapeAt b sv zs i w) : TreeB b sv zs i (.slice none 0 0) w ((w.alloc (.cells #[.string ⟨#[]⟩, .slice none 0 0] 24)).alloc (.cells #[.string ⟨#[99]⟩, .slice none 0 0] 24)) := by
  have hb : Below w.heap.size w ((w.alloc (.cells #[.string ⟨#[]⟩, .slice none 0 0] 24)).alloc (.cells #[.string ⟨#[99]⟩, .slice none 0 0] 24)) := ((Below.refl _ _).alloc (Nat.le_refl _) _).alloc (by simp) _
  refine ⟨hT.below hb, ?_, ?_, Touch.of_below hb, hT.lt⟩
  · refine (((Below.refl (w.alloc (.cells #[.string ⟨#[]⟩, .slice none 0 0] 24)).heap.size _).alloc (Nat.le_refl _) _).block w.heap.size (by simp)).trans ?_
    show (w.heap.push _)[_]? = _
    rw [Array.getElem?_push, if_pos rfl]
  · show (Array.push (Array.push w.heap _) _)[_]? = _
    rw [Array.getElem?_push, if_pos (by simp)]
theorem last_snoc (PS : List (List Int)) (Q : List Int) : (PS ++ [Q]).getLast? = some Q := by simp
theorem own_store {w : World} {base size n B i : Nat} {e : TypeId} {v u : Value} {xs : List Value} (h : w.ownsRow base e size v n xs) (hB : B < base) : (w.setCell ⟨B, i, none⟩ u).ownsRow base e size v n xs := by
  refine ⟨h.1, ?_⟩
  rcases h.2 with h0 | ⟨g, cap, cur, hv, hbase, hblk, h1, h2, h3, h4⟩
  · exact Or.inl h0
  · exact Or.inr ⟨g, cap, cur, hv, hbase, set_other hblk (by omega) i u, h1, h2, h3, h4⟩
theorem own_push {w : World} {B n : Nat} {v : Value} {PS : List (List Int)} {Q : List Int} (h : w.ownsRow B 9 1 v n ((codesOf PS).map Value.string ++ [Value.string (codeB Q)])) : w.ownsRow B 9 1 v n ((codesOf (PS ++ [Q])).map Value.string) := by
  rw [codesOf_snoc, List.map_append]; exact h
/-- A row in a block below N stays owned where all below N stays. -/
theorem own_belowN {w w' : World} {base n N : Nat} {e : TypeId} {v : Value} {xs : List Value} (h : w.ownsRow base e 1 v n xs) (hv : ∀ p c, v = .slice (some p) n c → p.block < N) (hb : Below N w w') : w'.ownsRow base e 1 v n xs := by
  refine ⟨h.1, ?_⟩
  rcases h.2 with h0 | ⟨g, cap, cur, ev, hbase, hblk, h1, h2, h3, h4⟩
  · exact Or.inl h0
  · exact Or.inr ⟨g, cap, cur, ev, hbase, (hb.block g (hv _ _ ev)).trans hblk, h1, h2, h3, h4⟩
theorem own_where {w : World} {base n : Nat} {e : TypeId} {v : Value} {xs : List Value} (h : w.ownsRow base e 1 v n xs) : ∀ p c, v = .slice (some p) n c → p.block < w.heap.size := by
  intro p c ev
  rcases h.2 with ⟨h0, _⟩ | ⟨g, cap, cur, ev2, _, hblk, _⟩
  · rw [h0] at ev; cases ev
  · rw [ev2] at ev
    cases ev
    exact (Array.getElem?_eq_some_iff.1 hblk).1
theorem parse_code {P : List Int} (h : okP P) : parseO (codeB P) = some P ∧ (codeB P).size ≤ 1000 := ⟨parseO_code P h, by have := codeB_size P; have := h.2.1; omega⟩
/-- What is known of the codes between two rounds of the inner loop. -/
structure Kids (T : Int) (k : Nat) (PS : List (List Int)) : Prop where
  ok : TreeOK PS
  top : [T] ∈ PS
  last : ∃ R, PS.getLast? = some (T :: R) ∧ (R = [] ∨ ∃ y r, R = y :: r ∧ y < 1 + (k : Int) * 9)
theorem Kids.child {T : Int} {k : Nat} {PS : List (List Int)} (h : Kids T k PS) (hT : 1 ≤ T ∧ T ≤ 99) (hk : k ≤ 2) : TreeOK (PS ++ [[T, 1 + (k : Int) * 9]]) := by
  obtain ⟨R, h1, h2⟩ := h.last
  exact h.ok.push _ (ok_two T _ hT (by omega)) (Or.inr ⟨_, h1, cmp_child T _ R h2⟩) (Or.inr (by simpa using h.top))
theorem Kids.next {T : Int} {k : Nat} {PS : List (List Int)} (h : Kids T k PS) (hT : 1 ≤ T ∧ T ≤ 99) (hk : k ≤ 2) : Kids T (k + 1) (PS ++ [[T, 1 + (k : Int) * 9]]) :=
  ⟨h.child hT hk, by simp [h.top], ⟨_, last_snoc _ _, Or.inr ⟨_, _, rfl, by omega⟩⟩⟩
theorem Kids.leaf {T z : Int} {k : Nat} {PS : List (List Int)} (h : Kids T k PS) (hT : 1 ≤ T ∧ T ≤ 99) (hk : k ≤ 2) (hz : 1 ≤ z ∧ z ≤ 99) : Kids T (k + 1) (PS ++ [[T, 1 + (k : Int) * 9]] ++ [[T, 1 + (k : Int) * 9, z]]) :=
  ⟨(h.child hT hk).push _ (ok_three T _ z hT (by omega) hz) (Or.inr ⟨_, last_snoc _ _, cmp_leaf _ _ _⟩) (Or.inr (by simp)), by simp [h.top], ⟨_, last_snoc _ _, Or.inr ⟨_, _, rfl, by omega⟩⟩⟩
/-- What is known of the codes between two rounds of the outer loop. -/
structure Tops (d : Nat) (PS : List (List Int)) : Prop where
  ok : TreeOK PS
  last : (d = 0 ∧ PS = []) ∨ (1 ≤ d ∧ ∃ h r, PS.getLast? = some (h :: r) ∧ (d = 1 → h ≤ 11))
set_option maxRecDepth 100000 in
set_option maxHeartbeats 6400000 in
theorem tree_any (b : Nat) (sv : Value) (zs : List Int) (i : Nat) (w : World) (hT : TapeAt b sv zs i w) (hi : i ≤ 800000) :
    Calls Tryz.prog 13 #[.pointer (some ⟨b, 0, none⟩)] w (TreePost b sv zs i w) := by
  have hbw := hT.lt
  have HS := Lib.hid (TreeB.start hT)
  clear hT
  obtain ⟨i0, hi0, hz0, hz1, hz2⟩ := info_parts info9p
  obtain ⟨j0, hj0, hy0, hy1, hy2⟩ := info_parts info3p
  go_enter Tryz.func13, Tryz.ntmps13
  go_wp2_with fail
  refine (next_some b sv zs i 2 _ HS.out.tape (by omega) (by omega) (by omega)).mono ?_
  rintro e w1 ⟨n, hn0, hn1, rfl, hT1, ht1⟩
  have HS1 := Lib.hid (HS.out.next hT1 ht1)
  clear hT1 ht1
  go_wp2_with fail
  go_loopw [20] (fun q wr => ∃ (d m ip : Nat) (v : Value) (PS : List (List Int)), (d : Int) ≤ 1 + n ∧ q = .int .i64 d ∧ PS.length = m ∧ TreeB b sv zs ip v w wr ∧ wr.ownsRow (w.heap.size + 2) 9 1 v m ((codesOf PS).map Value.string) ∧ Tops d PS ∧ m ≤ 5 * d ∧ ip ≤ i + 1 + 8 * d) (fun q _ => (1 + n).toNat - (intOf q).toNat)
  case atStart => exact ⟨0, 0, i + 1, .slice none 0 0, [], by omega, rfl, rfl, HS1.out, World.ownsRow_nil _ _ _ _, ⟨TreeOK.nil, Or.inl ⟨rfl, rfl⟩⟩, by omega, by omega⟩
  case round =>
    obtain ⟨d, m, ip, v, PS, hd, rfl, hm, hTB, hown, hTO, hm5, hip⟩ := hrel
    have HM := Lib.hid hm
    have HTB := Lib.hid hTB
    have HTO := Lib.hid hTO
    have HOW := Lib.hid hown
    clear hm hTB hTO hown
    by_cases hlt : (d : Int) < 1 + n
    · have hd1 : d ≤ 1 := by omega
      go_wp2_with fail
      refine (next_some b sv zs ip 2 _ HTB.out.tape (by omega) (by omega) (by omega)).mono ?_
      rintro e w2 ⟨x, hx0, hx1, rfl, hT2, ht2⟩
      have HTB2 := Lib.hid (HTB.out.next hT2 ht2)
      have HOW2 := Lib.hid (ownsRow_touch HOW.out ht2 (by omega))
      clear hT2 ht2
      have HF1 : Hid (FormatV [1 + (d : Int) + x * 10] = .tuple #[.string (codeB [1 + (d : Int) + x * 10]), .int .i64 0]) := Lib.hid (format_ok (ok_one _ (by omega)))
      go_wp2_with fail
      refine (rformat_any _ [1 + (d : Int) + x * 10] _ (one_at w2 _ _) (by simp)).mono ?_
      rintro e w3 ⟨rfl, hb3⟩
      rw [HF1.out]
      have hbb : Below w2.heap.size w2 w3 := ((Below.refl _ _).alloc (Nat.le_refl _) _).trans (hb3.mono (by simp))
      have HTB3 := Lib.hid (HTB2.out.below hbb)
      have hown3 := ownsRow_below HOW2.out hbb
      have HOW3 := Lib.hid hown3
      have cf3 := cell_blk HTB3.out.blk 1 v rfl
      clear hb3 hbb
      obtain ⟨T, hT⟩ : ∃ T, T = 1 + (d : Int) + x * 10 := ⟨_, rfl⟩
      have hTb : 1 ≤ T ∧ T ≤ 99 := by omega
      have HT11 : Hid (d = 0 → T ≤ 11) := Lib.hid (by omega)
      rw [← hT]
      clear hT HF1
      have ways : (m = 0 ∧ Hid (PS = [])) ∨ (1 ≤ m ∧ 1 ≤ d ∧ ∃ h r, Hid (PS.getLast? = some (h :: r)) ∧ h ≤ 11) := by
        rcases HTO.out.last with ⟨h1, h2⟩ | ⟨h1, h, r, h2, h3⟩
        · exact Or.inl ⟨by rw [← HM.out, h2]; rfl, Lib.hid h2⟩
        · refine Or.inr ⟨?_, h1, h, r, Lib.hid h2, h3 (by omega)⟩
          rw [← HM.out]
          cases PS with
          | nil => simp at h2
          | cons _ _ => simp
      rcases ways with ⟨rfl, HPS⟩ | ⟨hm1, hd1', h, r, HL, h11⟩
      · obtain ⟨p, cc, rfl⟩ := own_form hown3
        obtain ⟨w4, hw4⟩ : ∃ w4, w4 = w3 := ⟨_, rfl⟩
        have HK : Hid (Kids T 0 (PS ++ [[T]])) := Lib.hid ⟨HTO.out.ok.push _ (ok_one T hTb) (Or.inl HPS.out) (Or.inl rfl), by simp, ⟨[], last_snoc _ _, Or.inl rfl⟩⟩
        subst hw4
        have HTB4 := HTB3
        have HOW4 := HOW3
        have cf4 := cf3
        clear cf3 hown3
        have hs4 := HTB4.out.lt
        have hown4 := HOW4.out
        go_wp2_with (first
          | (at_builtin; refine wpList_append_own _ rfl _ _ 22 rfl (w.heap.size + 2) 9 i0 (.string ⟨#[]⟩) 1 16 Tryz.underlying22 hi0 hz0 hz1 hz2 rfl (by decide) _ _ _ rfl (hown4.alloc _) ⟨w4.heap.size, 0, none⟩ 1 1 [.string (codeB [T])] rfl rfl (cell_one_new _ _ _) (by simp [Value.oneCell']) (by unfold maxLen; omega) (by omega) (by simp; omega) ?_)
          | fail)
        intro v5 w5 hown5 hgrow5 _
        have HO5 := Lib.hid (own_push hown5)
        have HTB5 := Lib.hid (HTB4.out.grown hgrow5 (fun j hj => (hown4.lt j hj).1))
        obtain ⟨g5, cp5, ev5, _, _⟩ := World.ownsRow.form HO5.out (by omega)
        subst ev5
        have cf5 := cell_blk HTB5.out.blk 1 _ rfl
        have ff5 := free_blk HTB5.out.blk 1
        clear hown5 hgrow5 hown4 cf4
        go_wp2_with fail
        refine (next_some b sv zs (ip + 1) 3 _ HTB5.out.store.tape (by omega) (by omega) (by omega)).mono ?_
        rintro e w6 ⟨c, hc0, hc1, rfl, hT6, ht6⟩
        have HTB6 := Lib.hid (HTB5.out.store.next hT6 ht6)
        have HOW6 := Lib.hid (ownsRow_touch (own_store HO5.out (Nat.lt_succ_self (w.heap.size + 1))) ht6 (by omega))
        clear hT6 ht6 cf5 ff5
        go_wp2_with fail
        go_loopw [66] (fun q wq => ∃ (k mk ik : Nat) (v : Value) (PK : List (List Int)), (k : Int) ≤ c ∧ q = .int .i64 k ∧ PK.length = mk ∧ TreeB b sv zs ik v w wq ∧ wq.ownsRow (w.heap.size + 2) 9 1 v mk ((codesOf PK).map Value.string) ∧ Kids T k PK ∧ mk ≤ 5 * d + 1 + 2 * k ∧ ik ≤ i + 1 + 8 * d + 2 + 2 * k) (fun q _ => c.toNat - (intOf q).toNat)
        case atStart => exact ⟨0, _, _, _, PS ++ [[T]], by omega, rfl, by rw [List.length_append, HM.out]; rfl, HTB6.out, HOW6.out, HK.out, by omega, by omega⟩
        case round =>
          obtain ⟨k, mk, ik, vk, PK, hk, rfl, hmk, hTK, hownk, hKI, hmk5, hik⟩ := hrel
          have HMK := Lib.hid hmk
          have HTK := Lib.hid hTK
          have HKI := Lib.hid hKI
          have HOK := Lib.hid hownk
          have hsq := hTK.lt
          clear hmk hTK hKI hownk
          by_cases hlt2 : (k : Int) < c
          · have hk2 : k ≤ 2 := by omega
            have HPT := Lib.hid (parse_code (ok_one T hTb))
            have HPC := Lib.hid (parse_code (ok_two T (1 + (k : Int) * 9) hTb (by omega)))
            have HFC := Lib.hid (format_ok (ok_two T (1 + (k : Int) * 9) hTb (by omega)))
            go_wp2_with fail
            refine (rparse_yes (codeB [T]) [T] _ HPT.out.2 HPT.out.1).mono ?_
            rintro e w7 ⟨pv, rfl, hp7o, hb7⟩
            have hp7 : w7.ownsRow wr.heap.size 3 1 pv 1 [Value.int .i64 T] := hp7o
            clear hp7o
            have hs7 := hb7.size
            go_wp2_with (first
              | (at_builtin; refine wpList_append_own _ rfl _ _ 25 rfl wr.heap.size 3 j0 (.int .i64 0) 1 8 Tryz.underlying25 hj0 hy0 hy1 hy2 rfl (by decide) _ _ _ rfl (hp7.alloc _) ⟨w7.heap.size, 0, none⟩ 1 1 [.int .i64 (1 + (k : Int) * 9)] rfl rfl (cell_one_new _ _ _) (by simp [Value.oneCell']) (by unfold maxLen; omega) (by omega) (by simp; omega) ?_)
              | fail)
            intro v8 w8 hown8 hgrow8 _
            have HI8 := Lib.hid (ints_of_own (xs := [T, 1 + (k : Int) * 9]) hown8 rfl)
            have hb8 : Below wr.heap.size wr w8 := (hb7.alloc hs7 _).grown hgrow8 (by simp; omega) (fun j hj => (hp7.lt j hj).1)
            have HB8 := Lib.hid hb8
            clear hown8 hgrow8 hp7 hb7 hb8
            go_wp2_with fail
            refine (rformat_any _ [T, 1 + (k : Int) * 9] _ HI8.out (by simp)).mono ?_
            rintro e w9 ⟨rfl, hb9⟩
            rw [HFC.out]
            have HB9 := Lib.hid (chain0 HB8.out hb9)
            have HTB9 := Lib.hid (HTK.out.below HB9.out)
            have hown9 := ownsRow_below HOK.out HB9.out
            have cf9 := cell_blk HTB9.out.blk 1 _ rfl
            have hs9 := HTB9.out.lt
            clear hb9
            go_wp2_with (first
              | (at_builtin; refine wpList_append_own _ rfl _ _ 22 rfl (w.heap.size + 2) 9 i0 (.string ⟨#[]⟩) 1 16 Tryz.underlying22 hi0 hz0 hz1 hz2 rfl (by decide) _ _ _ rfl (hown9.alloc _) ⟨w9.heap.size, 0, none⟩ 1 1 [.string (codeB [T, 1 + (k : Int) * 9])] rfl rfl (cell_one_new _ _ _) (by simp [Value.oneCell']) (by unfold maxLen; omega) (by omega) (by simp; omega) ?_)
              | fail)
            intro v10 w10 hown10 hgrow10 _
            have HO10 := Lib.hid (own_push hown10)
            have HTB10 := Lib.hid (HTB9.out.grown hgrow10 (fun j hj => (hown9.lt j hj).1))
            obtain ⟨g10, cp10, ev10, _, _⟩ := World.ownsRow.form HO10.out (by omega)
            subst ev10
            have cf10 := cell_blk HTB10.out.blk 1 _ rfl
            have ff10 := free_blk HTB10.out.blk 1
            clear hown10 hgrow10 hown9 cf9
            go_wp2_with fail
            refine (next_some b sv zs ik 3 _ HTB10.out.store.tape (by omega) (by omega) (by omega)).mono ?_
            rintro e w11 ⟨y, hy0', hy1', rfl, hT11, ht11⟩
            have HTB11 := Lib.hid (HTB10.out.store.next hT11 ht11)
            have HOW11 := Lib.hid (ownsRow_touch (own_store HO10.out (Nat.lt_succ_self (w.heap.size + 1))) ht11 (by omega))
            clear hT11 ht11 cf10 ff10
            by_cases hy : y = 0
            · subst hy
              have hs11 := HTB11.out.lt
              go_wp2_with fail
              refine (rparse_yes (codeB [T, 1 + (k : Int) * 9]) [T, 1 + (k : Int) * 9] _ HPC.out.2 HPC.out.1).mono ?_
              rintro e w12 ⟨pv2, rfl, hp12o, hb12⟩
              have hp12 : w12.ownsRow w11.heap.size 3 1 pv2 2 [Value.int .i64 T, Value.int .i64 (1 + (k : Int) * 9)] := hp12o
              clear hp12o
              have hs12 := hb12.size
              have HTB12 := Lib.hid (HTB11.out.below hb12)
              have HOW12 := Lib.hid (ownsRow_below HOW11.out hb12)
              go_wp2_with fail
              refine (next_some b sv zs (ik + 1) 99 _ HTB12.out.tape (by omega) (by omega) (by omega)).mono ?_
              rintro e w13 ⟨z, hz0', hz1', rfl, hT13, ht13⟩
              have HTB13 := Lib.hid (HTB12.out.next hT13 ht13)
              have HOW13 := Lib.hid (ownsRow_touch HOW12.out ht13 (by omega))
              have hp13 := ownsRow_touch hp12 ht13 (by omega)
              have hs13 := ht13.size
              have HFL := Lib.hid (format_ok (ok_three T (1 + (k : Int) * 9) (1 + z) hTb (by omega) (by omega)))
              clear hp12 hb12 hT13 ht13
              go_wp2_with (first
                | (at_builtin; refine wpList_append_own _ rfl _ _ 25 rfl w11.heap.size 3 j0 (.int .i64 0) 1 8 Tryz.underlying25 hj0 hy0 hy1 hy2 rfl (by decide) _ _ _ rfl (hp13.alloc _) ⟨w13.heap.size, 0, none⟩ 1 1 [.int .i64 (1 + z)] rfl rfl (cell_one_new _ _ _) (by simp [Value.oneCell']) (by unfold maxLen; omega) (by omega) (by simp; omega) ?_)
                | fail)
              intro v14 w14 hown14 hgrow14 _
              have HI14 := Lib.hid (ints_of_own (xs := [T, 1 + (k : Int) * 9, 1 + z]) hown14 rfl)
              have hbn : Below w11.heap.size w13 w14 := ((Below.refl _ w13).alloc (by omega) _).grown hgrow14 (by simp; omega) (fun j hj => (hp13.lt j hj).1)
              have HTB14 := Lib.hid (HTB13.out.grown hgrow14 (fun j hj => by have := (hp13.lt j hj).1; omega))
              have HOW14 := Lib.hid (own_belowN HOW13.out (own_where HOW11.out) hbn)
              clear hown14 hgrow14 hp13 hbn
              go_wp2_with fail
              refine (rformat_any _ [T, 1 + (k : Int) * 9, 1 + z] _ HI14.out (by simp)).mono ?_
              rintro e w15 ⟨rfl, hb15⟩
              rw [HFL.out]
              have HTB15 := Lib.hid (HTB14.out.below hb15)
              have hown15 := ownsRow_below HOW14.out hb15
              have cf15 := cell_blk HTB15.out.blk 1 _ rfl
              have hs15 := HTB15.out.lt
              clear hb15
              go_wp2_with (first
                | (at_builtin; refine wpList_append_own _ rfl _ _ 22 rfl (w.heap.size + 2) 9 i0 (.string ⟨#[]⟩) 1 16 Tryz.underlying22 hi0 hz0 hz1 hz2 rfl (by decide) _ _ _ rfl (hown15.alloc _) ⟨w15.heap.size, 0, none⟩ 1 1 [.string (codeB [T, 1 + (k : Int) * 9, 1 + z])] rfl rfl (cell_one_new _ _ _) (by simp [Value.oneCell']) (by unfold maxLen; omega) (by omega) (by simp; omega) ?_)
                | fail)
              intro v16 w16 hown16 hgrow16 _
              have HO16 := Lib.hid (own_push hown16)
              have HTB16 := Lib.hid (HTB15.out.grown hgrow16 (fun j hj => (hown15.lt j hj).1))
              obtain ⟨g16, cp16, ev16, _, _⟩ := World.ownsRow.form HO16.out (by omega)
              subst ev16
              have cf16 := cell_blk HTB16.out.blk 1 _ rfl
              have ff16 := free_blk HTB16.out.blk 1
              clear hown16 hgrow16 hown15 cf15
              go_wp2_with fail
              go_roundw
              case rel => exact ⟨k + 1, _, _, _, _, by omega, by go_num, by rw [List.length_append, List.length_append, HMK.out]; rfl, HTB16.out.store, own_store HO16.out (Nat.lt_succ_self (w.heap.size + 1)), HKI.out.leaf hTb hk2 (z := 1 + z) (by omega), by omega, by omega⟩
              case measure => simp [intOf]; omega
            · have hyb : (y == 0) = false := by rw [beq_eq_false_iff_ne]; exact hy
              go_wp2_with fail
              go_roundw
              case rel => exact ⟨k + 1, _, _, _, _, by omega, by go_num, by rw [List.length_append, HMK.out]; rfl, HTB11.out, HOW11.out, HKI.out.next hTb hk2, by omega, by omega⟩
              case measure => simp [intOf]; omega
          · have HLAST : Hid (Tops (d + 1) PK) := Lib.hid (by
              obtain ⟨R, h1, _⟩ := HKI.out.last
              exact ⟨HKI.out.ok, Or.inr ⟨by omega, T, R, h1, fun e => HT11.out (by omega)⟩⟩)
            go_wp2_with fail
            go_roundw
            case rel => exact ⟨d + 1, _, _, _, PK, by omega, by go_num, HMK.out, HTK.out, HOK.out, HLAST.out, by omega, by omega⟩
            case measure => simp [intOf]; omega
      · obtain ⟨mm, rfl⟩ : ∃ mm, m = mm + 1 := ⟨m - 1, by omega⟩
        obtain ⟨g, cp, rfl, _, _⟩ := World.ownsRow.form hown3 (by omega)
        have hpl : PS[mm]? = some (h :: r) := by
          have := HL.out
          rw [List.getLast?_eq_getElem?, HM.out] at this
          exact this
        have hmem : (h :: r) ∈ PS := List.mem_of_getElem? hpl
        have hoL := HTO.out.ok.ok _ hmem
        have hc3 : w3.cell? ⟨g, mm, none⟩ = some (.string (codeB (h :: r))) := by
          have hh := hown3.cellAt mm (by omega)
          have h2 : ((codesOf PS).map Value.string)[mm]? = some (.string (codeB (h :: r))) := by
            unfold codesOf
            rw [List.getElem?_map, List.getElem?_map, hpl]; rfl
          rw [hh, h2]
        have HZ1 := Lib.hid (parse_code hoL).2
        have HZ2 := Lib.hid (parse_code (ok_one T hTb)).2
        have HCV : Hid (cmpV (codeB (h :: r)) (codeB [T]) = cmpI (h :: r) [T]) := Lib.hid (cmp_codes hoL (ok_one T hTb))
        clear hpl hmem hoL hown3
        go_wp2_with fail
        refine (rcompare_any (codeB (h :: r)) (codeB [T]) _ HZ1.out HZ2.out).mono ?_
        rintro e wc4 ⟨rfl, hbc⟩
        have HTBc := Lib.hid (HTB3.out.below hbc)
        have HOWc := Lib.hid (ownsRow_below HOW3.out hbc)
        have cfc := cell_blk HTBc.out.blk 1 _ rfl
        rw [HCV.out]
        clear hc3 cf3 hbc
        obtain ⟨cv, ecv⟩ : ∃ cv, cv = cmpI (h :: r) [T] := ⟨_, rfl⟩
        have HCC := Lib.hid ecv
        rw [← ecv]
        clear ecv
        by_cases hcmp : 0 ≤ cv
        · have HFX : Hid (FormatV [30 + (d : Int)] = .tuple #[.string (codeB [30 + (d : Int)]), .int .i64 0]) := Lib.hid (format_ok (ok_one _ (by omega)))
          clear hTb HT11 HCC HZ1 HZ2 HCV
          go_wp2_with fail
          refine (rformat_any _ [30 + (d : Int)] _ (one_at wc4 _ _) (by simp)).mono ?_
          rintro e w4 ⟨rfl, hb4⟩
          rw [HFX.out]
          have hbb4 : Below wc4.heap.size wc4 w4 := ((Below.refl _ _).alloc (Nat.le_refl _) _).trans (hb4.mono (by simp))
          have HTB4 := Lib.hid (HTBc.out.below hbb4)
          have HOW4 := Lib.hid (ownsRow_below HOWc.out hbb4)
          have cf4 := cell_blk HTB4.out.blk 1 _ rfl
          clear hb4 hbb4 cfc HFX
          obtain ⟨T, hT⟩ : ∃ T, T = 30 + (d : Int) := ⟨_, rfl⟩
          have hTb : 1 ≤ T ∧ T ≤ 99 := by omega
          have HT11 : Hid (d = 0 → T ≤ 11) := Lib.hid (by omega)
          have HK : Hid (Kids T 0 (PS ++ [[T]])) := Lib.hid ⟨HTO.out.ok.push _ (ok_one T hTb) (Or.inr ⟨_, HL.out, cmp_head h T r (by omega)⟩) (Or.inl rfl), by simp, ⟨[], last_snoc _ _, Or.inl rfl⟩⟩
          rw [← hT]
          clear hT
          have hs4 := HTB4.out.lt
          have hown4 := HOW4.out
          go_wp2_with (first
            | (at_builtin; refine wpList_append_own _ rfl _ _ 22 rfl (w.heap.size + 2) 9 i0 (.string ⟨#[]⟩) 1 16 Tryz.underlying22 hi0 hz0 hz1 hz2 rfl (by decide) _ _ _ rfl (hown4.alloc _) ⟨w4.heap.size, 0, none⟩ 1 1 [.string (codeB [T])] rfl rfl (cell_one_new _ _ _) (by simp [Value.oneCell']) (by unfold maxLen; omega) (by omega) (by simp; omega) ?_)
            | fail)
          intro v5 w5 hown5 hgrow5 _
          have HO5 := Lib.hid (own_push hown5)
          have HTB5 := Lib.hid (HTB4.out.grown hgrow5 (fun j hj => (hown4.lt j hj).1))
          obtain ⟨g5, cp5, ev5, _, _⟩ := World.ownsRow.form HO5.out (by omega)
          subst ev5
          have cf5 := cell_blk HTB5.out.blk 1 _ rfl
          have ff5 := free_blk HTB5.out.blk 1
          clear hown5 hgrow5 hown4 cf4
          go_wp2_with fail
          refine (next_some b sv zs (ip + 1) 3 _ HTB5.out.store.tape (by omega) (by omega) (by omega)).mono ?_
          rintro e w6 ⟨c, hc0, hc1, rfl, hT6, ht6⟩
          have HTB6 := Lib.hid (HTB5.out.store.next hT6 ht6)
          have HOW6 := Lib.hid (ownsRow_touch (own_store HO5.out (Nat.lt_succ_self (w.heap.size + 1))) ht6 (by omega))
          clear hT6 ht6 cf5 ff5
          go_wp2_with fail
          go_loopw [66] (fun q wq => ∃ (k mk ik : Nat) (v : Value) (PK : List (List Int)), (k : Int) ≤ c ∧ q = .int .i64 k ∧ PK.length = mk ∧ TreeB b sv zs ik v w wq ∧ wq.ownsRow (w.heap.size + 2) 9 1 v mk ((codesOf PK).map Value.string) ∧ Kids T k PK ∧ mk ≤ 5 * d + 1 + 2 * k ∧ ik ≤ i + 1 + 8 * d + 2 + 2 * k) (fun q _ => c.toNat - (intOf q).toNat)
          case atStart => exact ⟨0, _, _, _, PS ++ [[T]], by omega, rfl, by rw [List.length_append, HM.out]; rfl, HTB6.out, HOW6.out, HK.out, by omega, by omega⟩
          case round =>
            obtain ⟨k, mk, ik, vk, PK, hk, rfl, hmk, hTK, hownk, hKI, hmk5, hik⟩ := hrel
            have HMK := Lib.hid hmk
            have HTK := Lib.hid hTK
            have HKI := Lib.hid hKI
            have HOK := Lib.hid hownk
            have hsq := hTK.lt
            clear hmk hTK hKI hownk
            by_cases hlt2 : (k : Int) < c
            · have hk2 : k ≤ 2 := by omega
              have HPT := Lib.hid (parse_code (ok_one T hTb))
              have HPC := Lib.hid (parse_code (ok_two T (1 + (k : Int) * 9) hTb (by omega)))
              have HFC := Lib.hid (format_ok (ok_two T (1 + (k : Int) * 9) hTb (by omega)))
              go_wp2_with fail
              refine (rparse_yes (codeB [T]) [T] _ HPT.out.2 HPT.out.1).mono ?_
              rintro e w7 ⟨pv, rfl, hp7o, hb7⟩
              have hp7 : w7.ownsRow wr.heap.size 3 1 pv 1 [Value.int .i64 T] := hp7o
              clear hp7o
              have hs7 := hb7.size
              go_wp2_with (first
                | (at_builtin; refine wpList_append_own _ rfl _ _ 25 rfl wr.heap.size 3 j0 (.int .i64 0) 1 8 Tryz.underlying25 hj0 hy0 hy1 hy2 rfl (by decide) _ _ _ rfl (hp7.alloc _) ⟨w7.heap.size, 0, none⟩ 1 1 [.int .i64 (1 + (k : Int) * 9)] rfl rfl (cell_one_new _ _ _) (by simp [Value.oneCell']) (by unfold maxLen; omega) (by omega) (by simp; omega) ?_)
                | fail)
              intro v8 w8 hown8 hgrow8 _
              have HI8 := Lib.hid (ints_of_own (xs := [T, 1 + (k : Int) * 9]) hown8 rfl)
              have hb8 : Below wr.heap.size wr w8 := (hb7.alloc hs7 _).grown hgrow8 (by simp; omega) (fun j hj => (hp7.lt j hj).1)
              have HB8 := Lib.hid hb8
              clear hown8 hgrow8 hp7 hb7 hb8
              go_wp2_with fail
              refine (rformat_any _ [T, 1 + (k : Int) * 9] _ HI8.out (by simp)).mono ?_
              rintro e w9 ⟨rfl, hb9⟩
              rw [HFC.out]
              have HB9 := Lib.hid (chain0 HB8.out hb9)
              have HTB9 := Lib.hid (HTK.out.below HB9.out)
              have hown9 := ownsRow_below HOK.out HB9.out
              have cf9 := cell_blk HTB9.out.blk 1 _ rfl
              have hs9 := HTB9.out.lt
              clear hb9
              go_wp2_with (first
                | (at_builtin; refine wpList_append_own _ rfl _ _ 22 rfl (w.heap.size + 2) 9 i0 (.string ⟨#[]⟩) 1 16 Tryz.underlying22 hi0 hz0 hz1 hz2 rfl (by decide) _ _ _ rfl (hown9.alloc _) ⟨w9.heap.size, 0, none⟩ 1 1 [.string (codeB [T, 1 + (k : Int) * 9])] rfl rfl (cell_one_new _ _ _) (by simp [Value.oneCell']) (by unfold maxLen; omega) (by omega) (by simp; omega) ?_)
                | fail)
              intro v10 w10 hown10 hgrow10 _
              have HO10 := Lib.hid (own_push hown10)
              have HTB10 := Lib.hid (HTB9.out.grown hgrow10 (fun j hj => (hown9.lt j hj).1))
              obtain ⟨g10, cp10, ev10, _, _⟩ := World.ownsRow.form HO10.out (by omega)
              subst ev10
              have cf10 := cell_blk HTB10.out.blk 1 _ rfl
              have ff10 := free_blk HTB10.out.blk 1
              clear hown10 hgrow10 hown9 cf9
              go_wp2_with fail
              refine (next_some b sv zs ik 3 _ HTB10.out.store.tape (by omega) (by omega) (by omega)).mono ?_
              rintro e w11 ⟨y, hy0', hy1', rfl, hT11, ht11⟩
              have HTB11 := Lib.hid (HTB10.out.store.next hT11 ht11)
              have HOW11 := Lib.hid (ownsRow_touch (own_store HO10.out (Nat.lt_succ_self (w.heap.size + 1))) ht11 (by omega))
              clear hT11 ht11 cf10 ff10
              by_cases hy : y = 0
              · subst hy
                have hs11 := HTB11.out.lt
                go_wp2_with fail
                refine (rparse_yes (codeB [T, 1 + (k : Int) * 9]) [T, 1 + (k : Int) * 9] _ HPC.out.2 HPC.out.1).mono ?_
                rintro e w12 ⟨pv2, rfl, hp12o, hb12⟩
                have hp12 : w12.ownsRow w11.heap.size 3 1 pv2 2 [Value.int .i64 T, Value.int .i64 (1 + (k : Int) * 9)] := hp12o
                clear hp12o
                have hs12 := hb12.size
                have HTB12 := Lib.hid (HTB11.out.below hb12)
                have HOW12 := Lib.hid (ownsRow_below HOW11.out hb12)
                go_wp2_with fail
                refine (next_some b sv zs (ik + 1) 99 _ HTB12.out.tape (by omega) (by omega) (by omega)).mono ?_
                rintro e w13 ⟨z, hz0', hz1', rfl, hT13, ht13⟩
                have HTB13 := Lib.hid (HTB12.out.next hT13 ht13)
                have HOW13 := Lib.hid (ownsRow_touch HOW12.out ht13 (by omega))
                have hp13 := ownsRow_touch hp12 ht13 (by omega)
                have hs13 := ht13.size
                have HFL := Lib.hid (format_ok (ok_three T (1 + (k : Int) * 9) (1 + z) hTb (by omega) (by omega)))
                clear hp12 hb12 hT13 ht13
                go_wp2_with (first
                  | (at_builtin; refine wpList_append_own _ rfl _ _ 25 rfl w11.heap.size 3 j0 (.int .i64 0) 1 8 Tryz.underlying25 hj0 hy0 hy1 hy2 rfl (by decide) _ _ _ rfl (hp13.alloc _) ⟨w13.heap.size, 0, none⟩ 1 1 [.int .i64 (1 + z)] rfl rfl (cell_one_new _ _ _) (by simp [Value.oneCell']) (by unfold maxLen; omega) (by omega) (by simp; omega) ?_)
                  | fail)
                intro v14 w14 hown14 hgrow14 _
                have HI14 := Lib.hid (ints_of_own (xs := [T, 1 + (k : Int) * 9, 1 + z]) hown14 rfl)
                have hbn : Below w11.heap.size w13 w14 := ((Below.refl _ w13).alloc (by omega) _).grown hgrow14 (by simp; omega) (fun j hj => (hp13.lt j hj).1)
                have HTB14 := Lib.hid (HTB13.out.grown hgrow14 (fun j hj => by have := (hp13.lt j hj).1; omega))
                have HOW14 := Lib.hid (own_belowN HOW13.out (own_where HOW11.out) hbn)
                clear hown14 hgrow14 hp13 hbn
                go_wp2_with fail
                refine (rformat_any _ [T, 1 + (k : Int) * 9, 1 + z] _ HI14.out (by simp)).mono ?_
                rintro e w15 ⟨rfl, hb15⟩
                rw [HFL.out]
                have HTB15 := Lib.hid (HTB14.out.below hb15)
                have hown15 := ownsRow_below HOW14.out hb15
                have cf15 := cell_blk HTB15.out.blk 1 _ rfl
                have hs15 := HTB15.out.lt
                clear hb15
                go_wp2_with (first
                  | (at_builtin; refine wpList_append_own _ rfl _ _ 22 rfl (w.heap.size + 2) 9 i0 (.string ⟨#[]⟩) 1 16 Tryz.underlying22 hi0 hz0 hz1 hz2 rfl (by decide) _ _ _ rfl (hown15.alloc _) ⟨w15.heap.size, 0, none⟩ 1 1 [.string (codeB [T, 1 + (k : Int) * 9, 1 + z])] rfl rfl (cell_one_new _ _ _) (by simp [Value.oneCell']) (by unfold maxLen; omega) (by omega) (by simp; omega) ?_)
                  | fail)
                intro v16 w16 hown16 hgrow16 _
                have HO16 := Lib.hid (own_push hown16)
                have HTB16 := Lib.hid (HTB15.out.grown hgrow16 (fun j hj => (hown15.lt j hj).1))
                obtain ⟨g16, cp16, ev16, _, _⟩ := World.ownsRow.form HO16.out (by omega)
                subst ev16
                have cf16 := cell_blk HTB16.out.blk 1 _ rfl
                have ff16 := free_blk HTB16.out.blk 1
                clear hown16 hgrow16 hown15 cf15
                go_wp2_with fail
                go_roundw
                case rel => exact ⟨k + 1, _, _, _, _, by omega, by go_num, by rw [List.length_append, List.length_append, HMK.out]; rfl, HTB16.out.store, own_store HO16.out (Nat.lt_succ_self (w.heap.size + 1)), HKI.out.leaf hTb hk2 (z := 1 + z) (by omega), by omega, by omega⟩
                case measure => simp [intOf]; omega
              · have hyb : (y == 0) = false := by rw [beq_eq_false_iff_ne]; exact hy
                go_wp2_with fail
                go_roundw
                case rel => exact ⟨k + 1, _, _, _, _, by omega, by go_num, by rw [List.length_append, HMK.out]; rfl, HTB11.out, HOW11.out, HKI.out.next hTb hk2, by omega, by omega⟩
                case measure => simp [intOf]; omega
            · have HLAST : Hid (Tops (d + 1) PK) := Lib.hid (by
                obtain ⟨R, h1, _⟩ := HKI.out.last
                exact ⟨HKI.out.ok, Or.inr ⟨by omega, T, R, h1, fun e => HT11.out (by omega)⟩⟩)
              go_wp2_with fail
              go_roundw
              case rel => exact ⟨d + 1, _, _, _, PK, by omega, by go_num, HMK.out, HTK.out, HOK.out, HLAST.out, by omega, by omega⟩
              case measure => simp [intOf]; omega
        · obtain ⟨w4, hw4⟩ : ∃ w4, w4 = wc4 := ⟨_, rfl⟩
          have HK : Hid (Kids T 0 (PS ++ [[T]])) := Lib.hid ⟨HTO.out.ok.push _ (ok_one T hTb) (Or.inr ⟨_, HL.out, by rw [← HCC.out]; omega⟩) (Or.inl rfl), by simp, ⟨[], last_snoc _ _, Or.inl rfl⟩⟩
          subst hw4
          have HTB4 := HTBc
          have HOW4 := HOWc
          have cf4 := cfc
          clear cfc
          have hs4 := HTB4.out.lt
          have hown4 := HOW4.out
          go_wp2_with (first
            | (at_builtin; refine wpList_append_own _ rfl _ _ 22 rfl (w.heap.size + 2) 9 i0 (.string ⟨#[]⟩) 1 16 Tryz.underlying22 hi0 hz0 hz1 hz2 rfl (by decide) _ _ _ rfl (hown4.alloc _) ⟨w4.heap.size, 0, none⟩ 1 1 [.string (codeB [T])] rfl rfl (cell_one_new _ _ _) (by simp [Value.oneCell']) (by unfold maxLen; omega) (by omega) (by simp; omega) ?_)
            | fail)
          intro v5 w5 hown5 hgrow5 _
          have HO5 := Lib.hid (own_push hown5)
          have HTB5 := Lib.hid (HTB4.out.grown hgrow5 (fun j hj => (hown4.lt j hj).1))
          obtain ⟨g5, cp5, ev5, _, _⟩ := World.ownsRow.form HO5.out (by omega)
          subst ev5
          have cf5 := cell_blk HTB5.out.blk 1 _ rfl
          have ff5 := free_blk HTB5.out.blk 1
          clear hown5 hgrow5 hown4 cf4
          go_wp2_with fail
          refine (next_some b sv zs (ip + 1) 3 _ HTB5.out.store.tape (by omega) (by omega) (by omega)).mono ?_
          rintro e w6 ⟨c, hc0, hc1, rfl, hT6, ht6⟩
          have HTB6 := Lib.hid (HTB5.out.store.next hT6 ht6)
          have HOW6 := Lib.hid (ownsRow_touch (own_store HO5.out (Nat.lt_succ_self (w.heap.size + 1))) ht6 (by omega))
          clear hT6 ht6 cf5 ff5
          go_wp2_with fail
          go_loopw [66] (fun q wq => ∃ (k mk ik : Nat) (v : Value) (PK : List (List Int)), (k : Int) ≤ c ∧ q = .int .i64 k ∧ PK.length = mk ∧ TreeB b sv zs ik v w wq ∧ wq.ownsRow (w.heap.size + 2) 9 1 v mk ((codesOf PK).map Value.string) ∧ Kids T k PK ∧ mk ≤ 5 * d + 1 + 2 * k ∧ ik ≤ i + 1 + 8 * d + 2 + 2 * k) (fun q _ => c.toNat - (intOf q).toNat)
          case atStart => exact ⟨0, _, _, _, PS ++ [[T]], by omega, rfl, by rw [List.length_append, HM.out]; rfl, HTB6.out, HOW6.out, HK.out, by omega, by omega⟩
          case round =>
            obtain ⟨k, mk, ik, vk, PK, hk, rfl, hmk, hTK, hownk, hKI, hmk5, hik⟩ := hrel
            have HMK := Lib.hid hmk
            have HTK := Lib.hid hTK
            have HKI := Lib.hid hKI
            have HOK := Lib.hid hownk
            have hsq := hTK.lt
            clear hmk hTK hKI hownk
            by_cases hlt2 : (k : Int) < c
            · have hk2 : k ≤ 2 := by omega
              have HPT := Lib.hid (parse_code (ok_one T hTb))
              have HPC := Lib.hid (parse_code (ok_two T (1 + (k : Int) * 9) hTb (by omega)))
              have HFC := Lib.hid (format_ok (ok_two T (1 + (k : Int) * 9) hTb (by omega)))
              go_wp2_with fail
              refine (rparse_yes (codeB [T]) [T] _ HPT.out.2 HPT.out.1).mono ?_
              rintro e w7 ⟨pv, rfl, hp7o, hb7⟩
              have hp7 : w7.ownsRow wr.heap.size 3 1 pv 1 [Value.int .i64 T] := hp7o
              clear hp7o
              have hs7 := hb7.size
              go_wp2_with (first
                | (at_builtin; refine wpList_append_own _ rfl _ _ 25 rfl wr.heap.size 3 j0 (.int .i64 0) 1 8 Tryz.underlying25 hj0 hy0 hy1 hy2 rfl (by decide) _ _ _ rfl (hp7.alloc _) ⟨w7.heap.size, 0, none⟩ 1 1 [.int .i64 (1 + (k : Int) * 9)] rfl rfl (cell_one_new _ _ _) (by simp [Value.oneCell']) (by unfold maxLen; omega) (by omega) (by simp; omega) ?_)
                | fail)
              intro v8 w8 hown8 hgrow8 _
              have HI8 := Lib.hid (ints_of_own (xs := [T, 1 + (k : Int) * 9]) hown8 rfl)
              have hb8 : Below wr.heap.size wr w8 := (hb7.alloc hs7 _).grown hgrow8 (by simp; omega) (fun j hj => (hp7.lt j hj).1)
              have HB8 := Lib.hid hb8
              clear hown8 hgrow8 hp7 hb7 hb8
              go_wp2_with fail
              refine (rformat_any _ [T, 1 + (k : Int) * 9] _ HI8.out (by simp)).mono ?_
              rintro e w9 ⟨rfl, hb9⟩
              rw [HFC.out]
              have HB9 := Lib.hid (chain0 HB8.out hb9)
              have HTB9 := Lib.hid (HTK.out.below HB9.out)
              have hown9 := ownsRow_below HOK.out HB9.out
              have cf9 := cell_blk HTB9.out.blk 1 _ rfl
              have hs9 := HTB9.out.lt
              clear hb9
              go_wp2_with (first
                | (at_builtin; refine wpList_append_own _ rfl _ _ 22 rfl (w.heap.size + 2) 9 i0 (.string ⟨#[]⟩) 1 16 Tryz.underlying22 hi0 hz0 hz1 hz2 rfl (by decide) _ _ _ rfl (hown9.alloc _) ⟨w9.heap.size, 0, none⟩ 1 1 [.string (codeB [T, 1 + (k : Int) * 9])] rfl rfl (cell_one_new _ _ _) (by simp [Value.oneCell']) (by unfold maxLen; omega) (by omega) (by simp; omega) ?_)
                | fail)
              intro v10 w10 hown10 hgrow10 _
              have HO10 := Lib.hid (own_push hown10)
              have HTB10 := Lib.hid (HTB9.out.grown hgrow10 (fun j hj => (hown9.lt j hj).1))
              obtain ⟨g10, cp10, ev10, _, _⟩ := World.ownsRow.form HO10.out (by omega)
              subst ev10
              have cf10 := cell_blk HTB10.out.blk 1 _ rfl
              have ff10 := free_blk HTB10.out.blk 1
              clear hown10 hgrow10 hown9 cf9
              go_wp2_with fail
              refine (next_some b sv zs ik 3 _ HTB10.out.store.tape (by omega) (by omega) (by omega)).mono ?_
              rintro e w11 ⟨y, hy0', hy1', rfl, hT11, ht11⟩
              have HTB11 := Lib.hid (HTB10.out.store.next hT11 ht11)
              have HOW11 := Lib.hid (ownsRow_touch (own_store HO10.out (Nat.lt_succ_self (w.heap.size + 1))) ht11 (by omega))
              clear hT11 ht11 cf10 ff10
              by_cases hy : y = 0
              · subst hy
                have hs11 := HTB11.out.lt
                go_wp2_with fail
                refine (rparse_yes (codeB [T, 1 + (k : Int) * 9]) [T, 1 + (k : Int) * 9] _ HPC.out.2 HPC.out.1).mono ?_
                rintro e w12 ⟨pv2, rfl, hp12o, hb12⟩
                have hp12 : w12.ownsRow w11.heap.size 3 1 pv2 2 [Value.int .i64 T, Value.int .i64 (1 + (k : Int) * 9)] := hp12o
                clear hp12o
                have hs12 := hb12.size
                have HTB12 := Lib.hid (HTB11.out.below hb12)
                have HOW12 := Lib.hid (ownsRow_below HOW11.out hb12)
                go_wp2_with fail
                refine (next_some b sv zs (ik + 1) 99 _ HTB12.out.tape (by omega) (by omega) (by omega)).mono ?_
                rintro e w13 ⟨z, hz0', hz1', rfl, hT13, ht13⟩
                have HTB13 := Lib.hid (HTB12.out.next hT13 ht13)
                have HOW13 := Lib.hid (ownsRow_touch HOW12.out ht13 (by omega))
                have hp13 := ownsRow_touch hp12 ht13 (by omega)
                have hs13 := ht13.size
                have HFL := Lib.hid (format_ok (ok_three T (1 + (k : Int) * 9) (1 + z) hTb (by omega) (by omega)))
                clear hp12 hb12 hT13 ht13
                go_wp2_with (first
                  | (at_builtin; refine wpList_append_own _ rfl _ _ 25 rfl w11.heap.size 3 j0 (.int .i64 0) 1 8 Tryz.underlying25 hj0 hy0 hy1 hy2 rfl (by decide) _ _ _ rfl (hp13.alloc _) ⟨w13.heap.size, 0, none⟩ 1 1 [.int .i64 (1 + z)] rfl rfl (cell_one_new _ _ _) (by simp [Value.oneCell']) (by unfold maxLen; omega) (by omega) (by simp; omega) ?_)
                  | fail)
                intro v14 w14 hown14 hgrow14 _
                have HI14 := Lib.hid (ints_of_own (xs := [T, 1 + (k : Int) * 9, 1 + z]) hown14 rfl)
                have hbn : Below w11.heap.size w13 w14 := ((Below.refl _ w13).alloc (by omega) _).grown hgrow14 (by simp; omega) (fun j hj => (hp13.lt j hj).1)
                have HTB14 := Lib.hid (HTB13.out.grown hgrow14 (fun j hj => by have := (hp13.lt j hj).1; omega))
                have HOW14 := Lib.hid (own_belowN HOW13.out (own_where HOW11.out) hbn)
                clear hown14 hgrow14 hp13 hbn
                go_wp2_with fail
                refine (rformat_any _ [T, 1 + (k : Int) * 9, 1 + z] _ HI14.out (by simp)).mono ?_
                rintro e w15 ⟨rfl, hb15⟩
                rw [HFL.out]
                have HTB15 := Lib.hid (HTB14.out.below hb15)
                have hown15 := ownsRow_below HOW14.out hb15
                have cf15 := cell_blk HTB15.out.blk 1 _ rfl
                have hs15 := HTB15.out.lt
                clear hb15
                go_wp2_with (first
                  | (at_builtin; refine wpList_append_own _ rfl _ _ 22 rfl (w.heap.size + 2) 9 i0 (.string ⟨#[]⟩) 1 16 Tryz.underlying22 hi0 hz0 hz1 hz2 rfl (by decide) _ _ _ rfl (hown15.alloc _) ⟨w15.heap.size, 0, none⟩ 1 1 [.string (codeB [T, 1 + (k : Int) * 9, 1 + z])] rfl rfl (cell_one_new _ _ _) (by simp [Value.oneCell']) (by unfold maxLen; omega) (by omega) (by simp; omega) ?_)
                  | fail)
                intro v16 w16 hown16 hgrow16 _
                have HO16 := Lib.hid (own_push hown16)
                have HTB16 := Lib.hid (HTB15.out.grown hgrow16 (fun j hj => (hown15.lt j hj).1))
                obtain ⟨g16, cp16, ev16, _, _⟩ := World.ownsRow.form HO16.out (by omega)
                subst ev16
                have cf16 := cell_blk HTB16.out.blk 1 _ rfl
                have ff16 := free_blk HTB16.out.blk 1
                clear hown16 hgrow16 hown15 cf15
                go_wp2_with fail
                go_roundw
                case rel => exact ⟨k + 1, _, _, _, _, by omega, by go_num, by rw [List.length_append, List.length_append, HMK.out]; rfl, HTB16.out.store, own_store HO16.out (Nat.lt_succ_self (w.heap.size + 1)), HKI.out.leaf hTb hk2 (z := 1 + z) (by omega), by omega, by omega⟩
                case measure => simp [intOf]; omega
              · have hyb : (y == 0) = false := by rw [beq_eq_false_iff_ne]; exact hy
                go_wp2_with fail
                go_roundw
                case rel => exact ⟨k + 1, _, _, _, _, by omega, by go_num, by rw [List.length_append, HMK.out]; rfl, HTB11.out, HOW11.out, HKI.out.next hTb hk2, by omega, by omega⟩
                case measure => simp [intOf]; omega
            · have HLAST : Hid (Tops (d + 1) PK) := Lib.hid (by
                obtain ⟨R, h1, _⟩ := HKI.out.last
                exact ⟨HKI.out.ok, Or.inr ⟨by omega, T, R, h1, fun e => HT11.out (by omega)⟩⟩)
              go_wp2_with fail
              go_roundw
              case rel => exact ⟨d + 1, _, _, _, PK, by omega, by go_num, HMK.out, HTK.out, HOK.out, HLAST.out, by omega, by omega⟩
              case measure => simp [intOf]; omega
    · have hm1 : 1 ≤ m := by
        rcases HTO.out.last with ⟨h1, _⟩ | ⟨h1, h, r, h2, _⟩
        · omega
        · rw [← HM.out]
          cases PS with
          | nil => simp at h2
          | cons _ _ => simp
      obtain ⟨g, cp, rfl, _, _⟩ := World.ownsRow.form HOW.out (by omega)
      have c0 := cell_blk HTB.out.blk 0 _ rfl
      have c1 := cell_blk HTB.out.blk 1 _ rfl
      have r0 := cell_blk HTB.out.res 0 _ rfl
      have r1 := cell_blk HTB.out.res 1 _ rfl
      have f0 := free_blk HTB.out.res 0
      have f1 := free_blk HTB.out.res 1
      have hsl := HTB.out.lt
      have HFIN := Lib.hid (HTB.out.fin (.string ⟨#[99]⟩) (.slice (some ⟨g, 0, none⟩) m cp))
      have hd2 : d ≤ 2 := by omega
      have HML : Hid (1 ≤ PS.length ∧ PS.length ≤ 10) := Lib.hid (by rw [HM.out]; omega)
      have HOWN : Hid (((wr.setCell ⟨w.heap.size, 0, none⟩ (.string ⟨#[99]⟩)).setCell ⟨w.heap.size, 1, none⟩ (.slice (some ⟨g, 0, none⟩) m cp)).ownsRow (w.heap.size + 2) 9 1 (.slice (some ⟨g, 0, none⟩) m cp) PS.length ((codesOf PS).map Value.string)) := Lib.hid (by
        rw [HM.out]; exact own_store (own_store HOW.out (by omega)) (by omega))
      go_wp2
      have a0 := HFIN.out.1.1
      have a1 := HFIN.out.1.2
      exact bodyPost_ret (v := .agg #[.string ⟨#[99]⟩, .slice (some ⟨g, 0, none⟩) m cp]) (by simp [results, Tryz.results13, go_sem, a0, a1]) rfl ⟨_, PS, ip, rfl, HTO.out.ok, HML.out.1, HML.out.2, HOWN.out, by omega, HFIN.out.2.1, HFIN.out.2.2⟩
end Go.Proofs.YtnmcmnllmnpjkaaGreatDoor
