/- Contracts of the program's Level, Parent, Path and Within: any short strings. -/
import Derived.Test.YtnmcmnllmnpjkaaDoorG3
namespace Go.Proofs.YtnmcmnllmnpjkaaDoor
open Go.RowKit Go.Sort Cal Go.Maps
theorem empty_no {s : ByteArray} (h : s.size ≠ 0) : s.toList.isEmpty = false := by
  rw [ByteArray.toList_eq]
  cases h2 : s.data.toList with
  | nil => exact absurd (by rw [Lib.size_eq, h2]; rfl) h
  | cons _ _ => rfl
theorem size_code {s : ByteArray} {P : List Int} (h : parseO s = some P) : s.size ≠ 0 := by
  obtain ⟨a, e⟩ := parseO_some h
  rw [e]; exact codeB_pos a
set_option maxHeartbeats 800000 in
theorem level_any (s : ByteArray) (w : World) (hs : s.size ≤ 1000) (hE : Env w) :
    Calls Tryd.prog 23 #[.string s] w fun e w' => e = .returned (.int .i64 (levelV s)) ∧ Below w.heap.size w w' := by
  have HE := Lib.hid hE
  clear hE
  cases hp : parseO s with
  | some P =>
    have HP := Lib.hid hp
    have HL : Hid (levelV s = P.length) := Lib.hid (by unfold levelV partsO; rw [if_neg (size_code hp), hp])
    clear hp
    go_enter Tryd.func23, Tryd.ntmps23
    go_wp2_with fail
    refine (parse_yes s P _ hs HP.out HE.out).mono ?_
    rintro e w1 ⟨sv, rfl, hown, hb⟩
    obtain ⟨p, c, rfl⟩ := own_form hown
    clear hown
    go_wp2
    go_ret
    exact ⟨by rw [HL.out]; rfl, hb⟩
  | none =>
    have HP := Lib.hid hp
    by_cases h0 : s.size = 0
    · have HL : Hid (levelV s = 0) := Lib.hid (by unfold levelV partsO; rw [if_pos h0]; rfl)
      have e := size_zero h0
      subst e
      clear hp h0
      go_enter Tryd.func23, Tryd.ntmps23
      go_wp2_with fail
      refine (parse_no emptyB _ hs HP.out HE.out).mono ?_
      rintro e w1 ⟨rfl, hb⟩
      unfold emptyB
      go_wp2
      go_ret
      exact ⟨by rw [HL.out]; rfl, hb⟩
    · have HL : Hid (levelV s = -1) := Lib.hid (by unfold levelV partsO; rw [if_neg h0, hp])
      have hne := empty_no h0
      clear hp h0
      go_enter Tryd.func23, Tryd.ntmps23
      go_wp2_with fail
      refine (parse_no s _ hs HP.out HE.out).mono ?_
      rintro e w1 ⟨rfl, hb⟩
      go_wp2
      go_ret
      exact ⟨by rw [HL.out]; rfl, hb⟩
set_option maxHeartbeats 800000 in
theorem parent_any (s : ByteArray) (w : World) (hs : s.size ≤ 1000) (hE : Env w) :
    Calls Tryd.prog 24 #[.string s] w fun e w' => e = .returned (.tuple #[.string (parentV s).1, .bool (parentV s).2]) ∧ Below w.heap.size w w' := by
  have HE := Lib.hid hE
  clear hE
  cases hp : parseO s with
  | some P =>
    have HV : Hid (parentV s = (cutLast s, true)) := Lib.hid (by
      obtain ⟨o, e⟩ := parseO_some hp
      have h1 : parentV s = (codeB P.dropLast, true) := by unfold parentV; rw [hp]
      rw [h1]
      have h2 : cutLast s = codeB P.dropLast := by rw [e]; exact cutLast_code P o
      rw [h2])
    have HB : Hid ((parseO s).isSome = true) := Lib.hid (by rw [hp]; rfl)
    have hlb := last_bd s.data.toList
    rw [← Lib.size_eq] at hlb
    obtain ⟨k, hk⟩ : ∃ k, k = Lib.lastIndex s.data.toList [46] := ⟨_, rfl⟩
    have HK := Lib.hid hk
    rw [← hk] at hlb
    have hk1 : (0 : Int) ≤ max k 0 := by omega
    have hk2 : max k 0 ≤ (s.size : Int) := by omega
    clear hp hk
    go_enter Tryd.func24, Tryd.ntmps24
    go_wp2_with fail
    refine (is_any s _ hs HE.out).mono ?_
    rintro e w1 ⟨rfl, hb⟩
    rw [HB.out]
    go_wp2_with fail
    refine (Tryd.strings_LastIndex s ⟨#[46]⟩ (by omega) _).mono ?_
    rintro e w2 ⟨rfl, rfl⟩
    rw [show (⟨#[46]⟩ : ByteArray).data.toList = [46] from rfl, ← HK.out]
    go_wp2
    go_ret2
    exact ⟨by rw [HV.out]; unfold cutLast; rw [← HK.out]; rfl, hb⟩
  | none =>
    have HV : Hid (parentV s = (emptyB, false)) := Lib.hid (by unfold parentV; rw [hp])
    have HB : Hid ((parseO s).isSome = false) := Lib.hid (by rw [hp]; rfl)
    clear hp
    go_enter Tryd.func24, Tryd.ntmps24
    go_wp2_with fail
    refine (is_any s _ hs HE.out).mono ?_
    rintro e w1 ⟨rfl, hb⟩
    rw [HB.out]
    go_wp2
    go_ret2
    exact ⟨by rw [HV.out]; rfl, hb⟩
theorem info9p : (Tryd.prog.info? 9).map (fun i => (i.zero, i.size, i.bytes)) = some (some (.string ⟨#[]⟩), 1, 16) := by kernel_rfl
/-- What Path gives: the ancestors and the code, in memory of its own. -/
def PathPost (s : ByteArray) (w : World) (e : Ending) (w' : World) : Prop :=
  ∃ sv, e = .returned sv ∧ w'.ownsRow w.heap.size 9 1 sv (pathV s).length ((pathV s).map Value.string) ∧ Below w.heap.size w w'
set_option maxRecDepth 100000 in
set_option maxHeartbeats 1600000 in
theorem path_any (s : ByteArray) (w : World) (hs : s.size ≤ 1000) (hE : Env w) :
    Calls Tryd.prog 22 #[.string s] w (PathPost s w) := by
  have HE := Lib.hid hE
  clear hE
  cases hp : parseO s with
  | none =>
    have HB : Hid ((parseO s).isSome = false) := Lib.hid (by rw [hp]; rfl)
    have HV : Hid (pathV s = []) := Lib.hid (by unfold pathV; rw [hp])
    clear hp
    go_enter Tryd.func22, Tryd.ntmps22
    go_wp2_with fail
    refine (is_any s _ hs HE.out).mono ?_
    rintro e w1 ⟨rfl, hb⟩
    rw [HB.out]
    go_wp2
    go_ret
    exact ⟨_, rfl, by rw [HV.out]; exact World.ownsRow_nil _ _ _ _, hb⟩
  | some P =>
    have HB : Hid ((parseO s).isSome = true) := Lib.hid (by rw [hp]; rfl)
    obtain ⟨l, hl⟩ : ∃ l, l = s.data.toList := ⟨_, rfl⟩
    have HL := Lib.hid hl
    have hll : l.length = s.size := by rw [hl, Lib.size_eq]
    have HLL := Lib.hid hll
    have HV : Hid ((dotsR [] l).map bs ++ [s] = pathV s) := Lib.hid (by
      obtain ⟨o, e⟩ := parseO_some hp
      have h1 : pathV s = upsL P := by unfold pathV; rw [hp]
      rw [h1, ← dots_code P o, hl, e]
      unfold codeB
      rw [bs_data])
    obtain ⟨i0, hi0, hz0, hz1, hz2⟩ := info_parts info9p
    clear hp hl hll
    go_enter Tryd.func22, Tryd.ntmps22
    go_wp2_with fail
    refine (is_any s _ hs HE.out).mono ?_
    rintro e w1 ⟨rfl, hb⟩
    rw [HB.out]
    go_wp2_with fail
    go_loopw [3, 10] (fun v q wr => ∃ (k m : Nat), k ≤ s.size ∧ q = .int .i64 k ∧ m ≤ k ∧ (dotsR [] (l.take k)).length = m ∧ wr.ownsRow w.heap.size 9 1 v m (((dotsR [] (l.take k)).map bs).map Value.string) ∧ Below w.heap.size w wr) (fun _ q _ => s.size - (intOf q).toNat)
    case atStart => exact ⟨0, 0, by omega, rfl, by omega, rfl, World.ownsRow_nil _ _ _ _, hb⟩
    case round =>
      obtain ⟨k, m, hk, rfl, hmk, hm, hown, hbr⟩ := hrel
      have HM := Lib.hid hm
      clear hm
      by_cases hlt : k < s.size
      · have hkl : k < l.length := by rw [HLL.out]; exact hlt
        have hD := dots_take l k hkl
        have eb : l.getD k 0 = s[k]'hlt := by
          rw [List.getD, List.getElem?_eq_getElem hkl]; simp only [HL.out]; rfl
        rw [eb] at hD
        have HD := Lib.hid hD
        have ex : bs (l.take k) = s.extract 0 k := by
          apply bs_ext; rw [bs_data, Lib.extract_data, ← HL.out]; simp
        have HX := Lib.hid ex
        clear hD eb ex
        have hdot : (Hid ((s[k]'hlt) = 46) ∧ (((s[k]'hlt).toNat : Int) == 46) = true) ∨ (Hid (¬ (s[k]'hlt) = 46) ∧ (((s[k]'hlt).toNat : Int) == 46) = false) := by
          by_cases h : (s[k]'hlt) = 46
          · exact Or.inl ⟨Lib.hid h, by rw [beq_iff_eq]; exact (u8_46 _).1 h⟩
          · exact Or.inr ⟨Lib.hid h, by rw [beq_eq_false_iff_ne]; exact fun e => h ((u8_46 _).2 e)⟩
        rcases hdot with ⟨HH, hd⟩ | ⟨HH, hd⟩
        · go_wp2_with (first
            | (at_builtin; refine wpList_append_own _ rfl _ _ 27 rfl w.heap.size 9 i0 (.string ⟨#[]⟩) 1 16 Tryd.underlying27 hi0 hz0 hz1 hz2 rfl (by decide) _ _ _ rfl (hown.alloc _) ⟨wr.heap.size, 0, none⟩ 1 1 [.string (s.extract 0 k)] rfl rfl (cell_one_new _ _ _) (by simp [Value.oneCell']) (by unfold maxLen; omega) (by omega) (by have := hbr.size; simp; omega) ?_)
            | fail)
          intro v' w3 hown2 hgrow _
          have HN : Hid ((dotsR [] (l.take (k + 1))).length = m + 1 ∧ w3.ownsRow w.heap.size 9 1 v' (m + 1) (((dotsR [] (l.take (k + 1))).map bs).map Value.string)) := Lib.hid (by
            rw [HD.out, if_pos HH.out]
            refine ⟨by rw [List.length_append, HM.out]; rfl, ?_⟩
            rw [List.map_append, List.map_append, List.map_cons, List.map_nil, HX.out, List.map_map]
            exact hown2)
          have HB3 : Hid (Below w.heap.size w w3) := Lib.hid ((hbr.alloc hbr.size _).grown hgrow (by have := hbr.size; simp; omega) (fun j hj => (hown.lt j hj).1))
          clear hown2 hgrow hown hbr
          go_wp2
          go_roundw
          case rel => exact ⟨k + 1, m + 1, by omega, by go_num, by omega, HN.out.1, HN.out.2, HB3.out⟩
          case measure => simp [intOf]; omega
        · have HN : Hid (dotsR [] (l.take (k + 1)) = dotsR [] (l.take k)) := Lib.hid (by rw [HD.out, if_neg HH.out, List.append_nil])
          go_wp2
          go_roundw
          case rel => exact ⟨k + 1, m, by omega, by go_num, by omega, by rw [HN.out]; exact HM.out, by rw [HN.out]; exact hown, hbr⟩
          case measure => simp [intOf]; omega
      · obtain rfl : k = s.size := by omega
        have HT : Hid (l.take s.size = l) := Lib.hid (List.take_of_length_le (by rw [HLL.out]; exact Nat.le_refl _))
        go_wp2_with (first
          | (at_builtin; refine wpList_append_own _ rfl _ _ 27 rfl w.heap.size 9 i0 (.string ⟨#[]⟩) 1 16 Tryd.underlying27 hi0 hz0 hz1 hz2 rfl (by decide) _ _ _ rfl (hown.alloc _) ⟨wr.heap.size, 0, none⟩ 1 1 [.string s] rfl rfl (cell_one_new _ _ _) (by simp [Value.oneCell']) (by unfold maxLen; omega) (by omega) (by have := hbr.size; simp; omega) ?_)
          | fail)
        intro v' w3 hown2 hgrow _
        have HN : Hid (w3.ownsRow w.heap.size 9 1 v' (pathV s).length ((pathV s).map Value.string)) := Lib.hid (by
          have e : (pathV s).length = m + 1 := by
            rw [← HV.out, List.length_append, List.length_map]
            have := HM.out
            rw [HT.out] at this
            rw [this]; rfl
          rw [e, ← HV.out, List.map_append, List.map_cons, List.map_nil, List.map_map]
          have h := hown2
          rw [HT.out] at h
          exact h)
        have HB3 : Hid (Below w.heap.size w w3) := Lib.hid ((hbr.alloc hbr.size _).grown hgrow (by have := hbr.size; simp; omega) (fun j hj => (hown.lt j hj).1))
        clear hown2 hgrow hown hbr
        go_wp2
        go_ret
        exact ⟨v', rfl, HN.out, HB3.out⟩
end Go.Proofs.YtnmcmnllmnpjkaaDoor
