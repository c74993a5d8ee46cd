/- Contracts of the reference's Parse, Is and Format: any short string, any list of numbers. -/
import Derived.Test.YtenjefbplpbjaaaGreatDoorG1
import Derived.Test.YtenjefbplpbjaaaGreatDoorCn
import Derived.Deep.CutBlock
import Derived.Maps.AppendAt
import Derived.Deep.DeepCutAuto
namespace Go.Proofs.YtenjefbplpbjaaaGreatDoor
open Go.RowKit Go.Sort Cal Go.Maps
theorem own_form {w : World} {base size n : Nat} {e : TypeId} {v : Value} {xs : List Value} (h : w.ownsRow base e size v n xs) : ∃ p c, v = .slice p n c := by
  rcases h.2 with ⟨hv, h0⟩ | ⟨g, cap, cur, hv, _⟩
  · exact ⟨none, 0, by rw [hv, h0]⟩
  · exact ⟨_, _, hv⟩
theorem val_bd (l : List UInt8) : 0 ≤ valF l ∧ valF l ≤ 99 := by
  have h := valJ_bd l (cnt l) (Nat.le_refl _)
  rw [valJ_cnt] at h
  have h2 := cnt_le l
  have h3 : cnt l = 0 ∨ cnt l = 1 ∨ cnt l = 2 := by omega
  rcases h3 with e | e | e <;> rw [e] at h <;> simp at h <;> omega
theorem head_drop (l : List UInt8) (a : Nat) (h : a < l.length) : (l.drop a).head? = some l[a] := by rw [List.head?_drop, List.getElem?_eq_getElem h]
theorem u8_48 (x : UInt8) : x = 48 ↔ (x.toNat : Int) = 48 := by
  constructor
  · intro h; rw [h]; rfl
  · intro h; apply UInt8.toNat_inj.1; show x.toNat = 48; omega
theorem u8_46 (x : UInt8) : x = 46 ↔ (x.toNat : Int) = 46 := by
  constructor
  · intro h; rw [h]; rfl
  · intro h; apply UInt8.toNat_inj.1; show x.toNat = 46; omega
set_option maxRecDepth 100000 in
set_option maxHeartbeats 1600000 in
theorem rparse_any (s : ByteArray) (w : World) (hs : s.size ≤ 2000000) :
    Calls Tryz.prog 129 #[.string s] w (ParsePost s w) := by
  obtain ⟨i0, hi0, hz0, hz1, hz2⟩ := info_parts info3p
  obtain ⟨l, hl⟩ : ∃ l, l = s.data.toList := ⟨_, rfl⟩
  have hll : l.length = s.size := by rw [hl, Lib.size_eq]
  have HL := Lib.hid hl
  have HLL := Lib.hid hll
  have HBS : Hid (bs l = s) := Lib.hid (by rw [hl]; exact (bs_of s).symm)
  clear hl hll
  go_enter Tryz.func129, Tryz.ntmps129
  go_wp2_with fail
  go_loopg [4, 5] s.size (fun g v q wr => ∃ (P : List Int) (p a : Nat), P.length = p ∧ a + g = s.size ∧ p ≤ 5 ∧ q = .int .i64 a ∧ wr.ownsRow w.heap.size 3 1 v p (P.map (Value.int .i64)) ∧ Below w.heap.size w wr ∧ Scan l P a ∧ inP P)
  case atStart => exact ⟨[], 0, 0, rfl, by omega, by omega, rfl, World.ownsRow_nil _ _ _ _, Below.refl _ _, Scan.start l, fun n hn => by cases hn⟩
  case round =>
    obtain ⟨P, p, a, hpl, hag, hP5', rfl, hown, hbr, hsc, hin⟩ := hrel
    have HPL := Lib.hid hpl
    have HP5 : Hid (P.length ≤ 5) := Lib.hid (by omega)
    clear hpl
    have HSC := Lib.hid hsc
    have HIN := Lib.hid hin
    have HAG := Lib.hid hag
    have hale : a ≤ s.size := by omega
    have hc2 := cnt_le (l.drop a)
    have hcl : a + cnt (l.drop a) ≤ s.size := by have := cnt_len (l.drop a); rw [List.length_drop, HLL.out] at this; omega
    have hvc := valJ_cnt (l.drop a)
    have HVC := Lib.hid hvc
    obtain ⟨c, ec⟩ : ∃ c, c = cnt (l.drop a) := ⟨_, rfl⟩
    have HC := Lib.hid ec
    rw [← ec] at hc2 hcl
    clear hsc hin hag hvc ec
    go_upto_block 2 with fail
    go_cut [6, 5] (fun n q wx => n = .int .i64 (valF (l.drop a)) ∧ q = .int .i64 ((a + c : Nat) : Int) ∧ wx = wr)
    case first =>
      go_wp2_with fail
      go_loop [5, 6] (fun q n => ∃ j : Nat, j ≤ c ∧ q = .int .i64 ((a + j : Nat) : Int) ∧ n = .int .i64 (valJ (l.drop a) j)) (fun q _ => a + c - (intOf q).toNat)
      case atStart => exact ⟨0, by omega, rfl, rfl⟩
      case round =>
        obtain ⟨j, hj, rfl, rfl⟩ := hrel
        by_cases hlt : j < c
        · obtain ⟨hd1, hd2⟩ := cnt_digit (l.drop a) j (by rw [← HC.out]; exact hlt)
          have hlt2 : a + j < s.size := by rw [List.length_drop, HLL.out] at hd1; omega
          have eb : (l.drop a)[j] = s[a + j]'hlt2 := by
            rw [List.getElem_drop]; simp only [HL.out]; rfl
          have HS : Hid (valJ (l.drop a) (j + 1) = 10 * valJ (l.drop a) j + (((s[a + j]'hlt2).toNat : Int) - 48)) := Lib.hid (by rw [valJ_succ _ j hd1, eb])
          unfold isDg at hd2
          rw [eb] at hd2
          have hb0 : (48 : Int) ≤ ((s[a + j]'hlt2).toNat : Int) := by omega
          have hb1 : ((s[a + j]'hlt2).toNat : Int) ≤ 57 := by omega
          have hv := valJ_bd (l.drop a) j (by rw [← HC.out]; omega)
          have hv9 : valJ (l.drop a) j ≤ 9 := by
            have hj2 : j = 0 ∨ j = 1 := by omega
            have hv2 := hv.2
            rcases hj2 with rfl | rfl
            · simp at hv2; omega
            · simp at hv2; omega
          have hv0 := hv.1
          clear hv hd2 eb hd1
          generalize valJ (l.drop a) j = v at *
          go_wp2
          all_goals first
            | (exfalso; omega)
            | go_round
          case rel => exact ⟨j + 1, by omega, by go_num, by rw [HS.out]⟩
          case measure => simp [intOf]; omega
        · obtain rfl : j = c := by omega
          have HV : Hid (valJ (l.drop a) j = valF (l.drop a)) := Lib.hid (by rw [HC.out]; exact HVC.out)
          by_cases hend : a + j < s.size
          · by_cases h2 : j < 2
            · have hnd : ¬ isDg (s[a + j]'hend) := by
                rcases cnt_end (l.drop a) with h | h | ⟨h, hd⟩
                · rw [← HC.out] at h; omega
                · rw [← HC.out, List.length_drop, HLL.out] at h; omega
                · have eb : (l.drop a)[cnt (l.drop a)] = s[a + j]'hend := by
                    rw [List.getElem_drop]; simp only [HL.out, HC.out]; rfl
                  rw [eb] at hd; exact hd
              unfold isDg at hnd
              by_cases h48 : ((s[a + j]'hend).toNat : Int) < 48
              · clear hnd
                go_wp2
                go_meet
                case rel => exact ⟨by rw [HV.out], rfl, rfl⟩
              · have h57 : (57 : Int) < ((s[a + j]'hend).toNat : Int) := by omega
                clear hnd
                go_wp2
                go_meet
                case rel => exact ⟨by rw [HV.out], rfl, rfl⟩
            · obtain rfl : j = 2 := by omega
              go_wp2
              all_goals
                go_meet
                case rel => exact ⟨by rw [HV.out], rfl, rfl⟩
          · go_wp2
            go_meet
            case rel => exact ⟨by rw [HV.out], rfl, rfl⟩
    case rest =>
      obtain ⟨rfl, rfl, rfl⟩ := hcut
      obtain ⟨pv, cv, rfl⟩ := own_form hown
      have HNO : Hid (BadP (l.drop a) P → ParsePost s w (.returned (.tuple #[.slice none 0 0, .int .i64 60])) wc) := Lib.hid (fun hb => by
        have hn : parseO s = none := by rw [← HBS.out]; exact HSC.out.bad hb HP5.out
        refine ⟨fun P' hP => ?_, fun _ => ⟨rfl, hbr⟩⟩
        rw [hn] at hP
        cases hP)
      have hv := val_bd (l.drop a)
      obtain ⟨n, en⟩ : ∃ n, n = valF (l.drop a) := ⟨_, rfl⟩
      have HN := Lib.hid en
      rw [← en] at hv ⊢
      clear en
      by_cases hc0 : c = 0
      · have hb := HNO.out (Or.inl (by rw [← HC.out]; exact hc0))
        have HB := Lib.hid hb
        clear hb
        subst hc0
        go_wp2
        go_ret2
        exact HB.out
      by_cases hn0 : n = 0
      · have HB := Lib.hid (HNO.out (Or.inr (Or.inl (by rw [← HN.out]; exact hn0))))
        subst hn0
        go_wp2
        go_ret2
        exact HB.out
      by_cases h3 : p = 0 ∧ c ≠ 2
      · have HB := Lib.hid (HNO.out (Or.inr (Or.inr (Or.inl (by rw [← HC.out, HPL.out]; exact h3)))))
        obtain ⟨h3a, h3b⟩ := h3
        go_wp2
        go_ret2
        exact HB.out
      have ha : a < s.size := by omega
      have hal : a < l.length := by rw [HLL.out]; exact ha
      have hla : l[a] = s[a]'ha := by simp only [HL.out]; rfl
      by_cases h4 : 0 < p ∧ ((s[a]'ha).toNat : Int) = 48
      · have HB := Lib.hid (HNO.out (Or.inr (Or.inr (Or.inr (Or.inl ⟨by rw [HPL.out]; exact h4.1, by rw [head_drop l a hal, hla, (u8_48 _).2 h4.2]⟩)))))
        obtain ⟨h4a, h4b⟩ := h4
        have h4c : ((p : Int) == 0) = false := by rw [beq_eq_false_iff_ne]; omega
        have h4d : (((s[a]'ha).toNat : Int) == 48) = true := by simp [h4b]
        clear h3 hla
        go_wp2
        go_ret2
        exact HB.out
      by_cases h5 : p = 5
      · have HB := Lib.hid (HNO.out (Or.inr (Or.inr (Or.inr (Or.inr (by rw [HPL.out]; exact h5))))))
        have h4b : (((s[a]'ha).toNat : Int) == 48) = false := by
          rw [beq_eq_false_iff_ne]; intro e; exact h4 ⟨by omega, e⟩
        clear h3 h4 hla
        go_wp2
        go_ret2
        exact HB.out
      have hnb : ¬ BadP (l.drop a) P := by
        rintro (k | k | k | ⟨k, k2⟩ | k)
        · exact hc0 (by rw [HC.out]; exact k)
        · exact hn0 (by rw [HN.out]; exact k)
        · exact h3 ⟨by rw [← HPL.out]; exact k.1, by rw [HC.out]; exact k.2⟩
        · rw [head_drop l a hal, hla] at k2
          exact h4 ⟨by rw [← HPL.out]; exact k, (u8_48 _).1 (Option.some.inj k2)⟩
        · exact h5 (by rw [← HPL.out]; exact k)
      have HNB := Lib.hid hnb
      have HP' : Hid (inP (P ++ [n])) := Lib.hid (by
        intro x hx
        rcases List.mem_append.1 hx with k | k
        · exact HIN.out x k
        · rw [List.mem_singleton.1 k]; omega)
      have hP4 : p ≤ 4 := by omega
      have HE : Hid (a + c = s.size → parseO s = some (P ++ [n])) := Lib.hid (fun h => by rw [HN.out, ← HBS.out]; exact HSC.out.fin HNB.out HP5.out (by rw [← HC.out, HLL.out]; exact h))
      have HST : Hid (∀ h : a + c < s.size, ((s[a + c]'h).toNat : Int) ≠ 46 → parseO s = none) := Lib.hid (fun h hd => by
        rw [← HBS.out]
        refine HSC.out.stop2 HC.out HNB.out HP5.out (by rw [HLL.out]; exact h) (fun k => hd ((u8_46 _).1 ?_))
        rw [← k]; simp only [HL.out]; rfl)
      have HGO : Hid (∀ h : a + c < s.size, ((s[a + c]'h).toNat : Int) = 46 → Scan l (P ++ [n]) (a + c + 1)) := Lib.hid (fun h hd => by
        rw [HN.out]
        refine HSC.out.next2 HC.out HNB.out HP5.out (by rw [HLL.out]; exact h) ?_
        rw [← (u8_46 _).2 hd]; simp only [HL.out]; rfl)
      have h4b : 0 < p → (((s[a]'ha).toNat : Int) == 48) = false := fun hp => by
        rw [beq_eq_false_iff_ne]; intro e; exact h4 ⟨hp, e⟩
      clear hnb h4 hla
      have hp0 : (p = 0 ∧ ((a : Int) + (c : Int) - (a : Int) != 2) = false) ∨ (((p : Int) == 0) = false ∧ 0 < p ∧ (((s[a]'ha).toNat : Int) == 48) = false) := by
        by_cases h0 : p = 0
        · exact Or.inl ⟨h0, by simp; omega⟩
        · exact Or.inr ⟨by rw [beq_eq_false_iff_ne]; omega, by omega, h4b (by omega)⟩
      clear h3 h4b
      have hb1 : ((a : Int) + (c : Int) == (a : Int)) = false := by rw [beq_eq_false_iff_ne]; omega
      have hb2 : (n == 0) = false := by rw [beq_eq_false_iff_ne]; exact hn0
      have hb3 : ((p : Int) == 5) = false := by rw [beq_eq_false_iff_ne]; omega
      rcases hp0 with ⟨rfl, hb6⟩ | ⟨hp0, hp1, h4d⟩
      all_goals
        by_cases hend : a + c = s.size
        · have hb7 : ((a : Int) + (c : Int) == (s.size : Int)) = true := by rw [beq_iff_eq]; omega
          have HY := Lib.hid (HE.out hend)
          clear hend
          go_wp2_with (first
            | (at_builtin; refine wpList_append_own _ rfl _ _ 37 rfl w.heap.size 3 i0 (.int .i64 0) 1 8 Tryz.underlying37 hi0 hz0 hz1 hz2 rfl (by decide) _ _ _ rfl (hown.alloc _) ⟨wc.heap.size, 0, none⟩ 1 1 [.int .i64 n] rfl rfl (cell_one_new _ _ _) (by simp [Value.oneCell']) (by unfold maxLen; omega) (by omega) (by have := hbr.size; simp; omega) ?_)
            | fail)
          intro v' w3 hown2 hgrow _
          have hown3 : w3.ownsRow w.heap.size 3 1 v' (P ++ [n]).length ((P ++ [n]).map (Value.int .i64)) := by
            rw [List.map_append, List.length_append, HPL.out]; exact hown2
          have hbr3 : Below w.heap.size w w3 := (hbr.alloc hbr.size _).grown hgrow (by have := hbr.size; simp; omega) (fun j hj => (hown.lt j hj).1)
          have HOW := Lib.hid hown3
          have HBR := Lib.hid hbr3
          clear hown2 hgrow hown3 hbr3 hown hbr
          go_wp2_with fail
          go_ret2
          refine ⟨fun P' hP => ?_, fun hN => ?_⟩
          · rw [HY.out] at hP
            cases hP
            exact ⟨v', rfl, HOW.out, HBR.out⟩
          · rw [HY.out] at hN
            cases hN
        · have hlt : a + c < s.size := by omega
          have hb7 : ((a : Int) + (c : Int) == (s.size : Int)) = false := by rw [beq_eq_false_iff_ne]; omega
          have HG := Lib.hid (HGO.out hlt)
          have HS := Lib.hid (HST.out hlt)
          have hb8 : 0 ≤ (a : Int) + (c : Int) := by omega
          have hb9 : (a : Int) + (c : Int) < (s.size : Int) := by omega
          have hdd : (Hid (((s[a + c]'hlt).toNat : Int) = 46) ∧ (((s[a + c]'hlt).toNat : Int) != 46) = false) ∨ (Hid (((s[a + c]'hlt).toNat : Int) ≠ 46) ∧ (((s[a + c]'hlt).toNat : Int) != 46) = true) := by
            by_cases hd : ((s[a + c]'hlt).toNat : Int) = 46
            · exact Or.inl ⟨Lib.hid hd, by simp [hd]⟩
            · exact Or.inr ⟨Lib.hid hd, by simp [bne, hd]⟩
          rcases hdd with ⟨HD, hb10⟩ | ⟨HD, hb10⟩
          all_goals
            go_wp2_with (first
              | (at_builtin; refine wpList_append_own _ rfl _ _ 37 rfl w.heap.size 3 i0 (.int .i64 0) 1 8 Tryz.underlying37 hi0 hz0 hz1 hz2 rfl (by decide) _ _ _ rfl (hown.alloc _) ⟨wc.heap.size, 0, none⟩ 1 1 [.int .i64 n] rfl rfl (cell_one_new _ _ _) (by simp [Value.oneCell']) (by unfold maxLen; omega) (by omega) (by have := hbr.size; simp; omega) ?_)
              | fail)
            intro v' w3 hown2 hgrow _
            have hown3 : w3.ownsRow w.heap.size 3 1 v' (P ++ [n]).length ((P ++ [n]).map (Value.int .i64)) := by
              rw [List.map_append, List.length_append, HPL.out]; exact hown2
            have hbr3 : Below w.heap.size w w3 := (hbr.alloc hbr.size _).grown hgrow (by have := hbr.size; simp; omega) (fun j hj => (hown.lt j hj).1)
            have HOW := Lib.hid hown3
            have HBR := Lib.hid hbr3
            clear hown2 hgrow hown3 hbr3 hown hbr
            go_wp2_with fail
            first
              | (go_ret2
                 have HNN := HS.out HD.out
                 refine ⟨fun P' hP => ?_, fun hN => ⟨rfl, HBR.out⟩⟩
                 rw [HNN] at hP
                 cases hP)
              | (go_roundg (gk - (c + 1))
                 case rel => exact ⟨P ++ [n], _, a + c + 1, rfl, by have := HAG.out; omega, by rw [List.length_append, HPL.out]; show _ + 1 ≤ 5; omega, by go_num, HOW.out, HBR.out, HG.out HD.out, HP'.out⟩
                 case measure => have := HAG.out; omega)
end Go.Proofs.YtenjefbplpbjaaaGreatDoor
