/- Contracts of the reference's Level, Path, Within and RuleOf. -/
import Derived.Test.YtkgkjoologjehaaGreatDoorR2
import Derived.WalkLawsBesides
import Derived.Lib.QuietBelow
import Derived.BigQuiet
namespace Go.Proofs.YtkgkjoologjehaaGreatDoor
section
open Go.RowKit Go.Sort Cal Go.Maps
def PathPost (s : ByteArray) (w : World) (e : Ending) (w' : World) : Prop :=
  ∃ sv, e = .returned sv ∧ w'.ownsRow w.heap.size 9 1 sv (pathV s).length ((pathV s).map Value.string) ∧ Below w.heap.size w w'
/-- A slice of strings, wherever it lies. -/
def StrsAt (w : World) (sv : Value) (ss : List ByteArray) : Prop :=
  (ss = [] ∧ ∃ p c, sv = .slice p 0 c) ∨
  (0 < ss.length ∧ ∃ b off cap, sv = .slice (some ⟨b, off, none⟩) ss.length cap ∧ ss.length ≤ cap ∧ b < w.heap.size ∧ ∀ j, j < ss.length → w.cell? ⟨b, off + j, none⟩ = some (.string (ss.getD j ByteArray.empty)))
theorem StrsAt.below {w w' : World} {sv : Value} {ss : List ByteArray} (h : StrsAt w sv ss) (hb : Below w.heap.size w w') : StrsAt w' sv ss := by
  rcases h with h | ⟨h0, b, off, cap, e, hl, hlt, hc⟩
  · exact Or.inl h
  · exact Or.inr ⟨h0, b, off, cap, e, hl, Nat.lt_of_lt_of_le hlt hb.size, fun j hj => (hb.cell (p := ⟨b, off + j, none⟩) hlt).trans (hc j hj)⟩
theorem strs_of_own {w : World} {base n : Nat} {v : Value} {xs : List ByteArray} (h : w.ownsRow base 9 1 v n (xs.map Value.string)) (hn : n = xs.length) : StrsAt w v xs := by
  subst hn
  by_cases h0 : 0 < xs.length
  · obtain ⟨g, cap, rfl, _, hlt⟩ := World.ownsRow.form h h0
    refine Or.inr ⟨h0, g, 0, cap, rfl, own_cap h, hlt, fun j hj => ?_⟩
    have := h.cellAt j (by omega)
    rw [Nat.zero_add, this]
    simp [List.getD, hj]
  · have e : xs = [] := List.eq_nil_of_length_eq_zero (by omega)
    subst e
    obtain ⟨p, c, rfl⟩ := own_form h
    exact Or.inl ⟨rfl, p, c, rfl⟩
set_option maxHeartbeats 800000 in
theorem rlevel_any (s : ByteArray) (w : World) (hs : s.size ≤ 2000000) :
    Calls Tryz.prog 32 #[.string s] w fun e w' => e = .returned (.int .i64 (levelV s)) ∧ Below w.heap.size w w' := by
  cases hp : parseO s with
  | some P =>
    have HP := Lib.hid hp
    have HL : Hid (levelV s = P.length) := Lib.hid (by unfold levelV partsO; rw [if_neg (size_code hp), hp])
    clear hp
    go_enter Tryz.func32, Tryz.ntmps32
    go_wp2_with fail
    refine (rparse_yes s P _ hs HP.out).mono ?_
    rintro e w1 ⟨sv, rfl, hown, hb⟩
    obtain ⟨p, c, rfl⟩ := own_form hown
    clear hown
    go_wp2
    go_ret
    exact ⟨by rw [HL.out]; rfl, hb⟩
  | none =>
    have HP := Lib.hid hp
    by_cases h0 : s.size = 0
    · have HL : Hid (levelV s = 0) := Lib.hid (by unfold levelV partsO; rw [if_pos h0]; rfl)
      have e := size_zero h0
      subst e
      clear hp h0
      go_enter Tryz.func32, Tryz.ntmps32
      go_wp2_with fail
      refine (rparse_no emptyB _ hs HP.out).mono ?_
      rintro e w1 ⟨rfl, hb⟩
      unfold emptyB
      go_wp2
      go_ret
      exact ⟨by rw [HL.out]; rfl, hb⟩
    · have HL : Hid (levelV s = -1) := Lib.hid (by unfold levelV partsO; rw [if_neg h0, hp])
      have hne := empty_no h0
      clear hp h0
      go_enter Tryz.func32, Tryz.ntmps32
      go_wp2_with fail
      refine (rparse_no s _ hs HP.out).mono ?_
      rintro e w1 ⟨rfl, hb⟩
      go_wp2
      go_ret
      exact ⟨by rw [HL.out]; rfl, hb⟩
theorem IntsAt.first {w : World} {b off c : Nat} {zs : List Int} (hl : zs.length ≤ c) (hb : b < w.heap.size) (hc : ∀ j, j < zs.length → w.cell? ⟨b, off + j, none⟩ = some (.int .i64 (zs.getD j 0))) (m : Nat) (h0 : 0 < m) (hm : m ≤ zs.length) : IntsAt w (.slice (some ⟨b, off, none⟩) m c) (zs.take m) := by
  have hln : (zs.take m).length = m := by simp; omega
  refine Or.inr ⟨by omega, b, off, c, by rw [hln], by omega, hb, fun j hj => ?_⟩
  rw [hln] at hj
  rw [show (zs.take m).getD j 0 = zs.getD j 0 from by simp [List.getD, show j < m from by omega]]
  exact hc j (by omega)
theorem upsL_succ (P : List Int) (k : Nat) (h : k < P.length) : (upsL P).take (k + 1) = (upsL P).take k ++ [codeB (P.take (k + 1))] := by
  have hl : k < (upsL P).length := by simp [upsL]; exact h
  rw [List.take_succ_eq_append_getElem hl]
  simp [upsL]
set_option maxRecDepth 100000 in
set_option maxHeartbeats 1600000 in
theorem rpath_any (s : ByteArray) (w : World) (hs : s.size ≤ 2000000) :
    Calls Tryz.prog 53 #[.string s] w (PathPost s w) := by
  cases hp : parseO s with
  | none =>
    have HP := Lib.hid hp
    have HV : Hid (pathV s = []) := Lib.hid (by unfold pathV; rw [hp])
    clear hp
    go_enter Tryz.func53, Tryz.ntmps53
    go_wp2_with fail
    refine (rparse_no s _ hs HP.out).mono ?_
    rintro e w1 ⟨rfl, hb⟩
    go_wp2
    go_ret
    exact ⟨_, rfl, by rw [HV.out]; exact World.ownsRow_nil _ _ _ _, hb⟩
  | some P =>
    have HP := Lib.hid hp
    have HV : Hid (pathV s = upsL P) := Lib.hid (by unfold pathV; rw [hp])
    have HO := Lib.hid (parseO_some hp).1
    have hP1 := (parseO_some hp).1.1
    have hP5 := (parseO_some hp).1.2.1
    obtain ⟨i0, hi0, hz0, hz1, hz2⟩ := info_parts info9p
    obtain ⟨n, hn⟩ : ∃ n, n = P.length := ⟨_, rfl⟩
    have HN := Lib.hid hn
    rw [← hn] at hP1 hP5
    clear hp hn
    go_enter Tryz.func53, Tryz.ntmps53
    go_wp2_with fail
    refine (rparse_yes s P _ hs HP.out).mono ?_
    rintro e w1 ⟨sv, rfl, hown, hb⟩
    have hI := ints_of_own hown rfl
    rw [← HN.out] at hown
    obtain ⟨g, cp, rfl, _, hg⟩ := World.ownsRow.form hown (by omega)
    have hncp := own_cap hown
    have hcell : ∀ j, j < P.length → w1.cell? ⟨g, 0 + j, none⟩ = some (.int .i64 (P.getD j 0)) := fun j hj => by
      have := hown.cellAt j (by rw [HN.out]; omega)
      rw [Nat.zero_add, this]
      simp [List.getD, hj]
    have HCELL := Lib.hid hcell
    clear hown hI hcell
    go_wp2_with fail
    go_loopw [5, 18] (fun v q wr => ∃ k : Nat, k ≤ n ∧ q = .int .i64 k ∧ wr.ownsRow w1.heap.size 9 1 v k (((upsL P).take k).map Value.string) ∧ Below w1.heap.size w1 wr) (fun _ q _ => n - (intOf q).toNat)
    case atStart => exact ⟨0, by omega, rfl, World.ownsRow_nil _ _ _ _, Below.refl _ _⟩
    case round =>
      obtain ⟨k, hk, rfl, hown, hbr⟩ := hrel
      by_cases hlt : k < n
      · have HI := Lib.hid (IntsAt.first (zs := P) (b := g) (off := 0) (c := cp) (w := wr) (by rw [← HN.out]; exact hncp) (Nat.lt_of_lt_of_le hg hbr.size) (fun j hj => (hbr.cell (p := ⟨g, 0 + j, none⟩) hg).trans (HCELL.out j hj)) (k + 1) (by omega) (by rw [← HN.out]; omega))
        have HF : Hid (FormatV (P.take (k + 1)) = .tuple #[.string (codeB (P.take (k + 1))), .int .i64 0]) := Lib.hid (by
          unfold FormatV; rw [if_pos (okP_take HO.out (k + 1) (by omega))])
        have HU := Lib.hid (upsL_succ P k (by rw [← HN.out]; exact hlt))
        have HLE : Hid ((P.take (k + 1)).length ≤ 9223372036854775807) := Lib.hid (by rw [List.length_take]; omega)
        obtain ⟨t, ht⟩ : ∃ t, t = codeB (P.take (k + 1)) := ⟨_, rfl⟩
        rw [← ht] at HF HU
        clear ht
        go_wp2_with fail
        refine (rformat_any _ (P.take (k + 1)) _ HI.out HLE.out).mono ?_
        rintro e w2 ⟨rfl, hb2⟩
        rw [HF.out]
        have hown1 := ownsRow_below hown hb2
        have hs2 := hb2.size
        have hsr := hbr.size
        go_wp2_with (first
          | (at_builtin; refine wpList_append_own _ rfl _ _ 40 rfl w1.heap.size 9 i0 (.string ⟨#[]⟩) 1 16 Tryz.underlying40 hi0 hz0 hz1 hz2 rfl (by decide) _ _ _ rfl (hown1.alloc _) ⟨w2.heap.size, 0, none⟩ 1 1 [.string t] rfl rfl (cell_one_new _ _ _) (by simp [Value.oneCell']) (by unfold maxLen; omega) (by omega) (by simp; omega) ?_)
          | fail)
        intro v' w3 hown2 hgrow _
        have HN3 : Hid (w3.ownsRow w1.heap.size 9 1 v' (k + 1) (((upsL P).take (k + 1)).map Value.string)) := Lib.hid (by
          rw [HU.out, List.map_append, List.map_take]; exact hown2)
        have HB3 : Hid (Below w1.heap.size w1 w3) := Lib.hid (((hbr.trans (hb2.mono hbr.size)).alloc (by omega) _).grown hgrow (by simp; omega) (fun j hj => (hown1.lt j hj).1))
        clear hown2 hgrow hown hown1 hbr hb2
        go_wp2
        go_roundw
        case rel => exact ⟨k + 1, by omega, by go_num, HN3.out, HB3.out⟩
        case measure => simp [intOf]; omega
      · obtain rfl : k = n := by omega
        have HT : Hid ((upsL P).take k = upsL P) := Lib.hid (List.take_of_length_le (by rw [HN.out]; simp [upsL]))
        have HL : Hid ((upsL P).length = k) := Lib.hid (by rw [HN.out]; simp [upsL])
        have HOWN := Lib.hid hown
        clear hown
        go_wp2
        go_ret
        refine ⟨_, rfl, ?_, chain0 hb hbr⟩
        rw [HV.out, HL.out]
        have h := HOWN.out
        rw [HT.out] at h
        exact own_base h hb.size
theorem path_len (s : ByteArray) : (pathV s).length ≤ 5 := by
  unfold pathV
  cases h : parseO s with
  | none => simp
  | some P => simp only [upsL, List.length_map, List.length_range]; exact (parseO_some h).1.2.1
def inB (ss : List ByteArray) (x : ByteArray) : Bool := ss.any fun y => decide (y = x)
theorem inB_take (ss : List ByteArray) (k : Nat) (x : ByteArray) (h : k < ss.length) : inB (ss.take (k + 1)) x = (inB (ss.take k) x || decide (ss.getD k ByteArray.empty = x)) := by
  unfold inB
  rw [List.take_succ_eq_append_getElem h, List.any_append]
  have e : ss.getD k ByteArray.empty = ss[k] := by simp [List.getD, h]
  rw [e]; simp
set_option maxRecDepth 100000 in
set_option maxHeartbeats 1600000 in
theorem rwithin_any (c a : ByteArray) (w : World) (hc : c.size ≤ 2000000) :
    Calls Tryz.prog 31 #[.string c, .string a] w fun e w' => e = .returned (.bool (withinB c a)) ∧ Below w.heap.size w w' := by
  have hw := within_ref c a
  cases hp : partsO c with
  | none =>
    have HW : Hid (withinB c a = false) := Lib.hid (by rw [hw, if_pos hp])
    have HL : Hid (levelV c = -1) := Lib.hid (by unfold levelV; rw [hp])
    clear hw hp
    go_enter Tryz.func31, Tryz.ntmps31
    go_wp2_with fail
    refine (rlevel_any c _ hc).mono ?_
    rintro e w1 ⟨rfl, hb⟩
    rw [HL.out]
    go_wp2
    go_ret
    exact ⟨by rw [HW.out]; rfl, hb⟩
  | some P =>
    rw [if_neg (by rw [hp]; simp)] at hw
    have HL : Hid (levelV c = ((P.length : Nat) : Int)) := Lib.hid (by unfold levelV; rw [hp])
    by_cases ha0 : a.size = 0
    · have e := size_zero ha0
      subst e
      have HW : Hid (withinB c emptyB = true) := Lib.hid (by rw [hw, if_pos (Or.inl rfl)])
      clear hw hp ha0
      unfold emptyB at *
      go_enter Tryz.func31, Tryz.ntmps31
      go_wp2_with fail
      refine (rlevel_any c _ hc).mono ?_
      rintro e w1 ⟨rfl, hb⟩
      rw [HL.out]
      go_wp2
      go_ret
      exact ⟨by rw [HW.out]; rfl, hb⟩
    have hna := empty_no ha0
    by_cases hac : a = c
    · have HW : Hid (withinB c a = true) := Lib.hid (by rw [hw, if_pos (Or.inr hac)])
      have hbq := beq_yes hac
      clear hw hp ha0 hac
      go_enter Tryz.func31, Tryz.ntmps31
      go_wp2_with fail
      refine (rlevel_any c _ hc).mono ?_
      rintro e w1 ⟨rfl, hb⟩
      rw [HL.out]
      go_wp2
      go_ret
      exact ⟨by rw [HW.out]; rfl, hb⟩
    · have HW : Hid (withinB c a = inB (pathV c) a) := Lib.hid (by
        rw [hw, if_neg (by
          rintro (k | k)
          · exact ha0 (by rw [k]; rfl)
          · exact hac k)]
        rfl)
      have hbq := beq_no hac
      have HPL := Lib.hid (path_len c)
      clear hw hp ha0 hac
      go_enter Tryz.func31, Tryz.ntmps31
      go_wp2_with fail
      refine (rlevel_any c _ hc).mono ?_
      rintro e w1 ⟨rfl, hb⟩
      rw [HL.out]
      go_wp2_with fail
      refine (rpath_any c _ hc).mono ?_
      rintro e w2 ⟨sv, rfl, hown, hb2⟩
      have hS := strs_of_own hown rfl
      obtain ⟨ss, hss⟩ : ∃ ss, ss = pathV c := ⟨_, rfl⟩
      have HSS := Lib.hid hss
      rw [← hss] at hS
      have hsl : ss.length ≤ 5 := by rw [hss]; exact HPL.out
      have HB := Lib.hid (chain0 hb hb2)
      clear hown hss hb hb2
      rcases hS with ⟨rfl, pv, cv, rfl⟩ | ⟨v0, bv, ov, cv, rfl, _, bvl, hvc⟩
      · go_wp2_with fail
        go_rounds 1
        go_ret
        exact ⟨by rw [HW.out, ← HSS.out]; rfl, HB.out⟩
      have HV := Lib.hid hvc
      clear hvc
      go_wp2_with fail
      go_loop [20] (fun q => ∃ k : Nat, k ≤ ss.length ∧ q = .int .i64 k ∧ inB (ss.take k) a = false) (fun q => ss.length - (intOf q).toNat)
      case atStart => exact ⟨0, by omega, rfl, rfl⟩
      case round =>
        obtain ⟨k, hk, rfl, hno⟩ := hrel
        have HN := Lib.hid hno
        clear hno
        by_cases hlt : k < ss.length
        · have hc := HV.out k hlt
          have HT := Lib.hid (inB_take ss k a hlt)
          have HM : Hid (inB (ss.take (k + 1)) a = true → inB ss a = true) := Lib.hid (by
            intro h
            unfold inB at h ⊢
            rw [List.any_eq_true] at h ⊢
            obtain ⟨y, hy, he⟩ := h
            exact ⟨y, List.mem_of_mem_take hy, he⟩)
          obtain ⟨y, ey⟩ : ∃ y, y = ss.getD k ByteArray.empty := ⟨_, rfl⟩
          rw [← ey] at hc HT
          clear ey
          by_cases hxy : y = a
          · have hb := beq_yes hxy
            have HX : Hid (inB ss a = true) := Lib.hid (HM.out (by rw [HT.out, decide_eq_true hxy]; simp))
            clear hxy
            go_wp2
            go_ret
            exact ⟨by rw [HW.out, ← HSS.out, HX.out]; rfl, HB.out⟩
          · have hb := beq_no hxy
            have HX : Hid (inB (ss.take (k + 1)) a = false) := Lib.hid (by rw [HT.out, HN.out, decide_eq_false hxy]; rfl)
            clear hxy
            go_wp2
            go_round
            case rel => exact ⟨k + 1, by omega, by go_num, HX.out⟩
            case measure => simp [intOf]; omega
        · obtain rfl : k = ss.length := by omega
          have HX : Hid (inB ss a = false) := Lib.hid (by have := HN.out; rwa [List.take_length] at this)
          go_wp2
          go_ret
          exact ⟨by rw [HW.out, ← HSS.out, HX.out]; rfl, HB.out⟩
end
section
open Go.RowKit Go.Sort Cal Go.Maps
def AccL (a : Acc) : Prop := (a.f = true → a.l = levelV a.o.c) ∧ (a.f = false → a.l = -1) ∧ a.o.c.size ≤ 2000000
theorem fold_link (code : ByteArray) : ∀ (l : List RuleR) (a : Acc), (∀ r ∈ l, r.c.size ≤ 2000000) → AccL a → AccL (l.foldl (accStep code) a)
  | [], _, _, h => h
  | r :: l, a, hr, h => by
    rw [List.foldl_cons]
    refine fold_link code l _ (fun x hx => hr x (List.mem_cons_of_mem _ hx)) ?_
    unfold accStep
    split
    · exact ⟨fun _ => rfl, fun e => (by cases e), hr r List.mem_cons_self⟩
    · exact h
theorem accV_link (code : ByteArray) (RS : List RuleR) (k : Nat) (hr : ∀ r ∈ RS, r.c.size ≤ 2000000) : AccL (accV code RS k) :=
  fold_link code _ _ (fun r h => hr r (List.mem_of_mem_take h)) ⟨fun e => (by cases e), fun _ => rfl, by decide⟩
theorem rwithin_v (c a : ByteArray) (v : Bool) (h : withinB c a = v) (w : World) (hc : c.size ≤ 2000000) :
    Calls Tryz.prog 31 #[.string c, .string a] w fun e w' => e = .returned (.bool v) ∧ Below w.heap.size w w' := by
  subst h; exact rwithin_any c a w hc
theorem rlevel_v (s : ByteArray) (v : Int) (h : levelV s = v) (w : World) (hs : s.size ≤ 2000000) :
    Calls Tryz.prog 32 #[.string s] w fun e w' => e = .returned (.int .i64 v) ∧ Below w.heap.size w w' := by
  subst h; exact rlevel_any s w hs
set_option maxRecDepth 100000 in
set_option maxHeartbeats 3200000 in
theorem rruleOf_any (d v2 v3 v4 v5 : Value) (sv : Value) (RS : List RuleR) (code : ByteArray) (w : World) (hn : RS.length ≤ 1000) (hcs : code.size ≤ 2000000) (hR : RulesAt w sv RS) (hrs : ∀ r ∈ RS, r.c.size ≤ 2000000) :
    Calls Tryz.prog 13 #[.agg #[d, sv, v2, v3, v4, v5], .string code] w (RulePost code RS w) := by
  have HS := Lib.hid hrs
  obtain ⟨q, n, c, rfl, hl, hcells⟩ := hR.form
  have HC := Lib.hid hcells
  have HL := Lib.hid hl
  have HO := Lib.hid (Out.new w [d, .slice q n c, v2, v3, v4, v5])
  have hn1 : n ≤ 1000 := by omega
  clear hrs hR hcells hl hn
  go_enter Tryz.func13, Tryz.ntmps13
  go_wp2_with fail
  go_loopw [7, 14] (fun f i wr => ∃ k : Nat, k ≤ n ∧ i = .int .i64 k ∧ f = .bool (accV code RS k).f ∧ Out w.heap.size w (accV code RS k).o wr) (fun _ i _ => n - (intOf i).toNat)
  case atStart => exact ⟨0, by omega, rfl, rfl, HO.out⟩
  case round =>
    obtain ⟨k, hk, rfl, rfl, hO⟩ := hrel
    have HR := Lib.hid hO
    obtain ⟨A, hA⟩ : ∃ A, A = accV code RS k := ⟨_, rfl⟩
    rw [← hA]
    have HA := Lib.hid hA
    have hAL := accV_link code RS k HS.out
    rw [← hA] at hAL
    have HAL := Lib.hid hAL
    have hO1 := hO
    rw [← hA] at hO1
    have HOA := Lib.hid hO1
    have hsz := hO.lt
    clear hAL hO1 hO hA
    by_cases hlt : k < n
    · obtain ⟨r, hr⟩ : ∃ r, RS[k]? = some r := ⟨_, List.getElem?_eq_getElem (by rw [HL.out]; exact hlt)⟩
      have HRR := Lib.hid hr
      obtain ⟨b, rfl, hb, c0, c1, c2, c3⟩ := HC.out k r hr
      have hbw := HR.out.bl
      have e0 := (hbw.cell (p := ⟨b, k * 4, none⟩) hb).trans c0
      have e1 := (hbw.cell (p := ⟨b, k * 4 + 1, none⟩) hb).trans c1
      have e2 := (hbw.cell (p := ⟨b, k * 4 + 2, none⟩) hb).trans c2
      have e3 := (hbw.cell (p := ⟨b, k * 4 + 3, none⟩) hb).trans c3
      have hrc : r.c.size ≤ 2000000 := HS.out r (List.mem_of_getElem? hr)
      obtain ⟨L, hL⟩ : ∃ L, L = levelV r.c := ⟨_, rfl⟩
      have HLV := Lib.hid hL
      obtain ⟨W, hW⟩ : ∃ W, W = wr.alloc (.cells #[.string r.c, .int .i64 r.m, .int .i64 r.n, .int .i64 r.s] 43) := ⟨_, rfl⟩
      have KS : Hid (∀ W', Below W.heap.size W W' → W'.cell? ⟨wr.heap.size, 0, none⟩ = some (.string r.c) ∧ W'.cell? ⟨w.heap.size + 1 + 1, 0, none⟩ = some (.string A.o.c) ∧ Box wr.heap.size wr [.string r.c, .int .i64 r.m, .int .i64 r.n, .int .i64 r.s] W' ∧ Out w.heap.size w A.o W') := Lib.hid (fun W' hB => by
        rw [hW] at hB
        have X := (Box.new wr [.string r.c, .int .i64 r.m, .int .i64 r.n, .int .i64 r.s] 43).step hB
        have Y := HOA.out.step X.bl
        exact ⟨X.c 0 _ rfl, cell_blk Y.k 0 _ rfl, X, Y⟩)
      clear hbw c0 c1 c2 c3 hr hL
      have k0 := fun d os => (KS.out _ (below_regrown W d os)).1
      have k1 := fun d os => (KS.out _ (below_regrown W d os)).2.1
      have haf : A.f = true ∨ A.f = false := by cases A.f <;> simp
      cases hw : withinB code r.c with
      | false =>
        have HW := Lib.hid hw
        clear hw
        rcases haf with haf | haf
        all_goals
          rw [haf]
          go_wp2_with fail
          rw [← hW]
          clear hW
          refine wp_region_quiet_below (by kernel_rfl) (by kernel_rfl) ?_
          repeat (go_big_quiet_step (first
            | (go_at_call 31; exact Calls.regrown_of (rwithin_v code r.c false HW.out _ hcs))))
          refine wpQuiet_nil ?_
          intro _ hw'
          obtain ⟨⟨dq, osq⟩, hw''⟩ := hw'
          subst hw''
          have HB6 := Lib.hid (below_regrown W dq osq)
          have HO2 := Lib.hid (KS.out _ HB6.out).2.2.2
          obtain ⟨w2, hw2⟩ : ∃ x, x = grow (redrawn W dq) osq := ⟨_, rfl⟩
          rw [← hw2] at HO2 ⊢
          clear hw2 HB6 k0 k1 KS
          have HN : Hid (accV code RS (k + 1) = A) := Lib.hid ((accV_no2 code RS k r HRR.out HW.out).trans HA.out.symm)
          go_wp2_with fail
          go_roundw
          case rel => exact ⟨k + 1, by omega, by go_num, by rw [HN.out, haf], by rw [HN.out]; exact HO2.out⟩
          case measure => simp [intOf]; omega
      | true =>
        have HW := Lib.hid hw
        have hge := within_level hw
        clear hw
        rcases haf with haf | haf
        · have HAl : Hid (levelV A.o.c = A.l) := Lib.hid (HAL.out.1 haf).symm
          have hAo := HAL.out.2.2
          have HF := Lib.hid haf
          rw [haf]
          by_cases hd : A.l < L
          · have hd1 : decide (A.l < L) = true := by simpa using hd
            have HD : Hid (A.l < levelV r.c) := Lib.hid (by rw [← HLV.out]; exact hd)
            clear hd
            go_wp2_with fail
            rw [← hW]
            clear hW
            refine wp_region_quiet_below (by kernel_rfl) (by kernel_rfl) ?_
            repeat (go_big_quiet_step (first
              | (go_at_call 31; exact Calls.regrown_of (rwithin_v code r.c true HW.out _ hcs))
              | (go_at_call 32; first | (with_reducible exact Calls.regrown_of (rlevel_v r.c L HLV.out.symm _ hrc)) | (with_reducible exact Calls.regrown_of (rlevel_v A.o.c A.l HAl.out _ hAo)))))
            refine wpQuiet_nil ?_
            intro _ hw'
            obtain ⟨⟨dq, osq⟩, hw''⟩ := hw'
            subst hw''
            have HB6 := Lib.hid (below_regrown W dq osq)
            have HX2 := Lib.hid (KS.out _ HB6.out).2.2.1
            have HO2 := Lib.hid (KS.out _ HB6.out).2.2.2
            obtain ⟨w2, hw2⟩ : ∃ x, x = grow (redrawn W dq) osq := ⟨_, rfl⟩
            rw [← hw2] at HX2 HO2 ⊢
            clear hw2 HB6 k0 k1 KS
            have e0 : w2.cell? ⟨wr.heap.size, 0, none⟩ = some (.string r.c) := HX2.out.c 0 _ rfl
            have e1 : w2.cell? ⟨wr.heap.size, 1, none⟩ = some (.int .i64 r.m) := HX2.out.c 1 _ rfl
            have e2 : w2.cell? ⟨wr.heap.size, 2, none⟩ = some (.int .i64 r.n) := HX2.out.c 2 _ rfl
            have e3 : w2.cell? ⟨wr.heap.size, 3, none⟩ = some (.int .i64 r.s) := HX2.out.c 3 _ rfl
            have hsz2 := HO2.out.lt
            have o0 : w2.cell? ⟨w.heap.size + 1 + 1, 0, none⟩ = some (.string A.o.c) := cell_blk HO2.out.k 0 _ rfl
            have o1 : w2.cell? ⟨w.heap.size + 1 + 1, 1, none⟩ = some (.int .i64 A.o.m) := cell_blk HO2.out.k 1 _ rfl
            have o2 : w2.cell? ⟨w.heap.size + 1 + 1, 2, none⟩ = some (.int .i64 A.o.n) := cell_blk HO2.out.k 2 _ rfl
            have o3 : w2.cell? ⟨w.heap.size + 1 + 1, 3, none⟩ = some (.int .i64 A.o.s) := cell_blk HO2.out.k 3 _ rfl
            have y0 : w2.frozen? ⟨w.heap.size + 1 + 1, 0, none⟩ = false := free_blk HO2.out.k 0
            have y1 : w2.frozen? ⟨w.heap.size + 1 + 1, 1, none⟩ = false := free_blk HO2.out.k 1
            have y2 : w2.frozen? ⟨w.heap.size + 1 + 1, 2, none⟩ = false := free_blk HO2.out.k 2
            have y3 : w2.frozen? ⟨w.heap.size + 1 + 1, 3, none⟩ = false := free_blk HO2.out.k 3
            have HN : Hid (accV code RS (k + 1) = ⟨r, true, levelV r.c⟩) := Lib.hid (accV_yes code RS k r HRR.out (by rw [← HA.out]; exact HD.out) HW.out)
            go_wp2_with fail
            obtain ⟨wf, hwf⟩ : ∃ wf, wf = (((w2.setCell ⟨w.heap.size + 1 + 1, 0, none⟩ (.string r.c)).setCell ⟨w.heap.size + 1 + 1, 1, none⟩ (.int .i64 r.m)).setCell ⟨w.heap.size + 1 + 1, 2, none⟩ (.int .i64 r.n)).setCell ⟨w.heap.size + 1 + 1, 3, none⟩ (.int .i64 r.s) := ⟨_, rfl⟩
            rw [← hwf]
            have HF := Lib.hid (HO2.out.store r wf hwf)
            clear hwf
            go_roundw
            case rel => exact ⟨k + 1, by omega, by go_num, by rw [HN.out], by rw [HN.out]; exact HF.out⟩
            case measure => simp [intOf]; omega
          · have hd1 : decide (A.l < L) = false := by simpa using hd
            have HD : Hid (¬ A.l < levelV r.c) := Lib.hid (by rw [← HLV.out]; exact hd)
            clear hd
            go_wp2_with fail
            rw [← hW]
            clear hW
            refine wp_region_quiet_below (by kernel_rfl) (by kernel_rfl) ?_
            repeat (go_big_quiet_step (first
              | (go_at_call 31; exact Calls.regrown_of (rwithin_v code r.c true HW.out _ hcs))
              | (go_at_call 32; first | (with_reducible exact Calls.regrown_of (rlevel_v r.c L HLV.out.symm _ hrc)) | (with_reducible exact Calls.regrown_of (rlevel_v A.o.c A.l HAl.out _ hAo)))))
            refine wpQuiet_nil ?_
            intro _ hw'
            obtain ⟨⟨dq, osq⟩, hw''⟩ := hw'
            subst hw''
            have HB6 := Lib.hid (below_regrown W dq osq)
            have HO2 := Lib.hid (KS.out _ HB6.out).2.2.2
            obtain ⟨w2, hw2⟩ : ∃ x, x = grow (redrawn W dq) osq := ⟨_, rfl⟩
            rw [← hw2] at HO2 ⊢
            clear hw2 HB6 k0 k1 KS
            have HN : Hid (accV code RS (k + 1) = A) := Lib.hid ((accV_no1 code RS k r HRR.out (by have := HD.out; rw [← HA.out]; omega)).trans HA.out.symm)
            go_wp2_with fail
            go_roundw
            case rel => exact ⟨k + 1, by omega, by go_num, by rw [HN.out, haf], by rw [HN.out]; exact HO2.out⟩
            case measure => simp [intOf]; omega
        · have HD : Hid (A.l < levelV r.c) := Lib.hid (by rw [HAL.out.2.1 haf]; omega)
          rw [haf]
          go_wp2_with fail
          rw [← hW]
          clear hW
          refine wp_region_quiet_below (by kernel_rfl) (by kernel_rfl) ?_
          repeat (go_big_quiet_step (first
            | (go_at_call 31; exact Calls.regrown_of (rwithin_v code r.c true HW.out _ hcs))))
          refine wpQuiet_nil ?_
          intro _ hw'
          obtain ⟨⟨dq, osq⟩, hw''⟩ := hw'
          subst hw''
          have HB6 := Lib.hid (below_regrown W dq osq)
          have HX2 := Lib.hid (KS.out _ HB6.out).2.2.1
          have HO2 := Lib.hid (KS.out _ HB6.out).2.2.2
          obtain ⟨w2, hw2⟩ : ∃ x, x = grow (redrawn W dq) osq := ⟨_, rfl⟩
          rw [← hw2] at HX2 HO2 ⊢
          clear hw2 HB6 k0 k1 KS
          have e0 : w2.cell? ⟨wr.heap.size, 0, none⟩ = some (.string r.c) := HX2.out.c 0 _ rfl
          have e1 : w2.cell? ⟨wr.heap.size, 1, none⟩ = some (.int .i64 r.m) := HX2.out.c 1 _ rfl
          have e2 : w2.cell? ⟨wr.heap.size, 2, none⟩ = some (.int .i64 r.n) := HX2.out.c 2 _ rfl
          have e3 : w2.cell? ⟨wr.heap.size, 3, none⟩ = some (.int .i64 r.s) := HX2.out.c 3 _ rfl
          have hsz2 := HO2.out.lt
          have o0 : w2.cell? ⟨w.heap.size + 1 + 1, 0, none⟩ = some (.string A.o.c) := cell_blk HO2.out.k 0 _ rfl
          have o1 : w2.cell? ⟨w.heap.size + 1 + 1, 1, none⟩ = some (.int .i64 A.o.m) := cell_blk HO2.out.k 1 _ rfl
          have o2 : w2.cell? ⟨w.heap.size + 1 + 1, 2, none⟩ = some (.int .i64 A.o.n) := cell_blk HO2.out.k 2 _ rfl
          have o3 : w2.cell? ⟨w.heap.size + 1 + 1, 3, none⟩ = some (.int .i64 A.o.s) := cell_blk HO2.out.k 3 _ rfl
          have y0 : w2.frozen? ⟨w.heap.size + 1 + 1, 0, none⟩ = false := free_blk HO2.out.k 0
          have y1 : w2.frozen? ⟨w.heap.size + 1 + 1, 1, none⟩ = false := free_blk HO2.out.k 1
          have y2 : w2.frozen? ⟨w.heap.size + 1 + 1, 2, none⟩ = false := free_blk HO2.out.k 2
          have y3 : w2.frozen? ⟨w.heap.size + 1 + 1, 3, none⟩ = false := free_blk HO2.out.k 3
          have HN : Hid (accV code RS (k + 1) = ⟨r, true, levelV r.c⟩) := Lib.hid (accV_yes code RS k r HRR.out (by rw [← HA.out]; exact HD.out) HW.out)
          go_wp2_with fail
          obtain ⟨wf, hwf⟩ : ∃ wf, wf = (((w2.setCell ⟨w.heap.size + 1 + 1, 0, none⟩ (.string r.c)).setCell ⟨w.heap.size + 1 + 1, 1, none⟩ (.int .i64 r.m)).setCell ⟨w.heap.size + 1 + 1, 2, none⟩ (.int .i64 r.n)).setCell ⟨w.heap.size + 1 + 1, 3, none⟩ (.int .i64 r.s) := ⟨_, rfl⟩
          rw [← hwf]
          have HF := Lib.hid (HO2.out.store r wf hwf)
          clear hwf
          go_roundw
          case rel => exact ⟨k + 1, by omega, by go_num, by rw [HN.out], by rw [HN.out]; exact HF.out⟩
          case measure => simp [intOf]; omega
    · have hkn : k = n := by omega
      subst hkn
      have HN : Hid (accV code RS RS.length = A) := Lib.hid (by rw [HL.out, HA.out])
      have o0 : wr.cell? ⟨w.heap.size + 1 + 1, 0, none⟩ = some (.string A.o.c) := cell_blk HOA.out.k 0 _ rfl
      have o1 : wr.cell? ⟨w.heap.size + 1 + 1, 1, none⟩ = some (.int .i64 A.o.m) := cell_blk HOA.out.k 1 _ rfl
      have o2 : wr.cell? ⟨w.heap.size + 1 + 1, 2, none⟩ = some (.int .i64 A.o.n) := cell_blk HOA.out.k 2 _ rfl
      have o3 : wr.cell? ⟨w.heap.size + 1 + 1, 3, none⟩ = some (.int .i64 A.o.s) := cell_blk HOA.out.k 3 _ rfl
      have z0 : wr.cell? ⟨w.heap.size + 1, 0, none⟩ = some (.string ⟨#[]⟩) := cell_blk HR.out.z 0 _ rfl
      have z1 : wr.cell? ⟨w.heap.size + 1, 1, none⟩ = some (.int .i64 0) := cell_blk HR.out.z 1 _ rfl
      have z2 : wr.cell? ⟨w.heap.size + 1, 2, none⟩ = some (.int .i64 0) := cell_blk HR.out.z 2 _ rfl
      have z3 : wr.cell? ⟨w.heap.size + 1, 3, none⟩ = some (.int .i64 0) := cell_blk HR.out.z 3 _ rfl
      have y0 : wr.frozen? ⟨w.heap.size + 1, 0, none⟩ = false := free_blk HR.out.z 0
      have y1 : wr.frozen? ⟨w.heap.size + 1, 1, none⟩ = false := free_blk HR.out.z 1
      have y2 : wr.frozen? ⟨w.heap.size + 1, 2, none⟩ = false := free_blk HR.out.z 2
      have y3 : wr.frozen? ⟨w.heap.size + 1, 3, none⟩ = false := free_blk HR.out.z 3
      have HO' := HOA
      go_wp2
      obtain ⟨wf, hwf⟩ : ∃ wf, wf = (((wr.setCell ⟨w.heap.size + 1, 0, none⟩ (.string A.o.c)).setCell ⟨w.heap.size + 1, 1, none⟩ (.int .i64 A.o.m)).setCell ⟨w.heap.size + 1, 2, none⟩ (.int .i64 A.o.n)).setCell ⟨w.heap.size + 1, 3, none⟩ (.int .i64 A.o.s) := ⟨_, rfl⟩
      rw [← hwf]
      obtain ⟨hfin, hbf⟩ := HO'.out.fin wf hwf
      have a0 : wf.cell? ⟨w.heap.size + 1, 0, none⟩ = some (.string A.o.c) := cell_blk hfin 0 _ rfl
      have a1 : wf.cell? ⟨w.heap.size + 1, 1, none⟩ = some (.int .i64 A.o.m) := cell_blk hfin 1 _ rfl
      have a2 : wf.cell? ⟨w.heap.size + 1, 2, none⟩ = some (.int .i64 A.o.n) := cell_blk hfin 2 _ rfl
      have a3 : wf.cell? ⟨w.heap.size + 1, 3, none⟩ = some (.int .i64 A.o.s) := cell_blk hfin 3 _ rfl
      have HPG : Hid (RulePost code RS w (.returned (.tuple #[.agg #[.string A.o.c, .int .i64 A.o.m, .int .i64 A.o.n, .int .i64 A.o.s], .bool A.f])) wf) := Lib.hid (by
        unfold RulePost
        rw [HN.out]
        exact ⟨rfl, hbf⟩)
      clear hwf hfin hbf
      exact bodyPost_ret (v := .tuple #[.agg #[.string A.o.c, .int .i64 A.o.m, .int .i64 A.o.n, .int .i64 A.o.s], .bool A.f]) (by simp [results, Tryz.results13, go_sem, a0, a1, a2, a3]) rfl HPG.out
end
end Go.Proofs.YtkgkjoologjehaaGreatDoor
