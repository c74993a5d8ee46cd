/- Contracts of the program's Format, Parse and is: any list of numbers, any short string. -/
import Derived.Test.YtenjefbplpbjaaaGreatDoorBs
import Derived.Test.YtenjefbplpbjaaaGreatDoorCm
import Derived.Lib.ItoaLen
import Derived.Lib.AppendIntMem
import Derived.Lib.Slices
namespace Go.Proofs.YtenjefbplpbjaaaGreatDoor
open Go.RowKit Go.Sort Cal Go.Maps
theorem beq_no {s t : ByteArray} (h : ¬ s = t) : (s.toList == t.toList) = false := by
  rw [beq_eq_false_iff_ne]
  intro e
  rw [ByteArray.toList_eq, ByteArray.toList_eq] at e
  exact h (bs_ext e)
theorem beq_yes {s t : ByteArray} (h : s = t) : (s.toList == t.toList) = true := by rw [h]; simp
theorem fold_min (l : List Int) : ∀ a : Int, (1 ≤ l.foldl min a ↔ 1 ≤ a ∧ ∀ n ∈ l, 1 ≤ n) := by
  induction l with
  | nil => intro a; simp
  | cons x l ih =>
    intro a
    rw [List.foldl_cons, ih]
    constructor
    · rintro ⟨h1, h2⟩
      refine ⟨by omega, fun n hn => ?_⟩
      rcases List.mem_cons.1 hn with h | h
      · omega
      · exact h2 n h
    · rintro ⟨h1, h2⟩
      exact ⟨by have := h2 x (by simp); omega, fun n hn => h2 n (by simp [hn])⟩
theorem fold_max (l : List Int) : ∀ a : Int, (l.foldl max a ≤ 99 ↔ a ≤ 99 ∧ ∀ n ∈ l, n ≤ 99) := by
  induction l with
  | nil => intro a; simp
  | cons x l ih =>
    intro a
    rw [List.foldl_cons, ih]
    constructor
    · rintro ⟨h1, h2⟩
      refine ⟨by omega, fun n hn => ?_⟩
      rcases List.mem_cons.1 hn with h | h
      · omega
      · exact h2 n h
    · rintro ⟨h1, h2⟩
      exact ⟨by have := h2 x (by simp); omega, fun n hn => h2 n (by simp [hn])⟩
theorem min_in (zs : List Int) (h : 0 < zs.length) : 1 ≤ Lib.minOf zs ↔ ∀ n ∈ zs, 1 ≤ n := by
  unfold Lib.minOf
  rw [fold_min]
  match zs, h with
  | a :: r, _ => simp
theorem max_in (zs : List Int) (h : 0 < zs.length) : Lib.maxOf zs ≤ 99 ↔ ∀ n ∈ zs, n ≤ 99 := by
  unfold Lib.maxOf
  rw [fold_max]
  match zs, h with
  | a :: r, _ => simp
theorem okP_iff (zs : List Int) : okP zs ↔ 1 ≤ zs.length ∧ zs.length ≤ 5 ∧ 1 ≤ Lib.minOf zs ∧ Lib.maxOf zs ≤ 99 := by
  unfold okP inP
  constructor
  · rintro ⟨a, b, c⟩
    exact ⟨a, b, (min_in zs a).2 fun n hn => (c n hn).1, (max_in zs a).2 fun n hn => (c n hn).2⟩
  · rintro ⟨a, b, c, d⟩
    exact ⟨a, b, fun n hn => ⟨(min_in zs a).1 c n hn, (max_in zs a).1 d n hn⟩⟩
theorem min_at (b off c : Nat) (zs : List Int) (w : World) (h0 : 0 < zs.length) (hl : zs.length ≤ 9223372036854775807) (hc : ∀ j, j < zs.length → w.cell? ⟨b, off + j, none⟩ = some (.int .i64 (zs.getD j 0))) :
    Calls Tryz.prog 192 #[.slice (some ⟨b, off, none⟩) zs.length c] w fun e w' => e = .returned (.int .i64 (Lib.minOf zs)) ∧ w = w' :=
  (Tryz.slices_Min_int b off zs.length c zs w h0 (Nat.le_refl _) hl hc).mono fun _ _ ⟨a, b⟩ => ⟨by rw [List.take_length] at a; exact a, b.symm⟩
theorem max_at (b off c : Nat) (zs : List Int) (w : World) (h0 : 0 < zs.length) (hl : zs.length ≤ 9223372036854775807) (hc : ∀ j, j < zs.length → w.cell? ⟨b, off + j, none⟩ = some (.int .i64 (zs.getD j 0))) :
    Calls Tryz.prog 193 #[.slice (some ⟨b, off, none⟩) zs.length c] w fun e w' => e = .returned (.int .i64 (Lib.maxOf zs)) ∧ w = w' :=
  (Tryz.slices_Max_int b off zs.length c zs w h0 (Nat.le_refl _) hl hc).mono fun _ _ ⟨a, b⟩ => ⟨by rw [List.take_length] at a; exact a, b.symm⟩
theorem itoa_at (n : Int) (h1 : 1 ≤ n) (h2 : n ≤ 99) (w : World) (hT : Tab w) :
    Calls Tryz.prog 44 #[.int .i64 n] w fun e w' => e = .returned (.string (bs (wd n.toNat))) ∧ Below w.heap.size w w' := by
  have e : bs (wd n.toNat) = ⟨(Lib.itoa n).toArray⟩ := by
    have := itoa_wd n.toNat (by omega)
    rw [show ((n.toNat : Nat) : Int) = n by omega] at this
    unfold bs; rw [this]
  rw [e]
  exact (Tryz.strconv_Itoa n (by omega) (by omega) w hT.is).mono fun _ _ ⟨he, k, os, hw⟩ => ⟨he, hw ▸ Lib.below_grow _ _ (Nat.le_refl _) k os⟩
set_option maxRecDepth 100000 in
set_option maxHeartbeats 800000 in
theorem format_yes (sv : Value) (zs : List Int) (w : World) (hz : IntsAt w sv zs) (ho : okP zs) (hT : Tab w) :
    Calls Tryz.prog 141 #[sv] w fun e w' => e = .returned (.tuple #[.string (codeB zs), .int .i64 0]) ∧ Below w.heap.size w w' := by
  obtain ⟨o1, o2, o3, o4⟩ := (okP_iff zs).1 ho
  rcases hz with ⟨rfl, _, _, _⟩ | ⟨h0, b, off, cap, rfl, hcl, hlt, hc⟩
  · simp at o1
  have HC := Lib.hid hc
  have HT := Lib.hid hT
  have HO := Lib.hid ho
  have c0 : w.cell? ⟨b, off, none⟩ = some (.int .i64 (zs.getD 0 0)) := by have := hc 0 (by omega); rwa [Nat.add_zero] at this
  obtain ⟨z, ez⟩ : ∃ z, z = zs.getD 0 0 := ⟨_, rfl⟩
  have hzz : 1 ≤ z ∧ z ≤ 99 := by
    rw [ez]
    have : zs.getD 0 0 ∈ zs := by
      match zs, h0 with
      | a :: r, _ => simp
    exact ho.2.2 _ this
  rw [← ez] at c0
  have HZ := Lib.hid ez
  clear hc hT ho ez
  have HS0 : Hid (z < 10 → (⟨#[48]⟩ : ByteArray) ++ bs (wd z.toNat) = codeB (zs.take 1)) := Lib.hid (by
    intro h
    have e : zs.take 1 = [z] := by rw [HZ.out]; match zs, h0 with | a :: r, _ => rfl
    rw [e]
    have e2 : (⟨#[48]⟩ : ByteArray) ++ bs (wd z.toNat) = bs (48 :: wd z.toNat) := bs_append [48] _
    rw [e2]
    show bs (48 :: wd z.toNat) = bs (dig2 z.toNat ++ tailL [])
    unfold wd dig2
    rw [if_pos (by omega), show z.toNat / 10 = 0 by omega, show z.toNat % 10 = z.toNat by omega]
    rfl)
  have HS1 : Hid (¬ z < 10 → bs (wd z.toNat) = codeB (zs.take 1)) := Lib.hid (by
    intro h
    have e : zs.take 1 = [z] := by rw [HZ.out]; match zs, h0 with | a :: r, _ => rfl
    rw [e]
    show bs (wd z.toNat) = bs (dig2 z.toNat ++ tailL [])
    unfold wd
    rw [if_neg (by omega)]
    simp [tailL])
  have hw2 : (bs (wd z.toNat)).size ≤ 2 := by rw [bs_size]; exact wd_le _
  by_cases h10 : z < 10
  all_goals
    go_enter Tryz.func141, Tryz.ntmps141
    go_wp2_with fail
    refine (min_at b off cap zs _ h0 (by omega) HC.out).mono ?_
    rintro e w1 ⟨rfl, rfl⟩
    go_wp2_with fail
    refine (max_at b off cap zs _ h0 (by omega) HC.out).mono ?_
    rintro e w1 ⟨rfl, rfl⟩
    go_wp2_with fail
    refine (itoa_at z hzz.1 hzz.2 _ HT.out).mono ?_
    rintro e w1 ⟨rfl, hb1⟩
    have c1 := (hb1.cell (p := ⟨b, off, none⟩) hlt).trans c0
    go_wp2_with fail
    all_goals
      go_loopw [4, 38] (fun v i wr => ∃ k : Nat, k + 1 ≤ zs.length ∧ i = .int .i64 k ∧ v = .string (codeB (zs.take (k + 1))) ∧ Below w.heap.size w wr) (fun _ i _ => zs.length - (intOf i).toNat)
      case atStart => exact ⟨0, by omega, rfl, by first | rw [HS0.out (by assumption)] | rw [HS1.out (by omega)], hb1⟩
      case round =>
        obtain ⟨k, hk, rfl, rfl, hbr⟩ := hrel
        by_cases hlt2 : k + 1 < zs.length
        · have hc3 : wr.cell? ⟨b, off + 1 + k, none⟩ = some (.int .i64 (zs.getD (k + 1) 0)) := by
            have h := (hbr.cell (p := ⟨b, off + (k + 1), none⟩) hlt).trans (HC.out (k + 1) hlt2)
            rwa [show off + (k + 1) = off + 1 + k by omega] at h
          have hzk : 1 ≤ zs.getD (k + 1) 0 ∧ zs.getD (k + 1) 0 ≤ 99 := by
            have : zs.getD (k + 1) 0 ∈ zs := by
              rw [List.getD, List.getElem?_eq_getElem hlt2]; simp
            exact HO.out.2.2 _ this
          have HN : Hid (codeB (zs.take (k + 1)) ++ ((⟨#[46]⟩ : ByteArray) ++ bs (wd (zs.getD (k + 1) 0).toNat)) = codeB (zs.take (k + 2))) := Lib.hid (by
            have e : zs.take (k + 2) = zs.take (k + 1) ++ [zs.getD (k + 1) 0] := by
              rw [List.take_succ_eq_append_getElem hlt2, List.getD, List.getElem?_eq_getElem hlt2]; rfl
            have e2 : (⟨#[46]⟩ : ByteArray) ++ bs (wd (zs.getD (k + 1) 0).toNat) = bs (46 :: wd (zs.getD (k + 1) 0).toNat) := bs_append [46] _
            rw [e, e2]
            unfold codeB
            rw [bs_append, codeL_snoc _ _ (by
              intro h
              have h1 : (zs.take (k + 1)).length = 0 := by rw [h]; rfl
              rw [List.length_take] at h1
              omega)])
          have hsz : (codeB (zs.take (k + 1))).size ≤ 15 := by
            have := codeB_size (zs.take (k + 1))
            rw [List.length_take] at this; omega
          have hwk : (bs (wd (zs.getD (k + 1) 0).toNat)).size ≤ 2 := by rw [bs_size]; exact wd_le _
          generalize codeB (zs.take (k + 1)) = t at *
          generalize zs.getD (k + 1) 0 = y at *
          all_goals first
            | (exfalso; omega)
            | skip
          all_goals
            go_wp2_with fail
            refine (itoa_at y hzk.1 hzk.2 _ (HT.out.below hbr)).mono ?_
            rintro e w2 ⟨rfl, hb2⟩
            go_wp2_with fail
            go_roundw
            case rel => exact ⟨k + 1, by omega, by go_num, by rw [HN.out], hbr.trans (hb2.mono hbr.size)⟩
            case measure => simp [intOf]; omega
        · have HE : Hid (codeB (zs.take (k + 1)) = codeB zs) := Lib.hid (by rw [List.take_of_length_le (by omega)])
          obtain ⟨t, ht⟩ : ∃ t, t = codeB (zs.take (k + 1)) := ⟨_, rfl⟩
          rw [← ht] at HE ⊢
          clear ht
          go_wp2
          go_ret2
          exact ⟨by rw [HE.out]; rfl, hbr⟩
set_option maxRecDepth 100000 in
set_option maxHeartbeats 800000 in
theorem format_no (sv : Value) (zs : List Int) (w : World) (hz : IntsAt w sv zs) (hl : zs.length ≤ 9223372036854775807) (ho : ¬ okP zs) :
    Calls Tryz.prog 141 #[sv] w fun e w' => e = .returned (.tuple #[.string emptyB, .int .i64 64]) ∧ w = w' := by
  rcases hz with ⟨rfl, p, c, rfl⟩ | ⟨h0, b, off, cap, rfl, hcl, hlt, hc⟩
  · clear ho
    go_enter Tryz.func141, Tryz.ntmps141
    go_wp2
    go_ret2
    exact ⟨rfl, rfl⟩
  have HC := Lib.hid hc
  clear hc
  by_cases h5 : 5 < zs.length
  · clear ho
    go_enter Tryz.func141, Tryz.ntmps141
    go_wp2
    go_ret2
    exact ⟨rfl, rfl⟩
  by_cases h1 : 1 ≤ Lib.minOf zs
  · have h99 : 99 < Lib.maxOf zs := by
      rcases Int.lt_or_le 99 (Lib.maxOf zs) with h | h
      · exact h
      · exact absurd ((okP_iff zs).2 ⟨by omega, by omega, h1, by omega⟩) ho
    clear ho
    go_enter Tryz.func141, Tryz.ntmps141
    go_wp2_with fail
    refine (min_at b off cap zs _ h0 (by omega) HC.out).mono ?_
    rintro e w1 ⟨rfl, rfl⟩
    go_wp2_with fail
    refine (max_at b off cap zs _ h0 (by omega) HC.out).mono ?_
    rintro e w1 ⟨rfl, rfl⟩
    go_wp2
    go_ret2
    exact ⟨rfl, rfl⟩
  · have h1' : Lib.minOf zs < 1 := by omega
    clear ho h1
    go_enter Tryz.func141, Tryz.ntmps141
    go_wp2_with fail
    refine (min_at b off cap zs _ h0 (by omega) HC.out).mono ?_
    rintro e w1 ⟨rfl, rfl⟩
    go_wp2
    go_ret2
    exact ⟨rfl, rfl⟩
theorem split_at (s : ByteArray) (w : World) (hs : s.size ≤ 2000000) (hE : Env w) :
    Calls Tryz.prog 58 #[.string s, .string ⟨#[46]⟩] w fun e w' => e = .returned (.slice (some ⟨w.heap.size, 0, none⟩) (cutB s).length (cutB s).length) ∧ (∀ j x, (cutB s)[j]? = some x → w'.cell? ⟨w.heap.size, j, none⟩ = some (.string x)) ∧ Below w.heap.size w w' ∧ w.heap.size < w'.heap.size := by
  obtain ⟨m, hm⟩ := hE.len
  refine (Tryz.strings_Split s ⟨#[46]⟩ m w (by omega) hm (by decide)).mono ?_
  rintro e w' ⟨rfl, rfl⟩
  refine ⟨by rw [cut_len]; rfl, ?_, (Below.refl _ _).alloc (Nat.le_refl _) _, by simp⟩
  intro j x hx
  have e : ((cutB s).map Value.string).toArray[j]? = some (.string x) := by
    rw [List.getElem?_toArray, List.getElem?_map, hx]; rfl
  have hlt := (List.getElem?_eq_some_iff.1 hx).1
  show World.cell? (w.alloc (.cells ((cutB s).map Value.string).toArray _)) _ = _
  simp [hx]
theorem own_base {w : World} {base b2 size n : Nat} {e : TypeId} {v : Value} {xs : List Value} (h : w.ownsRow base e size v n xs) (hb : b2 ≤ base) : w.ownsRow b2 e size v n xs := by
  refine ⟨h.1, ?_⟩
  rcases h.2 with h0 | ⟨g, cap, cur, hv, hbase, hblk, h1, h2, h3, h4⟩
  · exact Or.inl h0
  · exact Or.inr ⟨g, cap, cur, hv, Nat.le_trans hb hbase, hblk, h1, h2, h3, h4⟩
/-- What Parse gives: a code's parts in memory of its own, or nothing. -/
def ParseYes (P : List Int) (w : World) (e : Ending) (w' : World) : Prop :=
  ∃ sv, e = .returned (.tuple #[sv, .int .i64 0]) ∧ w'.ownsRow w.heap.size 3 1 sv P.length (P.map (Value.int .i64)) ∧ Below w.heap.size w w'
def ParseNo (w : World) (e : Ending) (w' : World) : Prop := e = .returned (.tuple #[.slice none 0 0, .int .i64 60]) ∧ Below w.heap.size w w'
def ParsePost (s : ByteArray) (w : World) (e : Ending) (w' : World) : Prop := (∀ P, parseO s = some P → ParseYes P w e w') ∧ (parseO s = none → ParseNo w e w')
set_option maxRecDepth 100000 in
set_option maxHeartbeats 1600000 in
theorem parse_any (s : ByteArray) (w : World) (hs : s.size ≤ 2000000) (hE : Env w) :
    Calls Tryz.prog 82 #[.string s] w (ParsePost s w) := by
  have HE := Lib.hid hE
  have hcl : (cutB s).length ≤ 2000001 := by have := cut_bd s; omega
  have hpl : (partsOf s).length = (cutB s).length := by unfold partsOf; rw [List.length_map]
  have HPL := Lib.hid hpl
  obtain ⟨i0, hi0, hz0, hz1, hz2⟩ := info_parts info3p
  clear hE hpl
  go_enter Tryz.func82, Tryz.ntmps82
  go_wp2_with fail
  refine (split_at s _ hs HE.out).mono ?_
  rintro e w1 ⟨rfl, hcut, hb1, hsz1⟩
  have HCUT := Lib.hid hcut
  clear hcut
  go_wp2_with fail
  go_loopw [4, 14] (fun v i wr => ∃ k : Nat, k ≤ (cutB s).length ∧ i = .int .i64 k ∧ wr.ownsRow w1.heap.size 3 1 v k (((partsOf s).take k).map (Value.int .i64)) ∧ Below w1.heap.size w1 wr) (fun _ i _ => (cutB s).length - (intOf i).toNat)
  case atStart => exact ⟨0, by omega, rfl, World.ownsRow_nil _ _ _ _, Below.refl _ _⟩
  case round =>
    obtain ⟨k, hk, rfl, hown, hbr⟩ := hrel
    by_cases hlt : k < (cutB s).length
    · obtain ⟨x, hx⟩ : ∃ x, (cutB s)[k]? = some x := ⟨_, List.getElem?_eq_getElem hlt⟩
      have hcell := (hbr.cell (p := ⟨w.heap.size, k, none⟩) hsz1).trans (HCUT.out k x hx)
      have hxs : x.size ≤ 2000000 := by have := cut_piece s x (List.mem_of_getElem? hx); omega
      have HN : Hid ((partsOf s).take (k + 1) = (partsOf s).take k ++ [atoiV x.data.toList]) := Lib.hid (by
        have hlt' : k < (partsOf s).length := by rw [HPL.out]; exact hlt
        rw [List.take_succ_eq_append_getElem hlt']
        congr 2
        have : (partsOf s)[k]? = some (atoiV x.data.toList) := by unfold partsOf; rw [List.getElem?_map, hx]; rfl
        exact List.getElem_of_getElem? this |>.2)
      have HX := Lib.hid hx
      clear hx
      have HEr := HE.out.below ((hb1.trans (hbr.mono hb1.size)))
      have HER := Lib.hid HEr
      clear HEr
      go_wp2_with fail
      refine (atoi_any x _ hxs HER.out).mono ?_
      rintro e w2 ⟨ev, rfl, hb2⟩
      have hown1 := ownsRow_below hown hb2
      obtain ⟨z, hz⟩ : ∃ z, z = atoiV x.data.toList := ⟨_, rfl⟩
      rw [← hz] at HN ⊢
      clear hz
      go_wp2_with (first
        | (at_builtin; refine wpList_append_own _ rfl _ _ 37 rfl w1.heap.size 3 i0 (.int .i64 0) 1 8 Tryz.underlying37 hi0 hz0 hz1 hz2 rfl (by decide) _ _ _ rfl (hown1.alloc _) ⟨w2.heap.size, 0, none⟩ 1 1 [.int .i64 z] rfl rfl ?c1 ?c2 ?c3 ?c4 ?c5 ?_)
        | fail)
      case c1 =>
        intro j u hj
        match j, hj with
        | 0, hj => simp at hj; subst hj; simp [Addr.add]
      case c2 => intro u hu; simp at hu; subst hu; rfl
      case c3 => unfold maxLen; omega
      case c4 => omega
      case c5 => have := hbr.size; have := hb2.size; simp; omega
      · intro v' w3 hown2 hgrow _
        have hown3 : w3.ownsRow w1.heap.size 3 1 v' (k + 1) (((partsOf s).take (k + 1)).map (Value.int .i64)) := by rw [HN.out, List.map_append, List.map_take]; exact hown2
        have hbr3 : Below w1.heap.size w1 w3 := ((hbr.trans (hb2.mono hbr.size)).alloc (Nat.le_trans hbr.size hb2.size) _).grown hgrow (by have := hbr.size; have := hb2.size; simp; omega) (fun j hj => (hown1.lt j hj).1)
        clear hown2 hgrow
        go_wp2
        go_roundw
        case rel => exact ⟨k + 1, by omega, by go_num, hown3, hbr3⟩
        case measure => simp [intOf]; omega
    · obtain rfl : k = (cutB s).length := by omega
      have hcp : 0 < (cutB s).length := by rw [cut_len]; omega
      obtain ⟨g, cp, rfl, _, _⟩ := World.ownsRow.form hown hcp
      have hown' : wr.ownsRow w1.heap.size 3 1 (.slice (some ⟨g, 0, none⟩) (cutB s).length cp) (partsOf s).length ((partsOf s).map (Value.int .i64)) := by
        have h := hown
        rw [← HPL.out, List.take_length] at h
        rw [← HPL.out]
        exact h
      have HOWN := Lib.hid hown'
      have HI := Lib.hid (ints_of_own hown' rfl)
      have HB := Lib.hid (hb1.trans (hbr.mono hb1.size))
      have HSZ := Lib.hid hb1.size
      clear hown hown' hbr hb1
      by_cases ho : okP (partsOf s)
      · have HO := Lib.hid ho
        by_cases he : codeB (partsOf s) = s
        · have HS := Lib.hid he
          have HY : Hid (parseO s = some (partsOf s)) := Lib.hid (by unfold parseO; rw [if_pos ⟨ho, he⟩])
          clear ho he
          go_wp2_with fail
          refine (format_yes _ (partsOf s) _ HI.out HO.out (HE.out.tab.below HB.out)).mono ?_
          rintro e w3 ⟨rfl, hb3⟩
          rw [HS.out]
          go_wp2_with fail
          go_ret2
          refine ⟨fun P hP => ?_, fun hN => ?_⟩
          · rw [HY.out] at hP
            cases hP
            exact ⟨_, rfl, own_base (ownsRow_below HOWN.out hb3) HSZ.out, HB.out.trans (hb3.mono HB.out.size)⟩
          · rw [HY.out] at hN
            cases hN
        · have HN : Hid (parseO s = none) := Lib.hid (by unfold parseO; rw [if_neg (fun h => he h.2)])
          have hne : ((codeB (partsOf s)).toList == s.toList) = false := beq_no he
          obtain ⟨t, ht⟩ : ∃ t, t = codeB (partsOf s) := ⟨_, rfl⟩
          have HT := Lib.hid ht
          rw [← ht] at hne
          clear ho he ht
          go_wp2_with fail
          refine (format_yes _ (partsOf s) _ HI.out HO.out (HE.out.tab.below HB.out)).mono ?_
          rintro e w3 ⟨rfl, hb3⟩
          rw [← HT.out]
          go_wp2_with fail
          go_ret2
          refine ⟨fun P hP => ?_, fun _ => ⟨rfl, HB.out.trans (hb3.mono HB.out.size)⟩⟩
          rw [HN.out] at hP
          cases hP
      · have HN : Hid (parseO s = none) := Lib.hid (by unfold parseO; rw [if_neg (fun h => ho h.1)])
        have HO := Lib.hid ho
        have hl : (partsOf s).length ≤ 9223372036854775807 := by rw [HPL.out]; omega
        clear ho
        go_wp2_with fail
        refine (format_no _ (partsOf s) _ HI.out hl HO.out).mono ?_
        rintro e w3 ⟨rfl, rfl⟩
        go_wp2_with fail
        go_ret2
        refine ⟨fun P hP => ?_, fun _ => ⟨rfl, HB.out⟩⟩
        rw [HN.out] at hP
        cases hP
theorem parse_yes (s : ByteArray) (P : List Int) (w : World) (hs : s.size ≤ 2000000) (hp : parseO s = some P) (hE : Env w) :
    Calls Tryz.prog 82 #[.string s] w (ParseYes P w) := (parse_any s w hs hE).mono fun _ _ h => h.1 P hp
theorem parse_no (s : ByteArray) (w : World) (hs : s.size ≤ 2000000) (hp : parseO s = none) (hE : Env w) :
    Calls Tryz.prog 82 #[.string s] w (ParseNo w) := (parse_any s w hs hE).mono fun _ _ h => h.2 hp
theorem is_any (s : ByteArray) (w : World) (hs : s.size ≤ 2000000) (hE : Env w) :
    Calls Tryz.prog 83 #[.string s] w fun e w' => e = .returned (.bool (parseO s).isSome) ∧ Below w.heap.size w w' := by
  have HE := Lib.hid hE
  clear hE
  cases hp : parseO s with
  | none =>
    have HP := Lib.hid hp
    clear hp
    go_enter Tryz.func83, Tryz.ntmps83
    go_wp2_with fail
    refine (parse_no s _ hs HP.out HE.out).mono ?_
    rintro e w1 ⟨rfl, hb⟩
    go_wp2_with fail
    go_ret
    exact ⟨rfl, hb⟩
  | some P =>
    have HP := Lib.hid hp
    clear hp
    go_enter Tryz.func83, Tryz.ntmps83
    go_wp2_with fail
    refine (parse_yes s P _ hs HP.out HE.out).mono ?_
    rintro e w1 ⟨sv, rfl, _, hb⟩
    go_wp2_with fail
    go_ret
    exact ⟨rfl, hb⟩
end Go.Proofs.YtenjefbplpbjaaaGreatDoor
