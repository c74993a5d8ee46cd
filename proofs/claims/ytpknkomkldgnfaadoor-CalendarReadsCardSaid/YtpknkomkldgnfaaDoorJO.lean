/- Contract of joined: a short list of numbers from 0 to 9999, each with at least two digits, a hyphen between them. -/
import Derived.Test.YtpknkomkldgnfaaDoorK
import Derived.Test.YtpknkomkldgnfaaDoorShelf
import Derived.Lib.ItoaLen
import Derived.Lib.AppendIntMem
import Derived.Deep.AppendLies
import Derived.Lib.Join
namespace Go.Proofs.YtpknkomkldgnfaaDoor
open Go.RowKit Go.Sort
theorem itoa_at (n : Int) (s : ByteArray) (hs : Hid (s = ⟨(Lib.itoa n).toArray⟩)) (h0 : 0 ≤ n) (h1 : n ≤ 9999) (w : World) (hT : Tab w) :
    Calls Tryd.prog 62 #[.int .i64 n] w fun e w' => e = .returned (.string s) ∧ Below w.heap.size w w' :=
  (Tryd.strconv_Itoa n (by omega) (by omega) w hT.is).mono fun _ _ ⟨he, k, os, hw⟩ => ⟨by rw [hs.out]; exact he, hw ▸ Lib.below_grow _ _ (Nat.le_refl _) k os⟩
/-- A number with at least two digits. -/
def wordB (n : Int) : ByteArray := if n < 10 then ⟨#[48]⟩ ++ ⟨(Lib.itoa n).toArray⟩ else ⟨(Lib.itoa n).toArray⟩
def wordsV (zs : List Int) (k : Nat) : List Value := ((zs.take k).map wordB).map Value.string
theorem wordsV_len (zs : List Int) (k : Nat) (h : k ≤ zs.length) : (wordsV zs k).length = k := by simp [wordsV]; omega
theorem wordsV_succ (zs : List Int) (k : Nat) (h : k < zs.length) : wordsV zs (k + 1) = wordsV zs k ++ [.string (wordB (zs.getD k 0))] := by
  unfold wordsV
  rw [List.take_succ_eq_append_getElem h]
  simp only [List.map_append, List.map_cons, List.map_nil]
  have e : zs.getD k 0 = zs[k] := by simp [List.getD, h]
  rw [e]
theorem itoa_size (n : Int) (h0 : 0 ≤ n) (h1 : n ≤ 9999) : (⟨(Lib.itoa n).toArray⟩ : ByteArray).size ≤ 21 := by
  have := Lib.itoa_length_le n (by omega) (by omega)
  show (Lib.itoa n).toArray.size ≤ 21
  simpa using this
/-- The text of a list of numbers. -/
def joinB (zs : List Int) : ByteArray := ⟨(Lib.join ((zs.map wordB).map (·.data.toList)) [45]).toArray⟩
theorem info9p : (Tryd.prog.info? 9).map (fun i => (i.zero, i.size, i.bytes)) = some (some (.string ⟨#[]⟩), 1, 16) := by kernel_rfl
theorem wordB_size (n : Int) (h0 : 0 ≤ n) (h1 : n ≤ 9999) : (wordB n).size ≤ 22 := by
  have := Lib.itoa_length_le n (by omega) (by omega)
  have e : (wordB n).size = (wordB n).data.toList.length := by simp
  rw [e]
  unfold wordB
  split
  · have e : ((⟨#[48]⟩ : ByteArray) ++ ⟨(Lib.itoa n).toArray⟩).data = #[48] ++ (Lib.itoa n).toArray := by simp
    rw [e]; simp; omega
  · simp; omega
theorem joinB_len (zs : List Int) (hz : ∀ j, j < zs.length → 0 ≤ zs.getD j 0 ∧ zs.getD j 0 ≤ 9999) (h3 : zs.length ≤ 3) :
    (Lib.join ((zs.map wordB).map (·.data.toList)) [45]).length ≤ 140737488355328 := by
  match zs, hz, h3 with
  | [], _, _ => simp [Lib.join]
  | [a], hz, _ =>
    have a1 := hz 0 (by simp)
    have := wordB_size a a1.1 a1.2
    simp only [List.map_cons, List.map_nil, Lib.join_length, Lib.lens]
    simp; omega
  | [a, b], hz, _ =>
    have a1 := hz 0 (by simp)
    have b1 := hz 1 (by simp)
    have := wordB_size a a1.1 a1.2
    have := wordB_size b b1.1 b1.2
    simp only [List.map_cons, List.map_nil, Lib.join_length, Lib.lens]
    simp; omega
  | [a, b, c], hz, _ =>
    have a1 := hz 0 (by simp)
    have b1 := hz 1 (by simp)
    have c1 := hz 2 (by simp)
    have := wordB_size a a1.1 a1.2
    have := wordB_size b b1.1 b1.2
    have := wordB_size c c1.1 c1.2
    simp only [List.map_cons, List.map_nil, Lib.join_length, Lib.lens]
    simp; omega
  | _ :: _ :: _ :: _ :: _, _, h => simp at h
theorem join_at (zs : List Int) (B g cap : Nat) (w : World) (hz : ∀ j, j < zs.length → 0 ≤ zs.getD j 0 ∧ zs.getD j 0 ≤ 9999) (h3 : zs.length ≤ 3)
    (hown : w.ownsRow B 9 1 (.slice (some ⟨g, 0, none⟩) zs.length cap) zs.length (wordsV zs zs.length)) :
    Calls Tryd.prog 63 #[.slice (some ⟨g, 0, none⟩) zs.length cap, .string ⟨#[45]⟩] w fun e w' => e = .returned (.string (joinB zs)) ∧ Below w.heap.size w w' := by
  have hlt := (hown.lt g rfl).2
  have hcap : zs.length ≤ cap := by
    rcases hown.2 with ⟨h0, _⟩ | ⟨g', cap', cur, hv, _, _, h1, _⟩
    · cases h0
    · simp only [Value.slice.injEq] at hv
      obtain ⟨_, _, e⟩ := hv
      omega
  have h := Tryd.strings_Join g 0 cap (zs.map wordB) ⟨#[45]⟩ w (fun j x hx => by
    have hj : j < zs.length := by
      have := (List.getElem?_eq_some_iff.1 hx).1
      simpa using this
    have e := hown.cellAt j (by omega)
    rw [Nat.zero_add, e]
    unfold wordsV
    rw [List.take_of_length_le (Nat.le_refl _), List.getElem?_map, hx]; rfl) hlt (by simp; omega) (by simpa using hcap) (joinB_len zs hz h3)
  rw [List.length_map] at h
  exact h
set_option maxRecDepth 100000 in
set_option maxHeartbeats 1000000 in
theorem joined_any (b off cap : Nat) (zs : List Int) (w : World) (hb : b < w.heap.size) (hc : ∀ j, j < zs.length → w.cell? ⟨b, off + j, none⟩ = some (.int .i64 (zs.getD j 0)))
    (hz : ∀ j, j < zs.length → 0 ≤ zs.getD j 0 ∧ zs.getD j 0 ≤ 9999) (h1 : 1 ≤ zs.length) (h3 : zs.length ≤ 3) (hT : Tab w) :
    Calls Tryd.prog 55 #[.slice (some ⟨b, off, none⟩) zs.length cap] w fun e w' => e = .returned (.string (joinB zs)) ∧ Below w.heap.size w w' := by
  have HC := Lib.hid hc
  have HZ := Lib.hid hz
  have HT := Lib.hid hT
  clear hc hz hT
  obtain ⟨i0, hi, hz0, hz1, hz2⟩ := info_parts info9p
  go_enter Tryd.func55, Tryd.ntmps55
  go_wp2_with fail
  go_loopw [3, 9] (fun v i wr => ∃ k : Nat, k ≤ zs.length ∧ i = .int .i64 k ∧ wr.ownsRow w.heap.size 9 1 v k (wordsV zs k) ∧ Below w.heap.size w wr) (fun _ i _ => zs.length - (intOf i).toNat)
  case atStart => exact ⟨0, Nat.zero_le _, rfl, World.ownsRow_nil _ _ _ _, Below.refl _ _⟩
  case round =>
    obtain ⟨k, hk, rfl, hown, hbl⟩ := hrel
    by_cases hlt : k < zs.length
    · have hcell : wr.cell? ⟨b, off + k, none⟩ = some (.int .i64 (zs.getD k 0)) := (hbl.cell (p := ⟨b, off + k, none⟩) hb).trans (HC.out k hlt)
      have hzk := HZ.out k hlt
      obtain ⟨z, ez⟩ : ∃ z, z = zs.getD k 0 := ⟨_, rfl⟩
      have HEz := Lib.hid ez
      rw [← ez] at hcell hzk
      clear ez
      obtain ⟨s, es⟩ : ∃ s : ByteArray, s = ⟨(Lib.itoa z).toArray⟩ := ⟨_, rfl⟩
      have hss : s.size ≤ 21 := by rw [es]; exact itoa_size z hzk.1 hzk.2
      have HS := Lib.hid es
      clear es
      have HW : Hid (wordsV zs (k + 1) = wordsV zs k ++ [.string (wordB z)]) := Lib.hid (by rw [wordsV_succ zs k hlt, HEz.out])
      by_cases h10 : z < 10
      · have HB : Hid (wordB z = ⟨#[48]⟩ ++ s) := Lib.hid (by unfold wordB; rw [if_pos h10, HS.out])
        go_wp2_with (first
          | (go_at_call 62; refine (itoa_at z s HS hzk.1 hzk.2 _ (HT.out.below hbl)).mono ?_; rintro e w1 ⟨rfl, hb1⟩; have hown1 := ownsRow_below hown hb1)
          | (at_builtin; refine wpList_append_own _ rfl _ _ 52 rfl w.heap.size 9 i0 (.string ⟨#[]⟩) 1 16 Tryd.underlying52 hi hz0 hz1 hz2 rfl (by decide) _ _ _ rfl (hown1.alloc _) ⟨w1.heap.size, 0, none⟩ 1 1 [.string (⟨#[48]⟩ ++ s)] rfl rfl ?c1 ?c2 ?c3 ?c4 ?c5 ?_)
          | fail)
        case c1 =>
          intro j u hj
          match j, hj with
          | 0, hj => simp at hj; subst hj; simp [Addr.add]
        case c2 => intro u hu; simp at hu; subst hu; rfl
        case c3 => unfold maxLen; omega
        case c4 => omega
        case c5 => have := hbl.size; have := hb1.size; simp; omega
        · intro v' w2 hown2 hgrow _
          have hbl2 : Below w.heap.size w w2 := ((hbl.trans (hb1.mono hbl.size)).alloc (Nat.le_trans hbl.size hb1.size) _).grown hgrow (by have := hbl.size; have := hb1.size; simp; omega) (fun j hj => (hown1.lt j hj).1)
          have hown3 : w2.ownsRow w.heap.size 9 1 v' (k + 1) (wordsV zs (k + 1)) := by rw [HW.out, HB.out]; exact hown2
          clear hown2
          go_wp2
          go_roundw
          case rel => exact ⟨k + 1, by omega, by go_num, hown3, hbl2⟩
          case measure => simp [intOf]; omega
      · have HB : Hid (wordB z = s) := Lib.hid (by unfold wordB; rw [if_neg h10, HS.out])
        go_wp2_with (first
          | (go_at_call 62; refine (itoa_at z s HS hzk.1 hzk.2 _ (HT.out.below hbl)).mono ?_; rintro e w1 ⟨rfl, hb1⟩; have hown1 := ownsRow_below hown hb1)
          | (at_builtin; refine wpList_append_own _ rfl _ _ 52 rfl w.heap.size 9 i0 (.string ⟨#[]⟩) 1 16 Tryd.underlying52 hi hz0 hz1 hz2 rfl (by decide) _ _ _ rfl (hown1.alloc _) ⟨w1.heap.size, 0, none⟩ 1 1 [.string s] rfl rfl ?c1 ?c2 ?c3 ?c4 ?c5 ?_)
          | fail)
        case c1 =>
          intro j u hj
          match j, hj with
          | 0, hj => simp at hj; subst hj; simp [Addr.add]
        case c2 => intro u hu; simp at hu; subst hu; rfl
        case c3 => unfold maxLen; omega
        case c4 => omega
        case c5 => have := hbl.size; have := hb1.size; simp; omega
        · intro v' w2 hown2 hgrow _
          have hbl2 : Below w.heap.size w w2 := ((hbl.trans (hb1.mono hbl.size)).alloc (Nat.le_trans hbl.size hb1.size) _).grown hgrow (by have := hbl.size; have := hb1.size; simp; omega) (fun j hj => (hown1.lt j hj).1)
          have hown3 : w2.ownsRow w.heap.size 9 1 v' (k + 1) (wordsV zs (k + 1)) := by rw [HW.out, HB.out]; exact hown2
          clear hown2
          go_wp2
          go_roundw
          case rel => exact ⟨k + 1, by omega, by go_num, hown3, hbl2⟩
          case measure => simp [intOf]; omega
    · obtain rfl : k = zs.length := by omega
      obtain ⟨g, cp, rfl, _, _⟩ := World.ownsRow.form hown (by omega)
      go_wp2_with (first
          | (go_at_call 63; refine (join_at zs w.heap.size g cp _ HZ.out h3 hown).mono ?_; rintro e w1 ⟨rfl, hb1⟩; have hbl2 := hbl.trans (hb1.mono hbl.size))
          | fail)
      go_ret
      exact ⟨rfl, hbl2⟩
theorem joined2 (x y : Int) (w : World) (t : TypeId) (hx : 0 ≤ x ∧ x ≤ 9999) (hy : 0 ≤ y ∧ y ≤ 9999) (hT : Tab w) :
    Calls Tryd.prog 55 #[.slice (some ⟨w.heap.size, 0, none⟩) 2 2] (w.alloc (.cells #[.int .i64 x, .int .i64 y] t)) fun e w' => e = .returned (.string (joinB [x, y])) ∧ Below w.heap.size w w' := by
  refine (joined_any w.heap.size 0 2 [x, y] _ (by simp) (fun j hj => ?_) (fun j hj => ?_) (by simp) (by simp) (hT.alloc _)).mono fun e w' ⟨he, hb⟩ => ⟨he, ((Below.refl _ _).alloc (Nat.le_refl _) _).trans (hb.mono (by simp))⟩
  · match j, hj with
    | 0, _ => simp
    | 1, _ => simp
  · match j, hj with
    | 0, _ => exact hx
    | 1, _ => exact hy
theorem joined3 (x y z : Int) (w : World) (t : TypeId) (hx : 0 ≤ x ∧ x ≤ 9999) (hy : 0 ≤ y ∧ y ≤ 9999) (hz : 0 ≤ z ∧ z ≤ 9999) (hT : Tab w) :
    Calls Tryd.prog 55 #[.slice (some ⟨w.heap.size, 0, none⟩) 3 3] (w.alloc (.cells #[.int .i64 x, .int .i64 y, .int .i64 z] t)) fun e w' => e = .returned (.string (joinB [x, y, z])) ∧ Below w.heap.size w w' := by
  refine (joined_any w.heap.size 0 3 [x, y, z] _ (by simp) (fun j hj => ?_) (fun j hj => ?_) (by simp) (by simp) (hT.alloc _)).mono fun e w' ⟨he, hb⟩ => ⟨he, ((Below.refl _ _).alloc (Nat.le_refl _) _).trans (hb.mono (by simp))⟩
  · match j, hj with
    | 0, _ => simp
    | 1, _ => simp
    | 2, _ => simp
  · match j, hj with
    | 0, _ => exact hx
    | 1, _ => exact hy
    | 2, _ => exact hz
end Go.Proofs.YtpknkomkldgnfaaDoor
