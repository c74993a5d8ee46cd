/- What the reference reads the small plan's lines with: words, value, code, readRule, readChain. -/
import Derived.Test.YtenjefbplpbjaaaGreatDoorZd
import Derived.Test.YtenjefbplpbjaaaGreatDoorZg
import Derived.Test.YtenjefbplpbjaaaGreatDoorQ8
namespace Go.Proofs.YtenjefbplpbjaaaGreatDoor
open Go.RowKit Go.Sort Cal Go.Maps
/-- The words so far, and where the next one begins. -/
def wst (s : ByteArray) : Nat → List ByteArray × Nat
  | 0 => ([], 0)
  | i + 1 => if i = s.size ∨ s.data.toList.getD i 0 = 32 then ((wst s i).1 ++ [s.extract (wst s i).2 i], i + 1) else wst s i
def wordsL (s : ByteArray) : List ByteArray := (wst s (s.size + 1)).1
theorem wst_le (s : ByteArray) : ∀ i, (wst s i).2 ≤ i ∧ (wst s i).1.length ≤ i
  | 0 => ⟨Nat.le_refl _, Nat.le_refl _⟩
  | i + 1 => by
    have h := wst_le s i
    unfold wst
    split
    · simp; omega
    · omega
theorem byte_at (s : ByteArray) (k : Nat) (h : k < s.size) : s.data.toList.getD k 0 = s[k] := by
  rw [List.getD_eq_getElem?_getD, List.getElem?_eq_getElem (show k < s.data.toList.length from h)]; rfl
theorem u8_32 (x : UInt8) : x = 32 ↔ (x.toNat : Int) = 32 := by
  constructor
  · intro h; rw [h]; rfl
  · intro h; apply UInt8.toNat_inj.1; show x.toNat = 32; omega
def WordsPost (s : ByteArray) (w : World) (e : Ending) (w' : World) : Prop :=
  ∃ (v : Value) (m : Nat), e = .returned v ∧ (wordsL s).length = m ∧ w'.ownsRow w.heap.size 9 1 v m ((wordsL s).map Value.string) ∧ Below w.heap.size w w'
set_option maxRecDepth 100000 in
set_option maxHeartbeats 3200000 in
theorem rwords (s : ByteArray) (w : World) (hs : s.size ≤ 1000) : Calls Tryz.prog 14 #[.string s] w (WordsPost s w) := by
  obtain ⟨i0, hi0, hz0, hz1, hz2⟩ := info_parts info9p
  go_enter Tryz.func14, Tryz.ntmps14
  go_wp2_with fail
  go_loopw [3, 4, 9] (fun o f i wr => ∃ (k m q : Nat) (L : List ByteArray), k ≤ s.size + 1 ∧ i = .int .i64 k ∧ f = .int .i64 q ∧ wst s k = (L, q) ∧ L.length = m ∧ wr.ownsRow w.heap.size 9 1 o m (L.map Value.string) ∧ Below w.heap.size w wr) (fun _ _ i _ => s.size + 1 - (intOf i).toNat)
  case atStart => exact ⟨0, 0, 0, [], by omega, rfl, rfl, rfl, rfl, World.ownsRow_nil _ _ _ _, Below.refl _ _⟩
  case round =>
    obtain ⟨k, m, q, L, hk, rfl, rfl, hst, hm, hown, hB⟩ := hrel
    have hle := wst_le s k
    rw [hst] at hle
    have hq : q ≤ k := hle.1
    have hml : m ≤ k := by have := hle.2; simp only at this; omega
    obtain ⟨p, cap, rfl⟩ := own_form hown
    have HB := Lib.hid hB
    have HO := Lib.hid hown
    have HST := Lib.hid hst
    have HM := Lib.hid hm
    have hs0 := hB.size
    clear hst hm hle hB hown
    by_cases hlt : k < s.size + 1
    · by_cases hend : k = s.size
      · subst hend
        have HN : Hid (wst s (s.size + 1) = (L ++ [s.extract q s.size], s.size + 1)) := Lib.hid (by rw [wst, if_pos (Or.inl rfl), HST.out])
        have hown := HO.out
        go_wp2_with (first
          | (at_builtin; refine wpList_append_own _ rfl _ _ 54 rfl w.heap.size 9 i0 (.string ⟨#[]⟩) 1 16 Tryz.underlying54 hi0 hz0 hz1 hz2 rfl (by decide) _ _ _ rfl (hown.alloc _) ⟨wr.heap.size, 0, none⟩ 1 1 [.string (s.extract q s.size)] rfl rfl (cell_one_new _ _ _) (by simp [Value.oneCell']) (by unfold maxLen; omega) (by omega) (by first | (simp; omega) | simp) ?_)
          | fail)
        intro v' w3 hown3 hgrow _
        have HO3 : Hid (w3.ownsRow w.heap.size 9 1 v' (m + 1) ((L ++ [s.extract q s.size]).map Value.string)) := Lib.hid (by rw [List.map_append]; exact hown3)
        have HB3 : Hid (Below w.heap.size w w3) := Lib.hid ((HB.out.alloc hs0 _).grown hgrow (by first | (simp; omega) | simp) (fun j hj => (hown.lt j hj).1))
        clear hown hown3 hgrow
        go_wp2_with fail
        go_roundw
        case rel => exact ⟨s.size + 1, m + 1, s.size + 1, _, by omega, by go_num, by go_num, HN.out, by rw [List.length_append, HM.out]; rfl, HO3.out, HB3.out⟩
        case measure => simp [intOf]
      · have hlt2 : k < s.size := by omega
        have hne : ((k : Int) == (s.size : Int)) = false := by simp; omega
        have hba := byte_at s k hlt2
        have hqk : (q : Int) ≤ (k : Int) := by omega
        have hks : (k : Int) ≤ (s.size : Int) := by omega
        by_cases hsp : s[k] = 32
        · have hsp2 : (((s[k]'hlt2).toNat : Int) == 32) = true := by rw [hsp]; rfl
          have HN : Hid (wst s (k + 1) = (L ++ [s.extract q k], k + 1)) := Lib.hid (by rw [wst, if_pos (Or.inr (by rw [hba]; exact hsp)), HST.out])
          have hown := HO.out
          clear hba hsp hend
          go_wp2_with (first
            | (at_builtin; refine wpList_append_own _ rfl _ _ 54 rfl w.heap.size 9 i0 (.string ⟨#[]⟩) 1 16 Tryz.underlying54 hi0 hz0 hz1 hz2 rfl (by decide) _ _ _ rfl (hown.alloc _) ⟨wr.heap.size, 0, none⟩ 1 1 [.string (s.extract q k)] rfl rfl (cell_one_new _ _ _) (by simp [Value.oneCell']) (by unfold maxLen; omega) (by omega) (by first | (simp; omega) | simp) ?_)
            | fail)
          intro v' w3 hown3 hgrow _
          have HO3 : Hid (w3.ownsRow w.heap.size 9 1 v' (m + 1) ((L ++ [s.extract q k]).map Value.string)) := Lib.hid (by rw [List.map_append]; exact hown3)
          have HB3 : Hid (Below w.heap.size w w3) := Lib.hid ((HB.out.alloc hs0 _).grown hgrow (by first | (simp; omega) | simp) (fun j hj => (hown.lt j hj).1))
          clear hown hown3 hgrow
          go_wp2_with fail
          go_roundw
          case rel => exact ⟨k + 1, m + 1, k + 1, _, by omega, by go_num, by go_num, HN.out, by rw [List.length_append, HM.out]; rfl, HO3.out, HB3.out⟩
          case measure => simp [intOf]; omega
        · have hsp2 : (((s[k]'hlt2).toNat : Int) == 32) = false := by
            have h := fun e => hsp ((u8_32 _).2 e)
            simpa using h
          have HN : Hid (wst s (k + 1) = (L, q)) := Lib.hid (by rw [wst, if_neg (by rw [hba]; intro h; rcases h with h | h; exact hend h; exact hsp h), HST.out])
          clear hba hsp hend
          go_wp2_with fail
          go_roundw
          case rel => exact ⟨k + 1, m, q, _, by omega, by go_num, rfl, HN.out, HM.out, HO.out, HB.out⟩
          case measure => simp [intOf]; omega
    · have HP : Hid (WordsPost s w (.returned (.slice p m cap)) wr) := Lib.hid (by
        have e : k = s.size + 1 := by omega
        have e2 : wordsL s = L := by unfold wordsL; rw [← e, HST.out]
        exact ⟨_, m, rfl, by rw [e2]; exact HM.out, by rw [e2]; exact HO.out, HB.out⟩)
      go_wp2_with fail
      go_ret
      exact HP.out
theorem rcode_all (w : World) : Calls Tryz.prog 36 #[.string ⟨#[97, 108, 108]⟩] w fun e w' => e = .returned (.string ⟨#[]⟩) ∧ w = w' := by
  have hb : ((⟨#[97, 108, 108]⟩ : ByteArray).toList == (⟨#[97, 108, 108]⟩ : ByteArray).toList) = true := by simp
  go_enter Tryz.func36, Tryz.ntmps36
  go_wp2
  go_ret
  exact ⟨rfl, rfl⟩
set_option maxHeartbeats 800000 in
theorem rvalue_c (b : UInt8) (w : World) (h1 : 48 ≤ (b.toNat : Int)) (h2 : (b.toNat : Int) ≤ 57) :
    Calls Tryz.prog 15 #[.string ⟨#[b]⟩] w fun e w' => e = .returned (.int .i64 ((b.toNat : Int) - 48)) ∧ w = w' := by
  obtain ⟨s, hs⟩ : ∃ s : ByteArray, s = ⟨#[b]⟩ := ⟨_, rfl⟩
  have hsz : s.size = 1 := by rw [hs]; rfl
  have hs0 : (s[0]'(by omega)) = b := by subst hs; rfl
  rw [← hs]
  have hb0 : (((s[0]'(by omega)).toNat : Nat) : Int) = (b.toNat : Int) := by rw [hs0]
  clear hs hs0
  have HSZ := Lib.hid hsz
  go_enter Tryz.func15, Tryz.ntmps15
  go_wp2_with fail
  go_loop [3, 7] (fun n i => (i = .int .i64 0 ∧ n = .int .i64 0) ∨ (i = .int .i64 1 ∧ n = .int .i64 ((b.toNat : Int) - 48))) (fun _ i => 1 - (intOf i).toNat)
  case atStart => exact Or.inl ⟨rfl, rfl⟩
  case round =>
    rcases hrel with ⟨rfl, rfl⟩ | ⟨rfl, rfl⟩
    · go_wp2
      go_round
      case rel => exact Or.inr ⟨by first | rfl | go_num, rfl⟩
      case measure => simp [intOf]
    · go_wp2
      go_ret
      exact ⟨rfl, rfl⟩
end Go.Proofs.YtenjefbplpbjaaaGreatDoor
namespace Go.Proofs.YtenjefbplpbjaaaGreatDoor
open Go.RowKit Go.Sort Cal Go.Maps
/-- The blocks of the result and of the rule that is read. -/
structure RIn (B : Nat) (m : Int) (w0 w : World) : Prop where
  z : w.heap[B]? = some (.cells #[.string ⟨#[]⟩, .int .i64 0, .int .i64 0, .int .i64 0] 50 (0, 0))
  k : w.heap[B + 1]? = some (.cells #[.string ⟨#[]⟩, .int .i64 m, .int .i64 0, .int .i64 0] 50 (0, 0))
  bl : Below B w0 w
theorem RIn.lt {B : Nat} {m : Int} {w0 w : World} (h : RIn B m w0 w) : B + 1 < w.heap.size := (Array.getElem?_eq_some_iff.1 h.k).1
theorem RIn.below {B : Nat} {m : Int} {w0 w w' : World} (h : RIn B m w0 w) (hb : Below w.heap.size w w') : RIn B m w0 w' :=
  ⟨(hb.block B (by have := h.lt; omega)).trans h.z, (hb.block (B + 1) h.lt).trans h.k, h.bl.trans (hb.mono (by have := h.lt; omega))⟩
theorem RIn.set0 {B : Nat} {m : Int} {w0 w : World} (h : RIn B m w0 w) : RIn B m w0 (w.setCell ⟨B + 1, 0, none⟩ (.string ⟨#[]⟩)) :=
  ⟨set_other h.z (by omega) 0 _, by have := set_blk h.k 0 (.string ⟨#[]⟩); simpa using this, h.bl.setCell (p := ⟨B + 1, 0, none⟩) (by show B ≤ B + 1; omega) _⟩
theorem RIn.set1 {B : Nat} {m : Int} {w0 w : World} (h : RIn B m w0 w) (z : Int) : RIn B z w0 (w.setCell ⟨B + 1, 1, none⟩ (.int .i64 z)) :=
  ⟨set_other h.z (by omega) 1 _, by have := set_blk h.k 1 (.int .i64 z); simpa using this, h.bl.setCell (p := ⟨B + 1, 1, none⟩) (by show B ≤ B + 1; omega) _⟩
theorem RIn.new (w : World) : RIn w.heap.size 0 w ((w.alloc (.cells #[.string ⟨#[]⟩, .int .i64 0, .int .i64 0, .int .i64 0] 50)).alloc (.cells #[.string ⟨#[]⟩, .int .i64 0, .int .i64 0, .int .i64 0] 50)) := by
  refine ⟨?_, ?_, chainAlloc (chainAlloc (Below.refl _ _) _) _⟩
  · show (Array.push (Array.push w.heap _) _)[_]? = _
    rw [Array.getElem?_push, if_neg (by simp), Array.getElem?_push, if_pos rfl]
  · show (Array.push (Array.push w.heap _) _)[_]? = _
    rw [Array.getElem?_push, if_pos (by simp)]
theorem RIn.fin {B : Nat} {w0 w : World} (h : RIn B 1 w0 w) :
    ∀ wf, wf = (((w.setCell ⟨B, 0, none⟩ (.string ⟨#[]⟩)).setCell ⟨B, 1, none⟩ (.int .i64 1)).setCell ⟨B, 2, none⟩ (.int .i64 0)).setCell ⟨B, 3, none⟩ (.int .i64 0) →
      wf.heap[B]? = some (.cells #[.string ⟨#[]⟩, .int .i64 1, .int .i64 0, .int .i64 0] 50 (0, 0)) ∧ Below B w0 wf := by
  intro wf hwf
  have hk := set_blk (set_blk (set_blk (set_blk h.z 0 (.string ⟨#[]⟩)) 1 (.int .i64 1)) 2 (.int .i64 0)) 3 (.int .i64 0)
  have hb := (((h.bl.setCell (p := ⟨B, 0, none⟩) (Nat.le_refl B) (.string ⟨#[]⟩)).setCell (p := ⟨B, 1, none⟩) (Nat.le_refl B) (.int .i64 1)).setCell (p := ⟨B, 2, none⟩) (Nat.le_refl B) (.int .i64 0)).setCell (p := ⟨B, 3, none⟩) (Nat.le_refl B) (.int .i64 0)
  rw [← hwf] at hk hb
  exact ⟨by simpa using hk, hb⟩
theorem meth_other (k : Nat) (h2 : 2 ≤ k) (h10 : k < 10) : ∃ s, rmethL[k]? = some s ∧ (s.toList == (⟨#[106, 101, 118, 111, 110, 115]⟩ : ByteArray).toList) = false ∧ (s.toList == [106, 101, 118, 111, 110, 115]) = false := by
  obtain rfl | rfl | rfl | rfl | rfl | rfl | rfl | rfl : k = 2 ∨ k = 3 ∨ k = 4 ∨ k = 5 ∨ k = 6 ∨ k = 7 ∨ k = 8 ∨ k = 9 := by omega
  all_goals exact ⟨_, rfl, by rw [ByteArray.toList_eq, ByteArray.toList_eq]; decide, by rw [ByteArray.toList_eq]; decide⟩
set_option maxRecDepth 100000 in
set_option maxHeartbeats 6400000 in
theorem rreadRule (sk c : Nat) (w : World) (hsk : sk < w.heap.size) (h1 : w.cell? ⟨sk, 1, none⟩ = some (.string ⟨#[97, 108, 108]⟩)) (h2 : w.cell? ⟨sk, 2, none⟩ = some (.string ⟨#[106, 101, 118, 111, 110, 115]⟩)) :
    Calls Tryz.prog 16 #[.slice (some ⟨sk, 0, none⟩) 3 c] w fun e w' => e = .returned (.agg #[.string ⟨#[]⟩, .int .i64 1, .int .i64 0, .int .i64 0]) ∧ Below w.heap.size w w' := by
  have HR0 := Lib.hid (RIn.new w)
  have H1 := Lib.hid h1
  have H2 := Lib.hid h2
  clear h2
  go_enter Tryz.func16, Tryz.ntmps16
  go_wp2_with fail
  refine (rcode_all _).mono ?_
  rintro e w1 ⟨rfl, rfl⟩
  go_wp2_with fail
  obtain ⟨W0, hW0⟩ : ∃ W, W = (w.alloc (.cells #[.string ⟨#[]⟩, .int .i64 0, .int .i64 0, .int .i64 0] 50)).alloc (.cells #[.string ⟨#[]⟩, .int .i64 0, .int .i64 0, .int .i64 0] 50) := ⟨_, rfl⟩
  rw [← hW0] at HR0 ⊢
  clear hW0 h1
  go_loopw [4] (fun n wr => ∃ k : Nat, 1 ≤ k ∧ k ≤ 10 ∧ n = .int .i64 k ∧ RIn w.heap.size (if k = 1 then 0 else 1) w wr) (fun n _ => 10 - (intOf n).toNat)
  case atStart => exact ⟨1, by omega, by omega, rfl, HR0.out⟩
  case round =>
    clear HR0
    obtain ⟨k, hk1, hk10, rfl, hR⟩ := hrel
    have HR := Lib.hid hR
    have hsr : sk < wr.heap.size := Nat.lt_of_lt_of_le hsk hR.bl.size
    have HW2 : Hid (∀ W', Below wr.heap.size wr W' → W'.cell? ⟨sk, 2, none⟩ = some (.string ⟨#[106, 101, 118, 111, 110, 115]⟩)) := Lib.hid (fun W' hb => (hb.cell (p := ⟨sk, 2, none⟩) hsr).trans ((HR.out.bl.cell (p := ⟨sk, 2, none⟩) hsk).trans H2.out))
    clear hR
    by_cases hlt : k < 10
    · by_cases hk : k = 1
      · subst hk
        have kq := fun d os => HW2.out _ (below_regrown wr d os)
        have heq : ((⟨#[106, 101, 118, 111, 110, 115]⟩ : ByteArray).toList == (⟨#[106, 101, 118, 111, 110, 115]⟩ : ByteArray).toList) = true := by simp
        go_wp2_with fail
        refine wp_region_quiet_below (by kernel_rfl) (by kernel_rfl) ?_
        repeat (go_big_quiet_step (first
          | (go_at_call 37; exact Calls.regrown_of (rmeth_1 _))))
        refine wpQuiet_nil ?_
        intro _ hw'
        obtain ⟨⟨dq, osq⟩, hw''⟩ := hw'
        subst hw''
        clear kq
        have HG := Lib.hid (HR.out.below (below_regrown wr dq osq))
        obtain ⟨W2, hW2⟩ : ∃ x, x = grow (redrawn wr dq) osq := ⟨_, rfl⟩
        rw [← hW2] at HG ⊢
        have m1 : W2.cell? ⟨w.heap.size + 1, 1, none⟩ = some (.int .i64 0) := cell_blk HG.out.k 1 _ rfl
        have y1 := free_blk HG.out.k 1
        have z1 := HG.out.lt
        have HN := Lib.hid (HG.out.set1 1)
        clear hW2
        go_wp2_with fail
        go_roundw
        case rel => exact ⟨2, by omega, by omega, by first | rfl | go_num, HN.out⟩
        case measure => simp [intOf]
      · obtain ⟨s, hs, he1, he2⟩ := meth_other k (by omega) hlt
        have kq := fun d os => HW2.out _ (below_regrown wr d os)
        have HS := Lib.hid hs
        clear hs
        go_wp2_with fail
        refine wp_region_quiet_below (by kernel_rfl) (by kernel_rfl) ?_
        repeat (go_big_quiet_step (first
          | (go_at_call 37; exact Calls.regrown_of (rmethod_n k s _ hlt HS.out))))
        refine wpQuiet_nil ?_
        intro _ hw'
        obtain ⟨⟨dq, osq⟩, hw''⟩ := hw'
        subst hw''
        clear kq
        have HG := Lib.hid (HR.out.below (below_regrown wr dq osq))
        rw [if_neg hk] at HG
        obtain ⟨W2, hW2⟩ : ∃ x, x = grow (redrawn wr dq) osq := ⟨_, rfl⟩
        rw [← hW2] at HG ⊢
        clear hW2
        go_wp2_with fail
        go_roundw
        case rel => exact ⟨k + 1, by omega, by omega, by go_num, by rw [if_neg (by omega)]; exact HG.out⟩
        case measure => simp [intOf]; omega
    · obtain rfl : k = 10 := by omega
      have HX : Hid (RIn w.heap.size 1 w wr) := Lib.hid HR.out
      have z0 : wr.cell? ⟨w.heap.size, 0, none⟩ = some (.string ⟨#[]⟩) := cell_blk HX.out.z 0 _ rfl
      have z1 : wr.cell? ⟨w.heap.size, 1, none⟩ = some (.int .i64 0) := cell_blk HX.out.z 1 _ rfl
      have z2 : wr.cell? ⟨w.heap.size, 2, none⟩ = some (.int .i64 0) := cell_blk HX.out.z 2 _ rfl
      have z3 : wr.cell? ⟨w.heap.size, 3, none⟩ = some (.int .i64 0) := cell_blk HX.out.z 3 _ rfl
      have k0 : wr.cell? ⟨w.heap.size + 1, 0, none⟩ = some (.string ⟨#[]⟩) := cell_blk HX.out.k 0 _ rfl
      have k1 : wr.cell? ⟨w.heap.size + 1, 1, none⟩ = some (.int .i64 1) := cell_blk HX.out.k 1 _ rfl
      have k2 : wr.cell? ⟨w.heap.size + 1, 2, none⟩ = some (.int .i64 0) := cell_blk HX.out.k 2 _ rfl
      have k3 : wr.cell? ⟨w.heap.size + 1, 3, none⟩ = some (.int .i64 0) := cell_blk HX.out.k 3 _ rfl
      have y0 : wr.frozen? ⟨w.heap.size, 0, none⟩ = false := free_blk HX.out.z 0
      have y1 : wr.frozen? ⟨w.heap.size, 1, none⟩ = false := free_blk HX.out.z 1
      have y2 : wr.frozen? ⟨w.heap.size, 2, none⟩ = false := free_blk HX.out.z 2
      have y3 : wr.frozen? ⟨w.heap.size, 3, none⟩ = false := free_blk HX.out.z 3
      have hl := HX.out.lt
      have hl0 : w.heap.size < wr.heap.size := by omega
      go_wp2
      obtain ⟨wf, hwf⟩ : ∃ wf, wf = (((wr.setCell ⟨w.heap.size, 0, none⟩ (.string ⟨#[]⟩)).setCell ⟨w.heap.size, 1, none⟩ (.int .i64 1)).setCell ⟨w.heap.size, 2, none⟩ (.int .i64 0)).setCell ⟨w.heap.size, 3, none⟩ (.int .i64 0) := ⟨_, rfl⟩
      rw [← hwf]
      obtain ⟨hfin, hbf⟩ := HX.out.fin wf hwf
      have a0 := cell_blk hfin 0 (.string ⟨#[]⟩) rfl
      have a1 := cell_blk hfin 1 (.int .i64 1) rfl
      have a2 := cell_blk hfin 2 (.int .i64 0) rfl
      have a3 := cell_blk hfin 3 (.int .i64 0) rfl
      clear hwf hfin
      exact bodyPost_ret (v := .agg #[.string ⟨#[]⟩, .int .i64 1, .int .i64 0, .int .i64 0]) (by simp [results, Tryz.results16, go_sem, a0, a1, a2, a3]) rfl ⟨rfl, hbf⟩
end Go.Proofs.YtenjefbplpbjaaaGreatDoor
namespace Go.Proofs.YtenjefbplpbjaaaGreatDoor
open Go.RowKit Go.Sort Cal Go.Maps
def impL : List Value := [.string ⟨#[105, 109, 112, 117, 116, 101]⟩, .string ⟨#[97, 108, 108]⟩, .string ⟨#[99, 108, 97, 115, 115]⟩, .string ⟨#[50, 44]⟩, .string ⟨#[99, 97, 114, 114, 121]⟩, .string ⟨#[51, 44]⟩, .string ⟨#[100, 114, 111, 112]⟩]
/-- The blocks of the result and of the chain that is read; k steps are read. -/
structure CIn (B : Nat) (k : Nat) (v : Value) (w0 w : World) : Prop where
  z : w.heap[B]? = some (.cells #[.string ⟨#[]⟩, .slice none 0 0] 60 (0, 0))
  c : w.heap[B + 1]? = some (.cells #[.string ⟨#[]⟩, v] 60 (0, 0))
  own : w.ownsRow (B + 2) 82 2 v k (stepC.take (2 * k))
  bl : Below B w0 w
theorem CIn.lt {B k : Nat} {v : Value} {w0 w : World} (h : CIn B k v w0 w) : B + 1 < w.heap.size := (Array.getElem?_eq_some_iff.1 h.c).1
theorem CIn.below {B k : Nat} {v : Value} {w0 w w' : World} (h : CIn B k v w0 w) (hb : Below w.heap.size w w') : CIn B k v w0 w' :=
  ⟨(hb.block B (by have := h.lt; omega)).trans h.z, (hb.block (B + 1) h.lt).trans h.c, ownsRow_below h.own hb, h.bl.trans (hb.mono (by have := h.lt; omega))⟩
theorem CIn.new (w : World) : CIn w.heap.size 0 (.slice none 0 0) w ((w.alloc (.cells #[.string ⟨#[]⟩, .slice none 0 0] 60)).alloc (.cells #[.string ⟨#[]⟩, .slice none 0 0] 60)) := by
  refine ⟨?_, ?_, World.ownsRow_nil _ _ _ _, chainAlloc (chainAlloc (Below.refl _ _) _) _⟩
  · show (Array.push (Array.push w.heap _) _)[_]? = _
    rw [Array.getElem?_push, if_neg (by simp), Array.getElem?_push, if_pos rfl]
  · show (Array.push (Array.push w.heap _) _)[_]? = _
    rw [Array.getElem?_push, if_pos (by simp)]
theorem CIn.next {B k k' : Nat} {v v' : Value} {w0 w w3 : World} (h : CIn B k v w0 w) (hown : w3.ownsRow (B + 2) 82 2 v' k' (stepC.take (2 * k'))) (hg : w.grownBy w3 v.ownBlock) (hlo : ∀ j, v.ownBlock = some j → B + 2 ≤ j) :
    CIn B k' v' w0 (w3.setCell ⟨B + 1, 1, none⟩ v') := by
  have hl := h.lt
  have hz : w3.heap[B]? = some (.cells #[.string ⟨#[]⟩, .slice none 0 0] 60 (0, 0)) := (hg.block _ (by omega) (fun e => by have := hlo _ e.symm; omega)).trans h.z
  have hc : w3.heap[B + 1]? = some (.cells #[.string ⟨#[]⟩, v] 60 (0, 0)) := (hg.block _ hl (fun e => by have := hlo _ e.symm; omega)).trans h.c
  exact ⟨set_other hz (by omega) 1 v', by have := set_blk hc 1 v'; simpa using this, ownsRow_touch hown ((Touch.refl _ _).set 1 v') (by omega), ((h.bl.grown hg (by omega) (fun j hj => by have := hlo j hj; omega)).setCell (p := ⟨B + 1, 1, none⟩) (by show B ≤ B + 1; omega) _)⟩
theorem CIn.grown {B k : Nat} {v : Value} {w0 w w3 : World} (h : CIn B k v w0 w) (hg : w.grownBy w3 v.ownBlock) (hlo : ∀ j, v.ownBlock = some j → B + 2 ≤ j) :
    w3.cell? ⟨B + 1, 1, none⟩ = some v ∧ w3.frozen? ⟨B + 1, 1, none⟩ = false ∧ B + 1 < w3.heap.size := by
  have hl := h.lt
  have hc : w3.heap[B + 1]? = some (.cells #[.string ⟨#[]⟩, v] 60 (0, 0)) := (hg.block _ hl (fun e => by have := hlo _ e.symm; omega)).trans h.c
  exact ⟨cell_blk hc 1 _ rfl, free_blk hc 1, (Array.getElem?_eq_some_iff.1 hc).1⟩
theorem CIn.fin {B : Nat} {v : Value} {w0 w : World} (h : CIn B 3 v w0 w) :
    ∀ wf, wf = ((w.setCell ⟨B, 0, none⟩ (.string ⟨#[]⟩)).setCell ⟨B, 1, none⟩ v) →
      wf.heap[B]? = some (.cells #[.string ⟨#[]⟩, v] 60 (0, 0)) ∧ Below B w0 wf ∧ wf.ownsRow B 82 2 v 3 stepC := by
  intro wf hwf
  have hk := set_blk (set_blk h.z 0 (.string ⟨#[]⟩)) 1 v
  have hb := (h.bl.setCell (p := ⟨B, 0, none⟩) (Nat.le_refl B) (.string ⟨#[]⟩)).setCell (p := ⟨B, 1, none⟩) (Nat.le_refl B) v
  have ho := ownsRow_touch h.own (((Touch.refl B w).set 0 (.string ⟨#[]⟩)).set 1 v) (by omega)
  rw [← hwf] at hk hb ho
  exact ⟨by simpa using hk, hb, own_base' ho (by omega)⟩
def ChainPost (w : World) (e : Ending) (w' : World) : Prop :=
  ∃ g c, e = .returned (.agg #[.string ⟨#[]⟩, .slice (some ⟨g, 0, none⟩) 3 c]) ∧ w'.ownsRow w.heap.size 82 2 (.slice (some ⟨g, 0, none⟩) 3 c) 3 stepC ∧ Below w.heap.size w w'
theorem ext_2c : (⟨#[50, 44]⟩ : ByteArray).extract 0 1 = ⟨#[50]⟩ := by decide
theorem ext_3c : (⟨#[51, 44]⟩ : ByteArray).extract 0 1 = ⟨#[51]⟩ := by decide
theorem rvalue_2 (w : World) : Calls Tryz.prog 15 #[.string ⟨#[50]⟩] w fun e w' => e = .returned (.int .i64 2) ∧ w = w' := rvalue_c 50 w (by decide) (by decide)
theorem rvalue_3 (w : World) : Calls Tryz.prog 15 #[.string ⟨#[51]⟩] w fun e w' => e = .returned (.int .i64 3) ∧ w = w' := rvalue_c 51 w (by decide) (by decide)
theorem rvalue_1 (w : World) : Calls Tryz.prog 15 #[.string ⟨#[49]⟩] w fun e w' => e = .returned (.int .i64 1) ∧ w = w' := rvalue_c 49 w (by decide) (by decide)
set_option maxRecDepth 100000 in
set_option maxHeartbeats 6400000 in
theorem rreadChain (sk c : Nat) (w : World) (hsk : sk < w.heap.size) (hw : ∀ j u, impL[j]? = some u → w.cell? ⟨sk, j, none⟩ = some u) :
    Calls Tryz.prog 17 #[.slice (some ⟨sk, 0, none⟩) 7 c] w (ChainPost w) := by
  obtain ⟨i0, hi0, hz0, hz1, hz2⟩ := info_parts info_step
  have HC0 := Lib.hid (CIn.new w)
  have HW := Lib.hid hw
  have h1 : w.cell? ⟨sk, 1, none⟩ = some (.string ⟨#[97, 108, 108]⟩) := hw 1 _ rfl
  clear hw
  go_enter Tryz.func17, Tryz.ntmps17
  go_wp2_with fail
  refine (rcode_all _).mono ?_
  rintro e w1 ⟨rfl, rfl⟩
  go_wp2_with fail
  obtain ⟨W0, hW0⟩ : ∃ W, W = (w.alloc (.cells #[.string ⟨#[]⟩, .slice none 0 0] 60)).alloc (.cells #[.string ⟨#[]⟩, .slice none 0 0] 60) := ⟨_, rfl⟩
  rw [← hW0] at HC0 ⊢
  clear hW0 h1
  go_loopw [4] (fun n wr => ∃ (k i : Nat) (v : Value), ((k = 0 ∧ i = 2) ∨ (k = 1 ∧ i = 4) ∨ (k = 2 ∧ i = 6) ∨ (k = 3 ∧ i = 7)) ∧ n = .int .i64 i ∧ CIn w.heap.size k v w wr) (fun n _ => 7 - (intOf n).toNat)
  case atStart => exact ⟨0, 2, _, Or.inl ⟨rfl, rfl⟩, rfl, HC0.out⟩
  case round =>
    clear HC0
    obtain ⟨k, i, v, hki, rfl, hC⟩ := hrel
    obtain ⟨pv, cv, rfl⟩ := own_form hC.own
    have HC := Lib.hid hC
    have hsr : sk < wr.heap.size := Nat.lt_of_lt_of_le hsk hC.bl.size
    have HWr : Hid (∀ j u, impL[j]? = some u → wr.cell? ⟨sk, j, none⟩ = some u) := Lib.hid (fun j u hj => (hC.bl.cell (p := ⟨sk, j, none⟩) hsk).trans (HW.out j u hj))
    have b1 : wr.cell? ⟨w.heap.size + 1, 1, none⟩ = some (.slice pv k cv) := cell_blk hC.c 1 _ rfl
    have f1 := free_blk hC.c 1
    have hl := hC.lt
    have hown := hC.own
    have hlo : ∀ j, (Value.slice pv k cv).ownBlock = some j → w.heap.size + 2 ≤ j := fun j hj => (hown.lt j hj).1
    have HLO := Lib.hid hlo
    clear hC hlo
    rcases hki with ⟨rfl, rfl⟩ | ⟨rfl, rfl⟩ | ⟨rfl, rfl⟩ | ⟨rfl, rfl⟩
    · have c2 : wr.cell? ⟨sk, 2, none⟩ = some (.string ⟨#[99, 108, 97, 115, 115]⟩) := HWr.out 2 _ rfl
      have c3 : wr.cell? ⟨sk, 3, none⟩ = some (.string ⟨#[50, 44]⟩) := HWr.out 3 _ rfl
      have hx := ext_2c
      go_wp2_with fail
      refine (rvalue_2 _).mono ?_
      rintro e w2 ⟨rfl, rfl⟩
      clear hx
      go_wp2_with (first
        | (at_builtin; refine wpList_append_own _ rfl _ _ 58 rfl (w.heap.size + 2) 82 i0 (.agg #[.int .i64 0, .int .i64 0]) 2 16 Tryz.underlying58 hi0 hz0 hz1 hz2 rfl (by decide) _ _ _ rfl (hown.alloc _) ⟨wr.heap.size, 0, none⟩ 1 1 [.int .i64 1, .int .i64 2] rfl rfl (cells_two' _ _ rfl _ _ _) (by simp [Value.oneCell']) (by unfold maxLen; omega) (by omega) (by simp; omega) ?_)
        | fail)
      intro v' w3 hown3 hgrow _
      have hCA := HC.out.below (chainAlloc (Below.refl _ _) (.cells #[.int .i64 1, .int .i64 2] 82))
      obtain ⟨d1, d2, d3⟩ := hCA.grown hgrow HLO.out
      have HN : Hid (CIn w.heap.size 1 v' w (w3.setCell ⟨w.heap.size + 1, 1, none⟩ v')) := Lib.hid (hCA.next hown3 hgrow HLO.out)
      obtain ⟨p2, c2, rfl⟩ := own_form hown3
      clear hown hown3 hgrow hCA b1 f1
      go_wp2_with fail
      go_roundw
      case rel => exact ⟨1, 4, _, by simp, by first | rfl | go_num, HN.out⟩
      case measure => simp [intOf]
    · have c4 : wr.cell? ⟨sk, 4, none⟩ = some (.string ⟨#[99, 97, 114, 114, 121]⟩) := HWr.out 4 _ rfl
      have c5 : wr.cell? ⟨sk, 5, none⟩ = some (.string ⟨#[51, 44]⟩) := HWr.out 5 _ rfl
      have hx := ext_3c
      go_wp2_with fail
      refine (rvalue_3 _).mono ?_
      rintro e w2 ⟨rfl, rfl⟩
      clear hx
      go_wp2_with (first
        | (at_builtin; refine wpList_append_own _ rfl _ _ 58 rfl (w.heap.size + 2) 82 i0 (.agg #[.int .i64 0, .int .i64 0]) 2 16 Tryz.underlying58 hi0 hz0 hz1 hz2 rfl (by decide) _ _ _ rfl (hown.alloc _) ⟨wr.heap.size, 0, none⟩ 1 1 [.int .i64 3, .int .i64 3] rfl rfl (cells_two' _ _ rfl _ _ _) (by simp [Value.oneCell']) (by unfold maxLen; omega) (by omega) (by simp; omega) ?_)
        | fail)
      intro v' w3 hown3 hgrow _
      have hCA := HC.out.below (chainAlloc (Below.refl _ _) (.cells #[.int .i64 3, .int .i64 3] 82))
      obtain ⟨d1, d2, d3⟩ := hCA.grown hgrow HLO.out
      have HN : Hid (CIn w.heap.size 2 v' w (w3.setCell ⟨w.heap.size + 1, 1, none⟩ v')) := Lib.hid (hCA.next hown3 hgrow HLO.out)
      obtain ⟨p2, c2, rfl⟩ := own_form hown3
      clear hown hown3 hgrow hCA b1 f1
      go_wp2_with fail
      go_roundw
      case rel => exact ⟨2, 6, _, by simp, by first | rfl | go_num, HN.out⟩
      case measure => simp [intOf]
    · have c6 : wr.cell? ⟨sk, 6, none⟩ = some (.string ⟨#[100, 114, 111, 112]⟩) := HWr.out 6 _ rfl
      go_wp2_with (first
        | (at_builtin; refine wpList_append_own _ rfl _ _ 58 rfl (w.heap.size + 2) 82 i0 (.agg #[.int .i64 0, .int .i64 0]) 2 16 Tryz.underlying58 hi0 hz0 hz1 hz2 rfl (by decide) _ _ _ rfl (hown.alloc _) ⟨wr.heap.size, 0, none⟩ 1 1 [.int .i64 4, .int .i64 0] rfl rfl (cells_two' _ _ rfl _ _ _) (by simp [Value.oneCell']) (by unfold maxLen; omega) (by omega) (by simp; omega) ?_)
        | fail)
      intro v' w3 hown3 hgrow _
      have hCA := HC.out.below (chainAlloc (Below.refl _ _) (.cells #[.int .i64 4, .int .i64 0] 82))
      obtain ⟨d1, d2, d3⟩ := hCA.grown hgrow HLO.out
      have HN : Hid (CIn w.heap.size 3 v' w (w3.setCell ⟨w.heap.size + 1, 1, none⟩ v')) := Lib.hid (hCA.next hown3 hgrow HLO.out)
      obtain ⟨p2, c2, rfl⟩ := own_form hown3
      clear hown hown3 hgrow hCA b1 f1
      go_wp2_with fail
      go_roundw
      case rel => exact ⟨3, 7, _, by simp, by first | rfl | go_num, HN.out⟩
      case measure => simp [intOf]
    · have z0 : wr.cell? ⟨w.heap.size, 0, none⟩ = some (.string ⟨#[]⟩) := cell_blk HC.out.z 0 _ rfl
      have z1 : wr.cell? ⟨w.heap.size, 1, none⟩ = some (.slice none 0 0) := cell_blk HC.out.z 1 _ rfl
      have b0 : wr.cell? ⟨w.heap.size + 1, 0, none⟩ = some (.string ⟨#[]⟩) := cell_blk HC.out.c 0 _ rfl
      have y0 : wr.frozen? ⟨w.heap.size, 0, none⟩ = false := free_blk HC.out.z 0
      have y1 : wr.frozen? ⟨w.heap.size, 1, none⟩ = false := free_blk HC.out.z 1
      have hl0 : w.heap.size < wr.heap.size := by omega
      obtain ⟨g, cap, he, _, hlt⟩ := World.ownsRow.form hown (by omega)
      obtain ⟨rfl, rfl⟩ : pv = some ⟨g, 0, none⟩ ∧ cv = cap := by simpa using he
      clear hown he
      go_wp2
      obtain ⟨wf, hwf⟩ : ∃ wf, wf = ((wr.setCell ⟨w.heap.size, 0, none⟩ (.string ⟨#[]⟩)).setCell ⟨w.heap.size, 1, none⟩ (.slice (some ⟨g, 0, none⟩) 3 cv)) := ⟨_, rfl⟩
      rw [← hwf]
      obtain ⟨hfin, hbf, hof⟩ := HC.out.fin wf hwf
      have a0 := cell_blk hfin 0 (.string ⟨#[]⟩) rfl
      have a1 := cell_blk hfin 1 (.slice (some ⟨g, 0, none⟩) 3 cv) rfl
      have HP : Hid (ChainPost w (.returned (.agg #[.string ⟨#[]⟩, .slice (some ⟨g, 0, none⟩) 3 cv])) wf) := Lib.hid ⟨g, cv, rfl, hof, hbf⟩
      clear hwf hfin hof
      exact bodyPost_ret (v := .agg #[.string ⟨#[]⟩, .slice (some ⟨g, 0, none⟩) 3 cv]) (by simp [results, Tryz.results17, go_sem, a0, a1]) rfl HP.out
end Go.Proofs.YtenjefbplpbjaaaGreatDoor
