/- The reference's arithmetic at numbers of one limb: made, Fraction; what the generators call. -/
import Derived.Test.YtkgkjoologjehaaGreatDoorR8
namespace Go.Proofs.YtkgkjoologjehaaGreatDoor
open Go.RowKit Go.Sort Cal Go.Maps
/-- Some number that is not negative is handed back. -/
def RatioPost (w : World) (e : Ending) (w' : World) : Prop :=
  ∃ q1 k1 c1 q2 k2 c2, e = .returned (.agg #[.bool false, .slice q1 k1 c1, .slice q2 k2 c2]) ∧ Below w.heap.size w w'
theorem ratio_fin {w0 w : World} (hz : w.heap[w0.heap.size]? = some (.cells #[.bool false, .slice none 0 0, .slice none 0 0] 66 (0, 0))) (hb : Below w0.heap.size w0 w) (v1 v2 : Value) :
    ∀ wf, wf = (((w.setCell ⟨w0.heap.size, 0, none⟩ (.bool false)).setCell ⟨w0.heap.size, 1, none⟩ v1).setCell ⟨w0.heap.size, 2, none⟩ v2) →
      wf.heap[w0.heap.size]? = some (.cells #[.bool false, v1, v2] 66 (0, 0)) ∧ Below w0.heap.size w0 wf := by
  intro wf hwf
  have hk := set_blk (set_blk (set_blk hz 0 (.bool false)) 1 v1) 2 v2
  have hb' := (((hb.setCell (p := ⟨w0.heap.size, 0, none⟩) (Nat.le_refl _) (.bool false)).setCell (p := ⟨w0.heap.size, 1, none⟩) (Nat.le_refl _) v1).setCell (p := ⟨w0.heap.size, 2, none⟩) (Nat.le_refl _) v2)
  rw [← hwf] at hk hb'
  exact ⟨hk, hb'⟩
theorem div_form {w : World} {q : Value} {N : Nat} (h : q = .slice none 0 0 ∨ LimbAt w q N) : ∃ p k c, q = .slice p k c ∧ (k = 0 ∨ (k = 1 ∧ ∃ b, p = some ⟨b, 0, none⟩ ∧ b < w.heap.size ∧ w.cell? ⟨b, 0, none⟩ = some (.int .u32 N))) := by
  rcases h with rfl | ⟨_, a, c, rfl⟩ | ⟨h0, b, c, rfl, _, hb, hc⟩
  · exact ⟨_, _, _, rfl, Or.inl rfl⟩
  · exact ⟨_, _, _, rfl, Or.inl rfl⟩
  · exact ⟨_, _, _, rfl, Or.inr ⟨rfl, b, rfl, hb, hc⟩⟩
set_option maxRecDepth 100000 in
set_option maxHeartbeats 3200000 in
theorem made_at (u v : Value) (M N : Nat) (w : World) (hu : LimbAt w u M) (hv : LimbAt w v N) (hM : M < 4294967296) (h0 : 0 < N) (hN : N < 4294967296) :
    Calls Tryz.prog 83 #[.bool false, u, v] w (RatioPost w) := by
  have X := Box.new w [.bool false, .slice none 0 0, .slice none 0 0] 66
  have HU := Lib.hid (hu.below X.bl)
  have HV := Lib.hid (hv.below X.bl)
  have hz0 : (w.alloc (.cells #[.bool false, .slice none 0 0, .slice none 0 0] 66)).heap[w.heap.size]? = some (.cells #[.bool false, .slice none 0 0, .slice none 0 0] 66 (0, 0)) := by
    show (Array.push w.heap _)[_]? = _
    rw [Array.getElem?_push, if_pos rfl]
  have HX := Lib.hid X
  have HZ0 := Lib.hid hz0
  clear hu hv X hz0
  go_enter Tryz.func83, Tryz.ntmps83
  go_wp2_with fail
  refine (gcd_at _ _ M N _ HU.out HV.out hM h0 hN).mono ?_
  rintro e w1 ⟨g, G, rfl, hg, hG0, hGl, hb1⟩
  have HG := Lib.hid hg
  have HB1 := Lib.hid hb1
  clear hg hb1
  go_wp2_with fail
  refine (divide_at _ _ M G _ (HU.out.below HB1.out) HG.out hM hG0 hGl).mono ?_
  rintro e w2 ⟨n, r, rfl, hn, hr, hb2⟩
  have HB2 := Lib.hid hb2
  obtain ⟨q1, k1, c1, rfl, -⟩ := div_form hn
  clear hn hr hb2
  go_wp2_with fail
  refine (divide_at _ _ N G _ ((HV.out.below HB1.out).below HB2.out) (HG.out.below HB2.out) hN hG0 hGl).mono ?_
  rintro e w3 ⟨d, r, rfl, hd, hr, hb3⟩
  have hb13 := HB1.out.trans ((chain0 HB2.out hb3).mono HB1.out.size)
  have hz3 := (hb13.block _ HX.out.sz).trans HZ0.out
  have HZ3 := Lib.hid hz3
  have HB3 := Lib.hid (chain0 HX.out.bl hb13)
  have hsz := (Array.getElem?_eq_some_iff.1 hz3).1
  have z0 : w3.cell? ⟨w.heap.size, 0, none⟩ = some (.bool false) := cell_blk hz3 0 _ rfl
  have z1 : w3.cell? ⟨w.heap.size, 1, none⟩ = some (.slice none 0 0) := cell_blk hz3 1 _ rfl
  have z2 : w3.cell? ⟨w.heap.size, 2, none⟩ = some (.slice none 0 0) := cell_blk hz3 2 _ rfl
  have y0 : w3.frozen? ⟨w.heap.size, 0, none⟩ = false := free_blk hz3 0
  have y1 : w3.frozen? ⟨w.heap.size, 1, none⟩ = false := free_blk hz3 1
  have y2 : w3.frozen? ⟨w.heap.size, 2, none⟩ = false := free_blk hz3 2
  obtain ⟨q2, k2, c2, rfl, hk⟩ := div_form hd
  clear hd hr hb3 hb13 hz3
  rcases hk with rfl | ⟨rfl, b, rfl, hbl, hcell⟩
  · go_wp2
    obtain ⟨wf, hwf⟩ : ∃ wf, wf = (((w3.setCell ⟨w.heap.size, 0, none⟩ (.bool false)).setCell ⟨w.heap.size, 1, none⟩ (.slice q1 k1 c1)).setCell ⟨w.heap.size, 2, none⟩ (.slice q2 0 c2)) := ⟨_, rfl⟩
    rw [← hwf]
    obtain ⟨hf, hbf⟩ := ratio_fin HZ3.out HB3.out _ _ wf hwf
    have a0 := cell_blk hf 0 (.bool false) rfl
    have a1 := cell_blk hf 1 (.slice q1 k1 c1) rfl
    have a2 := cell_blk hf 2 (.slice q2 0 c2) rfl
    clear hwf
    exact bodyPost_ret (v := .agg #[.bool false, .slice q1 k1 c1, .slice q2 0 c2]) (by simp [results, Tryz.results83, go_sem, a0, a1, a2]) rfl ⟨_, _, _, _, _, _, rfl, hbf⟩
  · obtain ⟨D, hD⟩ : ∃ D, D = N / G := ⟨_, rfl⟩
    rw [← hD] at hcell
    clear hD
    by_cases hd1 : D = 1
    · subst hd1
      go_wp2
      obtain ⟨wf, hwf⟩ : ∃ wf, wf = (((w3.setCell ⟨w.heap.size, 0, none⟩ (.bool false)).setCell ⟨w.heap.size, 1, none⟩ (.slice q1 k1 c1)).setCell ⟨w.heap.size, 2, none⟩ (.slice none 0 0)) := ⟨_, rfl⟩
      rw [← hwf]
      obtain ⟨hf, hbf⟩ := ratio_fin HZ3.out HB3.out _ _ wf hwf
      have a0 := cell_blk hf 0 (.bool false) rfl
      have a1 := cell_blk hf 1 (.slice q1 k1 c1) rfl
      have a2 := cell_blk hf 2 (.slice none 0 0) rfl
      clear hwf
      exact bodyPost_ret (v := .agg #[.bool false, .slice q1 k1 c1, .slice none 0 0]) (by simp [results, Tryz.results83, go_sem, a0, a1, a2]) rfl ⟨_, _, _, _, _, _, rfl, hbf⟩
    · have hdz : ((D : Int) == 1) = false := by simp; omega
      go_wp2
      obtain ⟨wf, hwf⟩ : ∃ wf, wf = (((w3.setCell ⟨w.heap.size, 0, none⟩ (.bool false)).setCell ⟨w.heap.size, 1, none⟩ (.slice q1 k1 c1)).setCell ⟨w.heap.size, 2, none⟩ (.slice (some ⟨b, 0, none⟩) 1 c2)) := ⟨_, rfl⟩
      rw [← hwf]
      obtain ⟨hf, hbf⟩ := ratio_fin HZ3.out HB3.out _ _ wf hwf
      have a0 := cell_blk hf 0 (.bool false) rfl
      have a1 := cell_blk hf 1 (.slice q1 k1 c1) rfl
      have a2 := cell_blk hf 2 (.slice (some ⟨b, 0, none⟩) 1 c2) rfl
      clear hwf
      exact bodyPost_ret (v := .agg #[.bool false, .slice q1 k1 c1, .slice (some ⟨b, 0, none⟩) 1 c2]) (by simp [results, Tryz.results83, go_sem, a0, a1, a2]) rfl ⟨_, _, _, _, _, _, rfl, hbf⟩
end Go.Proofs.YtkgkjoologjehaaGreatDoor
