/- The walk of ClassificationValid. -/
import Derived.Test.YtnmcmnllmnpjkaaDoorG16
namespace Go.Proofs.YtnmcmnllmnpjkaaDoor
open Go.RowKit Go.Sort Cal Go.Maps
theorem rawL_short30 (ss : List ByteArray) : (rawL ss).length ≤ 30 := by rw [rawL_len]; omega
set_option maxRecDepth 100000 in
set_option maxHeartbeats 6400000 in
theorem valid_walk (w : World) (nm : ByteArray) (q : Option Addr) (n c : Nat) (ss : List ByteArray) (hn : n = ss.length) (hnc : n ≤ c) (hcm : c ≤ maxLen) (hv : StrsAt w (.slice q n c) ss) (hz : ∀ s ∈ ss, s.size ≤ maxLen)
    (q1 : Option Addr) (n1 c1 : Nat) (zs1 : List Int) (_e1 : n1 = zs1.length) (_h1 : n1 ≤ c1) (_hm1 : c1 ≤ maxLen) (hz1 : IntsAt w (.slice q1 n1 c1) zs1) (hf1 : Fits zs1) (hE : Env w) :
    Calls Tryd.prog 7 #[.agg #[.string nm, .slice q n c], .slice q1 n1 c1] w fun e w' => e = .returned (.bool true) ∧ Below w.heap.size w w' := by
  have HE := Lib.hid hE
  have hb0 : Below w.heap.size w (w.alloc (.cells #[.string nm, .slice q n c] 46)) := (Below.refl _ _).alloc (Nat.le_refl _) _
  have hTT := tape_new (hz1.below hb0) hf1
  rw [World.size_alloc] at hTT
  have HT := Lib.hid hTT
  have HV := Lib.hid hv
  have HN := Lib.hid hn
  have HZ := Lib.hid hz
  have hb1 := hb0.alloc hb0.size (.cells #[.slice q1 n1 c1, .int .i64 0] 26)
  have HB1 := Lib.hid hb1
  clear hE hz1 hf1 _e1 hTT hb0 hb1 hv hn hz
  go_enter Tryd.func7, Tryd.ntmps7
  go_wp2_with fail
  refine (spoiled_any (w.heap.size + 1) (.slice q1 n1 c1) zs1 0 _ HT.out (by omega)).mono ?_
  rintro e w1 ⟨q2, n2, c2, ts, i', rfl, hmi, hnt, hst, hi', hT1, ht1, hq2⟩
  have hs1 : w.heap.size + 2 ≤ w1.heap.size := by have := ht1.size; simpa using this
  have HBW1 : Hid (Below w.heap.size w w1) := Lib.hid (HB1.out.trans ((ht1.below (by simp)).mono (by omega)))
  have hpb : w1.heap[w.heap.size]? = some (.cells #[.string nm, .slice q n c] 46 (0, 0)) := by
    refine (ht1.block _ (by simp; omega) (by omega)).trans ?_
    show (Array.push (Array.push w.heap _) _)[_]? = _
    rw [Array.getElem?_push, if_neg (by simp), Array.getElem?_push, if_pos rfl]
  have hb2 : Below w1.heap.size w1 (w1.alloc (.cells #[.string ⟨#[99]⟩, .slice q2 n2 c2] 46)) := (Below.refl _ _).alloc (Nat.le_refl _) _
  have hpb2 := (hb2.block w.heap.size (by omega)).trans hpb
  have hdb2 : (w1.alloc (.cells #[.string ⟨#[99]⟩, .slice q2 n2 c2] 46)).heap[w1.heap.size]? = some (.cells #[.string ⟨#[99]⟩, .slice q2 n2 c2] 46 (0, 0)) := by
    show (w1.heap.push _)[_]? = _
    rw [Array.getElem?_push, if_pos rfl]
  have hp0 := cell_blk hpb2 0 _ rfl
  have hp1 := cell_blk hpb2 1 _ rfl
  have HPB := Lib.hid hpb2
  have HDB := Lib.hid hdb2
  have HBW2 : Hid (Below w.heap.size w (w1.alloc (.cells #[.string ⟨#[99]⟩, .slice q2 n2 c2] 46))) := Lib.hid (chain0 HBW1.out hb2)
  have HST2 := Lib.hid (hst.below hb2)
  have HMI := Lib.hid hmi
  have HNT := Lib.hid hnt
  have HQ2 := Lib.hid hq2
  clear hT1 ht1 hpb hpb2 hdb2 hb2 hmi hst hnt hq2
  go_wp2_with fail
  refine (raw_any nm q n c ss _ HN.out hnc hcm (HV.out.below HBW2.out) HZ.out).mono ?_
  rintro e w3 ⟨v, rfl, hown, hb3⟩
  obtain ⟨q3, c3, rfl, -, hst3, hq3⟩ := own_strs hown
  have hs3 : w1.heap.size + 1 ≤ w3.heap.size := by have := hb3.size; simpa using this
  have hpb3 := (hb3.block w.heap.size (by simp; omega)).trans HPB.out
  have hdb3 := (hb3.block w1.heap.size (by simp)).trans HDB.out
  have hp30 := cell_blk hpb3 0 _ rfl
  have hp31 := cell_blk hpb3 1 _ rfl
  have hg30 := free_blk hpb3 0
  have hg31 := free_blk hpb3 1
  have hn31 : (rawL ss).length ≤ 30 := rawL_short30 ss
  obtain ⟨m3, hm3⟩ : ∃ m, m = (rawL ss).length := ⟨_, rfl⟩
  rw [← hm3] at hst3 hn31 ⊢
  clear hm3 hown
  obtain ⟨rs, hrs⟩ : ∃ rs, rs = rawL ss := ⟨_, rfl⟩
  have HRS : Hid (Short rs) := Lib.hid (by rw [hrs]; exact rawL_short ss)
  rw [← hrs] at hst3
  clear hrs
  have PB4 := set_blk (set_blk hpb3 0 (.string nm)) 1 (.slice q3 m3 c3)
  have DB4 := set_other (set_other hdb3 (show w1.heap.size ≠ w.heap.size by omega) 0 (.string nm)) (show w1.heap.size ≠ w.heap.size by omega) 1 (.slice q3 m3 c3)
  have S34 := strs_store (N := w.heap.size) (x := .string nm) (u := .slice q3 m3 c3) hst3 (fun q' n' c' e _ => by cases e; have := hq3 _ rfl; simp at this; omega)
  have S24 := strs_store (N := w.heap.size) (x := .string nm) (u := .slice q3 m3 c3) (HST2.out.below hb3) (fun q' n' c' e h => by cases e; have := HQ2.out _ rfl h; simp at this; omega)
  have B4 := ((chain0 HBW2.out hb3).setCell (p := ⟨w.heap.size, 0, none⟩) (Nat.le_refl _) (.string nm)).setCell (p := ⟨w.heap.size, 1, none⟩) (Nat.le_refl _) (.slice q3 m3 c3)
  go_wp2_with fail
  obtain ⟨W4, hW4⟩ : ∃ W4, W4 = (w3.setCell ⟨w.heap.size, 0, none⟩ (.string nm)).setCell ⟨w.heap.size, 1, none⟩ (.slice q3 m3 c3) := ⟨_, rfl⟩
  rw [← hW4] at PB4 DB4 S34 S24 B4 ⊢
  clear hW4 hp30 hp31 hg30 hg31 hpb3 hdb3 hst3 hq3 hb3 hp0 hp1
  have c0 : ∀ d os, (grow (redrawn W4 d) os).cell? ⟨w.heap.size, 0, none⟩ = some (.string nm) := fun d os => cell_regrown (cell_blk PB4 0 _ rfl) d os
  have c1 : ∀ d os, (grow (redrawn W4 d) os).cell? ⟨w.heap.size, 1, none⟩ = some (.slice q3 m3 c3) := fun d os => cell_regrown (cell_blk PB4 1 _ rfl) d os
  have d0 : ∀ d os, (grow (redrawn W4 d) os).cell? ⟨w1.heap.size, 0, none⟩ = some (.string ⟨#[99]⟩) := fun d os => cell_regrown (cell_blk DB4 0 _ rfl) d os
  have d1 : ∀ d os, (grow (redrawn W4 d) os).cell? ⟨w1.heap.size, 1, none⟩ = some (.slice q2 n2 c2) := fun d os => cell_regrown (cell_blk DB4 1 _ rfl) d os
  have HS3 : Hid (∀ d os, StrsAt (grow (redrawn W4 d) os) (.slice q3 m3 c3) rs) := Lib.hid (fun d os => S34.below (below_regrown W4 d os))
  have HS2 : Hid (∀ d os, StrsAt (grow (redrawn W4 d) os) (.slice q2 n2 c2) ts) := Lib.hid (fun d os => S24.below (below_regrown W4 d os))
  have HE4 : Hid (∀ d os, Env (grow (redrawn W4 d) os)) := Lib.hid (fun d os => (HE.out.below B4).below (below_regrown W4 d os))
  have L3 : Hid (rs.length ≤ 1000000) := Lib.hid (by rcases S34 with ⟨rfl, _⟩ | ⟨_, _, _, _, e, _⟩
                                                     · simp
                                                     · cases e; omega)
  have L2 : Hid (ts.length ≤ 1000000) := Lib.hid (by have := HMI.out.1; omega)
  have HB4 := Lib.hid B4
  clear PB4 DB4 S34 S24 B4 hn31 hs3 hs1
  refine wp_region_quiet_below (by kernel_rfl) (by kernel_rfl) ?_
  repeat (go_big_quiet_step (first
    | (go_at_call 31; first
        | (with_reducible exact Calls.regrown_of (validate_any nm (.slice q3 m3 c3) rs _ (HS3.out _ _) L3.out HRS.out (HE4.out _ _)))
        | (with_reducible exact Calls.regrown_of (validate_any ⟨#[99]⟩ (.slice q2 n2 c2) ts _ (HS2.out _ _) L2.out HMI.out.short (HE4.out _ _))))
    | (go_at_call 32; first
        | (with_reducible exact Calls.regrown_of (rvalidate_any nm (.slice q3 m3 c3) rs _ (HS3.out _ _) L3.out HRS.out))
        | (with_reducible exact Calls.regrown_of (rvalidate_any ⟨#[99]⟩ (.slice q2 n2 c2) ts _ (HS2.out _ _) L2.out HMI.out.short)))
    | (go_at_call 19; exact Calls.regrown_of (awake_any _ (HE4.out _ _)))))
  refine wpQuiet_nil ?_
  intro _ hw'
  obtain ⟨⟨dq, osq⟩, hw''⟩ := hw'
  subst hw''
  go_wp2
  go_ret
  exact ⟨rfl, chain0 HB4.out (below_regrown W4 dq osq)⟩
end Go.Proofs.YtnmcmnllmnpjkaaDoor
