/- The contract of the generator of plans. -/
import Derived.Test.YtkgkjoologjehaaGreatDoorUm
namespace Go.Proofs.YtkgkjoologjehaaGreatDoor
open Go.RowKit Go.Sort Cal Go.Maps
theorem info_str : (Tryz.prog.info? 9).map (fun i => (i.zero, i.size, i.bytes)) = some (some (.string ⟨#[]⟩), 1, 16) := by kernel_rfl
theorem info_special : (Tryz.prog.info? 61).map (fun i => (i.zero, i.size, i.bytes)) = some (some (.agg #[.string ⟨#[]⟩, .slice none 0 0, .slice none 0 0]), 3, 64) := by kernel_rfl
theorem info_def : (Tryz.prog.info? 72).map (fun i => (i.zero, i.size, i.bytes)) = some (some (.agg #[.string ⟨#[]⟩, .slice none 0 0]), 2, 40) := by kernel_rfl
theorem info_pub : (Tryz.prog.info? 68).map (fun i => (i.zero, i.size, i.bytes)) = some (some (.agg #[.string ⟨#[]⟩, .int .i64 0, .bool false, .slice none 0 0, .slice none 0 0]), 5, 80) := by kernel_rfl
def PlanPost (b : Nat) (w : World) (e : Ending) (w' : World) : Prop :=
  ∃ (d : Int) (p1 : Option Addr) (n1 c1 : Nat) (p2 : Option Addr) (n2 c2 : Nat) (p3 : Option Addr) (n3 c3 : Nat) (p4 : Option Addr) (n4 c4 : Nat) (p5 : Option Addr) (n5 c5 : Nat) (RS : List RuleR),
    e = .returned (.agg #[.int .i64 d, .slice p1 n1 c1, .slice p2 n2 c2, .slice p3 n3 c3, .slice p4 n4 c4, .slice p5 n5 c5]) ∧ RulesAt w' (.slice p1 n1 c1) RS ∧ RS.length ≤ 5 ∧ (∀ r ∈ RS, r.c.size ≤ 10) ∧ Touch b w w'
theorem plan_fin {b : Nat} {sv : Value} {zs : List Int} {w0 : World} {B4 B5 G N N1 : Nat} {L : List Value} {t : TypeId} {sz : Nat} {v1 : Value} {RS : List RuleR} {i : Nat} {cs : List Value} {v : Value} {n : Nat} {xs : List Value} {w : World} (h : St b sv zs w0 B4 B5 G N N1 L t sz v1 RS i cs v n xs w) (u0 u1 u2 u3 u4 u5 : Value) :
    ∀ wf, wf = (((((w.setCell ⟨B4, 0, none⟩ u0).setCell ⟨B4, 1, none⟩ u1).setCell ⟨B4, 2, none⟩ u2).setCell ⟨B4, 3, none⟩ u3).setCell ⟨B4, 4, none⟩ u4).setCell ⟨B4, 5, none⟩ u5 →
      wf.heap[B4]? = some (.cells #[u0, u1, u2, u3, u4, u5] 28 (0, 0)) ∧ RulesAt wf v1 RS ∧ Touch b w0 wf := by
  intro wf hwf
  have hf := set_blk (set_blk (set_blk (set_blk (set_blk (set_blk h.z 0 u0) 1 u1) 2 u2) 3 u3) 4 u4) 5 u5
  have ht := (((((((Touch.refl B4 w).set 0 u0).set 1 u1).set 2 u2).set 3 u3).set 4 u4).set 5 u5)
  rw [← hwf] at hf ht
  have h1 := h.l4; have h2 := h.l5; have h3 := h.touch.size
  refine ⟨by simpa [zeroP] using hf, rules_of_own (own_keep h.rl (fun g hg => ht.block g (h.rl.lt g hg).2 (by have := (h.rl.lt g hg).1; omega))), ⟨ht.os.trans h.touch.os, ht.tape.trans h.touch.tape, ht.output.trans h.touch.output, Nat.le_trans h3 ht.size, fun k hk hkb => (ht.block k (by omega) (by omega)).trans (h.touch.block k hk hkb)⟩⟩
set_option maxRecDepth 100000 in
set_option maxHeartbeats 12800000 in
theorem plan_any (b : Nat) (sv : Value) (zs : List Int) (i : Nat) (w : World) (hT : TapeAt b sv zs i w) (hi : i ≤ 20000) :
    Calls Tryz.prog 10 #[.pointer (some ⟨b, 0, none⟩), .bool false] w (PlanPost b w) := by
  obtain ⟨i0, hi0, hz0, hz1, hz2⟩ := info_parts info_str
  obtain ⟨j0, hj0, hk0, hk1, hk2⟩ := info_parts info_rule
  obtain ⟨d0, hd0, hdz0, hdz1, hdz2⟩ := info_parts info_def
  obtain ⟨s0, hs0, hsz0, hsz1, hsz2⟩ := info_parts info_special
  obtain ⟨p0, hp0, hpz0, hpz1, hpz2⟩ := info_parts info_pub
  have hlb := hT.lt
  have HG := Lib.hid ((Gen.start hT).alloc (.cells #[.int .i64 0, .slice none 0 0, .slice none 0 0, .slice none 0 0, .slice none 0 0, .slice none 0 0] 28))
  have hz0' : (w.alloc (.cells #[.int .i64 0, .slice none 0 0, .slice none 0 0, .slice none 0 0, .slice none 0 0, .slice none 0 0] 28)).heap[w.heap.size]? = some (.cells zeroP.toArray 28 (0, 0)) := by
    show (Array.push w.heap _)[_]? = _
    rw [Array.getElem?_push, if_pos rfl]
    rfl
  have HZ := Lib.hid hz0'
  clear hT hz0'
  go_enter Tryz.func10, Tryz.ntmps10
  go_wp2_with fail
  refine (next_gen 4 HG.out (by omega) (by omega) (by omega)).mono ?_
  rintro e w1 ⟨dg, hdg, rfl, hg1, ht1⟩
  have HG1 := Lib.hid (((hg1.alloc (.cells #[.int .i64 (dg : Int), .slice none 0 0, .slice none 0 0, .slice none 0 0, .slice none 0 0, .slice none 0 0] 28)).alloc (.cells #[.string ⟨#[]⟩] 9)).alloc (.cells #[.string ⟨#[48, 49]⟩, .string ⟨#[48, 49, 46, 49]⟩, .string ⟨#[48, 49, 46, 50]⟩, .string ⟨#[48, 50]⟩] 9))
  have hs1 : w.heap.size < w1.heap.size := by have := ht1.size; rw [World.size_alloc] at this; omega
  have HZ1 : Hid ((((w1.alloc (.cells #[.int .i64 (dg : Int), .slice none 0 0, .slice none 0 0, .slice none 0 0, .slice none 0 0, .slice none 0 0] 28)).alloc (.cells #[.string ⟨#[]⟩] 9)).alloc (.cells #[.string ⟨#[48, 49]⟩, .string ⟨#[48, 49, 46, 49]⟩, .string ⟨#[48, 49, 46, 50]⟩, .string ⟨#[48, 50]⟩] 9)).heap[w.heap.size]? = some (.cells zeroP.toArray 28 (0, 0))) := Lib.hid (((chainAlloc (chainAlloc (chainAlloc (Below.refl w1.heap.size w1) _) _) _).block _ hs1).trans ((ht1.block _ (by simp) (by omega)).trans HZ.out))
  have HK1 : Hid ((((w1.alloc (.cells #[.int .i64 (dg : Int), .slice none 0 0, .slice none 0 0, .slice none 0 0, .slice none 0 0, .slice none 0 0] 28)).alloc (.cells #[.string ⟨#[]⟩] 9)).alloc (.cells #[.string ⟨#[48, 49]⟩, .string ⟨#[48, 49, 46, 49]⟩, .string ⟨#[48, 49, 46, 50]⟩, .string ⟨#[48, 50]⟩] 9)).heap[w1.heap.size]? = some (.cells #[.int .i64 (dg : Int), .slice none 0 0, .slice none 0 0, .slice none 0 0, .slice none 0 0, .slice none 0 0] 28 (0, 0))) := Lib.hid (by
    have e : (w1.alloc (.cells #[.int .i64 (dg : Int), .slice none 0 0, .slice none 0 0, .slice none 0 0, .slice none 0 0, .slice none 0 0] 28)).heap[w1.heap.size]? = some (.cells #[.int .i64 (dg : Int), .slice none 0 0, .slice none 0 0, .slice none 0 0, .slice none 0 0, .slice none 0 0] 28 (0, 0)) := by
      show (Array.push w1.heap _)[_]? = _
      rw [Array.getElem?_push, if_pos rfl]
    exact ((chainAlloc (chainAlloc (Below.refl (w1.alloc (.cells #[.int .i64 (dg : Int), .slice none 0 0, .slice none 0 0, .slice none 0 0, .slice none 0 0, .slice none 0 0] 28)).heap.size _) _) _).block _ (by rw [World.size_alloc]; omega)).trans e)
  have hownS : (((w1.alloc (.cells #[.int .i64 (dg : Int), .slice none 0 0, .slice none 0 0, .slice none 0 0, .slice none 0 0, .slice none 0 0] 28)).alloc (.cells #[.string ⟨#[]⟩] 9)).alloc (.cells #[.string ⟨#[48, 49]⟩, .string ⟨#[48, 49, 46, 49]⟩, .string ⟨#[48, 49, 46, 50]⟩, .string ⟨#[48, 50]⟩] 9)).ownsRow (w1.heap.size + 1) 9 1 (.slice (some ⟨w1.heap.size + 1, 0, none⟩) 1 1) 1 [.string ⟨#[]⟩] := by
    have h := (World.ownsRow_lit (e := 9) (size := 1) (base := w1.heap.size + 1) (w1.alloc (.cells #[.int .i64 (dg : Int), .slice none 0 0, .slice none 0 0, .slice none 0 0, .slice none 0 0, .slice none 0 0] 28)) #[.string ⟨#[]⟩] 1 (by simp) (by decide) rfl).alloc (.cells #[.string ⟨#[48, 49]⟩, .string ⟨#[48, 49, 46, 49]⟩, .string ⟨#[48, 49, 46, 50]⟩, .string ⟨#[48, 50]⟩] 9)
    rw [World.size_alloc] at h
    exact h
  have HCD := Lib.hid (cells_row ((w1.alloc (.cells #[.int .i64 (dg : Int), .slice none 0 0, .slice none 0 0, .slice none 0 0, .slice none 0 0, .slice none 0 0] 28)).alloc (.cells #[.string ⟨#[]⟩] 9)) (w1.heap.size + 1 + 1) (by simp) [.string ⟨#[48, 49]⟩, .string ⟨#[48, 49, 46, 49]⟩, .string ⟨#[48, 49, 46, 50]⟩, .string ⟨#[48, 50]⟩] 9)
  clear hg1 ht1
  go_wp2_with fail
  refine (codes_at _).mono ?_
  rintro e w2 ⟨rfl, rfl⟩
  go_wp2_with (first
    | (at_builtin; refine wpList_append_own_at _ rfl _ _ 40 rfl (w1.heap.size + 1) 9 i0 (.string ⟨#[]⟩) 1 16 Tryz.underlying40 hi0 hz0 hz1 hz2 rfl (by decide) _ 1 _ rfl hownS ⟨w1.heap.size + 1 + 1, 0, none⟩ 4 4 [.string ⟨#[48, 49]⟩, .string ⟨#[48, 49, 46, 49]⟩, .string ⟨#[48, 49, 46, 50]⟩, .string ⟨#[48, 50]⟩] rfl rfl HCD.out (by simp [Value.oneCell']) (by unfold maxLen; omega) (by omega) (by simp <;> omega) ?_)
    | fail)
  intro v' w3 hown3 hgrow _ hob
  obtain ⟨G, cap, rfl, hGb, hGl⟩ := World.ownsRow.form hown3 (by omega)
  have HST : Hid (St b sv zs w w.heap.size w1.heap.size G w3.heap.size w3.heap.size [.string ⟨#[]⟩, .string ⟨#[48, 49]⟩, .string ⟨#[48, 49, 46, 49]⟩, .string ⟨#[48, 49, 46, 50]⟩, .string ⟨#[48, 50]⟩] 43 4 (.slice none 0 0) [] (i + 1) [.int .i64 (dg : Int), .slice none 0 0, .slice none 0 0, .slice none 0 0, .slice none 0 0, .slice none 0 0] (.slice none 0 0) 0 [] w3) := Lib.hid (by
    have hg3 := HG1.out.grown hgrow (fun k e => by simp [Value.ownBlock] at e; omega)
    refine ⟨hg3.tape, hg3.touch, (hgrow.block _ (by simp; omega) (by simp [Value.ownBlock]; omega)).trans HZ1.out, (hgrow.block _ (by simp; omega) (by simp [Value.ownBlock])).trans HK1.out, fun j u hj => (own_cell hown3).1 j u hj, World.ownsRow_nil _ _ _ _, World.ownsRow_nil _ _ _ _, fun g hg => (by cases hg), hlb, Nat.le_refl _, hs1, hGb, hGl, Nat.le_refl _, Nat.le_refl _⟩)
  clear hown3 hgrow hownS hob
  go_wp2_with fail
  go_loopw [27] (fun q wr => ∃ (k : Nat) (RS : List RuleR) (n i' : Nat) (v : Value), k ≤ 5 ∧ q = .int .i64 k ∧ RS.length = n ∧ n ≤ k ∧ (∀ r ∈ RS, r.c.size ≤ 10) ∧ i' ≤ i + 1 + 5 * k ∧ St b sv zs w w.heap.size w1.heap.size G w3.heap.size w3.heap.size [.string ⟨#[]⟩, .string ⟨#[48, 49]⟩, .string ⟨#[48, 49, 46, 49]⟩, .string ⟨#[48, 49, 46, 50]⟩, .string ⟨#[48, 50]⟩] 43 4 (.slice none 0 0) [] i' [.int .i64 (dg : Int), v, .slice none 0 0, .slice none 0 0, .slice none 0 0, .slice none 0 0] v n (flatR RS) wr) (fun q _ => 5 - (intOf q).toNat)
  case atStart => exact ⟨0, [], 0, i + 1, _, by omega, rfl, rfl, by omega, by simp, by omega, HST.out⟩
  case round =>
    obtain ⟨k, RS, n, i', v, hk, rfl, hRn, hn, hrs, hi', hst⟩ := hrel
    have HR := Lib.hid hst
    have HRS := Lib.hid hrs
    have HRN := Lib.hid hRn
    obtain ⟨p, c, rfl⟩ := own_form hst.own
    by_cases hlt : k < 5
    · have hstr : ∃ s : ByteArray, s.size ≤ 10 ∧ wr.cell? ⟨G, k, none⟩ = some (.string s) := by
        have h5 : k = 0 ∨ k = 1 ∨ k = 2 ∨ k = 3 ∨ k = 4 := by omega
        rcases h5 with rfl | rfl | rfl | rfl | rfl
        · exact ⟨_, by decide, hst.str 0 _ rfl⟩
        · exact ⟨_, by decide, hst.str 1 _ rfl⟩
        · exact ⟨_, by decide, hst.str 2 _ rfl⟩
        · exact ⟨_, by decide, hst.str 3 _ rfl⟩
        · exact ⟨_, by decide, hst.str 4 _ rfl⟩
      obtain ⟨s, hs, hc⟩ := hstr
      clear hst hrs hRn
      have hse : s.toList.isEmpty = true ∨ s.toList.isEmpty = false := by cases s.toList.isEmpty <;> simp
      rcases hse with hse | hse
      all_goals
        go_wp2_with fail
        refine (next_st 3 HR.out (by omega) (by omega) (by omega)).mono ?_
        rintro e w4 ⟨m, hm, rfl, hst4, ht4⟩
        have HS4 := Lib.hid hst4
        clear hst4 ht4 hc hse
        by_cases hm0 : m = 0
        · subst hm0
          go_wp2_with fail
          refine (next_st 9 HS4.out (by omega) (by omega) (by omega)).mono ?_
          rintro e w5 ⟨mm, hmm, rfl, hst5, ht5⟩
          have HS5 := Lib.hid (hst5.alloc (.cells #[.string s, .int .i64 (1 + (mm : Int)), .int .i64 0, .int .i64 0] 43))
          have HX5 := Lib.hid (Box.new w5 [.string s, .int .i64 (1 + (mm : Int)), .int .i64 0, .int .i64 0] 43)
          have HB5 : Hid ((w5.alloc (.cells #[.string s, .int .i64 (1 + (mm : Int)), .int .i64 0, .int .i64 0] 43)).heap[w5.heap.size]? = some (.cells #[.string s, .int .i64 (1 + (mm : Int)), .int .i64 0, .int .i64 0] 43 (0, 0))) := Lib.hid (by
            show (Array.push w5.heap _)[_]? = _
            rw [Array.getElem?_push, if_pos rfl])
          have HA5 : Hid (Away (.slice p n c) w5.heap.size) := Lib.hid (fun j hj e => by have := (hst5.own.lt j hj).2; omega)
          have hN5 := hst5.lw
          have hs5 := hst5.sizes
          clear hst5 ht5
          have hmc : mm ≤ 4 ∨ 8 ≤ mm ∨ (5 ≤ mm ∧ mm ≤ 7) := by omega
          rcases hmc with hm1 | hm1 | ⟨hm1, hm2⟩
          · have d1 : decide ((6 : Int) ≤ 1 + (mm : Int)) = false := by simp; omega
            have cB : (w5.alloc (.cells #[.string s, .int .i64 (1 + (mm : Int)), .int .i64 0, .int .i64 0] 43)).cell? ⟨w1.heap.size, 1, none⟩ = some (.slice p n c) := cell_blk HS5.out.k 1 _ rfl
            have hown := HS5.out.own
            have hlw := HS5.out.lw
            go_wp2_with (first
              | (at_builtin; refine wpList_append_own_at _ rfl _ _ 22 rfl w3.heap.size 43 j0 (.agg #[.string ⟨#[]⟩, .int .i64 0, .int .i64 0, .int .i64 0]) 4 40 Tryz.underlying22 hj0 hk0 hk1 hk2 rfl (by decide) _ _ _ rfl (hown.alloc _) ⟨w5.heap.size + 1, 0, none⟩ 1 1 [.string s, .int .i64 (1 + (mm : Int)), .int .i64 0, .int .i64 0] rfl rfl (cells_row _ _ (by first | (simp; done) | simp [World.setCell]) _ _) (by simp [Value.oneCell']) (by unfold maxLen; omega) (by omega) (by first | (simp at hlw ⊢; omega) | omega | (simp [World.setCell] at hlw ⊢; omega)) ?_)
              | fail)
            intro v' w9 hown9 hgrow _ hob
            have hS9 : St b sv zs w w.heap.size w1.heap.size G w3.heap.size w3.heap.size [.string ⟨#[]⟩, .string ⟨#[48, 49]⟩, .string ⟨#[48, 49, 46, 49]⟩, .string ⟨#[48, 49, 46, 50]⟩, .string ⟨#[48, 50]⟩] 43 4 (.slice none 0 0) [] _ [.int .i64 (dg : Int), .slice p n c, .slice none 0 0, .slice none 0 0, .slice none 0 0, .slice none 0 0] v' (n + 1) (flatR (RS ++ [⟨s, 1 + (mm : Int), 0, 0⟩])) w9 := (HS5.out.alloc _).grown (by rw [flatR_app]; exact hown9) hgrow
            obtain ⟨g9, cap9, rfl, _, _⟩ := World.ownsRow.form hown9 (by omega)
            have cC : w9.cell? ⟨w1.heap.size, 1, none⟩ = some (.slice p n c) := cell_blk hS9.k 1 _ rfl
            have fC : w9.frozen? ⟨w1.heap.size, 1, none⟩ = false := free_blk hS9.k 1
            have hB9 := hS9.sizes
            have HS9 := Lib.hid (hS9.store 1 (.slice (some ⟨g9, 0, none⟩) (n + 1) cap9))
            have HM9 : Hid (∀ r ∈ RS ++ [(⟨s, 1 + (mm : Int), 0, 0⟩ : RuleR)], r.c.size ≤ 10) := Lib.hid (fun r hr => by
              rcases List.mem_append.1 hr with h | h
              · exact HRS.out r h
              · simp at h; subst h; exact hs)
            have HN9 : Hid ((RS ++ [(⟨s, 1 + (mm : Int), 0, 0⟩ : RuleR)]).length = n + 1) := Lib.hid (by rw [List.length_append, HRN.out]; rfl)
            clear hown9 hgrow hown hob hS9 cB hlw
            go_wp2
            go_roundw
            case rel => exact ⟨k + 1, _, n + 1, _, _, by omega, by go_num, HN9.out, by omega, HM9.out, by omega, HS9.out⟩
            case measure => simp [intOf]; omega
          · have d1 : decide ((6 : Int) ≤ 1 + (mm : Int)) = true := by simp; omega
            have d2 : decide (1 + (mm : Int) ≤ 8) = false := by simp; omega
            have cB : (w5.alloc (.cells #[.string s, .int .i64 (1 + (mm : Int)), .int .i64 0, .int .i64 0] 43)).cell? ⟨w1.heap.size, 1, none⟩ = some (.slice p n c) := cell_blk HS5.out.k 1 _ rfl
            have hown := HS5.out.own
            have hlw := HS5.out.lw
            go_wp2_with (first
              | (at_builtin; refine wpList_append_own_at _ rfl _ _ 22 rfl w3.heap.size 43 j0 (.agg #[.string ⟨#[]⟩, .int .i64 0, .int .i64 0, .int .i64 0]) 4 40 Tryz.underlying22 hj0 hk0 hk1 hk2 rfl (by decide) _ _ _ rfl (hown.alloc _) ⟨w5.heap.size + 1, 0, none⟩ 1 1 [.string s, .int .i64 (1 + (mm : Int)), .int .i64 0, .int .i64 0] rfl rfl (cells_row _ _ (by first | (simp; done) | simp [World.setCell]) _ _) (by simp [Value.oneCell']) (by unfold maxLen; omega) (by omega) (by first | (simp at hlw ⊢; omega) | omega | (simp [World.setCell] at hlw ⊢; omega)) ?_)
              | fail)
            intro v' w9 hown9 hgrow _ hob
            have hS9 : St b sv zs w w.heap.size w1.heap.size G w3.heap.size w3.heap.size [.string ⟨#[]⟩, .string ⟨#[48, 49]⟩, .string ⟨#[48, 49, 46, 49]⟩, .string ⟨#[48, 49, 46, 50]⟩, .string ⟨#[48, 50]⟩] 43 4 (.slice none 0 0) [] _ [.int .i64 (dg : Int), .slice p n c, .slice none 0 0, .slice none 0 0, .slice none 0 0, .slice none 0 0] v' (n + 1) (flatR (RS ++ [⟨s, 1 + (mm : Int), 0, 0⟩])) w9 := (HS5.out.alloc _).grown (by rw [flatR_app]; exact hown9) hgrow
            obtain ⟨g9, cap9, rfl, _, _⟩ := World.ownsRow.form hown9 (by omega)
            have cC : w9.cell? ⟨w1.heap.size, 1, none⟩ = some (.slice p n c) := cell_blk hS9.k 1 _ rfl
            have fC : w9.frozen? ⟨w1.heap.size, 1, none⟩ = false := free_blk hS9.k 1
            have hB9 := hS9.sizes
            have HS9 := Lib.hid (hS9.store 1 (.slice (some ⟨g9, 0, none⟩) (n + 1) cap9))
            have HM9 : Hid (∀ r ∈ RS ++ [(⟨s, 1 + (mm : Int), 0, 0⟩ : RuleR)], r.c.size ≤ 10) := Lib.hid (fun r hr => by
              rcases List.mem_append.1 hr with h | h
              · exact HRS.out r h
              · simp at h; subst h; exact hs)
            have HN9 : Hid ((RS ++ [(⟨s, 1 + (mm : Int), 0, 0⟩ : RuleR)]).length = n + 1) := Lib.hid (by rw [List.length_append, HRN.out]; rfl)
            clear hown9 hgrow hown hob hS9 cB hlw
            go_wp2
            go_roundw
            case rel => exact ⟨k + 1, _, n + 1, _, _, by omega, by go_num, HN9.out, by omega, HM9.out, by omega, HS9.out⟩
            case measure => simp [intOf]; omega
          · have d1 : decide ((6 : Int) ≤ 1 + (mm : Int)) = true := by simp; omega
            have d2 : decide (1 + (mm : Int) ≤ 8) = true := by simp; omega
            go_wp2_with fail
            refine (next_st 2 HS5.out (by omega) (by omega) (by omega)).mono ?_
            rintro e w6 ⟨m2, hm2', rfl, hst6, ht6⟩
            have HS6 := Lib.hid hst6
            have HX6 : Hid (∀ j u, [Value.string s, .int .i64 (1 + (mm : Int)), .int .i64 0, .int .i64 0][j]? = some u → w6.cell? ⟨w5.heap.size, j, none⟩ = some u) := Lib.hid (fun j u hj => (ht6.cell HX5.out.sz (by omega)).trans (HX5.out.c j u hj))
            have HB6 := Lib.hid ((ht6.block _ (by rw [World.size_alloc]; omega) (by omega)).trans HB5.out)
            have hs6 : w5.heap.size + 1 ≤ w6.heap.size := by have := ht6.size; rw [World.size_alloc] at this; exact this
            clear hst6 ht6
            by_cases hm20 : m2 = 0
            · subst hm20
              go_wp2_with fail
              refine (next_st 4 HS6.out (by omega) (by omega) (by omega)).mono ?_
              rintro e w7 ⟨m3, hm3, rfl, hst7, ht7⟩
              have HS7 := Lib.hid hst7
              have HB7 := Lib.hid ((ht7.block _ (by omega) (by omega)).trans HB6.out)
              have hs7 : w5.heap.size + 1 ≤ w7.heap.size := by have := ht7.size; omega
              clear hst7 ht7
              go_wp2_with fail
              refine (next_st 4 HS7.out (by omega) (by omega) (by omega)).mono ?_
              rintro e w8 ⟨m4, hm4, rfl, hst8, ht8⟩
              have HW := Lib.hid ((hst8.other (B := w5.heap.size) hN5 HA5.out 2 (.int .i64 (2 + (m3 : Int)))).other (B := w5.heap.size) hN5 HA5.out 3 (.int .i64 (1 + (m4 : Int))))
              have hb8 := (ht8.block _ (by omega) (by omega)).trans HB7.out
              have cB : w8.cell? ⟨w1.heap.size, 1, none⟩ = some (.slice p n c) := cell_blk hst8.k 1 _ rfl
              have t0 : w8.cell? ⟨w5.heap.size, 0, none⟩ = some (.string s) := cell_blk hb8 0 _ rfl
              have t1 : w8.cell? ⟨w5.heap.size, 1, none⟩ = some (.int .i64 (1 + (mm : Int))) := cell_blk hb8 1 _ rfl
              have t2 : w8.cell? ⟨w5.heap.size, 2, none⟩ = some (.int .i64 0) := cell_blk hb8 2 _ rfl
              have t3 : w8.cell? ⟨w5.heap.size, 3, none⟩ = some (.int .i64 0) := cell_blk hb8 3 _ rfl
              have u2 : w8.frozen? ⟨w5.heap.size, 2, none⟩ = false := free_blk hb8 2
              have u3 : w8.frozen? ⟨w5.heap.size, 3, none⟩ = false := free_blk hb8 3
              have hs8 : w5.heap.size < w8.heap.size := (Array.getElem?_eq_some_iff.1 hb8).1
              have hne1 : ¬ w1.heap.size = w5.heap.size := by omega
              have hne2 : ¬ w5.heap.size = w1.heap.size := by omega
              clear hst8 ht8 hb8
              have hown := HW.out.own
              have hlw := HW.out.lw
              go_wp2_with (first
                | (at_builtin; refine wpList_append_own_at _ rfl _ _ 22 rfl w3.heap.size 43 j0 (.agg #[.string ⟨#[]⟩, .int .i64 0, .int .i64 0, .int .i64 0]) 4 40 Tryz.underlying22 hj0 hk0 hk1 hk2 rfl (by decide) _ _ _ rfl (hown.alloc _) ⟨w8.heap.size, 0, none⟩ 1 1 [.string s, .int .i64 (1 + (mm : Int)), .int .i64 (2 + (m3 : Int)), .int .i64 (1 + (m4 : Int))] rfl rfl (cells_row _ _ (by first | (simp; done) | simp [World.setCell]) _ _) (by simp [Value.oneCell']) (by unfold maxLen; omega) (by omega) (by first | (simp at hlw ⊢; omega) | omega | (simp [World.setCell] at hlw ⊢; omega)) ?_)
                | fail)
              intro v' w9 hown9 hgrow _ hob
              have hS9 : St b sv zs w w.heap.size w1.heap.size G w3.heap.size w3.heap.size [.string ⟨#[]⟩, .string ⟨#[48, 49]⟩, .string ⟨#[48, 49, 46, 49]⟩, .string ⟨#[48, 49, 46, 50]⟩, .string ⟨#[48, 50]⟩] 43 4 (.slice none 0 0) [] _ [.int .i64 (dg : Int), .slice p n c, .slice none 0 0, .slice none 0 0, .slice none 0 0, .slice none 0 0] v' (n + 1) (flatR (RS ++ [⟨s, 1 + (mm : Int), (2 + (m3 : Int)), (1 + (m4 : Int))⟩])) w9 := (HW.out.alloc _).grown (by rw [flatR_app]; exact hown9) hgrow
              obtain ⟨g9, cap9, rfl, _, _⟩ := World.ownsRow.form hown9 (by omega)
              have cC : w9.cell? ⟨w1.heap.size, 1, none⟩ = some (.slice p n c) := cell_blk hS9.k 1 _ rfl
              have fC : w9.frozen? ⟨w1.heap.size, 1, none⟩ = false := free_blk hS9.k 1
              have hB9 := hS9.sizes
              have HS9 := Lib.hid (hS9.store 1 (.slice (some ⟨g9, 0, none⟩) (n + 1) cap9))
              have HM9 : Hid (∀ r ∈ RS ++ [(⟨s, 1 + (mm : Int), (2 + (m3 : Int)), (1 + (m4 : Int))⟩ : RuleR)], r.c.size ≤ 10) := Lib.hid (fun r hr => by
                rcases List.mem_append.1 hr with h | h
                · exact HRS.out r h
                · simp at h; subst h; exact hs)
              have HN9 : Hid ((RS ++ [(⟨s, 1 + (mm : Int), (2 + (m3 : Int)), (1 + (m4 : Int))⟩ : RuleR)]).length = n + 1) := Lib.hid (by rw [List.length_append, HRN.out]; rfl)
              clear hown9 hgrow hown hob hS9 cB hlw
              go_wp2
              go_roundw
              case rel => exact ⟨k + 1, _, n + 1, _, _, by omega, by go_num, HN9.out, by omega, HM9.out, by omega, HS9.out⟩
              case measure => simp [intOf]; omega
            · have hmz : ((m2 : Int) == 0) = false := by simp; omega
              have t0 : w6.cell? ⟨w5.heap.size, 0, none⟩ = some (.string s) := HX6.out 0 _ rfl
              have t1 : w6.cell? ⟨w5.heap.size, 1, none⟩ = some (.int .i64 (1 + (mm : Int))) := HX6.out 1 _ rfl
              have t2 : w6.cell? ⟨w5.heap.size, 2, none⟩ = some (.int .i64 0) := HX6.out 2 _ rfl
              have t3 : w6.cell? ⟨w5.heap.size, 3, none⟩ = some (.int .i64 0) := HX6.out 3 _ rfl
              have cB : w6.cell? ⟨w1.heap.size, 1, none⟩ = some (.slice p n c) := cell_blk HS6.out.k 1 _ rfl
              have hown := HS6.out.own
              have hlw := HS6.out.lw
              go_wp2_with (first
                | (at_builtin; refine wpList_append_own_at _ rfl _ _ 22 rfl w3.heap.size 43 j0 (.agg #[.string ⟨#[]⟩, .int .i64 0, .int .i64 0, .int .i64 0]) 4 40 Tryz.underlying22 hj0 hk0 hk1 hk2 rfl (by decide) _ _ _ rfl (hown.alloc _) ⟨w6.heap.size, 0, none⟩ 1 1 [.string s, .int .i64 (1 + (mm : Int)), .int .i64 0, .int .i64 0] rfl rfl (cells_row _ _ (by first | (simp; done) | simp [World.setCell]) _ _) (by simp [Value.oneCell']) (by unfold maxLen; omega) (by omega) (by first | (simp at hlw ⊢; omega) | omega | (simp [World.setCell] at hlw ⊢; omega)) ?_)
                | fail)
              intro v' w9 hown9 hgrow _ hob
              have hS9 : St b sv zs w w.heap.size w1.heap.size G w3.heap.size w3.heap.size [.string ⟨#[]⟩, .string ⟨#[48, 49]⟩, .string ⟨#[48, 49, 46, 49]⟩, .string ⟨#[48, 49, 46, 50]⟩, .string ⟨#[48, 50]⟩] 43 4 (.slice none 0 0) [] _ [.int .i64 (dg : Int), .slice p n c, .slice none 0 0, .slice none 0 0, .slice none 0 0, .slice none 0 0] v' (n + 1) (flatR (RS ++ [⟨s, 1 + (mm : Int), 0, 0⟩])) w9 := (HS6.out.alloc _).grown (by rw [flatR_app]; exact hown9) hgrow
              obtain ⟨g9, cap9, rfl, _, _⟩ := World.ownsRow.form hown9 (by omega)
              have cC : w9.cell? ⟨w1.heap.size, 1, none⟩ = some (.slice p n c) := cell_blk hS9.k 1 _ rfl
              have fC : w9.frozen? ⟨w1.heap.size, 1, none⟩ = false := free_blk hS9.k 1
              have hB9 := hS9.sizes
              have HS9 := Lib.hid (hS9.store 1 (.slice (some ⟨g9, 0, none⟩) (n + 1) cap9))
              have HM9 : Hid (∀ r ∈ RS ++ [(⟨s, 1 + (mm : Int), 0, 0⟩ : RuleR)], r.c.size ≤ 10) := Lib.hid (fun r hr => by
                rcases List.mem_append.1 hr with h | h
                · exact HRS.out r h
                · simp at h; subst h; exact hs)
              have HN9 : Hid ((RS ++ [(⟨s, 1 + (mm : Int), 0, 0⟩ : RuleR)]).length = n + 1) := Lib.hid (by rw [List.length_append, HRN.out]; rfl)
              clear hown9 hgrow hown hob hS9 cB hlw
              go_wp2
              go_roundw
              case rel => exact ⟨k + 1, _, n + 1, _, _, by omega, by go_num, HN9.out, by omega, HM9.out, by omega, HS9.out⟩
              case measure => simp [intOf]; omega
        · have hmz : ((m : Int) == 0) = false := by simp; omega
          go_wp2
          go_roundw
          case rel => exact ⟨k + 1, RS, n, i' + 1, _, by omega, by go_num, HRN.out, by omega, HRS.out, by omega, HS4.out⟩
          case measure => simp [intOf]; omega
    · clear hst hrs hRn
      go_wp2_with fail
      refine (chains_any b sv zs i' _ HR.out.tape (by omega)).mono ?_
      rintro e wc ⟨vc, nc, xc, ic, rfl, hownc, hnc, hic, hgc⟩
      obtain ⟨pc, cc, rfl⟩ := own_form hownc
      have hsc := HR.out.touched hgc.tape hgc.touch
      have c2 : wc.cell? ⟨w1.heap.size, 2, none⟩ = some (.slice none 0 0) := cell_blk hsc.k 2 _ rfl
      have f2 : wc.frozen? ⟨w1.heap.size, 2, none⟩ = false := free_blk hsc.k 2
      have hb2 := hsc.sizes
      have hX2 := Box.new (wc.setCell ⟨w1.heap.size, 2, none⟩ (.slice pc nc cc)) [.string ⟨#[99, 111, 114, 101]⟩, .string ⟨#[101, 110, 101, 114, 103, 121]⟩] 9
      have hz2' : ((wc.setCell ⟨w1.heap.size, 2, none⟩ (.slice pc nc cc))).heap.size = wc.heap.size := by simp [World.setCell]
      rw [hz2'] at hX2
      obtain ⟨W2, hW2⟩ : ∃ W, W = (wc.setCell ⟨w1.heap.size, 2, none⟩ (.slice pc nc cc)).alloc (.cells #[.string ⟨#[99, 111, 114, 101]⟩, .string ⟨#[101, 110, 101, 114, 103, 121]⟩] 9) := ⟨_, rfl⟩
      have HS2 : Hid (St b sv zs w w.heap.size w1.heap.size wc.heap.size W2.heap.size W2.heap.size [.string ⟨#[99, 111, 114, 101]⟩, .string ⟨#[101, 110, 101, 114, 103, 121]⟩] 61 3 (.slice p n c) RS ic [.int .i64 (dg : Int), .slice p n c, .slice pc nc cc, .slice none 0 0, .slice none 0 0, .slice none 0 0] (.slice none 0 0) 0 [] W2) := Lib.hid (by
        rw [hW2]
        exact ((hsc.store 2 (.slice pc nc cc)).alloc _).first HRN.out 61 3 (fun j u hj => hX2.c j u hj) (by show w1.heap.size < wc.heap.size; omega) hX2.sz)
      have HRL := Lib.hid HRS.out
      clear hownc hgc hsc hX2
      go_wp2_with fail
      rw [← hW2]
      clear hW2 c2 f2 hb2 HR hz2'
      go_loopw [80] (fun q wr => ∃ (k m i' : Nat) (v : Value) (xs : List Value), k ≤ 2 ∧ q = .int .i64 k ∧ m ≤ k ∧ i' ≤ ic + 5 * k ∧ St b sv zs w w.heap.size w1.heap.size wc.heap.size W2.heap.size W2.heap.size [.string ⟨#[99, 111, 114, 101]⟩, .string ⟨#[101, 110, 101, 114, 103, 121]⟩] 61 3 (.slice p n c) RS i' [.int .i64 (dg : Int), .slice p n c, .slice pc nc cc, v, .slice none 0 0, .slice none 0 0] v m xs wr) (fun q _ => 2 - (intOf q).toNat)
      case atStart => exact ⟨0, 0, _, _, _, by omega, rfl, by omega, by omega, HS2.out⟩
      case round =>
        obtain ⟨k, m2, i2, v, xs2, hk, rfl, hm2, hi2, hst⟩ := hrel
        have HR := Lib.hid hst
        obtain ⟨pv2, cv2, rfl⟩ := own_form hst.own
        by_cases hlt : k < 2
        · have hstr : ∃ s : ByteArray, s.size ≤ 10 ∧ wr.cell? ⟨wc.heap.size, k, none⟩ = some (.string s) := by
            have h5 : k = 0 ∨ k = 1 := by omega
            rcases h5 with rfl | rfl
            · exact ⟨_, by decide, hst.str 0 _ rfl⟩
            · exact ⟨_, by decide, hst.str 1 _ rfl⟩
          obtain ⟨s, hs, hc⟩ := hstr
          clear hst
          go_wp2_with fail
          refine (next_st 2 HR.out (by omega) (by omega) (by omega)).mono ?_
          rintro e wx ⟨mm, hmm, rfl, hstx, htx⟩
          have HSX := Lib.hid hstx
          clear hstx htx hc
          by_cases hm0 : mm = 0
          · subst hm0
            go_upto_region 16 with fail
            refine wp_region_inv 19 (fun a0 _ => IV 87 19 (R16 b w1.heap.size (.slice pv2 m2 cv2) s) (Kt (i2 + 1) 8 1 14 1 (fun i9 wy => St b sv zs w w.heap.size w1.heap.size wc.heap.size W2.heap.size W2.heap.size [.string ⟨#[99, 111, 114, 101]⟩, .string ⟨#[101, 110, 101, 114, 103, 121]⟩] 61 3 (.slice p n c) RS i9 [.int .i64 (dg : Int), .slice p n c, .slice pc nc cc, .slice pv2 m2 cv2, .slice none 0 0, .slice none 0 0] (.slice pv2 m2 cv2) m2 xs2 wy)) a0) (by kernel_rfl) (by decide) (by kernel_rfl) (by kernel_rfl) (by kernel_rfl) (by kernel_rfl) (by kernel_rfl) (IV.start (Kt.start (HSX.out.below (Below.refl _ _).drew))) ?_ ?_
            · refine (And.intro ?_ (And.intro ?_ (And.intro ?_ (And.intro ?_ (And.intro ?_ (And.intro ?_ (And.intro ?_ (And.intro ?_ (And.intro ?_ (And.intro ?_ (And.intro ?_ (And.intro ?_ (And.intro ?_ (And.intro ?_ (And.intro ?_ (And.intro ?_ (And.intro ?_ (And.intro ?_ (And.intro ?_ trivial)))))))))))))))))))
              · intro listed a wy hI hu hd
                obtain ⟨i9, hj9, hi9, hst⟩ := hI.world.open
                have hby := hst.tape.lt
                have f5 : (a.tmps[5]?).getD undef = .pointer (some ⟨w1.heap.size, 0, none⟩) := hI.slot 5 (by decide)
                refine keep_op fun K hK => ?_
                clear hd
                have hI := Lib.hid hI
                go_simp
                exact hK _ _ (hI.out.put 0 (by decide) (Nat.le_of_ble_eq_true rfl) _ (hI.out.world.other 0 (by decide) (by decide) (fun _ h => h)) (fun _ _ h => h) rfl)
              · intro listed a wy hI hu hd
                obtain ⟨i9, hj9, hi9, hst⟩ := hI.world.open
                have hby := hst.tape.lt
                have d0 : listed.getD 0 false = true := hd ⟨0, .data⟩ (by simp) rfl
                have e0 : (a.tmps[87]?).getD undef = .pointer (some ⟨w1.heap.size, 3, none⟩) := hI.val 0 (by decide) d0 87 rfl
                have c3 : wy.cell? ⟨w1.heap.size, 3, none⟩ = some (.slice pv2 m2 cv2) := cell_blk hst.k 3 _ rfl
                refine keep_op fun K hK => ?_
                clear hd
                have hI := Lib.hid hI
                go_simp
                exact hK _ _ (hI.out.put 1 (by decide) (Nat.le_of_ble_eq_true rfl) _ (hI.out.world.other 1 (by decide) (by decide) (fun _ h => h)) (fun _ _ h => h) rfl)
              · intro listed a wy hI hu hd
                obtain ⟨i9, hj9, hi9, hst⟩ := hI.world.open
                have hby := hst.tape.lt
                have f10 : (a.tmps[10]?).getD undef = .string s := hI.slot 10 (by decide)
                refine keep_op fun K hK => ?_
                clear hd
                have hI := Lib.hid hI
                go_simp
                exact hK _ _ (hI.out.put 2 (by decide) (Nat.le_of_ble_eq_true rfl) _ (hI.out.world.other 2 (by decide) (by decide) (fun _ h => h)) (fun _ _ h => h) rfl)
              · intro listed a wy hI hu hd
                obtain ⟨i9, hj9, hi9, hst⟩ := hI.world.open
                have hby := hst.tape.lt
                refine keep_op fun K hK => ?_
                clear hd
                have hI := Lib.hid hI
                go_simp
                exact hK _ _ (hI.out.put 3 (by decide) (Nat.le_of_ble_eq_true rfl) _ (hI.out.world.other 3 (by decide) (by decide) (fun _ h => h.alloc _)) (R16.touch (Touch.new _ _ _)) ⟨_, _, _, rfl⟩)
              · intro listed a wy hI hu hd
                obtain ⟨i9, hj9, hi9, hst⟩ := hI.world.open
                have hby := hst.tape.lt
                refine keep_op fun K hK => ?_
                clear hd
                have hI := Lib.hid hI
                go_simp
                exact hK _ _ (hI.out.put 4 (by decide) (Nat.le_of_ble_eq_true rfl) _ (hI.out.world.other 4 (by decide) (by decide) (fun _ h => h.alloc _)) (R16.touch (Touch.new _ _ _)) ⟨_, _, _, rfl⟩)
              · intro listed a wy hI hu hd
                obtain ⟨i9, hj9, hi9, hst⟩ := hI.world.open
                have hby := hst.tape.lt
                refine keep_op fun K hK => ?_
                clear hd
                have hI := Lib.hid hI
                go_simp
                exact hK _ _ (hI.out.put 5 (by decide) (Nat.le_of_ble_eq_true rfl) _ (hI.out.world.other 5 (by decide) (by decide) (fun _ h => h.alloc _)) (R16.touch (Touch.new _ _ _)) ⟨_, _, _, rfl⟩)
              · intro listed a wy hI hu hd
                obtain ⟨i9, hj9, hi9, hst⟩ := hI.world.open
                have hby := hst.tape.lt
                have d3 : listed.getD 3 false = true := hd ⟨3, .data⟩ (by simp) rfl
                obtain ⟨q3, m3, c3, e3⟩ := hI.val 3 (by decide) d3 90 rfl
                have d4 : listed.getD 4 false = true := hd ⟨4, .data⟩ (by simp) rfl
                obtain ⟨q4, m4, c4, e4⟩ := hI.val 4 (by decide) d4 91 rfl
                have d5 : listed.getD 5 false = true := hd ⟨5, .data⟩ (by simp) rfl
                obtain ⟨q5, m5, c5, e5⟩ := hI.val 5 (by decide) d5 92 rfl
                refine keep_op fun K hK => ?_
                clear hd
                have hI := Lib.hid hI
                go_simp
                exact hK _ _ (hI.out.put 6 (by decide) (Nat.le_of_ble_eq_true rfl) _ (hI.out.world.other 6 (by decide) (by decide) (fun _ h => h.alloc _)) (R16.touch (Touch.new _ _ _)) ⟨wy.heap.size, rfl, SlAt.new hby [.slice q3 m3 c3, .slice q4 m4 c4, .slice q5 m5 c5] _ 3 (Nat.le_refl 3) (by simp [IsSl])⟩)
              · intro listed a wy hI hu hd
                obtain ⟨i9, hj9, hi9, hst⟩ := hI.world.open
                have hby := hst.tape.lt
                have f0 : (a.tmps[0]?).getD undef = .pointer (some ⟨b, 0, none⟩) := hI.slot 0 (by decide)
                refine keep_op fun K hK => ?_
                clear hd
                have hI := Lib.hid hI
                go_simp
                exact hK _ _ (hI.out.put 7 (by decide) (Nat.le_of_ble_eq_true rfl) _ (hI.out.world.other 7 (by decide) (by decide) (fun _ h => h)) (fun _ _ h => h) rfl)
              · intro listed a wy hI hu hd
                obtain ⟨i9, hj9, hi9, hst⟩ := hI.world.open
                have hby := hst.tape.lt
                have d7 : listed.getD 7 false = true := hd ⟨7, .data⟩ (by simp) rfl
                have e7 : (a.tmps[94]?).getD undef = .pointer (some ⟨b, 0, none⟩) := hI.val 7 (by decide) d7 94 rfl
                refine keep_op fun K hK => ?_
                clear hd
                have hI := Lib.hid hI
                go_simp
                refine (next_st 3 hst (by omega) (by omega) (by omega)).mono ?_
                rintro e w9 ⟨mm9, hmm9, rfl, hst9, ht9⟩
                exact hK _ _ (hI.out.put 8 (by decide) (Nat.le_of_ble_eq_true rfl) _ (Kt.fst hu (by decide) hi9 (Nat.le_refl _) hst9) (R16.touch ht9) ⟨mm9, hmm9, rfl⟩)
              · intro listed a wy hI hu hd
                obtain ⟨i9, hj9, hi9, hst⟩ := hI.world.open
                have hby := hst.tape.lt
                have d6 : listed.getD 6 false = true := hd ⟨6, .data⟩ (by simp) rfl
                obtain ⟨B9, e6, hB9⟩ := hI.val 6 (by decide) d6 93 rfl
                have d8 : listed.getD 8 false = true := hd ⟨8, .data⟩ (by simp) rfl
                obtain ⟨mm8, hmm8, e8⟩ := hI.val 8 (by decide) d8 95 rfl
                have hlt3 : (mm8 : Int) < 3 := by omega
                refine keep_op fun K hK => ?_
                clear hd
                have hI := Lib.hid hI
                go_simp
                exact hK _ _ (hI.out.put 9 (by decide) (Nat.le_of_ble_eq_true rfl) _ (hI.out.world.other 9 (by decide) (by decide) (fun _ h => h)) (fun _ _ h => h) ⟨B9, mm8, by first | rfl | simp, hB9.1, hB9.2.1, hB9.2.2 mm8 hmm8⟩)
              · intro listed a wy hI hu hd
                obtain ⟨i9, hj9, hi9, hst⟩ := hI.world.open
                have hby := hst.tape.lt
                have d9 : listed.getD 9 false = true := hd ⟨9, .data⟩ (by simp) rfl
                obtain ⟨B9, j9, e9, hB9a, hB9b, u9, hB9c, q9, m9, c9, rfl⟩ := hI.val 9 (by decide) d9 96 rfl
                refine keep_op fun K hK => ?_
                clear hd
                have hI := Lib.hid hI
                go_simp
                exact hK _ _ (hI.out.put 10 (by decide) (Nat.le_of_ble_eq_true rfl) _ (hI.out.world.other 10 (by decide) (by decide) (fun _ h => h)) (fun _ _ h => h) ⟨q9, m9, c9, rfl⟩)
              · intro listed a wy hI hu hd
                obtain ⟨i9, hj9, hi9, hst⟩ := hI.world.open
                have hby := hst.tape.lt
                refine keep_op fun K hK => ?_
                clear hd
                have hI := Lib.hid hI
                go_simp
                exact hK _ _ (hI.out.put 11 (by decide) (Nat.le_of_ble_eq_true rfl) _ (hI.out.world.other 11 (by decide) (by decide) (fun _ h => h.alloc _)) (R16.touch (Touch.new _ _ _)) ⟨_, _, _, rfl⟩)
              · intro listed a wy hI hu hd
                obtain ⟨i9, hj9, hi9, hst⟩ := hI.world.open
                have hby := hst.tape.lt
                have d11 : listed.getD 11 false = true := hd ⟨11, .data⟩ (by simp) rfl
                obtain ⟨q3, m3, c3, e3⟩ := hI.val 11 (by decide) d11 98 rfl
                refine keep_op fun K hK => ?_
                clear hd
                have hI := Lib.hid hI
                go_simp
                exact hK _ _ (hI.out.put 12 (by decide) (Nat.le_of_ble_eq_true rfl) _ (hI.out.world.other 12 (by decide) (by decide) (fun _ h => h.alloc _)) (R16.touch (Touch.new _ _ _)) ⟨wy.heap.size, rfl, SlAt.new hby [.slice none 0 0, .slice q3 m3 c3] _ 2 (Nat.le_refl 2) (by simp [IsSl])⟩)
              · intro listed a wy hI hu hd
                obtain ⟨i9, hj9, hi9, hst⟩ := hI.world.open
                have hby := hst.tape.lt
                have f0 : (a.tmps[0]?).getD undef = .pointer (some ⟨b, 0, none⟩) := hI.slot 0 (by decide)
                refine keep_op fun K hK => ?_
                clear hd
                have hI := Lib.hid hI
                go_simp
                exact hK _ _ (hI.out.put 13 (by decide) (Nat.le_of_ble_eq_true rfl) _ (hI.out.world.other 13 (by decide) (by decide) (fun _ h => h)) (fun _ _ h => h) rfl)
              · intro listed a wy hI hu hd
                obtain ⟨i9, hj9, hi9, hst⟩ := hI.world.open
                have hby := hst.tape.lt
                have d13 : listed.getD 13 false = true := hd ⟨13, .data⟩ (by simp) rfl
                have e13 : (a.tmps[100]?).getD undef = .pointer (some ⟨b, 0, none⟩) := hI.val 13 (by decide) d13 100 rfl
                refine keep_op fun K hK => ?_
                clear hd
                have hI := Lib.hid hI
                go_simp
                refine (next_st 2 hst (by omega) (by omega) (by omega)).mono ?_
                rintro e w9 ⟨mm9, hmm9, rfl, hst9, ht9⟩
                exact hK _ _ (hI.out.put 14 (by decide) (Nat.le_of_ble_eq_true rfl) _ (Kt.snd hu (by decide) hi9 (Nat.le_refl _) hst9) (R16.touch ht9) ⟨mm9, hmm9, rfl⟩)
              · intro listed a wy hI hu hd
                obtain ⟨i9, hj9, hi9, hst⟩ := hI.world.open
                have hby := hst.tape.lt
                have d12 : listed.getD 12 false = true := hd ⟨12, .data⟩ (by simp) rfl
                obtain ⟨B9, e12, hB9⟩ := hI.val 12 (by decide) d12 99 rfl
                have d14 : listed.getD 14 false = true := hd ⟨14, .data⟩ (by simp) rfl
                obtain ⟨mm8, hmm8, e14⟩ := hI.val 14 (by decide) d14 101 rfl
                have hlt3 : (mm8 : Int) < 2 := by omega
                refine keep_op fun K hK => ?_
                clear hd
                have hI := Lib.hid hI
                go_simp
                exact hK _ _ (hI.out.put 15 (by decide) (Nat.le_of_ble_eq_true rfl) _ (hI.out.world.other 15 (by decide) (by decide) (fun _ h => h)) (fun _ _ h => h) ⟨B9, mm8, by first | rfl | simp, hB9.1, hB9.2.1, hB9.2.2 mm8 hmm8⟩)
              · intro listed a wy hI hu hd
                obtain ⟨i9, hj9, hi9, hst⟩ := hI.world.open
                have hby := hst.tape.lt
                have d15 : listed.getD 15 false = true := hd ⟨15, .data⟩ (by simp) rfl
                obtain ⟨B9, j9, e9, hB9a, hB9b, u9, hB9c, q9, m9, c9, rfl⟩ := hI.val 15 (by decide) d15 102 rfl
                refine keep_op fun K hK => ?_
                clear hd
                have hI := Lib.hid hI
                go_simp
                exact hK _ _ (hI.out.put 16 (by decide) (Nat.le_of_ble_eq_true rfl) _ (hI.out.world.other 16 (by decide) (by decide) (fun _ h => h)) (fun _ _ h => h) ⟨q9, m9, c9, rfl⟩)
              · intro listed a wy hI hu hd
                obtain ⟨i9, hj9, hi9, hst⟩ := hI.world.open
                have hby := hst.tape.lt
                have d2 : listed.getD 2 false = true := hd ⟨2, .data⟩ (by simp) rfl
                have e2 : (a.tmps[89]?).getD undef = .string s := hI.val 2 (by decide) d2 89 rfl
                have d10 : listed.getD 10 false = true := hd ⟨10, .data⟩ (by simp) rfl
                obtain ⟨q9, m9, c9, e10⟩ := hI.val 10 (by decide) d10 97 rfl
                have d16 : listed.getD 16 false = true := hd ⟨16, .data⟩ (by simp) rfl
                obtain ⟨q8, m8, c8, e16⟩ := hI.val 16 (by decide) d16 103 rfl
                refine keep_op fun K hK => ?_
                clear hd
                have hI := Lib.hid hI
                go_simp
                exact hK _ _ (hI.out.put 17 (by decide) (Nat.le_of_ble_eq_true rfl) _ (hI.out.world.other 17 (by decide) (by decide) (fun _ h => h)) (fun _ _ h => h) ⟨q9, m9, c9, q8, m8, c8, rfl⟩)
              · intro listed a wy hI hu hd
                obtain ⟨i9, hj9, hi9, hst⟩ := hI.world.open
                have hby := hst.tape.lt
                have d17 : listed.getD 17 false = true := hd ⟨17, .data⟩ (by simp) rfl
                obtain ⟨q9, m9, c9, q8, m8, c8, e17⟩ := hI.val 17 (by decide) d17 104 rfl
                refine keep_op fun K hK => ?_
                clear hd
                have hI := Lib.hid hI
                go_simp
                exact hK _ _ (hI.out.put 18 (by decide) (Nat.le_of_ble_eq_true rfl) _ (hI.out.world.other 18 (by decide) (by decide) (fun _ h => h.alloc _)) (R16.touch (Touch.new _ _ _)) ⟨wy.heap.size, q9, m9, c9, q8, m8, c8, rfl, by omega, by simp, (Box.new wy [.string s, .slice q9 m9 c9, .slice q8 m8 c8] 61).c 0 _ rfl, (Box.new wy [.string s, .slice q9 m9 c9, .slice q8 m8 c8] 61).c 1 _ rfl, (Box.new wy [.string s, .slice q9 m9 c9, .slice q8 m8 c8] 61).c 2 _ rfl⟩)
            · intro listed a wy hI hl
              obtain ⟨i9, hi9, hst⟩ := hI.world.fin
              obtain ⟨u, rfl, hu⟩ := IV.fin hI (Nat.le_of_ble_eq_true rfl) hl
              have e1 : u 1 = .slice pv2 m2 cv2 := hu 1 (by decide)
              obtain ⟨B, q9, m9, c9, q8, m8, c8, eB, hB0, hB1, b0, b1, b2⟩ := hu 18 (by decide)
              have HS9 := Lib.hid hst
              have hown := hst.own
              have hlw := hst.lw
              have hcells : ∀ (q : Nat) x, ([.string s, .slice q9 m9 c9, .slice q8 m8 c8] : List Value)[q]? = some x → wy.cell? ⟨B, q, none⟩ = some x := by
                intro q x hq
                match q, hq with
                | 0, hq => cases hq; exact b0
                | 1, hq => cases hq; exact b1
                | 2, hq => cases hq; exact b2
                | q + 3, hq => simp at hq
              have hnews : ∀ (q : Nat) x, ([.string s, .slice q9 m9 c9, .slice q8 m8 c8] : List Value)[q]? = some x → wy.cell? ((⟨B, 0, none⟩ : Addr).add q) = some x := by
                intro q x hq
                have hadd : ((⟨B, 0, none⟩ : Addr).add q) = ⟨B, q, none⟩ := by simp [Addr.add]; try omega
                rw [hadd]
                exact hcells q x hq
              clear hI hl hu hst HSX
              simp only [putN, Act.put, e1, eB, Nat.reduceAdd, List.setIfInBounds_toArray, List.set_cons_succ, List.set_cons_zero, List.drop_succ_cons, List.drop_zero]
              generalize u 0 = u0; generalize u 2 = u2; generalize u 3 = u3; generalize u 4 = u4; generalize u 5 = u5; generalize u 6 = u6; generalize u 7 = u7; generalize u 8 = u8; generalize u 9 = u9; generalize u 10 = u10; generalize u 11 = u11; generalize u 12 = u12; generalize u 13 = u13; generalize u 14 = u14; generalize u 15 = u15; generalize u 16 = u16; generalize u 17 = u17
              clear e1 eB
              go_wp2_with (first
                | (at_builtin; refine wpList_append_own_at _ rfl _ _ 24 rfl W2.heap.size 61 s0 (.agg #[.string ⟨#[]⟩, .slice none 0 0, .slice none 0 0]) 3 64 Tryz.underlying24 hs0 hsz0 hsz1 hsz2 rfl (by decide) _ _ _ rfl hown ⟨B, 0, none⟩ 1 1 [.string s, .slice q9 m9 c9, .slice q8 m8 c8] rfl rfl hnews (by simp [Value.oneCell']) (by unfold maxLen; omega) (by omega) (by omega) ?_)
                | fail)
              intro v' w9 hown9 hgrow _ hob
              have hS9 : St b sv zs w w.heap.size w1.heap.size wc.heap.size W2.heap.size W2.heap.size [.string ⟨#[99, 111, 114, 101]⟩, .string ⟨#[101, 110, 101, 114, 103, 121]⟩] 61 3 (.slice p n c) RS i9 [.int .i64 (dg : Int), .slice p n c, .slice pc nc cc, .slice pv2 m2 cv2, .slice none 0 0, .slice none 0 0] v' (m2 + 1) _ w9 := HS9.out.grown hown9 hgrow
              obtain ⟨g9, cap9, rfl, _, _⟩ := World.ownsRow.form hown9 (by omega)
              have cC : w9.cell? ⟨w1.heap.size, 3, none⟩ = some (.slice pv2 m2 cv2) := cell_blk hS9.k 3 _ rfl
              have fC : w9.frozen? ⟨w1.heap.size, 3, none⟩ = false := free_blk hS9.k 3
              have hB9 := hS9.sizes
              have HS10 := Lib.hid (hS9.store 3 (.slice (some ⟨g9, 0, none⟩) (m2 + 1) cap9))
              clear hown9 hgrow hown hob hS9 hlw hnews hcells b0 b1 b2
              go_wp2
              go_roundw
              case rel => exact ⟨k + 1, m2 + 1, i9, _, _, by omega, by go_num, by omega, by omega, HS10.out⟩
              case measure => simp [intOf]; omega
          · have hmz : ((mm : Int) == 0) = false := by simp; omega
            go_wp2
            go_roundw
            case rel => exact ⟨k + 1, m2, i2 + 1, _, _, by omega, by go_num, by omega, by omega, HSX.out⟩
            case measure => simp [intOf]; omega
        · clear hst
          obtain ⟨wr3, rfl⟩ : ∃ W, W = wr := ⟨wr, rfl⟩
          have HSA := Lib.hid ((HR.out.alloc (.cells #[.string ⟨#[]⟩] 9)).alloc (.cells #[.string ⟨#[48, 49]⟩, .string ⟨#[48, 49, 46, 49]⟩, .string ⟨#[48, 49, 46, 50]⟩, .string ⟨#[48, 50]⟩] 9))
          have hownS : ((wr3.alloc (.cells #[.string ⟨#[]⟩] 9)).alloc (.cells #[.string ⟨#[48, 49]⟩, .string ⟨#[48, 49, 46, 49]⟩, .string ⟨#[48, 49, 46, 50]⟩, .string ⟨#[48, 50]⟩] 9)).ownsRow wr3.heap.size 9 1 (.slice (some ⟨wr3.heap.size, 0, none⟩) 1 1) 1 [.string ⟨#[]⟩] :=
            (World.ownsRow_lit (e := 9) (size := 1) (base := wr3.heap.size) wr3 #[.string ⟨#[]⟩] 1 (Nat.le_refl _) (by decide) rfl).alloc _
          have HCD := Lib.hid (cells_row (wr3.alloc (.cells #[.string ⟨#[]⟩] 9)) (wr3.heap.size + 1) (by simp) [.string ⟨#[48, 49]⟩, .string ⟨#[48, 49, 46, 49]⟩, .string ⟨#[48, 49, 46, 50]⟩, .string ⟨#[48, 50]⟩] 9)
          have hlw3 := HR.out.lw
          have hsz3 := HR.out.sizes
          go_wp2_with fail
          refine (codes_at _).mono ?_
          rintro e wq ⟨rfl, rfl⟩
          go_wp2_with (first
            | (at_builtin; refine wpList_append_own_at _ rfl _ _ 40 rfl wr3.heap.size 9 i0 (.string ⟨#[]⟩) 1 16 Tryz.underlying40 hi0 hz0 hz1 hz2 rfl (by decide) _ 1 _ rfl hownS ⟨wr3.heap.size + 1, 0, none⟩ 4 4 [.string ⟨#[48, 49]⟩, .string ⟨#[48, 49, 46, 49]⟩, .string ⟨#[48, 49, 46, 50]⟩, .string ⟨#[48, 50]⟩] rfl rfl HCD.out (by simp [Value.oneCell']) (by unfold maxLen; omega) (by omega) (by simp <;> omega) ?_)
            | fail)
          intro v' W3 hown5 hgrow _ hob
          obtain ⟨G3, cap3, rfl, hG3b, hG3l⟩ := World.ownsRow.form hown5 (by omega)
          have HS3 : Hid (St b sv zs w w.heap.size w1.heap.size G3 W3.heap.size W2.heap.size [.string ⟨#[]⟩, .string ⟨#[48, 49]⟩, .string ⟨#[48, 49, 46, 49]⟩, .string ⟨#[48, 49, 46, 50]⟩, .string ⟨#[48, 50]⟩] 68 5 (.slice p n c) RS i2 [.int .i64 (dg : Int), .slice p n c, .slice pc nc cc, .slice pv2 m2 cv2, .slice none 0 0, .slice none 0 0] (.slice none 0 0) 0 [] W3) := Lib.hid
            ((HSA.out.apart hgrow (fun k e => by
              simp [Value.ownBlock] at e
              subst e
              exact ⟨hlw3, fun e2 => by have := (HR.out.own.lt _ e2).2; omega⟩)).again 68 5 (fun j u hj => (own_cell hown5).1 j u hj) (by omega) hG3l)
          clear hown5 hgrow hownS hob HSA HR
          go_wp2_with fail
          go_loopw [113] (fun q wr => ∃ (k m i' : Nat) (v : Value) (xs : List Value), k ≤ 5 ∧ q = .int .i64 k ∧ m ≤ k ∧ i' ≤ i2 + 7 * k ∧ St b sv zs w w.heap.size w1.heap.size G3 W3.heap.size W2.heap.size [.string ⟨#[]⟩, .string ⟨#[48, 49]⟩, .string ⟨#[48, 49, 46, 49]⟩, .string ⟨#[48, 49, 46, 50]⟩, .string ⟨#[48, 50]⟩] 68 5 (.slice p n c) RS i' [.int .i64 (dg : Int), .slice p n c, .slice pc nc cc, .slice pv2 m2 cv2, .slice none 0 0, v] v m xs wr) (fun q _ => 5 - (intOf q).toNat)
          case atStart => exact ⟨0, 0, _, _, _, by omega, rfl, by omega, by omega, HS3.out⟩
          case round =>
            obtain ⟨k, m3, i3, v, xs3, hk, rfl, hm3, hi3, hst⟩ := hrel
            have HR := Lib.hid hst
            obtain ⟨pv3, cv3, rfl⟩ := own_form hst.own
            by_cases hlt : k < 5
            · have hstr : ∃ s : ByteArray, s.size ≤ 10 ∧ wr.cell? ⟨G3, k, none⟩ = some (.string s) := by
                have h5 : k = 0 ∨ k = 1 ∨ k = 2 ∨ k = 3 ∨ k = 4 := by omega
                rcases h5 with rfl | rfl | rfl | rfl | rfl
                · exact ⟨_, by decide, hst.str 0 _ rfl⟩
                · exact ⟨_, by decide, hst.str 1 _ rfl⟩
                · exact ⟨_, by decide, hst.str 2 _ rfl⟩
                · exact ⟨_, by decide, hst.str 3 _ rfl⟩
                · exact ⟨_, by decide, hst.str 4 _ rfl⟩
              obtain ⟨s, hs, hc⟩ := hstr
              clear hst
              go_wp2_with fail
              refine (next_st 5 HR.out (by omega) (by omega) (by omega)).mono ?_
              rintro e wx ⟨mm, hmm, rfl, hstx, htx⟩
              have HSX := Lib.hid hstx
              clear hstx htx hc
              by_cases hm0 : mm = 0
              · subst hm0
                go_upto_region 22 with fail
                refine wp_region_inv 10 (fun a0 _ => IV 120 10 (R22 b w1.heap.size (.slice pv3 m3 cv3) s) (Kt (i3 + 1) 4 1 6 1 (fun i9 wy => St b sv zs w w.heap.size w1.heap.size G3 W3.heap.size W2.heap.size [.string ⟨#[]⟩, .string ⟨#[48, 49]⟩, .string ⟨#[48, 49, 46, 49]⟩, .string ⟨#[48, 49, 46, 50]⟩, .string ⟨#[48, 50]⟩] 68 5 (.slice p n c) RS i9 [.int .i64 (dg : Int), .slice p n c, .slice pc nc cc, .slice pv2 m2 cv2, .slice none 0 0, .slice pv3 m3 cv3] (.slice pv3 m3 cv3) m3 xs3 wy)) a0) (by kernel_rfl) (by decide) (by kernel_rfl) (by kernel_rfl) (by kernel_rfl) (by kernel_rfl) (by kernel_rfl) (IV.start (Kt.start (HSX.out.below (Below.refl _ _).drew))) ?_ ?_
                · refine (And.intro ?_ (And.intro ?_ (And.intro ?_ (And.intro ?_ (And.intro ?_ (And.intro ?_ (And.intro ?_ (And.intro ?_ (And.intro ?_ (And.intro ?_ trivial))))))))))
                  · intro listed a wy hI hu hd
                    obtain ⟨i9, hj9, hi9, hst⟩ := hI.world.open
                    have hby := hst.tape.lt
                    have f5 : (a.tmps[5]?).getD undef = .pointer (some ⟨w1.heap.size, 0, none⟩) := hI.slot 5 (by decide)
                    refine keep_op fun K hK => ?_
                    clear hd
                    have hI := Lib.hid hI
                    go_simp
                    exact hK _ _ (hI.out.put 0 (by decide) (Nat.le_of_ble_eq_true rfl) _ (hI.out.world.other 0 (by decide) (by decide) (fun _ h => h)) (fun _ _ h => h) rfl)
                  · intro listed a wy hI hu hd
                    obtain ⟨i9, hj9, hi9, hst⟩ := hI.world.open
                    have hby := hst.tape.lt
                    have d0 : listed.getD 0 false = true := hd ⟨0, .data⟩ (by simp) rfl
                    have e0 : (a.tmps[120]?).getD undef = .pointer (some ⟨w1.heap.size, 5, none⟩) := hI.val 0 (by decide) d0 120 rfl
                    have c3 : wy.cell? ⟨w1.heap.size, 5, none⟩ = some (.slice pv3 m3 cv3) := cell_blk hst.k 5 _ rfl
                    refine keep_op fun K hK => ?_
                    clear hd
                    have hI := Lib.hid hI
                    go_simp
                    exact hK _ _ (hI.out.put 1 (by decide) (Nat.le_of_ble_eq_true rfl) _ (hI.out.world.other 1 (by decide) (by decide) (fun _ h => h)) (fun _ _ h => h) rfl)
                  · intro listed a wy hI hu hd
                    obtain ⟨i9, hj9, hi9, hst⟩ := hI.world.open
                    have hby := hst.tape.lt
                    have f12 : (a.tmps[12]?).getD undef = .string s := hI.slot 12 (by decide)
                    refine keep_op fun K hK => ?_
                    clear hd
                    have hI := Lib.hid hI
                    go_simp
                    exact hK _ _ (hI.out.put 2 (by decide) (Nat.le_of_ble_eq_true rfl) _ (hI.out.world.other 2 (by decide) (by decide) (fun _ h => h)) (fun _ _ h => h) rfl)
                  · intro listed a wy hI hu hd
                    obtain ⟨i9, hj9, hi9, hst⟩ := hI.world.open
                    have hby := hst.tape.lt
                    have f0 : (a.tmps[0]?).getD undef = .pointer (some ⟨b, 0, none⟩) := hI.slot 0 (by decide)
                    refine keep_op fun K hK => ?_
                    clear hd
                    have hI := Lib.hid hI
                    go_simp
                    exact hK _ _ (hI.out.put 3 (by decide) (Nat.le_of_ble_eq_true rfl) _ (hI.out.world.other 3 (by decide) (by decide) (fun _ h => h)) (fun _ _ h => h) rfl)
                  · intro listed a wy hI hu hd
                    obtain ⟨i9, hj9, hi9, hst⟩ := hI.world.open
                    have hby := hst.tape.lt
                    have d3 : listed.getD 3 false = true := hd ⟨3, .data⟩ (by simp) rfl
                    have e3 : (a.tmps[123]?).getD undef = .pointer (some ⟨b, 0, none⟩) := hI.val 3 (by decide) d3 123 rfl
                    refine keep_op fun K hK => ?_
                    clear hd
                    have hI := Lib.hid hI
                    go_simp
                    refine (next_st 4 hst (by omega) (by omega) (by omega)).mono ?_
                    rintro e w9 ⟨mm9, hmm9, rfl, hst9, ht9⟩
                    exact hK _ _ (hI.out.put 4 (by decide) (Nat.le_of_ble_eq_true rfl) _ (Kt.fst hu (by decide) hi9 (Nat.le_refl _) hst9) (R22.touch ht9) ⟨mm9, hmm9, rfl⟩)
                  · intro listed a wy hI hu hd
                    obtain ⟨i9, hj9, hi9, hst⟩ := hI.world.open
                    have hby := hst.tape.lt
                    have f0 : (a.tmps[0]?).getD undef = .pointer (some ⟨b, 0, none⟩) := hI.slot 0 (by decide)
                    refine keep_op fun K hK => ?_
                    clear hd
                    have hI := Lib.hid hI
                    go_simp
                    exact hK _ _ (hI.out.put 5 (by decide) (Nat.le_of_ble_eq_true rfl) _ (hI.out.world.other 5 (by decide) (by decide) (fun _ h => h)) (fun _ _ h => h) rfl)
                  · intro listed a wy hI hu hd
                    obtain ⟨i9, hj9, hi9, hst⟩ := hI.world.open
                    have hby := hst.tape.lt
                    have d5 : listed.getD 5 false = true := hd ⟨5, .data⟩ (by simp) rfl
                    have e5 : (a.tmps[125]?).getD undef = .pointer (some ⟨b, 0, none⟩) := hI.val 5 (by decide) d5 125 rfl
                    refine keep_op fun K hK => ?_
                    clear hd
                    have hI := Lib.hid hI
                    go_simp
                    refine (next_st 5 hst (by omega) (by omega) (by omega)).mono ?_
                    rintro e w9 ⟨mm9, hmm9, rfl, hst9, ht9⟩
                    exact hK _ _ (hI.out.put 6 (by decide) (Nat.le_of_ble_eq_true rfl) _ (Kt.snd hu (by decide) hi9 (Nat.le_refl _) hst9) (R22.touch ht9) ⟨mm9, hmm9, rfl⟩)
                  · intro listed a wy hI hu hd
                    obtain ⟨i9, hj9, hi9, hst⟩ := hI.world.open
                    have hby := hst.tape.lt
                    have d6 : listed.getD 6 false = true := hd ⟨6, .data⟩ (by simp) rfl
                    obtain ⟨mm8, hmm8, e6⟩ := hI.val 6 (by decide) d6 126 rfl
                    refine keep_op fun K hK => ?_
                    clear hd
                    have hI := Lib.hid hI
                    go_simp
                    refine (fraction_at mm8 4 _ (by omega) (by omega) (by omega)).mono ?_
                    rintro e w9 ⟨q9, m9, c9, q8, m8, c8, rfl, hb9⟩
                    exact hK _ _ (hI.out.put 7 (by decide) (Nat.le_of_ble_eq_true rfl) _ (hI.out.world.other 7 (by decide) (by decide) (fun _ h => h.below hb9)) (R22.touch (Touch.of_below hb9)) ⟨q9, m9, c9, q8, m8, c8, rfl⟩)
                  · intro listed a wy hI hu hd
                    obtain ⟨i9, hj9, hi9, hst⟩ := hI.world.open
                    have hby := hst.tape.lt
                    have d2 : listed.getD 2 false = true := hd ⟨2, .data⟩ (by simp) rfl
                    have e2 : (a.tmps[122]?).getD undef = .string s := hI.val 2 (by decide) d2 122 rfl
                    have d4 : listed.getD 4 false = true := hd ⟨4, .data⟩ (by simp) rfl
                    obtain ⟨mm8, hmm8, e4⟩ := hI.val 4 (by decide) d4 124 rfl
                    have d7 : listed.getD 7 false = true := hd ⟨7, .data⟩ (by simp) rfl
                    obtain ⟨q9, m9, c9, q8, m8, c8, e7⟩ := hI.val 7 (by decide) d7 127 rfl
                    refine keep_op fun K hK => ?_
                    clear hd
                    have hI := Lib.hid hI
                    go_simp
                    exact hK _ _ (hI.out.put 8 (by decide) (Nat.le_of_ble_eq_true rfl) _ (hI.out.world.other 8 (by decide) (by decide) (fun _ h => h)) (fun _ _ h => h) ⟨mm8, q9, m9, c9, q8, m8, c8, rfl⟩)
                  · intro listed a wy hI hu hd
                    obtain ⟨i9, hj9, hi9, hst⟩ := hI.world.open
                    have hby := hst.tape.lt
                    have d8 : listed.getD 8 false = true := hd ⟨8, .data⟩ (by simp) rfl
                    obtain ⟨mm8, q9, m9, c9, q8, m8, c8, e8⟩ := hI.val 8 (by decide) d8 128 rfl
                    refine keep_op fun K hK => ?_
                    clear hd
                    have hI := Lib.hid hI
                    go_simp
                    exact hK _ _ (hI.out.put 9 (by decide) (Nat.le_of_ble_eq_true rfl) _ (hI.out.world.other 9 (by decide) (by decide) (fun _ h => h.alloc _)) (R22.touch (Touch.new _ _ _)) ⟨wy.heap.size, mm8, q9, m9, c9, q8, m8, c8, rfl, by omega, by simp, (Box.new wy [.string s, .int .i64 (mm8 : Int), .bool false, .slice q9 m9 c9, .slice q8 m8 c8] 68).c 0 _ rfl, (Box.new wy [.string s, .int .i64 (mm8 : Int), .bool false, .slice q9 m9 c9, .slice q8 m8 c8] 68).c 1 _ rfl, (Box.new wy [.string s, .int .i64 (mm8 : Int), .bool false, .slice q9 m9 c9, .slice q8 m8 c8] 68).c 2 _ rfl, (Box.new wy [.string s, .int .i64 (mm8 : Int), .bool false, .slice q9 m9 c9, .slice q8 m8 c8] 68).c 3 _ rfl, (Box.new wy [.string s, .int .i64 (mm8 : Int), .bool false, .slice q9 m9 c9, .slice q8 m8 c8] 68).c 4 _ rfl⟩)
                · intro listed a wy hI hl
                  obtain ⟨i9, hi9, hst⟩ := hI.world.fin
                  obtain ⟨u, rfl, hu⟩ := IV.fin hI (Nat.le_of_ble_eq_true rfl) hl
                  have e1 : u 1 = .slice pv3 m3 cv3 := hu 1 (by decide)
                  obtain ⟨B, mm8, q9, m9, c9, q8, m8, c8, eB, hB0, hB1, b0, b1, b2, b3, b4⟩ := hu 9 (by decide)
                  have HS9 := Lib.hid hst
                  have hown := hst.own
                  have hlw := hst.lw
                  have hcells : ∀ (q : Nat) x, ([.string s, .int .i64 (mm8 : Int), .bool false, .slice q9 m9 c9, .slice q8 m8 c8] : List Value)[q]? = some x → wy.cell? ⟨B, q, none⟩ = some x := by
                    intro q x hq
                    match q, hq with
                    | 0, hq => cases hq; exact b0
                    | 1, hq => cases hq; exact b1
                    | 2, hq => cases hq; exact b2
                    | 3, hq => cases hq; exact b3
                    | 4, hq => cases hq; exact b4
                    | q + 5, hq => simp at hq
                  have hnews : ∀ (q : Nat) x, ([.string s, .int .i64 (mm8 : Int), .bool false, .slice q9 m9 c9, .slice q8 m8 c8] : List Value)[q]? = some x → wy.cell? ((⟨B, 0, none⟩ : Addr).add q) = some x := by
                    intro q x hq
                    have hadd : ((⟨B, 0, none⟩ : Addr).add q) = ⟨B, q, none⟩ := by simp [Addr.add]; try omega
                    rw [hadd]
                    exact hcells q x hq
                  clear hI hl hu hst HSX
                  simp only [putN, Act.put, e1, eB, Nat.reduceAdd, List.setIfInBounds_toArray, List.set_cons_succ, List.set_cons_zero, List.drop_succ_cons, List.drop_zero]
                  generalize u 0 = u0; generalize u 2 = u2; generalize u 3 = u3; generalize u 4 = u4; generalize u 5 = u5; generalize u 6 = u6; generalize u 7 = u7; generalize u 8 = u8
                  clear e1 eB
                  go_wp2_with (first
                    | (at_builtin; refine wpList_append_own_at _ rfl _ _ 26 rfl W3.heap.size 68 p0 (.agg #[.string ⟨#[]⟩, .int .i64 0, .bool false, .slice none 0 0, .slice none 0 0]) 5 80 Tryz.underlying26 hp0 hpz0 hpz1 hpz2 rfl (by decide) _ _ _ rfl hown ⟨B, 0, none⟩ 1 1 [.string s, .int .i64 (mm8 : Int), .bool false, .slice q9 m9 c9, .slice q8 m8 c8] rfl rfl hnews (by simp [Value.oneCell']) (by unfold maxLen; omega) (by omega) (by omega) ?_)
                    | fail)
                  intro v' w9 hown9 hgrow _ hob
                  have hS9 : St b sv zs w w.heap.size w1.heap.size G3 W3.heap.size W2.heap.size [.string ⟨#[]⟩, .string ⟨#[48, 49]⟩, .string ⟨#[48, 49, 46, 49]⟩, .string ⟨#[48, 49, 46, 50]⟩, .string ⟨#[48, 50]⟩] 68 5 (.slice p n c) RS i9 [.int .i64 (dg : Int), .slice p n c, .slice pc nc cc, .slice pv2 m2 cv2, .slice none 0 0, .slice pv3 m3 cv3] v' (m3 + 1) _ w9 := HS9.out.grown hown9 hgrow
                  obtain ⟨g9, cap9, rfl, _, _⟩ := World.ownsRow.form hown9 (by omega)
                  have cC : w9.cell? ⟨w1.heap.size, 5, none⟩ = some (.slice pv3 m3 cv3) := cell_blk hS9.k 5 _ rfl
                  have fC : w9.frozen? ⟨w1.heap.size, 5, none⟩ = false := free_blk hS9.k 5
                  have hB9 := hS9.sizes
                  have HS10 := Lib.hid (hS9.store 5 (.slice (some ⟨g9, 0, none⟩) (m3 + 1) cap9))
                  clear hown9 hgrow hown hob hS9 hlw hnews hcells b0 b1 b2 b3 b4
                  go_wp2
                  go_roundw
                  case rel => exact ⟨k + 1, m3 + 1, i9, _, _, by omega, by go_num, by omega, by omega, HS10.out⟩
                  case measure => simp [intOf]; omega
              · have hmz : ((mm : Int) == 0) = false := by simp; omega
                go_wp2
                go_roundw
                case rel => exact ⟨k + 1, m3, i3 + 1, _, _, by omega, by go_num, by omega, by omega, HSX.out⟩
                case measure => simp [intOf]; omega
            · clear hst
              obtain ⟨wr4, rfl⟩ : ∃ W, W = wr := ⟨wr, rfl⟩
              have hX4 := Box.new wr4 [.string ⟨#[97]⟩, .string ⟨#[98, 49]⟩, .string ⟨#[120, 95, 121]⟩] 9
              obtain ⟨W4, hW4⟩ : ∃ W, W = wr4.alloc (.cells #[.string ⟨#[97]⟩, .string ⟨#[98, 49]⟩, .string ⟨#[120, 95, 121]⟩] 9) := ⟨_, rfl⟩
              have HS4 : Hid (St b sv zs w w.heap.size w1.heap.size wr4.heap.size W4.heap.size W2.heap.size [.string ⟨#[97]⟩, .string ⟨#[98, 49]⟩, .string ⟨#[120, 95, 121]⟩] 72 2 (.slice p n c) RS i3 [.int .i64 (dg : Int), .slice p n c, .slice pc nc cc, .slice pv2 m2 cv2, .slice none 0 0, .slice pv3 m3 cv3] (.slice none 0 0) 0 [] W4) := Lib.hid (by
                rw [hW4]
                exact (HR.out.alloc _).again 72 2 (fun j u hj => hX4.c j u hj) HR.out.sizes.2 hX4.sz)
              clear hX4
              go_wp2_with fail
              rw [← hW4]
              clear hW4 HR
              go_loopw [135] (fun q wr => ∃ (k m i' : Nat) (v : Value) (xs : List Value), k ≤ 3 ∧ q = .int .i64 k ∧ m ≤ k ∧ i' ≤ i3 + 39 * k ∧ St b sv zs w w.heap.size w1.heap.size wr4.heap.size W4.heap.size W2.heap.size [.string ⟨#[97]⟩, .string ⟨#[98, 49]⟩, .string ⟨#[120, 95, 121]⟩] 72 2 (.slice p n c) RS i' [.int .i64 (dg : Int), .slice p n c, .slice pc nc cc, .slice pv2 m2 cv2, v, .slice pv3 m3 cv3] v m xs wr) (fun q _ => 3 - (intOf q).toNat)
              case atStart => exact ⟨0, 0, _, _, _, by omega, rfl, by omega, by omega, HS4.out⟩
              case round =>
                obtain ⟨k, m4, i4, v, xs4, hk, rfl, hm4, hi4, hst⟩ := hrel
                have HR := Lib.hid hst
                obtain ⟨pv4, cv4, rfl⟩ := own_form hst.own
                by_cases hlt : k < 3
                · have hstr : ∃ s : ByteArray, s.size ≤ 10 ∧ wr.cell? ⟨wr4.heap.size, k, none⟩ = some (.string s) := by
                    have h5 : k = 0 ∨ k = 1 ∨ k = 2 := by omega
                    rcases h5 with rfl | rfl | rfl
                    · exact ⟨_, by decide, hst.str 0 _ rfl⟩
                    · exact ⟨_, by decide, hst.str 1 _ rfl⟩
                    · exact ⟨_, by decide, hst.str 2 _ rfl⟩
                  obtain ⟨s, hs, hc⟩ := hstr
                  clear hst
                  go_wp2_with fail
                  refine (next_st 2 HR.out (by omega) (by omega) (by omega)).mono ?_
                  rintro e wx ⟨mm, hmm, rfl, hstx, htx⟩
                  have HSX := Lib.hid hstx
                  clear hstx htx hc
                  by_cases hm0 : mm = 0
                  · subst hm0
                    go_upto_region 28 with fail
                    refine wp_region_inv 7 (fun a0 _ => IV 142 7 (R28 b w1.heap.size (.slice pv4 m4 cv4) s) (Kt (i4 + 1) 4 38 9 0 (fun i9 wy => St b sv zs w w.heap.size w1.heap.size wr4.heap.size W4.heap.size W2.heap.size [.string ⟨#[97]⟩, .string ⟨#[98, 49]⟩, .string ⟨#[120, 95, 121]⟩] 72 2 (.slice p n c) RS i9 [.int .i64 (dg : Int), .slice p n c, .slice pc nc cc, .slice pv2 m2 cv2, .slice pv4 m4 cv4, .slice pv3 m3 cv3] (.slice pv4 m4 cv4) m4 xs4 wy)) a0) (by kernel_rfl) (by decide) (by kernel_rfl) (by kernel_rfl) (by kernel_rfl) (by kernel_rfl) (by kernel_rfl) (IV.start (Kt.start (HSX.out.below (Below.refl _ _).drew))) ?_ ?_
                    · refine (And.intro ?_ (And.intro ?_ (And.intro ?_ (And.intro ?_ (And.intro ?_ (And.intro ?_ (And.intro ?_ trivial)))))))
                      · intro listed a wy hI hu hd
                        obtain ⟨i9, hj9, hi9, hst⟩ := hI.world.open
                        have hby := hst.tape.lt
                        have f5 : (a.tmps[5]?).getD undef = .pointer (some ⟨w1.heap.size, 0, none⟩) := hI.slot 5 (by decide)
                        refine keep_op fun K hK => ?_
                        clear hd
                        have hI := Lib.hid hI
                        go_simp
                        exact hK _ _ (hI.out.put 0 (by decide) (Nat.le_of_ble_eq_true rfl) _ (hI.out.world.other 0 (by decide) (by decide) (fun _ h => h)) (fun _ _ h => h) rfl)
                      · intro listed a wy hI hu hd
                        obtain ⟨i9, hj9, hi9, hst⟩ := hI.world.open
                        have hby := hst.tape.lt
                        have d0 : listed.getD 0 false = true := hd ⟨0, .data⟩ (by simp) rfl
                        have e0 : (a.tmps[142]?).getD undef = .pointer (some ⟨w1.heap.size, 4, none⟩) := hI.val 0 (by decide) d0 142 rfl
                        have c3 : wy.cell? ⟨w1.heap.size, 4, none⟩ = some (.slice pv4 m4 cv4) := cell_blk hst.k 4 _ rfl
                        refine keep_op fun K hK => ?_
                        clear hd
                        have hI := Lib.hid hI
                        go_simp
                        exact hK _ _ (hI.out.put 1 (by decide) (Nat.le_of_ble_eq_true rfl) _ (hI.out.world.other 1 (by decide) (by decide) (fun _ h => h)) (fun _ _ h => h) rfl)
                      · intro listed a wy hI hu hd
                        obtain ⟨i9, hj9, hi9, hst⟩ := hI.world.open
                        have hby := hst.tape.lt
                        have f14 : (a.tmps[14]?).getD undef = .string s := hI.slot 14 (by decide)
                        refine keep_op fun K hK => ?_
                        clear hd
                        have hI := Lib.hid hI
                        go_simp
                        exact hK _ _ (hI.out.put 2 (by decide) (Nat.le_of_ble_eq_true rfl) _ (hI.out.world.other 2 (by decide) (by decide) (fun _ h => h)) (fun _ _ h => h) rfl)
                      · intro listed a wy hI hu hd
                        obtain ⟨i9, hj9, hi9, hst⟩ := hI.world.open
                        have hby := hst.tape.lt
                        have f0 : (a.tmps[0]?).getD undef = .pointer (some ⟨b, 0, none⟩) := hI.slot 0 (by decide)
                        refine keep_op fun K hK => ?_
                        clear hd
                        have hI := Lib.hid hI
                        go_simp
                        exact hK _ _ (hI.out.put 3 (by decide) (Nat.le_of_ble_eq_true rfl) _ (hI.out.world.other 3 (by decide) (by decide) (fun _ h => h)) (fun _ _ h => h) rfl)
                      · intro listed a wy hI hu hd
                        obtain ⟨i9, hj9, hi9, hst⟩ := hI.world.open
                        have hby := hst.tape.lt
                        have d3 : listed.getD 3 false = true := hd ⟨3, .data⟩ (by simp) rfl
                        have e3 : (a.tmps[145]?).getD undef = .pointer (some ⟨b, 0, none⟩) := hI.val 3 (by decide) d3 145 rfl
                        refine keep_op fun K hK => ?_
                        clear hd
                        have hI := Lib.hid hI
                        go_simp
                        refine (nodes_any b sv zs i9 _ hst.tape (by omega)).mono ?_
                        rintro e w9 ⟨v9, n9, x9, i8, rfl, hown9, hn9, hi8, hg9⟩
                        exact hK _ _ (hI.out.put 4 (by decide) (Nat.le_of_ble_eq_true rfl) _ (Kt.fst hu (by decide) hi9 hi8 (hst.touched hg9.tape hg9.touch)) (R28.touch hg9.touch) (own_form hown9 |>.elim fun p h => h.elim fun c h => ⟨p, n9, c, h⟩))
                      · intro listed a wy hI hu hd
                        obtain ⟨i9, hj9, hi9, hst⟩ := hI.world.open
                        have hby := hst.tape.lt
                        have d2 : listed.getD 2 false = true := hd ⟨2, .data⟩ (by simp) rfl
                        have e2 : (a.tmps[144]?).getD undef = .string s := hI.val 2 (by decide) d2 144 rfl
                        have d4 : listed.getD 4 false = true := hd ⟨4, .data⟩ (by simp) rfl
                        obtain ⟨q9, m9, c9, e4⟩ := hI.val 4 (by decide) d4 146 rfl
                        refine keep_op fun K hK => ?_
                        clear hd
                        have hI := Lib.hid hI
                        go_simp
                        exact hK _ _ (hI.out.put 5 (by decide) (Nat.le_of_ble_eq_true rfl) _ (hI.out.world.other 5 (by decide) (by decide) (fun _ h => h)) (fun _ _ h => h) ⟨_, _, _, rfl⟩)
                      · intro listed a wy hI hu hd
                        obtain ⟨i9, hj9, hi9, hst⟩ := hI.world.open
                        have hby := hst.tape.lt
                        have d5 : listed.getD 5 false = true := hd ⟨5, .data⟩ (by simp) rfl
                        obtain ⟨q9, m9, c9, e5⟩ := hI.val 5 (by decide) d5 147 rfl
                        refine keep_op fun K hK => ?_
                        clear hd
                        have hI := Lib.hid hI
                        go_simp
                        exact hK _ _ (hI.out.put 6 (by decide) (Nat.le_of_ble_eq_true rfl) _ (hI.out.world.other 6 (by decide) (by decide) (fun _ h => h.alloc _)) (R28.touch (Touch.new _ _ _)) ⟨wy.heap.size, q9, m9, c9, rfl, by omega, by simp, (Box.new wy [.string s, .slice q9 m9 c9] 72).c 0 _ rfl, (Box.new wy [.string s, .slice q9 m9 c9] 72).c 1 _ rfl⟩)
                    · intro listed a wy hI hl
                      obtain ⟨i9, hi9, hst⟩ := hI.world.fin
                      obtain ⟨u, rfl, hu⟩ := IV.fin hI (Nat.le_of_ble_eq_true rfl) hl
                      have e1 : u 1 = .slice pv4 m4 cv4 := hu 1 (by decide)
                      obtain ⟨B, q9, m9, c9, eB, hB0, hB1, b0, b1⟩ := hu 6 (by decide)
                      have HS9 := Lib.hid hst
                      have hown := hst.own
                      have hlw := hst.lw
                      have hcells : ∀ (q : Nat) x, ([.string s, .slice q9 m9 c9] : List Value)[q]? = some x → wy.cell? ⟨B, q, none⟩ = some x := by
                        intro q x hq
                        match q, hq with
                        | 0, hq => cases hq; exact b0
                        | 1, hq => cases hq; exact b1
                        | q + 2, hq => simp at hq
                      have hnews : ∀ (q : Nat) x, ([.string s, .slice q9 m9 c9] : List Value)[q]? = some x → wy.cell? ((⟨B, 0, none⟩ : Addr).add q) = some x := by
                        intro q x hq
                        have hadd : ((⟨B, 0, none⟩ : Addr).add q) = ⟨B, q, none⟩ := by simp [Addr.add]; try omega
                        rw [hadd]
                        exact hcells q x hq
                      clear hI hl hu hst HSX
                      simp only [putN, Act.put, e1, eB, Nat.reduceAdd, List.setIfInBounds_toArray, List.set_cons_succ, List.set_cons_zero, List.drop_succ_cons, List.drop_zero]
                      generalize u 0 = u0; generalize u 2 = u2; generalize u 3 = u3; generalize u 4 = u4; generalize u 5 = u5
                      clear e1 eB
                      go_wp2_with (first
                        | (at_builtin; refine wpList_append_own_at _ rfl _ _ 25 rfl W4.heap.size 72 d0 (.agg #[.string ⟨#[]⟩, .slice none 0 0]) 2 40 Tryz.underlying25 hd0 hdz0 hdz1 hdz2 rfl (by decide) _ _ _ rfl hown ⟨B, 0, none⟩ 1 1 [.string s, .slice q9 m9 c9] rfl rfl hnews (by simp [Value.oneCell']) (by unfold maxLen; omega) (by omega) (by omega) ?_)
                        | fail)
                      intro v' w9 hown9 hgrow _ hob
                      have hS9 : St b sv zs w w.heap.size w1.heap.size wr4.heap.size W4.heap.size W2.heap.size [.string ⟨#[97]⟩, .string ⟨#[98, 49]⟩, .string ⟨#[120, 95, 121]⟩] 72 2 (.slice p n c) RS i9 [.int .i64 (dg : Int), .slice p n c, .slice pc nc cc, .slice pv2 m2 cv2, .slice pv4 m4 cv4, .slice pv3 m3 cv3] v' (m4 + 1) _ w9 := HS9.out.grown hown9 hgrow
                      obtain ⟨g9, cap9, rfl, _, _⟩ := World.ownsRow.form hown9 (by omega)
                      have cC : w9.cell? ⟨w1.heap.size, 4, none⟩ = some (.slice pv4 m4 cv4) := cell_blk hS9.k 4 _ rfl
                      have fC : w9.frozen? ⟨w1.heap.size, 4, none⟩ = false := free_blk hS9.k 4
                      have hB9 := hS9.sizes
                      have HS10 := Lib.hid (hS9.store 4 (.slice (some ⟨g9, 0, none⟩) (m4 + 1) cap9))
                      clear hown9 hgrow hown hob hS9 hlw hnews hcells b0 b1
                      go_wp2
                      go_roundw
                      case rel => exact ⟨k + 1, m4 + 1, i9, _, _, by omega, by go_num, by omega, by omega, HS10.out⟩
                      case measure => simp [intOf]; omega
                  · have hmz : ((mm : Int) == 0) = false := by simp; omega
                    go_wp2
                    go_roundw
                    case rel => exact ⟨k + 1, m4, i4 + 1, _, _, by omega, by go_num, by omega, by omega, HSX.out⟩
                    case measure => simp [intOf]; omega
                · clear hst
                  have hkk := HR.out.k
                  have hzz := HR.out.z
                  have d0 : wr.cell? ⟨w1.heap.size, 0, none⟩ = some (.int .i64 (dg : Int)) := cell_blk hkk 0 _ rfl
                  have d1 : wr.cell? ⟨w1.heap.size, 1, none⟩ = some (.slice p n c) := cell_blk hkk 1 _ rfl
                  have d2 : wr.cell? ⟨w1.heap.size, 2, none⟩ = some (.slice pc nc cc) := cell_blk hkk 2 _ rfl
                  have d3 : wr.cell? ⟨w1.heap.size, 3, none⟩ = some (.slice pv2 m2 cv2) := cell_blk hkk 3 _ rfl
                  have d4 : wr.cell? ⟨w1.heap.size, 4, none⟩ = some (.slice pv4 m4 cv4) := cell_blk hkk 4 _ rfl
                  have d5 : wr.cell? ⟨w1.heap.size, 5, none⟩ = some (.slice pv3 m3 cv3) := cell_blk hkk 5 _ rfl
                  have z0 : wr.cell? ⟨w.heap.size, 0, none⟩ = some (.int .i64 0) := cell_blk hzz 0 _ rfl
                  have z1 : wr.cell? ⟨w.heap.size, 1, none⟩ = some (.slice none 0 0) := cell_blk hzz 1 _ rfl
                  have z2 : wr.cell? ⟨w.heap.size, 2, none⟩ = some (.slice none 0 0) := cell_blk hzz 2 _ rfl
                  have z3 : wr.cell? ⟨w.heap.size, 3, none⟩ = some (.slice none 0 0) := cell_blk hzz 3 _ rfl
                  have z4 : wr.cell? ⟨w.heap.size, 4, none⟩ = some (.slice none 0 0) := cell_blk hzz 4 _ rfl
                  have z5 : wr.cell? ⟨w.heap.size, 5, none⟩ = some (.slice none 0 0) := cell_blk hzz 5 _ rfl
                  have y0 : wr.frozen? ⟨w.heap.size, 0, none⟩ = false := free_blk hzz 0
                  have y1 : wr.frozen? ⟨w.heap.size, 1, none⟩ = false := free_blk hzz 1
                  have y2 : wr.frozen? ⟨w.heap.size, 2, none⟩ = false := free_blk hzz 2
                  have y3 : wr.frozen? ⟨w.heap.size, 3, none⟩ = false := free_blk hzz 3
                  have y4 : wr.frozen? ⟨w.heap.size, 4, none⟩ = false := free_blk hzz 4
                  have y5 : wr.frozen? ⟨w.heap.size, 5, none⟩ = false := free_blk hzz 5
                  have hb5 := HR.out.sizes
                  clear hkk hzz
                  go_wp2
                  obtain ⟨wf, hwf⟩ : ∃ wf, wf = (((((wr.setCell ⟨w.heap.size, 0, none⟩ (.int .i64 (dg : Int))).setCell ⟨w.heap.size, 1, none⟩ (.slice p n c)).setCell ⟨w.heap.size, 2, none⟩ (.slice pc nc cc)).setCell ⟨w.heap.size, 3, none⟩ (.slice pv2 m2 cv2)).setCell ⟨w.heap.size, 4, none⟩ (.slice pv4 m4 cv4)).setCell ⟨w.heap.size, 5, none⟩ (.slice pv3 m3 cv3) := ⟨_, rfl⟩
                  rw [← hwf]
                  obtain ⟨hf, hrf, htf⟩ := plan_fin HR.out (.int .i64 (dg : Int)) (.slice p n c) (.slice pc nc cc) (.slice pv2 m2 cv2) (.slice pv4 m4 cv4) (.slice pv3 m3 cv3) wf hwf
                  have a0 := cell_blk hf 0 (.int .i64 (dg : Int)) rfl
                  have a1 := cell_blk hf 1 (.slice p n c) rfl
                  have a2 := cell_blk hf 2 (.slice pc nc cc) rfl
                  have a3 := cell_blk hf 3 (.slice pv2 m2 cv2) rfl
                  have a4 := cell_blk hf 4 (.slice pv4 m4 cv4) rfl
                  have a5 := cell_blk hf 5 (.slice pv3 m3 cv3) rfl
                  clear hwf
                  exact bodyPost_ret (v := .agg #[.int .i64 (dg : Int), .slice p n c, .slice pc nc cc, .slice pv2 m2 cv2, .slice pv4 m4 cv4, .slice pv3 m3 cv3]) (by simp [results, Tryz.results10, go_sem, a0, a1, a2, a3, a4, a5]) rfl ⟨_, _, _, _, _, _, _, _, _, _, _, _, _, _, _, _, RS, rfl, hrf, by have := HRN.out; omega, HRL.out, htf⟩

end Go.Proofs.YtkgkjoologjehaaGreatDoor
