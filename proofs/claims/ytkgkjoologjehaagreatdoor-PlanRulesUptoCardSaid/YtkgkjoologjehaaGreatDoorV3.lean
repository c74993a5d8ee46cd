/- The walk of PlanRules: whatever the tape and the code, the program and the reference find the same rule for each of nine codes. -/
import Derived.Test.YtkgkjoologjehaaGreatDoorU9
import Derived.Test.YtkgkjoologjehaaGreatDoorVm
namespace Go.Proofs.YtkgkjoologjehaaGreatDoor
open Go.RowKit Go.Sort Cal Go.Maps
theorem ints_under {w : World} {sv : Value} {zs : List Int} (h : IntsAt w sv zs) (o : Obj) : IntsUnder w.heap.size (w.alloc o) sv zs := by
  rcases h with h | ⟨h0, b, off, cap, e, _, hlt, hc⟩
  · exact Or.inl h
  · exact Or.inr ⟨h0, b, off, cap, e, hlt, fun j hj => (((Below.refl _ _).alloc (Nat.le_refl _) o).cell (p := ⟨b, off + j, none⟩) hlt).trans (hc j hj)⟩
/-- A tape over a slice that came in, just made. -/
theorem tape_new {w : World} {sv : Value} {zs : List Int} (h : IntsAt w sv zs) (hf : Fits zs) : TapeAt w.heap.size sv zs 0 (w.alloc (.cells #[sv, .int .i64 0] 38)) :=
  ⟨by show (w.heap.push _)[_]? = _; rw [Array.getElem?_push, if_pos rfl]; rfl, ints_under h _, hf⟩
set_option maxRecDepth 100000 in
set_option maxHeartbeats 6400000 in
theorem planRules_walk (w : World) (q : Option Addr) (n c : Nat) (zs : List Int) (hz : IntsAt w (.slice q n c) zs) (hf : Fits zs) (code : ByteArray) (hcs : code.size ≤ 1048576) (hE : Env w) :
    Calls Tryz.prog 4 #[.slice q n c, .string code] w fun e w' => e = .returned (.bool true) ∧ Below w.heap.size w w' := by
  obtain ⟨i0, hi0, hz0, hz1, hz2⟩ := info_parts info_str
  have HE := Lib.hid hE
  have HT := Lib.hid (tape_new hz hf)
  clear hE hz hf
  go_enter Tryz.func4, Tryz.ntmps4
  go_wp2_with fail
  refine (plan_any w.heap.size (.slice q n c) zs 0 _ HT.out (by omega)).mono ?_
  rintro e w1 ⟨d, p1, n1, c1, p2, n2, c2, p3, n3, c3, p4, n4, c4, p5, n5, c5, RS, rfl, hR, hn, hrs, hto⟩
  have HR := Lib.hid hR
  have HN := Lib.hid hn
  have HRS := Lib.hid hrs
  have HB1 : Hid (Below w.heap.size w w1) := Lib.hid (((Below.refl _ _).alloc (Nat.le_refl _) _).trans (hto.below (by simp)))
  clear hR hn hrs hto
  have hownS : (((w1.alloc (.cells #[.int .i64 d, .slice p1 n1 c1, .slice p2 n2 c2, .slice p3 n3 c3, .slice p4 n4 c4, .slice p5 n5 c5] 28)).alloc (.cells #[.string code, .string ⟨#[]⟩, .string ⟨#[48, 49, 46, 49, 46, 49]⟩, .string ⟨#[48, 51]⟩, .string ⟨#[49]⟩] 9)).alloc (.cells #[.string ⟨#[48, 49]⟩, .string ⟨#[48, 49, 46, 49]⟩, .string ⟨#[48, 49, 46, 50]⟩, .string ⟨#[48, 50]⟩] 9)).ownsRow (w1.heap.size + 1) 9 1 (.slice (some ⟨w1.heap.size + 1, 0, none⟩) 5 5) 5 [.string code, .string ⟨#[]⟩, .string ⟨#[48, 49, 46, 49, 46, 49]⟩, .string ⟨#[48, 51]⟩, .string ⟨#[49]⟩] := by
    have h := (World.ownsRow_lit (e := 9) (size := 1) (base := w1.heap.size + 1) (w1.alloc (.cells #[.int .i64 d, .slice p1 n1 c1, .slice p2 n2 c2, .slice p3 n3 c3, .slice p4 n4 c4, .slice p5 n5 c5] 28)) #[.string code, .string ⟨#[]⟩, .string ⟨#[48, 49, 46, 49, 46, 49]⟩, .string ⟨#[48, 51]⟩, .string ⟨#[49]⟩] 5 (by simp) (by decide) rfl).alloc (.cells #[.string ⟨#[48, 49]⟩, .string ⟨#[48, 49, 46, 49]⟩, .string ⟨#[48, 49, 46, 50]⟩, .string ⟨#[48, 50]⟩] 9)
    rw [World.size_alloc] at h
    exact h
  have HCD := Lib.hid (cells_row ((w1.alloc (.cells #[.int .i64 d, .slice p1 n1 c1, .slice p2 n2 c2, .slice p3 n3 c3, .slice p4 n4 c4, .slice p5 n5 c5] 28)).alloc (.cells #[.string code, .string ⟨#[]⟩, .string ⟨#[48, 49, 46, 49, 46, 49]⟩, .string ⟨#[48, 51]⟩, .string ⟨#[49]⟩] 9)) (w1.heap.size + 1 + 1) (by simp) [.string ⟨#[48, 49]⟩, .string ⟨#[48, 49, 46, 49]⟩, .string ⟨#[48, 49, 46, 50]⟩, .string ⟨#[48, 50]⟩] 9)
  have HBA : Hid (Below w1.heap.size w1 (((w1.alloc (.cells #[.int .i64 d, .slice p1 n1 c1, .slice p2 n2 c2, .slice p3 n3 c3, .slice p4 n4 c4, .slice p5 n5 c5] 28)).alloc (.cells #[.string code, .string ⟨#[]⟩, .string ⟨#[48, 49, 46, 49, 46, 49]⟩, .string ⟨#[48, 51]⟩, .string ⟨#[49]⟩] 9)).alloc (.cells #[.string ⟨#[48, 49]⟩, .string ⟨#[48, 49, 46, 49]⟩, .string ⟨#[48, 49, 46, 50]⟩, .string ⟨#[48, 50]⟩] 9))) := Lib.hid (chainAlloc (chainAlloc (chainAlloc (Below.refl _ _) _) _) _)
  have HPA : Hid ((((w1.alloc (.cells #[.int .i64 d, .slice p1 n1 c1, .slice p2 n2 c2, .slice p3 n3 c3, .slice p4 n4 c4, .slice p5 n5 c5] 28)).alloc (.cells #[.string code, .string ⟨#[]⟩, .string ⟨#[48, 49, 46, 49, 46, 49]⟩, .string ⟨#[48, 51]⟩, .string ⟨#[49]⟩] 9)).alloc (.cells #[.string ⟨#[48, 49]⟩, .string ⟨#[48, 49, 46, 49]⟩, .string ⟨#[48, 49, 46, 50]⟩, .string ⟨#[48, 50]⟩] 9)).heap[w1.heap.size]? = some (.cells #[.int .i64 d, .slice p1 n1 c1, .slice p2 n2 c2, .slice p3 n3 c3, .slice p4 n4 c4, .slice p5 n5 c5] 28 (0, 0))) := Lib.hid (by
    have e : (w1.alloc (.cells #[.int .i64 d, .slice p1 n1 c1, .slice p2 n2 c2, .slice p3 n3 c3, .slice p4 n4 c4, .slice p5 n5 c5] 28)).heap[w1.heap.size]? = some (.cells #[.int .i64 d, .slice p1 n1 c1, .slice p2 n2 c2, .slice p3 n3 c3, .slice p4 n4 c4, .slice p5 n5 c5] 28 (0, 0)) := by
      show (Array.push w1.heap _)[_]? = _
      rw [Array.getElem?_push, if_pos rfl]
    exact ((chainAlloc (chainAlloc (Below.refl (w1.alloc (.cells #[.int .i64 d, .slice p1 n1 c1, .slice p2 n2 c2, .slice p3 n3 c3, .slice p4 n4 c4, .slice p5 n5 c5] 28)).heap.size _) _) _).block _ (by rw [World.size_alloc]; omega)).trans e)
  go_wp2_with fail
  refine (codes_at _).mono ?_
  rintro e w2 ⟨rfl, rfl⟩
  go_wp2_with (first
    | (at_builtin; refine wpList_append_own_at _ rfl _ _ 40 rfl (w1.heap.size + 1) 9 i0 (.string ⟨#[]⟩) 1 16 Tryz.underlying40 hi0 hz0 hz1 hz2 rfl (by decide) _ 5 _ rfl hownS ⟨w1.heap.size + 1 + 1, 0, none⟩ 4 4 [.string ⟨#[48, 49]⟩, .string ⟨#[48, 49, 46, 49]⟩, .string ⟨#[48, 49, 46, 50]⟩, .string ⟨#[48, 50]⟩] rfl rfl HCD.out (by simp [Value.oneCell']) (by unfold maxLen; omega) (by omega) (by simp <;> omega) ?_)
    | fail)
  intro v' w3 hown3 hgrow _ hob
  obtain ⟨G, cap, rfl, hGb, hGl⟩ := World.ownsRow.form hown3 (by omega)
  have HB3 : Hid (Below w1.heap.size w1 w3) := Lib.hid (HBA.out.grown hgrow (by simp <;> omega) (fun j hj => by simp [Value.ownBlock] at hj; omega))
  have HP3 : Hid (w3.heap[w1.heap.size]? = some (.cells #[.int .i64 d, .slice p1 n1 c1, .slice p2 n2 c2, .slice p3 n3 c3, .slice p4 n4 c4, .slice p5 n5 c5] 28 (0, 0))) := Lib.hid ((hgrow.block _ (by simp <;> omega) (by simp [Value.ownBlock])).trans HPA.out)
  have HC3 : Hid (∀ j u, ([.string code, .string ⟨#[]⟩, .string ⟨#[48, 49, 46, 49, 46, 49]⟩, .string ⟨#[48, 51]⟩, .string ⟨#[49]⟩] ++ [.string ⟨#[48, 49]⟩, .string ⟨#[48, 49, 46, 49]⟩, .string ⟨#[48, 49, 46, 50]⟩, .string ⟨#[48, 50]⟩] : List Value)[j]? = some u → w3.cell? ⟨G, j, none⟩ = some u) := Lib.hid (fun j u hj => (own_cell hown3).1 j u hj)
  have hs3 : w1.heap.size < w3.heap.size := (Array.getElem?_eq_some_iff.1 HP3.out).1
  have KP : Hid (∀ W, Below w3.heap.size w3 W → (∀ j u, [.int .i64 d, .slice p1 n1 c1, .slice p2 n2 c2, .slice p3 n3 c3, .slice p4 n4 c4, .slice p5 n5 c5][j]? = some u → W.cell? ⟨w1.heap.size, j, none⟩ = some u) ∧ (∀ j u, ([.string code, .string ⟨#[]⟩, .string ⟨#[48, 49, 46, 49, 46, 49]⟩, .string ⟨#[48, 51]⟩, .string ⟨#[49]⟩] ++ [.string ⟨#[48, 49]⟩, .string ⟨#[48, 49, 46, 49]⟩, .string ⟨#[48, 49, 46, 50]⟩, .string ⟨#[48, 50]⟩] : List Value)[j]? = some u → W.cell? ⟨G, j, none⟩ = some u) ∧ RulesAt W (.slice p1 n1 c1) RS ∧ Env W ∧ Below w.heap.size w W ∧ w1.heap.size < W.heap.size) := Lib.hid (fun W hW => by
    have hb := chain0 (chain0 HB1.out HB3.out) hW
    exact ⟨fun j u hj => cell_blk ((hW.block _ hs3).trans HP3.out) j u (by rw [List.getElem?_toArray]; exact hj), fun j u hj => (hW.cell (p := ⟨G, j, none⟩) hGl).trans (HC3.out j u hj), (HR.out.below HB3.out).below hW, HE.out.below hb, hb, Nat.lt_of_lt_of_le hs3 hW.size⟩)
  clear hown3 hgrow hownS hob HBA HPA HB3 HP3 HC3 HCD HT
  go_wp2_with fail
  go_loopw [23] (fun q wr => ∃ k : Nat, k ≤ 9 ∧ q = .int .i64 k ∧ Below w3.heap.size w3 wr) (fun q _ => 9 - (intOf q).toNat)
  case atStart => exact ⟨0, by omega, rfl, Below.refl _ _⟩
  case round =>
    obtain ⟨k, hk, rfl, hb⟩ := hrel
    have HBR := Lib.hid hb
    by_cases hlt : k < 9
    · have hstr : ∃ s : ByteArray, s.size ≤ 1048576 ∧ wr.cell? ⟨G, k, none⟩ = some (.string s) := by
        have h := (KP.out _ hb).2.1
        have h9 : k = 0 ∨ k = 1 ∨ k = 2 ∨ k = 3 ∨ k = 4 ∨ k = 5 ∨ k = 6 ∨ k = 7 ∨ k = 8 := by omega
        rcases h9 with rfl | rfl | rfl | rfl | rfl | rfl | rfl | rfl | rfl
        · exact ⟨_, hcs, h 0 _ rfl⟩
        · exact ⟨_, by decide, h 1 _ rfl⟩
        · exact ⟨_, by decide, h 2 _ rfl⟩
        · exact ⟨_, by decide, h 3 _ rfl⟩
        · exact ⟨_, by decide, h 4 _ rfl⟩
        · exact ⟨_, by decide, h 5 _ rfl⟩
        · exact ⟨_, by decide, h 6 _ rfl⟩
        · exact ⟨_, by decide, h 7 _ rfl⟩
        · exact ⟨_, by decide, h 8 _ rfl⟩
      obtain ⟨s, hs, hc⟩ := hstr
      have g0 : wr.cell? ⟨w1.heap.size, 0, none⟩ = some (.int .i64 d) := (KP.out _ hb).1 0 _ rfl
      have g1 : wr.cell? ⟨w1.heap.size, 1, none⟩ = some (.slice p1 n1 c1) := (KP.out _ hb).1 1 _ rfl
      have g2 : wr.cell? ⟨w1.heap.size, 2, none⟩ = some (.slice p2 n2 c2) := (KP.out _ hb).1 2 _ rfl
      have g3 : wr.cell? ⟨w1.heap.size, 3, none⟩ = some (.slice p3 n3 c3) := (KP.out _ hb).1 3 _ rfl
      have g4 : wr.cell? ⟨w1.heap.size, 4, none⟩ = some (.slice p4 n4 c4) := (KP.out _ hb).1 4 _ rfl
      have g5 : wr.cell? ⟨w1.heap.size, 5, none⟩ = some (.slice p5 n5 c5) := (KP.out _ hb).1 5 _ rfl
      have hsr := (KP.out _ hb).2.2.2.2.2
      clear hb
      go_wp2_with fail
      refine (ruleOf_any (.int .i64 d) (.slice p2 n2 c2) (.slice p3 n3 c3) (.slice p4 n4 c4) (.slice p5 n5 c5) (.slice p1 n1 c1) RS s _ (by have := HN.out; omega) (by omega) (KP.out _ HBR.out).2.2.1 (fun r hr => by have := HRS.out r hr; omega) (KP.out _ HBR.out).2.2.2.1).mono ?_
      rintro e w4 ⟨he, hb4⟩
      obtain ⟨A, hA⟩ : ∃ A, A = accV s RS RS.length := ⟨_, rfl⟩
      rw [← hA] at he
      have HA := Lib.hid hA
      clear hA
      obtain ⟨⟨oc, om, on, os⟩, of, ol⟩ := A
      simp only [ruleL] at he
      subst he
      have HB4 := Lib.hid (chain0 HBR.out hb4)
      have HX := Lib.hid (Box.new w4 [.string oc, .int .i64 om, .int .i64 on, .int .i64 os] 43)
      have HB5 := Lib.hid (chain0 HB4.out HX.out.bl)
      clear hb4 g0 g1 g2 g3 g4 g5 hc hsr
      have g0 : w4.cell? ⟨w1.heap.size, 0, none⟩ = some (.int .i64 d) := (KP.out _ HB4.out).1 0 _ rfl
      have g1 : w4.cell? ⟨w1.heap.size, 1, none⟩ = some (.slice p1 n1 c1) := (KP.out _ HB4.out).1 1 _ rfl
      have g2 : w4.cell? ⟨w1.heap.size, 2, none⟩ = some (.slice p2 n2 c2) := (KP.out _ HB4.out).1 2 _ rfl
      have g3 : w4.cell? ⟨w1.heap.size, 3, none⟩ = some (.slice p3 n3 c3) := (KP.out _ HB4.out).1 3 _ rfl
      have g4 : w4.cell? ⟨w1.heap.size, 4, none⟩ = some (.slice p4 n4 c4) := (KP.out _ HB4.out).1 4 _ rfl
      have g5 : w4.cell? ⟨w1.heap.size, 5, none⟩ = some (.slice p5 n5 c5) := (KP.out _ HB4.out).1 5 _ rfl
      have hsr := (KP.out _ HB4.out).2.2.2.2.2
      go_wp2_with fail
      refine (rruleOf_any (.int .i64 d) (.slice p2 n2 c2) (.slice p3 n3 c3) (.slice p4 n4 c4) (.slice p5 n5 c5) (.slice p1 n1 c1) RS s _ (by have := HN.out; omega) (by omega) (KP.out _ HB5.out).2.2.1 (fun r hr => by have := HRS.out r hr; omega)).mono ?_
      rintro e w5 ⟨he, hb5⟩
      rw [← HA.out] at he
      simp only [ruleL] at he
      subst he
      have HX5 := Lib.hid (HX.out.step hb5)
      have x0 : w5.cell? ⟨w4.heap.size, 0, none⟩ = some (.string oc) := HX5.out.c 0 _ rfl
      have x1 : w5.cell? ⟨w4.heap.size, 1, none⟩ = some (.int .i64 om) := HX5.out.c 1 _ rfl
      have x2 : w5.cell? ⟨w4.heap.size, 2, none⟩ = some (.int .i64 on) := HX5.out.c 2 _ rfl
      have x3 : w5.cell? ⟨w4.heap.size, 3, none⟩ = some (.int .i64 os) := HX5.out.c 3 _ rfl
      have hs5 := HX5.out.sz
      have HB6 := Lib.hid (chainAlloc (chain0 HB5.out hb5) (.cells #[.string oc, .int .i64 om, .int .i64 on, .int .i64 os] 43))
      clear hb5 g0 g1 g2 g3 g4 g5 hsr
      go_wp2_with fail
      go_roundw
      case rel => exact ⟨k + 1, by omega, by go_num, HB6.out⟩
      case measure => simp [intOf]; omega
    · clear hb
      go_wp2_with fail
      refine (awake_at _ (KP.out _ HBR.out).2.2.2.1).mono ?_
      rintro e w6 ⟨rfl, hb6⟩
      go_wp2
      go_ret
      exact ⟨rfl, chain0 (KP.out _ HBR.out).2.2.2.2.1 hb6⟩
end Go.Proofs.YtkgkjoologjehaaGreatDoor
