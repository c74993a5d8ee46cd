/- Contracts of what writes a plan: a line, and the text of a chain's steps. -/
import Derived.Test.YtenjefbplpbjaaaGreatDoorQ2
import Derived.Shelf.Strings.BuilderK
import Derived.Lib.BufferKept
namespace Go.Proofs.YtenjefbplpbjaaaGreatDoor
open Go.RowKit Go.Sort Cal Go.Maps
theorem ownsF_below {w w' : World} {base size n : Nat} {e : TypeId} {v : Value} {xs : List Value} (h : w.ownsRowF base e size v n xs) (hb : Below w.heap.size w w') : w'.ownsRowF base e size v n xs := by
  refine ⟨h.1, ?_⟩
  rcases h.2 with h0 | ⟨g, cap, cur, fz, hv, hbase, hblk, h1, h2, h3, h4, h5⟩
  · exact Or.inl h0
  · exact Or.inr ⟨g, cap, cur, fz, hv, hbase, (hb.block g (Array.getElem?_eq_some_iff.1 hblk).1).trans hblk, h1, h2, h3, h4, h5⟩
theorem builder_below {T e : TypeId} {B b : Nat} {bs : List Value} {w w' : World} (h : Lib.IsBuilderF T e B b bs w) (hb : Below w.heap.size w w') : Lib.IsBuilderF T e B b bs w' := by
  rcases h with h | h
  · obtain ⟨hB, v, hv, hown, hne⟩ := h
    exact Or.inl ⟨hB, v, (hb.block b (Array.getElem?_eq_some_iff.1 hv).1).trans hv, ownsF_below hown hb, hne⟩
  · obtain ⟨hB, v, hv, hown, hne⟩ := h
    exact Or.inr ⟨hB, v, (hb.block b (Array.getElem?_eq_some_iff.1 hv).1).trans hv, ownsF_below hown hb, hne⟩
theorem wstr_at (B b : Nat) (l : List UInt8) (s : ByteArray) (w : World) (h : Lib.IsBuilderF 89 5 B b (Lib.byteCells l) w) (hlen : l.length + s.size ≤ 140737488355328) (hB : B ≤ w.heap.size) :
    Calls Tryz.prog 42 #[.pointer (some ⟨b, 0, none⟩), .string s] w fun e w' => e = .returned (.tuple #[.int .i64 s.size, .nilIface]) ∧ Lib.IsBuilderF 89 5 B b (Lib.byteCells (l ++ s.data.toList)) w' ∧ Below B w w' ∧ Lib.OthersKept 5 (some b) w w' :=
  (Any.Builder_WriteString_k (P := Tryz.prog) (ρ := Tryz.lays156_ren) { Tryz.lays156 with } Tryz.Builder_Extra_156 B b (Lib.byteCells l) s w h (by simpa [Lib.byteCells] using hlen) hB).mono fun _ _ ⟨he, hb, hbl, hk⟩ => ⟨he, Or.inr (by
    have hb' : Lib.BuilderAtF 89 5 B b (.pointer (some ⟨b, 0, none⟩)) (Lib.byteCells l ++ Lib.strCells s) _ := hb
    simpa [Lib.byteCells, Lib.strCells] using hb'), hbl, hk⟩
theorem itoa_lit (i : Nat) (hi : i < 100) (d : ByteArray) (hd : (⟨(Lib.decDigits i).toArray⟩ : ByteArray) = d) (w : World) :
    Calls Tryz.prog 44 #[.int .i64 (i : Int)] w fun e w' => e = .returned (.string d) ∧ w = w' :=
  (Tryz.strconv_Itoa_small i hi w).mono fun _ _ ⟨he, hw⟩ => ⟨by rw [he, hd], hw.symm⟩
set_option maxHeartbeats 800000 in
theorem line_at (B b : Nat) (l : List UInt8) (sk n c : Nat) (xs : List ByteArray) (r : ByteArray) (w : World) (h : Lib.IsBuilderF 89 5 B b (Lib.byteCells l) w) (hB : B ≤ w.heap.size)
    (hn : n = xs.length) (hc : ∀ (j : Nat) x, xs[j]? = some x → w.cell? ⟨sk, 0 + j, none⟩ = some (.string x)) (hsk : sk < w.heap.size) (h9 : n ≤ 9) (hcap : n ≤ c) (hr : (⟨(Lib.join (xs.map (·.data.toList)) [32]).toArray⟩ : ByteArray) ++ ⟨#[10]⟩ = r) (hl : l.length ≤ 8000) (hs : r.size ≤ 1000) :
    Calls Tryz.prog 41 #[.slice (some ⟨sk, 0, none⟩) n c, .pointer (some ⟨b, 0, none⟩)] w fun e w' => e = .returned (.tuple #[]) ∧ Lib.IsBuilderF 89 5 B b (Lib.byteCells (l ++ r.data.toList)) w' ∧ Below B w w' ∧ Lib.OthersKept 5 (some b) w w' := by
  subst hn
  have hj : (Lib.join (xs.map (·.data.toList)) [32]).length ≤ 1000 := by
    rw [← hr, ByteArray.size_append] at hs
    have e : (⟨(Lib.join (xs.map (·.data.toList)) [32]).toArray⟩ : ByteArray).size = (Lib.join (xs.map (·.data.toList)) [32]).length := by
      show (List.toArray _).size = _
      simp
    omega
  have hy : (⟨(Lib.join (xs.map (·.data.toList)) [32]).toArray⟩ : ByteArray).size ≤ 1000 := by
    have e : (⟨(Lib.join (xs.map (·.data.toList)) [32]).toArray⟩ : ByteArray).size = (Lib.join (xs.map (·.data.toList)) [32]).length := by
      show (List.toArray _).size = _
      simp
    omega
  have J : Calls Tryz.prog 43 #[.slice (some ⟨sk, 0, none⟩) xs.length c, .string ⟨#[32]⟩] w fun e w' => e = .returned (.string ⟨(Lib.join (xs.map (·.data.toList)) [32]).toArray⟩) ∧ Below w.heap.size w w' :=
    Tryz.strings_Join sk 0 c xs ⟨#[32]⟩ w hc hsk (by omega) hcap (by show (Lib.join (xs.map (·.data.toList)) [32]).length ≤ _; omega)
  have HJ := Lib.hid J
  have HH := Lib.hid h
  have HR := Lib.hid hr
  generalize (⟨(Lib.join (xs.map (·.data.toList)) [32]).toArray⟩ : ByteArray) = y at *
  clear J h hr hc hj
  go_enter Tryz.func41, Tryz.ntmps41
  go_wp2_with fail
  refine HJ.out.mono ?_
  rintro e w1 ⟨rfl, hb1⟩
  go_wp2_with fail
  rw [HR.out]
  refine (wstr_at B b l r w1 (builder_below HH.out hb1) (by omega) (Nat.le_trans hB hb1.size)).mono ?_
  rintro e w2 ⟨rfl, hb2, hbl2, hk2⟩
  go_wp2
  exact bodyPost_end (v := .tuple #[]) (by simp [results, Tryz.results41, go_sem]) rfl ⟨rfl, hb2, (hb1.mono hB).trans hbl2, ((Lib.OthersKept.refl _ _ _).below hb1).trans hk2⟩
theorem info9q : (Tryz.prog.info? 9).map (fun i => (i.zero, i.size, i.bytes)) = some (some (.string ⟨#[]⟩), 1, 16) := by kernel_rfl
def ctL : List ByteArray := [⟨#[99, 108, 97, 115, 115, 32, 50]⟩, ⟨#[99, 97, 114, 114, 121, 32, 51]⟩, ⟨#[100, 114, 111, 112]⟩]
set_option maxHeartbeats 3200000 in
theorem chain_at (g1 g2 g3 c3 : Nat) (w : World) (hP : PlanAt g1 g2 g3 c3 w) :
    Calls Tryz.prog 48 #[.slice (some ⟨g3, 0, none⟩) 3 c3] w fun e w' => e = .returned (.string ⟨#[99, 108, 97, 115, 115, 32, 50, 44, 32, 99, 97, 114, 114, 121, 32, 51, 44, 32, 100, 114, 111, 112]⟩) ∧ Below w.heap.size w w' := by
  obtain ⟨i0, hi0, hz0, hz1, hz2⟩ := info_parts info9q
  have HP := Lib.hid hP
  have HJ : Hid (∀ (sk c : Nat) (W : World), (∀ (j : Nat) x, ctL[j]? = some x → W.cell? ⟨sk, 0 + j, none⟩ = some (.string x)) → sk < W.heap.size → 3 ≤ c → Calls Tryz.prog 43 #[.slice (some ⟨sk, 0, none⟩) 3 c, .string ⟨#[44, 32]⟩] W fun e w' => e = .returned (.string ⟨#[99, 108, 97, 115, 115, 32, 50, 44, 32, 99, 97, 114, 114, 121, 32, 51, 44, 32, 100, 114, 111, 112]⟩) ∧ Below W.heap.size W w') := Lib.hid (fun sk c W h1 h2 h3 => Tryz.strings_Join sk 0 c ctL ⟨#[44, 32]⟩ W h1 h2 (by decide) h3 (by decide))
  clear hP
  go_enter Tryz.func48, Tryz.ntmps48
  go_wp2_with fail
  go_loopw [3, 9] (fun o i wr => ∃ k : Nat, k ≤ 3 ∧ i = .int .i64 k ∧ wr.ownsRow w.heap.size 9 1 o k ((ctL.take k).map Value.string) ∧ Below w.heap.size w wr) (fun _ i _ => 3 - (intOf i).toNat)
  case atStart => exact ⟨0, by omega, rfl, World.ownsRow_nil _ _ _ _, Below.refl _ _⟩
  case round =>
    obtain ⟨k, hk3, rfl, hown, hB⟩ := hrel
    have HR := Lib.hid hB
    have HO := Lib.hid hown
    have P := HP.out.below hB
    have s0 := P.s0
    have s1 := P.s1
    have s2 := P.s2
    have s3 := P.s3
    have s4 := P.s4
    have s5 := P.s5
    have hl3 := P.l3
    have hk := P.k3
    clear hB P
    obtain rfl | rfl | rfl | rfl : k = 0 ∨ k = 1 ∨ k = 2 ∨ k = 3 := by omega
    · have KS : Hid (∀ W, Below (wr.alloc (.cells #[.int .i64 1, .int .i64 2] 82)).heap.size (wr.alloc (.cells #[.int .i64 1, .int .i64 2] 82)) W → W.cell? ⟨wr.heap.size, 0, none⟩ = some (.int .i64 1) ∧ W.cell? ⟨wr.heap.size, 1, none⟩ = some (.int .i64 2) ∧ Below wr.heap.size wr W) := Lib.hid (fun W hW => by
        have X := (Box.new wr [.int .i64 1, .int .i64 2] 82).step hW
        exact ⟨X.c 0 _ rfl, X.c 1 _ rfl, X.bl⟩)
      clear hown
      go_wp2_with fail
      obtain ⟨W, hW⟩ : ∃ W, W = wr.alloc (.cells #[.int .i64 1, .int .i64 2] 82) := ⟨_, rfl⟩
      rw [← hW] at KS ⊢
      have k0 := fun d os => (KS.out _ (below_regrown W d os)).1
      have ix : ∀ w, (Instr.index 98 (.agg #[.string ⟨#[]⟩, .string ⟨#[99, 108, 97, 115, 115]⟩, .string ⟨#[112, 97, 114, 101, 110, 116]⟩, .string ⟨#[99, 97, 114, 114, 121]⟩, .string ⟨#[100, 114, 111, 112]⟩]) (.int .i64 1)).run Tryz.prog w = .ok (.string ⟨#[99, 108, 97, 115, 115]⟩) w := fun _ => by kernel_rfl
      clear hW
      refine wp_region_quiet_below (by kernel_rfl) (by kernel_rfl) ?_
      repeat (go_big_quiet_step (first
        | (go_at_call 94; exact Calls.regrown_of (steps_any _))))
      refine wpQuiet_nil ?_
      intro _ hw'
      obtain ⟨⟨dq, osq⟩, hw''⟩ := hw'
      subst hw''
      have HB6 := Lib.hid (below_regrown W dq osq)
      obtain ⟨w1, hw1⟩ : ∃ x, x = grow (redrawn W dq) osq := ⟨_, rfl⟩
      rw [← hw1] at HB6 ⊢
      have q0 := (KS.out _ HB6.out).1
      have q1 := (KS.out _ HB6.out).2.1
      have HB7 := Lib.hid (KS.out _ HB6.out).2.2
      clear hw1 k0 ix HB6 KS
      have hown2 := ownsRow_below HO.out HB7.out
      go_wp2_with fail
      refine (itoa_lit 2 (by omega) ⟨#[50]⟩ (by first | kernel_rfl | (unfold Lib.decDigits; rfl) | simp [Lib.decDigits]) _).mono ?_
      rintro e w2 ⟨rfl, rfl⟩
      have hs1 := Nat.le_trans HR.out.size HB7.out.size
      go_wp2_with (first
        | (at_builtin; refine wpList_append_own _ rfl _ _ 54 rfl w.heap.size 9 i0 (.string ⟨#[]⟩) 1 16 Tryz.underlying54 hi0 hz0 hz1 hz2 rfl (by decide) _ _ _ rfl (hown2.alloc _) ⟨w1.heap.size, 0, none⟩ 1 1 [.string ⟨#[99, 108, 97, 115, 115, 32, 50]⟩] rfl rfl (cell_one_new _ _ _) (by simp [Value.oneCell']) (by unfold maxLen; omega) (by omega) (by simp; omega) ?_)
        | fail)
      intro v' w3 hown3 hgrow _
      have HO3 : Hid (w3.ownsRow w.heap.size 9 1 v' 1 ((ctL.take 1).map Value.string)) := Lib.hid hown3
      have HB3 : Hid (Below w.heap.size w w3) := Lib.hid ((((HR.out.trans (HB7.out.mono HR.out.size))).alloc hs1 _).grown hgrow (by simp; omega) (fun j hj => (hown2.lt j hj).1))
      clear hown2 hown3 hgrow
      go_wp2_with fail
      go_roundw
      case rel => exact ⟨1, by omega, by go_num, HO3.out, HB3.out⟩
      case measure => simp [intOf]
    · have KS : Hid (∀ W, Below (wr.alloc (.cells #[.int .i64 3, .int .i64 3] 82)).heap.size (wr.alloc (.cells #[.int .i64 3, .int .i64 3] 82)) W → W.cell? ⟨wr.heap.size, 0, none⟩ = some (.int .i64 3) ∧ W.cell? ⟨wr.heap.size, 1, none⟩ = some (.int .i64 3) ∧ Below wr.heap.size wr W) := Lib.hid (fun W hW => by
        have X := (Box.new wr [.int .i64 3, .int .i64 3] 82).step hW
        exact ⟨X.c 0 _ rfl, X.c 1 _ rfl, X.bl⟩)
      clear hown
      go_wp2_with fail
      obtain ⟨W, hW⟩ : ∃ W, W = wr.alloc (.cells #[.int .i64 3, .int .i64 3] 82) := ⟨_, rfl⟩
      rw [← hW] at KS ⊢
      have k0 := fun d os => (KS.out _ (below_regrown W d os)).1
      have ix : ∀ w, (Instr.index 98 (.agg #[.string ⟨#[]⟩, .string ⟨#[99, 108, 97, 115, 115]⟩, .string ⟨#[112, 97, 114, 101, 110, 116]⟩, .string ⟨#[99, 97, 114, 114, 121]⟩, .string ⟨#[100, 114, 111, 112]⟩]) (.int .i64 3)).run Tryz.prog w = .ok (.string ⟨#[99, 97, 114, 114, 121]⟩) w := fun _ => by kernel_rfl
      clear hW
      refine wp_region_quiet_below (by kernel_rfl) (by kernel_rfl) ?_
      repeat (go_big_quiet_step (first
        | (go_at_call 94; exact Calls.regrown_of (steps_any _))))
      refine wpQuiet_nil ?_
      intro _ hw'
      obtain ⟨⟨dq, osq⟩, hw''⟩ := hw'
      subst hw''
      have HB6 := Lib.hid (below_regrown W dq osq)
      obtain ⟨w1, hw1⟩ : ∃ x, x = grow (redrawn W dq) osq := ⟨_, rfl⟩
      rw [← hw1] at HB6 ⊢
      have q0 := (KS.out _ HB6.out).1
      have q1 := (KS.out _ HB6.out).2.1
      have HB7 := Lib.hid (KS.out _ HB6.out).2.2
      clear hw1 k0 ix HB6 KS
      have hown2 := ownsRow_below HO.out HB7.out
      go_wp2_with fail
      refine (itoa_lit 3 (by omega) ⟨#[51]⟩ (by first | kernel_rfl | (unfold Lib.decDigits; rfl) | simp [Lib.decDigits]) _).mono ?_
      rintro e w2 ⟨rfl, rfl⟩
      have hs1 := Nat.le_trans HR.out.size HB7.out.size
      go_wp2_with (first
        | (at_builtin; refine wpList_append_own _ rfl _ _ 54 rfl w.heap.size 9 i0 (.string ⟨#[]⟩) 1 16 Tryz.underlying54 hi0 hz0 hz1 hz2 rfl (by decide) _ _ _ rfl (hown2.alloc _) ⟨w1.heap.size, 0, none⟩ 1 1 [.string ⟨#[99, 97, 114, 114, 121, 32, 51]⟩] rfl rfl (cell_one_new _ _ _) (by simp [Value.oneCell']) (by unfold maxLen; omega) (by omega) (by simp; omega) ?_)
        | fail)
      intro v' w3 hown3 hgrow _
      have HO3 : Hid (w3.ownsRow w.heap.size 9 1 v' 2 ((ctL.take 2).map Value.string)) := Lib.hid hown3
      have HB3 : Hid (Below w.heap.size w w3) := Lib.hid ((((HR.out.trans (HB7.out.mono HR.out.size))).alloc hs1 _).grown hgrow (by simp; omega) (fun j hj => (hown2.lt j hj).1))
      clear hown2 hown3 hgrow
      go_wp2_with fail
      go_roundw
      case rel => exact ⟨2, by omega, by go_num, HO3.out, HB3.out⟩
      case measure => simp [intOf]
    · have KS : Hid (∀ W, Below (wr.alloc (.cells #[.int .i64 4, .int .i64 0] 82)).heap.size (wr.alloc (.cells #[.int .i64 4, .int .i64 0] 82)) W → W.cell? ⟨wr.heap.size, 0, none⟩ = some (.int .i64 4) ∧ W.cell? ⟨wr.heap.size, 1, none⟩ = some (.int .i64 0) ∧ Below wr.heap.size wr W) := Lib.hid (fun W hW => by
        have X := (Box.new wr [.int .i64 4, .int .i64 0] 82).step hW
        exact ⟨X.c 0 _ rfl, X.c 1 _ rfl, X.bl⟩)
      clear hown
      go_wp2_with fail
      obtain ⟨W, hW⟩ : ∃ W, W = wr.alloc (.cells #[.int .i64 4, .int .i64 0] 82) := ⟨_, rfl⟩
      rw [← hW] at KS ⊢
      have k0 := fun d os => (KS.out _ (below_regrown W d os)).1
      have ix : ∀ w, (Instr.index 98 (.agg #[.string ⟨#[]⟩, .string ⟨#[99, 108, 97, 115, 115]⟩, .string ⟨#[112, 97, 114, 101, 110, 116]⟩, .string ⟨#[99, 97, 114, 114, 121]⟩, .string ⟨#[100, 114, 111, 112]⟩]) (.int .i64 4)).run Tryz.prog w = .ok (.string ⟨#[100, 114, 111, 112]⟩) w := fun _ => by kernel_rfl
      clear hW
      refine wp_region_quiet_below (by kernel_rfl) (by kernel_rfl) ?_
      repeat (go_big_quiet_step (first
        | (go_at_call 94; exact Calls.regrown_of (steps_any _))))
      refine wpQuiet_nil ?_
      intro _ hw'
      obtain ⟨⟨dq, osq⟩, hw''⟩ := hw'
      subst hw''
      have HB6 := Lib.hid (below_regrown W dq osq)
      obtain ⟨w1, hw1⟩ : ∃ x, x = grow (redrawn W dq) osq := ⟨_, rfl⟩
      rw [← hw1] at HB6 ⊢
      have q0 := (KS.out _ HB6.out).1
      have q1 := (KS.out _ HB6.out).2.1
      have HB7 := Lib.hid (KS.out _ HB6.out).2.2
      clear hw1 k0 ix HB6 KS
      have hown2 := ownsRow_below HO.out HB7.out
      have hs1 := Nat.le_trans HR.out.size HB7.out.size
      go_wp2_with (first
        | (at_builtin; refine wpList_append_own _ rfl _ _ 54 rfl w.heap.size 9 i0 (.string ⟨#[]⟩) 1 16 Tryz.underlying54 hi0 hz0 hz1 hz2 rfl (by decide) _ _ _ rfl (hown2.alloc _) ⟨w1.heap.size, 0, none⟩ 1 1 [.string ⟨#[100, 114, 111, 112]⟩] rfl rfl (cell_one_new _ _ _) (by simp [Value.oneCell']) (by unfold maxLen; omega) (by omega) (by simp; omega) ?_)
        | fail)
      intro v' w3 hown3 hgrow _
      have HO3 : Hid (w3.ownsRow w.heap.size 9 1 v' 3 ((ctL.take 3).map Value.string)) := Lib.hid hown3
      have HB3 : Hid (Below w.heap.size w w3) := Lib.hid ((((HR.out.trans (HB7.out.mono HR.out.size))).alloc hs1 _).grown hgrow (by simp; omega) (fun j hj => (hown2.lt j hj).1))
      clear hown2 hown3 hgrow
      go_wp2_with fail
      go_roundw
      case rel => exact ⟨3, by omega, by go_num, HO3.out, HB3.out⟩
      case measure => simp [intOf]
    · obtain ⟨g, cap, rfl, _, hlt⟩ := World.ownsRow.form hown (by omega)
      have hcap := own_cap hown
      clear hown
      go_wp2_with fail
      refine (HJ.out g cap wr (fun j x hx => by
        have hj := (List.getElem?_eq_some_iff.1 hx).1
        have := HO.out.cellAt j (by simpa [ctL] using hj)
        rw [Nat.zero_add, this]
        show ((ctL.take 3).map Value.string)[j]? = _
        rw [List.getElem?_map, show ctL.take 3 = ctL from rfl, hx]; rfl) hlt hcap).mono ?_
      rintro e w2 ⟨rfl, hb2⟩
      go_wp2
      go_ret
      exact ⟨rfl, chain0 HR.out hb2⟩
end Go.Proofs.YtenjefbplpbjaaaGreatDoor
