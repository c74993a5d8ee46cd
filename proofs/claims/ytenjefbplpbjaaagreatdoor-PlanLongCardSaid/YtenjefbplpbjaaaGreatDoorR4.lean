/- The reference's arithmetic at numbers of one limb: Trim, FromUint. -/
import Derived.Test.YtenjefbplpbjaaaGreatDoorR3
namespace Go.Proofs.YtenjefbplpbjaaaGreatDoor
open Go.RowKit Go.Sort Cal Go.Maps
theorem info_u32 : (Tryz.prog.info? 129).map (fun i => (i.zero, i.size, i.bytes)) = some (some (.int .u32 0), 1, 4) := by kernel_rfl
def limN (N : Nat) : Nat := if N = 0 then 0 else 1
theorem lim_nat (N : Nat) : lim N = (limN N : Int) := by unfold lim limN; split <;> rfl
def limL (N : Nat) : List Value := if N = 0 then [] else [.int .u32 N]
/-- A number without zero limbs, in memory of the call's own. -/
structure Fresh (base : Nat) (w : World) (v : Value) (N : Nat) : Prop where
  form : ∃ b c, v = .slice (some ⟨b, 0, none⟩) (limN N) c ∧ limN N ≤ c ∧ base ≤ b ∧ b < w.heap.size ∧ (0 < N → w.cell? ⟨b, 0, none⟩ = some (.int .u32 N) ∧ w.frozen? ⟨b, 0, none⟩ = false)
theorem Fresh.limb {base : Nat} {w : World} {v : Value} {N : Nat} (h : Fresh base w v N) : LimbAt w v N := by
  obtain ⟨b, c, rfl, hc, _, hlt, hk⟩ := h.form
  by_cases h0 : N = 0
  · subst h0; exact Or.inl ⟨rfl, _, _, rfl⟩
  · have e : limN N = 1 := by unfold limN; rw [if_neg h0]
    rw [e] at hc ⊢
    exact Or.inr ⟨by omega, b, c, rfl, hc, hlt, (hk (by omega)).1⟩
theorem fresh_own {w : World} {base N : Nat} {v : Value} (h : w.ownsRow base 129 1 v (limN N) (limL N)) (hne : ¬ v = .slice none 0 0) : Fresh base w v N := by
  constructor
  rcases h.2 with ⟨h0, _⟩ | ⟨g, cap, cur, hv, hbase, hblk, h1, h2, h3, h4⟩
  · exact absurd h0 hne
  · refine ⟨g, cap, hv, h1, hbase, (Array.getElem?_eq_some_iff.1 hblk).1, fun h0 => ⟨?_, free_blk hblk 0⟩⟩
    have e : limL N = [.int .u32 N] := by unfold limL; rw [if_neg (by omega)]
    rw [e] at h4
    refine cell_blk hblk 0 _ ?_
    have k : (List.take (limN N * 1) cur.toList)[0]? = some (.int .u32 (N : Int)) := by rw [h4]; rfl
    rw [List.getElem?_take] at k
    split at k
    · rw [← Array.getElem?_toList]; exact k
    · cases k
def LimbPost (N : Nat) (w : World) (e : Ending) (w' : World) : Prop := ∃ v, e = .returned v ∧ Fresh w.heap.size w' v N ∧ Below w.heap.size w w'
set_option maxRecDepth 100000 in
set_option maxHeartbeats 1600000 in
theorem trim_raw (v : Value) (N : Nat) (w : World) (h : RawAt w v N) :
    Calls Tryz.prog 134 #[v] w (LimbPost N w) := by
  obtain ⟨i0, hi0, hz0, hz1, hz2⟩ := info_parts info_u32
  have HLIT : Hid ((w.alloc (.cells #[] 129)).ownsRow w.heap.size 129 1 (.slice (some ⟨w.heap.size, 0, none⟩) 0 0) 0 []) := Lib.hid (World.ownsRow_lit w #[] 0 (Nat.le_refl _) (by decide) rfl)
  have HA := Lib.hid (h.below ((Below.refl _ _).alloc (Nat.le_refl _) (.cells #[] 129)))
  have FIN : Hid (∀ (v' : Value) (w' : World), w'.ownsRow w.heap.size 129 1 v' (limN N) (limL N) → (w.alloc (.cells #[] 129)).grownBy w' (some w.heap.size) → ¬ v' = .slice none 0 0 → LimbPost N w (.returned v') w') := Lib.hid (fun v' w' ho hg hne =>
    ⟨v', rfl, fresh_own ho hne, ((Below.refl _ _).alloc (Nat.le_refl _) (.cells #[] 129)).grown hg (by simp) (fun j hj => by cases hj; exact Nat.le_refl _)⟩)
  by_cases hN : N = 0
  · have HE : Hid (limN N = 0 ∧ limL N = []) := Lib.hid (by subst hN; exact ⟨rfl, rfl⟩)
    have HL : Hid (lim N = 0) := Lib.hid (by subst hN; rfl)
    rcases h with ⟨_, a, c, rfl⟩ | ⟨b, c, rfl, hc, hb, h0⟩ | ⟨b, c, rfl, hc, hb, h0, h1⟩
    · clear hN
      go_enter Tryz.func134, Tryz.ntmps134
      go_wp2_with fail
      refine (size_raw _ N _ HA.out).mono ?_
      rintro e w1 ⟨rfl, rfl⟩
      rw [HL.out]
      go_wp2_with (first
        | (at_builtin; refine wpList_append_own _ rfl _ _ 34 rfl w.heap.size 129 i0 (.int .u32 0) 1 4 Tryz.underlying34 hi0 hz0 hz1 hz2 rfl (by decide) _ _ _ rfl HLIT.out a 0 c [] rfl rfl (by intro j u hj; simp at hj) (by intro u hu; simp at hu) (by unfold maxLen; omega) (by omega) (by simp) ?_)
        | fail)
      intro v' w' ho hg hne
      have ho2 : w'.ownsRow w.heap.size 129 1 v' (limN N) (limL N) := by rw [HE.out.1, HE.out.2]; exact ho
      have HO := Lib.hid (FIN.out v' w' ho2 hg hne)
      clear ho ho2 hg hne
      go_wp2_with fail
      go_ret
      exact HO.out
    · clear hN
      go_enter Tryz.func134, Tryz.ntmps134
      go_wp2_with fail
      refine (size_raw _ N _ HA.out).mono ?_
      rintro e w1 ⟨rfl, rfl⟩
      rw [HL.out]
      go_wp2_with (first
        | (at_builtin; refine wpList_append_own _ rfl _ _ 34 rfl w.heap.size 129 i0 (.int .u32 0) 1 4 Tryz.underlying34 hi0 hz0 hz1 hz2 rfl (by decide) _ _ _ rfl HLIT.out ⟨b, 0, none⟩ 0 c [] rfl rfl (by intro j u hj; simp at hj) (by intro u hu; simp at hu) (by unfold maxLen; omega) (by omega) (by simp) ?_)
        | fail)
      intro v' w' ho hg hne
      have ho2 : w'.ownsRow w.heap.size 129 1 v' (limN N) (limL N) := by rw [HE.out.1, HE.out.2]; exact ho
      have HO := Lib.hid (FIN.out v' w' ho2 hg hne)
      clear ho ho2 hg hne
      go_wp2_with fail
      go_ret
      exact HO.out
    · clear hN
      go_enter Tryz.func134, Tryz.ntmps134
      go_wp2_with fail
      refine (size_raw _ N _ HA.out).mono ?_
      rintro e w1 ⟨rfl, rfl⟩
      rw [HL.out]
      go_wp2_with (first
        | (at_builtin; refine wpList_append_own _ rfl _ _ 34 rfl w.heap.size 129 i0 (.int .u32 0) 1 4 Tryz.underlying34 hi0 hz0 hz1 hz2 rfl (by decide) _ _ _ rfl HLIT.out ⟨b, 0, none⟩ 0 c [] rfl rfl (by intro j u hj; simp at hj) (by intro u hu; simp at hu) (by unfold maxLen; omega) (by omega) (by simp) ?_)
        | fail)
      intro v' w' ho hg hne
      have ho2 : w'.ownsRow w.heap.size 129 1 v' (limN N) (limL N) := by rw [HE.out.1, HE.out.2]; exact ho
      have HO := Lib.hid (FIN.out v' w' ho2 hg hne)
      clear ho ho2 hg hne
      go_wp2_with fail
      go_ret
      exact HO.out
  · have HE : Hid (limN N = 1 ∧ limL N = [.int .u32 N]) := Lib.hid (by unfold limN limL; rw [if_neg hN, if_neg hN]; exact ⟨rfl, rfl⟩)
    have HL : Hid (lim N = 1) := Lib.hid (lim_pos hN)
    rcases h with ⟨h0, a, c, rfl⟩ | ⟨b, c, rfl, hc, hb, h0⟩ | ⟨b, c, rfl, hc, hb, h0, h1⟩
    · exact absurd h0 hN
    · have hcell : (w.alloc (.cells #[] 129)).cell? ⟨b, 0, none⟩ = some (.int .u32 N) := (((Below.refl _ _).alloc (Nat.le_refl _) (.cells #[] 129)).cell (p := ⟨b, 0, none⟩) hb).trans h0
      clear hN
      go_enter Tryz.func134, Tryz.ntmps134
      go_wp2_with fail
      refine (size_raw _ N _ HA.out).mono ?_
      rintro e w1 ⟨rfl, rfl⟩
      rw [HL.out]
      go_wp2_with (first
        | (at_builtin; refine wpList_append_own _ rfl _ _ 34 rfl w.heap.size 129 i0 (.int .u32 0) 1 4 Tryz.underlying34 hi0 hz0 hz1 hz2 rfl (by decide) _ _ _ rfl HLIT.out ⟨b, 0, none⟩ 1 c [.int .u32 N] rfl rfl (by intro j u hj; match j, hj with | 0, hj => simp at hj; subst hj; simpa [Addr.add] using hcell) (by intro u hu; simp at hu; subst hu; rfl) (by unfold maxLen; omega) (by omega) (by simp) ?_)
        | fail)
      intro v' w' ho hg hne
      have ho2 : w'.ownsRow w.heap.size 129 1 v' (limN N) (limL N) := by rw [HE.out.1, HE.out.2]; exact ho
      have HO := Lib.hid (FIN.out v' w' ho2 hg hne)
      clear ho ho2 hg hne
      go_wp2_with fail
      go_ret
      exact HO.out
    · have hcell : (w.alloc (.cells #[] 129)).cell? ⟨b, 0, none⟩ = some (.int .u32 N) := (((Below.refl _ _).alloc (Nat.le_refl _) (.cells #[] 129)).cell (p := ⟨b, 0, none⟩) hb).trans h0
      clear hN
      go_enter Tryz.func134, Tryz.ntmps134
      go_wp2_with fail
      refine (size_raw _ N _ HA.out).mono ?_
      rintro e w1 ⟨rfl, rfl⟩
      rw [HL.out]
      go_wp2_with (first
        | (at_builtin; refine wpList_append_own _ rfl _ _ 34 rfl w.heap.size 129 i0 (.int .u32 0) 1 4 Tryz.underlying34 hi0 hz0 hz1 hz2 rfl (by decide) _ _ _ rfl HLIT.out ⟨b, 0, none⟩ 1 c [.int .u32 N] rfl rfl (by intro j u hj; match j, hj with | 0, hj => simp at hj; subst hj; simpa [Addr.add] using hcell) (by intro u hu; simp at hu; subst hu; rfl) (by unfold maxLen; omega) (by omega) (by simp) ?_)
        | fail)
      intro v' w' ho hg hne
      have ho2 : w'.ownsRow w.heap.size 129 1 v' (limN N) (limL N) := by rw [HE.out.1, HE.out.2]; exact ho
      have HO := Lib.hid (FIN.out v' w' ho2 hg hne)
      clear ho ho2 hg hne
      go_wp2_with fail
      go_ret
      exact HO.out
end Go.Proofs.YtenjefbplpbjaaaGreatDoor
