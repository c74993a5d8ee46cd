/- The contract of the generator of chains. -/
import Derived.Test.YtkgkjoologjehaaGreatDoorU3
import Derived.Test.YtkgkjoologjehaaGreatDoorR2
import Derived.Maps.AppendAt
namespace Go.Proofs.YtkgkjoologjehaaGreatDoor
open Go.RowKit Go.Sort Cal Go.Maps
/-- The row does not lie in block B. -/
def Away (v : Value) (B : Nat) : Prop := ∀ j, v.ownBlock = some j → j ≠ B
theorem Away.next {v v' : Value} {B k : Nat} (h : Away v B) (hv : v'.ownBlock = v.ownBlock ∨ v'.ownBlock = some k) (hk : B < k) : Away v' B := by
  intro j hj
  rcases hv with e | e
  · exact h j (e ▸ hj)
  · rw [e] at hj; cases hj; omega
theorem grown_cell {w w' : World} {v : Value} {B j : Nat} (hg : w.grownBy w' v.ownBlock) (h : Away v B) (hlt : B < w.heap.size) : w'.cell? ⟨B, j, none⟩ = w.cell? ⟨B, j, none⟩ :=
  World.cell?_of_block (w := w) (w' := w') (a := ⟨B, j, none⟩) (hg.block B hlt (fun e => h B e.symm rfl))
set_option maxRecDepth 100000 in
set_option maxHeartbeats 3200000 in
theorem chains_any (b : Nat) (sv : Value) (zs : List Int) (i : Nat) (w : World) (hT : TapeAt b sv zs i w) (hi : i ≤ 50000) :
    Calls Tryz.prog 26 #[.pointer (some ⟨b, 0, none⟩), .bool false] w (RowPost 58 2 4 50 b sv zs i w) := by
  obtain ⟨i0, hi0, hz0, hz1, hz2⟩ := info_parts info_chain
  have HT := Lib.hid hT
  have HG := Lib.hid (Gen.start hT)
  clear hT
  go_enter Tryz.func26, Tryz.ntmps26
  go_wp2_with fail
  refine (tsteps_any b sv zs i _ HT.out (by omega)).mono ?_
  rintro e w1 ⟨v, n, xs, i', rfl, hown, hn, hi', hg1⟩
  obtain ⟨p, c, rfl⟩ := own_form hown
  have HG1 := Lib.hid ((hg1.alloc (.cells #[.string ⟨#[]⟩, .slice p n c] 58)).alloc (.cells #[.string ⟨#[48, 49]⟩, .string ⟨#[48, 49, 46, 49]⟩, .string ⟨#[48, 50]⟩] 9))
  have HO1 : Hid (((w1.alloc (.cells #[.string ⟨#[]⟩, .slice p n c] 58)).alloc (.cells #[.string ⟨#[48, 49]⟩, .string ⟨#[48, 49, 46, 49]⟩, .string ⟨#[48, 50]⟩] 9)).ownsRow w.heap.size 58 2 (.slice (some ⟨w1.heap.size, 0, none⟩) 1 1) 1 [.string ⟨#[]⟩, .slice p n c]) := Lib.hid ((World.ownsRow_lit w1 #[.string ⟨#[]⟩, .slice p n c] 1 hg1.size (by decide) rfl).alloc _)
  have HX := Lib.hid (Box.new (w1.alloc (.cells #[.string ⟨#[]⟩, .slice p n c] 58)) [.string ⟨#[48, 49]⟩, .string ⟨#[48, 49, 46, 49]⟩, .string ⟨#[48, 50]⟩] 9)
  have HXC : Hid (∀ j u, [Value.string ⟨#[48, 49]⟩, .string ⟨#[48, 49, 46, 49]⟩, .string ⟨#[48, 50]⟩][j]? = some u → ((w1.alloc (.cells #[.string ⟨#[]⟩, .slice p n c] 58)).alloc (.cells #[.string ⟨#[48, 49]⟩, .string ⟨#[48, 49, 46, 49]⟩, .string ⟨#[48, 50]⟩] 9)).cell? ⟨w1.heap.size + 1, j, none⟩ = some u) := Lib.hid (by have h := HX.out.c; rw [World.size_alloc] at h; exact h)
  have hsz1 := hg1.size
  have hlb := hg1.lt
  clear hg1 hown
  go_wp2_with fail
  go_loopw [5, 15] (fun v q wr => ∃ (k n i' : Nat) (xs : List Value), k ≤ 3 ∧ q = .int .i64 k ∧ n ≤ 1 + k ∧ i' ≤ i + 10 + 11 * k ∧ wr.ownsRow w.heap.size 58 2 v n xs ∧ Gen b sv zs i' w wr ∧ Away v (w1.heap.size + 1) ∧ w1.heap.size + 1 < wr.heap.size ∧ (∀ j u, [Value.string ⟨#[48, 49]⟩, .string ⟨#[48, 49, 46, 49]⟩, .string ⟨#[48, 50]⟩][j]? = some u → wr.cell? ⟨w1.heap.size + 1, j, none⟩ = some u)) (fun _ q _ => 3 - (intOf q).toNat)
  case atStart => exact ⟨0, 1, i', _, by omega, rfl, by omega, by omega, HO1.out, HG1.out, fun j hj => by simp [Value.ownBlock] at hj; omega, by simp, HXC.out⟩
  case round =>
    obtain ⟨k, n, i2, xs, hk, rfl, hn2, hi2, hown, hg, haw, hlt2, hcs⟩ := hrel
    have HO := Lib.hid hown
    have HG2 := Lib.hid hg
    have HAW := Lib.hid haw
    have HCS := Lib.hid hcs
    clear hown hg haw
    by_cases hlt : k < 3
    · have hstr : ∃ s : ByteArray, wr.cell? ⟨w1.heap.size + 1, k, none⟩ = some (.string s) := by
        have h3 : k = 0 ∨ k = 1 ∨ k = 2 := by omega
        rcases h3 with rfl | rfl | rfl
        · exact ⟨_, hcs 0 _ rfl⟩
        · exact ⟨_, hcs 1 _ rfl⟩
        · exact ⟨_, hcs 2 _ rfl⟩
      obtain ⟨s, hs⟩ := hstr
      clear hcs
      go_wp2_with fail
      refine (next_gen 3 HG2.out (by omega) (by omega) (by omega)).mono ?_
      rintro e w2 ⟨v, hv, rfl, hg3, ht3⟩
      have HG3 := Lib.hid hg3
      have HO3 := Lib.hid (HG2.out.own ht3 HO.out)
      have HC3 : Hid (∀ j u, [Value.string ⟨#[48, 49]⟩, .string ⟨#[48, 49, 46, 49]⟩, .string ⟨#[48, 50]⟩][j]? = some u → w2.cell? ⟨w1.heap.size + 1, j, none⟩ = some u) := Lib.hid (fun j u hj => (ht3.cell hlt2 (by omega)).trans (HCS.out j u hj))
      have hsz3 := ht3.size
      clear hg3 ht3 hs
      by_cases hv0 : v = 0
      · subst hv0
        go_wp2_with fail
        refine (tsteps_any b sv zs _ _ HG3.out.tape (by omega)).mono ?_
        rintro e w3 ⟨v2, n2, xs2, i3, rfl, hown2, hn3, hi3, hg4⟩
        obtain ⟨p2, c2, rfl⟩ := own_form hown2
        have HG4 := Lib.hid ((HG3.out.step hg4.tape hg4.touch).alloc (.cells #[.string s, .slice p2 n2 c2] 58))
        have hown := HG3.out.own hg4.touch HO3.out
        have hsz := hg4.size
        have HC4 : Hid (∀ j u, [Value.string ⟨#[48, 49]⟩, .string ⟨#[48, 49, 46, 49]⟩, .string ⟨#[48, 50]⟩][j]? = some u → w3.cell? ⟨w1.heap.size + 1, j, none⟩ = some u) := Lib.hid (fun j u hj => (hg4.touch.cell (by omega) (by omega)).trans (HC3.out j u hj))
        clear hg4 hown2
        go_wp2_with (first
          | (at_builtin; refine wpList_append_own_at _ rfl _ _ 23 rfl w.heap.size 58 i0 (.agg #[.string ⟨#[]⟩, .slice none 0 0]) 2 40 Tryz.underlying23 hi0 hz0 hz1 hz2 rfl (by decide) _ _ _ rfl (hown.alloc _) ⟨w3.heap.size, 0, none⟩ 1 1 [.string s, .slice p2 n2 c2] rfl rfl (cells_two' _ _ rfl _ _ _) (by simp [Value.oneCell']) (by unfold maxLen; omega) (by omega) (by simp; omega) ?_)
          | fail)
        intro v' w4 hown4 hgrow _ hob
        have HO4 := Lib.hid hown4
        have HG5 := Lib.hid (HG4.out.grown hgrow (fun j hj => (hown.lt j hj).1))
        have HA4 : Hid (Away v' (w1.heap.size + 1)) := Lib.hid (HAW.out.next hob (by simp; omega))
        have HC5 : Hid (∀ j u, [Value.string ⟨#[48, 49]⟩, .string ⟨#[48, 49, 46, 49]⟩, .string ⟨#[48, 50]⟩][j]? = some u → w4.cell? ⟨w1.heap.size + 1, j, none⟩ = some u) := Lib.hid (fun j u hj => (grown_cell hgrow HAW.out (by simp; omega)).trans (((((Below.refl w3.heap.size w3).alloc (Nat.le_refl _) _)).cell (p := ⟨w1.heap.size + 1, j, none⟩) (show w1.heap.size + 1 < w3.heap.size by omega)).trans (HC4.out j u hj)))
        have hsz5 := hgrow.size
        simp at hsz5
        clear hown4 hgrow hown hob
        go_wp2
        go_roundw
        case rel => exact ⟨k + 1, n + 1, i3, _, by omega, by go_num, by omega, by omega, HO4.out, HG5.out, HA4.out, by omega, HC5.out⟩
        case measure => simp [intOf]; omega
      · have hvz : ((v : Int) == 0) = false := by simp; omega
        go_wp2
        go_roundw
        case rel => exact ⟨k + 1, n, i2 + 1, _, by omega, by go_num, by omega, by omega, HO3.out, HG3.out, HAW.out, by omega, HC3.out⟩
        case measure => simp [intOf]; omega
    · have HP : Hid (RowPost 58 2 4 50 b sv zs i w (.returned u5) wr) := Lib.hid ⟨u5, n, _, _, rfl, HO.out, by omega, by omega, HG2.out⟩
      clear hcs
      go_wp2
      go_ret
      exact HP.out
end Go.Proofs.YtkgkjoologjehaaGreatDoor
