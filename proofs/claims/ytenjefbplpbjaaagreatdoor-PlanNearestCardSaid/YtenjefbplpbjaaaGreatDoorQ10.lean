/- Contract of readLine at the small plan's second line. -/
import Derived.Test.YtenjefbplpbjaaaGreatDoorQ9
namespace Go.Proofs.YtenjefbplpbjaaaGreatDoor
open Go.RowKit Go.Sort Cal Go.Maps
set_option maxRecDepth 100000 in
set_option maxHeartbeats 3200000 in
theorem readLine_impute (pb : Nat) (r : Value) (w : World) (hE : Env w) (hblk : w.heap[pb]? = some (.cells #[.int .i64 1, r, .slice none 0 0, .slice none 0 0, .slice none 0 0, .slice none 0 0] 28 (0, 0))) :
    Calls Tryz.prog 61 #[.pointer (some ⟨pb, 0, none⟩), .string ⟨#[105, 109, 112, 117, 116, 101, 32, 97, 108, 108, 32, 99, 108, 97, 115, 115, 32, 50, 44, 32, 99, 97, 114, 114, 121, 32, 51, 44, 32, 100, 114, 111, 112]⟩] w fun e w' => e = .returned (.bool true) ∧ ∃ g c g3 c3, 3 ≤ c3 ∧ w'.heap[pb]? = some (.cells #[.int .i64 1, r, .slice (some ⟨g, 0, none⟩) 1 c, .slice none 0 0, .slice none 0 0, .slice none 0 0] 28 (0, 0)) ∧ w'.ownsRow w.heap.size 60 2 (.slice (some ⟨g, 0, none⟩) 1 c) 1 [.string ⟨#[]⟩, .slice (some ⟨g3, 0, none⟩) 3 c3] ∧ w'.ownsRow w.heap.size 82 2 (.slice (some ⟨g3, 0, none⟩) 3 c3) 3 stepC ∧ Touch pb w w' := by
  obtain ⟨i0, hi0, hz0, hz1, hz2⟩ := info_parts info_chain
  have HE := Lib.hid hE
  have HK := Lib.hid hblk
  clear hE hblk
  go_enter Tryz.func61, Tryz.ntmps61
  go_wp2_with fail
  refine (cut_impute _ HE.out).mono ?_
  rintro e w1 ⟨rfl, hb1⟩
  have HB1 := Lib.hid hb1
  clear hb1
  go_wp2_with fail
  refine (split_impute _ (HE.out.below HB1.out)).mono ?_
  rintro e w2 ⟨rfl, rfl⟩
  have HB2 := Lib.hid (chainAlloc HB1.out (.cells #[.string ⟨#[97, 108, 108]⟩, .string ⟨#[99, 108, 97, 115, 115]⟩, .string ⟨#[50, 44]⟩, .string ⟨#[99, 97, 114, 114, 121]⟩, .string ⟨#[51, 44]⟩, .string ⟨#[100, 114, 111, 112]⟩] 9))
  go_wp2_with fail
  refine (readChain_at _ (HE.out.below HB2.out)).mono ?_
  rintro e w3 ⟨⟨g3, c3, rfl, hc3, hg3, hown3⟩, hb3⟩
  have HB3 := Lib.hid (chain0 HB2.out hb3)
  have HO3 := Lib.hid (own_base' hown3 HB2.out.size)
  have HC3 := Lib.hid hc3
  have hk3 := (HB3.out.block pb (Array.getElem?_eq_some_iff.1 HK.out).1).trans HK.out
  have HK3 := Lib.hid hk3
  have hlp : pb < w3.heap.size := (Array.getElem?_eq_some_iff.1 hk3).1
  have hlw : Hid (pb < w.heap.size) := Lib.hid (Array.getElem?_eq_some_iff.1 HK.out).1
  have c1 : w3.cell? ⟨pb, 2, none⟩ = some (.slice none 0 0) := cell_blk hk3 2 _ rfl
  have f1 : w3.frozen? ⟨pb, 2, none⟩ = false := free_blk hk3 2
  clear hb3 hk3 hown3 hc3 hg3
  go_wp2_with fail
  go_region_law ((refine step_append_lies _ (by rfl) _ _ 23 (by rfl) w3.heap.size 60 i0 (.agg #[.string ⟨#[]⟩, .slice none 0 0]) 2 40 Tryz.underlying23 hi0 hz0 hz1 hz2 (by rfl) (by decide) (.slice none 0 0) 0 _ (by rfl) (World.ownsRow_nil _ _ _ _) ⟨w3.heap.size + 1, 0, none⟩ 1 1 [.string ⟨#[]⟩, .slice (some ⟨g3, 0, none⟩) 3 c3] (by rfl) (by rfl) (cells_row _ _ (by simp) _ _) (by simp [Value.oneCell']) (by decide) (by unfold maxLen; omega) (by omega) (by simp; omega) _ rfl ?_; intro g cap w4 hown4 hgrow hat hlt4; have HBX := ((((Below.refl _ w3).alloc (Nat.le_refl _) (.cells #[.string ⟨#[]⟩, .slice (some ⟨g3, 0, none⟩) 3 c3] 60)).drew).alloc (by simp) (.cells #[.string ⟨#[]⟩, .slice (some ⟨g3, 0, none⟩) 3 c3] 60)); have hb4 := (hgrow.block pb (by simp; omega) (fun e => by simp [Value.ownBlock] at e)).trans ((HBX.block pb hlp).trans HK3.out); have cf4 : w4.cell? ⟨pb, 2, none⟩ = some (.slice none 0 0) := cell_blk hb4 2 _ rfl; have ff4 : w4.frozen? ⟨pb, 2, none⟩ = false := free_blk hb4 2))
  all_goals
    have HG : Hid (Touch pb w3 (w4.setCell ⟨pb, 2, none⟩ (.slice (some ⟨g, 0, none⟩) 1 cap))) := Lib.hid (((Touch.of_below HBX).grown hgrow (fun k e => by simp [Value.ownBlock] at e)).set 2 _)
    have HF : Hid ((w4.setCell ⟨pb, 2, none⟩ (.slice (some ⟨g, 0, none⟩) 1 cap)).ownsRow w.heap.size 60 2 (.slice (some ⟨g, 0, none⟩) 1 cap) 1 [.string ⟨#[]⟩, .slice (some ⟨g3, 0, none⟩) 3 c3]) := Lib.hid (own_base' (ownsRow_touch hown4 ((Touch.refl pb _).set 2 _) hlp) HB3.out.size)
    have HT : Hid (Touch pb w (w4.setCell ⟨pb, 2, none⟩ (.slice (some ⟨g, 0, none⟩) 1 cap))) := Lib.hid ((Touch.of_below HB3.out).trans HG.out)
    have HC : Hid ((w4.setCell ⟨pb, 2, none⟩ (.slice (some ⟨g, 0, none⟩) 1 cap)).heap[pb]? = some (.cells #[.int .i64 1, r, .slice (some ⟨g, 0, none⟩) 1 cap, .slice none 0 0, .slice none 0 0, .slice none 0 0] 28 (0, 0))) := Lib.hid (set_blk hb4 2 _)
    clear hown4 hgrow hat hb4 HBX
    go_wp2
    go_ret
    exact ⟨rfl, g, cap, g3, c3, HC3.out, HC.out, HF.out, ownsRow_touch HO3.out HG.out hlw.out, HT.out⟩
end Go.Proofs.YtenjefbplpbjaaaGreatDoor
