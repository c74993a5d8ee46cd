/- Contracts of readLine at the small plan's two lines. -/
import Derived.Test.YtenjefbplpbjaaaGreatDoorQ8
import Derived.Deep.AppendLies
import Derived.RegionTactic
namespace Go.Proofs.YtenjefbplpbjaaaGreatDoor
open Go.RowKit Go.Sort Cal Go.Maps
theorem info_rule : (Tryz.prog.info? 50).map (fun i => (i.zero, i.size, i.bytes)) = some (some (.agg #[.string ⟨#[]⟩, .int .i64 0, .int .i64 0, .int .i64 0]), 4, 40) := by kernel_rfl
theorem info_chain : (Tryz.prog.info? 60).map (fun i => (i.zero, i.size, i.bytes)) = some (some (.agg #[.string ⟨#[]⟩, .slice none 0 0]), 2, 40) := by kernel_rfl
theorem cells_row (w : World) (n : Nat) (hn : n = w.heap.size) (xs : List Value) (t : TypeId) : ∀ (j : Nat) u, xs[j]? = some u → (w.alloc (.cells xs.toArray t)).cell? ((⟨n, 0, none⟩ : Addr).add j) = some u := by
  subst hn
  intro j u hj
  have X := (Box.new w xs t).c j u hj
  have e : ((⟨w.heap.size, 0, none⟩ : Addr).add j) = ⟨w.heap.size, j, none⟩ := by simp [Addr.add]; try omega
  rw [e]; exact X
set_option maxRecDepth 100000 in
set_option maxHeartbeats 3200000 in
theorem readLine_rule (pb : Nat) (w : World) (hE : Env w) (hblk : w.heap[pb]? = some (.cells #[.int .i64 1, .slice none 0 0, .slice none 0 0, .slice none 0 0, .slice none 0 0, .slice none 0 0] 28 (0, 0))) :
    Calls Tryz.prog 61 #[.pointer (some ⟨pb, 0, none⟩), .string ⟨#[114, 117, 108, 101, 32, 97, 108, 108, 32, 106, 101, 118, 111, 110, 115]⟩] w fun e w' => e = .returned (.bool true) ∧ ∃ g c, w'.heap[pb]? = some (.cells #[.int .i64 1, .slice (some ⟨g, 0, none⟩) 1 c, .slice none 0 0, .slice none 0 0, .slice none 0 0, .slice none 0 0] 28 (0, 0)) ∧ w'.ownsRow w.heap.size 50 4 (.slice (some ⟨g, 0, none⟩) 1 c) 1 [.string ⟨#[]⟩, .int .i64 1, .int .i64 0, .int .i64 0] ∧ Touch pb w w' := by
  obtain ⟨i0, hi0, hz0, hz1, hz2⟩ := info_parts info_rule
  have HE := Lib.hid hE
  have HK := Lib.hid hblk
  clear hE hblk
  go_enter Tryz.func61, Tryz.ntmps61
  go_wp2_with fail
  refine (cut_rule _ HE.out).mono ?_
  rintro e w1 ⟨rfl, hb1⟩
  have HB1 := Lib.hid hb1
  clear hb1
  go_wp2_with fail
  refine (split_rule _ (HE.out.below HB1.out)).mono ?_
  rintro e w2 ⟨rfl, rfl⟩
  go_wp2_with fail
  have X2 := Box.new w1 [.string ⟨#[97, 108, 108]⟩, .string ⟨#[106, 101, 118, 111, 110, 115]⟩] 9
  refine (readRule_at w1.heap.size 2 _ (X2.c 0 _ rfl) (X2.c 1 _ rfl) (by simp)).mono ?_
  rintro e w3 ⟨rfl, hb3⟩
  have HB3 := Lib.hid (chain0 HB1.out (chain0 X2.bl hb3))
  have hk3 := (HB3.out.block pb (Array.getElem?_eq_some_iff.1 HK.out).1).trans HK.out
  have HK3 := Lib.hid hk3
  have hlp : pb < w3.heap.size := (Array.getElem?_eq_some_iff.1 hk3).1
  have c1 : w3.cell? ⟨pb, 1, none⟩ = some (.slice none 0 0) := cell_blk hk3 1 _ rfl
  have f1 : w3.frozen? ⟨pb, 1, none⟩ = false := free_blk hk3 1
  clear hb3 hk3 X2
  go_wp2_with fail
  go_region_law ((refine step_append_lies _ (by rfl) _ _ 22 (by rfl) w3.heap.size 50 i0 (.agg #[.string ⟨#[]⟩, .int .i64 0, .int .i64 0, .int .i64 0]) 4 40 Tryz.underlying22 hi0 hz0 hz1 hz2 (by rfl) (by decide) (.slice none 0 0) 0 _ (by rfl) (World.ownsRow_nil _ _ _ _) ⟨w3.heap.size + 1, 0, none⟩ 1 1 [.string ⟨#[]⟩, .int .i64 1, .int .i64 0, .int .i64 0] (by rfl) (by rfl) (cells_row _ _ (by simp) _ _) (by simp [Value.oneCell']) (by decide) (by unfold maxLen; omega) (by omega) (by simp; omega) _ rfl ?_; intro g cap w4 hown4 hgrow hat hlt4; have HBX := ((((Below.refl _ w3).alloc (Nat.le_refl _) (.cells #[.string ⟨#[]⟩, .int .i64 1, .int .i64 0, .int .i64 0] 50)).drew).alloc (by simp) (.cells #[.string ⟨#[]⟩, .int .i64 1, .int .i64 0, .int .i64 0] 50)); have hb4 := (hgrow.block pb (by simp; omega) (fun e => by simp [Value.ownBlock] at e)).trans ((HBX.block pb hlp).trans HK3.out); have cf4 : w4.cell? ⟨pb, 1, none⟩ = some (.slice none 0 0) := cell_blk hb4 1 _ rfl; have ff4 : w4.frozen? ⟨pb, 1, none⟩ = false := free_blk hb4 1))
  all_goals
    have HF : Hid ((w4.setCell ⟨pb, 1, none⟩ (.slice (some ⟨g, 0, none⟩) 1 cap)).ownsRow w.heap.size 50 4 (.slice (some ⟨g, 0, none⟩) 1 cap) 1 [.string ⟨#[]⟩, .int .i64 1, .int .i64 0, .int .i64 0]) := Lib.hid (own_base' (ownsRow_touch hown4 ((Touch.refl pb _).set 1 _) hlp) HB3.out.size)
    have HT : Hid (Touch pb w (w4.setCell ⟨pb, 1, none⟩ (.slice (some ⟨g, 0, none⟩) 1 cap))) := Lib.hid ((((Touch.of_below HB3.out).trans (Touch.of_below HBX)).grown hgrow (fun k e => by simp [Value.ownBlock] at e)).set 1 _)
    have HC : Hid ((w4.setCell ⟨pb, 1, none⟩ (.slice (some ⟨g, 0, none⟩) 1 cap)).heap[pb]? = some (.cells #[.int .i64 1, .slice (some ⟨g, 0, none⟩) 1 cap, .slice none 0 0, .slice none 0 0, .slice none 0 0, .slice none 0 0] 28 (0, 0))) := Lib.hid (set_blk hb4 1 _)
    clear hown4 hgrow hat hb4 HBX
    go_wp2
    go_ret
    exact ⟨rfl, g, cap, HC.out, HF.out, HT.out⟩
end Go.Proofs.YtenjefbplpbjaaaGreatDoor
