/- Contract of readRule at the words of the small plan's line. -/
import Derived.Test.YtenjefbplpbjaaaGreatDoorQ5
namespace Go.Proofs.YtenjefbplpbjaaaGreatDoor
open Go.RowKit Go.Sort Cal Go.Maps
def methL : List ByteArray := [⟨#[]⟩, ⟨#[106, 101, 118, 111, 110, 115]⟩, ⟨#[100, 117, 116, 111, 116]⟩, ⟨#[99, 97, 114, 108, 105]⟩, ⟨#[104, 97, 114, 109, 111, 110, 105, 99]⟩, ⟨#[104, 121, 98, 114, 105, 100]⟩, ⟨#[103, 101, 107, 115]⟩, ⟨#[103, 101, 97, 114, 121]⟩, ⟨#[100, 117, 109, 109, 121]⟩, ⟨#[116, 97, 114, 105, 102, 102]⟩]
def spliL : List ByteArray := [⟨#[]⟩, ⟨#[109, 111, 118, 101, 109, 101, 110, 116]⟩, ⟨#[119, 105, 110, 100, 111, 119]⟩, ⟨#[104, 97, 108, 102]⟩, ⟨#[109, 101, 97, 110]⟩]
theorem place_jev (b : Nat) (w : World) (hc : ∀ j, j < 10 → w.cell? ⟨b, j, none⟩ = some (.string (methL.getD j ByteArray.empty))) :
    Calls Tryz.prog 174 #[.slice (some ⟨b, 0, none⟩) 10 10, .string ⟨#[106, 101, 118, 111, 110, 115]⟩] w fun e w' => e = .returned (.tuple #[.int .i64 1, .bool true]) ∧ w = w' :=
  place_at b 10 10 methL ⟨#[106, 101, 118, 111, 110, 115]⟩ 1 w rfl hc (by decide) (by decide) (by decide) (fun j h1 h2 => by omega) (by simp [methL])
set_option maxHeartbeats 3200000 in
theorem readRule_at (sk c : Nat) (w : World) (h0 : w.cell? ⟨sk, 0, none⟩ = some (.string ⟨#[97, 108, 108]⟩)) (h1 : w.cell? ⟨sk, 1, none⟩ = some (.string ⟨#[106, 101, 118, 111, 110, 115]⟩)) (hsk : sk < w.heap.size) :
    Calls Tryz.prog 109 #[.slice (some ⟨sk, 0, none⟩) 2 c] w fun e w' => e = .returned (.tuple #[.agg #[.string ⟨#[]⟩, .int .i64 1, .int .i64 0, .int .i64 0], .bool true]) ∧ Below w.heap.size w w' := by
  have HB := Lib.hid (Box.new w [.string ⟨#[]⟩, .int .i64 0, .int .i64 0, .int .i64 0] 50)
  have H0 := Lib.hid h0
  have H1 := Lib.hid h1
  clear h0 h1
  go_enter Tryz.func109, Tryz.ntmps109
  go_wp2_with fail
  refine (methods_any _).mono ?_
  rintro e w1 ⟨rfl, hb1⟩
  go_wp2_with fail
  refine (splices_any _).mono ?_
  rintro e w2 ⟨rfl, hb2⟩
  have HN : Hid (∀ j u, [Value.string ⟨#[]⟩, .int .i64 0, .int .i64 0, .int .i64 0][j]? = some u → w2.cell? ⟨w.heap.size, j, none⟩ = some u) := Lib.hid ((HB.out.step hb1).step hb2).c
  have hf1 : w2.heap[w.heap.size]? = some (.cells #[.string ⟨#[]⟩, .int .i64 0, .int .i64 0, .int .i64 0] 50 (0, 0)) := by
    have HS := (HB.out.step hb1).sz
    refine (hb2.block _ HS).trans ((hb1.block _ (by simp)).trans ?_)
    show (Array.push w.heap _)[_]? = _
    rw [Array.getElem?_push, if_pos rfl]
  have HF := Lib.hid hf1
  have HB2 := Lib.hid (chain0 (chain0 HB.out.bl hb1) hb2)
  clear hb1 hb2 hf1
  have c0 : w2.cell? ⟨sk, 0, none⟩ = some (.string ⟨#[97, 108, 108]⟩) := (HB2.out.cell (p := ⟨sk, 0, none⟩) hsk).trans H0.out
  have hlt : w.heap.size < w2.heap.size := (Array.getElem?_eq_some_iff.1 HF.out).1
  have f0 : w2.frozen? ⟨w.heap.size, 0, none⟩ = false := free_blk HF.out 0
  have f1 : w2.frozen? ⟨w.heap.size, 1, none⟩ = false := free_blk HF.out 1
  have n0 : w2.cell? ⟨w.heap.size, 0, none⟩ = some (.string ⟨#[]⟩) := HN.out 0 _ rfl
  have hsk2 : sk < w2.heap.size := by omega
  have hne : ¬ sk = w.heap.size := by omega
  have hne2 : ¬ w.heap.size = sk := by omega
  go_wp2_with fail
  refine (hidden_all _).mono ?_
  rintro e w3 ⟨rfl, rfl⟩
  go_wp2_with fail
  obtain ⟨W, hW⟩ : ∃ W, W = ((w2.setCell ⟨w.heap.size, 0, none⟩ (.string ⟨#[]⟩)).alloc (.cells #[.string ⟨#[]⟩, .string ⟨#[106, 101, 118, 111, 110, 115]⟩, .string ⟨#[100, 117, 116, 111, 116]⟩, .string ⟨#[99, 97, 114, 108, 105]⟩, .string ⟨#[104, 97, 114, 109, 111, 110, 105, 99]⟩, .string ⟨#[104, 121, 98, 114, 105, 100]⟩, .string ⟨#[103, 101, 107, 115]⟩, .string ⟨#[103, 101, 97, 114, 121]⟩, .string ⟨#[100, 117, 109, 109, 121]⟩, .string ⟨#[116, 97, 114, 105, 102, 102]⟩] 96)).alloc (.cells #[.string ⟨#[]⟩, .string ⟨#[109, 111, 118, 101, 109, 101, 110, 116]⟩, .string ⟨#[119, 105, 110, 100, 111, 119]⟩, .string ⟨#[104, 97, 108, 102]⟩, .string ⟨#[109, 101, 97, 110]⟩] 98) := ⟨_, rfl⟩
  rw [← hW]
  have eu : (w2.setCell ⟨w.heap.size, 0, none⟩ (.string ⟨#[]⟩)).heap.size = w2.heap.size := by simp [World.setCell]
  have hblk : W.heap[w.heap.size]? = some (.cells #[.string ⟨#[]⟩, .int .i64 0, .int .i64 0, .int .i64 0] 50 (0, 0)) := by
    rw [hW]
    exact ((((Below.refl _ (w2.setCell ⟨w.heap.size, 0, none⟩ (.string ⟨#[]⟩))).alloc (Nat.le_refl _) _).alloc (by simp) _).block _ (by rw [eu]; exact hlt)).trans (set_blk HF.out 0 _)
  have hbel : Below w.heap.size w W := by
    rw [hW]
    exact ((HB2.out.setCell (p := ⟨w.heap.size, 0, none⟩) (by simp) _).alloc (by rw [eu]; exact HB2.out.size) _).alloc (by have := HB2.out.size; simp [World.setCell]; omega) _
  have hmet : ∀ j, j < 10 → W.cell? ⟨w2.heap.size, j, none⟩ = some (.string (methL.getD j ByteArray.empty)) := by
    intro j hj
    have X := ((Box.new (w2.setCell ⟨w.heap.size, 0, none⟩ (.string ⟨#[]⟩)) (methL.map Value.string) 96).step ((Below.refl _ _).alloc (Nat.le_refl _) (.cells #[.string ⟨#[]⟩, .string ⟨#[109, 111, 118, 101, 109, 101, 110, 116]⟩, .string ⟨#[119, 105, 110, 100, 111, 119]⟩, .string ⟨#[104, 97, 108, 102]⟩, .string ⟨#[109, 101, 97, 110]⟩] 98)))
    have hc := X.c j (.string (methL.getD j ByteArray.empty)) (by
      rw [List.getElem?_map, List.getD, List.getElem?_eq_getElem (show j < methL.length from hj)]; rfl)
    rw [eu] at hc
    rw [hW]
    exact hc
  have hszW : w2.heap.size < W.heap.size := by rw [hW]; simp [World.setCell]; omega
  have hskW : sk < W.heap.size := by omega
  clear hW n0 f0 f1 c0
  have HBEL := Lib.hid hbel
  have KM : Hid (∀ W', Below W.heap.size W W' → ∀ j, j < 10 → W'.cell? ⟨w2.heap.size, j, none⟩ = some (.string (methL.getD j ByteArray.empty))) := Lib.hid (fun W' hb j hj => (hb.cell (p := ⟨w2.heap.size, j, none⟩) hszW).trans (hmet j hj))
  have KJ : Hid (∀ W', Below W.heap.size W W' → W'.cell? ⟨sk, 1, none⟩ = some (.string ⟨#[106, 101, 118, 111, 110, 115]⟩)) := Lib.hid (fun W' hb => (hb.cell (p := ⟨sk, 1, none⟩) hskW).trans ((hbel.cell (p := ⟨sk, 1, none⟩) hsk).trans H1.out))
  have m0 : W.cell? ⟨w.heap.size, 0, none⟩ = some (.string ⟨#[]⟩) := cell_blk hblk 0 _ rfl
  have m1 : W.cell? ⟨w.heap.size, 1, none⟩ = some (.int .i64 0) := cell_blk hblk 1 _ rfl
  have m2 : W.cell? ⟨w.heap.size, 2, none⟩ = some (.int .i64 0) := cell_blk hblk 2 _ rfl
  have m3 : W.cell? ⟨w.heap.size, 3, none⟩ = some (.int .i64 0) := cell_blk hblk 3 _ rfl
  have f0 : W.frozen? ⟨w.heap.size, 0, none⟩ = false := free_blk hblk 0
  have f1 : W.frozen? ⟨w.heap.size, 1, none⟩ = false := free_blk hblk 1
  have f2 : W.frozen? ⟨w.heap.size, 2, none⟩ = false := free_blk hblk 2
  have f3 : W.frozen? ⟨w.heap.size, 3, none⟩ = false := free_blk hblk 3
  have HBLK := Lib.hid hblk
  have KJ2 : Hid ((W.setCell ⟨w.heap.size, 1, none⟩ (.int .i64 1)).drew.cell? ⟨sk, 1, none⟩ = some (.string ⟨#[106, 101, 118, 111, 110, 115]⟩)) := Lib.hid ((World.cell?_of_block (w := W) (w' := (W.setCell ⟨w.heap.size, 1, none⟩ (.int .i64 1)).drew) (a := ⟨sk, 1, none⟩) (set_other (b := w.heap.size) rfl hne 1 _)).trans (KJ.out W (Below.refl _ _)))
  clear hblk hbel hmet
  go_region_held3 (fun w' => w'.cell? ⟨sk, 1, none⟩ = some (.string ⟨#[106, 101, 118, 111, 110, 115]⟩)) (first | exact KJ.out _ (by first | exact (Below.refl _ _) | exact (Below.refl _ _).drew) | exact KJ2.out)
    (first | (go_at_call 174; refine (place_jev w2.heap.size _ (KM.out _ (by first | exact (Below.refl _ _) | exact (Below.refl _ _).drew))).mono ?_; rintro e w6 ⟨rfl, rfl⟩))
  all_goals
    go_wp2
    have hfin := set_blk (set_blk (set_blk (set_blk (set_blk HBLK.out 1 (.int .i64 1)) 0 (.string ⟨#[]⟩)) 1 (.int .i64 1)) 2 (.int .i64 0)) 3 (.int .i64 0)
    have a0 := cell_blk hfin 0 (.string ⟨#[]⟩) rfl
    have a1 := cell_blk hfin 1 (.int .i64 1) rfl
    have a2 := cell_blk hfin 2 (.int .i64 0) rfl
    have a3 := cell_blk hfin 3 (.int .i64 0) rfl
    have hbl := (((((HBEL.out.setCell (p := ⟨w.heap.size, 1, none⟩) (Nat.le_refl _) (.int .i64 1)).setCell (p := ⟨w.heap.size, 0, none⟩) (Nat.le_refl _) (.string ⟨#[]⟩)).setCell (p := ⟨w.heap.size, 1, none⟩) (Nat.le_refl _) (.int .i64 1)).setCell (p := ⟨w.heap.size, 2, none⟩) (Nat.le_refl _) (.int .i64 0)).setCell (p := ⟨w.heap.size, 3, none⟩) (Nat.le_refl _) (.int .i64 0)).drew
    exact bodyPost_ret (v := .tuple #[.agg #[.string ⟨#[]⟩, .int .i64 1, .int .i64 0, .int .i64 0], .bool true]) (by simp [results, Tryz.results109, go_sem, a0, a1, a2, a3]) rfl ⟨rfl, hbl⟩
end Go.Proofs.YtenjefbplpbjaaaGreatDoor
