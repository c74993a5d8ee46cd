/- Contract of ParseDate, any short string. -/
import Derived.Test.YtpknkomkldgnfaaDoorE1
import Derived.Test.YtpknkomkldgnfaaDoorD2
namespace Go.Proofs.YtpknkomkldgnfaaDoor
open Go.RowKit Go.Sort Cal
theorem splitn_at (s : ByteArray) (w : World) (hs : s.size ≤ 1000) (hE : Env w) :
    Calls Tryd.prog 57 #[.string s, .string ⟨#[45]⟩, .int .i64 3] w fun e w' => e = .returned (.slice (some ⟨w.heap.size, 0, none⟩) (piecesB s).length (min 3 (s.size + 1))) ∧ (∀ j x, (piecesB s)[j]? = some x → w'.cell? ⟨w.heap.size, j, none⟩ = some (.string x)) ∧ Below w.heap.size w w' ∧ w.heap.size < w'.heap.size := by
  obtain ⟨m, hm⟩ := hE.len
  refine (Tryd.strings_SplitN s ⟨#[45]⟩ 3 m w (by omega) hm (by decide) (by decide) (by decide)).mono ?_
  rintro e w' ⟨rfl, rfl⟩
  refine ⟨rfl, ?_, (Below.refl _ _).alloc (Nat.le_refl _) _, by simp⟩
  intro j x hx
  have hlt : j < (piecesB s).length := (List.getElem?_eq_some_iff.1 hx).1
  show World.cell? (w.alloc (.cells (Lib.cellsOf (piecesB s) _) _)) _ = _
  have e : (Lib.cellsOf (piecesB s) (min 3 (s.size + 1)))[j]? = some (.string x) := by
    unfold Lib.cellsOf
    rw [List.getElem?_toArray, List.getElem?_append_left (by simpa using hlt), List.getElem?_map, hx]; rfl
  simp [e]
theorem splitB_len (sep : ByteArray) (v : Nat) : ∀ (k : Nat) (s : ByteArray), (Lib.splitB sep v k s).length ≤ k + 1
  | 0, s => by simp [Lib.splitB]
  | k + 1, s => by
    rw [Lib.splitB]
    split
    · simp
    · rw [List.length_cons]
      have := splitB_len sep v k (s.extract ((Lib.indexB s sep).toNat + sep.size) s.size)
      omega
theorem pieces_len (s : ByteArray) : (piecesB s).length ≤ 3 := by
  have := splitB_len ⟨#[45]⟩ 0 (min 3 (s.size + 1) - 1) s
  unfold piecesB
  omega
theorem split_size (sep : ByteArray) (v : Nat) : ∀ (k : Nat) (s p : ByteArray), p ∈ Lib.splitB sep v k s → p.size ≤ s.size
  | 0, s, p => by intro h; rw [Lib.splitB_zero] at h; rw [List.mem_singleton.1 h]; exact Nat.le_refl _
  | k + 1, s, p => by
    intro h
    rw [Lib.splitB] at h
    split at h
    · rw [List.mem_singleton.1 h]; exact Nat.le_refl _
    · rcases List.mem_cons.1 h with h | h
      · rw [h, ByteArray.size_extract]; omega
      · have := split_size sep v k _ p h
        rw [ByteArray.size_extract] at this; omega
theorem piece_size (s : ByteArray) (j : Nat) (x : ByteArray) (h : (piecesB s)[j]? = some x) : x.size ≤ s.size :=
  split_size _ _ _ _ _ (List.mem_of_getElem? h)
/-- What has been read of a part so far. -/
def pv (s : ByteArray) (k j : Int) : Int := if j < k then partV s j.toNat else 0
structure Par (s : ByteArray) (k : Int) (w0 w : World) : Prop where
  r : w.heap[w0.heap.size]? = some (.cells #[.int .i64 0, .int .i64 0, .int .i64 0] 23 (0, 0))
  p : w.heap[w0.heap.size + 1]? = some (.cells #[.int .i64 (pv s k 0), .int .i64 (pv s k 1), .int .i64 (pv s k 2)] 59 (0, 0))
  c : ∀ j x, (piecesB s)[j]? = some x → w.cell? ⟨w0.heap.size + 1 + 1, j, none⟩ = some (.string x)
  sz : w0.heap.size + 2 < w.heap.size
  bl : Below w0.heap.size w0 w
theorem Par.step {s : ByteArray} {k : Int} {w0 w w1 : World} (h : Par s k w0 w) (hb : Below w.heap.size w w1) : Par s k w0 w1 :=
  ⟨(hb.block _ (by have := h.sz; omega)).trans h.r, (hb.block _ (by have := h.sz; omega)).trans h.p, fun j x hx => (hb.cell (p := ⟨w0.heap.size + 1 + 1, j, none⟩) h.sz).trans (h.c j x hx), Nat.lt_of_lt_of_le h.sz hb.size, h.bl.trans (hb.mono (by have := h.sz; omega))⟩
theorem pv_succ (s : ByteArray) (k j : Int) (x : ByteArray) (hk : 0 ≤ k) (hx : (piecesB s)[k.toNat]? = some x) : pv s (k + 1) j = if j = k then atoiV x.data.toList else pv s k j := by
  unfold pv
  by_cases e : j = k
  · subst e; rw [if_pos (by omega), if_pos rfl]; unfold partV; rw [hx]
  · rw [if_neg e]
    by_cases h : j < k
    · rw [if_pos (by omega), if_pos h]
    · rw [if_neg (by omega), if_neg h]
theorem pv_end (s : ByteArray) (j : Nat) : pv s ((piecesB s).length : Nat) j = partV s j := by
  unfold pv
  by_cases h : (j : Int) < ((piecesB s).length : Nat)
  · rw [if_pos h]; rfl
  · rw [if_neg h]
    unfold partV
    rw [List.getElem?_eq_none (by omega)]
theorem Par.set {s : ByteArray} {k : Int} {w0 w : World} {x : ByteArray} (h : Par s k w0 w) (hk : k = 0 ∨ k = 1 ∨ k = 2) (hx : (piecesB s)[k.toNat]? = some x) : Par s (k + 1) w0 (w.setCell ⟨w0.heap.size + 1, k.toNat, none⟩ (.int .i64 (atoiV x.data.toList))) := by
  refine ⟨set_other h.r (by omega) _ _, ?_, fun j y hy => ?_, by have := h.sz; simpa using this, h.bl.setCell (by simp) _⟩
  · rw [set_blk h.p, pv_succ s k 0 x (by omega) hx, pv_succ s k 1 x (by omega) hx, pv_succ s k 2 x (by omega) hx]
    rcases hk with rfl | rfl | rfl <;> rfl
  · have := h.c j y hy
    unfold World.cell? at this ⊢
    rw [Below.heap_setCell _ _ _ _ (show w0.heap.size + 1 + 1 ≠ w0.heap.size + 1 by omega)]
    exact this
/-- The date read lies in a block of its own; the result's block is still zero. -/
structure Res (D : Nat) (y m d : Int) (w0 w : World) : Prop where
  r : w.heap[w0.heap.size]? = some (.cells #[.int .i64 0, .int .i64 0, .int .i64 0] 23 (0, 0))
  b : w.heap[D]? = some (.cells #[.int .i64 y, .int .i64 m, .int .i64 d] 23 (0, 0))
  lo : w0.heap.size < D
  bl : Below w0.heap.size w0 w
theorem Res.lt {D : Nat} {y m d : Int} {w0 w : World} (h : Res D y m d w0 w) : D < w.heap.size := (Array.getElem?_eq_some_iff.1 h.b).1
theorem Res.new {s : ByteArray} {k : Int} {w0 w : World} (h : Par s k w0 w) (y m d : Int) : Res w.heap.size y m d w0 (w.alloc (.cells #[.int .i64 y, .int .i64 m, .int .i64 d] 23 (0, 0))) :=
  ⟨(((Below.refl _ _).alloc (Nat.le_refl _) _ : Below w.heap.size w (w.alloc _)).block _ (by have := h.sz; omega)).trans h.r, by show (w.heap.push _)[_]? = _; rw [Array.getElem?_push, if_pos rfl], by have := h.sz; omega, h.bl.trans ((Below.refl _ _).alloc (by have := h.sz; omega) _)⟩
theorem Res.step {D : Nat} {y m d : Int} {w0 w w1 : World} (h : Res D y m d w0 w) (hb : Below w.heap.size w w1) : Res D y m d w0 w1 :=
  ⟨(hb.block _ (by have := h.lt; have := h.lo; omega)).trans h.r, (hb.block _ h.lt).trans h.b, h.lo, h.bl.trans (hb.mono (by have := h.lt; have := h.lo; omega))⟩
theorem Res.facts {D : Nat} {y m d : Int} {w0 w : World} (h : Res D y m d w0 w) : w.cell? ⟨w0.heap.size, 0, none⟩ = some (.int .i64 0) ∧ w.cell? ⟨w0.heap.size, 1, none⟩ = some (.int .i64 0) ∧ w.cell? ⟨w0.heap.size, 2, none⟩ = some (.int .i64 0) ∧
    w.frozen? ⟨w0.heap.size, 0, none⟩ = false ∧ w.frozen? ⟨w0.heap.size, 1, none⟩ = false ∧ w.frozen? ⟨w0.heap.size, 2, none⟩ = false :=
  ⟨cell_blk h.r 0 _ rfl, cell_blk h.r 1 _ rfl, cell_blk h.r 2 _ rfl, free_blk h.r 0, free_blk h.r 1, free_blk h.r 2⟩
theorem Res.date {D : Nat} {y m d : Int} {w0 w : World} (h : Res D y m d w0 w) : w.cell? ⟨D, 0, none⟩ = some (.int .i64 y) ∧ w.cell? ⟨D, 1, none⟩ = some (.int .i64 m) ∧ w.cell? ⟨D, 2, none⟩ = some (.int .i64 d) :=
  ⟨cell_blk h.b 0 _ rfl, cell_blk h.b 1 _ rfl, cell_blk h.b 2 _ rfl⟩
def put3 (w : World) (B : Nat) (a b c : Int) : World := ((w.setCell ⟨B, 0, none⟩ (.int .i64 a)).setCell ⟨B, 1, none⟩ (.int .i64 b)).setCell ⟨B, 2, none⟩ (.int .i64 c)
theorem Res.after {D : Nat} {y m d : Int} {w0 w : World} (h : Res D y m d w0 w) (a b c : Int) :
    (((w.setCell ⟨w0.heap.size, 0, none⟩ (.int .i64 a)).setCell ⟨w0.heap.size, 1, none⟩ (.int .i64 b)).setCell ⟨w0.heap.size, 2, none⟩ (.int .i64 c)).cell? ⟨w0.heap.size, 0, none⟩ = some (.int .i64 a) ∧
    (((w.setCell ⟨w0.heap.size, 0, none⟩ (.int .i64 a)).setCell ⟨w0.heap.size, 1, none⟩ (.int .i64 b)).setCell ⟨w0.heap.size, 2, none⟩ (.int .i64 c)).cell? ⟨w0.heap.size, 1, none⟩ = some (.int .i64 b) ∧
    (((w.setCell ⟨w0.heap.size, 0, none⟩ (.int .i64 a)).setCell ⟨w0.heap.size, 1, none⟩ (.int .i64 b)).setCell ⟨w0.heap.size, 2, none⟩ (.int .i64 c)).cell? ⟨w0.heap.size, 2, none⟩ = some (.int .i64 c) := by
  have hr1 := set_blk h.r 0 (.int .i64 a)
  have hr2 := set_blk hr1 1 (.int .i64 b)
  have hr3 := set_blk hr2 2 (.int .i64 c)
  exact ⟨cell_blk hr3 0 _ rfl, cell_blk hr3 1 _ rfl, cell_blk hr3 2 _ rfl⟩
theorem Res.fin {D : Nat} {y m d : Int} {w0 w : World} (h : Res D y m d w0 w) (a b c : Int) :
    Below w0.heap.size w0 (((w.setCell ⟨w0.heap.size, 0, none⟩ (.int .i64 a)).setCell ⟨w0.heap.size, 1, none⟩ (.int .i64 b)).setCell ⟨w0.heap.size, 2, none⟩ (.int .i64 c)) :=
  ((h.bl.setCell (by simp) _).setCell (by simp) _).setCell (by simp) _
theorem Res.tab {D : Nat} {y m d : Int} {w0 w : World} (h : Res D y m d w0 w) (hT : Tab w0) : Tab w := hT.below h.bl
def parseV : Option (Int × Int × Int) → Value
  | some (y, m, d) => .tuple #[.agg #[.int .i64 y, .int .i64 m, .int .i64 d], .int .i64 0]
  | none => .tuple #[.agg #[.int .i64 0, .int .i64 0, .int .i64 0], .int .i64 54]
set_option maxRecDepth 100000 in
set_option maxHeartbeats 1000000 in
theorem pparse_any (s : ByteArray) (w : World) (hs : s.size ≤ 1000) (hE : Env w) :
    Calls Tryd.prog 44 #[.string s] w fun e w' => e = .returned (parseV (progP s)) ∧ Below w.heap.size w w' := by
  have HE := Lib.hid hE
  have hpl := pieces_len s
  clear hE
  go_enter Tryd.func44, Tryd.ntmps44
  go_wp2_with (first
      | (go_at_call 57; refine (splitn_at s _ hs (HE.out.below (by go_grown))).mono ?_; rintro e w1 ⟨rfl, hc, hb, hl⟩)
      | fail)
  go_loopw [11] (fun i wr => ∃ k : Int, 0 ≤ k ∧ k ≤ (piecesB s).length ∧ i = .int .i64 k ∧ Par s k w wr) (fun i _ => 3 - (intOf i).toNat)
  case atStart =>
    refine ⟨0, by omega, by omega, rfl, ⟨(hb.block _ (by simp; omega)).trans ?_, (hb.block _ (by simp)).trans ?_, fun j x hx => by simpa using hc j x hx, by simpa using hl, ?_⟩⟩
    · show ((w.heap.push _).push _)[_]? = _
      rw [Array.getElem?_push, if_neg (by simp), Array.getElem?_push, if_pos rfl]
    · show ((w.heap.push _).push _)[_]? = _
      rw [Array.getElem?_push, if_pos (by simp)]
      rfl
    · exact (show Below w.heap.size w _ by go_grown).trans (hb.mono (by simp; omega))
  case round =>
    obtain ⟨k, hk0, hk, rfl, hP⟩ := hrel
    have HP := Lib.hid hP
    by_cases hlt : k < (piecesB s).length
    · obtain ⟨x, hx⟩ : ∃ x, (piecesB s)[k.toNat]? = some x := ⟨_, List.getElem?_eq_getElem (by omega)⟩
      have hxs := piece_size s _ x hx
      have hk3 : k = 0 ∨ k = 1 ∨ k = 2 := by omega
      have HX := Lib.hid hx
      clear hx hP
      rcases hk3 with rfl | rfl | rfl
      · have hcx : wr.cell? ⟨w.heap.size + 1 + 1, 0, none⟩ = some (.string x) := HP.out.c 0 x HX.out
        go_wp2_with (first
          | (go_at_call 58; refine (atoi_any x _ (by omega) (HE.out.below (HP.out.bl))).mono ?_; rintro e w2 ⟨ev, rfl, hb2⟩; have HP2 := Lib.hid (HP.out.step hb2); have f0 := free_blk HP2.out.p 0; have c0 := cell_blk HP2.out.p 0 _ rfl)
          | fail)
        all_goals
          go_roundw
          case rel => exact ⟨0 + 1, by omega, by omega, rfl, HP2.out.set (by omega) HX.out⟩
          case measure => simp [intOf]
      · have hcx : wr.cell? ⟨w.heap.size + 1 + 1, 1, none⟩ = some (.string x) := HP.out.c 1 x HX.out
        go_wp2_with (first
          | (go_at_call 58; refine (atoi_any x _ (by omega) (HE.out.below (HP.out.bl))).mono ?_; rintro e w2 ⟨ev, rfl, hb2⟩; have HP2 := Lib.hid (HP.out.step hb2); have f0 := free_blk HP2.out.p 1; have c0 := cell_blk HP2.out.p 1 _ rfl)
          | fail)
        all_goals
          go_roundw
          case rel => exact ⟨1 + 1, by omega, by omega, rfl, HP2.out.set (by omega) HX.out⟩
          case measure => simp [intOf]
      · have hcx : wr.cell? ⟨w.heap.size + 1 + 1, 2, none⟩ = some (.string x) := HP.out.c 2 x HX.out
        go_wp2_with (first
          | (go_at_call 58; refine (atoi_any x _ (by omega) (HE.out.below (HP.out.bl))).mono ?_; rintro e w2 ⟨ev, rfl, hb2⟩; have HP2 := Lib.hid (HP.out.step hb2); have f0 := free_blk HP2.out.p 2; have c0 := cell_blk HP2.out.p 2 _ rfl)
          | fail)
        all_goals
          go_roundw
          case rel => exact ⟨2 + 1, by omega, by omega, rfl, HP2.out.set (by omega) HX.out⟩
          case measure => simp [intOf]
    · obtain rfl : k = (piecesB s).length := by omega
      have c0 : wr.cell? ⟨w.heap.size + 1, 0, none⟩ = some (.int .i64 (partV s 0)) := (cell_blk hP.p 0 _ rfl).trans (by rw [← pv_end s 0]; rfl)
      have c1 : wr.cell? ⟨w.heap.size + 1, 1, none⟩ = some (.int .i64 (partV s 1)) := (cell_blk hP.p 1 _ rfl).trans (by rw [← pv_end s 1]; rfl)
      have c2 : wr.cell? ⟨w.heap.size + 1, 2, none⟩ = some (.int .i64 (partV s 2)) := (cell_blk hP.p 2 _ rfl).trans (by rw [← pv_end s 2]; rfl)
      clear hP hlt hk hk0 hpl
      have HR : Hid (progP s = if s.data.toList ≠ [] ∧ textB (partV s 0) (partV s 1) (partV s 2) = s then some (partV s 0, partV s 1, partV s 2) else none) := Lib.hid rfl
      obtain ⟨y, hy⟩ : ∃ y, y = partV s 0 := ⟨_, rfl⟩
      obtain ⟨m, hm⟩ : ∃ y, y = partV s 1 := ⟨_, rfl⟩
      obtain ⟨d, hd⟩ : ∃ y, y = partV s 2 := ⟨_, rfl⟩
      rw [← hy, ← hm, ← hd] at HR
      rw [← hy] at c0
      rw [← hm] at c1
      rw [← hd] at c2
      clear hy hm hd
      have HA := Lib.hid (Res.new HP.out y m d)
      clear HP
      generalize he0 : Obj.cells #[.int .i64 y, .int .i64 m, .int .i64 d] 23 (0, 0) = ob at HA
      by_cases he : s = ⟨#[]⟩
      · subst he
        subst he0
        have HR2 : Hid (progP ⟨#[]⟩ = none) := Lib.hid (by rw [HR.out, if_neg (by simp)])
        obtain ⟨z0, z1, z2, k0, k1, k2⟩ := HA.out.facts
        obtain ⟨a0, a1, a2⟩ := HA.out.after 0 0 0
        go_wp2_with fail
        refine bodyPost_ret (v := parseV none) (by simp [parseV, results, Tryd.results44, go_sem, a0, a1, a2]) rfl ⟨by rw [HR2.out], ?_⟩
        exact HA.out.fin 0 0 0
      · subst he0
        have he' : s.toList.isEmpty = false := by rw [ByteArray.toList_eq]; cases h : s.data.toList with | nil => exact absurd (bs_ext (by rw [h])) he | cons a l => rfl
        have HE0 : Hid (s.data.toList ≠ []) := Lib.hid (by intro h; exact he (bs_ext (by rw [h])))
        by_cases ht : textB y m d = s
        · have HR2 : Hid (progP s = some (y, m, d)) := Lib.hid (by rw [HR.out, if_pos ⟨HE0.out, ht⟩])
          obtain ⟨tx, htx⟩ : ∃ tx, tx = textB y m d := ⟨_, rfl⟩
          have ht2 : tx.toList = s.toList := by rw [htx, ht]
          have HTX := Lib.hid htx
          clear htx ht
          go_wp2_with (first
            | (go_at_call 39; refine (formatDate_any y m d _ (HA.out.tab HE.out.tab)).mono ?_; rintro e w2 ⟨rfl, hb2⟩; rw [← HTX.out]; have HA2 := Lib.hid (HA.out.step hb2); obtain ⟨z0, z1, z2, k0, k1, k2⟩ := HA2.out.facts; obtain ⟨a0, a1, a2⟩ := HA2.out.after y m d; obtain ⟨d0, d1, d2⟩ := HA2.out.date; clear hb2)
            | fail)
          all_goals
            refine bodyPost_ret (v := parseV (some (y, m, d))) (by simp [parseV, results, Tryd.results44, go_sem, a0, a1, a2]) rfl ⟨by rw [HR2.out], ?_⟩
            exact HA2.out.fin y m d
        · have HR2 : Hid (progP s = none) := Lib.hid (by rw [HR.out, if_neg (by intro h; exact ht h.2)])
          have ht' : (textB y m d).toList = s.toList → False := fun h => ht (bs_ext (by rw [ByteArray.toList_eq, ByteArray.toList_eq] at h; exact h))
          obtain ⟨tx, htx⟩ : ∃ tx, tx = textB y m d := ⟨_, rfl⟩
          rw [← htx] at ht'
          have ht2 : (tx.toList == s.toList) = false := by simpa using ht'
          have HTX := Lib.hid htx
          clear htx ht
          go_wp2_with (first
            | (go_at_call 39; refine (formatDate_any y m d _ (HA.out.tab HE.out.tab)).mono ?_; rintro e w2 ⟨rfl, hb2⟩; rw [← HTX.out]; have HA2 := Lib.hid (HA.out.step hb2); obtain ⟨z0, z1, z2, k0, k1, k2⟩ := HA2.out.facts; obtain ⟨a0, a1, a2⟩ := HA2.out.after 0 0 0; clear hb2)
            | fail)
          all_goals
            refine bodyPost_ret (v := parseV none) (by simp [parseV, results, Tryd.results44, go_sem, a0, a1, a2]) rfl ⟨by rw [HR2.out], ?_⟩
            exact HA2.out.fin 0 0 0
end Go.Proofs.YtpknkomkldgnfaaDoor
