/- What every law on codes needs beside its walk: what the library reads, out of the row's list; a slice that came in, read as a list. -/
import Derived.Test.YtenjefbplpbjaaaGreatDoorCards
import Derived.Test.YtenjefbplpbjaaaGreatDoorTie
import Derived.Test.YtenjefbplpbjaaaGreatDoorK
import Derived.ProofKit
import Derived.OpenShut
import Derived.LaidMore
import Derived.Deep.DeepHandedRow
import Derived.Deep.DeepWitnessRowRef
import Derived.Lib.SmallJoins
import Derived.Stop.LaidErr
import Derived.Test.YtenjefbplpbjaaaGreatDoorBs
import Derived.Lay
import Derived.Carry
namespace Go.Proofs.YtenjefbplpbjaaaGreatDoor
open Go.ChangeShapes Go.WideShapes Go.ChangeAt Go.RowKit
theorem own : ownKnob Tryz.prog.godebug = none := by kernel_rfl
theorem gTabType : (Tryz.prog.globals[2]?).map (·.type) = some 229 := by kernel_rfl
theorem cellsTab : Tryz.prog.cellsOf 229 = 20 := by kernel_rfl
theorem cellsU64 : Tryz.prog.cellsOf 69 = 1 := by kernel_rfl
theorem tab_data : (Rows.laid_internal_strconv_uint64pow10 : DataW Unit) = Lib.tabData .u64 Lib.pow10Tab := by kernel_rfl
theorem tab_of {W : World} {x y : String × DataW Unit} {r : List (String × DataW Unit)} (h : laidMet Tryz.prog (x :: y :: ("internal/strconv.uint64pow10", Rows.laid_internal_strconv_uint64pow10) :: r) W) : Tab W := by
  rw [tab_data] at h
  have hi : Lib.TabIs Tryz.prog W "internal/strconv.uint64pow10" .u64 Lib.pow10Tab := Lib.tabIs_of_head gTab gTabType Tryz.underlying229 Tryz.underlying69 cellsU64 cellsTab h.tail.tail
  exact ⟨hi, World.block_lt_of_cell? W _ (Lib.TabIs.cell hi gTab 0 (by decide))⟩
theorem int_range {n : Int} (h : (Lit.int .i64 n).wf = true) : -9223372036854775808 ≤ n ∧ n ≤ 9223372036854775807 := by
  have := bounds_i64 h
  omega
/-- What a law owes behind its walk: it answers true, its arguments read as they did, nothing that was there has turned. -/
theorem post_below {H : Type} {P : Program} {enc : TypeId × Value → H} {f : Func} {s : ChangeSpec} {W W' : World} {args : Array Value} {v : Value} {ds gs : List (DataW H)} {before pa : List MemPlace}
    (hW : DataW.Whole enc P f.params.toList s.vars false W args.toList ds gs before)
    (hres : ∀ (b : Nat) (sp : Nat → Bool) (hd : Bool), DataW.TrodAll enc P W' b sp hd f.resultTypes.toList (v.resultList f.resultTypes.size) (s.fn H (ds ++ gs)).results [])
    (hargs : DataW.TrodAll enc P W' 0 (fun b => decide (b < W.heap.size)) true f.params.toList args.toList (s.fn H (ds ++ gs)).args pa)
    (hvars : DataW.TrodVars enc P W' (fun b => decide (b < W.heap.size)) s.vars (s.fn H (ds ++ gs)).vars [])
    (hb : Below W.heap.size W W') : s.post enc P f false true false false W args v W' :=
  ⟨ds, gs, before, [], pa, [], hW, hres _ _ _, hargs, hvars, hb.frame _, fun h => by cases h⟩
theorem gRanType : (Tryz.prog.globals[4]?).map (·.type) = some 91 := by kernel_rfl
theorem gSynType : (Tryz.prog.globals[3]?).map (·.type) = some 91 := by kernel_rfl
theorem cellsErr : Tryz.prog.cellsOf 265 = 1 := by kernel_rfl
theorem cellsStr : Tryz.prog.cellsOf 9 = 1 := by kernel_rfl
theorem star_err : "*" ++ "errors.errorString" = "*errors.errorString" := by decide
theorem row_err (u : TypeId) (h : Tryz.prog.typeName? 3 u = some "*errors.errorString") : u = 263 :=
  typeName_ptr_named (nm := "errors.errorString") (by rw [star_err]; kernel_rfl) (by kernel_rfl) (by decide) u (by rw [star_err]; exact h)
theorem len_row : ((((begin Tryz.prog (fun _ _ => 0) default).world.heap[1]?).bind Obj.row?).map fun r => (r.1.size, r.2)) = some (1, 3) := by kernel_rfl
set_option maxRecDepth 100000 in
theorem len_int {w : World} (h : w.ShapedOpen Tryz.prog) : ∃ m, w.cell? ⟨1, 0, none⟩ = some (.int .i64 m) := by
  cases h0 : ((begin Tryz.prog (fun _ _ => 0) default).world.heap[1]?).bind Obj.row? with
  | none => have := len_row; rw [h0] at this; cases this
  | some r =>
    obtain ⟨zero, t⟩ := r
    have hr := len_row
    rw [h0] at hr
    simp only [Option.map_some, Option.some.injEq, Prod.mk.injEq] at hr
    obtain ⟨hz, rfl⟩ := hr
    obtain ⟨cs, hh, hs, hr⟩ := h.1 1 zero 3 (of_decide_eq_true (by kernel_rfl)) h0
    obtain ⟨ts, hts, _, hall⟩ := hr (by kernel_rfl)
    rw [show Tryz.prog.cellTypes Tryz.prog.depth 3 = some [3] by kernel_rfl] at hts
    cases hts
    have h1 : 0 < cs.size := by omega
    obtain ⟨u, hu', hok⟩ := hall 0 cs[0] (by simp [h1])
    have : u = 3 := by simpa using hu'.symm
    subst this
    have hcell : w.cell? ⟨1, 0, none⟩ = some cs[0] := by simp [World.cell?, hh, h1]
    rw [hcell]
    unfold Cell.ok at hok
    rw [Tryz.underlying3] at hok
    cases hv : cs[0] <;> rw [hv] at hok <;> first | (obtain ⟨rfl, _⟩ := hok; exact ⟨_, rfl⟩) | simp at hok
theorem env_of {W : World} (hL : laidMet Tryz.prog [("math/bits.deBruijn32tab", Rows.laid_math_bits_deBruijn32tab), ("math/bits.deBruijn64tab", Rows.laid_math_bits_deBruijn64tab), ("internal/strconv.uint64pow10", Rows.laid_internal_strconv_uint64pow10), ("unicode/utf8.acceptRanges", Rows.laid_unicode_utf8_acceptRanges), ("strconv.ErrRange", Rows.laid_strconv_ErrRange), ("strconv.ErrSyntax", Rows.laid_strconv_ErrSyntax), ("unicode/utf8.first", Rows.laid_unicode_utf8_first)] W) (hS : W.ShapedOpen Tryz.prog) : Env W := by
  have hT : Tab W := tab_of hL
  have h4 := hL.tail.tail.tail.tail
  obtain ⟨a0, s0, hv0, _, _, _⟩ := laid_sentinel h4 gRan gRanType Tryz.underlying91 row_err Tryz.underlying263 Tryz.underlying265 rfl rfl Tryz.underlying9 cellsErr cellsStr
  obtain ⟨a1, s1, hv1, _, _, _⟩ := laid_sentinel h4.tail gSyn gSynType Tryz.underlying91 row_err Tryz.underlying263 Tryz.underlying265 rfl rfl Tryz.underlying9 cellsErr cellsStr
  exact ⟨hT, len_int hS, ⟨_, _, hv1⟩, ⟨_, _, hv0⟩⟩
theorem laidOut : laidOutB Tryz.prog = true := by kernel_rfl
theorem cells_int : Tryz.prog.cellsOf 3 = 1 := by kernel_rfl
set_option maxRecDepth 100000 in
/-- A slice of integers that came in. -/
theorem ints_of_trod {H : Type} {enc : TypeId × Value → H} {W : World} {b0 : Nat} {v : Value} {d : DataW H} {p : List MemPlace} (hv : Value.okWide Tryz.prog W .any b0 37 v)
    (h : DataW.Trod enc Tryz.prog W 0 (fun _ => true) true 37 v d p) : ∃ q n c zs, v = .slice q n c ∧ n = zs.length ∧ n ≤ c ∧ c ≤ maxLen ∧ IntsAt W v zs ∧ Fits zs := by
  obtain ⟨q, n, c, rfl⟩ := okWide_slice Tryz.underlying37 hv
  obtain ⟨fuel, hf⟩ := h
  rcases open_ints Tryz.underlying37 Tryz.underlying3 cells_int hf with ⟨hcs, _⟩ | ⟨a, n', c', zs, hcs, _, hl, hm, hz, _, hcell, hwf⟩
  · simp [Value.cells] at hcs
    obtain ⟨rfl, rfl, rfl⟩ := hcs
    exact ⟨none, 0, 0, [], rfl, rfl, by omega, by unfold maxLen; omega, Or.inl ⟨rfl, none, 0, rfl⟩, by simp [Fits]⟩
  · simp [Value.cells] at hcs
    obtain ⟨rfl, rfl, rfl⟩ := hcs
    simp at hz
    have hln : (zs.take n).length = n := by simp; omega
    have hget : ∀ j, j < n → (zs.take n).getD j 0 = zs.getD j 0 := fun j hj => by simp [List.getD, hj]
    refine ⟨some a, n, c, zs.take n, rfl, hln.symm, hl, hm, ?_, by rw [hln]; unfold maxLen at hm; omega, fun j hj => ?_⟩
    · by_cases h0 : 0 < n
      · obtain ⟨b, off, rfl, hc⟩ := ints_at hcell (by omega)
        refine Or.inr ⟨by omega, b, off, c, by rw [hln], by omega, ?_, fun j hj => ?_⟩
        · exact World.block_lt_of_cell? W _ (hc 0 (by omega))
        · rw [hln] at hj
          rw [hget j hj]
          exact hc j (by omega)
      · have : n = 0 := by omega
        subst this
        exact Or.inl ⟨by simp, some a, c, rfl⟩
    · rw [hln] at hj
      rw [hget j hj]
      have := hwf (zs[j]'(by omega)) (List.getElem_mem _)
      have e : zs.getD j 0 = zs[j]'(by omega) := by simp [List.getD, show j < zs.length from by omega]
      rw [e]
      exact int_range this
end Go.Proofs.YtenjefbplpbjaaaGreatDoor
