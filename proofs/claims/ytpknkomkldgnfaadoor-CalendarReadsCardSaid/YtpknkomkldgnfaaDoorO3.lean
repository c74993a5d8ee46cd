/- What the laws that read texts need beside their walks: what the library reads, out of the row's list, and a world for the witness. -/
import Derived.Test.YtpknkomkldgnfaaDoorO
import Derived.Test.YtpknkomkldgnfaaDoorE1
import Derived.Lay
namespace Go.Proofs.YtpknkomkldgnfaaDoor
open Go.ChangeShapes Go.WideShapes Go.ChangeAt Go.RowKit
theorem gRanType : (Tryd.prog.globals[1]?).map (·.type) = some 62 := by kernel_rfl
theorem gSynType : (Tryd.prog.globals[0]?).map (·.type) = some 62 := by kernel_rfl
theorem cellsErr : Tryd.prog.cellsOf 108 = 1 := by kernel_rfl
theorem cellsStr : Tryd.prog.cellsOf 9 = 1 := by kernel_rfl
theorem star_err : "*" ++ "errors.errorString" = "*errors.errorString" := by decide
theorem row_err (u : TypeId) (h : Tryd.prog.typeName? 3 u = some "*errors.errorString") : u = 106 :=
  typeName_ptr_named (nm := "errors.errorString") (by rw [star_err]; kernel_rfl) (by kernel_rfl) (by decide) u (by rw [star_err]; exact h)
theorem len_row : ((((begin Tryd.prog (fun _ _ => 0) default).world.heap[2]?).bind Obj.row?).map fun r => (r.1.size, r.2)) = some (1, 3) := by kernel_rfl
set_option maxRecDepth 100000 in
theorem len_int {w : World} (h : w.ShapedOpen Tryd.prog) : ∃ m, w.cell? ⟨2, 0, none⟩ = some (.int .i64 m) := by
  cases h0 : ((begin Tryd.prog (fun _ _ => 0) default).world.heap[2]?).bind Obj.row? with
  | none => have := len_row; rw [h0] at this; cases this
  | some r =>
    obtain ⟨zero, t⟩ := r
    have hr := len_row
    rw [h0] at hr
    simp only [Option.map_some, Option.some.injEq, Prod.mk.injEq] at hr
    obtain ⟨hz, rfl⟩ := hr
    obtain ⟨cs, hh, hs, hr⟩ := h.1 2 zero 3 (of_decide_eq_true (by kernel_rfl)) h0
    obtain ⟨ts, hts, _, hall⟩ := hr (by kernel_rfl)
    rw [show Tryd.prog.cellTypes Tryd.prog.depth 3 = some [3] by kernel_rfl] at hts
    cases hts
    have h1 : 0 < cs.size := by omega
    obtain ⟨u, hu', hok⟩ := hall 0 cs[0] (by simp [h1])
    have : u = 3 := by simpa using hu'.symm
    subst this
    have hcell : w.cell? ⟨2, 0, none⟩ = some cs[0] := by simp [World.cell?, hh, h1]
    rw [hcell]
    unfold Cell.ok at hok
    rw [Tryd.underlying3] at hok
    cases hv : cs[0] <;> rw [hv] at hok <;> first | (obtain ⟨rfl, _⟩ := hok; exact ⟨_, rfl⟩) | simp at hok
theorem env_of {W : World} (hL : laidMet Tryd.prog Rows.calendarTextsRow.laid W) (hS : W.ShapedOpen Tryd.prog) : Env W := by
  have hT : Tab W := tab_of hL
  have h4 := hL.tail.tail.tail.tail
  obtain ⟨a0, s0, hv0, _, _, _⟩ := laid_sentinel h4 gRan gRanType Tryd.underlying62 row_err Tryd.underlying106 Tryd.underlying108 rfl rfl Tryd.underlying9 cellsErr cellsStr
  obtain ⟨a1, s1, hv1, _, _, _⟩ := laid_sentinel h4.tail gSyn gSynType Tryd.underlying62 row_err Tryd.underlying106 Tryd.underlying108 rfl rfl Tryd.underlying9 cellsErr cellsStr
  exact ⟨hT, len_int hS, ⟨_, _, hv1⟩, ⟨_, _, hv0⟩⟩
/-- A world for the witness: every listed variable holds what its initialiser lays. -/
noncomputable def textWorld (os : Os) : World := World.laidAll Tryd.prog os Rows.calendarTextsRow.laid
end Go.Proofs.YtpknkomkldgnfaaDoor
