/- What every law of this seat needs beside its walk: the table out of the row's list, and a world for the witness. -/
import Derived.Test.YtpknkomkldgnfaaDoorCards
import Derived.Test.YtpknkomkldgnfaaDoorTie
import Derived.Test.YtpknkomkldgnfaaDoorK
import Derived.ProofKit
import Derived.OpenShut
import Derived.LaidMore
import Derived.Deep.DeepHandedRow
import Derived.Deep.DeepWitnessRowRef
import Derived.Lib.SmallJoins
import Derived.Stop.LaidErr
namespace Go.Proofs.YtpknkomkldgnfaaDoor
open Go.ChangeShapes Go.WideShapes Go.ChangeAt Go.RowKit
theorem own : ownKnob Tryd.prog.godebug = none := by kernel_rfl
theorem gTabType : (Tryd.prog.globals[3]?).map (·.type) = some 110 := by kernel_rfl
theorem cellsTab : Tryd.prog.cellsOf 110 = 20 := by kernel_rfl
theorem cellsU64 : Tryd.prog.cellsOf 54 = 1 := by kernel_rfl
theorem tab_data : (Rows.laid_internal_strconv_uint64pow10 : DataW Unit) = Lib.tabData .u64 Lib.pow10Tab := by kernel_rfl
theorem tab_of {W : World} {x y : String × DataW Unit} {r : List (String × DataW Unit)} (h : laidMet Tryd.prog (x :: y :: ("internal/strconv.uint64pow10", Rows.laid_internal_strconv_uint64pow10) :: r) W) : Tab W := by
  rw [tab_data] at h
  have hi : Lib.TabIs Tryd.prog W "internal/strconv.uint64pow10" .u64 Lib.pow10Tab := Lib.tabIs_of_head gTab gTabType Tryd.underlying110 Tryd.underlying54 cellsU64 cellsTab h.tail.tail
  exact ⟨hi, World.block_lt_of_cell? W _ (Lib.TabIs.cell hi gTab 0 (by decide))⟩
theorem int_range {n : Int} (h : (Lit.int .i64 n).wf = true) : -9223372036854775808 ≤ n ∧ n ≤ 9223372036854775807 := by
  have := bounds_i64 h
  omega
/-- What a law owes behind its walk: it answers true, its arguments read as they did, nothing that was there has turned. -/
theorem post_below {H : Type} {P : Program} {enc : TypeId × Value → H} {f : Func} {s : ChangeSpec} {W W' : World} {args : Array Value} {v : Value} {ds gs : List (DataW H)} {before pa : List MemPlace}
    (hW : DataW.Whole enc P f.params.toList s.vars false W args.toList ds gs before)
    (hres : ∀ (b : Nat) (sp : Nat → Bool) (hd : Bool), DataW.TrodAll enc P W' b sp hd f.resultTypes.toList (v.resultList f.resultTypes.size) (s.fn H (ds ++ gs)).results [])
    (hargs : DataW.TrodAll enc P W' 0 (fun b => decide (b < W.heap.size)) true f.params.toList args.toList (s.fn H (ds ++ gs)).args pa)
    (hvars : DataW.TrodVars enc P W' (fun b => decide (b < W.heap.size)) s.vars (s.fn H (ds ++ gs)).vars [])
    (hb : Below W.heap.size W W') : s.post enc P f false true false false W args v W' :=
  ⟨ds, gs, before, [], pa, [], hW, hres _ _ _, hargs, hvars, hb.frame _, fun h => by cases h⟩
/-- A table's cells, out of its datum. -/
def cellsOfLits : DataW Unit → Array Value
  | .agg xs => (xs.map fun
    | .lit (.int k n) => Value.int k n
    | _ => undef).toArray
  | _ => #[]
def putCells (h : Array Obj) (g : Nat) (cs : Array Value) : Array Obj := h.modify g fun
  | .cells _ t frozen => .cells cs t frozen
  | o => o
/-- A world for the witness: the settled one, the three tables holding what their initialisers lay. -/
noncomputable def laidWorld (os : Os) : World :=
  { World.holding Tryd.prog os ⟨#[], #[], []⟩ with heap := putCells (putCells (putCells (World.holding Tryd.prog os ⟨#[], #[], []⟩).heap
      6 (cellsOfLits Rows.laid_math_bits_deBruijn32tab)) 7 (cellsOfLits Rows.laid_math_bits_deBruijn64tab)) 3 (cellsOfLits Rows.laid_internal_strconv_uint64pow10) }
end Go.Proofs.YtpknkomkldgnfaaDoor
