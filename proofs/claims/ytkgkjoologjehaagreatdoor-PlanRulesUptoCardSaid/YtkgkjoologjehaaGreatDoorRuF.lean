/- The closed facts of a row, one by one, and their join. -/
import Derived.Test.YtkgkjoologjehaaGreatDoorOc
import Derived.JoinedOf
namespace Go.Proofs.YtkgkjoologjehaaGreatDoor.planRules
open Go.ChangeShapes Go.WideShapes Go.ChangeAt Go.RowKit Go.Joins
theorem band {a b : Bool} (h1 : a = true) (h2 : b = true) : (a && b) = true := by rw [h1, h2]; rfl
theorem fact1 : (Rows.planRulesUptoRow.wf (OpenSpec.ofChange ((Rows.OpenSpec.upto Rows.planRulesSpec).bare))) = true := by kernel_rfl
theorem fact2 : (laidOutB Tryz.pinned.checked.prog) = true := by kernel_rfl
theorem fact3 : (mapsRowed Tryz.pinned.checked.prog) = true := by kernel_rfl
theorem fact4 : (Tryz.f4.params.all (Tryz.pinned.checked.prog.readableRec ·)) = true := by kernel_rfl
theorem fact5 : (namedTie Tryz.pinned.checked.prog Rows.planRulesUptoRow.named ((Rows.OpenSpec.upto Rows.planRulesSpec).bare).vars) = true := by kernel_rfl
theorem fact6 : (Rows.planRulesUptoRow.stops == []) = true := by kernel_rfl
theorem fact7 : (Tryz.pinned.checked.prog.stops == []) = true := by kernel_rfl
theorem fact8 : (Rows.planRulesUptoRow.knobs == []) = true := by kernel_rfl
theorem fact9 : (Tryz.pinned.checked.prog.stopKnobs == []) = true := by kernel_rfl
theorem fact10 : (Rows.planRulesUptoRow.inPlace == Tryz.pinned.checked.prog.inPlace 4) = true := by kernel_rfl
theorem fact11 : (Rows.planRulesUptoRow.unfollowed == Tryz.pinned.checked.prog.unfollowed 4) = true := by kernel_rfl
theorem fact12 : (Rows.planRulesUptoRow.recurses == Tryz.pinned.checked.prog.recurses 4) = true := by kernel_rfl
theorem fact13 : (Rows.planRulesUptoRow.named == Tryz.pinned.checked.prog.varsNamed 4) = true := by kernel_rfl
theorem fact14 : (Rows.planRulesUptoRow.maps == (Tryz.f4.params.toList ++ ((Rows.OpenSpec.upto Rows.planRulesSpec).bare).plain.varTypes Tryz.pinned.checked.prog).any (Tryz.pinned.checked.prog.mapsRec ·)) = true := by kernel_rfl
theorem fact15 : (Rows.planRulesUptoRow.ifaces == (Tryz.f4.params.toList ++ ((Rows.OpenSpec.upto Rows.planRulesSpec).bare).plain.varTypes Tryz.pinned.checked.prog).any (Tryz.pinned.checked.prog.ifacesRec ·)) = true := by kernel_rfl
theorem fact16 : (Rows.planRulesUptoRow.mapsOut == Tryz.pinned.checked.prog.mapsAmong Tryz.f4.resultTypes.toList) = true := by kernel_rfl
theorem fact17 : (Rows.planRulesUptoRow.loops == (Tryz.f4.params.toList ++ ((Rows.OpenSpec.upto Rows.planRulesSpec).bare).plain.varTypes Tryz.pinned.checked.prog).any (Tryz.pinned.checked.prog.loopsFrom ·)) = true := by kernel_rfl
theorem fact18 : (Rows.planRulesUptoRow.wideKeys == (Tryz.f4.params.toList ++ ((Rows.OpenSpec.upto Rows.planRulesSpec).bare).plain.varTypes Tryz.pinned.checked.prog ++ Tryz.f4.resultTypes.toList).any (Tryz.pinned.checked.prog.wideKeysFrom ·)) = true := by kernel_rfl
theorem fact19 : (((Rows.OpenSpec.upto Rows.planRulesSpec).bare).vars.all (Tryz.pinned.checked.prog.varReadable ·)) = true := by kernel_rfl
theorem fact20 : (Tryz.f4.resultTypes.all (fun t => Tryz.pinned.checked.prog.readableRec t && decide (t < Tryz.pinned.checked.prog.types.size))) = true := by kernel_rfl
theorem fact21 : (Rows.planRulesUptoRow.ifacesOut == Tryz.f4.resultTypes.toList.any (Tryz.pinned.checked.prog.ifacesRec ·)) = true := by kernel_rfl
theorem fact22 : (Rows.planRulesUptoRow.loopsOut == Tryz.f4.resultTypes.toList.any (Tryz.pinned.checked.prog.loopsFrom ·)) = true := by kernel_rfl
theorem fact23 : (Rows.planRulesUptoRow.plainKeys == Tryz.pinned.checked.prog.plainKeys) = true := by kernel_rfl
theorem fact24 : (Rows.planRulesUptoRow.shortTexts.isNone) = true := by kernel_rfl
theorem fact25 : (Tryz.pinned.checked.prog.stopsHeard) = true := by kernel_rfl
theorem fact26 : (Tryz.pinned.checked.prog.mayEnter) = true := by kernel_rfl
theorem fact27 : (Rows.planRulesUptoRow.lifted == Tryz.pinned.checked.prog.liftsFinal) = true := by kernel_rfl
theorem fact28 : (Tryz.pinned.checked.prog.make == some Rows.planRulesUptoRow.make) = true := by kernel_rfl
theorem fact29 : (Rows.planRulesUptoRow.kinds == (if Rows.planRulesUptoRow.domain.isEmpty then [] else Tryz.f4.params.toList.map fun t => match Tryz.pinned.checked.prog.underlying t with | some (.int k) => some k | _ => none)) = true := by kernel_rfl
theorem fact30 : (Rows.planRulesUptoRow.pinned == Rows.planRulesUptoRow.pinnedBy) = true := by kernel_rfl
theorem fact31 : (Rows.planRulesUptoRow.veiled == (Tryz.f4.params.toList ++ ((Rows.OpenSpec.upto Rows.planRulesSpec).bare).plain.varTypes Tryz.pinned.checked.prog ++ Tryz.f4.resultTypes.toList).any (Tryz.pinned.checked.prog.veiledRec ·)) = true := by kernel_rfl
theorem fact32 : (Rows.planRulesUptoRow.veiledFits Tryz.pinned.checked.prog Tryz.f4.params.toList (Tryz.f4.params.toList ++ ((Rows.OpenSpec.upto Rows.planRulesSpec).bare).plain.varTypes Tryz.pinned.checked.prog ++ Tryz.f4.resultTypes.toList)) = true := by kernel_rfl
theorem closedFacts : joinedFacts Tryz.pinned.checked.prog 4 Tryz.f4 ((Rows.OpenSpec.upto Rows.planRulesSpec).bare) Rows.planRulesUptoRow = true := by
  unfold joinedFacts
  refine band ?_ (by first | with_reducible exact fact32 | kernel_rfl)
  refine band ?_ (by first | with_reducible exact fact31 | kernel_rfl)
  refine band ?_ (by first | with_reducible exact fact30 | kernel_rfl)
  refine band ?_ (by first | with_reducible exact fact29 | kernel_rfl)
  refine band ?_ (by first | with_reducible exact fact28 | kernel_rfl)
  refine band ?_ (by first | with_reducible exact fact27 | kernel_rfl)
  refine band ?_ (by first | with_reducible exact fact26 | kernel_rfl)
  refine band ?_ (by first | with_reducible exact fact25 | kernel_rfl)
  refine band ?_ (by first | with_reducible exact fact24 | kernel_rfl)
  refine band ?_ (by first | with_reducible exact fact23 | kernel_rfl)
  refine band ?_ (by first | with_reducible exact fact22 | kernel_rfl)
  refine band ?_ (by first | with_reducible exact fact21 | kernel_rfl)
  refine band ?_ (by first | with_reducible exact fact20 | kernel_rfl)
  refine band ?_ (by first | with_reducible exact fact19 | kernel_rfl)
  refine band ?_ (by first | with_reducible exact fact18 | kernel_rfl)
  refine band ?_ (by first | with_reducible exact fact17 | kernel_rfl)
  refine band ?_ (by first | with_reducible exact fact16 | kernel_rfl)
  refine band ?_ (by first | with_reducible exact fact15 | kernel_rfl)
  refine band ?_ (by first | with_reducible exact fact14 | kernel_rfl)
  refine band ?_ (by first | with_reducible exact fact13 | kernel_rfl)
  refine band ?_ (by first | with_reducible exact fact12 | kernel_rfl)
  refine band ?_ (by first | with_reducible exact fact11 | kernel_rfl)
  refine band ?_ (by first | with_reducible exact fact10 | kernel_rfl)
  refine band ?_ (by first | with_reducible exact fact9 | kernel_rfl)
  refine band ?_ (by first | with_reducible exact fact8 | kernel_rfl)
  refine band ?_ (by first | with_reducible exact fact7 | kernel_rfl)
  refine band ?_ (by first | with_reducible exact fact6 | kernel_rfl)
  refine band ?_ (by first | with_reducible exact fact5 | kernel_rfl)
  refine band ?_ (by first | with_reducible exact fact4 | kernel_rfl)
  refine band ?_ (by first | with_reducible exact fact3 | kernel_rfl)
  refine band ?_ (by first | with_reducible exact fact2 | kernel_rfl)
  first | with_reducible exact fact1 | kernel_rfl
end Go.Proofs.YtkgkjoologjehaaGreatDoor.planRules
