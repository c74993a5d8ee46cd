/- A map from strings to bools that the call made: the set of a list of strings. -/
import Derived.Test.YtnmcmnllmnpjkaaGreatDoorG18
import Derived.Maps.OwnOps
import Derived.Maps.Views
import Derived.StringKeys
namespace Go.Proofs.YtnmcmnllmnpjkaaGreatDoor
open Go.RowKit Go.Sort Cal Go.Maps
/-- The set of a list's strings. -/
def setS (zs : List ByteArray) : DataW Unit := zs.foldl (fun D z => D.put (.string z.data.toList) (.lit (.bool true))) (.map [])
theorem setS_snoc (zs : List ByteArray) (z : ByteArray) : setS (zs ++ [z]) = (setS zs).put (.string z.data.toList) (.lit (.bool true)) := by
  unfold setS; rw [List.foldl_append]; rfl
theorem inB_cons (z : ByteArray) (zs : List ByteArray) (x : ByteArray) : inB (z :: zs) x = (decide (z = x) || inB zs x) := by unfold inB; rw [List.any_cons]
theorem putS_fold (zs : List ByteArray) : ∀ D : DataW Unit, IsMap D → IsMap (zs.foldl (fun D z => D.put (.string z.data.toList) (.lit (.bool true))) D) ∧
    ∀ (x : ByteArray) c, D.atKey (.string x.data.toList) (.lit (.bool false)) = .lit (.bool c) → (zs.foldl (fun D z => D.put (.string z.data.toList) (.lit (.bool true))) D).atKey (.string x.data.toList) (.lit (.bool false)) = .lit (.bool (c || inB zs x)) := by
  induction zs with
  | nil => intro D hD; exact ⟨hD, fun x c h => by simpa [inB] using h⟩
  | cons z zs ih =>
    intro D hD
    obtain ⟨i1, i2⟩ := ih (D.put (.string z.data.toList) (.lit (.bool true))) (hD.put _ _)
    refine ⟨i1, fun x c h => ?_⟩
    rw [inB_cons]
    by_cases e : z = x
    · subst e
      have := i2 z true (atKey_put_same hD (show WideAt.IsKeyLit (.string z.data.toList) from trivial) _ _)
      simpa using this
    · have := i2 x c (by rw [atKey_put_other (by intro k; injection k with k; exact e (bs_ext k).symm)]; exact h)
      simpa [e] using this
theorem setS_at (zs : List ByteArray) (x : ByteArray) : (setS zs).atKey (.string x.data.toList) (.lit (.bool false)) = .lit (.bool (inB zs x)) := by
  have := (putS_fold zs (.map []) isMap_empty).2 x false rfl
  simpa [setS] using this
theorem mapLawS : Keyed Tryz.prog 9 := string_keyed Tryz.underlying9
theorem zeroBoolS (w : World) : (zeroValue 4).run Tryz.prog w = .ok (.bool false) w := by kernel_rfl
theorem grown_of_below {w w' : World} (hb : Below w.heap.size w w') : w.grownBy w' none := ⟨hb.os, hb.tape, hb.output, hb.size, fun k hk _ => hb.block k hk⟩
theorem map_below {w w' : World} {k e : TypeId} {b n : Nat} {D : DataW Unit} (h : w.ownsMap Tryz.prog k (plainElem Tryz.prog e) b n D) (hb : Below w.heap.size w w') : w'.ownsMap Tryz.prog k (plainElem Tryz.prog e) b n D := h.kept (grown_of_below hb) (by simp)
theorem inner_set (ss : List ByteArray) (x : ByteArray) : inB (ss.map fun y => (parentV y).1) x = innerB ss x := by unfold inB innerB; rw [List.any_map]; rfl
set_option maxRecDepth 100000 in
set_option maxHeartbeats 1600000 in
theorem leaf_any (B C M k : Nat) (x u : ByteArray) (D : DataW Unit) (f : Bool) (w : World) (hx : x.size ≤ 1000) (hu : u.size ≤ 1000) (hB : w.cell? ⟨B, 0, none⟩ = some (.string u)) (hC : w.cell? ⟨C, 0, none⟩ = some (.map (some M)))
    (hown : w.ownsMap Tryz.prog 9 (plainElem Tryz.prog 4) M k D) (hD : D.atKey (.string x.data.toList) (.lit (.bool false)) = .lit (.bool f)) (hE : Env w) :
    Calls Tryz.prog 23 #[.string x, .pointer (some ⟨B, 0, none⟩), .pointer (some ⟨C, 0, none⟩)] w fun e w' => e = .returned (.bool (withinB x u && !f)) ∧ Below w.heap.size w w' := by
  have HE := Lib.hid hE
  have HO := Lib.hid hown
  have HD := Lib.hid hD
  have hxm : x.size ≤ maxLen := by unfold maxLen; omega
  have hCl := World.block_lt_of_cell? w _ hC
  clear hE hown hD
  cases hw : withinB x u with
  | false =>
    have HW := Lib.hid hw
    clear hw
    go_enter Tryz.func23, Tryz.ntmps23
    go_wp2_with fail
    refine (within_any x u _ hx hu HE.out).mono ?_
    rintro e w1 ⟨rfl, hb1⟩
    rw [HW.out]
    go_wp2
    go_ret
    exact ⟨rfl, hb1⟩
  | true =>
    have HW := Lib.hid hw
    clear hw
    go_enter Tryz.func23, Tryz.ntmps23
    go_wp2_with fail
    refine (within_any x u _ hx hu HE.out).mono ?_
    rintro e w1 ⟨rfl, hb1⟩
    rw [HW.out]
    have hC1 := (hb1.cell (p := ⟨C, 0, none⟩) hCl).trans hC
    have HB1 := Lib.hid hb1
    have hm1 := map_below HO.out hb1
    clear hb1
    obtain ⟨c, hrun, hat⟩ := lookup_bool hm1 mapLawS Tryz.underlying48 Tryz.underlying4 (zeroBoolS _) (Go.WideMaps.keyOf_string_mk Tryz.underlying9 hxm)
    rw [HD.out] at hat
    obtain rfl : f = c := by simpa using hat
    clear hat
    go_wp2
    go_ret
    exact ⟨rfl, HB1.out⟩
end Go.Proofs.YtnmcmnllmnpjkaaGreatDoor
