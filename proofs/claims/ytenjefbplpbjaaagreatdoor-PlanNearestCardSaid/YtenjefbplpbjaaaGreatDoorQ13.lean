/- The walk of PlanNearest: a rule for the code itself comes first, then one for a code above it. -/
import Derived.Test.YtenjefbplpbjaaaGreatDoorQ12
import Derived.Test.YtenjefbplpbjaaaGreatDoorR2
namespace Go.Proofs.YtenjefbplpbjaaaGreatDoor
open Go.RowKit Go.Sort Cal Go.Maps
def twoL (a b : Int) : List RuleR := [⟨⟨#[48, 49]⟩, a, 0, 0⟩, ⟨⟨#[48, 49, 46, 49]⟩, b, 0, 0⟩]
theorem lev_1 : levelV ⟨#[48, 49]⟩ = 1 := by kernel_rfl
theorem lev_2 : levelV ⟨#[48, 49, 46, 49]⟩ = 2 := by kernel_rfl
theorem wi_11 : withinB ⟨#[48, 49, 46, 49]⟩ ⟨#[48, 49]⟩ = true := by kernel_rfl
theorem wi_12 : withinB ⟨#[48, 49, 46, 49]⟩ ⟨#[48, 49, 46, 49]⟩ = true := by kernel_rfl
theorem wi_21 : withinB ⟨#[48, 49, 46, 50]⟩ ⟨#[48, 49]⟩ = true := by kernel_rfl
theorem wi_22 : withinB ⟨#[48, 49, 46, 50]⟩ ⟨#[48, 49, 46, 49]⟩ = false := by kernel_rfl
theorem wi_31 : withinB ⟨#[48, 50]⟩ ⟨#[48, 49]⟩ = false := by kernel_rfl
theorem wi_32 : withinB ⟨#[48, 50]⟩ ⟨#[48, 49, 46, 49]⟩ = false := by kernel_rfl
theorem acc_1 (a b : Int) : accV ⟨#[48, 49, 46, 49]⟩ (twoL a b) 2 = ⟨⟨⟨#[48, 49, 46, 49]⟩, b, 0, 0⟩, true, 2⟩ := by simp [accV, accStep, takes, twoL, lev_1, lev_2, wi_11, wi_12]
theorem acc_2 (a b : Int) : accV ⟨#[48, 49, 46, 50]⟩ (twoL a b) 2 = ⟨⟨⟨#[48, 49]⟩, a, 0, 0⟩, true, 1⟩ := by simp [accV, accStep, takes, twoL, lev_1, lev_2, wi_21, wi_22]
theorem acc_3 (a b : Int) : accV ⟨#[48, 50]⟩ (twoL a b) 2 = ⟨zeroR, false, -1⟩ := by simp [accV, accStep, takes, twoL, lev_1, lev_2, wi_31, wi_32]
theorem rule_1 (a b : Int) (sv : Value) (w : World) (hR : RulesAt w sv (twoL a b)) (hE : Env w) :
    Calls Tryz.prog 13 #[.agg #[.int .i64 0, sv, .slice none 0 0, .slice none 0 0, .slice none 0 0, .slice none 0 0], .string ⟨#[48, 49, 46, 49]⟩] w fun e w' => e = .returned (.tuple #[.agg #[.string ⟨#[48, 49, 46, 49]⟩, .int .i64 b, .int .i64 0, .int .i64 0], .bool true]) ∧ Below w.heap.size w w' := by
  refine (ruleOf_any _ _ _ _ _ sv (twoL a b) ⟨#[48, 49, 46, 49]⟩ w (by simp [twoL]) (by decide) hR (fun r hr => by simp [twoL] at hr; rcases hr with rfl | rfl <;> exact Nat.le_of_ble_eq_true rfl) hE).mono ?_
  rintro e w1 ⟨he, hb⟩
  rw [show (twoL a b).length = 2 from rfl, acc_1] at he
  exact ⟨he, hb⟩
theorem rule_2 (a b : Int) (sv : Value) (w : World) (hR : RulesAt w sv (twoL a b)) (hE : Env w) :
    Calls Tryz.prog 13 #[.agg #[.int .i64 0, sv, .slice none 0 0, .slice none 0 0, .slice none 0 0, .slice none 0 0], .string ⟨#[48, 49, 46, 50]⟩] w fun e w' => e = .returned (.tuple #[.agg #[.string ⟨#[48, 49]⟩, .int .i64 a, .int .i64 0, .int .i64 0], .bool true]) ∧ Below w.heap.size w w' := by
  refine (ruleOf_any _ _ _ _ _ sv (twoL a b) ⟨#[48, 49, 46, 50]⟩ w (by simp [twoL]) (by decide) hR (fun r hr => by simp [twoL] at hr; rcases hr with rfl | rfl <;> exact Nat.le_of_ble_eq_true rfl) hE).mono ?_
  rintro e w1 ⟨he, hb⟩
  rw [show (twoL a b).length = 2 from rfl, acc_2] at he
  exact ⟨he, hb⟩
theorem rule_3 (a b : Int) (sv : Value) (w : World) (hR : RulesAt w sv (twoL a b)) (hE : Env w) :
    Calls Tryz.prog 13 #[.agg #[.int .i64 0, sv, .slice none 0 0, .slice none 0 0, .slice none 0 0, .slice none 0 0], .string ⟨#[48, 50]⟩] w fun e w' => e = .returned (.tuple #[.agg #[.string ⟨#[]⟩, .int .i64 0, .int .i64 0, .int .i64 0], .bool false]) ∧ Below w.heap.size w w' := by
  refine (ruleOf_any _ _ _ _ _ sv (twoL a b) ⟨#[48, 50]⟩ w (by simp [twoL]) (by decide) hR (fun r hr => by simp [twoL] at hr; rcases hr with rfl | rfl <;> exact Nat.le_of_ble_eq_true rfl) hE).mono ?_
  rintro e w1 ⟨he, hb⟩
  rw [show (twoL a b).length = 2 from rfl, acc_3] at he
  exact ⟨he, hb⟩
theorem two_at (w : World) (a b : Int) : RulesAt (w.alloc (.cells #[.string ⟨#[48, 49]⟩, .int .i64 a, .int .i64 0, .int .i64 0, .string ⟨#[48, 49, 46, 49]⟩, .int .i64 b, .int .i64 0, .int .i64 0] 50)) (.slice (some ⟨w.heap.size, 0, none⟩) 2 2) (twoL a b) := by
  have X := Box.new w [.string ⟨#[48, 49]⟩, .int .i64 a, .int .i64 0, .int .i64 0, .string ⟨#[48, 49, 46, 49]⟩, .int .i64 b, .int .i64 0, .int .i64 0] 50
  refine Or.inr ⟨by simp [twoL], _, _, rfl, by simp [twoL], X.sz, fun j r hj => ?_⟩
  have h2 : j = 0 ∨ j = 1 := by
    have := (List.getElem?_eq_some_iff.1 hj).1
    simp [twoL] at this; omega
  rcases h2 with rfl | rfl
  · simp [twoL] at hj; subst hj
    exact ⟨X.c 0 _ rfl, X.c 1 _ rfl, X.c 2 _ rfl, X.c 3 _ rfl⟩
  · simp [twoL] at hj; subst hj
    exact ⟨X.c 4 _ rfl, X.c 5 _ rfl, X.c 6 _ rfl, X.c 7 _ rfl⟩
set_option maxRecDepth 100000 in
set_option maxHeartbeats 3200000 in
theorem near_walk (w : World) (x y : Int) (hE : Env w) :
    Calls Tryz.prog 4 #[.int .i64 x, .int .i64 y] w fun e w' => e = .returned (.bool true) ∧ Below w.heap.size w w' := by
  have HE := Lib.hid hE
  have f1 := fold_bd x 9 (by omega)
  have f2 := fold_bd y 9 (by omega)
  clear hE
  go_enter Tryz.func4, Tryz.ntmps4
  go_wp2_with fail
  refine (fold_any x 9 _ (by omega) (by omega)).mono ?_
  rintro e w' ⟨rfl, rfl⟩
  generalize foldZ x 9 = F at *
  go_wp2_with fail
  refine (fold_any y 9 _ (by omega) (by omega)).mono ?_
  rintro e w' ⟨rfl, rfl⟩
  generalize foldZ y 9 = G at *
  have HR := Lib.hid (two_at w (1 + F) (1 + G))
  have HB0 := Lib.hid (((Below.refl w.heap.size w).alloc (Nat.le_refl _) (.cells #[.string ⟨#[48, 49]⟩, .int .i64 (1 + F), .int .i64 0, .int .i64 0, .string ⟨#[48, 49, 46, 49]⟩, .int .i64 (1 + G), .int .i64 0, .int .i64 0] 50)))
  have HX := Lib.hid (Box.new (w.alloc (.cells #[.string ⟨#[48, 49]⟩, .int .i64 (1 + F), .int .i64 0, .int .i64 0, .string ⟨#[48, 49, 46, 49]⟩, .int .i64 (1 + G), .int .i64 0, .int .i64 0] 50)) [.int .i64 0, .slice (some ⟨w.heap.size, 0, none⟩) 2 2, .slice none 0 0, .slice none 0 0, .slice none 0 0, .slice none 0 0] 28)
  go_wp2_with fail
  refine (rule_1 (1 + F) (1 + G) _ _ (HR.out.below HX.out.bl) (HE.out.below (chain0 HB0.out HX.out.bl))).mono ?_
  rintro e w1 ⟨rfl, hb1⟩
  have HX1 := Lib.hid (HX.out.step hb1)
  have HY := Lib.hid (Box.new w1 [.string ⟨#[48, 49, 46, 49]⟩, .int .i64 (1 + G), .int .i64 0, .int .i64 0] 50)
  have HX2 := Lib.hid (HX1.out.step HY.out.bl)
  have p0 : w1.cell? ⟨w.heap.size + 1, 0, none⟩ = some (.int .i64 0) := by have := HX1.out.c 0 _ rfl; simpa using this
  have p1 : w1.cell? ⟨w.heap.size + 1, 1, none⟩ = some (.slice (some ⟨w.heap.size, 0, none⟩) 2 2) := by have := HX1.out.c 1 _ rfl; simpa using this
  have p2 : w1.cell? ⟨w.heap.size + 1, 2, none⟩ = some (.slice none 0 0) := by have := HX1.out.c 2 _ rfl; simpa using this
  have p3 : w1.cell? ⟨w.heap.size + 1, 3, none⟩ = some (.slice none 0 0) := by have := HX1.out.c 3 _ rfl; simpa using this
  have p4 : w1.cell? ⟨w.heap.size + 1, 4, none⟩ = some (.slice none 0 0) := by have := HX1.out.c 4 _ rfl; simpa using this
  have p5 : w1.cell? ⟨w.heap.size + 1, 5, none⟩ = some (.slice none 0 0) := by have := HX1.out.c 5 _ rfl; simpa using this
  have hs1 : w.heap.size + 1 < w1.heap.size := by have := HX1.out.sz; simpa using this
  clear hb1
  go_wp2_with fail
  refine (rule_2 (1 + F) (1 + G) _ _ (HR.out.below HX2.out.bl) (HE.out.below (chain0 HB0.out HX2.out.bl))).mono ?_
  rintro e w2 ⟨rfl, hb2⟩
  have HX3 := Lib.hid (HX2.out.step hb2)
  have HY3 := Lib.hid (HY.out.step hb2)
  have HZ := Lib.hid (Box.new w2 [.string ⟨#[48, 49]⟩, .int .i64 (1 + F), .int .i64 0, .int .i64 0] 50)
  have HX4 := Lib.hid (HX3.out.step HZ.out.bl)
  have HY4 := Lib.hid (HY3.out.step HZ.out.bl)
  have q0 : w2.cell? ⟨w.heap.size + 1, 0, none⟩ = some (.int .i64 0) := by have := HX3.out.c 0 _ rfl; simpa using this
  have q1 : w2.cell? ⟨w.heap.size + 1, 1, none⟩ = some (.slice (some ⟨w.heap.size, 0, none⟩) 2 2) := by have := HX3.out.c 1 _ rfl; simpa using this
  have q2 : w2.cell? ⟨w.heap.size + 1, 2, none⟩ = some (.slice none 0 0) := by have := HX3.out.c 2 _ rfl; simpa using this
  have q3 : w2.cell? ⟨w.heap.size + 1, 3, none⟩ = some (.slice none 0 0) := by have := HX3.out.c 3 _ rfl; simpa using this
  have q4 : w2.cell? ⟨w.heap.size + 1, 4, none⟩ = some (.slice none 0 0) := by have := HX3.out.c 4 _ rfl; simpa using this
  have q5 : w2.cell? ⟨w.heap.size + 1, 5, none⟩ = some (.slice none 0 0) := by have := HX3.out.c 5 _ rfl; simpa using this
  have hs2 : w.heap.size + 1 < w2.heap.size := by have := HX3.out.sz; simpa using this
  clear hb2 p0 p1 p2 p3 p4 p5
  go_wp2_with fail
  refine (rule_3 (1 + F) (1 + G) _ _ (HR.out.below HX4.out.bl) (HE.out.below (chain0 HB0.out HX4.out.bl))).mono ?_
  rintro e w3 ⟨rfl, hb3⟩
  have HX5 := Lib.hid (HX4.out.step hb3)
  have HY5 := Lib.hid (HY4.out.step hb3)
  have HZ5 := Lib.hid (HZ.out.step hb3)
  have y1 : w3.cell? ⟨w1.heap.size, 1, none⟩ = some (.int .i64 (1 + G)) := HY5.out.c 1 _ rfl
  have z1 : w3.cell? ⟨w2.heap.size, 1, none⟩ = some (.int .i64 (1 + F)) := HZ5.out.c 1 _ rfl
  have hs3 := HY5.out.sz
  have hs4 := HZ5.out.sz
  have HB3 := Lib.hid (chain0 HB0.out HX5.out.bl)
  clear hb3 q0 q1 q2 q3 q4 q5
  go_wp2_with fail
  refine (awake_at _ (HE.out.below (HB3.out.alloc HB3.out.size _))).mono ?_
  rintro e w4 ⟨rfl, hb4⟩
  have HB4 := Lib.hid (chain0 (HB3.out.alloc HB3.out.size _) hb4)
  clear hb4
  go_wp2
  go_ret
  exact ⟨rfl, HB4.out⟩
end Go.Proofs.YtenjefbplpbjaaaGreatDoor
