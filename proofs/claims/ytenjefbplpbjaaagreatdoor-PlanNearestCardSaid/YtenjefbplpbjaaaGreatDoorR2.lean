/- The contract of the program's RuleOf at any list of rules. -/
import Derived.Test.YtenjefbplpbjaaaGreatDoorR1
import Derived.Lib.QuietBelow
import Derived.BigQuiet
namespace Go.Proofs.YtenjefbplpbjaaaGreatDoor
open Go.RowKit Go.Sort Cal Go.Maps
def RulePost (code : ByteArray) (RS : List RuleR) (w : World) (e : Ending) (w' : World) : Prop :=
  e = .returned (.tuple #[.agg (ruleL (accV code RS RS.length).o).toArray, .bool (accV code RS RS.length).f]) ∧ Below w.heap.size w w'
set_option maxRecDepth 100000 in
set_option maxHeartbeats 3200000 in
theorem ruleOf_any (d v2 v3 v4 v5 : Value) (sv : Value) (RS : List RuleR) (code : ByteArray) (w : World) (hn : RS.length ≤ 1000) (hcs : code.size ≤ 2000000) (hR : RulesAt w sv RS) (hrs : ∀ r ∈ RS, r.c.size ≤ 2000000) (hE : Env w) :
    Calls Tryz.prog 13 #[.agg #[d, sv, v2, v3, v4, v5], .string code] w (RulePost code RS w) := by
  have HE := Lib.hid hE
  have HS := Lib.hid hrs
  obtain ⟨q, n, c, rfl, hl, hcells⟩ := hR.form
  have HC := Lib.hid hcells
  have HL := Lib.hid hl
  have HO := Lib.hid (Out.new w [d, .slice q n c, v2, v3, v4, v5])
  have hn1 : n ≤ 1000 := by omega
  clear hE hrs hR hcells hl hn
  go_enter Tryz.func13, Tryz.ntmps13
  go_wp2_with fail
  go_loopw [7, 8, 15] (fun f l i wr => ∃ k : Nat, k ≤ n ∧ i = .int .i64 k ∧ f = .bool (accV code RS k).f ∧ l = .int .i64 (accV code RS k).l ∧ Out w.heap.size w (accV code RS k).o wr) (fun _ _ i _ => n - (intOf i).toNat)
  case atStart => exact ⟨0, by omega, rfl, rfl, rfl, HO.out⟩
  case round =>
    obtain ⟨k, hk, rfl, rfl, rfl, hO⟩ := hrel
    have HR := Lib.hid hO
    obtain ⟨A, hA⟩ : ∃ A, A = accV code RS k := ⟨_, rfl⟩
    rw [← hA]
    have HA := Lib.hid hA
    have hkk := hO.k
    rw [← hA] at hkk
    have o0 : wr.cell? ⟨w.heap.size + 1 + 1, 0, none⟩ = some (.string A.o.c) := cell_blk hkk 0 _ rfl
    have o1 : wr.cell? ⟨w.heap.size + 1 + 1, 1, none⟩ = some (.int .i64 A.o.m) := cell_blk hkk 1 _ rfl
    have o2 : wr.cell? ⟨w.heap.size + 1 + 1, 2, none⟩ = some (.int .i64 A.o.n) := cell_blk hkk 2 _ rfl
    have o3 : wr.cell? ⟨w.heap.size + 1 + 1, 3, none⟩ = some (.int .i64 A.o.s) := cell_blk hkk 3 _ rfl
    have hsz := hO.lt
    by_cases hlt : k < n
    · clear o0 o1 o2 o3
      obtain ⟨r, hr⟩ : ∃ r, RS[k]? = some r := ⟨_, List.getElem?_eq_getElem (by rw [HL.out]; exact hlt)⟩
      have HRR := Lib.hid hr
      obtain ⟨b, rfl, hb, c0, c1, c2, c3⟩ := HC.out k r hr
      have hbw := hO.bl
      have e0 := (hbw.cell (p := ⟨b, k * 4, none⟩) hb).trans c0
      have e1 := (hbw.cell (p := ⟨b, k * 4 + 1, none⟩) hb).trans c1
      have e2 := (hbw.cell (p := ⟨b, k * 4 + 2, none⟩) hb).trans c2
      have e3 := (hbw.cell (p := ⟨b, k * 4 + 3, none⟩) hb).trans c3
      have hrc : r.c.size ≤ 2000000 := HS.out r (List.mem_of_getElem? hr)
      have hor := Lib.hid hO
      obtain ⟨L, hL⟩ : ∃ L, L = levelV r.c := ⟨_, rfl⟩
      have HLV := Lib.hid hL
      have HX := Lib.hid (Box.new wr [.string r.c, .int .i64 r.m, .int .i64 r.n, .int .i64 r.s] 50)
      clear hO hkk hA hbw c0 c1 c2 c3 hr hL
      go_wp2_with fail
      refine (level_any r.c _ hrc (HE.out.below (chain0 HR.out.bl HX.out.bl))).mono ?_
      rintro e w1 ⟨rfl, hb1⟩
      rw [← HLV.out]
      have HX1 := Lib.hid (HX.out.step hb1)
      have x0 : w1.cell? ⟨wr.heap.size, 0, none⟩ = some (.string r.c) := HX1.out.c 0 _ rfl
      have HB1 := Lib.hid (chain0 HR.out.bl HX1.out.bl)
      clear hb1 e0 e1 e2 e3 HX
      by_cases hd : A.l < L
      · have hd1 : decide (A.l < L) = true := by simpa using hd
        have HD := Lib.hid hd
        clear hd
        cases hw : withinB code r.c with
        | false =>
          have HW := Lib.hid hw
          clear hw
          go_wp2_with fail
          refine (within_any code r.c _ hcs hrc (HE.out.below HB1.out)).mono ?_
          rintro e w2 ⟨rfl, hb2⟩
          rw [HW.out]
          have HN : Hid (Out w.heap.size w (accV code RS (k + 1)).o w2 ∧ accV code RS (k + 1) = A) := Lib.hid (by
            have e := accV_no2 code RS k r HRR.out HW.out
            rw [e]
            exact ⟨(HR.out.step HX1.out.bl).step hb2, HA.out.symm⟩)
          clear hb2
          go_wp2_with fail
          go_roundw
          case rel => exact ⟨k + 1, by omega, by go_num, by rw [HN.out.2], by rw [HN.out.2], HN.out.1⟩
          case measure => simp [intOf]; omega
        | true =>
          have HW := Lib.hid hw
          clear hw
          go_wp2_with fail
          refine (within_any code r.c _ hcs hrc (HE.out.below HB1.out)).mono ?_
          rintro e w2 ⟨rfl, hb2⟩
          rw [HW.out]
          have HX2 := Lib.hid (HX1.out.step hb2)
          have HO2 := Lib.hid ((HR.out.step HX1.out.bl).step hb2)
          have e0 : w2.cell? ⟨wr.heap.size, 0, none⟩ = some (.string r.c) := HX2.out.c 0 _ rfl
          have e1 : w2.cell? ⟨wr.heap.size, 1, none⟩ = some (.int .i64 r.m) := HX2.out.c 1 _ rfl
          have e2 : w2.cell? ⟨wr.heap.size, 2, none⟩ = some (.int .i64 r.n) := HX2.out.c 2 _ rfl
          have e3 : w2.cell? ⟨wr.heap.size, 3, none⟩ = some (.int .i64 r.s) := HX2.out.c 3 _ rfl
          have hsz2 := HO2.out.lt
          have o0 : w2.cell? ⟨w.heap.size + 1 + 1, 0, none⟩ = some (.string (accV code RS k).o.c) := cell_blk HO2.out.k 0 _ rfl
          have o1 : w2.cell? ⟨w.heap.size + 1 + 1, 1, none⟩ = some (.int .i64 (accV code RS k).o.m) := cell_blk HO2.out.k 1 _ rfl
          have o2 : w2.cell? ⟨w.heap.size + 1 + 1, 2, none⟩ = some (.int .i64 (accV code RS k).o.n) := cell_blk HO2.out.k 2 _ rfl
          have o3 : w2.cell? ⟨w.heap.size + 1 + 1, 3, none⟩ = some (.int .i64 (accV code RS k).o.s) := cell_blk HO2.out.k 3 _ rfl
          have y0 : w2.frozen? ⟨w.heap.size + 1 + 1, 0, none⟩ = false := free_blk HO2.out.k 0
          have y1 : w2.frozen? ⟨w.heap.size + 1 + 1, 1, none⟩ = false := free_blk HO2.out.k 1
          have y2 : w2.frozen? ⟨w.heap.size + 1 + 1, 2, none⟩ = false := free_blk HO2.out.k 2
          have y3 : w2.frozen? ⟨w.heap.size + 1 + 1, 3, none⟩ = false := free_blk HO2.out.k 3
          have HN : Hid (accV code RS (k + 1) = ⟨r, true, L⟩) := Lib.hid (by
            rw [HLV.out]
            exact accV_yes code RS k r HRR.out (by rw [← HA.out, ← HLV.out]; exact HD.out) HW.out)
          clear hb2
          go_wp2_with fail
          obtain ⟨wf, hwf⟩ : ∃ wf, wf = (((w2.setCell ⟨w.heap.size + 1 + 1, 0, none⟩ (.string r.c)).setCell ⟨w.heap.size + 1 + 1, 1, none⟩ (.int .i64 r.m)).setCell ⟨w.heap.size + 1 + 1, 2, none⟩ (.int .i64 r.n)).setCell ⟨w.heap.size + 1 + 1, 3, none⟩ (.int .i64 r.s) := ⟨_, rfl⟩
          rw [← hwf]
          have HF := Lib.hid (HO2.out.store r wf hwf)
          clear hwf
          go_roundw
          case rel => exact ⟨k + 1, by omega, by go_num, by rw [HN.out], by rw [HN.out], by rw [HN.out]; exact HF.out⟩
          case measure => simp [intOf]; omega
      · have hd1 : decide (A.l < L) = false := by simpa using hd
        have HN : Hid (Out w.heap.size w (accV code RS (k + 1)).o w1 ∧ accV code RS (k + 1) = A) := Lib.hid (by
          have e := accV_no1 code RS k r HRR.out (by rw [← HA.out, ← HLV.out]; exact hd)
          rw [e]
          exact ⟨HR.out.step HX1.out.bl, HA.out.symm⟩)
        clear hd
        go_wp2_with fail
        go_roundw
        case rel => exact ⟨k + 1, by omega, by go_num, by rw [HN.out.2], by rw [HN.out.2], HN.out.1⟩
        case measure => simp [intOf]; omega
    · have hkn : k = n := by omega
      subst hkn
      have HN : Hid (accV code RS RS.length = A) := Lib.hid (by rw [HL.out, HA.out])
      clear hkk hA
      have z0 : wr.cell? ⟨w.heap.size + 1, 0, none⟩ = some (.string ⟨#[]⟩) := cell_blk HR.out.z 0 _ rfl
      have z1 : wr.cell? ⟨w.heap.size + 1, 1, none⟩ = some (.int .i64 0) := cell_blk HR.out.z 1 _ rfl
      have z2 : wr.cell? ⟨w.heap.size + 1, 2, none⟩ = some (.int .i64 0) := cell_blk HR.out.z 2 _ rfl
      have z3 : wr.cell? ⟨w.heap.size + 1, 3, none⟩ = some (.int .i64 0) := cell_blk HR.out.z 3 _ rfl
      have y0 : wr.frozen? ⟨w.heap.size + 1, 0, none⟩ = false := free_blk HR.out.z 0
      have y1 : wr.frozen? ⟨w.heap.size + 1, 1, none⟩ = false := free_blk HR.out.z 1
      have y2 : wr.frozen? ⟨w.heap.size + 1, 2, none⟩ = false := free_blk HR.out.z 2
      have y3 : wr.frozen? ⟨w.heap.size + 1, 3, none⟩ = false := free_blk HR.out.z 3
      have hO' : Out w.heap.size w A.o wr := by rw [HA.out]; exact HR.out
      have HO' := Lib.hid hO'
      clear hO'
      go_wp2
      obtain ⟨wf, hwf⟩ : ∃ wf, wf = (((wr.setCell ⟨w.heap.size + 1, 0, none⟩ (.string A.o.c)).setCell ⟨w.heap.size + 1, 1, none⟩ (.int .i64 A.o.m)).setCell ⟨w.heap.size + 1, 2, none⟩ (.int .i64 A.o.n)).setCell ⟨w.heap.size + 1, 3, none⟩ (.int .i64 A.o.s) := ⟨_, rfl⟩
      rw [← hwf]
      obtain ⟨hfin, hbf⟩ := HO'.out.fin wf hwf
      have a0 : wf.cell? ⟨w.heap.size + 1, 0, none⟩ = some (.string A.o.c) := cell_blk hfin 0 _ rfl
      have a1 : wf.cell? ⟨w.heap.size + 1, 1, none⟩ = some (.int .i64 A.o.m) := cell_blk hfin 1 _ rfl
      have a2 : wf.cell? ⟨w.heap.size + 1, 2, none⟩ = some (.int .i64 A.o.n) := cell_blk hfin 2 _ rfl
      have a3 : wf.cell? ⟨w.heap.size + 1, 3, none⟩ = some (.int .i64 A.o.s) := cell_blk hfin 3 _ rfl
      have HPG : Hid (RulePost code RS w (.returned (.tuple #[.agg #[.string A.o.c, .int .i64 A.o.m, .int .i64 A.o.n, .int .i64 A.o.s], .bool A.f])) wf) := Lib.hid (by
        unfold RulePost
        rw [HN.out]
        exact ⟨rfl, hbf⟩)
      clear hwf hfin hbf
      exact bodyPost_ret (v := .tuple #[.agg #[.string A.o.c, .int .i64 A.o.m, .int .i64 A.o.n, .int .i64 A.o.s], .bool A.f]) (by simp [results, Tryz.results13, go_sem, a0, a1, a2, a3]) rfl HPG.out
end Go.Proofs.YtenjefbplpbjaaaGreatDoor
