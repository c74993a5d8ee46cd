/- Contract of slices.Backward over strings: the values come last first. -/
import Derived.Test.YtnmcmnllmnpjkaaDoorG8
import Derived.RangeFuncNested
import Derived.RangeFuncBound
import Derived.RangeFuncCalls
import Derived.RangeFuncLeaves
import Derived.Shelf.Abstract
import Derived.Shelf.RegionOpen
import Derived.OwnWalkIn
import Derived.TacticsInMore
import Derived.LoopNIn
import Derived.LoopIn
namespace Go.Proofs.YtnmcmnllmnpjkaaDoor
open Go.RowKit Go.Shelf Go.Sort Cal Go.Maps
attribute [local go_sem] Oper.semAt_some
/-- A short string. -/
abbrev ShortB := { s : ByteArray // s.size ≤ 1000 }
def short0 : ShortB := ⟨ByteArray.empty, by decide⟩
theorem short_list : ∀ ss : List ByteArray, (∀ x ∈ ss, x.size ≤ 1000) → ∃ zs : List ShortB, zs.map Subtype.val = ss
  | [], _ => ⟨[], rfl⟩
  | s :: ss, h => by
    obtain ⟨zs, e⟩ := short_list ss (fun x hx => h x (by simp [hx]))
    exact ⟨⟨s, h s (by simp)⟩ :: zs, by simp [e]⟩
theorem short_at (zs : List ShortB) (j : Nat) : (zs.map Subtype.val).getD j ByteArray.empty = (zs.getD j short0).1 := by
  by_cases h : j < zs.length
  · simp [List.getD, h]
  · simp [List.getD, List.getElem?_eq_none (show zs.length ≤ j by omega), short0]
/-- What has come when k rounds are over. -/
def downL (zs : List ShortB) (k : Nat) : List (Nat × ShortB) := (List.range k).map fun j => (zs.length - 1 - j, zs.getD (zs.length - 1 - j) short0)
theorem downL_succ (zs : List ShortB) (k : Nat) : downL zs (k + 1) = downL zs k ++ [(zs.length - 1 - k, zs.getD (zs.length - 1 - k) short0)] := by simp [downL, List.range_succ]
theorem downL_len (zs : List ShortB) (k : Nat) : (downL zs k).length = k := by simp [downL]
theorem downL_snd (zs : List ShortB) (k : Nat) (h : k ≤ zs.length) : (downL zs k).map Prod.snd = zs.reverse.take k := by
  apply List.ext_getElem
  · simp [downL]; omega
  · intro i h1 h2
    have hi : i < k := by simpa [downL] using h1
    simp [downL, List.getD, List.getElem?_eq_getElem (show zs.length - 1 - i < zs.length by omega)]
set_option maxRecDepth 100000 in
set_option maxHeartbeats 2000000 in
theorem back1_in (F : Fence) (n : Nat) (h : F.fn 79) (hro : F.round = none) (hn : 1 ≤ n) (l Bs n₀ b off cap : Nat) (zs : List ShortB) (hreach : zs.length ≤ 1000000) (hb : b < n₀) (J Jx : List (Nat × ShortB) → World → Prop)
    (hY : ∀ pre x W, J pre W → pre.length < zs.length → YieldAt F (n - 1) Tryd.prog l #[.int .i64 (x.1 : Int), .string x.2.1] W fun e W' =>
      (e = .returned (.bool true) ∧ J (pre ++ [x]) W' ∧ Below n₀ W W') ∨ (e = .returned (.bool false) ∧ Jx (pre ++ [x]) W'))
    (W : World) (hBs : W.cell? ⟨Bs, 0, none⟩ = some (.slice (some ⟨b, off, none⟩) zs.length cap)) (hBs0 : Bs < n₀) (hc : ∀ j, j < zs.length → W.cell? ⟨b, off + j, none⟩ = some (.string (zs.getD j short0).1)) (h0 : J [] W) :
    CallsIn F n Tryd.prog 79 #[.func (.yield l) #[] #[], .pointer (some ⟨Bs, 0, none⟩)] W fun e W' => (∃ v, e = .returned v) ∧
      ((∃ ys, ys = downL zs zs.length ∧ J ys W') ∨ (∃ pre, (∃ k, k ≤ zs.length ∧ pre = downL zs k) ∧ Jx pre W')) := by
  have HC := Lib.hid hc
  clear hc
  refine callsIn_of_wp Tryd.func79 rfl h ?_ hro
  simp only [Tryd.ntmps79, List.size_toArray, List.length_cons, List.length_nil, Nat.reduceAdd, Nat.reduceSub, Array.replicate_succ, Array.replicate_zero, List.push_toArray, List.append_toArray, List.nil_append, List.cons_append]
  gi_wp2
  gi_loopw [3] (fun i wr => ∃ (k : Nat) (z : Int), k ≤ zs.length ∧ z = (zs.length : Int) - 1 - (k : Int) ∧ i = .int .i64 z ∧ J (downL zs k) wr ∧ Below n₀ W wr)
    (fun i _ => (intOf i + 1).toNat)
  case atStart => exact ⟨0, _, Nat.zero_le _, by omega, rfl, h0, Below.refl _ _⟩
  case round =>
    obtain ⟨k, z, hk, hz, rfl, hJs, hnx⟩ := hrel
    have HZ := Lib.hid hz
    clear hz
    have hBr := (hnx.cell (p := ⟨Bs, 0, none⟩) hBs0).trans hBs
    by_cases hlt : k < zs.length
    · obtain ⟨m, rfl⟩ := Int.eq_ofNat_of_zero_le (show 0 ≤ z by have := HZ.out; omega)
      have hm : m + k + 1 = zs.length := by have := HZ.out; omega
      have HD : Hid (downL zs (k + 1) = downL zs k ++ [(m, zs.getD m short0)]) := Lib.hid (by rw [downL_succ, show zs.length - 1 - k = m by omega])
      have hcx := (hnx.cell (p := ⟨b, off + m, none⟩) hb).trans (HC.out m (by omega))
      obtain ⟨s, hs⟩ : ∃ s, s = zs.getD m short0 := ⟨_, rfl⟩
      rw [← hs] at HD hcx
      have hm1 : m < zs.length := by omega
      have hm2 : m ≤ 1000000 := by omega
      clear hs
      obtain ⟨fn, tmps, assign, body, hy, hR⟩ := hY _ (m, s) wr hJs (by rw [downL_len]; exact hlt)
      dsimp only at hy
      gi_wp2
      refine hR.mono ?_
      rintro e W3 (⟨rfl, hJ3, hk3⟩ | ⟨rfl, hJx3⟩)
      · gi_wp2
        go_roundw
        case rel => exact ⟨k + 1, _, by omega, by have := HZ.out; omega, rfl, by rw [HD.out]; exact hJ3, hnx.trans hk3⟩
        case measure => simp [intOf]
      · gi_wp2
        refine bodyPost_ret (results_none rfl _ _ _) rfl ?_
        exact ⟨⟨_, rfl⟩, .inr ⟨_, ⟨k + 1, by omega, HD.out.symm⟩, hJx3⟩⟩
    · obtain rfl : k = zs.length := by omega
      have hz1 : z = -1 := by have := HZ.out; omega
      subst hz1
      gi_wp2
      go_end0
      exact ⟨⟨_, rfl⟩, .inl ⟨_, rfl, hJs⟩⟩
set_option maxRecDepth 100000 in
set_option maxHeartbeats 1000000 in
/-- At an empty slice: no round. -/
theorem back1_nil_in (F : Fence) (n : Nat) (h : F.fn 79) (hro : F.round = none) (l Bs : Nat) (p : Option Addr) (cap : Nat) (J : List (Nat × ShortB) → World → Prop) (W : World) (hBs : W.cell? ⟨Bs, 0, none⟩ = some (.slice p 0 cap)) (h0 : J [] W) :
    CallsIn F n Tryd.prog 79 #[.func (.yield l) #[] #[], .pointer (some ⟨Bs, 0, none⟩)] W fun e W' => (∃ v, e = .returned v) ∧ J [] W' := by
  refine callsIn_of_wp Tryd.func79 rfl h ?_ hro
  simp only [Tryd.ntmps79, List.size_toArray, List.length_cons, List.length_nil, Nat.reduceAdd, Nat.reduceSub, Array.replicate_succ, Array.replicate_zero, List.push_toArray, List.append_toArray, List.nil_append, List.cons_append]
  gi_wp2
  gi_loopw [3] (fun i wr => i = .int .i64 (-1) ∧ J [] wr) (fun _ _ => 0)
  case atStart => exact ⟨rfl, h0⟩
  case round =>
    obtain ⟨rfl, hJs⟩ := hrel
    gi_wp2
    go_end0
    exact ⟨⟨_, rfl⟩, hJs⟩
set_option maxHeartbeats 1000000 in
theorem back_in (F : Fence) (n : Nat) (h : F.fn 63) (hro : F.round = none) (a : Option Addr) (len cap : Nat) (w : World) :
    CallsIn F n Tryd.prog 63 #[.slice a len cap] w fun e w' => e = .returned (.func (.func 79) #[] #[.pointer (some ⟨w.heap.size, 0, none⟩)]) ∧ w' = w.alloc (.cells #[.slice a len cap] 27) := by
  refine callsIn_of_wp Tryd.func63 rfl h ?_ hro
  simp only [Tryd.ntmps63, List.size_toArray, List.length_cons, List.length_nil, Nat.reduceAdd, Nat.reduceSub, Array.replicate_succ, Array.replicate_zero, List.push_toArray, List.append_toArray, List.nil_append, List.cons_append]
  gi_wp2
  go_ret
  exact ⟨rfl, rfl⟩
/-- The strings lie below n₀. -/
def StrsUnder (n₀ : Nat) (w : World) (sv : Value) (ss : List ByteArray) : Prop :=
  (ss = [] ∧ ∃ p c, sv = .slice p 0 c) ∨ ∃ b off cap, sv = .slice (some ⟨b, off, none⟩) ss.length cap ∧ b < n₀ ∧ ∀ j, j < ss.length → w.cell? ⟨b, off + j, none⟩ = some (.string (ss.getD j ByteArray.empty))
theorem StrsUnder.of {w : World} {sv : Value} {ss : List ByteArray} (h : StrsAt w sv ss) : StrsUnder w.heap.size w sv ss := by
  rcases h with h | ⟨h0, b, off, cap, e, _, hlt, hc⟩
  · exact Or.inl h
  · exact Or.inr ⟨b, off, cap, e, hlt, hc⟩
theorem StrsUnder.below {n₀ : Nat} {A B : World} (h : Below n₀ A B) {sv : Value} {zs : List ByteArray} : StrsUnder n₀ A sv zs → StrsUnder n₀ B sv zs
  | .inl e => .inl e
  | .inr ⟨b, off, cap, e, hb, hc⟩ => .inr ⟨b, off, cap, e, hb, fun j hj => (h.cell (p := ⟨b, off + j, none⟩) hb).trans (hc j hj)⟩
theorem back_stops (F : Fence) (n : Nat) (h : F.fn 79) (hro : F.round = none) (hn : 1 ≤ n) (Bs n₀ : Nat) (sv : Value) (zs : List ShortB) (hreach : zs.length ≤ 1000000) (w : World) (hBs : Bs < n₀) (hn₀ : n₀ ≤ w.heap.size)
    (hc : w.cell? ⟨Bs, 0, none⟩ = some sv) (hI : StrsUnder n₀ w sv (zs.map Subtype.val)) :
    SeqStopsK F n Tryd.prog 79 #[.pointer (some ⟨Bs, 0, none⟩)] (fun x : Nat × ShortB => #[Value.int .i64 (x.1 : Int), Value.string x.2.1]) (Below n₀) (fun ys => ys = downL zs zs.length)
      (fun pre => ∃ k, k ≤ zs.length ∧ pre = downL zs k) zs.length w := fun l J Jx W hW _ _ hY h0 => by
  have hc' := (hW.cell (p := ⟨Bs, 0, none⟩) (Nat.lt_of_lt_of_le hBs hn₀)).trans hc
  rcases hI.below (hW.mono hn₀) with ⟨e0, p, cp, rfl⟩ | ⟨b, off, cap, rfl, hb, hcs⟩
  · obtain rfl : zs = [] := List.map_eq_nil_iff.1 e0
    exact (back1_nil_in F n h hro l Bs p cp J W hc' h0).mono fun e W' ⟨he, hj⟩ => ⟨he, .inl ⟨_, rfl, hj⟩⟩
  · rw [List.length_map] at hc' hcs
    exact back1_in F n h hro hn l Bs n₀ b off cap zs hreach hb J Jx hY W hc' hBs (fun j hj => by rw [← short_at]; exact hcs j hj) h0
end Go.Proofs.YtnmcmnllmnpjkaaDoor
