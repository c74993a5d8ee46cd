/- The reference's arithmetic at numbers of one limb: FromUint, whole, Compare. -/
import Derived.Test.YtenjefbplpbjaaaGreatDoorR4
import Derived.BigQuiet
import Derived.Deep.QuietTactic
import Derived.Lib.VarintBits
namespace Go.Proofs.YtenjefbplpbjaaaGreatDoor
open Go.RowKit Go.Sort Cal Go.Maps
theorem and_mask (N : Nat) (h : N < 4294967296) : bits BinOp.and IntKind.u64 (N : Int) 4294967295 = (N : Int) := by
  have e := bits_mask .u64 64 (by decide) wraps_u64 32 (by decide) (N : Int) (by omega) (by omega)
  refine e.trans ?_
  show (N : Int) % 4294967296 = N
  omega
theorem or_zero (N : Nat) (h : N < 4294967296) : bits BinOp.or IntKind.u64 0 (N : Int) = (N : Int) := by
  have e := u64_orv0 0 (N : Int) (by omega) (by omega) (by omega) (by omega) (by omega)
  omega
set_option maxRecDepth 100000 in
set_option maxHeartbeats 1600000 in
theorem fromUint_at (N : Nat) (w : World) (hN : N < 4294967296) :
    Calls Tryz.prog 196 #[.int .u64 N] w (LimbPost N w) := by
  have h1 := and_mask N hN
  have h2 : (N : Int) % 4294967296 = N := by omega
  have h3 : (N : Int) / 4294967296 = 0 := by omega
  have HB := Lib.hid (Box.new w [.int .u32 N, .int .u32 0] 129)
  have HR : Hid (RawAt (w.alloc (.cells #[.int .u32 N, .int .u32 0] 129)) (.slice (some ⟨w.heap.size, 0, none⟩) 2 2) N) := Lib.hid (Or.inr (Or.inr ⟨_, _, rfl, by omega, HB.out.sz, HB.out.c 0 _ rfl, HB.out.c 1 _ rfl⟩))
  clear hN
  go_enter Tryz.func196, Tryz.ntmps196
  go_wp2_with fail
  refine (trim_raw _ N _ HR.out).mono ?_
  rintro e w1 ⟨v, rfl, hf, hb⟩
  have HF : Hid (LimbPost N w (.returned v) w1) := Lib.hid ⟨v, rfl, ⟨by
    obtain ⟨b, c, e, hc, hbs, k⟩ := hf.form
    exact ⟨b, c, e, hc, by have := HB.out.sz; simp at hbs; omega, k⟩⟩, chain0 HB.out.bl hb⟩
  clear hf hb h1 h2 h3
  go_wp2_with fail
  go_ret
  exact HF.out
set_option maxHeartbeats 1600000 in
theorem whole_at (N : Nat) (w : World) (hN : N < 4294967296) :
    Calls Tryz.prog 164 #[.int .i64 N] w (LimbPost N w) := by
  go_enter Tryz.func164, Tryz.ntmps164
  go_wp2_with fail
  refine (fromUint_at N _ hN).mono ?_
  rintro e w1 ⟨v, rfl, hf, hb⟩
  have HF : Hid (LimbPost N w (.returned v) w1) := Lib.hid ⟨v, rfl, hf, hb⟩
  clear hf hb
  go_wp2_with fail
  go_ret
  exact HF.out
end Go.Proofs.YtenjefbplpbjaaaGreatDoor
