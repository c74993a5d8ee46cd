/- Contracts of FormatDate and of the library's Atoi and SplitN: any date, any short string. -/
import Derived.Test.YtpknkomkldgnfaaDoorF2
import Derived.Test.YtpknkomkldgnfaaDoorL2
import Derived.Test.YtpknkomkldgnfaaDoorTy
import Derived.Test.YtpknkomkldgnfaaDoorShelfT
import Derived.Lib.AtoiErrMem
namespace Go.Proofs.YtpknkomkldgnfaaDoor
open Go.RowKit Go.Sort Cal
theorem gSyn : Tryd.prog.globalNamed "strconv.ErrSyntax" = some 0 := by kernel_rfl
theorem gRan : Tryd.prog.globalNamed "strconv.ErrRange" = some 1 := by kernel_rfl
/-- What the library's functions read: the table, two sentinels, one number. -/
structure Env (w : World) : Prop where
  tab : Tab w
  len : ∃ m, w.cell? ⟨2, 0, none⟩ = some (.int .i64 m)
  es : ∃ tp p, w.var? Tryd.prog "strconv.ErrSyntax" = some #[.iface tp p]
  er : ∃ tp p, w.var? Tryd.prog "strconv.ErrRange" = some #[.iface tp p]
theorem Env.below {w w' : World} (h : Env w) (hb : Below w.heap.size w w') : Env w' := by
  obtain ⟨m, hm⟩ := h.len
  obtain ⟨tp, p, hs⟩ := h.es
  obtain ⟨tq, q, hr⟩ := h.er
  have z0 := World.block_lt_of_cell? w _ hm
  have z1 := World.block_lt_of_cell? w _ (by simpa using World.var?_cell gSyn hs 0 : w.cell? ⟨0, 0, none⟩ = some (.iface tp p))
  have z2 := World.block_lt_of_cell? w _ (by simpa using World.var?_cell gRan hr 0 : w.cell? ⟨1, 0, none⟩ = some (.iface tq q))
  exact ⟨h.tab.below hb, ⟨m, (hb.cell (p := ⟨2, 0, none⟩) z0).trans hm⟩, ⟨tp, p, var?_below hb gSyn z1 hs⟩, ⟨tq, q, var?_below hb gRan z2 hr⟩⟩
def AtoiPost (s : ByteArray) (w : World) (e : Ending) (w' : World) : Prop := ∃ ev : Value, e = .returned (.tuple #[.int .i64 (atoiV s.data.toList), ev]) ∧ Below w.heap.size w w'
theorem atoi_any (s : ByteArray) (w : World) (hs : s.size ≤ 1000) (hE : Env w) : Calls Tryd.prog 58 #[.string s] w (AtoiPost s w) := by
  cases h : Lib.atoiAll s.data.toList
  · rename_i v
    have e : atoiV s.data.toList = v := by unfold atoiV; rw [h]
    refine (Any.strconv_Atoi_ok Tryd.laysC172 s (by omega) _ h w).mono fun _ _ ⟨he, hw⟩ => ⟨_, by rw [e]; exact he, ?_⟩
    rcases hw with rfl | ⟨t, rfl⟩
    · exact Below.refl _ _
    · exact Lib.bytesWorld_below _ _ _
  · have e : atoiV s.data.toList = 0 := by unfold atoiV; rw [h]
    obtain ⟨tp, p, hv⟩ := hE.es
    exact (Any.strconv_Atoi_syntax_var Tryd.laysC172 s (by omega) h tp p w hv).mono fun _ _ ⟨N, he, _, _, hb⟩ => ⟨_, by rw [e]; exact he, hb⟩
  · have e : atoiV s.data.toList = Lib.atoiSat s.data.toList := by unfold atoiV; rw [h]
    obtain ⟨tp, p, hv⟩ := hE.er
    exact (Any.strconv_Atoi_range_var Tryd.laysC172 s (by omega) h tp p w hv).mono fun _ _ ⟨N, he, _, _, hb⟩ => ⟨_, by rw [e]; exact he, hb⟩
theorem chain0 {a b c : World} (h1 : Below a.heap.size a b) (h2 : Below b.heap.size b c) : Below a.heap.size a c := h1.trans (h2.mono h1.size)
theorem wordB_data (n : Int) : (wordB n).data.toList = wordL n := by
  unfold wordB wordL
  split
  · have e : ((⟨#[48]⟩ : ByteArray) ++ ⟨(Lib.itoa n).toArray⟩).data = #[48] ++ (Lib.itoa n).toArray := by simp
    rw [e]; simp
  · simp
theorem joinB_text (y m d : Int) (h : vd y m d = true) : joinB [y, m, d] = textB y m d := by
  obtain ⟨a, b, c, e, f, g⟩ := (vd_iff _ _ _).1 h
  have lb := len_bd y m
  unfold textB
  rw [if_pos h]
  obtain ⟨y', rfl⟩ := Int.eq_ofNat_of_zero_le (show 0 ≤ y by omega)
  obtain ⟨m', rfl⟩ := Int.eq_ofNat_of_zero_le (show 0 ≤ m by omega)
  obtain ⟨d', rfl⟩ := Int.eq_ofNat_of_zero_le (show 0 ≤ d by omega)
  apply bs_ext
  rw [bs_data]
  show ((Lib.join (([(y' : Int), (m' : Int), (d' : Int)].map wordB).map (·.data.toList)) [45]).toArray).toList = _
  simp only [List.map_cons, List.map_nil, wordB_data]
  rw [wordL_four y' (by omega) (by omega), wordL_two m' (by omega), wordL_two d' (by omega), Lib.join_cons]
  simp [Lib.joinTail, dateL]
theorem formatDate_any (y m d : Int) (w : World) (hT : Tab w) : Calls Tryd.prog 39 #[.agg #[.int .i64 y, .int .i64 m, .int .i64 d]] w fun e w' => e = .returned (.string (textB y m d)) ∧ Below w.heap.size w w' := by
  have HT := Lib.hid hT
  clear hT
  by_cases hv : vd y m d = true
  · have HJ := Lib.hid (joinB_text y m d hv)
    obtain ⟨a, b, c, e, f, g⟩ := (vd_iff _ _ _).1 hv
    have lb := len_bd y m
    have hd31 : d ≤ 31 := by omega
    clear g
    go_enter Tryd.func39, Tryd.ntmps39
    go_wp2_with (first
      | (go_at_call 14; refine (valid_any y m d _).mono ?_; rintro e w1 ⟨rfl, hb⟩; have hB := (Box3.new w y m d _).step hb; obtain ⟨c0, c1, c2, cz, cl, cb⟩ := hB)
      | (go_at_call 55; refine (joined3 y m d w1 _ (by omega) (by omega) (by omega) (HT.out.below cb)).mono ?_; rintro e w2 ⟨rfl, hb2⟩; rw [HJ.out])
      | fail)
    go_ret
    exact ⟨rfl, chain0 cb hb2⟩
  · have hv' : vd y m d = false := by simpa using hv
    have HJ : Hid (textB y m d = ⟨#[]⟩) := Lib.hid (by unfold textB; rw [if_neg hv])
    clear hv
    go_enter Tryd.func39, Tryd.ntmps39
    go_wp2_with (first
      | (go_at_call 14; refine (valid_any y m d _).mono ?_; rintro e w1 ⟨rfl, hb⟩; have hB := ((Box3.new w y m d _).step hb).bl)
      | fail)
    go_ret
    exact ⟨by rw [HJ.out]; rfl, hB⟩
end Go.Proofs.YtpknkomkldgnfaaDoor
