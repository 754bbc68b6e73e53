import Derived.Test.YtbnhfcdagoigkaaDoorRows
import Derived.Test.YtbnhfcdagoigkaaDoorCards
import Derived.Test.YtbnhfcdagoigkaaDoorTie
import Derived.SevenTiedAt
import Derived.Handy
import Derived.LaidMore
import Derived.Lay
import Derived.Test.YtbnhfcdagoigkaaDoorPkRecordTurned5
/- For every input the law RecordTurned returns true, and each argument reads behind the call as it read before. No condition. -/
namespace Go.Proofs.YtbnhfcdagoigkaaDoor.recordTurned
open Go.ChangeShapes Go.WideShapes Go.ChangeAt Go.RowKit Go.Hw
open Go.ChangeMaps (open_string shut_string)
set_option linter.unusedVariables false
set_option linter.unusedSimpArgs false
theorem own : ownKnob Tryd.prog.godebug = none := by kernel_rfl
set_option maxRecDepth 100000 in
theorem lifted (os : Os) (started : os.Started) (H : Type) (enc : TypeId × Value → H) :
    ReturnsInHanded {} Tryd.checked os 4 .any (fun w args => (Rows.recordTurnedSpec.pre enc Tryd.prog Tryd.f4 [] false w args ∧ laidMetH Tryd.prog Rows.recordTurnedRow.laid w) ∧ sizedMet enc Tryd.prog Tryd.f4 (OpenSpec.ofChange Rows.recordTurnedSpec) false w args) (Rows.recordTurnedSpec.post enc Tryd.prog Tryd.f4 false true false false) := by
  refine returnsInHanded_of_change_and (C := Tryd.checked) (X := (fun w _ => laidMetH Tryd.prog Rows.recordTurnedRow.laid w)) (fun _ _ _ hh h => h.of_heap hh) own started (by kernel_rfl) Tryd.func4
    (ChangeSpec.witness_shaped (enc := enc) (C := Tryd.checked) (os := os) (X := (fun w _ => laidMetH Tryd.prog Rows.recordTurnedRow.laid w)) false (World.laidAll Tryd.prog os Rows.recordTurnedRow.laid) #[.agg #[.int .u64 0, .int .i64 0, .int .i64 0, .int .i64 0, .int .i64 0, .int .u32 0, .int .u32 0, .int .u32 0], .int .u8 0, .int .u16 0, .int .u8 0] 8 (World.laidAll_os _ _ _)
      (World.shaped_of_ZipB (by kernel_rfl) (by kernel_rfl)) (by kernel_rfl) (by kernel_rfl) (by kernel_rfl)
      (by rw [MakeChecks.laidMetH_plain _ _ _ (by kernel_rfl)]; exact laidMet_laidAll _ (by kernel_rfl) (by kernel_rfl))) ?_
  intro W base args ds gs before hval0 hW hcnd hsz0 hL0 _
  have hL : laidMet Tryd.prog Rows.recordTurnedRow.laid W := by
    have hL1 : laidMetH Tryd.prog Rows.recordTurnedRow.laid W := hL0
    rw [MakeChecks.laidMetH_plain _ _ _ (by kernel_rfl)] at hL1
    exact hL1
  have t0 : Cells (Full W) (some ⟨2, 0, none⟩) (flatF 9 Rows.laid_math_bits_deBruijn32tab) := laid_at (by kernel_rfl) (by kernel_rfl : (Tryd.prog.globals[2]?).map (·.type) = some 248) (by kernel_rfl) 0 hL rfl
  have t1 : Cells (Full W) (some ⟨3, 0, none⟩) (flatF 9 Rows.laid_math_bits_deBruijn64tab) := laid_at (by kernel_rfl) (by kernel_rfl : (Tryd.prog.globals[3]?).map (·.type) = some 249) (by kernel_rfl) 1 hL rfl
  have t2 : Cells (Full W) (some ⟨4, 0, none⟩) (flatF 9 Rows.laid_internal_strconv_uint64pow10) := laid_at (by kernel_rfl) (by kernel_rfl : (Tryd.prog.globals[4]?).map (·.type) = some 286) (by kernel_rfl) 2 hL rfl
  have t3 : Cells (Full W) (some ⟨9, 0, none⟩) (flatF 9 Rows.laid_unicode_utf8_acceptRanges) := laid_at (by kernel_rfl) (by kernel_rfl : (Tryd.prog.globals[9]?).map (·.type) = some 316) (by kernel_rfl) 3 hL rfl
  have t4 : Cells (Full W) (some ⟨0, 0, none⟩) (flatF 9 Rows.laid_abacist_record_names) := laid_at (by kernel_rfl) (by kernel_rfl : (Tryd.prog.globals[0]?).map (·.type) = some 158) (by kernel_rfl) 4 hL rfl
  have t5 : Cells (Full W) (some ⟨8, 0, none⟩) (flatF 9 Rows.laid_unicode_utf8_first) := laid_at (by kernel_rfl) (by kernel_rfl : (Tryd.prog.globals[8]?).map (·.type) = some 313) (by kernel_rfl) 5 hL rfl
  have hsz : (DataW.weightsEach Tryd.prog (Tryd.f4.params.toList ++ Rows.recordTurnedSpec.plain.varTypes Tryd.prog) (ds ++ gs)).all (· ≤ reachBytes) = true := hsz0
  have hval : ∀ (j : Nat) t v, Tryd.f4.params[j]? = some t → args[j]? = some v → Value.okWide Tryd.prog W .any base t v := hval0
  have hW' := hW
  obtain ⟨p, q, hA0, hV, rfl, hfz, hnd⟩ := hW'
  have hA : DataW.TrodAll enc Tryd.prog W 0 (fun _ => true) true Tryd.f4.params.toList args.toList ds p := hA0
  rw [Tryd.params4] at hA hval hsz
  obtain ⟨v0, vs0, d0, ds0, p0, q0, hargs, rfl, rfl, h0, r0⟩ := trodAll_cons hA
  obtain ⟨v1, vs1, d1, ds1, p1, q1, rfl, rfl, rfl, h1, r1⟩ := trodAll_cons r0
  obtain ⟨v2, vs2, d2, ds2, p2, q2, rfl, rfl, rfl, h2, r2⟩ := trodAll_cons r1
  obtain ⟨v3, vs3, d3, ds3, p3, q3, rfl, rfl, rfl, h3, r3⟩ := trodAll_cons r2
  obtain ⟨rfl, rfl, rfl⟩ := trodAll_nil r3
  obtain rfl : args = #[v0, v1, v2, v3] := by cases args; simp_all
  obtain ⟨rfl, rfl⟩ := trodVars_none hV
  obtain ⟨cs0, rfl, sl0, _, sf0⟩ := open_st Tryd.underlying25 (hval 0 25 v0 rfl rfl) h0
  obtain ⟨a0_0, x0_0, w0_0⟩ := trod_fint (o := 0) Tryd.underlying22 (by kernel_rfl) (sf0 0 _ rfl)
  have b0_0 := wf_int w0_0
  obtain ⟨a0_1, x0_1, w0_1⟩ := trod_fint (o := 1) Tryd.underlying3 (by kernel_rfl) (sf0 1 _ rfl)
  have b0_1 := wf_int w0_1
  obtain ⟨a0_2, x0_2, w0_2⟩ := trod_fint (o := 2) Tryd.underlying3 (by kernel_rfl) (sf0 2 _ rfl)
  have b0_2 := wf_int w0_2
  obtain ⟨a0_3, x0_3, w0_3⟩ := trod_fint (o := 3) Tryd.underlying3 (by kernel_rfl) (sf0 3 _ rfl)
  have b0_3 := wf_int w0_3
  obtain ⟨a0_4, x0_4, w0_4⟩ := trod_fint (o := 4) Tryd.underlying3 (by kernel_rfl) (sf0 4 _ rfl)
  have b0_4 := wf_int w0_4
  obtain ⟨a0_5, x0_5, w0_5⟩ := trod_fint (o := 5) Tryd.underlying23 (by kernel_rfl) (sf0 5 _ rfl)
  have b0_5 := wf_int w0_5
  obtain ⟨a0_6, x0_6, w0_6⟩ := trod_fint (o := 6) Tryd.underlying23 (by kernel_rfl) (sf0 6 _ rfl)
  have b0_6 := wf_int w0_6
  obtain ⟨a0_7, x0_7, w0_7⟩ := trod_fint (o := 7) Tryd.underlying23 (by kernel_rfl) (sf0 7 _ rfl)
  have b0_7 := wf_int w0_7
  obtain rfl : cs0 = [.int .u64 a0_0, .int .i64 a0_1, .int .i64 a0_2, .int .i64 a0_3, .int .i64 a0_4, .int .u32 a0_5, .int .u32 a0_6, .int .u32 a0_7] := EqAll.out ⟨x0_0, x0_1, x0_2, x0_3, x0_4, x0_5, x0_6, x0_7, trivial⟩ (sl0.trans (by kernel_rfl))
  obtain ⟨a1, rfl, rfl, rfl, w1⟩ := open_int Tryd.underlying5 (hval 1 5 v1 rfl rfl) h1
  have b1 := wf_int w1
  obtain ⟨a2, rfl, rfl, rfl, w2⟩ := open_int Tryd.underlying39 (hval 2 39 v2 rfl rfl) h2
  have b2 := wf_int w2
  obtain ⟨a3, rfl, rfl, rfl, w3⟩ := open_int Tryd.underlying5 (hval 3 5 v3 rfl rfl) h3
  have b3 := wf_int w3
  exact law_post (by kernel_rfl) rfl Tryd.underlying4 (by kernel_rfl) rfl rfl hW (by obtain ⟨s0, rfl⟩ := Int.eq_ofNat_of_zero_le b0_0.1; obtain ⟨l0, rfl⟩ := Int.eq_ofNat_of_zero_le b0_5.1; obtain ⟨i0, rfl⟩ := Int.eq_ofNat_of_zero_le b0_6.1; obtain ⟨o0, rfl⟩ := Int.eq_ofNat_of_zero_le b0_7.1; obtain ⟨sz, rfl⟩ := Int.eq_ofNat_of_zero_le b1.1; obtain ⟨at0, rfl⟩ := Int.eq_ofNat_of_zero_le b2.1; obtain ⟨c0, rfl⟩ := Int.eq_ofNat_of_zero_le b3.1; have hc0 : c0 < 256 := (by have h : (c0 : Int) ≤ 255 := b3.2; omega); have := Rec.RecordTurned_ok ⟨s0, a0_1, a0_2, a0_3, a0_4, l0, i0, o0⟩ ⟨(by have h : (s0 : Int) ≤ 18446744073709551615 := b0_0.2; show s0 < 18446744073709551616; omega), b0_1, b0_2, b0_3, b0_4, ⟨(by have h : (l0 : Int) ≤ 4294967295 := b0_5.2; show l0 < 4294967296; omega), (by have h : (i0 : Int) ≤ 4294967295 := b0_6.2; show i0 < 4294967296; omega), (by have h : (o0 : Int) ≤ 4294967295 := b0_7.2; show o0 < 4294967296; omega)⟩⟩ sz at0 (Int.ofNat_le.1 b2.2) (UInt8.ofNat c0) _ (show Rec.Names _ from t4); rw [UInt8.toNat_ofNat', Nat.mod_eq_of_lt hc0] at this; exact this)
theorem over : Rows.recordTurnedRow.holds Tryd.pinned (OpenSpec.ofChange Rows.recordTurnedSpec) :=
  OpenClaim.holds_of_wide 4 Tryd.f4 rfl rfl rfl rfl rfl rfl rfl ⟨rfl, rfl, rfl, rfl, rfl⟩ rfl rfl rfl rfl rfl (by kernel_rfl) Tryd.func4 (by kernel_rfl)
    (of_decide_eq_true (by kernel_rfl)) (by unfold Func.isWrapper; first | (rw [if_pos (by decide +kernel)]; kernel_rfl) | (rw [if_neg (by decide +kernel)]; exact ⟨rfl, rfl⟩))
    (fun os started H enc _ => lifted os started H enc)
theorem proved : Rows.RecordTurnedCardSaid :=
  Claim7.holds_tied_plain_at .later [] [.data, .data, .data, .data, .data, .pinned] true (true, "8baf4567e59a94612e3a177372636c75f72025906b542ef04cd9e6970fa3bae9") true
    over (fun _ h => by cases h) (by kernel_rfl) (fun _ h => by cases h) recordTurned_row_tie rfl ⟨rfl, rfl⟩ (by kernel_rfl) rfl
    (fun f fn hf hfn => by
      obtain rfl : f = 4 := Option.some.inj ((show Tryd.prog.funcNamed "abacist/abacistlaw20.RecordTurned" = some 4 by kernel_rfl).symm.trans hf) |>.symm
      obtain rfl : fn = Tryd.f4 := (Option.some.inj (Tryd.func4.symm.trans hfn)).symm
      exact ⟨by kernel_rfl, fun j t ht => by
        rw [Tryd.params4] at ht
        have hm : t ∈ [25, 5, 39, 5] := by simpa using Array.mem_of_getElem? ht
        have hall : ([25, 5, 39, 5].all fun u => !Tryd.prog.wantsStandIn u) = true := by kernel_rfl
        exact (show Tryd.prog.wantsStandIn t = false by simpa using List.all_eq_true.1 hall t hm)⟩)
    (by kernel_rfl)
#print axioms proved
end Go.Proofs.YtbnhfcdagoigkaaDoor.recordTurned
namespace Go.Proofs.YtbnhfcdagoigkaaDoor
/-- The card, under a short name, for the claim. -/
theorem recordTurned_holds : Rows.RecordTurnedCardSaid := recordTurned.proved
end Go.Proofs.YtbnhfcdagoigkaaDoor

