import Derived.Test.YtgkdkemhiglpdaaDoorRows
import Derived.Test.YtgkdkemhiglpdaaDoorCards
import Derived.Test.YtgkdkemhiglpdaaDoorTie
import Derived.SevenTiedAt
import Derived.Handy
import Derived.LaidMore
import Derived.Lay
import Derived.Test.YtgkdkemhiglpdaaDoorPkRecordFollows4
/- For every input the law RecordFollows returns true, and each argument reads behind the call as it read before. No condition. -/
namespace Go.Proofs.YtgkdkemhiglpdaaDoor.recordFollows
open Go.ChangeShapes Go.WideShapes Go.ChangeAt Go.RowKit Go.Hw
open Go.ChangeMaps (open_string shut_string)
set_option linter.unusedVariables false
set_option linter.unusedSimpArgs false
theorem own : ownKnob Tryd.prog.godebug = none := by kernel_rfl
set_option maxRecDepth 100000 in
theorem lifted (os : Os) (started : os.Started) (H : Type) (enc : TypeId × Value → H) :
    ReturnsInHanded {} Tryd.checked os 3 .any (fun w args => (Rows.recordFollowsSpec.pre enc Tryd.prog Tryd.f3 [] false w args ∧ laidMetH Tryd.prog Rows.recordFollowsRow.laid w) ∧ sizedMet enc Tryd.prog Tryd.f3 (OpenSpec.ofChange Rows.recordFollowsSpec) false w args) (Rows.recordFollowsSpec.post enc Tryd.prog Tryd.f3 false true false false) := by
  refine returnsInHanded_of_change_and (C := Tryd.checked) (X := (fun w _ => laidMetH Tryd.prog Rows.recordFollowsRow.laid w)) (fun _ _ _ hh h => h.of_heap hh) own started (by kernel_rfl) Tryd.func3
    (ChangeSpec.witness_shaped (enc := enc) (C := Tryd.checked) (os := os) (X := (fun w _ => laidMetH Tryd.prog Rows.recordFollowsRow.laid w)) false (World.laidAll Tryd.prog os Rows.recordFollowsRow.laid) #[.agg #[.int .u64 0, .int .i64 0, .int .i64 0, .int .i64 0, .int .i64 0, .int .u32 0, .int .u32 0, .int .u32 0], .agg #[.int .u64 0, .int .i64 0, .int .i64 0, .int .i64 0, .int .i64 0, .int .u32 0, .int .u32 0, .int .u32 0]] 8 (World.laidAll_os _ _ _)
      (World.shaped_of_ZipB (by kernel_rfl) (by kernel_rfl)) (by kernel_rfl) (by kernel_rfl) (by kernel_rfl)
      (by rw [MakeChecks.laidMetH_plain _ _ _ (by kernel_rfl)]; exact laidMet_laidAll _ (by kernel_rfl) (by kernel_rfl))) ?_
  intro W base args ds gs before hval0 hW hcnd hsz0 hL0 _
  have hL : laidMet Tryd.prog Rows.recordFollowsRow.laid W := by
    have hL1 : laidMetH Tryd.prog Rows.recordFollowsRow.laid W := hL0
    rw [MakeChecks.laidMetH_plain _ _ _ (by kernel_rfl)] at hL1
    exact hL1
  have t0 : Cells (Full W) (some ⟨4, 0, none⟩) (flatF 9 Rows.laid_math_bits_deBruijn32tab) := laid_at (by kernel_rfl) (by kernel_rfl : (Tryd.prog.globals[4]?).map (·.type) = some 219) (by kernel_rfl) 0 hL rfl
  have t1 : Cells (Full W) (some ⟨2, 0, none⟩) (flatF 9 Rows.laid_math_bits_deBruijn64tab) := laid_at (by kernel_rfl) (by kernel_rfl : (Tryd.prog.globals[2]?).map (·.type) = some 194) (by kernel_rfl) 1 hL rfl
  have t2 : Cells (Full W) (some ⟨3, 0, none⟩) (flatF 9 Rows.laid_internal_strconv_uint64pow10) := laid_at (by kernel_rfl) (by kernel_rfl : (Tryd.prog.globals[3]?).map (·.type) = some 209) (by kernel_rfl) 2 hL rfl
  have t3 : Cells (Full W) (some ⟨0, 0, none⟩) (flatF 9 Rows.laid_abacist_record_names) := laid_at (by kernel_rfl) (by kernel_rfl : (Tryd.prog.globals[0]?).map (·.type) = some 129) (by kernel_rfl) 3 hL rfl
  have hsz : (DataW.weightsEach Tryd.prog (Tryd.f3.params.toList ++ Rows.recordFollowsSpec.plain.varTypes Tryd.prog) (ds ++ gs)).all (· ≤ reachBytes) = true := hsz0
  have hval : ∀ (j : Nat) t v, Tryd.f3.params[j]? = some t → args[j]? = some v → Value.okWide Tryd.prog W .any base t v := hval0
  have hW' := hW
  obtain ⟨p, q, hA0, hV, rfl, hfz, hnd⟩ := hW'
  have hA : DataW.TrodAll enc Tryd.prog W 0 (fun _ => true) true Tryd.f3.params.toList args.toList ds p := hA0
  rw [Tryd.params3] at hA hval hsz
  obtain ⟨v0, vs0, d0, ds0, p0, q0, hargs, rfl, rfl, h0, r0⟩ := trodAll_cons hA
  obtain ⟨v1, vs1, d1, ds1, p1, q1, rfl, rfl, rfl, h1, r1⟩ := trodAll_cons r0
  obtain ⟨rfl, rfl, rfl⟩ := trodAll_nil r1
  obtain rfl : args = #[v0, v1] := by cases args; simp_all
  obtain ⟨rfl, rfl⟩ := trodVars_none hV
  obtain ⟨cs0, rfl, sl0, _, sf0⟩ := open_st Tryd.underlying25 (hval 0 25 v0 rfl rfl) h0
  obtain ⟨a0_0, x0_0, w0_0⟩ := trod_fint (o := 0) Tryd.underlying22 (by kernel_rfl) (sf0 0 _ rfl)
  have b0_0 := wf_int w0_0
  obtain ⟨a0_1, x0_1, w0_1⟩ := trod_fint (o := 1) Tryd.underlying3 (by kernel_rfl) (sf0 1 _ rfl)
  have b0_1 := wf_int w0_1
  obtain ⟨a0_2, x0_2, w0_2⟩ := trod_fint (o := 2) Tryd.underlying3 (by kernel_rfl) (sf0 2 _ rfl)
  have b0_2 := wf_int w0_2
  obtain ⟨a0_3, x0_3, w0_3⟩ := trod_fint (o := 3) Tryd.underlying3 (by kernel_rfl) (sf0 3 _ rfl)
  have b0_3 := wf_int w0_3
  obtain ⟨a0_4, x0_4, w0_4⟩ := trod_fint (o := 4) Tryd.underlying3 (by kernel_rfl) (sf0 4 _ rfl)
  have b0_4 := wf_int w0_4
  obtain ⟨a0_5, x0_5, w0_5⟩ := trod_fint (o := 5) Tryd.underlying23 (by kernel_rfl) (sf0 5 _ rfl)
  have b0_5 := wf_int w0_5
  obtain ⟨a0_6, x0_6, w0_6⟩ := trod_fint (o := 6) Tryd.underlying23 (by kernel_rfl) (sf0 6 _ rfl)
  have b0_6 := wf_int w0_6
  obtain ⟨a0_7, x0_7, w0_7⟩ := trod_fint (o := 7) Tryd.underlying23 (by kernel_rfl) (sf0 7 _ rfl)
  have b0_7 := wf_int w0_7
  obtain rfl : cs0 = [.int .u64 a0_0, .int .i64 a0_1, .int .i64 a0_2, .int .i64 a0_3, .int .i64 a0_4, .int .u32 a0_5, .int .u32 a0_6, .int .u32 a0_7] := EqAll.out ⟨x0_0, x0_1, x0_2, x0_3, x0_4, x0_5, x0_6, x0_7, trivial⟩ (sl0.trans (by kernel_rfl))
  obtain ⟨cs1, rfl, sl1, _, sf1⟩ := open_st Tryd.underlying25 (hval 1 25 v1 rfl rfl) h1
  obtain ⟨a1_0, x1_0, w1_0⟩ := trod_fint (o := 0) Tryd.underlying22 (by kernel_rfl) (sf1 0 _ rfl)
  have b1_0 := wf_int w1_0
  obtain ⟨a1_1, x1_1, w1_1⟩ := trod_fint (o := 1) Tryd.underlying3 (by kernel_rfl) (sf1 1 _ rfl)
  have b1_1 := wf_int w1_1
  obtain ⟨a1_2, x1_2, w1_2⟩ := trod_fint (o := 2) Tryd.underlying3 (by kernel_rfl) (sf1 2 _ rfl)
  have b1_2 := wf_int w1_2
  obtain ⟨a1_3, x1_3, w1_3⟩ := trod_fint (o := 3) Tryd.underlying3 (by kernel_rfl) (sf1 3 _ rfl)
  have b1_3 := wf_int w1_3
  obtain ⟨a1_4, x1_4, w1_4⟩ := trod_fint (o := 4) Tryd.underlying3 (by kernel_rfl) (sf1 4 _ rfl)
  have b1_4 := wf_int w1_4
  obtain ⟨a1_5, x1_5, w1_5⟩ := trod_fint (o := 5) Tryd.underlying23 (by kernel_rfl) (sf1 5 _ rfl)
  have b1_5 := wf_int w1_5
  obtain ⟨a1_6, x1_6, w1_6⟩ := trod_fint (o := 6) Tryd.underlying23 (by kernel_rfl) (sf1 6 _ rfl)
  have b1_6 := wf_int w1_6
  obtain ⟨a1_7, x1_7, w1_7⟩ := trod_fint (o := 7) Tryd.underlying23 (by kernel_rfl) (sf1 7 _ rfl)
  have b1_7 := wf_int w1_7
  obtain rfl : cs1 = [.int .u64 a1_0, .int .i64 a1_1, .int .i64 a1_2, .int .i64 a1_3, .int .i64 a1_4, .int .u32 a1_5, .int .u32 a1_6, .int .u32 a1_7] := EqAll.out ⟨x1_0, x1_1, x1_2, x1_3, x1_4, x1_5, x1_6, x1_7, trivial⟩ (sl1.trans (by kernel_rfl))
  exact law_post (by kernel_rfl) rfl Tryd.underlying4 (by kernel_rfl) rfl rfl hW (by  obtain ⟨s0, rfl⟩ := Int.eq_ofNat_of_zero_le b0_0.1; obtain ⟨l0, rfl⟩ := Int.eq_ofNat_of_zero_le b0_5.1; obtain ⟨i0, rfl⟩ := Int.eq_ofNat_of_zero_le b0_6.1; obtain ⟨o0, rfl⟩ := Int.eq_ofNat_of_zero_le b0_7.1; obtain ⟨s1, rfl⟩ := Int.eq_ofNat_of_zero_le b1_0.1; obtain ⟨l1, rfl⟩ := Int.eq_ofNat_of_zero_le b1_5.1; obtain ⟨i1, rfl⟩ := Int.eq_ofNat_of_zero_le b1_6.1; obtain ⟨o1, rfl⟩ := Int.eq_ofNat_of_zero_le b1_7.1; exact Rec.RecordFollows_ok ⟨s0, a0_1, a0_2, a0_3, a0_4, l0, i0, o0⟩ ⟨s1, a1_1, a1_2, a1_3, a1_4, l1, i1, o1⟩ _ (show Rec.Names _ from t3))
theorem over : Rows.recordFollowsRow.holds Tryd.pinned (OpenSpec.ofChange Rows.recordFollowsSpec) :=
  OpenClaim.holds_of_wide 3 Tryd.f3 rfl rfl rfl rfl rfl rfl rfl ⟨rfl, rfl, rfl, rfl, rfl⟩ rfl rfl rfl rfl rfl (by kernel_rfl) Tryd.func3 (by kernel_rfl)
    (of_decide_eq_true (by kernel_rfl)) (by unfold Func.isWrapper; first | (rw [if_pos (by decide +kernel)]; kernel_rfl) | (rw [if_neg (by decide +kernel)]; exact ⟨rfl, rfl⟩))
    (fun os started H enc _ => lifted os started H enc)
theorem proved : Rows.RecordFollowsCardSaid :=
  Claim7.holds_tied_plain_at .later [] [.data, .data, .data, .data] true (true, "99dddb59db4ca4a7261051461f5da1137662eb75b072e092d7604a2a17dd3f1c") false
    over (fun _ h => by cases h) (by kernel_rfl) (fun _ h => by cases h) recordFollows_row_tie rfl ⟨rfl, rfl⟩ (by kernel_rfl) rfl
    (fun f fn hf hfn => by
      obtain rfl : f = 3 := Option.some.inj ((show Tryd.prog.funcNamed "abacist/abacistlaw20.RecordFollows" = some 3 by kernel_rfl).symm.trans hf) |>.symm
      obtain rfl : fn = Tryd.f3 := (Option.some.inj (Tryd.func3.symm.trans hfn)).symm
      exact ⟨by kernel_rfl, fun j t ht => by
        rw [Tryd.params3] at ht
        have hm : t ∈ [25, 25] := by simpa using Array.mem_of_getElem? ht
        have hall : ([25, 25].all fun u => !Tryd.prog.wantsStandIn u) = true := by kernel_rfl
        exact (show Tryd.prog.wantsStandIn t = false by simpa using List.all_eq_true.1 hall t hm)⟩)
    (by kernel_rfl)
#print axioms proved
end Go.Proofs.YtgkdkemhiglpdaaDoor.recordFollows
namespace Go.Proofs.YtgkdkemhiglpdaaDoor
/-- The card, under a short name, for the claim. -/
theorem recordFollows_holds : Rows.RecordFollowsCardSaid := recordFollows.proved
end Go.Proofs.YtgkdkemhiglpdaaDoor

