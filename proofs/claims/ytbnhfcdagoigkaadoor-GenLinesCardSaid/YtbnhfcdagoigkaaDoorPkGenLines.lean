import Derived.Test.YtbnhfcdagoigkaaDoorRows
import Derived.Test.YtbnhfcdagoigkaaDoorCards
import Derived.Test.YtbnhfcdagoigkaaDoorTie
import Derived.SevenTiedAt
import Derived.Handy
import Derived.LaidMore
import Derived.Lay
import Derived.Test.YtbnhfcdagoigkaaDoorPkGenLines5
/- For every input the law GenLines returns true, and each argument reads behind the call as it read before. No condition. -/
namespace Go.Proofs.YtbnhfcdagoigkaaDoor.genLines
open Go.ChangeShapes Go.WideShapes Go.ChangeAt Go.RowKit Go.Hw
open Go.ChangeMaps (open_string shut_string)
set_option linter.unusedVariables false
set_option linter.unusedSimpArgs false
theorem own : ownKnob Tryd.prog.godebug = none := by kernel_rfl
set_option maxRecDepth 100000 in
theorem lifted (os : Os) (started : os.Started) (H : Type) (enc : TypeId × Value → H) :
    ReturnsInHanded {} Tryd.checked os 11 .any (fun w args => (Rows.genLinesSpec.pre enc Tryd.prog Tryd.f11 [] false w args ∧ laidMetH Tryd.prog Rows.genLinesRow.laid w) ∧ sizedMet enc Tryd.prog Tryd.f11 (OpenSpec.ofChange Rows.genLinesSpec) false w args) (Rows.genLinesSpec.post enc Tryd.prog Tryd.f11 false true false false) := by
  refine open_shaped (C := Tryd.checked) (X := (fun w _ => laidMetH Tryd.prog Rows.genLinesRow.laid w)) (fun _ _ _ hh h => h.of_heap hh) own started (by kernel_rfl) Tryd.func11
    (ChangeSpec.witness_shaped (enc := enc) (C := Tryd.checked) (os := os) (X := (fun w _ => laidMetH Tryd.prog Rows.genLinesRow.laid w)) false (World.laidAll Tryd.prog os Rows.genLinesRow.laid) #[.agg #[.int .i64 0, .int .u64 0, .int .u64 0, .int .u64 0], .string ByteArray.empty] 8 (World.laidAll_os _ _ _)
      (World.shaped_of_ZipB (by kernel_rfl) (by kernel_rfl)) (by kernel_rfl) (by kernel_rfl) (by kernel_rfl)
      (by rw [MakeChecks.laidMetH_plain _ _ _ (by kernel_rfl)]; exact laidMet_laidAll _ (by kernel_rfl) (by kernel_rfl))) ?_
  intro W base args ds gs before hval0 hW hcnd hsz0 hL0 hOpen _
  have hMax : MaxL (Full W) := by
    obtain ⟨m0, hm0⟩ := Go.Proofs.cell_of_shapedOpen_int (P := Tryd.prog) (g := 7) (t := 3) (zero := #[.int .i64 0]) hOpen (of_decide_eq_true (by kernel_rfl)) (by kernel_rfl) rfl (by kernel_rfl) (by kernel_rfl) Tryd.underlying3
    exact ⟨m0, Full.cell' hm0⟩
  have hL : laidMet Tryd.prog Rows.genLinesRow.laid W := by
    have hL1 : laidMetH Tryd.prog Rows.genLinesRow.laid W := hL0
    rw [MakeChecks.laidMetH_plain _ _ _ (by kernel_rfl)] at hL1
    exact hL1
  have t0 : Cells (Full W) (some ⟨2, 0, none⟩) (flatF 9 Rows.laid_math_bits_deBruijn32tab) := laid_at (by kernel_rfl) (by kernel_rfl : (Tryd.prog.globals[2]?).map (·.type) = some 248) (by kernel_rfl) 0 hL rfl
  have t1 : Cells (Full W) (some ⟨3, 0, none⟩) (flatF 9 Rows.laid_math_bits_deBruijn64tab) := laid_at (by kernel_rfl) (by kernel_rfl : (Tryd.prog.globals[3]?).map (·.type) = some 249) (by kernel_rfl) 1 hL rfl
  have t2 : Cells (Full W) (some ⟨4, 0, none⟩) (flatF 9 Rows.laid_internal_strconv_uint64pow10) := laid_at (by kernel_rfl) (by kernel_rfl : (Tryd.prog.globals[4]?).map (·.type) = some 286) (by kernel_rfl) 2 hL rfl
  have t3 : Cells (Full W) (some ⟨9, 0, none⟩) (flatF 9 Rows.laid_unicode_utf8_acceptRanges) := laid_at (by kernel_rfl) (by kernel_rfl : (Tryd.prog.globals[9]?).map (·.type) = some 316) (by kernel_rfl) 3 hL rfl
  have t4 : Cells (Full W) (some ⟨1, 0, none⟩) (flatF 9 Rows.laid_abacist_gen_kinds) := laid_at (by kernel_rfl) (by kernel_rfl : (Tryd.prog.globals[1]?).map (·.type) = some 171) (by kernel_rfl) 4 hL rfl
  have t5 : Cells (Full W) (some ⟨8, 0, none⟩) (flatF 9 Rows.laid_unicode_utf8_first) := laid_at (by kernel_rfl) (by kernel_rfl : (Tryd.prog.globals[8]?).map (·.type) = some 313) (by kernel_rfl) 5 hL rfl
  have hsz : (DataW.weightsEach Tryd.prog (Tryd.f11.params.toList ++ Rows.genLinesSpec.plain.varTypes Tryd.prog) (ds ++ gs)).all (· ≤ reachBytes) = true := hsz0
  have hval : ∀ (j : Nat) t v, Tryd.f11.params[j]? = some t → args[j]? = some v → Value.okWide Tryd.prog W .any base t v := hval0
  have hW' := hW
  obtain ⟨p, q, hA0, hV, rfl, hfz, hnd⟩ := hW'
  have hA : DataW.TrodAll enc Tryd.prog W 0 (fun _ => true) true Tryd.f11.params.toList args.toList ds p := hA0
  rw [Tryd.params11] at hA hval hsz
  obtain ⟨v0, vs0, d0, ds0, p0, q0, hargs, rfl, rfl, h0, r0⟩ := trodAll_cons hA
  obtain ⟨v1, vs1, d1, ds1, p1, q1, rfl, rfl, rfl, h1, r1⟩ := trodAll_cons r0
  obtain ⟨rfl, rfl, rfl⟩ := trodAll_nil r1
  obtain rfl : args = #[v0, v1] := by cases args; simp_all
  obtain ⟨rfl, rfl⟩ := trodVars_none hV
  obtain ⟨cs0, rfl, sl0, _, sf0⟩ := open_st Tryd.underlying102 (hval 0 102 v0 rfl rfl) h0
  obtain ⟨a0_0, x0_0, w0_0⟩ := trod_fint (o := 0) Tryd.underlying3 (by kernel_rfl) (sf0 0 _ rfl)
  have b0_0 := wf_int w0_0
  obtain ⟨a0_1, x0_1, w0_1⟩ := trod_fint (o := 1) Tryd.underlying22 (by kernel_rfl) (sf0 1 _ rfl)
  have b0_1 := wf_int w0_1
  obtain ⟨a0_2, x0_2, w0_2⟩ := trod_fint (o := 2) Tryd.underlying22 (by kernel_rfl) (sf0 2 _ rfl)
  have b0_2 := wf_int w0_2
  obtain ⟨a0_3, x0_3, w0_3⟩ := trod_fint (o := 3) Tryd.underlying22 (by kernel_rfl) (sf0 3 _ rfl)
  have b0_3 := wf_int w0_3
  obtain rfl : cs0 = [.int .i64 a0_0, .int .u64 a0_1, .int .u64 a0_2, .int .u64 a0_3] := EqAll.out ⟨x0_0, x0_1, x0_2, x0_3, trivial⟩ (sl0.trans (by kernel_rfl))
  obtain ⟨a1, rfl, rfl, rfl, w1⟩ := open_string Tryd.underlying9 (hval 1 9 v1 rfl rfl) h1
  have z1 := sized_string hsz (j := 1) (t := 9) rfl rfl
  exact law_post (by kernel_rfl) rfl Tryd.underlying4 (by kernel_rfl) rfl rfl hW (by obtain ⟨x1, rfl⟩ := Int.eq_ofNat_of_zero_le b0_1.1; obtain ⟨x2, rfl⟩ := Int.eq_ofNat_of_zero_le b0_2.1; obtain ⟨x3, rfl⟩ := Int.eq_ofNat_of_zero_le b0_3.1; exact Cod.GenLines_ok a0_0 x1 x2 x3 a1 _ hMax (show Gen.Kinds _ from t4) (show Cod.P10 _ from t2))
theorem over : Rows.genLinesRow.holds Tryd.pinned (OpenSpec.ofChange Rows.genLinesSpec) :=
  OpenClaim.holds_of_wide 11 Tryd.f11 rfl rfl rfl rfl rfl rfl rfl ⟨rfl, rfl, rfl, rfl, rfl⟩ rfl rfl rfl rfl rfl (by kernel_rfl) Tryd.func11 (by kernel_rfl)
    (of_decide_eq_true (by kernel_rfl)) (by unfold Func.isWrapper; first | (rw [if_pos (by decide +kernel)]; kernel_rfl) | (rw [if_neg (by decide +kernel)]; exact ⟨rfl, rfl⟩))
    (fun os started H enc _ => lifted os started H enc)
theorem proved : Rows.GenLinesCardSaid :=
  Claim7.holds_tied_plain_at .later [] [.data, .data, .data, .data, .data, .pinned] true (true, "8baf4567e59a94612e3a177372636c75f72025906b542ef04cd9e6970fa3bae9") true
    over (fun _ h => by cases h) (by kernel_rfl) (fun _ h => by cases h) genLines_row_tie rfl ⟨rfl, rfl⟩ (by kernel_rfl) rfl
    (fun f fn hf hfn => by
      obtain rfl : f = 11 := Option.some.inj ((show Tryd.prog.funcNamed "abacist/abacistlaw38.GenLines" = some 11 by kernel_rfl).symm.trans hf) |>.symm
      obtain rfl : fn = Tryd.f11 := (Option.some.inj (Tryd.func11.symm.trans hfn)).symm
      exact ⟨by kernel_rfl, fun j t ht => by
        rw [Tryd.params11] at ht
        have hm : t ∈ [102, 9] := by simpa using Array.mem_of_getElem? ht
        have hall : ([102, 9].all fun u => !Tryd.prog.wantsStandIn u) = true := by kernel_rfl
        exact (show Tryd.prog.wantsStandIn t = false by simpa using List.all_eq_true.1 hall t hm)⟩)
    (by kernel_rfl)
#print axioms proved
end Go.Proofs.YtbnhfcdagoigkaaDoor.genLines
namespace Go.Proofs.YtbnhfcdagoigkaaDoor
/-- The card, under a short name, for the claim. -/
theorem genLines_holds : Rows.GenLinesCardSaid := genLines.proved
end Go.Proofs.YtbnhfcdagoigkaaDoor

