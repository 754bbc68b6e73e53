import Derived.Test.YtlgnlghmbcpmhaaGreatDoorRows
import Derived.Test.YtlgnlghmbcpmhaaGreatDoorCards
import Derived.Test.YtlgnlghmbcpmhaaGreatDoorTie
import Derived.SevenTiedAt
import Derived.Handy
import Derived.LaidMore
import Derived.Lay
import Derived.Test.YtlgnlghmbcpmhaaGreatDoorPkWholeProof10
set_option linter.unusedVariables false
set_option linter.unusedSimpArgs false
set_option maxRecDepth 100000
/- For every input the law WholeProof returns true, and each argument reads behind the call as it read before. No condition. -/
namespace Go.Proofs.YtlgnlghmbcpmhaaGreatDoor.wholeProof
open Go.ChangeShapes Go.WideShapes Go.ChangeAt Go.RowKit Go.Hw
open Go.ChangeMaps (open_string shut_string)
theorem own : ownKnob Tryz.prog.godebug = none := by kernel_rfl
set_option maxRecDepth 100000 in
set_option maxHeartbeats 40000000 in
theorem lifted (os : Os) (started : os.Started) (H : Type) (enc : TypeId × Value → H) :
    ReturnsInHanded {} Tryz.checked os 11 .any (fun w args => (Rows.wholeProofSpec.pre enc Tryz.prog Tryz.f11 [] false w args ∧ laidMetH Tryz.prog Rows.wholeProofRow.laid w) ∧ sizedMet enc Tryz.prog Tryz.f11 (OpenSpec.ofChange Rows.wholeProofSpec) false w args) (Rows.wholeProofSpec.post enc Tryz.prog Tryz.f11 false true false false) := by
  refine returnsInHanded_of_change_and (C := Tryz.checked) (X := (fun w _ => laidMetH Tryz.prog Rows.wholeProofRow.laid w)) (fun _ _ _ hh h => h.of_heap hh) own started (by kernel_rfl) Tryz.func11
    (ChangeSpec.witness_shaped (enc := enc) (C := Tryz.checked) (os := os) (X := (fun w _ => laidMetH Tryz.prog Rows.wholeProofRow.laid w)) false (World.laidAll Tryz.prog os Rows.wholeProofRow.laid) #[.slice none 0 0, .int .i64 0, .int .u8 0, .int .u8 0, .int .u64 0, .int .u8 0, .int .u64 0] 8 (World.laidAll_os _ _ _)
      (World.shaped_of_ZipB (by kernel_rfl) (by kernel_rfl)) (by kernel_rfl) (by kernel_rfl) (by kernel_rfl)
      (by rw [MakeChecks.laidMetH_plain _ _ _ (by kernel_rfl)]; exact laidMet_laidAll _ (by kernel_rfl) (by kernel_rfl))) ?_
  intro W base args ds gs before hval0 hW hcnd hsz0 hL0 _
  have hL : laidMet Tryz.prog Rows.wholeProofRow.laid W := by
    have hL1 : laidMetH Tryz.prog Rows.wholeProofRow.laid W := hL0
    rw [MakeChecks.laidMetH_plain _ _ _ (by kernel_rfl)] at hL1
    exact hL1
  have t0 : Cells (Full W) (some ⟨6, 0, none⟩) (flatF 9 Rows.laid_math_bits_deBruijn32tab) := laid_at (by kernel_rfl) (by kernel_rfl : (Tryz.prog.globals[6]?).map (·.type) = some 460) (by kernel_rfl) 0 hL rfl
  have t1 : Cells (Full W) (some ⟨2, 0, none⟩) (flatF 9 Rows.laid_math_bits_deBruijn64tab) := laid_at (by kernel_rfl) (by kernel_rfl : (Tryz.prog.globals[2]?).map (·.type) = some 373) (by kernel_rfl) 1 hL rfl
  have t2 : Cells (Full W) (some ⟨5, 0, none⟩) (flatF 9 Rows.laid_unicode_utf8_acceptRanges) := laid_at (by kernel_rfl) (by kernel_rfl : (Tryz.prog.globals[5]?).map (·.type) = some 453) (by kernel_rfl) 2 hL rfl
  have t3 : Cells (Full W) (some ⟨4, 0, none⟩) (flatF 9 Rows.laid_unicode_utf8_first) := laid_at (by kernel_rfl) (by kernel_rfl : (Tryz.prog.globals[4]?).map (·.type) = some 450) (by kernel_rfl) 3 hL rfl
  have hsz : (DataW.weightsEach Tryz.prog (Tryz.f11.params.toList ++ Rows.wholeProofSpec.plain.varTypes Tryz.prog) (ds ++ gs)).all (· ≤ reachBytes) = true := hsz0
  have hval : ∀ (j : Nat) t v, Tryz.f11.params[j]? = some t → args[j]? = some v → Value.okWide Tryz.prog W .any base t v := hval0
  have hW' := hW
  obtain ⟨p, q, hA0, hV, rfl, hfz, hnd⟩ := hW'
  have hA : DataW.TrodAll enc Tryz.prog W 0 (fun _ => true) true Tryz.f11.params.toList args.toList ds p := hA0
  rw [Tryz.params11] at hA hval hsz
  obtain ⟨v0, vs0, d0, ds0, p0, q0, hargs, rfl, rfl, h0, r0⟩ := trodAll_cons hA
  obtain ⟨v1, vs1, d1, ds1, p1, q1, rfl, rfl, rfl, h1, r1⟩ := trodAll_cons r0
  obtain ⟨v2, vs2, d2, ds2, p2, q2, rfl, rfl, rfl, h2, r2⟩ := trodAll_cons r1
  obtain ⟨v3, vs3, d3, ds3, p3, q3, rfl, rfl, rfl, h3, r3⟩ := trodAll_cons r2
  obtain ⟨v4, vs4, d4, ds4, p4, q4, rfl, rfl, rfl, h4, r4⟩ := trodAll_cons r3
  obtain ⟨v5, vs5, d5, ds5, p5, q5, rfl, rfl, rfl, h5, r5⟩ := trodAll_cons r4
  obtain ⟨v6, vs6, d6, ds6, p6, q6, rfl, rfl, rfl, h6, r6⟩ := trodAll_cons r5
  obtain ⟨rfl, rfl, rfl⟩ := trodAll_nil r6
  obtain rfl : args = #[v0, v1, v2, v3, v4, v5, v6] := by cases args; simp_all
  obtain ⟨rfl, rfl⟩ := trodVars_none hV
  obtain ⟨A0, n0, m0, rfl, fu0, hf0⟩ := open_sl Tryz.underlying31 (hval 0 31 v0 rfl rfl) h0
  obtain ⟨_, _, _, hv0, lm0, mm0, e0, ln0, c0⟩ := trod_words Tryz.underlying31 Tryz.underlying108 (by kernel_rfl) hf0
  obtain ⟨rfl, rfl, rfl⟩ : A0 = _ ∧ n0 = _ ∧ m0 = _ := by simpa using hv0
  obtain ⟨a1, rfl, rfl, rfl, w1⟩ := open_int Tryz.underlying3 (hval 1 3 v1 rfl rfl) h1
  have b1 := wf_int w1
  obtain ⟨a2, rfl, rfl, rfl, w2⟩ := open_int Tryz.underlying5 (hval 2 5 v2 rfl rfl) h2
  have b2 := wf_int w2
  obtain ⟨a3, rfl, rfl, rfl, w3⟩ := open_int Tryz.underlying5 (hval 3 5 v3 rfl rfl) h3
  have b3 := wf_int w3
  obtain ⟨a4, rfl, rfl, rfl, w4⟩ := open_int Tryz.underlying108 (hval 4 108 v4 rfl rfl) h4
  have b4 := wf_int w4
  obtain ⟨a5, rfl, rfl, rfl, w5⟩ := open_int Tryz.underlying5 (hval 5 5 v5 rfl rfl) h5
  have b5 := wf_int w5
  obtain ⟨a6, rfl, rfl, rfl, w6⟩ := open_int Tryz.underlying108 (hval 6 108 v6 rfl rfl) h6
  have b6 := wf_int w6
  exact law_post (by kernel_rfl) rfl Tryz.underlying4 (by kernel_rfl) rfl rfl hW (by obtain ⟨x, rfl⟩ := Int.eq_ofNat_of_zero_le b2.1; obtain ⟨w, rfl⟩ := Int.eq_ofNat_of_zero_le b3.1; obtain ⟨z, rfl⟩ := Int.eq_ofNat_of_zero_le b4.1; obtain ⟨at8, rfl⟩ := Int.eq_ofNat_of_zero_le b5.1; obtain ⟨y, rfl⟩ := Int.eq_ofNat_of_zero_le b6.1; exact RetE.ret (Eng.WholeProof_ok A0 n0 m0 e0 ln0.symm lm0 a1 x w (Nat.lt_succ_of_le (Int.ofNat_le.1 b2.2)) (Nat.lt_succ_of_le (Int.ofNat_le.1 b3.2)) z (Nat.lt_succ_of_le (Int.ofNat_le.1 b4.2)) at8 (Nat.lt_succ_of_le (Int.ofNat_le.1 b5.2)) y (Nat.lt_succ_of_le (Int.ofNat_le.1 b6.2)) _ (show Shp.T64 _ from t1) c0))
set_option maxRecDepth 100000 in
set_option maxHeartbeats 40000000 in
theorem over : Rows.wholeProofRow.holds Tryz.pinned (OpenSpec.ofChange Rows.wholeProofSpec) :=
  OpenClaim.holds_of_wide 11 Tryz.f11 rfl rfl rfl rfl rfl rfl rfl ⟨rfl, rfl, rfl, rfl, rfl⟩ rfl rfl rfl rfl rfl (by as_aux_lemma => kernel_rfl) Tryz.func11 (by
      unfold joinedFacts
      repeat' with_reducible refine Bool.and_eq_true_iff.mpr ⟨?_, ?_⟩
      all_goals as_aux_lemma => kernel_rfl)
    (of_decide_eq_true (by kernel_rfl)) (by unfold Func.isWrapper; first | (rw [if_pos (by decide +kernel)]; kernel_rfl) | (rw [if_neg (by decide +kernel)]; exact ⟨rfl, rfl⟩))
    (fun os started H enc _ => lifted os started H enc)
set_option maxRecDepth 100000 in
set_option maxHeartbeats 40000000 in
theorem proved : Rows.WholeProofCardSaid :=
  Claim7.holds_tied_plain_at .later [] [.data, .data, .data, .pinned] true (true, "a50aed58f16e9f29bf6f34d4c57342ea1d2e136d9e69b45e46dcd7378cb1dd32") false
    over (fun _ h => by cases h) (by as_aux_lemma => kernel_rfl) (fun _ h => by cases h) wholeProof_row_tie rfl ⟨rfl, rfl⟩ (by as_aux_lemma => kernel_rfl) rfl
    (fun f fn hf hfn => by
      obtain rfl : f = 11 := Option.some.inj ((show Tryz.prog.funcNamed "abacist/abacisttop.WholeProof" = some 11 by as_aux_lemma => kernel_rfl).symm.trans hf) |>.symm
      obtain rfl : fn = Tryz.f11 := (Option.some.inj (Tryz.func11.symm.trans hfn)).symm
      exact ⟨by kernel_rfl, fun j t ht => by
        rw [Tryz.params11] at ht
        have hm : t ∈ [31, 3, 5, 5, 108, 5, 108] := by simpa using Array.mem_of_getElem? ht
        have hall : ([31, 3, 5, 5, 108, 5, 108].all fun u => !Tryz.prog.wantsStandIn u) = true := by kernel_rfl
        exact (show Tryz.prog.wantsStandIn t = false by simpa using List.all_eq_true.1 hall t hm)⟩)
    (by as_aux_lemma => kernel_rfl)
#print axioms proved
end Go.Proofs.YtlgnlghmbcpmhaaGreatDoor.wholeProof
namespace Go.Proofs.YtlgnlghmbcpmhaaGreatDoor
theorem wholeProof_holds : Rows.WholeProofCardSaid := wholeProof.proved
end Go.Proofs.YtlgnlghmbcpmhaaGreatDoor
