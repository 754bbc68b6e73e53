import Derived.Test.YtgfildcgihbdaaaGreatDoorRows
import Derived.Test.YtgfildcgihbdaaaGreatDoorCards
import Derived.Test.YtgfildcgihbdaaaGreatDoorTie
import Derived.SevenTiedAt
import Derived.Handy
import Derived.LaidMore
import Derived.Lay
import Derived.Test.YtgfildcgihbdaaaGreatDoorPkWholeCost10
set_option linter.unusedVariables false
set_option linter.unusedSimpArgs false
set_option maxRecDepth 100000
/- For every input the law WholeCost returns true, and each argument reads behind the call as it read before. No condition. -/
namespace Go.Proofs.YtgfildcgihbdaaaGreatDoor.wholeCost
open Go.ChangeShapes Go.WideShapes Go.ChangeAt Go.RowKit Go.Hw
open Go.ChangeMaps (open_string shut_string)
theorem own : ownKnob Tryz.prog.godebug = none := by kernel_rfl
set_option maxRecDepth 100000 in
set_option maxHeartbeats 40000000 in
theorem lifted (os : Os) (started : os.Started) (H : Type) (enc : TypeId × Value → H) :
    ReturnsInHanded {} Tryz.checked os 5 .any (fun w args => (Rows.wholeCostSpec.pre enc Tryz.prog Tryz.f5 [] false w args ∧ laidMetH Tryz.prog Rows.wholeCostRow.laid w) ∧ sizedMet enc Tryz.prog Tryz.f5 (OpenSpec.ofChange Rows.wholeCostSpec) false w args) (Rows.wholeCostSpec.post enc Tryz.prog Tryz.f5 false true false false) := by
  refine returnsInHanded_of_change_and (C := Tryz.checked) (X := (fun w _ => laidMetH Tryz.prog Rows.wholeCostRow.laid w)) (fun _ _ _ hh h => h.of_heap hh) own started (by kernel_rfl) Tryz.func5
    (ChangeSpec.witness_shaped (enc := enc) (C := Tryz.checked) (os := os) (X := (fun w _ => laidMetH Tryz.prog Rows.wholeCostRow.laid w)) false (World.laidAll Tryz.prog os Rows.wholeCostRow.laid) #[.slice none 0 0, .int .i64 0, .int .u8 0, .int .u8 0, .slice none 0 0, .slice none 0 0] 8 (World.laidAll_os _ _ _)
      (World.shaped_of_ZipB (by kernel_rfl) (by kernel_rfl)) (by kernel_rfl) (by kernel_rfl) (by kernel_rfl)
      (by rw [MakeChecks.laidMetH_plain _ _ _ (by kernel_rfl)]; exact laidMet_laidAll _ (by kernel_rfl) (by kernel_rfl))) ?_
  intro W base args ds gs before hval0 hW hcnd hsz0 hL0 _
  have hL : laidMet Tryz.prog Rows.wholeCostRow.laid W := by
    have hL1 : laidMetH Tryz.prog Rows.wholeCostRow.laid W := hL0
    rw [MakeChecks.laidMetH_plain _ _ _ (by kernel_rfl)] at hL1
    exact hL1
  have t0 : Cells (Full W) (some ⟨2, 0, none⟩) (flatF 9 Rows.laid_math_bits_deBruijn32tab) := laid_at (by kernel_rfl) (by kernel_rfl : (Tryz.prog.globals[2]?).map (·.type) = some 311) (by kernel_rfl) 0 hL rfl
  have t1 : Cells (Full W) (some ⟨1, 0, none⟩) (flatF 9 Rows.laid_math_bits_deBruijn64tab) := laid_at (by kernel_rfl) (by kernel_rfl : (Tryz.prog.globals[1]?).map (·.type) = some 236) (by kernel_rfl) 1 hL rfl
  have t2 : Cells (Full W) (some ⟨4, 0, none⟩) (flatF 9 Rows.laid_unicode_utf8_acceptRanges) := laid_at (by kernel_rfl) (by kernel_rfl : (Tryz.prog.globals[4]?).map (·.type) = some 358) (by kernel_rfl) 2 hL rfl
  have t3 : Cells (Full W) (some ⟨0, 0, none⟩) (flatF 9 Rows.laid_abacist_budget_record) := laid_at (by kernel_rfl) (by kernel_rfl : (Tryz.prog.globals[0]?).map (·.type) = some 39) (by kernel_rfl) 3 hL rfl
  have t4 : Cells (Full W) (some ⟨3, 0, none⟩) (flatF 9 Rows.laid_unicode_utf8_first) := laid_at (by kernel_rfl) (by kernel_rfl : (Tryz.prog.globals[3]?).map (·.type) = some 355) (by kernel_rfl) 4 hL rfl
  have hsz : (DataW.weightsEach Tryz.prog (Tryz.f5.params.toList ++ Rows.wholeCostSpec.plain.varTypes Tryz.prog) (ds ++ gs)).all (· ≤ reachBytes) = true := hsz0
  have hval : ∀ (j : Nat) t v, Tryz.f5.params[j]? = some t → args[j]? = some v → Value.okWide Tryz.prog W .any base t v := hval0
  have hW' := hW
  obtain ⟨p, q, hA0, hV, rfl, hfz, hnd⟩ := hW'
  have hA : DataW.TrodAll enc Tryz.prog W 0 (fun _ => true) true Tryz.f5.params.toList args.toList ds p := hA0
  rw [Tryz.params5] at hA hval hsz
  obtain ⟨v0, vs0, d0, ds0, p0, q0, hargs, rfl, rfl, h0, r0⟩ := trodAll_cons hA
  obtain ⟨v1, vs1, d1, ds1, p1, q1, rfl, rfl, rfl, h1, r1⟩ := trodAll_cons r0
  obtain ⟨v2, vs2, d2, ds2, p2, q2, rfl, rfl, rfl, h2, r2⟩ := trodAll_cons r1
  obtain ⟨v3, vs3, d3, ds3, p3, q3, rfl, rfl, rfl, h3, r3⟩ := trodAll_cons r2
  obtain ⟨v4, vs4, d4, ds4, p4, q4, rfl, rfl, rfl, h4, r4⟩ := trodAll_cons r3
  obtain ⟨v5, vs5, d5, ds5, p5, q5, rfl, rfl, rfl, h5, r5⟩ := trodAll_cons r4
  obtain ⟨rfl, rfl, rfl⟩ := trodAll_nil r5
  obtain rfl : args = #[v0, v1, v2, v3, v4, v5] := by cases args; simp_all
  obtain ⟨rfl, rfl⟩ := trodVars_none hV
  obtain ⟨A0, n0, m0, rfl, fu0, hf0⟩ := open_sl Tryz.underlying22 (hval 0 22 v0 rfl rfl) h0
  obtain ⟨_, _, _, hv0, lm0, mm0, e0, ln0, c0⟩ := trod_words Tryz.underlying22 Tryz.underlying82 (by kernel_rfl) hf0
  obtain ⟨rfl, rfl, rfl⟩ : A0 = _ ∧ n0 = _ ∧ m0 = _ := by simpa using hv0
  obtain ⟨a1, rfl, rfl, rfl, w1⟩ := open_int Tryz.underlying3 (hval 1 3 v1 rfl rfl) h1
  have b1 := wf_int w1
  obtain ⟨a2, rfl, rfl, rfl, w2⟩ := open_int Tryz.underlying5 (hval 2 5 v2 rfl rfl) h2
  have b2 := wf_int w2
  obtain ⟨a3, rfl, rfl, rfl, w3⟩ := open_int Tryz.underlying5 (hval 3 5 v3 rfl rfl) h3
  have b3 := wf_int w3
  obtain ⟨A4, n4, m4, rfl, fu4, hf4⟩ := open_sl Tryz.underlying70 (hval 4 70 v4 rfl rfl) h4
  obtain ⟨_, _, _, hv4, lm4, mm4, e4, ln4, c4⟩ := trod_bytes Tryz.underlying70 Tryz.underlying5 (by kernel_rfl) hf4
  obtain ⟨rfl, rfl, rfl⟩ : A4 = _ ∧ n4 = _ ∧ m4 = _ := by simpa using hv4
  obtain ⟨A5, n5, m5, rfl, fu5, hf5⟩ := open_sl Tryz.underlying71 (hval 5 71 v5 rfl rfl) h5
  obtain ⟨_, _, _, hv5, lm5, mm5, e5, ln5, c5⟩ := trod_bools Tryz.underlying71 Tryz.underlying4 (by kernel_rfl) hf5
  obtain ⟨rfl, rfl, rfl⟩ : A5 = _ ∧ n5 = _ ∧ m5 = _ := by simpa using hv5
  exact law_post (by kernel_rfl) rfl Tryz.underlying4 (by kernel_rfl) rfl rfl hW (by obtain ⟨x, rfl⟩ := Int.eq_ofNat_of_zero_le b2.1; obtain ⟨w, rfl⟩ := Int.eq_ofNat_of_zero_le b3.1; exact RetE.ret (Eng.WholeCost_ok A0 A4 A5 n0 m0 n4 m4 n5 m5 e0 ln0.symm lm0 a1 x w (Nat.lt_succ_of_le (Int.ofNat_le.1 b2.2)) (Nat.lt_succ_of_le (Int.ofNat_le.1 b3.2)) e4 ln4.symm e5 ln5.symm _ (show Shp.T64 _ from t1) (show Eng.Rcd _ from t3) c0 c4 c5))
set_option maxRecDepth 100000 in
set_option maxHeartbeats 40000000 in
theorem over : Rows.wholeCostRow.holds Tryz.pinned (OpenSpec.ofChange Rows.wholeCostSpec) :=
  OpenClaim.holds_of_wide 5 Tryz.f5 rfl rfl rfl rfl rfl rfl rfl ⟨rfl, rfl, rfl, rfl, rfl⟩ rfl rfl rfl rfl rfl (by as_aux_lemma => kernel_rfl) Tryz.func5 (by
      unfold joinedFacts
      repeat' with_reducible refine Bool.and_eq_true_iff.mpr ⟨?_, ?_⟩
      all_goals as_aux_lemma => kernel_rfl)
    (of_decide_eq_true (by kernel_rfl)) (by unfold Func.isWrapper; first | (rw [if_pos (by decide +kernel)]; kernel_rfl) | (rw [if_neg (by decide +kernel)]; exact ⟨rfl, rfl⟩))
    (fun os started H enc _ => lifted os started H enc)
set_option maxRecDepth 100000 in
set_option maxHeartbeats 40000000 in
theorem proved : Rows.WholeCostCardSaid :=
  Claim7.holds_tied_plain_at .later [] [.data, .data, .data, .data, .pinned] true (true, "68b4f0420dbe70cf22e42c74f38ec9f7d3aa34c7d6741ac25dffa05a342aa531") false
    over (fun _ h => by cases h) (by as_aux_lemma => kernel_rfl) (fun _ h => by cases h) wholeCost_row_tie rfl ⟨rfl, rfl⟩ (by as_aux_lemma => kernel_rfl) rfl
    (fun f fn hf hfn => by
      obtain rfl : f = 5 := Option.some.inj ((show Tryz.prog.funcNamed "abacist/abacisttop.WholeCost" = some 5 by as_aux_lemma => kernel_rfl).symm.trans hf) |>.symm
      obtain rfl : fn = Tryz.f5 := (Option.some.inj (Tryz.func5.symm.trans hfn)).symm
      exact ⟨by kernel_rfl, fun j t ht => by
        rw [Tryz.params5] at ht
        have hm : t ∈ [22, 3, 5, 5, 70, 71] := by simpa using Array.mem_of_getElem? ht
        have hall : ([22, 3, 5, 5, 70, 71].all fun u => !Tryz.prog.wantsStandIn u) = true := by kernel_rfl
        exact (show Tryz.prog.wantsStandIn t = false by simpa using List.all_eq_true.1 hall t hm)⟩)
    (by as_aux_lemma => kernel_rfl)
#print axioms proved
end Go.Proofs.YtgfildcgihbdaaaGreatDoor.wholeCost
namespace Go.Proofs.YtgfildcgihbdaaaGreatDoor
theorem wholeCost_holds : Rows.WholeCostCardSaid := wholeCost.proved
end Go.Proofs.YtgfildcgihbdaaaGreatDoor
