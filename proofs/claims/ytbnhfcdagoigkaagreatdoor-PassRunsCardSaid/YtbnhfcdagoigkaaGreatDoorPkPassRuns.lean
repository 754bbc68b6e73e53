import Derived.Test.YtbnhfcdagoigkaaGreatDoorRows
import Derived.Test.YtbnhfcdagoigkaaGreatDoorCards
import Derived.Test.YtbnhfcdagoigkaaGreatDoorTie
import Derived.SevenTiedAt
import Derived.Handy
import Derived.LaidMore
import Derived.Lay
import Derived.Test.YtbnhfcdagoigkaaGreatDoorPkPassRuns6
/- For every input the law PassRuns returns true, and each argument reads behind the call as it read before. No condition. -/
namespace Go.Proofs.YtbnhfcdagoigkaaGreatDoor.passRuns
open Go.ChangeShapes Go.WideShapes Go.ChangeAt Go.RowKit Go.Hw
open Go.ChangeMaps (open_string shut_string)
set_option linter.unusedVariables false
set_option linter.unusedSimpArgs false
theorem own : ownKnob Tryz.prog.godebug = none := by kernel_rfl
set_option maxRecDepth 100000 in
theorem lifted (os : Os) (started : os.Started) (H : Type) (enc : TypeId × Value → H) :
    ReturnsInHanded {} Tryz.checked os 3 .any (fun w args => (Rows.passRunsSpec.pre enc Tryz.prog Tryz.f3 [] false w args ∧ laidMetH Tryz.prog Rows.passRunsRow.laid w) ∧ sizedMet enc Tryz.prog Tryz.f3 (OpenSpec.ofChange Rows.passRunsSpec) false w args) (Rows.passRunsSpec.post enc Tryz.prog Tryz.f3 false true false false) := by
  refine returnsInHanded_of_change_and (C := Tryz.checked) (X := (fun w _ => laidMetH Tryz.prog Rows.passRunsRow.laid w)) (fun _ _ _ hh h => h.of_heap hh) own started (by kernel_rfl) Tryz.func3
    (ChangeSpec.witness_shaped (enc := enc) (C := Tryz.checked) (os := os) (X := (fun w _ => laidMetH Tryz.prog Rows.passRunsRow.laid w)) false (World.laidAll Tryz.prog os Rows.passRunsRow.laid) #[.slice none 0 0, .agg #[.int .i64 0, .int .i64 0, .int .i64 0, .int .i64 0, .int .u64 0], .int .u16 0] 8 (World.laidAll_os _ _ _)
      (World.shaped_of_ZipB (by kernel_rfl) (by kernel_rfl)) (by kernel_rfl) (by kernel_rfl) (by kernel_rfl)
      (by rw [MakeChecks.laidMetH_plain _ _ _ (by kernel_rfl)]; exact laidMet_laidAll _ (by kernel_rfl) (by kernel_rfl))) ?_
  intro W base args ds gs before hval0 hW hcnd hsz0 hL0 _
  have hL : laidMet Tryz.prog Rows.passRunsRow.laid W := by
    have hL1 : laidMetH Tryz.prog Rows.passRunsRow.laid W := hL0
    rw [MakeChecks.laidMetH_plain _ _ _ (by kernel_rfl)] at hL1
    exact hL1
  have t0 : Cells (Full W) (some ⟨0, 0, none⟩) (flatF 9 Rows.laid_math_bits_deBruijn32tab) := laid_at (by kernel_rfl) (by kernel_rfl : (Tryz.prog.globals[0]?).map (·.type) = some 147) (by kernel_rfl) 0 hL rfl
  have t1 : Cells (Full W) (some ⟨1, 0, none⟩) (flatF 9 Rows.laid_math_bits_deBruijn64tab) := laid_at (by kernel_rfl) (by kernel_rfl : (Tryz.prog.globals[1]?).map (·.type) = some 148) (by kernel_rfl) 1 hL rfl
  have hsz : (DataW.weightsEach Tryz.prog (Tryz.f3.params.toList ++ Rows.passRunsSpec.plain.varTypes Tryz.prog) (ds ++ gs)).all (· ≤ reachBytes) = true := hsz0
  have hval : ∀ (j : Nat) t v, Tryz.f3.params[j]? = some t → args[j]? = some v → Value.okWide Tryz.prog W .any base t v := hval0
  have hW' := hW
  obtain ⟨p, q, hA0, hV, rfl, hfz, hnd⟩ := hW'
  have hA : DataW.TrodAll enc Tryz.prog W 0 (fun _ => true) true Tryz.f3.params.toList args.toList ds p := hA0
  rw [Tryz.params3] at hA hval hsz
  obtain ⟨v0, vs0, d0, ds0, p0, q0, hargs, rfl, rfl, h0, r0⟩ := trodAll_cons hA
  obtain ⟨v1, vs1, d1, ds1, p1, q1, rfl, rfl, rfl, h1, r1⟩ := trodAll_cons r0
  obtain ⟨v2, vs2, d2, ds2, p2, q2, rfl, rfl, rfl, h2, r2⟩ := trodAll_cons r1
  obtain ⟨rfl, rfl, rfl⟩ := trodAll_nil r2
  obtain rfl : args = #[v0, v1, v2] := by cases args; simp_all
  obtain ⟨rfl, rfl⟩ := trodVars_none hV
  obtain ⟨A0, n0, m0, rfl, fu0, hf0⟩ := open_sl Tryz.underlying22 (hval 0 22 v0 rfl rfl) h0
  obtain ⟨_, _, _, hv0, lm0, mm0, e0, ln0, c0⟩ := trod_words Tryz.underlying22 Tryz.underlying25 (by kernel_rfl) hf0
  obtain ⟨rfl, rfl, rfl⟩ : A0 = _ ∧ n0 = _ ∧ m0 = _ := by simpa using hv0
  obtain ⟨cs1, rfl, sl1, _, sf1⟩ := open_st Tryz.underlying27 (hval 1 27 v1 rfl rfl) h1
  obtain ⟨_, _, qsf1_0⟩ := sf1 0 _ rfl
  obtain ⟨_, _, sf1_0⟩ := trod_st Tryz.underlying24 qsf1_0
  obtain ⟨a1_0, x1_0, w1_0⟩ := trod_fint (o := 0) Tryz.underlying3 (by kernel_rfl) (sf1_0 0 _ rfl)
  have b1_0 := wf_int w1_0
  obtain ⟨a1_1, x1_1, w1_1⟩ := trod_fint (o := 1) Tryz.underlying3 (by kernel_rfl) (sf1_0 1 _ rfl)
  have b1_1 := wf_int w1_1
  obtain ⟨a1_2, x1_2, w1_2⟩ := trod_fint (o := 2) Tryz.underlying3 (by kernel_rfl) (sf1 1 _ rfl)
  have b1_2 := wf_int w1_2
  obtain ⟨a1_3, x1_3, w1_3⟩ := trod_fint (o := 3) Tryz.underlying3 (by kernel_rfl) (sf1 2 _ rfl)
  have b1_3 := wf_int w1_3
  obtain ⟨a1_4, x1_4, w1_4⟩ := trod_fint (o := 4) Tryz.underlying25 (by kernel_rfl) (sf1 3 _ rfl)
  have b1_4 := wf_int w1_4
  obtain rfl : cs1 = [.int .i64 a1_0, .int .i64 a1_1, .int .i64 a1_2, .int .i64 a1_3, .int .u64 a1_4] := EqAll.out ⟨sub_get (x1_0), sub_get (x1_1), x1_2, x1_3, x1_4, trivial⟩ (sl1.trans (by kernel_rfl))
  obtain ⟨a2, rfl, rfl, rfl, w2⟩ := open_int Tryz.underlying28 (hval 2 28 v2 rfl rfl) h2
  have b2 := wf_int w2
  exact law_post (by kernel_rfl) rfl Tryz.underlying4 (by kernel_rfl) rfl rfl hW (by obtain ⟨x, rfl⟩ := Int.eq_ofNat_of_zero_le b2.1; obtain ⟨s, rfl⟩ := Int.eq_ofNat_of_zero_le b1_4.1; have hs0 : s < 18446744073709551616 := (by have h : (s : Int) ≤ 18446744073709551615 := b1_4.2; omega); have := Pas.PassRuns_ok A0 n0 m0 lm0 e0 ln0.symm a1_0 a1_1 a1_2 a1_3 (UInt64.ofNat s) b1_0 b1_1 x (Int.ofNat_le.1 b2.2) _ (by first | exact (show Shp.T64 _ from t0) | exact (show Shp.T64 _ from t1) | exact (show Shp.T64 _ from t2) | exact (show Shp.T64 _ from t3)) c0; rw [UInt64.toNat_ofNat_of_lt' hs0] at this; exact this)
theorem over : Rows.passRunsRow.holds Tryz.pinned (OpenSpec.ofChange Rows.passRunsSpec) :=
  OpenClaim.holds_of_wide 3 Tryz.f3 rfl rfl rfl rfl rfl rfl rfl ⟨rfl, rfl, rfl, rfl, rfl⟩ rfl rfl rfl rfl rfl (by kernel_rfl) Tryz.func3 (by kernel_rfl)
    (of_decide_eq_true (by kernel_rfl)) (by unfold Func.isWrapper; first | (rw [if_pos (by decide +kernel)]; kernel_rfl) | (rw [if_neg (by decide +kernel)]; exact ⟨rfl, rfl⟩))
    (fun os started H enc _ => lifted os started H enc)
theorem proved : Rows.PassRunsCardSaid :=
  Claim7.holds_tied_plain_at .later [] [.data, .data] true (true, "4867900e06f8f44255c7d0d69dbabd9264c6f4047d0304a75f7d49ff31efcbfc") false
    over (fun _ h => by cases h) (by kernel_rfl) (fun _ h => by cases h) passRuns_row_tie rfl ⟨rfl, rfl⟩ (by kernel_rfl) rfl
    (fun f fn hf hfn => by
      obtain rfl : f = 3 := Option.some.inj ((show Tryz.prog.funcNamed "abacist/abacistlaw23.PassRuns" = some 3 by kernel_rfl).symm.trans hf) |>.symm
      obtain rfl : fn = Tryz.f3 := (Option.some.inj (Tryz.func3.symm.trans hfn)).symm
      exact ⟨by kernel_rfl, fun j t ht => by
        rw [Tryz.params3] at ht
        have hm : t ∈ [22, 27, 28] := by simpa using Array.mem_of_getElem? ht
        have hall : ([22, 27, 28].all fun u => !Tryz.prog.wantsStandIn u) = true := by kernel_rfl
        exact (show Tryz.prog.wantsStandIn t = false by simpa using List.all_eq_true.1 hall t hm)⟩)
    (by kernel_rfl)
#print axioms proved
end Go.Proofs.YtbnhfcdagoigkaaGreatDoor.passRuns
namespace Go.Proofs.YtbnhfcdagoigkaaGreatDoor
/-- The card, under a short name, for the claim. -/
theorem passRuns_holds : Rows.PassRunsCardSaid := passRuns.proved
end Go.Proofs.YtbnhfcdagoigkaaGreatDoor

