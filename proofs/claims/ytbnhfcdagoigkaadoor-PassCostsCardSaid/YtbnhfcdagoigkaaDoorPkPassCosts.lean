import Derived.Test.YtbnhfcdagoigkaaDoorRows
import Derived.Test.YtbnhfcdagoigkaaDoorCards
import Derived.Test.YtbnhfcdagoigkaaDoorTie
import Derived.SevenTiedAt
import Derived.Handy
import Derived.LaidMore
import Derived.Lay
import Derived.Test.YtbnhfcdagoigkaaDoorPkPassCosts6
/- For every input the law PassCosts returns true, and each argument reads behind the call as it read before. No condition. -/
namespace Go.Proofs.YtbnhfcdagoigkaaDoor.passCosts
open Go.ChangeShapes Go.WideShapes Go.ChangeAt Go.RowKit Go.Hw
open Go.ChangeMaps (open_string shut_string)
set_option linter.unusedVariables false
set_option linter.unusedSimpArgs false
theorem own : ownKnob Tryd.prog.godebug = none := by kernel_rfl
set_option maxRecDepth 100000 in
theorem lifted (os : Os) (started : os.Started) (H : Type) (enc : TypeId × Value → H) :
    ReturnsInHanded {} Tryd.checked os 6 .any (fun w args => (Rows.passCostsSpec.pre enc Tryd.prog Tryd.f6 [] false w args ∧ laidMetH Tryd.prog Rows.passCostsRow.laid w) ∧ sizedMet enc Tryd.prog Tryd.f6 (OpenSpec.ofChange Rows.passCostsSpec) false w args) (Rows.passCostsSpec.post enc Tryd.prog Tryd.f6 false true false false) := by
  refine returnsInHanded_of_change_and (C := Tryd.checked) (X := (fun w _ => laidMetH Tryd.prog Rows.passCostsRow.laid w)) (fun _ _ _ hh h => h.of_heap hh) own started (by kernel_rfl) Tryd.func6
    (ChangeSpec.witness_shaped (enc := enc) (C := Tryd.checked) (os := os) (X := (fun w _ => laidMetH Tryd.prog Rows.passCostsRow.laid w)) false (World.laidAll Tryd.prog os Rows.passCostsRow.laid) #[.agg #[.int .i64 0, .int .i64 0], .int .u16 0] 8 (World.laidAll_os _ _ _)
      (World.shaped_of_ZipB (by kernel_rfl) (by kernel_rfl)) (by kernel_rfl) (by kernel_rfl) (by kernel_rfl)
      (by rw [MakeChecks.laidMetH_plain _ _ _ (by kernel_rfl)]; exact laidMet_laidAll _ (by kernel_rfl) (by kernel_rfl))) ?_
  intro W base args ds gs before hval0 hW hcnd hsz0 hL0 _
  have hL : laidMet Tryd.prog Rows.passCostsRow.laid W := by
    have hL1 : laidMetH Tryd.prog Rows.passCostsRow.laid W := hL0
    rw [MakeChecks.laidMetH_plain _ _ _ (by kernel_rfl)] at hL1
    exact hL1
  have t0 : Cells (Full W) (some ⟨2, 0, none⟩) (flatF 9 Rows.laid_math_bits_deBruijn32tab) := laid_at (by kernel_rfl) (by kernel_rfl : (Tryd.prog.globals[2]?).map (·.type) = some 248) (by kernel_rfl) 0 hL rfl
  have t1 : Cells (Full W) (some ⟨3, 0, none⟩) (flatF 9 Rows.laid_math_bits_deBruijn64tab) := laid_at (by kernel_rfl) (by kernel_rfl : (Tryd.prog.globals[3]?).map (·.type) = some 249) (by kernel_rfl) 1 hL rfl
  have hsz : (DataW.weightsEach Tryd.prog (Tryd.f6.params.toList ++ Rows.passCostsSpec.plain.varTypes Tryd.prog) (ds ++ gs)).all (· ≤ reachBytes) = true := hsz0
  have hval : ∀ (j : Nat) t v, Tryd.f6.params[j]? = some t → args[j]? = some v → Value.okWide Tryd.prog W .any base t v := hval0
  have hW' := hW
  obtain ⟨p, q, hA0, hV, rfl, hfz, hnd⟩ := hW'
  have hA : DataW.TrodAll enc Tryd.prog W 0 (fun _ => true) true Tryd.f6.params.toList args.toList ds p := hA0
  rw [Tryd.params6] at hA hval hsz
  obtain ⟨v0, vs0, d0, ds0, p0, q0, hargs, rfl, rfl, h0, r0⟩ := trodAll_cons hA
  obtain ⟨v1, vs1, d1, ds1, p1, q1, rfl, rfl, rfl, h1, r1⟩ := trodAll_cons r0
  obtain ⟨rfl, rfl, rfl⟩ := trodAll_nil r1
  obtain rfl : args = #[v0, v1] := by cases args; simp_all
  obtain ⟨rfl, rfl⟩ := trodVars_none hV
  obtain ⟨cs0, rfl, sl0, _, sf0⟩ := open_st Tryd.underlying44 (hval 0 44 v0 rfl rfl) h0
  obtain ⟨a0_0, x0_0, w0_0⟩ := trod_fint (o := 0) Tryd.underlying3 (by kernel_rfl) (sf0 0 _ rfl)
  have b0_0 := wf_int w0_0
  obtain ⟨a0_1, x0_1, w0_1⟩ := trod_fint (o := 1) Tryd.underlying3 (by kernel_rfl) (sf0 1 _ rfl)
  have b0_1 := wf_int w0_1
  obtain rfl : cs0 = [.int .i64 a0_0, .int .i64 a0_1] := EqAll.out ⟨x0_0, x0_1, trivial⟩ (sl0.trans (by kernel_rfl))
  obtain ⟨a1, rfl, rfl, rfl, w1⟩ := open_int Tryd.underlying39 (hval 1 39 v1 rfl rfl) h1
  have b1 := wf_int w1
  exact law_post (by kernel_rfl) rfl Tryd.underlying4 (by kernel_rfl) rfl rfl hW (by obtain ⟨x, rfl⟩ := Int.eq_ofNat_of_zero_le b1.1; exact Pas.PassCosts_ok a0_0 a0_1 b0_0 b0_1 x (Int.ofNat_le.1 b1.2) _ (by first | exact (show Shp.T64 _ from t0) | exact (show Shp.T64 _ from t1) | exact (show Shp.T64 _ from t2) | exact (show Shp.T64 _ from t3)))
theorem over : Rows.passCostsRow.holds Tryd.pinned (OpenSpec.ofChange Rows.passCostsSpec) :=
  OpenClaim.holds_of_wide 6 Tryd.f6 rfl rfl rfl rfl rfl rfl rfl ⟨rfl, rfl, rfl, rfl, rfl⟩ rfl rfl rfl rfl rfl (by kernel_rfl) Tryd.func6 (by kernel_rfl)
    (of_decide_eq_true (by kernel_rfl)) (by unfold Func.isWrapper; first | (rw [if_pos (by decide +kernel)]; kernel_rfl) | (rw [if_neg (by decide +kernel)]; exact ⟨rfl, rfl⟩))
    (fun os started H enc _ => lifted os started H enc)
theorem proved : Rows.PassCostsCardSaid :=
  Claim7.holds_tied_plain_at .later [] [.data, .data] true (true, "8baf4567e59a94612e3a177372636c75f72025906b542ef04cd9e6970fa3bae9") true
    over (fun _ h => by cases h) (by kernel_rfl) (fun _ h => by cases h) passCosts_row_tie rfl ⟨rfl, rfl⟩ (by kernel_rfl) rfl
    (fun f fn hf hfn => by
      obtain rfl : f = 6 := Option.some.inj ((show Tryd.prog.funcNamed "abacist/abacistlaw23.PassCosts" = some 6 by kernel_rfl).symm.trans hf) |>.symm
      obtain rfl : fn = Tryd.f6 := (Option.some.inj (Tryd.func6.symm.trans hfn)).symm
      exact ⟨by kernel_rfl, fun j t ht => by
        rw [Tryd.params6] at ht
        have hm : t ∈ [44, 39] := by simpa using Array.mem_of_getElem? ht
        have hall : ([44, 39].all fun u => !Tryd.prog.wantsStandIn u) = true := by kernel_rfl
        exact (show Tryd.prog.wantsStandIn t = false by simpa using List.all_eq_true.1 hall t hm)⟩)
    (by kernel_rfl)
#print axioms proved
end Go.Proofs.YtbnhfcdagoigkaaDoor.passCosts
namespace Go.Proofs.YtbnhfcdagoigkaaDoor
/-- The card, under a short name, for the claim. -/
theorem passCosts_holds : Rows.PassCostsCardSaid := passCosts.proved
end Go.Proofs.YtbnhfcdagoigkaaDoor

