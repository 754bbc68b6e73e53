import Derived.Test.YtlgpappgnndgiaaGreatDoorRows
import Derived.Test.YtlgpappgnndgiaaGreatDoorCards
import Derived.Test.YtlgpappgnndgiaaGreatDoorTie
import Derived.SevenTiedAt
import Derived.Handy
import Derived.LaidMore
import Derived.Lay
import Derived.Test.YtlgpappgnndgiaaGreatDoorPkRingMakes5
/- For every input the law RingMakes returns true, and each argument reads behind the call as it read before. No condition. -/
namespace Go.Proofs.YtlgpappgnndgiaaGreatDoor.ringMakes
open Go.ChangeShapes Go.WideShapes Go.ChangeAt Go.RowKit Go.Hw
open Go.ChangeMaps (open_string shut_string)
set_option linter.unusedVariables false
set_option linter.unusedSimpArgs false
theorem own : ownKnob Tryz.prog.godebug = none := by kernel_rfl
set_option maxRecDepth 100000 in
theorem lifted (os : Os) (started : os.Started) (H : Type) (enc : TypeId × Value → H) :
    ReturnsInHanded {} Tryz.checked os 4 .any (fun w args => (Rows.ringMakesSpec.pre enc Tryz.prog Tryz.f4 [] false w args ∧ laidMetH Tryz.prog Rows.ringMakesRow.laid w) ∧ sizedMet enc Tryz.prog Tryz.f4 (OpenSpec.ofChange Rows.ringMakesSpec) false w args) (Rows.ringMakesSpec.post enc Tryz.prog Tryz.f4 false true false false) := by
  refine returnsInHanded_of_change_and (C := Tryz.checked) (X := (fun w _ => laidMetH Tryz.prog Rows.ringMakesRow.laid w)) (fun _ _ _ hh h => h.of_heap hh) own started (by kernel_rfl) Tryz.func4
    (ChangeSpec.witness_shaped (enc := enc) (C := Tryz.checked) (os := os) (X := (fun w _ => laidMetH Tryz.prog Rows.ringMakesRow.laid w)) false (World.laidAll Tryz.prog os Rows.ringMakesRow.laid) #[.agg #[.int .i64 0, .int .i64 0, .int .i64 0]] 8 (World.laidAll_os _ _ _)
      (World.shaped_of_ZipB (by kernel_rfl) (by kernel_rfl)) (by kernel_rfl) (by kernel_rfl) (by kernel_rfl)
      (by rw [MakeChecks.laidMetH_plain _ _ _ (by kernel_rfl)]; exact laidMet_laidAll _ (by kernel_rfl) (by kernel_rfl))) ?_
  intro W base args ds gs before hval0 hW hcnd hsz0 hL0 _
  have hL : laidMet Tryz.prog Rows.ringMakesRow.laid W := by
    have hL1 : laidMetH Tryz.prog Rows.ringMakesRow.laid W := hL0
    rw [MakeChecks.laidMetH_plain _ _ _ (by kernel_rfl)] at hL1
    exact hL1
  have t0 : Cells (Full W) (some ⟨5, 0, none⟩) (flatF 9 Rows.laid_unicode_utf8_acceptRanges) := laid_at (by kernel_rfl) (by kernel_rfl : (Tryz.prog.globals[5]?).map (·.type) = some 378) (by kernel_rfl) 0 hL rfl
  have t1 : Cells (Full W) (some ⟨4, 0, none⟩) (flatF 9 Rows.laid_unicode_utf8_first) := laid_at (by kernel_rfl) (by kernel_rfl : (Tryz.prog.globals[4]?).map (·.type) = some 375) (by kernel_rfl) 1 hL rfl
  have hsz : (DataW.weightsEach Tryz.prog (Tryz.f4.params.toList ++ Rows.ringMakesSpec.plain.varTypes Tryz.prog) (ds ++ gs)).all (· ≤ reachBytes) = true := hsz0
  have hval : ∀ (j : Nat) t v, Tryz.f4.params[j]? = some t → args[j]? = some v → Value.okWide Tryz.prog W .any base t v := hval0
  have hW' := hW
  obtain ⟨p, q, hA0, hV, rfl, hfz, hnd⟩ := hW'
  have hA : DataW.TrodAll enc Tryz.prog W 0 (fun _ => true) true Tryz.f4.params.toList args.toList ds p := hA0
  rw [Tryz.params4] at hA hval hsz
  obtain ⟨v0, vs0, d0, ds0, p0, q0, hargs, rfl, rfl, h0, r0⟩ := trodAll_cons hA
  obtain ⟨rfl, rfl, rfl⟩ := trodAll_nil r0
  obtain rfl : args = #[v0] := by cases args; simp_all
  obtain ⟨rfl, rfl⟩ := trodVars_none hV
  obtain ⟨cs0, rfl, sl0, _, sf0⟩ := open_st Tryz.underlying30 (hval 0 30 v0 rfl rfl) h0
  obtain ⟨a0_0, x0_0, w0_0⟩ := trod_fint (o := 0) Tryz.underlying3 (by kernel_rfl) (sf0 0 _ rfl)
  have b0_0 := wf_int w0_0
  obtain ⟨a0_1, x0_1, w0_1⟩ := trod_fint (o := 1) Tryz.underlying3 (by kernel_rfl) (sf0 1 _ rfl)
  have b0_1 := wf_int w0_1
  obtain ⟨a0_2, x0_2, w0_2⟩ := trod_fint (o := 2) Tryz.underlying3 (by kernel_rfl) (sf0 2 _ rfl)
  have b0_2 := wf_int w0_2
  obtain rfl : cs0 = [.int .i64 a0_0, .int .i64 a0_1, .int .i64 a0_2] := EqAll.out ⟨x0_0, x0_1, x0_2, trivial⟩ (sl0.trans (by kernel_rfl))
  exact law_post (by kernel_rfl) rfl Tryz.underlying4 (by kernel_rfl) rfl rfl hW (Rng.RingMakes_ok a0_0 a0_1 a0_2 b0_0 _)
theorem over : Rows.ringMakesRow.holds Tryz.pinned (OpenSpec.ofChange Rows.ringMakesSpec) :=
  OpenClaim.holds_of_wide 4 Tryz.f4 rfl rfl rfl rfl rfl rfl rfl ⟨rfl, rfl, rfl, rfl, rfl⟩ rfl rfl rfl rfl rfl (by kernel_rfl) Tryz.func4 (by kernel_rfl)
    (of_decide_eq_true (by kernel_rfl)) (by unfold Func.isWrapper; first | (rw [if_pos (by decide +kernel)]; kernel_rfl) | (rw [if_neg (by decide +kernel)]; exact ⟨rfl, rfl⟩))
    (fun os started H enc _ => lifted os started H enc)
theorem proved : Rows.RingMakesCardSaid :=
  Claim7.holds_tied_plain_at .later [] [.data, .pinned] true (true, "5655a38b66210111165de80fed2f90d10ad33971d943f2d19a22b7aebb898712") false
    over (fun _ h => by cases h) (by kernel_rfl) (fun _ h => by cases h) ringMakes_row_tie rfl ⟨rfl, rfl⟩ (by kernel_rfl) rfl
    (fun f fn hf hfn => by
      obtain rfl : f = 4 := Option.some.inj ((show Tryz.prog.funcNamed "abacist/abacistlaw21.RingMakes" = some 4 by kernel_rfl).symm.trans hf) |>.symm
      obtain rfl : fn = Tryz.f4 := (Option.some.inj (Tryz.func4.symm.trans hfn)).symm
      exact ⟨by kernel_rfl, fun j t ht => by
        rw [Tryz.params4] at ht
        have hm : t ∈ [30] := by simpa using Array.mem_of_getElem? ht
        have hall : ([30].all fun u => !Tryz.prog.wantsStandIn u) = true := by kernel_rfl
        exact (show Tryz.prog.wantsStandIn t = false by simpa using List.all_eq_true.1 hall t hm)⟩)
    (by kernel_rfl)
#print axioms proved
end Go.Proofs.YtlgpappgnndgiaaGreatDoor.ringMakes
namespace Go.Proofs.YtlgpappgnndgiaaGreatDoor
/-- The card, under a short name, for the claim. -/
theorem ringMakes_holds : Rows.RingMakesCardSaid := ringMakes.proved
end Go.Proofs.YtlgpappgnndgiaaGreatDoor

