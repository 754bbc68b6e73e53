import Derived.Test.YtbnhfcdagoigkaaDoorRows
import Derived.Test.YtbnhfcdagoigkaaDoorCards
import Derived.Test.YtbnhfcdagoigkaaDoorTie
import Derived.SevenTiedAt
import Derived.Handy
import Derived.LaidMore
import Derived.Lay
import Derived.Test.YtbnhfcdagoigkaaDoorPkPassBack6
/- For every input the law PassBack returns true, and each argument reads behind the call as it read before. No condition. -/
namespace Go.Proofs.YtbnhfcdagoigkaaDoor.passBack
open Go.ChangeShapes Go.WideShapes Go.ChangeAt Go.RowKit Go.Hw
open Go.ChangeMaps (open_string shut_string)
set_option linter.unusedVariables false
set_option linter.unusedSimpArgs false
theorem own : ownKnob Tryd.prog.godebug = none := by kernel_rfl
set_option maxRecDepth 100000 in
theorem lifted (os : Os) (started : os.Started) (H : Type) (enc : TypeId × Value → H) :
    ReturnsInHanded {} Tryd.checked os 5 .any (fun w args => (Rows.passBackSpec.pre enc Tryd.prog Tryd.f5 [] false w args ∧ laidMetH Tryd.prog Rows.passBackRow.laid w) ∧ sizedMet enc Tryd.prog Tryd.f5 (OpenSpec.ofChange Rows.passBackSpec) false w args) (Rows.passBackSpec.post enc Tryd.prog Tryd.f5 false true false false) := by
  refine returnsInHanded_of_change_and (C := Tryd.checked) (X := (fun w _ => laidMetH Tryd.prog Rows.passBackRow.laid w)) (fun _ _ _ hh h => h.of_heap hh) own started (by kernel_rfl) Tryd.func5
    (ChangeSpec.witness_shaped (enc := enc) (C := Tryd.checked) (os := os) (X := (fun w _ => laidMetH Tryd.prog Rows.passBackRow.laid w)) false (World.laidAll Tryd.prog os Rows.passBackRow.laid) #[.slice none 0 0, .agg #[.int .i64 0, .int .i64 0], .int .u16 0] 8 (World.laidAll_os _ _ _)
      (World.shaped_of_ZipB (by kernel_rfl) (by kernel_rfl)) (by kernel_rfl) (by kernel_rfl) (by kernel_rfl)
      (by rw [MakeChecks.laidMetH_plain _ _ _ (by kernel_rfl)]; exact laidMet_laidAll _ (by kernel_rfl) (by kernel_rfl))) ?_
  intro W base args ds gs before hval0 hW hcnd hsz0 hL0 _
  have hL : laidMet Tryd.prog Rows.passBackRow.laid W := by
    have hL1 : laidMetH Tryd.prog Rows.passBackRow.laid W := hL0
    rw [MakeChecks.laidMetH_plain _ _ _ (by kernel_rfl)] at hL1
    exact hL1
  have t0 : Cells (Full W) (some ⟨2, 0, none⟩) (flatF 9 Rows.laid_math_bits_deBruijn32tab) := laid_at (by kernel_rfl) (by kernel_rfl : (Tryd.prog.globals[2]?).map (·.type) = some 248) (by kernel_rfl) 0 hL rfl
  have t1 : Cells (Full W) (some ⟨3, 0, none⟩) (flatF 9 Rows.laid_math_bits_deBruijn64tab) := laid_at (by kernel_rfl) (by kernel_rfl : (Tryd.prog.globals[3]?).map (·.type) = some 249) (by kernel_rfl) 1 hL rfl
  have hsz : (DataW.weightsEach Tryd.prog (Tryd.f5.params.toList ++ Rows.passBackSpec.plain.varTypes Tryd.prog) (ds ++ gs)).all (· ≤ reachBytes) = true := hsz0
  have hval : ∀ (j : Nat) t v, Tryd.f5.params[j]? = some t → args[j]? = some v → Value.okWide Tryd.prog W .any base t v := hval0
  have hW' := hW
  obtain ⟨p, q, hA0, hV, rfl, hfz, hnd⟩ := hW'
  have hA : DataW.TrodAll enc Tryd.prog W 0 (fun _ => true) true Tryd.f5.params.toList args.toList ds p := hA0
  rw [Tryd.params5] at hA hval hsz
  obtain ⟨v0, vs0, d0, ds0, p0, q0, hargs, rfl, rfl, h0, r0⟩ := trodAll_cons hA
  obtain ⟨v1, vs1, d1, ds1, p1, q1, rfl, rfl, rfl, h1, r1⟩ := trodAll_cons r0
  obtain ⟨v2, vs2, d2, ds2, p2, q2, rfl, rfl, rfl, h2, r2⟩ := trodAll_cons r1
  obtain ⟨rfl, rfl, rfl⟩ := trodAll_nil r2
  obtain rfl : args = #[v0, v1, v2] := by cases args; simp_all
  obtain ⟨rfl, rfl⟩ := trodVars_none hV
  obtain ⟨A0, n0, m0, rfl, fu0, hf0⟩ := open_sl Tryd.underlying42 (hval 0 42 v0 rfl rfl) h0
  obtain ⟨_, _, _, hv0, lm0, mm0, e0, ln0, c0⟩ := trod_words Tryd.underlying42 Tryd.underlying22 (by kernel_rfl) hf0
  obtain ⟨rfl, rfl, rfl⟩ : A0 = _ ∧ n0 = _ ∧ m0 = _ := by simpa using hv0
  obtain ⟨cs1, rfl, sl1, _, sf1⟩ := open_st Tryd.underlying44 (hval 1 44 v1 rfl rfl) h1
  obtain ⟨a1_0, x1_0, w1_0⟩ := trod_fint (o := 0) Tryd.underlying3 (by kernel_rfl) (sf1 0 _ rfl)
  have b1_0 := wf_int w1_0
  obtain ⟨a1_1, x1_1, w1_1⟩ := trod_fint (o := 1) Tryd.underlying3 (by kernel_rfl) (sf1 1 _ rfl)
  have b1_1 := wf_int w1_1
  obtain rfl : cs1 = [.int .i64 a1_0, .int .i64 a1_1] := EqAll.out ⟨x1_0, x1_1, trivial⟩ (sl1.trans (by kernel_rfl))
  obtain ⟨a2, rfl, rfl, rfl, w2⟩ := open_int Tryd.underlying39 (hval 2 39 v2 rfl rfl) h2
  have b2 := wf_int w2
  exact law_post (by kernel_rfl) rfl Tryd.underlying4 (by kernel_rfl) rfl rfl hW (by obtain ⟨x, rfl⟩ := Int.eq_ofNat_of_zero_le b2.1; exact Pas.PassBack_ok A0 n0 m0 lm0 e0 ln0.symm a1_0 a1_1 b1_0 b1_1 x (Int.ofNat_le.1 b2.2) _ (by first | exact (show Shp.T64 _ from t0) | exact (show Shp.T64 _ from t1) | exact (show Shp.T64 _ from t2) | exact (show Shp.T64 _ from t3)) c0)
theorem over : Rows.passBackRow.holds Tryd.pinned (OpenSpec.ofChange Rows.passBackSpec) :=
  OpenClaim.holds_of_wide 5 Tryd.f5 rfl rfl rfl rfl rfl rfl rfl ⟨rfl, rfl, rfl, rfl, rfl⟩ rfl rfl rfl rfl rfl (by kernel_rfl) Tryd.func5 (by kernel_rfl)
    (of_decide_eq_true (by kernel_rfl)) (by unfold Func.isWrapper; first | (rw [if_pos (by decide +kernel)]; kernel_rfl) | (rw [if_neg (by decide +kernel)]; exact ⟨rfl, rfl⟩))
    (fun os started H enc _ => lifted os started H enc)
theorem proved : Rows.PassBackCardSaid :=
  Claim7.holds_tied_plain_at .later [] [.data, .data] true (true, "8baf4567e59a94612e3a177372636c75f72025906b542ef04cd9e6970fa3bae9") true
    over (fun _ h => by cases h) (by kernel_rfl) (fun _ h => by cases h) passBack_row_tie rfl ⟨rfl, rfl⟩ (by kernel_rfl) rfl
    (fun f fn hf hfn => by
      obtain rfl : f = 5 := Option.some.inj ((show Tryd.prog.funcNamed "abacist/abacistlaw23.PassBack" = some 5 by kernel_rfl).symm.trans hf) |>.symm
      obtain rfl : fn = Tryd.f5 := (Option.some.inj (Tryd.func5.symm.trans hfn)).symm
      exact ⟨by kernel_rfl, fun j t ht => by
        rw [Tryd.params5] at ht
        have hm : t ∈ [42, 44, 39] := by simpa using Array.mem_of_getElem? ht
        have hall : ([42, 44, 39].all fun u => !Tryd.prog.wantsStandIn u) = true := by kernel_rfl
        exact (show Tryd.prog.wantsStandIn t = false by simpa using List.all_eq_true.1 hall t hm)⟩)
    (by kernel_rfl)
#print axioms proved
end Go.Proofs.YtbnhfcdagoigkaaDoor.passBack
namespace Go.Proofs.YtbnhfcdagoigkaaDoor
/-- The card, under a short name, for the claim. -/
theorem passBack_holds : Rows.PassBackCardSaid := passBack.proved
end Go.Proofs.YtbnhfcdagoigkaaDoor

