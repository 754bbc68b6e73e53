/- For every input the law StreamCosts returns true, and each argument reads behind the call as it read before. No condition. -/
import Derived.Test.YtgkdkemhiglpdaaRows
import Derived.Test.YtgkdkemhiglpdaaHwQ
import Derived.Test.YtgkdkemhiglpdaaStrF
namespace Go.Proofs.Ytgkdkemhiglpdaa.streamCosts
open Go.ChangeShapes Go.WideShapes Go.ChangeAt Go.RowKit Go.Hw
open Go.ChangeMaps (open_string shut_string)
set_option linter.unusedVariables false
set_option linter.unusedSimpArgs false
theorem own : ownKnob Try.prog.godebug = none := by kernel_rfl
set_option maxRecDepth 100000 in
theorem lifted (os : Os) (started : os.Started) (H : Type) (enc : TypeId × Value → H) :
    ReturnsInHanded {} Try.checked os 4 .any (Rows.streamCostsSpec.pre6 enc Try.prog Try.f4 Rows.streamCostsRow.domain false) (Rows.streamCostsSpec.post enc Try.prog Try.f4 false true false false) := by
  refine returnsInHanded_of_change_sized (C := Try.checked) own started (by kernel_rfl) Try.func4
    (ChangeSpec.witness6 (enc := enc) (C := Try.checked) false ⟨#[], #[.int .u8 0, .int .u8 0, .int .u8 0], []⟩ 8 (by kernel_rfl) (by kernel_rfl) (by kernel_rfl) (by kernel_rfl)) ?_
  intro W base args ds gs before hval0 hW hcnd hsz0 _
  have hsz : (DataW.weightsEach Try.prog (Try.f4.params.toList ++ Rows.streamCostsSpec.plain.varTypes Try.prog) (ds ++ gs)).all (· ≤ reachBytes) = true := hsz0
  have hval : ∀ (j : Nat) t v, Try.f4.params[j]? = some t → args[j]? = some v → Value.okWide Try.prog W .any base t v := hval0
  have hW' := hW
  obtain ⟨p, q, hA0, hV, rfl, hfz, hnd⟩ := hW'
  have hA : DataW.TrodAll enc Try.prog W 0 (fun _ => true) true Try.f4.params.toList args.toList ds p := hA0
  rw [Try.params4] at hA hval hsz
  obtain ⟨v0, vs0, d0, ds0, p0, q0, hargs, rfl, rfl, h0, r0⟩ := trodAll_cons hA
  obtain ⟨v1, vs1, d1, ds1, p1, q1, rfl, rfl, rfl, h1, r1⟩ := trodAll_cons r0
  obtain ⟨v2, vs2, d2, ds2, p2, q2, rfl, rfl, rfl, h2, r2⟩ := trodAll_cons r1
  obtain ⟨rfl, rfl, rfl⟩ := trodAll_nil r2
  obtain rfl : args = #[v0, v1, v2] := by cases args; simp_all
  obtain ⟨rfl, rfl⟩ := trodVars_none hV
  obtain ⟨a0, rfl, rfl, rfl, w0⟩ := open_int Try.underlying5 (hval 0 5 v0 rfl rfl) h0
  have b0 := wf_int w0
  obtain ⟨a1, rfl, rfl, rfl, w1⟩ := open_int Try.underlying5 (hval 1 5 v1 rfl rfl) h1
  have b1 := wf_int w1
  obtain ⟨a2, rfl, rfl, rfl, w2⟩ := open_int Try.underlying5 (hval 2 5 v2 rfl rfl) h2
  have b2 := wf_int w2
  exact law_post (by kernel_rfl) rfl Try.underlying4 (by kernel_rfl) rfl rfl hW (by obtain ⟨w, rfl⟩ := Int.eq_ofNat_of_zero_le b0.1; obtain ⟨a, rfl⟩ := Int.eq_ofNat_of_zero_le b1.1; obtain ⟨n, rfl⟩ := Int.eq_ofNat_of_zero_le b2.1; exact Str.StreamCosts_ok w a n (Int.ofNat_le.1 b0.2) (Int.ofNat_le.1 b1.2) (Int.ofNat_le.1 b2.2) _)
theorem over : Rows.streamCostsRow.holds Try.pinned (OpenSpec.ofChange Rows.streamCostsSpec) :=
  OpenClaim.holds_of_wide 4 Try.f4 rfl rfl rfl rfl rfl rfl rfl ⟨rfl, rfl, rfl, rfl, rfl⟩ rfl rfl rfl rfl rfl (by kernel_rfl) Try.func4 (by kernel_rfl)
    (of_decide_eq_true (by kernel_rfl)) (by unfold Func.isWrapper; first | (rw [if_pos (by decide +kernel)]; kernel_rfl) | (rw [if_neg (by decide +kernel)]; exact ⟨rfl, rfl⟩))
    (fun os started H enc _ => lifted os started H enc)
theorem proved : Rows.StreamCostsSaid := over
#print axioms proved
end Go.Proofs.Ytgkdkemhiglpdaa.streamCosts
namespace Go.Proofs.Ytgkdkemhiglpdaa
/-- The row, under a short name, for the claim. -/
theorem streamCosts_holds : Rows.StreamCostsSaid := streamCosts.proved
end Go.Proofs.Ytgkdkemhiglpdaa
