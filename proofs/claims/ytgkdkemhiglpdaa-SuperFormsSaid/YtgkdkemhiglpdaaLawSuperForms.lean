/- For every input the law SuperForms returns true, and each argument reads behind the call as it read before. No condition. -/
import Derived.Test.YtgkdkemhiglpdaaRows
import Derived.Test.YtgkdkemhiglpdaaHwQ
import Derived.Test.YtgkdkemhiglpdaaSupL
namespace Go.Proofs.Ytgkdkemhiglpdaa.superForms
open Go.ChangeShapes Go.WideShapes Go.ChangeAt Go.RowKit Go.Hw
open Go.ChangeMaps (open_string shut_string)
set_option linter.unusedVariables false
set_option linter.unusedSimpArgs false
theorem own : ownKnob Try.prog.godebug = none := by kernel_rfl
set_option maxRecDepth 100000 in
theorem lifted (os : Os) (started : os.Started) (H : Type) (enc : TypeId × Value → H) :
    ReturnsInHanded {} Try.checked os 3 .any (Rows.superFormsSpec.pre6 enc Try.prog Try.f3 Rows.superFormsRow.domain false) (Rows.superFormsSpec.post enc Try.prog Try.f3 false true false false) := by
  refine returnsInHanded_of_change_sized (C := Try.checked) own started (by kernel_rfl) Try.func3
    (ChangeSpec.witness6 (enc := enc) (C := Try.checked) false ⟨#[], #[.agg #[.int .i64 0, .int .i64 0, .int .i64 0, .int .i64 0], .slice none 0 0], []⟩ 8 (by kernel_rfl) (by kernel_rfl) (by kernel_rfl) (by kernel_rfl)) ?_
  intro W base args ds gs before hval0 hW hcnd hsz0 _
  have hsz : (DataW.weightsEach Try.prog (Try.f3.params.toList ++ Rows.superFormsSpec.plain.varTypes Try.prog) (ds ++ gs)).all (· ≤ reachBytes) = true := hsz0
  have hval : ∀ (j : Nat) t v, Try.f3.params[j]? = some t → args[j]? = some v → Value.okWide Try.prog W .any base t v := hval0
  have hW' := hW
  obtain ⟨p, q, hA0, hV, rfl, hfz, hnd⟩ := hW'
  have hA : DataW.TrodAll enc Try.prog W 0 (fun _ => true) true Try.f3.params.toList args.toList ds p := hA0
  rw [Try.params3] at hA hval hsz
  obtain ⟨v0, vs0, d0, ds0, p0, q0, hargs, rfl, rfl, h0, r0⟩ := trodAll_cons hA
  obtain ⟨v1, vs1, d1, ds1, p1, q1, rfl, rfl, rfl, h1, r1⟩ := trodAll_cons r0
  obtain ⟨rfl, rfl, rfl⟩ := trodAll_nil r1
  obtain rfl : args = #[v0, v1] := by cases args; simp_all
  obtain ⟨rfl, rfl⟩ := trodVars_none hV
  obtain ⟨cs0, rfl, sl0, _, sf0⟩ := open_st Try.underlying23 (hval 0 23 v0 rfl rfl) h0
  obtain ⟨a0_0, x0_0, w0_0⟩ := trod_fint (o := 0) Try.underlying3 (by kernel_rfl) (sf0 0 _ rfl)
  have b0_0 := wf_int w0_0
  obtain ⟨a0_1, x0_1, w0_1⟩ := trod_fint (o := 1) Try.underlying3 (by kernel_rfl) (sf0 1 _ rfl)
  have b0_1 := wf_int w0_1
  obtain ⟨a0_2, x0_2, w0_2⟩ := trod_fint (o := 2) Try.underlying3 (by kernel_rfl) (sf0 2 _ rfl)
  have b0_2 := wf_int w0_2
  obtain ⟨a0_3, x0_3, w0_3⟩ := trod_fint (o := 3) Try.underlying3 (by kernel_rfl) (sf0 3 _ rfl)
  have b0_3 := wf_int w0_3
  obtain rfl : cs0 = [.int .i64 a0_0, .int .i64 a0_1, .int .i64 a0_2, .int .i64 a0_3] := EqAll.out ⟨x0_0, x0_1, x0_2, x0_3, trivial⟩ (sl0.trans (by kernel_rfl))
  obtain ⟨A1, n1, m1, rfl, fu1, hf1⟩ := open_sl Try.underlying24 (hval 1 24 v1 rfl rfl) h1
  obtain ⟨_, _, _, hv1, lm1, mm1, e1, ln1, c1⟩ := trod_bytes Try.underlying24 Try.underlying5 (by kernel_rfl) hf1
  obtain ⟨rfl, rfl, rfl⟩ : A1 = _ ∧ n1 = _ ∧ m1 = _ := by simpa using hv1
  exact law_post (by kernel_rfl) rfl Try.underlying4 (by kernel_rfl) rfl rfl hW (Sup.SuperForms_ok a0_0 a0_1 a0_2 a0_3 b0_0 b0_1 b0_2 b0_3 _ _ _ lm1 e1 ln1.symm _ c1)
theorem over : Rows.superFormsRow.holds Try.pinned (OpenSpec.ofChange Rows.superFormsSpec) :=
  OpenClaim.holds_of_wide 3 Try.f3 rfl rfl rfl rfl rfl rfl rfl ⟨rfl, rfl, rfl, rfl, rfl⟩ rfl rfl rfl rfl rfl (by kernel_rfl) Try.func3 (by kernel_rfl)
    (of_decide_eq_true (by kernel_rfl)) (by unfold Func.isWrapper; first | (rw [if_pos (by decide +kernel)]; kernel_rfl) | (rw [if_neg (by decide +kernel)]; exact ⟨rfl, rfl⟩))
    (fun os started H enc _ => lifted os started H enc)
theorem proved : Rows.SuperFormsSaid := over
#print axioms proved
end Go.Proofs.Ytgkdkemhiglpdaa.superForms
namespace Go.Proofs.Ytgkdkemhiglpdaa
/-- The row, under a short name, for the claim. -/
theorem superForms_holds : Rows.SuperFormsSaid := superForms.proved
end Go.Proofs.Ytgkdkemhiglpdaa
