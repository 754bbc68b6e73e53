/- For every input the law DiskSafe returns true, and each argument reads behind the call as it read before. No condition. -/
import Derived.Test.YtgkdkemhiglpdaaRows
import Derived.Test.YtgkdkemhiglpdaaHwQ
import Derived.Test.YtgkdkemhiglpdaaDskJ
namespace Go.Proofs.Ytgkdkemhiglpdaa.diskSafe
open Go.ChangeShapes Go.WideShapes Go.ChangeAt Go.RowKit Go.Hw
open Go.ChangeMaps (open_string shut_string)
set_option linter.unusedVariables false
set_option linter.unusedSimpArgs false
theorem own : ownKnob Try.prog.godebug = none := by kernel_rfl
set_option maxRecDepth 100000 in
theorem lifted (os : Os) (started : os.Started) (H : Type) (enc : TypeId × Value → H) :
    ReturnsInHanded {} Try.checked os 7 .any (Rows.diskSafeSpec.pre6 enc Try.prog Try.f7 Rows.diskSafeRow.domain false) (Rows.diskSafeSpec.post enc Try.prog Try.f7 false true false false) := by
  refine returnsInHanded_of_change_sized (C := Try.checked) own started (by kernel_rfl) Try.func7
    (ChangeSpec.witness6 (enc := enc) (C := Try.checked) false ⟨#[], #[.slice none 0 0, .slice none 0 0, .slice none 0 0], []⟩ 8 (by kernel_rfl) (by kernel_rfl) (by kernel_rfl) (by kernel_rfl)) ?_
  intro W base args ds gs before hval0 hW hcnd hsz0 _
  have hsz : (DataW.weightsEach Try.prog (Try.f7.params.toList ++ Rows.diskSafeSpec.plain.varTypes Try.prog) (ds ++ gs)).all (· ≤ reachBytes) = true := hsz0
  have hval : ∀ (j : Nat) t v, Try.f7.params[j]? = some t → args[j]? = some v → Value.okWide Try.prog W .any base t v := hval0
  have hW' := hW
  obtain ⟨p, q, hA0, hV, rfl, hfz, hnd⟩ := hW'
  have hA : DataW.TrodAll enc Try.prog W 0 (fun _ => true) true Try.f7.params.toList args.toList ds p := hA0
  rw [Try.params7] at hA hval hsz
  obtain ⟨v0, vs0, d0, ds0, p0, q0, hargs, rfl, rfl, h0, r0⟩ := trodAll_cons hA
  obtain ⟨v1, vs1, d1, ds1, p1, q1, rfl, rfl, rfl, h1, r1⟩ := trodAll_cons r0
  obtain ⟨v2, vs2, d2, ds2, p2, q2, rfl, rfl, rfl, h2, r2⟩ := trodAll_cons r1
  obtain ⟨rfl, rfl, rfl⟩ := trodAll_nil r2
  obtain rfl : args = #[v0, v1, v2] := by cases args; simp_all
  obtain ⟨rfl, rfl⟩ := trodVars_none hV
  obtain ⟨A0, n0, m0, rfl, fu0, hf0⟩ := open_sl Try.underlying80 (hval 0 80 v0 rfl rfl) h0
  obtain ⟨_, _, _, hv0, lm0, mm0, rw0, ln0, c0⟩ := trod_sl Try.underlying80 hf0
  obtain ⟨rfl, rfl, rfl⟩ : A0 = _ ∧ n0 = _ ∧ m0 = _ := by simpa using hv0
  obtain ⟨A1, n1, m1, rfl, fu1, hf1⟩ := open_sl Try.underlying80 (hval 1 80 v1 rfl rfl) h1
  obtain ⟨_, _, _, hv1, lm1, mm1, rw1, ln1, c1⟩ := trod_sl Try.underlying80 hf1
  obtain ⟨rfl, rfl, rfl⟩ : A1 = _ ∧ n1 = _ ∧ m1 = _ := by simpa using hv1
  obtain ⟨A2, n2, m2, rfl, fu2, hf2⟩ := open_sl Try.underlying81 (hval 2 81 v2 rfl rfl) h2
  obtain ⟨_, _, _, hv2, lm2, mm2, e2, ln2, c2⟩ := trod_bools Try.underlying81 Try.underlying4 (by kernel_rfl) hf2
  obtain ⟨rfl, rfl, rfl⟩ : A2 = _ ∧ n2 = _ ∧ m2 = _ := by simpa using hv2
  exact law_post (by kernel_rfl) rfl Try.underlying4 (by kernel_rfl) rfl rfl hW (by obtain ⟨l0, hl0, hc0, ha0⟩ := Dsk.acts_of ln0 c0; obtain ⟨l1, hl1, hc1, ha1⟩ := Dsk.acts_of ln1 c1; exact Dsk.DiskSafe_ok _ _ _ l0 hl0 _ _ _ l1 hl1 _ _ _ e2 ln2.symm _ hc0 ha0 hc1 ha1 c2)
theorem over : Rows.diskSafeRow.holds Try.pinned (OpenSpec.ofChange Rows.diskSafeSpec) :=
  OpenClaim.holds_of_wide 7 Try.f7 rfl rfl rfl rfl rfl rfl rfl ⟨rfl, rfl, rfl, rfl, rfl⟩ rfl rfl rfl rfl rfl (by kernel_rfl) Try.func7 (by kernel_rfl)
    (of_decide_eq_true (by kernel_rfl)) (by unfold Func.isWrapper; first | (rw [if_pos (by decide +kernel)]; kernel_rfl) | (rw [if_neg (by decide +kernel)]; exact ⟨rfl, rfl⟩))
    (fun os started H enc _ => lifted os started H enc)
theorem proved : Rows.DiskSafeSaid := over
#print axioms proved
end Go.Proofs.Ytgkdkemhiglpdaa.diskSafe
namespace Go.Proofs.Ytgkdkemhiglpdaa
/-- The row, under a short name, for the claim. -/
theorem diskSafe_holds : Rows.DiskSafeSaid := diskSafe.proved
end Go.Proofs.Ytgkdkemhiglpdaa
