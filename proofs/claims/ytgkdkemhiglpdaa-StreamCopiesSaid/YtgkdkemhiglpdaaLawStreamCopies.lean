/- For every input the law StreamCopies returns true, and each argument reads behind the call as it read before. No condition. -/
import Derived.Test.YtgkdkemhiglpdaaRows
import Derived.Test.YtgkdkemhiglpdaaHwQ
import Derived.Test.YtgkdkemhiglpdaaStrJ
namespace Go.Proofs.Ytgkdkemhiglpdaa.streamCopies
open Go.ChangeShapes Go.WideShapes Go.ChangeAt Go.RowKit Go.Hw
open Go.ChangeMaps (open_string shut_string)
set_option linter.unusedVariables false
set_option linter.unusedSimpArgs false
theorem own : ownKnob Try.prog.godebug = none := by kernel_rfl
set_option maxRecDepth 100000 in
theorem lifted (os : Os) (started : os.Started) (H : Type) (enc : TypeId × Value → H) :
    ReturnsInHanded {} Try.checked os 5 .any (Rows.streamCopiesSpec.pre6 enc Try.prog Try.f5 Rows.streamCopiesRow.domain false) (Rows.streamCopiesSpec.post enc Try.prog Try.f5 false true false false) := by
  refine returnsInHanded_of_change_sized (C := Try.checked) own started (by kernel_rfl) Try.func5
    (ChangeSpec.witness6 (enc := enc) (C := Try.checked) false ⟨#[], #[.slice none 0 0, .agg #[.int .i64 0, .int .i64 0, .int .i64 0], .int .u8 0], []⟩ 8 (by kernel_rfl) (by kernel_rfl) (by kernel_rfl) (by kernel_rfl)) ?_
  intro W base args ds gs before hval0 hW hcnd hsz0 _
  have hsz : (DataW.weightsEach Try.prog (Try.f5.params.toList ++ Rows.streamCopiesSpec.plain.varTypes Try.prog) (ds ++ gs)).all (· ≤ reachBytes) = true := hsz0
  have hval : ∀ (j : Nat) t v, Try.f5.params[j]? = some t → args[j]? = some v → Value.okWide Try.prog W .any base t v := hval0
  have hW' := hW
  obtain ⟨p, q, hA0, hV, rfl, hfz, hnd⟩ := hW'
  have hA : DataW.TrodAll enc Try.prog W 0 (fun _ => true) true Try.f5.params.toList args.toList ds p := hA0
  rw [Try.params5] at hA hval hsz
  obtain ⟨v0, vs0, d0, ds0, p0, q0, hargs, rfl, rfl, h0, r0⟩ := trodAll_cons hA
  obtain ⟨v1, vs1, d1, ds1, p1, q1, rfl, rfl, rfl, h1, r1⟩ := trodAll_cons r0
  obtain ⟨v2, vs2, d2, ds2, p2, q2, rfl, rfl, rfl, h2, r2⟩ := trodAll_cons r1
  obtain ⟨rfl, rfl, rfl⟩ := trodAll_nil r2
  obtain rfl : args = #[v0, v1, v2] := by cases args; simp_all
  obtain ⟨rfl, rfl⟩ := trodVars_none hV
  obtain ⟨A0, n0, m0, rfl, fu0, hf0⟩ := open_sl Try.underlying48 (hval 0 48 v0 rfl rfl) h0
  obtain ⟨_, _, _, hv0, lm0, mm0, e0, ln0, c0⟩ := trod_words Try.underlying48 Try.underlying94 (by kernel_rfl) hf0
  obtain ⟨rfl, rfl, rfl⟩ : A0 = _ ∧ n0 = _ ∧ m0 = _ := by simpa using hv0
  obtain ⟨cs1, rfl, sl1, _, sf1⟩ := open_st Try.underlying35 (hval 1 35 v1 rfl rfl) h1
  obtain ⟨a1_0, x1_0, w1_0⟩ := trod_fint (o := 0) Try.underlying3 (by kernel_rfl) (sf1 0 _ rfl)
  have b1_0 := wf_int w1_0
  obtain ⟨a1_1, x1_1, w1_1⟩ := trod_fint (o := 1) Try.underlying3 (by kernel_rfl) (sf1 1 _ rfl)
  have b1_1 := wf_int w1_1
  obtain ⟨a1_2, x1_2, w1_2⟩ := trod_fint (o := 2) Try.underlying3 (by kernel_rfl) (sf1 2 _ rfl)
  have b1_2 := wf_int w1_2
  obtain rfl : cs1 = [.int .i64 a1_0, .int .i64 a1_1, .int .i64 a1_2] := EqAll.out ⟨x1_0, x1_1, x1_2, trivial⟩ (sl1.trans (by kernel_rfl))
  obtain ⟨a2, rfl, rfl, rfl, w2⟩ := open_int Try.underlying5 (hval 2 5 v2 rfl rfl) h2
  have b2 := wf_int w2
  exact law_post (by kernel_rfl) rfl Try.underlying4 (by kernel_rfl) rfl rfl hW (by obtain ⟨r, rfl⟩ := Int.eq_ofNat_of_zero_le b2.1; exact Str.StreamCopies_ok A0 n0 m0 lm0 e0 ln0.symm a1_0 a1_1 a1_2 b1_0 b1_1 r (Int.ofNat_le.1 b2.2) _ c0)
theorem over : Rows.streamCopiesRow.holds Try.pinned (OpenSpec.ofChange Rows.streamCopiesSpec) :=
  OpenClaim.holds_of_wide 5 Try.f5 rfl rfl rfl rfl rfl rfl rfl ⟨rfl, rfl, rfl, rfl, rfl⟩ rfl rfl rfl rfl rfl (by kernel_rfl) Try.func5 (by kernel_rfl)
    (of_decide_eq_true (by kernel_rfl)) (by unfold Func.isWrapper; first | (rw [if_pos (by decide +kernel)]; kernel_rfl) | (rw [if_neg (by decide +kernel)]; exact ⟨rfl, rfl⟩))
    (fun os started H enc _ => lifted os started H enc)
theorem proved : Rows.StreamCopiesSaid := over
#print axioms proved
end Go.Proofs.Ytgkdkemhiglpdaa.streamCopies
namespace Go.Proofs.Ytgkdkemhiglpdaa
/-- The row, under a short name, for the claim. -/
theorem streamCopies_holds : Rows.StreamCopiesSaid := streamCopies.proved
end Go.Proofs.Ytgkdkemhiglpdaa
