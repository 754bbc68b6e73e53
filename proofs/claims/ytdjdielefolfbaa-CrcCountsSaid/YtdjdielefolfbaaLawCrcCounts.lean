/- For every input the law CrcCounts returns true, and each argument reads behind the call as it read before. No condition. -/
import Derived.Test.YtdjdielefolfbaaRows
import Derived.Test.YtdjdielefolfbaaHwR
import Derived.Test.YtdjdielefolfbaaCrcK
namespace Go.Proofs.Ytdjdielefolfbaa.crcCounts
open Go.ChangeShapes Go.WideShapes Go.ChangeAt Go.RowKit Go.Hw
open Go.ChangeMaps (open_string shut_string)
set_option linter.unusedVariables false
set_option linter.unusedSimpArgs false
theorem own : ownKnob Try.prog.godebug = none := by kernel_rfl
set_option maxRecDepth 100000 in
theorem lifted (os : Os) (started : os.Started) (H : Type) (enc : TypeId × Value → H) :
    ReturnsInHanded {} Try.checked os 7 .any (Rows.crcCountsSpec.pre6 enc Try.prog Try.f7 Rows.crcCountsRow.domain false) (Rows.crcCountsSpec.post enc Try.prog Try.f7 false true false false) := by
  refine returnsInHanded_of_change_sized (C := Try.checked) own started (by kernel_rfl) Try.func7
    (ChangeSpec.witness6 (enc := enc) (C := Try.checked) false ⟨#[], #[.slice none 0 0, .slice none 0 0], []⟩ 8 (by kernel_rfl) (by kernel_rfl) (by kernel_rfl) (by kernel_rfl)) ?_
  intro W base args ds gs before hval0 hW hcnd hsz0 _
  have hsz : (DataW.weightsEach Try.prog (Try.f7.params.toList ++ Rows.crcCountsSpec.plain.varTypes Try.prog) (ds ++ gs)).all (· ≤ reachBytes) = true := hsz0
  have hval : ∀ (j : Nat) t v, Try.f7.params[j]? = some t → args[j]? = some v → Value.okWide Try.prog W .any base t v := hval0
  have hW' := hW
  obtain ⟨p, q, hA0, hV, rfl, hfz, hnd⟩ := hW'
  have hA : DataW.TrodAll enc Try.prog W 0 (fun _ => true) true Try.f7.params.toList args.toList ds p := hA0
  rw [Try.params7] at hA hval hsz
  obtain ⟨v0, vs0, d0, ds0, p0, q0, hargs, rfl, rfl, h0, r0⟩ := trodAll_cons hA
  obtain ⟨v1, vs1, d1, ds1, p1, q1, rfl, rfl, rfl, h1, r1⟩ := trodAll_cons r0
  obtain ⟨rfl, rfl, rfl⟩ := trodAll_nil r1
  obtain rfl : args = #[v0, v1] := by cases args; simp_all
  obtain ⟨rfl, rfl⟩ := trodVars_none hV
  obtain ⟨A0, n0, m0, rfl, fu0, hf0⟩ := open_sl Try.underlying49 (hval 0 49 v0 rfl rfl) h0
  obtain ⟨_, _, _, hv0, lm0, mm0, rw0, lr0, cr0⟩ := trod_sl Try.underlying49 hf0
  obtain ⟨rfl, rfl, rfl⟩ : A0 = _ ∧ n0 = _ ∧ m0 = _ := by simpa using hv0
  obtain ⟨e0, ln0, c0, q0⟩ := rows_bytes Try.underlying28 Try.underlying5 (by kernel_rfl) (by kernel_rfl) lr0 cr0
  obtain ⟨A1, n1, m1, rfl, fu1, hf1⟩ := open_sl Try.underlying50 (hval 1 50 v1 rfl rfl) h1
  obtain ⟨_, _, _, hv1, lm1, mm1, rw1, lr1, cr1⟩ := trod_sl Try.underlying50 hf1
  obtain ⟨rfl, rfl, rfl⟩ : A1 = _ ∧ n1 = _ ∧ m1 = _ := by simpa using hv1
  obtain ⟨e1, ln1, c1, q1⟩ := rows_words Try.underlying36 Try.underlying38 (by kernel_rfl) (by kernel_rfl) lr1 cr1
  exact law_post (by kernel_rfl) rfl Try.underlying4 (by kernel_rfl) rfl rfl hW (RetE.ret (CrcP.CrcCounts_ok A0 A1 n0 m0 n1 m1 e0 e1 _ ln0.symm c0 q0 ln1.symm c1 q1))
theorem over : Rows.crcCountsRow.holds Try.pinned (OpenSpec.ofChange Rows.crcCountsSpec) :=
  OpenClaim.holds_of_wide 7 Try.f7 rfl rfl rfl rfl rfl rfl rfl ⟨rfl, rfl, rfl, rfl, rfl⟩ rfl rfl rfl rfl rfl (by kernel_rfl) Try.func7 (by kernel_rfl)
    (of_decide_eq_true (by kernel_rfl)) (by unfold Func.isWrapper; first | (rw [if_pos (by decide +kernel)]; kernel_rfl) | (rw [if_neg (by decide +kernel)]; exact ⟨rfl, rfl⟩))
    (fun os started H enc _ => lifted os started H enc)
theorem proved : Rows.CrcCountsSaid := over
#print axioms proved
end Go.Proofs.Ytdjdielefolfbaa.crcCounts
namespace Go.Proofs.Ytdjdielefolfbaa
/-- The row, under a short name, for the claim. -/
theorem crcCounts_holds : Rows.CrcCountsSaid := crcCounts.proved
end Go.Proofs.Ytdjdielefolfbaa
