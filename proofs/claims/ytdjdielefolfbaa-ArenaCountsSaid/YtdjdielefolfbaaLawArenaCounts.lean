/- For every input the law ArenaCounts returns true, and each argument reads behind the call as it read before. No condition. -/
import Derived.Test.YtdjdielefolfbaaRows
import Derived.Test.YtdjdielefolfbaaHwR
import Derived.Test.YtdjdielefolfbaaAreL
namespace Go.Proofs.Ytdjdielefolfbaa.arenaCounts
open Go.ChangeShapes Go.WideShapes Go.ChangeAt Go.RowKit Go.Hw
open Go.ChangeMaps (open_string shut_string)
set_option linter.unusedVariables false
set_option linter.unusedSimpArgs false
theorem own : ownKnob Try.prog.godebug = none := by kernel_rfl
set_option maxRecDepth 100000 in
theorem lifted (os : Os) (started : os.Started) (H : Type) (enc : TypeId × Value → H) :
    ReturnsInHanded {} Try.checked os 8 .any (Rows.arenaCountsSpec.pre6 enc Try.prog Try.f8 Rows.arenaCountsRow.domain false) (Rows.arenaCountsSpec.post enc Try.prog Try.f8 false true false false) := by
  refine returnsInHanded_of_change_sized (C := Try.checked) own started (by kernel_rfl) Try.func8
    (ChangeSpec.witness6 (enc := enc) (C := Try.checked) false ⟨#[], #[.int .i64 0, .slice none 0 0], []⟩ 8 (by kernel_rfl) (by kernel_rfl) (by kernel_rfl) (by kernel_rfl)) ?_
  intro W base args ds gs before hval0 hW hcnd hsz0 _
  have hsz : (DataW.weightsEach Try.prog (Try.f8.params.toList ++ Rows.arenaCountsSpec.plain.varTypes Try.prog) (ds ++ gs)).all (· ≤ reachBytes) = true := hsz0
  have hval : ∀ (j : Nat) t v, Try.f8.params[j]? = some t → args[j]? = some v → Value.okWide Try.prog W .any base t v := hval0
  have hW' := hW
  obtain ⟨p, q, hA0, hV, rfl, hfz, hnd⟩ := hW'
  have hA : DataW.TrodAll enc Try.prog W 0 (fun _ => true) true Try.f8.params.toList args.toList ds p := hA0
  rw [Try.params8] at hA hval hsz
  obtain ⟨v0, vs0, d0, ds0, p0, q0, hargs, rfl, rfl, h0, r0⟩ := trodAll_cons hA
  obtain ⟨v1, vs1, d1, ds1, p1, q1, rfl, rfl, rfl, h1, r1⟩ := trodAll_cons r0
  obtain ⟨rfl, rfl, rfl⟩ := trodAll_nil r1
  obtain rfl : args = #[v0, v1] := by cases args; simp_all
  obtain ⟨rfl, rfl⟩ := trodVars_none hV
  obtain ⟨a0, rfl, rfl, rfl, w0⟩ := open_int Try.underlying3 (hval 0 3 v0 rfl rfl) h0
  have b0 := wf_int w0
  obtain ⟨A1, n1, m1, rfl, fu1, hf1⟩ := open_sl Try.underlying60 (hval 1 60 v1 rfl rfl) h1
  obtain ⟨_, _, _, hv1, lm1, mm1, rw1, ln1, c1⟩ := trod_sl Try.underlying60 hf1
  obtain ⟨rfl, rfl, rfl⟩ : A1 = _ ∧ n1 = _ ∧ m1 = _ := by simpa using hv1
  exact law_post (by kernel_rfl) rfl Try.underlying4 (by kernel_rfl) rfl rfl hW (by obtain ⟨l, hl, hc, hq⟩ := Are.acts_of ln1 c1; exact Are.ArenaCounts_ok a0 _ _ _ l hl hq _ hc)
theorem over : Rows.arenaCountsRow.holds Try.pinned (OpenSpec.ofChange Rows.arenaCountsSpec) :=
  OpenClaim.holds_of_wide 8 Try.f8 rfl rfl rfl rfl rfl rfl rfl ⟨rfl, rfl, rfl, rfl, rfl⟩ rfl rfl rfl rfl rfl (by kernel_rfl) Try.func8 (by kernel_rfl)
    (of_decide_eq_true (by kernel_rfl)) (by unfold Func.isWrapper; first | (rw [if_pos (by decide +kernel)]; kernel_rfl) | (rw [if_neg (by decide +kernel)]; exact ⟨rfl, rfl⟩))
    (fun os started H enc _ => lifted os started H enc)
theorem proved : Rows.ArenaCountsSaid := over
#print axioms proved
end Go.Proofs.Ytdjdielefolfbaa.arenaCounts
namespace Go.Proofs.Ytdjdielefolfbaa
/-- The row, under a short name, for the claim. -/
theorem arenaCounts_holds : Rows.ArenaCountsSaid := arenaCounts.proved
end Go.Proofs.Ytdjdielefolfbaa
