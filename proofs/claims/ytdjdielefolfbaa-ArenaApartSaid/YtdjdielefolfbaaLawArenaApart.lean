/- For every input the law ArenaApart returns true, and each argument reads behind the call as it read before. No condition. -/
import Derived.Test.YtdjdielefolfbaaRows
import Derived.Test.YtdjdielefolfbaaHwR
import Derived.Test.YtdjdielefolfbaaAreC
namespace Go.Proofs.Ytdjdielefolfbaa.arenaApart
open Go.ChangeShapes Go.WideShapes Go.ChangeAt Go.RowKit Go.Hw
open Go.ChangeMaps (open_string shut_string)
set_option linter.unusedVariables false
set_option linter.unusedSimpArgs false
theorem own : ownKnob Try.prog.godebug = none := by kernel_rfl
set_option maxRecDepth 100000 in
theorem lifted (os : Os) (started : os.Started) (H : Type) (enc : TypeId × Value → H) :
    ReturnsInHanded {} Try.checked os 4 .any (Rows.arenaApartSpec.pre6 enc Try.prog Try.f4 Rows.arenaApartRow.domain false) (Rows.arenaApartSpec.post enc Try.prog Try.f4 false true false false) := by
  refine returnsInHanded_of_change_sized (C := Try.checked) own started (by kernel_rfl) Try.func4
    (ChangeSpec.witness6 (enc := enc) (C := Try.checked) false ⟨#[], #[.slice none 0 0], []⟩ 8 (by kernel_rfl) (by kernel_rfl) (by kernel_rfl) (by kernel_rfl)) ?_
  intro W base args ds gs before hval0 hW hcnd hsz0 _
  have hsz : (DataW.weightsEach Try.prog (Try.f4.params.toList ++ Rows.arenaApartSpec.plain.varTypes Try.prog) (ds ++ gs)).all (· ≤ reachBytes) = true := hsz0
  have hval : ∀ (j : Nat) t v, Try.f4.params[j]? = some t → args[j]? = some v → Value.okWide Try.prog W .any base t v := hval0
  have hW' := hW
  obtain ⟨p, q, hA0, hV, rfl, hfz, hnd⟩ := hW'
  have hA : DataW.TrodAll enc Try.prog W 0 (fun _ => true) true Try.f4.params.toList args.toList ds p := hA0
  rw [Try.params4] at hA hval hsz
  obtain ⟨v0, vs0, d0, ds0, p0, q0, hargs, rfl, rfl, h0, r0⟩ := trodAll_cons hA
  obtain ⟨rfl, rfl, rfl⟩ := trodAll_nil r0
  obtain rfl : args = #[v0] := by cases args; simp_all
  obtain ⟨rfl, rfl⟩ := trodVars_none hV
  obtain ⟨A0, n0, m0, rfl, fu0, hf0⟩ := open_sl Try.underlying28 (hval 0 28 v0 rfl rfl) h0
  obtain ⟨_, _, _, hv0, lm0, mm0, e0, ln0, c0⟩ := trod_bytes Try.underlying28 Try.underlying5 (by kernel_rfl) hf0
  obtain ⟨rfl, rfl, rfl⟩ : A0 = _ ∧ n0 = _ ∧ m0 = _ := by simpa using hv0
  exact law_post (by kernel_rfl) rfl Try.underlying4 (by kernel_rfl) rfl rfl hW (RetE.ret (Are.ArenaApart_ok A0 n0 m0 e0 ln0.symm _ c0))
theorem over : Rows.arenaApartRow.holds Try.pinned (OpenSpec.ofChange Rows.arenaApartSpec) :=
  OpenClaim.holds_of_wide 4 Try.f4 rfl rfl rfl rfl rfl rfl rfl ⟨rfl, rfl, rfl, rfl, rfl⟩ rfl rfl rfl rfl rfl (by kernel_rfl) Try.func4 (by kernel_rfl)
    (of_decide_eq_true (by kernel_rfl)) (by unfold Func.isWrapper; first | (rw [if_pos (by decide +kernel)]; kernel_rfl) | (rw [if_neg (by decide +kernel)]; exact ⟨rfl, rfl⟩))
    (fun os started H enc _ => lifted os started H enc)
theorem proved : Rows.ArenaApartSaid := over
#print axioms proved
end Go.Proofs.Ytdjdielefolfbaa.arenaApart
namespace Go.Proofs.Ytdjdielefolfbaa
/-- The row, under a short name, for the claim. -/
theorem arenaApart_holds : Rows.ArenaApartSaid := arenaApart.proved
end Go.Proofs.Ytdjdielefolfbaa
