/- For every input the law StreamPlays returns true, and each argument reads behind the call as it read before. No condition. -/
import Derived.Test.YtbnhfcdagoigkaaRows
import Derived.Test.YtbnhfcdagoigkaaHwQ
import Derived.Test.YtbnhfcdagoigkaaStrAll
namespace Go.Proofs.Ytbnhfcdagoigkaa.streamPlays
open Go.ChangeShapes Go.WideShapes Go.ChangeAt Go.RowKit Go.Hw
open Go.ChangeMaps (open_string shut_string)
set_option linter.unusedVariables false
set_option linter.unusedSimpArgs false
theorem own : ownKnob Try.prog.godebug = none := by kernel_rfl
set_option maxRecDepth 100000 in
theorem lifted (os : Os) (started : os.Started) (H : Type) (enc : TypeId × Value → H) :
    ReturnsInHanded {} Try.checked os 4 .any (Rows.streamPlaysSpec.pre6 enc Try.prog Try.f4 Rows.streamPlaysRow.domain false) (Rows.streamPlaysSpec.post enc Try.prog Try.f4 false true false false) := by
  refine returnsInHanded_of_change_sized (C := Try.checked) own started (by kernel_rfl) Try.func4
    (ChangeSpec.witness6 (enc := enc) (C := Try.checked) false ⟨#[], #[.int .u8 0, .slice none 0 0], []⟩ 8 (by kernel_rfl) (by kernel_rfl) (by kernel_rfl) (by kernel_rfl)) ?_
  intro W base args ds gs before hval0 hW hcnd hsz0 _
  have hsz : (DataW.weightsEach Try.prog (Try.f4.params.toList ++ Rows.streamPlaysSpec.plain.varTypes Try.prog) (ds ++ gs)).all (· ≤ reachBytes) = true := hsz0
  have hval : ∀ (j : Nat) t v, Try.f4.params[j]? = some t → args[j]? = some v → Value.okWide Try.prog W .any base t v := hval0
  have hW' := hW
  obtain ⟨p, q, hA0, hV, rfl, hfz, hnd⟩ := hW'
  have hA : DataW.TrodAll enc Try.prog W 0 (fun _ => true) true Try.f4.params.toList args.toList ds p := hA0
  rw [Try.params4] at hA hval hsz
  obtain ⟨v0, vs0, d0, ds0, p0, q0, hargs, rfl, rfl, h0, r0⟩ := trodAll_cons hA
  obtain ⟨v1, vs1, d1, ds1, p1, q1, rfl, rfl, rfl, h1, r1⟩ := trodAll_cons r0
  obtain ⟨rfl, rfl, rfl⟩ := trodAll_nil r1
  obtain rfl : args = #[v0, v1] := by cases args; simp_all
  obtain ⟨rfl, rfl⟩ := trodVars_none hV
  obtain ⟨a0, rfl, rfl, rfl, w0⟩ := open_int Try.underlying5 (hval 0 5 v0 rfl rfl) h0
  have b0 := wf_int w0
  obtain ⟨A1, n1, m1, rfl, fu1, hf1⟩ := open_sl Try.underlying51 (hval 1 51 v1 rfl rfl) h1
  obtain ⟨_, _, _, hv1, lm1, mm1, rw1, ln1, c1⟩ := trod_sl Try.underlying51 hf1
  obtain ⟨rfl, rfl, rfl⟩ : A1 = _ ∧ n1 = _ ∧ m1 = _ := by simpa using hv1
  exact law_post (by kernel_rfl) rfl Try.underlying4 (by kernel_rfl) rfl rfl hW (by obtain ⟨w, rfl⟩ := Int.eq_ofNat_of_zero_le b0.1; obtain ⟨l, hl, hc, ha⟩ := Str.pacts_of ln1 c1; exact Str.StreamPlays_ok w (Int.ofNat_le.1 b0.2) _ _ _ l hl _ hc ha)
theorem over : Rows.streamPlaysRow.holds Try.pinned (OpenSpec.ofChange Rows.streamPlaysSpec) :=
  OpenClaim.holds_of_wide 4 Try.f4 rfl rfl rfl rfl rfl rfl rfl ⟨rfl, rfl, rfl, rfl, rfl⟩ rfl rfl rfl rfl rfl (by kernel_rfl) Try.func4 (by kernel_rfl)
    (of_decide_eq_true (by kernel_rfl)) (by unfold Func.isWrapper; first | (rw [if_pos (by decide +kernel)]; kernel_rfl) | (rw [if_neg (by decide +kernel)]; exact ⟨rfl, rfl⟩))
    (fun os started H enc _ => lifted os started H enc)
theorem proved : Rows.StreamPlaysSaid := over
#print axioms proved
end Go.Proofs.Ytbnhfcdagoigkaa.streamPlays
namespace Go.Proofs.Ytbnhfcdagoigkaa
/-- The row, under a short name, for the claim. -/
theorem streamPlays_holds : Rows.StreamPlaysSaid := streamPlays.proved
end Go.Proofs.Ytbnhfcdagoigkaa
