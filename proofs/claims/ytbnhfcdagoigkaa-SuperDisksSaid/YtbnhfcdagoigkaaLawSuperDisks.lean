/- For every input the law SuperDisks returns true, and each argument reads behind the call as it read before. No condition. -/
import Derived.Test.YtbnhfcdagoigkaaRows
import Derived.Test.YtbnhfcdagoigkaaHwQ
import Derived.Test.YtbnhfcdagoigkaaSupG
namespace Go.Proofs.Ytbnhfcdagoigkaa.superDisks
open Go.ChangeShapes Go.WideShapes Go.ChangeAt Go.RowKit Go.Hw
open Go.ChangeMaps (open_string shut_string)
set_option linter.unusedVariables false
set_option linter.unusedSimpArgs false
theorem own : ownKnob Try.prog.godebug = none := by kernel_rfl
set_option maxRecDepth 100000 in
theorem lifted (os : Os) (started : os.Started) (H : Type) (enc : TypeId × Value → H) :
    ReturnsInHanded {} Try.checked os 3 .any (Rows.superDisksSpec.pre6 enc Try.prog Try.f3 Rows.superDisksRow.domain false) (Rows.superDisksSpec.post enc Try.prog Try.f3 false true false false) := by
  refine returnsInHanded_of_change_sized (C := Try.checked) own started (by kernel_rfl) Try.func3
    (ChangeSpec.witness6 (enc := enc) (C := Try.checked) false ⟨#[], #[.agg #[.int .i64 0, .int .i64 0, .int .i64 0, .int .i64 0], .int .u8 0, .int .u8 0, .int .u8 0, .bool false], []⟩ 8 (by kernel_rfl) (by kernel_rfl) (by kernel_rfl) (by kernel_rfl)) ?_
  intro W base args ds gs before hval0 hW hcnd hsz0 _
  have hsz : (DataW.weightsEach Try.prog (Try.f3.params.toList ++ Rows.superDisksSpec.plain.varTypes Try.prog) (ds ++ gs)).all (· ≤ reachBytes) = true := hsz0
  have hval : ∀ (j : Nat) t v, Try.f3.params[j]? = some t → args[j]? = some v → Value.okWide Try.prog W .any base t v := hval0
  have hW' := hW
  obtain ⟨p, q, hA0, hV, rfl, hfz, hnd⟩ := hW'
  have hA : DataW.TrodAll enc Try.prog W 0 (fun _ => true) true Try.f3.params.toList args.toList ds p := hA0
  rw [Try.params3] at hA hval hsz
  obtain ⟨v0, vs0, d0, ds0, p0, q0, hargs, rfl, rfl, h0, r0⟩ := trodAll_cons hA
  obtain ⟨v1, vs1, d1, ds1, p1, q1, rfl, rfl, rfl, h1, r1⟩ := trodAll_cons r0
  obtain ⟨v2, vs2, d2, ds2, p2, q2, rfl, rfl, rfl, h2, r2⟩ := trodAll_cons r1
  obtain ⟨v3, vs3, d3, ds3, p3, q3, rfl, rfl, rfl, h3, r3⟩ := trodAll_cons r2
  obtain ⟨v4, vs4, d4, ds4, p4, q4, rfl, rfl, rfl, h4, r4⟩ := trodAll_cons r3
  obtain ⟨rfl, rfl, rfl⟩ := trodAll_nil r4
  obtain rfl : args = #[v0, v1, v2, v3, v4] := by cases args; simp_all
  obtain ⟨rfl, rfl⟩ := trodVars_none hV
  obtain ⟨cs0, rfl, sl0, _, sf0⟩ := open_st Try.underlying23 (hval 0 23 v0 rfl rfl) h0
  obtain ⟨a0_0, x0_0, w0_0⟩ := trod_fint (o := 0) Try.underlying3 (by kernel_rfl) (sf0 0 _ rfl)
  have b0_0 := wf_int w0_0
  obtain ⟨a0_1, x0_1, w0_1⟩ := trod_fint (o := 1) Try.underlying3 (by kernel_rfl) (sf0 1 _ rfl)
  have b0_1 := wf_int w0_1
  obtain ⟨a0_2, x0_2, w0_2⟩ := trod_fint (o := 2) Try.underlying3 (by kernel_rfl) (sf0 2 _ rfl)
  have b0_2 := wf_int w0_2
  obtain ⟨a0_3, x0_3, w0_3⟩ := trod_fint (o := 3) Try.underlying3 (by kernel_rfl) (sf0 3 _ rfl)
  have b0_3 := wf_int w0_3
  obtain rfl : cs0 = [.int .i64 a0_0, .int .i64 a0_1, .int .i64 a0_2, .int .i64 a0_3] := EqAll.out ⟨x0_0, x0_1, x0_2, x0_3, trivial⟩ (sl0.trans (by kernel_rfl))
  obtain ⟨a1, rfl, rfl, rfl, w1⟩ := open_int Try.underlying5 (hval 1 5 v1 rfl rfl) h1
  have b1 := wf_int w1
  obtain ⟨a2, rfl, rfl, rfl, w2⟩ := open_int Try.underlying5 (hval 2 5 v2 rfl rfl) h2
  have b2 := wf_int w2
  obtain ⟨a3, rfl, rfl, rfl, w3⟩ := open_int Try.underlying5 (hval 3 5 v3 rfl rfl) h3
  have b3 := wf_int w3
  obtain ⟨a4, rfl, rfl, rfl⟩ := open_bool Try.underlying4 (hval 4 4 v4 rfl rfl) h4
  exact law_post (by kernel_rfl) rfl Try.underlying4 (by kernel_rfl) rfl rfl hW (by obtain ⟨x5, rfl⟩ := Int.eq_ofNat_of_zero_le b1.1; obtain ⟨x6, rfl⟩ := Int.eq_ofNat_of_zero_le b2.1; obtain ⟨x7, rfl⟩ := Int.eq_ofNat_of_zero_le b3.1; exact Sup.SuperDisks_ok a0_0 a0_1 a0_2 a0_3 (fun z hz => by simp only [Sup.sbL, List.mem_cons, List.not_mem_nil, or_false] at hz; rcases hz with h | h | h | h <;> rw [h] <;> first | exact b0_0 | exact b0_1 | exact b0_2 | exact b0_3) x5 x6 x7 (Int.ofNat_le.1 b1.2) (Int.ofNat_le.1 b2.2) (Int.ofNat_le.1 b3.2) a4 _)
theorem over : Rows.superDisksRow.holds Try.pinned (OpenSpec.ofChange Rows.superDisksSpec) :=
  OpenClaim.holds_of_wide 3 Try.f3 rfl rfl rfl rfl rfl rfl rfl ⟨rfl, rfl, rfl, rfl, rfl⟩ rfl rfl rfl rfl rfl (by kernel_rfl) Try.func3 (by kernel_rfl)
    (of_decide_eq_true (by kernel_rfl)) (by unfold Func.isWrapper; first | (rw [if_pos (by decide +kernel)]; kernel_rfl) | (rw [if_neg (by decide +kernel)]; exact ⟨rfl, rfl⟩))
    (fun os started H enc _ => lifted os started H enc)
theorem proved : Rows.SuperDisksSaid := over
#print axioms proved
end Go.Proofs.Ytbnhfcdagoigkaa.superDisks
namespace Go.Proofs.Ytbnhfcdagoigkaa
/-- The row, under a short name, for the claim. -/
theorem superDisks_holds : Rows.SuperDisksSaid := superDisks.proved
end Go.Proofs.Ytbnhfcdagoigkaa
