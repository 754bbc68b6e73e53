import Derived.Test.YtlgpappgnndgiaaGreatDoorRows
import Derived.Test.YtlgpappgnndgiaaGreatDoorCards
import Derived.Test.YtlgpappgnndgiaaGreatDoorTie
import Derived.SevenTiedAt
import Derived.Handy
import Derived.LaidMore
import Derived.Lay
import Derived.Test.YtlgpappgnndgiaaGreatDoorPkInspectWords4
/- For every input the law InspectWords returns true, and each argument reads behind the call as it read before. No condition. -/
namespace Go.Proofs.YtlgpappgnndgiaaGreatDoor.inspectWords
open Go.ChangeShapes Go.WideShapes Go.ChangeAt Go.RowKit Go.Hw
open Go.ChangeMaps (open_string shut_string)
set_option linter.unusedVariables false
set_option linter.unusedSimpArgs false
theorem own : ownKnob Tryz.prog.godebug = none := by kernel_rfl
set_option maxRecDepth 100000 in
theorem lifted (os : Os) (started : os.Started) (H : Type) (enc : TypeId × Value → H) :
    ReturnsInHanded {} Tryz.checked os 7 .any (fun w args => (Rows.inspectWordsSpec.pre enc Tryz.prog Tryz.f7 [] false w args ∧ laidMetH Tryz.prog Rows.inspectWordsRow.laid w) ∧ sizedMet enc Tryz.prog Tryz.f7 (OpenSpec.ofChange Rows.inspectWordsSpec) false w args) (Rows.inspectWordsSpec.post enc Tryz.prog Tryz.f7 false true false false) := by
  refine returnsInHanded_of_change_and (C := Tryz.checked) (X := (fun w _ => laidMetH Tryz.prog Rows.inspectWordsRow.laid w)) (fun _ _ _ hh h => h.of_heap hh) own started (by kernel_rfl) Tryz.func7
    (ChangeSpec.witness_shaped (enc := enc) (C := Tryz.checked) (os := os) (X := (fun w _ => laidMetH Tryz.prog Rows.inspectWordsRow.laid w)) false (World.laidAll Tryz.prog os Rows.inspectWordsRow.laid) #[.slice none 0 0, .int .i64 0] 8 (World.laidAll_os _ _ _)
      (World.shaped_of_ZipB (by kernel_rfl) (by kernel_rfl)) (by kernel_rfl) (by kernel_rfl) (by kernel_rfl)
      (by rw [MakeChecks.laidMetH_plain _ _ _ (by kernel_rfl)]; exact laidMet_laidAll _ (by kernel_rfl) (by kernel_rfl))) ?_
  intro W base args ds gs before hval0 hW hcnd hsz0 hL0 _
  have hL : laidMet Tryz.prog Rows.inspectWordsRow.laid W := by
    have hL1 : laidMetH Tryz.prog Rows.inspectWordsRow.laid W := hL0
    rw [MakeChecks.laidMetH_plain _ _ _ (by kernel_rfl)] at hL1
    exact hL1
  have t0 : Cells (Full W) (some ⟨1, 0, none⟩) (flatF 9 Rows.laid_math_bits_deBruijn32tab) := laid_at (by kernel_rfl) (by kernel_rfl : (Tryz.prog.globals[1]?).map (·.type) = some 332) (by kernel_rfl) 0 hL rfl
  have t1 : Cells (Full W) (some ⟨2, 0, none⟩) (flatF 9 Rows.laid_math_bits_deBruijn64tab) := laid_at (by kernel_rfl) (by kernel_rfl : (Tryz.prog.globals[2]?).map (·.type) = some 333) (by kernel_rfl) 1 hL rfl
  have t2 : Cells (Full W) (some ⟨3, 0, none⟩) (flatF 9 Rows.laid_internal_strconv_uint64pow10) := laid_at (by kernel_rfl) (by kernel_rfl : (Tryz.prog.globals[3]?).map (·.type) = some 358) (by kernel_rfl) 2 hL rfl
  have t3 : Cells (Full W) (some ⟨5, 0, none⟩) (flatF 9 Rows.laid_unicode_utf8_acceptRanges) := laid_at (by kernel_rfl) (by kernel_rfl : (Tryz.prog.globals[5]?).map (·.type) = some 378) (by kernel_rfl) 3 hL rfl
  have t4 : Cells (Full W) (some ⟨0, 0, none⟩) (flatF 9 Rows.laid_abacist_inspect_words) := laid_at (by kernel_rfl) (by kernel_rfl : (Tryz.prog.globals[0]?).map (·.type) = some 115) (by kernel_rfl) 4 hL rfl
  have t5 : Cells (Full W) (some ⟨4, 0, none⟩) (flatF 9 Rows.laid_unicode_utf8_first) := laid_at (by kernel_rfl) (by kernel_rfl : (Tryz.prog.globals[4]?).map (·.type) = some 375) (by kernel_rfl) 5 hL rfl
  have hsz : (DataW.weightsEach Tryz.prog (Tryz.f7.params.toList ++ Rows.inspectWordsSpec.plain.varTypes Tryz.prog) (ds ++ gs)).all (· ≤ reachBytes) = true := hsz0
  have hval : ∀ (j : Nat) t v, Tryz.f7.params[j]? = some t → args[j]? = some v → Value.okWide Tryz.prog W .any base t v := hval0
  have hW' := hW
  obtain ⟨p, q, hA0, hV, rfl, hfz, hnd⟩ := hW'
  have hA : DataW.TrodAll enc Tryz.prog W 0 (fun _ => true) true Tryz.f7.params.toList args.toList ds p := hA0
  rw [Tryz.params7] at hA hval hsz
  obtain ⟨v0, vs0, d0, ds0, p0, q0, hargs, rfl, rfl, h0, r0⟩ := trodAll_cons hA
  obtain ⟨v1, vs1, d1, ds1, p1, q1, rfl, rfl, rfl, h1, r1⟩ := trodAll_cons r0
  obtain ⟨rfl, rfl, rfl⟩ := trodAll_nil r1
  obtain rfl : args = #[v0, v1] := by cases args; simp_all
  obtain ⟨rfl, rfl⟩ := trodVars_none hV
  obtain ⟨A0, n0, m0, rfl, fu0, hf0⟩ := open_sl Tryz.underlying114 (hval 0 114 v0 rfl rfl) h0
  obtain ⟨_, _, _, hv0, lm0, mm0, rw0, ln0, c0⟩ := trod_sl Tryz.underlying114 hf0
  obtain ⟨rfl, rfl, rfl⟩ : A0 = _ ∧ n0 = _ ∧ m0 = _ := by simpa using hv0
  obtain ⟨a1, rfl, rfl, rfl, w1⟩ := open_int Tryz.underlying3 (hval 1 3 v1 rfl rfl) h1
  have b1 := wf_int w1
  exact law_post (by kernel_rfl) rfl Tryz.underlying4 (by kernel_rfl) rfl rfl hW (by obtain ⟨l, hl, hc, hb⟩ := Ins.finds_of ln0 c0; exact Ins.InspectWords_ok _ _ _ l hl a1 hb _ (show Ins.Words _ from t4) (show Dec.P10 _ from t2) hc)
theorem over : Rows.inspectWordsRow.holds Tryz.pinned (OpenSpec.ofChange Rows.inspectWordsSpec) :=
  OpenClaim.holds_of_wide 7 Tryz.f7 rfl rfl rfl rfl rfl rfl rfl ⟨rfl, rfl, rfl, rfl, rfl⟩ rfl rfl rfl rfl rfl (by kernel_rfl) Tryz.func7 (by kernel_rfl)
    (of_decide_eq_true (by kernel_rfl)) (by unfold Func.isWrapper; first | (rw [if_pos (by decide +kernel)]; kernel_rfl) | (rw [if_neg (by decide +kernel)]; exact ⟨rfl, rfl⟩))
    (fun os started H enc _ => lifted os started H enc)
theorem proved : Rows.InspectWordsCardSaid :=
  Claim7.holds_tied_plain_at .later [] [.data, .data, .data, .data, .data, .pinned] true (true, "5655a38b66210111165de80fed2f90d10ad33971d943f2d19a22b7aebb898712") false
    over (fun _ h => by cases h) (by kernel_rfl) (fun _ h => by cases h) inspectWords_row_tie rfl ⟨rfl, rfl⟩ (by kernel_rfl) rfl
    (fun f fn hf hfn => by
      obtain rfl : f = 7 := Option.some.inj ((show Tryz.prog.funcNamed "abacist/abacistlaw35.InspectWords" = some 7 by kernel_rfl).symm.trans hf) |>.symm
      obtain rfl : fn = Tryz.f7 := (Option.some.inj (Tryz.func7.symm.trans hfn)).symm
      exact ⟨by kernel_rfl, fun j t ht => by
        rw [Tryz.params7] at ht
        have hm : t ∈ [114, 3] := by simpa using Array.mem_of_getElem? ht
        have hall : ([114, 3].all fun u => !Tryz.prog.wantsStandIn u) = true := by kernel_rfl
        exact (show Tryz.prog.wantsStandIn t = false by simpa using List.all_eq_true.1 hall t hm)⟩)
    (by kernel_rfl)
#print axioms proved
end Go.Proofs.YtlgpappgnndgiaaGreatDoor.inspectWords
namespace Go.Proofs.YtlgpappgnndgiaaGreatDoor
/-- The card, under a short name, for the claim. -/
theorem inspectWords_holds : Rows.InspectWordsCardSaid := inspectWords.proved
end Go.Proofs.YtlgpappgnndgiaaGreatDoor

