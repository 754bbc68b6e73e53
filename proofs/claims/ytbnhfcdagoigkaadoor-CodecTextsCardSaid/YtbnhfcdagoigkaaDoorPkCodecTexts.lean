import Derived.Test.YtbnhfcdagoigkaaDoorRows
import Derived.Test.YtbnhfcdagoigkaaDoorCards
import Derived.Test.YtbnhfcdagoigkaaDoorTie
import Derived.SevenTiedAt
import Derived.Handy
import Derived.LaidMore
import Derived.Lay
import Derived.Test.YtbnhfcdagoigkaaDoorPkCodecTexts4
/- For every input the law CodecTexts returns true, and each argument reads behind the call as it read before. No condition. -/
namespace Go.Proofs.YtbnhfcdagoigkaaDoor.codecTexts
open Go.ChangeShapes Go.WideShapes Go.ChangeAt Go.RowKit Go.Hw
open Go.ChangeMaps (open_string shut_string)
set_option linter.unusedVariables false
set_option linter.unusedSimpArgs false
theorem own : ownKnob Tryd.prog.godebug = none := by kernel_rfl
set_option maxRecDepth 100000 in
theorem lifted (os : Os) (started : os.Started) (H : Type) (enc : TypeId × Value → H) :
    ReturnsInHanded {} Tryd.checked os 7 .any (fun w args => (Rows.codecTextsSpec.pre enc Tryd.prog Tryd.f7 [] false w args ∧ laidMetH Tryd.prog Rows.codecTextsRow.laid w) ∧ sizedMet enc Tryd.prog Tryd.f7 (OpenSpec.ofChange Rows.codecTextsSpec) false w args) (Rows.codecTextsSpec.post enc Tryd.prog Tryd.f7 false true false false) := by
  refine open_shaped (C := Tryd.checked) (X := (fun w _ => laidMetH Tryd.prog Rows.codecTextsRow.laid w)) (fun _ _ _ hh h => h.of_heap hh) own started (by kernel_rfl) Tryd.func7
    (ChangeSpec.witness_shaped (enc := enc) (C := Tryd.checked) (os := os) (X := (fun w _ => laidMetH Tryd.prog Rows.codecTextsRow.laid w)) false (World.laidAll Tryd.prog os Rows.codecTextsRow.laid) #[.slice none 0 0, .string ByteArray.empty] 8 (World.laidAll_os _ _ _)
      (World.shaped_of_ZipB (by kernel_rfl) (by kernel_rfl)) (by kernel_rfl) (by kernel_rfl) (by kernel_rfl)
      (by rw [MakeChecks.laidMetH_plain _ _ _ (by kernel_rfl)]; exact laidMet_laidAll _ (by kernel_rfl) (by kernel_rfl))) ?_
  intro W base args ds gs before hval0 hW hcnd hsz0 hL0 hOpen _
  have hMax : MaxL (Full W) := by
    obtain ⟨m0, hm0⟩ := Go.Proofs.cell_of_shapedOpen_int (P := Tryd.prog) (g := 7) (t := 3) (zero := #[.int .i64 0]) hOpen (of_decide_eq_true (by kernel_rfl)) (by kernel_rfl) rfl (by kernel_rfl) (by kernel_rfl) Tryd.underlying3
    exact ⟨m0, Full.cell' hm0⟩
  have hL : laidMet Tryd.prog Rows.codecTextsRow.laid W := by
    have hL1 : laidMetH Tryd.prog Rows.codecTextsRow.laid W := hL0
    rw [MakeChecks.laidMetH_plain _ _ _ (by kernel_rfl)] at hL1
    exact hL1
  have t0 : Cells (Full W) (some ⟨2, 0, none⟩) (flatF 9 Rows.laid_math_bits_deBruijn32tab) := laid_at (by kernel_rfl) (by kernel_rfl : (Tryd.prog.globals[2]?).map (·.type) = some 248) (by kernel_rfl) 0 hL rfl
  have t1 : Cells (Full W) (some ⟨3, 0, none⟩) (flatF 9 Rows.laid_math_bits_deBruijn64tab) := laid_at (by kernel_rfl) (by kernel_rfl : (Tryd.prog.globals[3]?).map (·.type) = some 249) (by kernel_rfl) 1 hL rfl
  have t2 : Cells (Full W) (some ⟨4, 0, none⟩) (flatF 9 Rows.laid_internal_strconv_uint64pow10) := laid_at (by kernel_rfl) (by kernel_rfl : (Tryd.prog.globals[4]?).map (·.type) = some 286) (by kernel_rfl) 2 hL rfl
  have t3 : Cells (Full W) (some ⟨9, 0, none⟩) (flatF 9 Rows.laid_unicode_utf8_acceptRanges) := laid_at (by kernel_rfl) (by kernel_rfl : (Tryd.prog.globals[9]?).map (·.type) = some 316) (by kernel_rfl) 3 hL rfl
  have t4 : Cells (Full W) (some ⟨8, 0, none⟩) (flatF 9 Rows.laid_unicode_utf8_first) := laid_at (by kernel_rfl) (by kernel_rfl : (Tryd.prog.globals[8]?).map (·.type) = some 313) (by kernel_rfl) 4 hL rfl
  have hsz : (DataW.weightsEach Tryd.prog (Tryd.f7.params.toList ++ Rows.codecTextsSpec.plain.varTypes Tryd.prog) (ds ++ gs)).all (· ≤ reachBytes) = true := hsz0
  have hval : ∀ (j : Nat) t v, Tryd.f7.params[j]? = some t → args[j]? = some v → Value.okWide Tryd.prog W .any base t v := hval0
  have hW' := hW
  obtain ⟨p, q, hA0, hV, rfl, hfz, hnd⟩ := hW'
  have hA : DataW.TrodAll enc Tryd.prog W 0 (fun _ => true) true Tryd.f7.params.toList args.toList ds p := hA0
  rw [Tryd.params7] at hA hval hsz
  obtain ⟨v0, vs0, d0, ds0, p0, q0, hargs, rfl, rfl, h0, r0⟩ := trodAll_cons hA
  obtain ⟨v1, vs1, d1, ds1, p1, q1, rfl, rfl, rfl, h1, r1⟩ := trodAll_cons r0
  obtain ⟨rfl, rfl, rfl⟩ := trodAll_nil r1
  obtain rfl : args = #[v0, v1] := by cases args; simp_all
  obtain ⟨rfl, rfl⟩ := trodVars_none hV
  obtain ⟨A0, n0, m0, rfl, fu0, hf0⟩ := open_sl Tryd.underlying42 (hval 0 42 v0 rfl rfl) h0
  obtain ⟨_, _, _, hv0, lm0, mm0, e0, ln0, c0⟩ := trod_words Tryd.underlying42 Tryd.underlying22 (by kernel_rfl) hf0
  obtain ⟨rfl, rfl, rfl⟩ : A0 = _ ∧ n0 = _ ∧ m0 = _ := by simpa using hv0
  obtain ⟨a1, rfl, rfl, rfl, w1⟩ := open_string Tryd.underlying9 (hval 1 9 v1 rfl rfl) h1
  have z1 := sized_string hsz (j := 1) (t := 9) rfl rfl
  exact law_post (by kernel_rfl) rfl Tryd.underlying4 (by kernel_rfl) rfl rfl hW (Cod.CodecTexts_ok A0 n0 m0 e0 ln0.symm a1 _ hMax (show Cod.P10 _ from t2) c0)
theorem over : Rows.codecTextsRow.holds Tryd.pinned (OpenSpec.ofChange Rows.codecTextsSpec) :=
  OpenClaim.holds_of_wide 7 Tryd.f7 rfl rfl rfl rfl rfl rfl rfl ⟨rfl, rfl, rfl, rfl, rfl⟩ rfl rfl rfl rfl rfl (by kernel_rfl) Tryd.func7 (by kernel_rfl)
    (of_decide_eq_true (by kernel_rfl)) (by unfold Func.isWrapper; first | (rw [if_pos (by decide +kernel)]; kernel_rfl) | (rw [if_neg (by decide +kernel)]; exact ⟨rfl, rfl⟩))
    (fun os started H enc _ => lifted os started H enc)
theorem proved : Rows.CodecTextsCardSaid :=
  Claim7.holds_tied_plain_at .later [] [.data, .data, .data, .data, .pinned] true (true, "8baf4567e59a94612e3a177372636c75f72025906b542ef04cd9e6970fa3bae9") true
    over (fun _ h => by cases h) (by kernel_rfl) (fun _ h => by cases h) codecTexts_row_tie rfl ⟨rfl, rfl⟩ (by kernel_rfl) rfl
    (fun f fn hf hfn => by
      obtain rfl : f = 7 := Option.some.inj ((show Tryd.prog.funcNamed "abacist/abacistlaw04.CodecTexts" = some 7 by kernel_rfl).symm.trans hf) |>.symm
      obtain rfl : fn = Tryd.f7 := (Option.some.inj (Tryd.func7.symm.trans hfn)).symm
      exact ⟨by kernel_rfl, fun j t ht => by
        rw [Tryd.params7] at ht
        have hm : t ∈ [42, 9] := by simpa using Array.mem_of_getElem? ht
        have hall : ([42, 9].all fun u => !Tryd.prog.wantsStandIn u) = true := by kernel_rfl
        exact (show Tryd.prog.wantsStandIn t = false by simpa using List.all_eq_true.1 hall t hm)⟩)
    (by kernel_rfl)
#print axioms proved
end Go.Proofs.YtbnhfcdagoigkaaDoor.codecTexts
namespace Go.Proofs.YtbnhfcdagoigkaaDoor
/-- The card, under a short name, for the claim. -/
theorem codecTexts_holds : Rows.CodecTextsCardSaid := codecTexts.proved
end Go.Proofs.YtbnhfcdagoigkaaDoor

