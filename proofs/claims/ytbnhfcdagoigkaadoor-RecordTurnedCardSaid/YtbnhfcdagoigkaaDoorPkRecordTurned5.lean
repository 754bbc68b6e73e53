import Derived.Test.YtbnhfcdagoigkaaDoorPkRecordTurned4
section
/-! RecH -/
/- The reference's words of a record. -/
set_option maxRecDepth 100000
set_option linter.unusedSimpArgs false
set_option linter.unusedVariables false
set_option linter.unnecessarySimpa false
set_option linter.unusedSectionVars false
namespace Go.Proofs.YtbnhfcdagoigkaaDoor.Rec
open Go Go.Hw Go.Form Go.Crc Go.Proofs.YtbnhfcdagoigkaaDoor.W Go.Proofs.YtbnhfcdagoigkaaDoor.FormP

theorem or_add {w q : Nat} (k : Nat) (hw : 2 ^ k ∣ w) (hq : q < 2 ^ k) : w ||| q = w + q := by
  obtain ⟨t, rfl⟩ := hw
  exact (Nat.two_pow_add_eq_or_of_lt hq t).symm

theorem p1_sum (r : R) (hg : r.good) : joinN 0 r.p1 = 5928144484503126016 + r.s := by
  obtain ⟨g1, g2, _⟩ := hg
  show (0 ||| (21061 * 2 ^ 48 % 2 ^ 64)) ||| (r.s * 2 ^ 0 % 2 ^ 64) = _
  rw [Nat.zero_or, Nat.pow_zero, Nat.mul_one, Nat.mod_eq_of_lt (show r.s < 2 ^ 64 by omega), or_add 48 ⟨21061, by decide⟩ (by omega)]
theorem p3_sum (r : R) (hu : r.u32) : joinN 0 r.p3 = r.inp * 4294967296 + r.out := join2 hu.inp hu.out
theorem p2_sum (r : R) (hg : r.good) (hu : r.u32) : joinN 0 r.p2 = r.ld * 4294967296 + r.ps.toNat * 16777216 + r.kk.toNat * 65536 + r.dir.toNat * 256 + r.kd.toNat := by
  obtain ⟨g1, g2, g3, g4, g5, g6⟩ := hg
  have hu := hu.ld
  have h1 : r.ps.toNat < 256 := by omega
  have h2 : r.kk.toNat < 256 := by omega
  have h3 : r.dir.toNat < 256 := by omega
  have h4 : r.kd.toNat < 256 := by omega
  show ((((0 ||| (r.ld * 2 ^ 32 % 2 ^ 64)) ||| (r.ps.toNat * 2 ^ 24 % 2 ^ 64)) ||| (r.kk.toNat * 2 ^ 16 % 2 ^ 64)) ||| (r.dir.toNat * 2 ^ 8 % 2 ^ 64)) ||| (r.kd.toNat * 2 ^ 0 % 2 ^ 64) = _
  generalize r.ps.toNat = a at *
  generalize r.kk.toNat = b at *
  generalize r.dir.toNat = c at *
  generalize r.kd.toNat = d at *
  generalize r.ld = l at *
  rw [Nat.zero_or, Nat.mod_eq_of_lt (show l * 2 ^ 32 < 2 ^ 64 by omega), Nat.mod_eq_of_lt (show a * 2 ^ 24 < 2 ^ 64 by omega), Nat.mod_eq_of_lt (show b * 2 ^ 16 < 2 ^ 64 by omega), Nat.mod_eq_of_lt (show c * 2 ^ 8 < 2 ^ 64 by omega), Nat.pow_zero, Nat.mul_one, Nat.mod_eq_of_lt (show d < 2 ^ 64 by omega)]
  rw [or_add 32 ⟨l, Nat.mul_comm _ _⟩ (show a * 2 ^ 24 < 2 ^ 32 by omega), or_add 24 ⟨l * 256 + a, by omega⟩ (show b * 2 ^ 16 < 2 ^ 24 by omega), or_add 16 ⟨(l * 256 + a) * 256 + b, by omega⟩ (show c * 2 ^ 8 < 2 ^ 16 by omega), or_add 8 ⟨((l * 256 + a) * 256 + b) * 256 + c, by omega⟩ (show d < 2 ^ 8 by omega)]

theorem w4_vals (r : R) : wordVals r.w4 = [.int .u64 ((joinN 0 r.p1 : Nat) : Int), .int .u64 ((joinN 0 r.p2 : Nat) : Int), .int .u64 ((joinN 0 r.p3 : Nat) : Int), .int .u64 ((joinN 0 (sealP r.w3) : Nat) : Int)] := by
  show [Value.int .u64 ((UInt64.ofNat (joinN 0 r.p1)).toNat : Int), Value.int .u64 ((UInt64.ofNat (joinN 0 r.p2)).toNat : Int), Value.int .u64 ((UInt64.ofNat (joinN 0 r.p3)).toNat : Int), Value.int .u64 ((UInt64.ofNat (joinN 0 (sealP r.w3))).toNat : Int)] = _
  rw [UInt64.toNat_ofNat_of_lt' (joinN_lt r.p1 0 (by decide)), UInt64.toNat_ofNat_of_lt' (joinN_lt r.p2 0 (by decide)), UInt64.toNat_ofNat_of_lt' (joinN_lt r.p3 0 (by decide)), UInt64.toNat_ofNat_of_lt' (joinN_lt (sealP r.w3) 0 (by decide))]
theorem w3_vals (r : R) : wordVals r.w3 = [.int .u64 ((joinN 0 r.p1 : Nat) : Int), .int .u64 ((joinN 0 r.p2 : Nat) : Int), .int .u64 ((joinN 0 r.p3 : Nat) : Int)] := by
  show [Value.int .u64 ((UInt64.ofNat (joinN 0 r.p1)).toNat : Int), Value.int .u64 ((UInt64.ofNat (joinN 0 r.p2)).toNat : Int), Value.int .u64 ((UInt64.ofNat (joinN 0 r.p3)).toNat : Int)] = _
  rw [UInt64.toNat_ofNat_of_lt' (joinN_lt r.p1 0 (by decide)), UInt64.toNat_ofNat_of_lt' (joinN_lt r.p2 0 (by decide)), UInt64.toNat_ofNat_of_lt' (joinN_lt r.p3 0 (by decide))]

theorem rWords_tr (r : R) (hg : r.good) (hu : r.u32) : Tr Tryd.prog 59 #[.agg r.c] [] fun v M => ∃ b, v = .slice (some ⟨b, 0, none⟩) 4 4 ∧ M = [pts b (.row (wordVals r.w4) 22 4)] := fun H hs => by
  have s1 := p1_sum r hg
  have s2 := p2_sum r hg hu
  have s3 := p3_sum r hu
  have l2 := joinN_lt r.p2 0 (by decide)
  have hw3 := w3_vals r
  have hw4 := w4_vals r
  have s4 := seal_sum r.w3
  obtain ⟨g1, g2, g3, g4, g5, g6⟩ := hg
  obtain ⟨u1, u2, u3⟩ := hu
  apply W_abacistref20_Words.ok
  unfold W_abacistref20_Words
  refine hs.nw fun b1 H hs => ?_
  have hs : Sep [pts b1 (recO r)] H := hs
  refine hs.ldf 0 rfl rfl ?_
  simp only [DI_int', DB_bool, DS_string, DP_pointer, DSl_slice, DM_map, DA_agg, DTup_tuple, DCons_cons, DNil_nil, NN_some, BIf_true, BIf_false, BIf_same, List.toList_toArray, Bool.not_true, Bool.not_false]
  refine hs.ldf 0 rfl rfl ?_
  simp only [DI_int', DB_bool, DS_string, DP_pointer, DSl_slice, DM_map, DA_agg, DTup_tuple, DCons_cons, DNil_nil, NN_some, BIf_true, BIf_false, BIf_same, List.toList_toArray, Bool.not_true, Bool.not_false]
  refine hs.ldf 0 rfl rfl ?_
  simp only [DI_int', DB_bool, DS_string, DP_pointer, DSl_slice, DM_map, DA_agg, DTup_tuple, DCons_cons, DNil_nil, NN_some, BIf_true, BIf_false, BIf_same, List.toList_toArray, Bool.not_true, Bool.not_false]
  refine hs.ldf 0 rfl rfl ?_
  simp only [DI_int', DB_bool, DS_string, DP_pointer, DSl_slice, DM_map, DA_agg, DTup_tuple, DCons_cons, DNil_nil, NN_some, BIf_true, BIf_false, BIf_same, List.toList_toArray, Bool.not_true, Bool.not_false]
  refine hs.ldf 0 rfl rfl ?_
  simp only [DI_int', DB_bool, DS_string, DP_pointer, DSl_slice, DM_map, DA_agg, DTup_tuple, DCons_cons, DNil_nil, NN_some, BIf_true, BIf_false, BIf_same, List.toList_toArray, Bool.not_true, Bool.not_false]
  refine hs.ldf 0 rfl rfl ?_
  simp only [DI_int', DB_bool, DS_string, DP_pointer, DSl_slice, DM_map, DA_agg, DTup_tuple, DCons_cons, DNil_nil, NN_some, BIf_true, BIf_false, BIf_same, List.toList_toArray, Bool.not_true, Bool.not_false]
  refine hs.ldf 0 rfl rfl ?_
  simp only [DI_int', DB_bool, DS_string, DP_pointer, DSl_slice, DM_map, DA_agg, DTup_tuple, DCons_cons, DNil_nil, NN_some, BIf_true, BIf_false, BIf_same, List.toList_toArray, Bool.not_true, Bool.not_false]
  refine hs.ldf 0 rfl rfl ?_
  simp only [DI_int', DB_bool, DS_string, DP_pointer, DSl_slice, DM_map, DA_agg, DTup_tuple, DCons_cons, DNil_nil, NN_some, BIf_true, BIf_false, BIf_same, List.toList_toArray, Bool.not_true, Bool.not_false]
  have e1 : IntKind.u64.wrap (r.ld : Int) = (r.ld : Int) := u64n (by omega)
  have e2 : IntKind.u64.wrap r.ps = (r.ps.toNat : Int) := by rw [u64w (by omega) (by omega)]; omega
  have e3 : IntKind.u64.wrap r.kk = (r.kk.toNat : Int) := by rw [u64w (by omega) (by omega)]; omega
  have e4 : IntKind.u64.wrap r.dir = (r.dir.toNat : Int) := by rw [u64w (by omega) (by omega)]; omega
  have e5 : IntKind.u64.wrap r.kd = (r.kd.toNat : Int) := by rw [u64w (by omega) (by omega)]; omega
  have e6 : IntKind.u64.wrap (r.inp : Int) = (r.inp : Int) := u64n (by omega)
  have e7 : IntKind.u64.wrap (r.out : Int) = (r.out : Int) := u64n (by omega)
  rw [e1, e2, e3, e4, e5, e6, e7]
  have h1 : r.ps.toNat < 256 := by omega
  have h2 : r.kk.toNat < 256 := by omega
  have h3 : r.dir.toNat < 256 := by omega
  have h4 : r.kd.toNat < 256 := by omega
  have a1 : IntKind.u64.wrap ((5928144484503126016 : Int) + (r.s : Int)) = ((joinN 0 r.p1 : Nat) : Int) := by
    rw [u64w (by omega) (by omega), s1]; omega
  have a2 : IntKind.u64.wrap (IntKind.u64.wrap (IntKind.u64.wrap (IntKind.u64.wrap (IntKind.u64.wrap ((r.ld : Int) * 4294967296) + IntKind.u64.wrap ((r.ps.toNat : Int) * 16777216)) + IntKind.u64.wrap ((r.kk.toNat : Int) * 65536)) + IntKind.u64.wrap ((r.dir.toNat : Int) * 256)) + (r.kd.toNat : Int)) = ((joinN 0 r.p2 : Nat) : Int) := by
    rw [u64w (x := (r.ld : Int) * 4294967296) (by omega) (by omega), u64w (x := (r.ps.toNat : Int) * 16777216) (by omega) (by omega), u64w (x := (r.kk.toNat : Int) * 65536) (by omega) (by omega), u64w (x := (r.dir.toNat : Int) * 256) (by omega) (by omega),
      u64w (x := (r.ld : Int) * 4294967296 + (r.ps.toNat : Int) * 16777216) (by omega) (by omega), u64w (x := (r.ld : Int) * 4294967296 + (r.ps.toNat : Int) * 16777216 + (r.kk.toNat : Int) * 65536) (by omega) (by omega),
      u64w (x := (r.ld : Int) * 4294967296 + (r.ps.toNat : Int) * 16777216 + (r.kk.toNat : Int) * 65536 + (r.dir.toNat : Int) * 256) (by omega) (by omega), u64w (by omega) (by omega), s2]
    omega
  have a3 : IntKind.u64.wrap (IntKind.u64.wrap ((r.inp : Int) * 4294967296) + (r.out : Int)) = ((joinN 0 r.p3 : Nat) : Int) := by
    rw [u64w (x := (r.inp : Int) * 4294967296) (by omega) (by omega), u64w (by omega) (by omega), s3]; omega
  rw [a1, a2, a3]
  rw [← hw3]
  refine hs.nw fun b2 H hs => ?_
  have hU : Cells H (some ⟨b2, 0, none⟩) (wordVals r.w3) := by
    have := Cells.row (hs.get 1 rfl) 0 3
    exact this
  refine HCalls.use (CrcP.rOfWords_ok (some ⟨b2, 0, none⟩) 3 3 r.w3 rfl (by omega) H hU) ?_
  simp only [DI_int', DB_bool, DS_string, DP_pointer, DSl_slice, DM_map, DA_agg, DTup_tuple, DCons_cons, DNil_nil, NN_some, BIf_true, BIf_false, BIf_same, List.toList_toArray, Bool.not_true, Bool.not_false]
  have hsm := (sum (form r.w3)).isLt
  have a4 : IntKind.u64.wrap (IntKind.u64.wrap (IntKind.u64.wrap ((4294967295 : Int) - IntKind.u64.wrap ((sum (form r.w3)).toNat : Int)) * 4294967296) + IntKind.u64.wrap ((sum (form r.w3)).toNat : Int)) = ((joinN 0 (sealP r.w3) : Nat) : Int) := by
    rw [s4]
    generalize (sum (form r.w3)).toNat = sm at *
    rw [u64n (n := sm) (by omega), u64w (x := 4294967295 - (sm : Int)) (by omega) (by omega), u64w (x := (4294967295 - (sm : Int)) * 4294967296) (by omega) (by omega), u64w (by omega) (by omega)]
    omega
  rw [a4]
  refine hs.nw fun b3 H hs => ?_
  rw [← hw4] at hs
  exact ⟨_, ⟨b3, rfl, rfl⟩, hs.re [2] rfl⟩

theorem ba_snoc (bs : List UInt8) : (⟨bs.toArray⟩ : ByteArray) ++ (⟨#[0]⟩ : ByteArray) = ⟨(bs ++ [0]).toArray⟩ := ByteArray.ext (by rw [ByteArray.data_append]; simp)

theorem rput_loop (K : Value → Hp → Prop) (H : Hp) (size : Nat) (hsz : size ≤ 1000000) : ∀ (t : Nat) (bs : List UInt8), bs.length + t = size → K (.string ⟨(bs ++ List.replicate t 0).toArray⟩) H → W_abacistref20_Put.l2 K (t + 1) (size : Int) ⟨bs.toArray⟩ H
  | 0, bs, h, k => by
    unfold W_abacistref20_Put.l2
    refine BIf_dneg (by show ¬ ((bs.toArray.size : Nat) : Int) < (size : Int); simp; omega) ?_
    rw [List.replicate_zero, List.append_nil] at k
    exact k
  | t + 1, bs, h, k => by
    unfold W_abacistref20_Put.l2
    refine BIf_dpos (by show ((bs.toArray.size : Nat) : Int) < (size : Int); simp; omega) ⟨by show bs.toArray.size + 1 ≤ _; simp; omega, ?_⟩
    rw [ba_snoc]
    refine rput_loop K H size hsz t (bs ++ [0]) (by simp; omega) ?_
    rw [List.append_assoc]
    exact k

/-- The reference's form. -/
theorem rForm_ok (r : R) (hg : r.good) (hu : r.u32) (size : Nat) (h32 : 32 ≤ size) (h40 : size ≤ 4096) (H : Hp) : HCalls Tryd.prog 19 #[.agg r.c, .int .i64 (size : Int)] H (RetE (.string ⟨(form r.w4 ++ List.replicate (size - 32) 0).toArray⟩) H) := HCalls.ret (by
  apply W_abacistref20_Put.ok
  unfold W_abacistref20_Put
  refine (Sep.start H).nw fun b1 H1 hs => ?_
  have hs : Sep [own H, pts b1 (recO r)] H1 := hs
  refine hs.ldw 1 rfl rfl ?_
  refine (rWords_tr r hg hu).use hs [] rfl rfl ?_
  rintro _ _ H1 ⟨b, rfl, rfl⟩ hs
  simp only [DI_int', DB_bool, DS_string, DP_pointer, DSl_slice, DM_map, DA_agg, DTup_tuple, DCons_cons, DNil_nil, NN_some, BIf_true, BIf_false, BIf_same, List.toList_toArray, Bool.not_true, Bool.not_false]
  have hc : Cells H1 (some ⟨b, 0, none⟩) (wordVals r.w4) := by
    have := Cells.row (hs.get 0 rfl) 0 4
    exact this
  refine HCalls.use (FormP.rPut_ok (some ⟨b, 0, none⟩) 4 4 r.w4 rfl (by omega) H1 hc) ?_
  simp only [DI_int', DB_bool, DS_string, DP_pointer, DSl_slice, DM_map, DA_agg, DTup_tuple, DCons_cons, DNil_nil, NN_some, BIf_true, BIf_false, BIf_same, List.toList_toArray, Bool.not_true, Bool.not_false]
  have hl : (form r.w4).length = 32 := by rw [form_length]; rfl
  refine ⟨size - 32 + 1, rput_loop _ H1 size (by omega) (size - 32) (form r.w4) (by omega) ?_⟩
  exact hs.fin 1 rfl _)

end Go.Proofs.YtbnhfcdagoigkaaDoor.Rec

end
section
/-! RecI -/
/- record: records compared. -/
set_option maxRecDepth 100000
set_option linter.unusedSimpArgs false
set_option linter.unusedVariables false
set_option linter.unnecessarySimpa false
set_option linter.unusedSectionVars false
namespace Go.Proofs.YtbnhfcdagoigkaaDoor.Rec
open Go Go.Hw Go.Form Go.Crc Go.Proofs.YtbnhfcdagoigkaaDoor.W Go.Proofs.YtbnhfcdagoigkaaDoor.FormP

def recL (r : R) : List Lit := [.int .u64 (r.s : Int), .int .i64 r.kd, .int .i64 r.kk, .int .i64 r.dir, .int .i64 r.ps, .int .u32 (r.ld : Int), .int .u32 (r.inp : Int), .int .u32 (r.out : Int)]
structure R.wf (r : R) : Prop where
  s : r.s < 2 ^ 64
  kd : -9223372036854775808 ≤ r.kd ∧ r.kd ≤ 9223372036854775807
  kk : -9223372036854775808 ≤ r.kk ∧ r.kk ≤ 9223372036854775807
  dir : -9223372036854775808 ≤ r.dir ∧ r.dir ≤ 9223372036854775807
  ps : -9223372036854775808 ≤ r.ps ∧ r.ps ≤ 9223372036854775807
  u : r.u32
theorem recL_inj {a b : R} : recL a = recL b ↔ a = b := by
  constructor
  · intro h
    unfold recL at h
    simp only [List.cons.injEq, Lit.int.injEq, true_and, and_true] at h
    obtain ⟨h1, h2, h3, h4, h5, h6, h7, h8⟩ := h
    cases a; cases b
    simp only at *
    congr 1 <;> omega
  · rintro rfl; rfl
theorem recL_ok {r : R} (h : r.wf) : okAll [.int .u64, .int .i64, .int .i64, .int .i64, .int .i64, .int .u32, .int .u32, .int .u32] (recL r) = true := by
  obtain ⟨h1, h2, h3, h4, h5, u1, u2, u3⟩ := h
  unfold recL
  simp only [okAll, litOk, decide_true, Bool.true_and, Bool.and_eq_true]
  simp [Lit.wf, IntKind.min, IntKind.max, IntKind.bits, IntKind.signed]
  omega

theorem rec_eql {a b : R} (wa : a.wf) (wb : b.wf) {K : Bool → Prop} (c : Bool) (hc : c = true ↔ a = b) (k : K c) : EqV Tryd.prog .eql 25 (.agg a.c) (.agg b.c) K :=
  EqV_eql (d := 9) (m := 9) (by kernel_rfl) (by kernel_rfl) (by kernel_rfl) (by omega) (by kernel_rfl) (recL_ok wa) (recL_ok wb) rfl rfl c (hc.trans recL_inj.symm) k
theorem rec_neq {a b : R} (wa : a.wf) (wb : b.wf) {K : Bool → Prop} (c : Bool) (hc : c = true ↔ a = b) (k : K (!c)) : EqV Tryd.prog .neq 25 (.agg a.c) (.agg b.c) K :=
  EqV_neq (d := 9) (m := 9) (by kernel_rfl) (by kernel_rfl) (by kernel_rfl) (by omega) (by kernel_rfl) (recL_ok wa) (recL_ok wb) rfl rfl c (hc.trans recL_inj.symm) k
theorem recOf_wf {a b c : Nat} (hb : b < 2 ^ 64) (hc : c < 2 ^ 64) : (recOf a b c).wf := by
  unfold recOf
  exact ⟨by simp only []; omega, by simp only []; omega, by simp only []; omega, by simp only []; omega, by simp only []; omega, ⟨by simp only []; omega, by simp only []; omega, by simp only []; omega⟩⟩
theorem takeV_wf (bs : List UInt8) : (takeV bs).1.wf := by
  have hz : zeroR.wf := ⟨by decide, by decide, by decide, by decide, by decide, ⟨by decide, by decide, by decide⟩⟩
  unfold takeV
  split
  · split
    · split
      · split
        · exact recOf_wf (wordN_lt _ _) (wordN_lt _ _)
        · exact hz
      · exact hz
    · exact hz
  · exact hz

end Go.Proofs.YtbnhfcdagoigkaaDoor.Rec

end
section
/-! RecJ -/
/- record: the form's record. -/
set_option maxRecDepth 100000
set_option linter.unusedSimpArgs false
set_option linter.unusedVariables false
set_option linter.unnecessarySimpa false
set_option linter.unusedSectionVars false
namespace Go.Proofs.YtbnhfcdagoigkaaDoor.Rec
open Go Go.Hw Go.Form Go.Crc Go.Proofs.YtbnhfcdagoigkaaDoor.W Go.Proofs.YtbnhfcdagoigkaaDoor.FormP

/-- A record's whole form. -/
def R.form (r : R) (size : Nat) : List UInt8 := Form.form r.w4 ++ List.replicate (size - 32) 0
theorem form_w4 (r : R) : (Form.form r.w4).length = 32 := by rw [form_length]; rfl
theorem rform_len (r : R) {size : Nat} (h : 32 ≤ size) : (r.form size).length = size := by
  unfold R.form
  rw [List.length_append, form_w4, List.length_replicate]; omega
theorem rform_nought (r : R) (size : Nat) : nought (r.form size) = true := by
  unfold nought R.form
  refine decide_eq_true fun x hx => ?_
  rw [List.drop_append, form_w4, Nat.sub_self, List.drop_eq_nil_of_le (by rw [form_w4]; exact Nat.le_refl _), List.nil_append, List.drop_zero] at hx
  exact (List.mem_replicate.1 hx).2
theorem wordN_app (a b : List UInt8) (o : Nat) (h : o + 8 ≤ a.length) : wordN (a ++ b) o = wordN a o := by
  unfold wordN
  rw [List.drop_append, List.take_append, List.length_drop, show 8 - (a.length - o) = 0 by omega, List.take_zero, List.append_nil]

theorem recOf_r (r : R) (hg : r.good) (hu : r.u32) : recOf (joinN 0 r.p1) (joinN 0 r.p2) (joinN 0 r.p3) = r := by
  rw [p1_sum r hg, p2_sum r hg hu, p3_sum r hu]
  obtain ⟨g1, g2, g3, g4, g5, g6⟩ := hg
  obtain ⟨u1, u2, u3⟩ := hu
  obtain ⟨s, kd, kk, dir, ps, ld, inp, out⟩ := r
  simp only at *
  unfold recOf
  congr 1 <;> omega

theorem rform_words (r : R) (size : Nat) : wordN (r.form size) 0 = joinN 0 r.p1 ∧ wordN (r.form size) 8 = joinN 0 r.p2 ∧ wordN (r.form size) 16 = joinN 0 r.p3 ∧ wordN (r.form size) 24 = joinN 0 (sealP r.w3) := by
  have h4 : r.w4.length = 4 := rfl
  have w0 := wordN_form (l := r.w4) (i := 0) (by omega) (List.replicate (size - 32) 0)
  have w1 := wordN_form (l := r.w4) (i := 1) (by omega) (List.replicate (size - 32) 0)
  have w2 := wordN_form (l := r.w4) (i := 2) (by omega) (List.replicate (size - 32) 0)
  have w3 := wordN_form (l := r.w4) (i := 3) (by omega) (List.replicate (size - 32) 0)
  refine ⟨w0.trans ?_, w1.trans ?_, w2.trans ?_, w3.trans ?_⟩
  · exact UInt64.toNat_ofNat_of_lt' (joinN_lt r.p1 0 (by decide))
  · exact UInt64.toNat_ofNat_of_lt' (joinN_lt r.p2 0 (by decide))
  · exact UInt64.toNat_ofNat_of_lt' (joinN_lt r.p3 0 (by decide))
  · exact UInt64.toNat_ofNat_of_lt' (joinN_lt (sealP r.w3) 0 (by decide))

theorem takeV_form (r : R) (hg : r.good) (hu : r.u32) {size : Nat} (h32 : 32 ≤ size) (hs : secB (size : Int) = true) : takeV (r.form size) = (r, 0) := by
  obtain ⟨w0, w1, w2, w3⟩ := rform_words r size
  have hU : w3U (r.form size) = r.w3 := by
    unfold w3U
    rw [w0, w1, w2]; rfl
  have hr := recOf_r r hg hu
  have hm : joinN 0 r.p1 / 281474976710656 = 21061 := by
    have := p1_sum r hg
    have := hg.1
    have := hg.2.1
    omega
  unfold takeV
  rw [rform_len r h32, if_pos hs, hU, w0, w1, w2, w3, hr, if_pos ⟨hm, rform_nought r size⟩, if_pos rfl, if_pos hg]

end Go.Proofs.YtbnhfcdagoigkaaDoor.Rec

end
section
/-! RecK -/
/- record: Put where it can't. -/
set_option maxRecDepth 100000
set_option linter.unusedSimpArgs false
set_option linter.unusedVariables false
set_option linter.unnecessarySimpa false
set_option linter.unusedSectionVars false
namespace Go.Proofs.YtbnhfcdagoigkaaDoor.Rec
open Go Go.Hw Go.Form Go.Crc Go.Proofs.YtbnhfcdagoigkaaDoor.W Go.Proofs.YtbnhfcdagoigkaaDoor.FormP

theorem Put_no (r : R) (x : Int) (h : ¬ (r.good ∧ secB x = true)) (H : Hp) : HCalls Tryd.prog 13 #[.agg r.c, .int .i64 x] H (RetE (.tuple #[.slice none 0 0, .int .i64 1]) H) := HCalls.ret (by
  apply W_record_Put.ok
  unfold W_record_Put
  refine (Sep.start H).nw fun b1 H1 hs => ?_
  have hs : Sep [own H, pts b1 (recO r)] H1 := hs
  refine hs.ldw 1 rfl rfl ?_
  refine HCalls.use (Good_ok r H1) ?_
  simp only [DI_int', DB_bool, DS_string, DP_pointer, DSl_slice, DM_map, DA_agg, DTup_tuple, DCons_cons, DNil_nil, NN_some, BIf_true, BIf_false, BIf_same, List.toList_toArray, Bool.not_true, Bool.not_false]
  by_cases hg : r.good
  · rw [decide_eq_true hg]
    refine BIf_neg rfl ?_
    refine HCalls.use (sector_ok x H1) ?_
    rw [show secB x = false by simpa using fun g => h ⟨hg, g⟩]
    simp only [DI_int', DB_bool, DS_string, DP_pointer, DSl_slice, DM_map, DA_agg, DTup_tuple, DCons_cons, DNil_nil, NN_some, BIf_true, BIf_false, BIf_same, List.toList_toArray, Bool.not_true, Bool.not_false]
    exact hs.fin 0 rfl _
  · rw [decide_eq_false hg]
    exact BIf_pos rfl (hs.fin 0 rfl _))

/-- What Put's row holds. -/
theorem put_row (r : R) {size : Nat} (h32 : 32 ≤ size) : setAt (zeroRow [Value.int .u8 0] size) 0 (byteVals (Form.form r.w4)) = byteVals (r.form size) := by
  rw [zeroRow_one]
  unfold setAt R.form
  rw [List.take_zero, List.nil_append, Nat.zero_add, byteVals_length, form_w4, List.drop_replicate]
  unfold byteVals
  rw [List.map_append, List.map_replicate]; rfl

end Go.Proofs.YtbnhfcdagoigkaaDoor.Rec

end
section
/-! RecM -/
/- record: a form of which one byte is another one. -/
set_option maxRecDepth 100000
set_option linter.unusedSimpArgs false
set_option linter.unusedVariables false
set_option linter.unnecessarySimpa false
set_option linter.unusedSectionVars false
namespace Go.Proofs.YtbnhfcdagoigkaaDoor.CrcP
open Go Go.Crc

/-- One byte that is another one makes another sum. -/
theorem sum_turned (a b : List UInt8) {x y : UInt8} (h : x ≠ y) : sum (a ++ x :: b) ≠ sum (a ++ y :: b) := fun e => h (by
  have e1 : run (~~~ 0#32) (a ++ x :: b) = run (~~~ 0#32) (a ++ y :: b) := by
    have : ~~~ run (~~~ 0#32) (a ++ x :: b) = ~~~ run (~~~ 0#32) (a ++ y :: b) := e
    exact BitVec.not_inj.1 this
  rw [run_append, run_append] at e1
  generalize run (~~~ 0#32) a = u at e1
  have e2 : run (byte u x) b = run (byte u y) b := e1
  have h1 := run_lin b (byte u x ^^^ byte u y) (byte u y)
  rw [BitVec.xor_assoc, BitVec.xor_self, BitVec.xor_zero, e2] at h1
  have h2 : it bit1 (8 * b.length) (byte u x ^^^ byte u y) = 0#32 := by
    have := congrArg (fun z => z ^^^ run (byte u y) b) h1
    simp only [BitVec.xor_self, BitVec.xor_assoc, BitVec.xor_zero] at this
    exact this.symm
  have h3 := it_inj _ h2
  have h4 : it bit1 8 (low x ^^^ low y) = 0#32 := by
    unfold byte at h3
    rw [← Lin.it lin_bit1 8, xor4, BitVec.xor_self, BitVec.zero_xor] at h3
    exact h3
  have h5 := it_inj _ h4
  have h6 : low x = low y := by
    have := congrArg (fun z => z ^^^ low y) h5
    simp only [BitVec.xor_assoc, BitVec.xor_self, BitVec.xor_zero, BitVec.zero_xor] at this
    exact this
  unfold low at h6
  have h7 := congrArg BitVec.toNat h6
  rw [BitVec.toNat_setWidth, BitVec.toNat_setWidth, Nat.mod_eq_of_lt (by have := x.toBitVec.isLt; omega), Nat.mod_eq_of_lt (by have := y.toBitVec.isLt; omega)] at h7
  exact UInt8.toNat_inj.1 h7)

theorem sum_set {bs : List UInt8} {i : Nat} (hi : i < bs.length) {c : UInt8} (hc : c ≠ bs[i]) : sum (bs.set i c) ≠ sum bs := by
  have e : bs = bs.take i ++ bs[i] :: bs.drop (i + 1) := by rw [List.getElem_cons_drop, List.take_append_drop]
  have e2 : bs.set i c = bs.take i ++ c :: bs.drop (i + 1) := by rw [List.set_eq_take_append_cons_drop, if_pos hi]
  rw [e2]
  intro h
  refine sum_turned (bs.take i) (bs.drop (i + 1)) hc (h.trans ?_)
  rw [← e]
end Go.Proofs.YtbnhfcdagoigkaaDoor.CrcP
namespace Go.Proofs.YtbnhfcdagoigkaaDoor.Rec
open Go Go.Hw Go.Form Go.Crc Go.Proofs.YtbnhfcdagoigkaaDoor.W Go.Proofs.YtbnhfcdagoigkaaDoor.FormP

theorem formW_wordN (bs : List UInt8) (o : Nat) (h : o + 8 ≤ bs.length) : formW (UInt64.ofNat (wordN bs o)) = (bs.drop o).take 8 := by
  rw [formW_bytes, UInt64.toNat_ofNat_of_lt' (wordN_lt bs o)]
  unfold wordN
  have h8 : ((bs.drop o).take 8).length = 8 := by simp; omega
  have := bytesN_leN ((bs.drop o).take 8)
  rw [h8] at this
  exact this

theorem form_w3U (bs : List UInt8) (h : 24 ≤ bs.length) : Form.form (w3U bs) = bs.take 24 := by
  unfold w3U Form.form
  simp only [List.flatMap_cons, List.flatMap_nil, List.append_nil]
  rw [formW_wordN bs 0 (by omega), formW_wordN bs 8 (by omega), formW_wordN bs 16 (by omega), List.drop_zero]
  rw [← List.append_assoc, show List.take 8 bs ++ List.take 8 (List.drop 8 bs) = bs.take (8 + 8) from List.take_add.symm, show List.take (8 + 8) bs ++ List.take 8 (List.drop 16 bs) = bs.take (16 + 8) from List.take_add.symm]

theorem wordN_eq {bs cs : List UInt8} (hl : cs.length = bs.length) (o : Nat) (ho : o + 8 ≤ bs.length) : wordN cs o = wordN bs o ↔ (cs.drop o).take 8 = (bs.drop o).take 8 := by
  unfold wordN
  exact leN_eq_iff (by simp [hl])

theorem set_drop_take {bs : List UInt8} {i o : Nat} {c : UInt8} (h : i < o ∨ o + 8 ≤ i) : ((bs.set i c).drop o).take 8 = (bs.drop o).take 8 := by
  apply List.ext_getElem?
  intro j
  rw [List.getElem?_take, List.getElem?_take]
  split
  · rw [List.getElem?_drop, List.getElem?_drop, List.getElem?_set]
    rw [if_neg (by omega)]
  · rfl

theorem set_eq {bs : List UInt8} {i : Nat} {c : UInt8} (hi : i < bs.length) (h : bs.set i c = bs) : c = bs[i] := by
  have := congrArg (fun l => l[i]?) h
  simp [List.getElem?_set, hi] at this
  exact this

/-- A turned form is none. -/
theorem takeV_turned (r : R) (hg : r.good) (hu : r.u32) {size : Nat} (h32 : 32 ≤ size) (hs : secB (size : Int) = true) {i : Nat} (hi : i < (r.form size).length) {c : UInt8} (hc : c ≠ (r.form size)[i]) :
    (takeV ((r.form size).set i c)).1 = zeroR ∧ (takeV ((r.form size).set i c)).2 ≠ 0 := by
  have hlen := rform_len r h32
  have hform := takeV_form r hg hu h32 hs
  have hn0 := rform_nought r size
  generalize hb : r.form size = bs at *
  unfold takeV
  have hl : (bs.set i c).length = bs.length := List.length_set
  rw [hl, hlen, if_pos hs]
  by_cases hA : wordN (bs.set i c) 0 / 281474976710656 = 21061 ∧ nought (bs.set i c) = true
  case neg => rw [if_neg hA]; exact ⟨rfl, (by decide : (10 : Int) ≠ 0)⟩
  rw [if_pos hA]
  by_cases hB : wordN (bs.set i c) 24 = joinN 0 (sealP (w3U (bs.set i c)))
  case neg => rw [if_neg hB]; exact ⟨rfl, (by decide : (9 : Int) ≠ 0)⟩
  exfalso
  have hB0 : wordN bs 24 = joinN 0 (sealP (w3U bs)) := by
    unfold takeV at hform
    rw [hlen, if_pos hs] at hform
    split at hform
    · split at hform
      · rename_i h; exact h
      · exact absurd (congrArg Prod.snd hform) (by decide : (9 : Int) ≠ 0)
    · exact absurd (congrArg Prod.snd hform) (by decide : (10 : Int) ≠ 0)
  by_cases h1 : 32 ≤ i
  · -- behind the words all is nought
    have hn1 := of_decide_eq_true hA.2
    have hn2 := of_decide_eq_true hn0
    have e1 : ((bs.set i c).drop 32)[i - 32]? = some c := by
      rw [List.getElem?_drop, List.getElem?_set, if_pos (by omega), if_pos (by omega)]
    have e2 : (bs.drop 32)[i - 32]? = some bs[i] := by
      rw [List.getElem?_drop, show 32 + (i - 32) = i by omega, List.getElem?_eq_getElem hi]
    exact hc ((hn1 _ (List.mem_of_getElem? e1)).trans (hn2 _ (List.mem_of_getElem? e2)).symm)
  by_cases h2 : 24 ≤ i
  · have hw : w3U (bs.set i c) = w3U bs := by
      unfold w3U
      rw [(wordN_eq hl 0 (by omega)).2 (set_drop_take (by omega)), (wordN_eq hl 8 (by omega)).2 (set_drop_take (by omega)), (wordN_eq hl 16 (by omega)).2 (set_drop_take (by omega))]
    rw [hw, ← hB0] at hB
    have h3 := (wordN_eq hl 24 (by omega)).1 hB
    have h4 := congrArg (fun l => l[i - 24]?) h3
    simp only [List.getElem?_take, if_pos (show i - 24 < 8 by omega), List.getElem?_drop, show 24 + (i - 24) = i by omega, List.getElem?_set, if_true, if_pos hi, List.getElem?_eq_getElem hi, Option.some.injEq] at h4
    exact hc h4
  · rw [(wordN_eq hl 24 (by omega)).2 (set_drop_take (by omega)), hB0, seal_sum, seal_sum, form_w3U _ (by omega), form_w3U _ (by omega)] at hB
    have h3 : sum (bs.take 24) = sum ((bs.set i c).take 24) := by
      apply BitVec.eq_of_toNat_eq
      have a1 := (sum (bs.take 24)).isLt
      have a2 := (sum ((bs.set i c).take 24)).isLt
      omega
    rw [List.take_set] at h3
    refine CrcP.sum_set (bs := bs.take 24) (i := i) (by simp; omega) ?_ h3.symm
    rw [List.getElem_take]; exact hc

end Go.Proofs.YtbnhfcdagoigkaaDoor.Rec

end
section
/-! RecN -/
/- The law RecordTurned. -/
set_option maxRecDepth 100000
set_option linter.unusedSimpArgs false
set_option linter.unusedVariables false
set_option linter.unnecessarySimpa false
set_option linter.unusedSectionVars false
namespace Go.Proofs.YtbnhfcdagoigkaaDoor.Rec
open Go Go.Hw Go.Form Go.Crc Go.Proofs.YtbnhfcdagoigkaaDoor.W Go.Proofs.YtbnhfcdagoigkaaDoor.FormP

theorem sizes : ∀ j : Nat, j < 8 → shlI .i64 32 (IntKind.u64.wrap (j : Int)) = ((32 * 2 ^ j : Nat) : Int) ∧ (Lay.NeedV 0 ((32 * 2 ^ j : Nat) : Int)).2 = 0 ∧ 32 ≤ 32 * 2 ^ j ∧ 32 * 2 ^ j ≤ 4096 := by decide +kernel

set_option maxHeartbeats 1000000 in
theorem RecordTurned_ok (r : R) (hwf : r.wf) (s a : Nat) (ha : a ≤ 65535) (c : UInt8) (H : Hp) (hN : Names H) :
    HCalls Tryd.prog 4 #[.agg r.c, .int .u8 (s : Int), .int .u16 (a : Int), .int .u8 (c.toNat : Int)] H (Ret (.bool true) H) := by
  apply W_abacistlaw20_RecordTurned.ok
  unfold W_abacistlaw20_RecordTurned
  refine (Sep.start H).nw fun b1 H1 hs => ?_
  have hs : Sep [own H, pts b1 (recO r)] H1 := hs
  refine HCalls.use (awake_ok H1 (Cells.le hN (hs.ow 0 rfl))) ?_
  simp only [DI_int', DB_bool, DS_string, DP_pointer, DSl_slice, DM_map, DA_agg, DTup_tuple, DCons_cons, DNil_nil, NN_some, BIf_true, BIf_false, BIf_same, List.toList_toArray, Bool.not_true, Bool.not_false]
  refine hs.ldw 1 rfl rfl ?_
  refine HCalls.use (rGood_ok r H1) ?_
  simp only [DI_int', DB_bool, DS_string, DP_pointer, DSl_slice, DM_map, DA_agg, DTup_tuple, DCons_cons, DNil_nil, NN_some, BIf_true, BIf_false, BIf_same, List.toList_toArray, Bool.not_true, Bool.not_false]
  by_cases hg : r.good
  case neg =>
    rw [decide_eq_false hg]
    exact BIf_pos rfl (hs.fin 0 rfl _)
  rw [decide_eq_true hg]
  refine BIf_neg rfl (hs.ldw 1 rfl rfl ⟨by decide, by simp, ?_⟩)
  have hu := hwf.u
  rw [show Int.tmod (s : Int) 8 = ((s % 8 : Nat) : Int) from rfl]
  obtain ⟨e1, e2, e3, e4⟩ := sizes (s % 8) (Nat.mod_lt _ (by decide))
  rw [e1]
  generalize 32 * 2 ^ (s % 8) = size at *
  refine ⟨by rw [u64w (by omega) (by omega)]; omega, ?_⟩
  refine (Put_tr r hg hu size e3 e4 e2).use hs [] rfl rfl ?_
  rintro _ _ H1 ⟨bf, rfl, rfl⟩ hs
  simp only [DI_int', DB_bool, DS_string, DP_pointer, DSl_slice, DM_map, DA_agg, DTup_tuple, DCons_cons, DNil_nil, NN_some, BIf_true, BIf_false, BIf_same, List.toList_toArray, Bool.not_true, Bool.not_false]
  refine BIf_bnen rfl (BIf_beqn (by omega) ?_)
  rw [put_row r e3] at hs
  have hs : Sep [pts bf (.row (byteVals (r.form size)) 5 (size * 1)), own H, pts b1 (recO r)] H1 := hs
  have hlen := rform_len r e3
  have hat : Int.tmod (IntKind.i64.wrap (a : Int)) (size : Int) = ((a % size : Nat) : Int) := by
    rw [i64n (by omega)]; rfl
  have hi : a % size < size := Nat.mod_lt _ (by omega)
  rw [hat]
  have hsec : secB (size : Int) = true := decide_eq_true e2
  have htu := fun h => takeV_turned r hg hu e3 hsec (i := a % size) (by rw [hlen]; exact hi) (c := c) h
  generalize a % size = i at *
  have hget : (byteVals (r.form size))[i]? = some (.int .u8 (((r.form size)[i]'(by rw [hlen]; exact hi)).toNat : Int)) := by
    unfold byteVals
    rw [List.getElem?_map, List.getElem?_eq_getElem (by rw [hlen]; exact hi)]; rfl
  refine ⟨by omega, by simp, ⟨by omega, by omega, ?_⟩⟩
  show Ld H1 _ _
  rw [Int.toNat_natCast, Nat.mul_one, Addr.add_lit', Nat.zero_add]
  refine hs.ldr 0 rfl hget ?_
  simp only [DI_int', DB_bool, DS_string, DP_pointer, DSl_slice, DM_map, DA_agg, DTup_tuple, DCons_cons, DNil_nil, NN_some, BIf_true, BIf_false, BIf_same, List.toList_toArray, Bool.not_true, Bool.not_false]
  by_cases hc : c = (r.form size)[i]'(by rw [hlen]; exact hi)
  · rw [← hc]
    exact BIf_beqp rfl (hs.fin 1 rfl _)
  refine BIf_beqn (fun e => hc (UInt8.toNat_inj.1 (by omega))) ?_
  obtain ⟨t1, t2⟩ := htu hc
  refine ⟨by omega, by omega, ?_⟩
  show St H1 (⟨bf, i, none⟩ : Addr) _ _
  refine hs.str 0 rfl (by unfold byteVals; rw [List.length_map, hlen]; exact hi) rfl fun H1 hs => ?_
  have hset : (byteVals (r.form size)).set i (.int .u8 (c.toNat : Int)) = byteVals ((r.form size).set i c) := by
    unfold byteVals; rw [List.map_set]
  rw [hset] at hs
  have hl2 : ((r.form size).set i c).length = size := by rw [List.length_set, hlen]
  have hcs : Cells H1 (some ⟨bf, 0, none⟩) (byteVals ((r.form size).set i c)) := by
    have := Cells.row (hs.get 0 rfl) 0 size
    rw [List.drop_zero, List.take_of_length_le (by unfold byteVals; rw [List.length_map, hl2]; exact Nat.le_refl _)] at this
    exact this
  refine HCalls.use (Take_ok (some ⟨bf, 0, none⟩) size size ((r.form size).set i c) hl2.symm (Nat.le_refl _) (by omega) (fun _ => e3) H1 hcs) ?_
  rw [t1]
  simp only [DI_int', DB_bool, DS_string, DP_pointer, DSl_slice, DM_map, DA_agg, DTup_tuple, DCons_cons, DNil_nil, NN_some, BIf_true, BIf_false, BIf_same, List.toList_toArray, Bool.not_true, Bool.not_false]
  refine hs.nw fun b2 H1 hs => ?_
  refine hs.stw 3 rfl rfl rfl rfl fun H1 hs => ?_
  refine BIf_bnep t2 (hs.ldw 3 rfl rfl ?_)
  have hz : zeroR.wf := ⟨by decide, by decide, by decide, by decide, by decide, ⟨by decide, by decide, by decide⟩⟩
  exact rec_eql hz hz true ⟨fun _ => rfl, fun _ => rfl⟩ (hs.fin 1 rfl _)

end Go.Proofs.YtbnhfcdagoigkaaDoor.Rec

end
