/- crc.Join, crc.Sum; the law CrcJoins. -/
import Derived.Test.YtdjdielefolfbaaCrcB
set_option linter.unusedSimpArgs false
set_option linter.unusedVariables false
set_option linter.unnecessarySimpa false
namespace Go.Proofs.Ytdjdielefolfbaa.CrcP
open Go Go.Hw Go.Crc Go.Form Go.Proofs.Ytdjdielefolfbaa.W

def matF (m : Nat → W32) (i : Nat) : Value := .int .u32 ((m i).toNat : Int)
def matV (m : Nat → W32) : Array Value := ((List.range 32).map (matF m)).toArray

theorem matV_size (m : Nat → W32) : (matV m).size = 32 := by simp [matV]
theorem matV_get (m : Nat → W32) {i : Nat} (h : i < 32) : (matV m)[i]? = some (.int .u32 ((m i).toNat : Int)) := by simp [matV, matF, h]
theorem matV_one (m : Nat → W32) : ∀ v ∈ matV m, v.oneCell' = true := by intro v hv; simp [matV, matF] at hv; obtain ⟨a, _, rfl⟩ := hv; rfl

theorem app_zero (m : Nat → W32) : ∀ k i out, app m k i 0#32 out = out
  | 0, _, _ => rfl
  | k + 1, i, out => by simp only [app]; rw [show (0#32 : W32) >>> 1 = 0#32 from rfl, app_zero m k]; rfl

theorem of_loop (K : Value → Hp → Prop) (b : Nat) (e : TypeId) (m : Nat → W32) (H : Hp) (hb : H b = some (.obj (.cells (matV m) e))) (w : W32) (k : K (.int .u32 (w.toNat : Int)) H) : ∀ (d i : Nat) (v out : W32), i + d = 32 → v.toNat < 2 ^ d → app m d i v out = w →
      W_crc_matrix_of.l3 K (d + 1) (some ⟨b, 0, none⟩) (v.toNat : Int) (out.toNat : Int) (i : Int) H
  | 0, i, v, out, hi, hv, hw => by
    unfold W_crc_matrix_of.l3
    refine BIf_dneg (by omega) ?_
    obtain rfl : out = w := hw
    exact k
  | d + 1, i, v, out, hi, hv, hw => by
    unfold W_crc_matrix_of.l3
    rw [BIf_decide]
    split
    · rw [odd32, shr32 v (i := 1) (n := 1) rfl (by omega), i64w (by omega) (by omega)]
      have hv' : (v >>> 1).toNat < 2 ^ d := by
        rw [BitVec.toNat_ushiftRight, Nat.shiftRight_eq_div_pow]
        rw [Nat.pow_succ] at hv; omega
      refine BIf_intro (fun h => ?_) (fun h => ?_)
      · simp only [NN_some]
        refine ⟨by omega, by omega, ?_⟩
        simp only [Addr.add_lit', Int.toNat_natCast, Nat.mul_one, Nat.zero_add]
        refine Ld_obj hb (matV_get m (by omega)) ?_
        simp only [DI_int', DB_bool, DS_string, DP_pointer, DSl_slice, DM_map, DA_agg, DTup_tuple, DCons_cons, DNil_nil, NN_some, BIf_true, BIf_false, BIf_same, List.toList_toArray, Bool.not_true, Bool.not_false]
        refine ⟨by omega, ?_⟩
        rw [xor32]
        refine of_loop K b e m H hb w k d (i + 1) _ _ (by omega) hv' ?_
        simp only [app, h, if_true] at hw
        exact hw
      · refine ⟨by omega, ?_⟩
        refine of_loop K b e m H hb w k d (i + 1) _ _ (by omega) hv' ?_
        simp only [app, h, Bool.false_eq_true, if_false] at hw
        exact hw
    · have h0 : v = 0#32 := BitVec.eq_of_toNat_eq (by rw [BitVec.toNat_ofNat]; omega)
      subst h0
      rw [app_zero] at hw
      subst hw
      exact k

theorem of_ok (b : Nat) (e : TypeId) (m : Nat → W32) (H : Hp) (hb : H b = some (.obj (.cells (matV m) e))) (v : W32) :
    HCalls Try.prog 51 #[.pointer (some ⟨b, 0, none⟩), .int .u32 (v.toNat : Int)] H (RetE (.int .u32 ((mul m v).toNat : Int)) H) := by
  apply W_crc_matrix_of.ok
  exact ⟨33, of_loop _ b e m H hb (mul m v) (RetE.mk _ _) 32 0 v 0#32 rfl v.isLt rfl⟩

theorem twice_loop (K : Value → Hp → Prop) (b b' : Nat) (e e' : TypeId) (m : Nat → W32) (H0 : Hp) (hb : H0 b = some (.obj (.cells (matV m) e))) (hn : H0 b' = none)
    (k : ∀ H, H0.le H → K (.agg (matV fun i => mul m (m i))) H) : ∀ (d i : Nat) (H : Hp), i + d = 32 → H = H0.set b' (.obj (.cells (filled (matF fun i => mul m (m i)) (.int .u32 0) 32 i) e')) →
      W_crc_matrix_twice.l2 K (d + 1) (some ⟨b, 0, none⟩) ⟨b', 0, none⟩ (i : Int) H
  | 0, i, H, hi, hH => by
    obtain rfl : i = 32 := by omega
    unfold W_crc_matrix_twice.l2
    refine BIf_dneg (by omega) ?_
    have hb' : H b' = some (.obj (.cells (matV fun i => mul m (m i)) e')) := by rw [hH, filled_all]; exact Hp.set_same _ _ _
    refine LdA_obj hb' (matV_size _) ?_
    rw [Array.toArray_toList]
    refine StA_obj hb' (matV_size _) (matV_size _) (matV_one _) ?_
    refine LdA_obj (Hp.set_same _ _ _) (matV_size _) ?_
    rw [Array.toArray_toList]
    refine k _ ?_
    rw [hH, Hp.set_set]
    exact Hp.le_set hn
  | d + 1, i, H, hi, hH => by
    unfold W_crc_matrix_twice.l2
    refine BIf_dpos (by omega) ?_
    have hle : H0.le H := by rw [hH]; exact Hp.le_set hn
    have hbH := hle _ _ hb
    have hb' : H b' = some (.obj (.cells (filled (matF fun i => mul m (m i)) (.int .u32 0) 32 i) e')) := by rw [hH]; exact Hp.set_same _ _ _
    simp only [NN_some]
    refine ⟨by omega, by omega, ?_⟩
    simp only [Addr.add_lit', Int.toNat_natCast, Nat.mul_one, Nat.zero_add, Nat.add_zero]
    refine Ld_obj hbH (matV_get m (by omega)) ?_
    simp only [DI_int', DB_bool, DS_string, DP_pointer, DSl_slice, DM_map, DA_agg, DTup_tuple, DCons_cons, DNil_nil, NN_some, BIf_true, BIf_false, BIf_same, List.toList_toArray, Bool.not_true, Bool.not_false]
    refine HCalls.use (of_ok b e m H hbH (m i)) ?_
    try simp only [DI_int', DB_bool, DS_string, DP_pointer, DSl_slice, DM_map, DA_agg, DTup_tuple, DCons_cons, DNil_nil, NN_some, BIf_true, BIf_false, BIf_same, List.toList_toArray, Bool.not_true, Bool.not_false]
    refine ⟨by omega, by omega, ?_⟩
    refine St_obj hb' (by rw [filled_size]; omega) rfl ?_
    rw [i64w (by omega) (by omega)]
    refine twice_loop K b b' e e' m H0 hb hn k d (i + 1) _ (by omega) ?_
    rw [hH, Hp.set_set]
    congr 3
    exact filled_set (matF fun i => mul m (m i)) (.int .u32 0) (by omega)

theorem twice_ok (b : Nat) (e : TypeId) (m : Nat → W32) (H : Hp) (hb : H b = some (.obj (.cells (matV m) e))) :
    HCalls Try.prog 50 #[.pointer (some ⟨b, 0, none⟩)] H (RetE (.agg (matV fun i => mul m (m i))) H) := by
  apply HCalls.ret
  apply W_crc_matrix_twice.ok
  unfold W_crc_matrix_twice
  intro b' hb'
  exact ⟨33, twice_loop _ b b' e _ m H hb hb' (fun H' hl => ⟨rfl, hl⟩) 32 0 _ rfl rfl⟩

def bitM (i : Nat) : W32 := if i = 0 then poly else 1#32 <<< (i - 1)

theorem shl_bit {i : Nat} (h0 : 1 ≤ i) (h : i < 32) : shlI .u32 1 (IntKind.u64.wrap (IntKind.i64.wrap ((i : Int) - 1))) = ((1#32 <<< (i - 1)).toNat : Int) := by
  rw [i64w (by omega) (by omega), u64w (by omega) (by omega)]
  exact shl32 1#32 (i := (i : Int) - 1) (n := i - 1) (by omega) (by omega)

theorem bit_loop (K : Value → Hp → Prop) (b : Nat) (e : TypeId) (H0 : Hp) (hn : H0 b = none) (k : ∀ H, H0.le H → K (.agg (matV bitM)) H) : ∀ (d i : Nat) (H : Hp), i + d = 32 → 1 ≤ i → H = H0.set b (.obj (.cells (filled (matF bitM) (.int .u32 0) 32 i) e)) →
      W_crc_bit.l3 K (d + 1) ⟨b, 0, none⟩ (i : Int) H
  | 0, i, H, hi, h1, hH => by
    obtain rfl : i = 32 := by omega
    unfold W_crc_bit.l3
    refine BIf_dneg (by omega) ?_
    have hb' : H b = some (.obj (.cells (matV bitM) e)) := by rw [hH, filled_all]; exact Hp.set_same _ _ _
    refine LdA_obj hb' (matV_size _) ?_
    rw [Array.toArray_toList]
    refine StA_obj hb' (matV_size _) (matV_size _) (matV_one _) ?_
    refine LdA_obj (Hp.set_same _ _ _) (matV_size _) ?_
    rw [Array.toArray_toList]
    refine k _ ?_
    rw [hH, Hp.set_set]
    exact Hp.le_set hn
  | d + 1, i, H, hi, h1, hH => by
    unfold W_crc_bit.l3
    refine BIf_dpos (by omega) ?_
    have hb' : H b = some (.obj (.cells (filled (matF bitM) (.int .u32 0) 32 i) e)) := by rw [hH]; exact Hp.set_same _ _ _
    rw [shl_bit h1 (by omega)]
    refine ⟨by rw [i64w (by omega) (by omega), u64w (by omega) (by omega)]; omega, by omega, by omega, ?_⟩
    simp only [Addr.add_lit', Int.toNat_natCast, Nat.mul_one, Nat.zero_add, Nat.add_zero]
    refine St_obj hb' (by rw [filled_size]; omega) rfl ?_
    rw [i64w (by omega) (by omega)]
    refine bit_loop K b e H0 hn k d (i + 1) _ (by omega) (by omega) ?_
    rw [hH, Hp.set_set]
    congr 3
    have := filled_set (matF bitM) (.int .u32 0) (n := 32) (i := i) (by omega)
    rw [← this]
    congr 1
    unfold matF bitM
    rw [if_neg (by omega)]

theorem bit_ok (H : Hp) : HCalls Try.prog 49 #[] H (RetE (.agg (matV bitM)) H) := by
  apply HCalls.ret
  apply W_crc_bit.ok
  unfold W_crc_bit
  intro b hb
  refine ⟨by omega, by omega, ?_⟩
  simp only [Addr.add_lit']
  refine St_obj (Hp.set_same _ _ _) (by simp) rfl ?_
  rw [Hp.set_set]
  exact ⟨32, bit_loop _ b _ H hb (fun H' hl => ⟨rfl, hl⟩) 31 1 _ rfl (by omega) rfl⟩

/-- A matrix is what a law makes of each bit. -/
def Rep (m : Nat → W32) (f : W32 → W32) : Prop := Lin f ∧ ∀ i, i < 32 → m i = f (1#32 <<< i)

theorem Rep.mul {m : Nat → W32} {f : W32 → W32} (h : Rep m f) (v : W32) : mul m v = f v := mul_lin h.1 h.2 v
theorem Rep.twice {m : Nat → W32} {f : W32 → W32} (h : Rep m f) : Rep (fun i => Crc.mul m (m i)) (fun v => f (f v)) :=
  ⟨fun x y => by show f (f (x ^^^ y)) = _; rw [h.1, h.1], fun i hi => by show Crc.mul m (m i) = _; rw [h.mul, h.2 i hi]⟩
theorem Rep.bit : Rep bitM bit1 := ⟨lin_bit1, by
  have : (List.range 32).all (fun i => bitM i == bit1 (1#32 <<< i)) = true := by decide +kernel
  intro i hi
  have := List.all_eq_true.1 this i (by simpa using hi)
  simpa using this⟩

theorem it_two (f : W32 → W32) : ∀ (k : Nat) (a : W32), it f (2 * k) a = it (fun v => f (f v)) k a
  | 0, a => rfl
  | k + 1, a => by rw [Nat.mul_succ, show 2 * k + 2 = (2 * k + 1) + 1 from rfl]; simp only [it]; exact it_two f k _

theorem join_loop (K : Value → Hp → Prop) (b : Nat) (e : TypeId) (H0 : Hp) (hn : H0 b = none) (t w : W32) (k : ∀ H, H0.le H → K (.int .u32 ((w ^^^ t).toNat : Int)) H) : ∀ (d n : Nat) (m : Nat → W32) (f : W32 → W32) (a : W32) (H : Hp), n < 2 ^ d → d ≤ 63 → Rep m f → it f n a = w → H = H0.set b (.obj (.cells (matV m) e)) →
      W_crc_Join.l8 K (d + 1) (a.toNat : Int) (t.toNat : Int) (n : Int) ⟨b, 0, none⟩ H
  | 0, n, m, f, a, H, hnd, hd, hr, hw, hH => by
    obtain rfl : n = 0 := by omega
    unfold W_crc_Join.l8
    refine BIf_dneg (by omega) ?_
    rw [xor32]
    obtain rfl : a = w := hw
    exact k H (by rw [hH]; exact Hp.le_set hn)
  | d + 1, n, m, f, a, H, hnd, hd, hr, hw, hH => by
    unfold W_crc_Join.l8
    rw [BIf_decide]
    split
    · have hp : 2 ^ (d + 1) ≤ 2 ^ 63 := Nat.pow_le_pow_right (by omega) hd
      rw [show (1 : Int) = ((1 : Nat) : Int) from rfl, and64n (by omega) (by omega), Nat.and_one_is_mod, shrNat n (i := ((1 : Nat) : Int)) (n := 1) rfl (by decide), Nat.shiftRight_eq_div_pow, Nat.pow_one]
      have hbH : H b = some (.obj (.cells (matV m) e)) := by rw [hH]; exact Hp.set_same _ _ _
      have hn2 : n / 2 < 2 ^ d := by rw [Nat.pow_succ] at hnd; omega
      refine BIf_intro (fun h => ?_) (fun h => ?_)
      · have h' : ((n % 2 : Nat) : Int) = ((1 : Nat) : Int) := by simpa using h
        have hodd : n % 2 = 1 := by omega
        refine HCalls.use (of_ok b e m H hbH a) ?_
        try simp only [DI_int', DB_bool, DS_string, DP_pointer, DSl_slice, DM_map, DA_agg, DTup_tuple, DCons_cons, DNil_nil, NN_some, BIf_true, BIf_false, BIf_same, List.toList_toArray, Bool.not_true, Bool.not_false]
        refine HCalls.use (twice_ok b e m H hbH) ?_
        try simp only [DI_int', DB_bool, DS_string, DP_pointer, DSl_slice, DM_map, DA_agg, DTup_tuple, DCons_cons, DNil_nil, NN_some, BIf_true, BIf_false, BIf_same, List.toList_toArray, Bool.not_true, Bool.not_false]
        refine StA_obj hbH (matV_size _) (matV_size _) (matV_one _) ?_
        refine ⟨by omega, ?_⟩
        refine join_loop K b e H0 hn t w k d (n / 2) _ _ _ _ hn2 (by omega) hr.twice ?_ (by rw [hH, Hp.set_set])
        rw [← it_two, hr.mul, ← hw]
        conv => rhs; rw [show n = 2 * (n / 2) + 1 by omega]
        rfl
      · have h' : ¬ ((n % 2 : Nat) : Int) = ((1 : Nat) : Int) := by simpa using h
        have hev : n % 2 = 0 := by omega
        refine HCalls.use (twice_ok b e m H hbH) ?_
        try simp only [DI_int', DB_bool, DS_string, DP_pointer, DSl_slice, DM_map, DA_agg, DTup_tuple, DCons_cons, DNil_nil, NN_some, BIf_true, BIf_false, BIf_same, List.toList_toArray, Bool.not_true, Bool.not_false]
        refine StA_obj hbH (matV_size _) (matV_size _) (matV_one _) ?_
        refine ⟨by omega, ?_⟩
        refine join_loop K b e H0 hn t w k d (n / 2) _ _ _ _ hn2 (by omega) hr.twice ?_ (by rw [hH, Hp.set_set])
        rw [← it_two, ← hw]
        conv => rhs; rw [show n = 2 * (n / 2) by omega]
    · obtain rfl : n = 0 := by omega
      rw [xor32]
      obtain rfl : a = w := hw
      exact k H (by rw [hH]; exact Hp.le_set hn)

theorem Join_ok (a t : W32) (n : Int) (hn : n ≤ 9223372036854775807) (H : Hp) :
    HCalls Try.prog 40 #[.int .u32 (a.toNat : Int), .int .u32 (t.toNat : Int), .int .i64 n] H (RetE (.int .u32 ((if n < 1 then a else it bit1 (8 * n.toNat) a ^^^ t).toNat : Int)) H) := by
  apply HCalls.ret
  apply W_crc_Join.ok
  unfold W_crc_Join
  rw [BIf_decide]
  split
  · exact ⟨rfl, Hp.le_refl _⟩
  rename_i hn1
  obtain ⟨n, rfl⟩ := Int.eq_ofNat_of_zero_le (show 0 ≤ n by omega)
  refine HCalls.use (bit_ok H) ?_
  try simp only [DI_int', DB_bool, DS_string, DP_pointer, DSl_slice, DM_map, DA_agg, DTup_tuple, DCons_cons, DNil_nil, NN_some, BIf_true, BIf_false, BIf_same, List.toList_toArray, Bool.not_true, Bool.not_false]
  intro b hb
  refine StA_obj (Hp.set_same _ _ _) (by simp) (matV_size _) (matV_one _) ?_
  rw [Hp.set_set]
  have step : ∀ (K : Value → Hp → Prop) (j : Nat) (m : Nat → W32) (d : Nat), j < 3 → W_crc_Join.l5 K d (a.toNat : Int) (t.toNat : Int) (n : Int) ⟨b, 0, none⟩ ((j + 1 : Nat) : Int) (H.set b (.obj (.cells (matV fun i => mul m (m i)) 99))) →
      W_crc_Join.l5 K (d + 1) (a.toNat : Int) (t.toNat : Int) (n : Int) ⟨b, 0, none⟩ ((j : Nat) : Int) (H.set b (.obj (.cells (matV m) 99))) := by
    intro K j m d hj h
    conv => unfold W_crc_Join.l5
    refine BIf_dpos (by omega) ?_
    refine HCalls.use (twice_ok b _ m _ (Hp.set_same _ _ _)) ?_
    try simp only [DI_int', DB_bool, DS_string, DP_pointer, DSl_slice, DM_map, DA_agg, DTup_tuple, DCons_cons, DNil_nil, NN_some, BIf_true, BIf_false, BIf_same, List.toList_toArray, Bool.not_true, Bool.not_false]
    refine StA_obj (Hp.set_same _ _ _) (matV_size _) (matV_size _) (matV_one _) ?_
    rw [Hp.set_set, i64w (by omega) (by omega)]
    exact h
  refine ⟨4, step _ 0 bitM 3 (by omega) (step _ 1 _ 2 (by omega) (step _ 2 _ 1 (by omega) ?_))⟩
  unfold W_crc_Join.l5
  refine BIf_dneg (by omega) ⟨64, ?_⟩
  refine join_loop _ b _ H hb t (it bit1 (8 * n) a) ?_ 63 n _ _ a _ (by omega) (by omega) Rep.bit.twice.twice.twice ?_ rfl
  · intro H' hl
    exact ⟨by simp, hl⟩
  · rw [it_mul]; rfl

/-! ## Sum -/

theorem Sum_loop (K : Value → Hp → Prop) (A : Option Addr) (n m : Nat) (hm : n ≤ 9223372036854775807) (parts : List (Option Addr × Nat × Nat × List UInt8)) (hn : n = parts.length) (H : Hp) (hc : Cells H A (parts.map fun p => .slice p.1 p.2.1 p.2.2.1))
    (hp : ∀ p ∈ parts, p.2.1 = p.2.2.2.length ∧ p.2.1 ≤ 9223372036854775807 ∧ Cells H p.1 (byteVals p.2.2.2)) (w : W32) (k : K (.int .u32 (w.toNat : Int)) H) : ∀ (d j : Nat) (s : W32), j + d = n → (parts.drop j).foldl (fun s p => more s p.2.2.2) s = w →
      W_crc_Sum.l3 K (d + 1) (s.toNat : Int) A n m (n : Int) (j : Int) H
  | 0, j, s, hj, hs => by
    unfold W_crc_Sum.l3
    refine BIf_dneg (by omega) ?_
    rw [List.drop_eq_nil_of_le (by omega)] at hs
    obtain rfl : s = w := hs
    exact k
  | d + 1, j, s, hj, hs => by
    unfold W_crc_Sum.l3
    refine BIf_dpos (by omega) ?_
    have hlt : j < parts.length := by omega
    refine hc.read (i := j) (v := .slice parts[j].1 parts[j].2.1 parts[j].2.2.1) (by rw [List.getElem?_map, List.getElem?_eq_getElem hlt]; rfl) rfl (by rw [List.length_map]; omega) ?_
    simp only [DI_int', DB_bool, DS_string, DP_pointer, DSl_slice, DM_map, DA_agg, DTup_tuple, DCons_cons, DNil_nil, NN_some, BIf_true, BIf_false, BIf_same, List.toList_toArray, Bool.not_true, Bool.not_false]
    obtain ⟨h1, h2, h3⟩ := hp parts[j] (List.getElem_mem hlt)
    refine HCalls.use (More_ok s _ _ _ _ h1 h2 H h3) ?_
    try simp only [DI_int', DB_bool, DS_string, DP_pointer, DSl_slice, DM_map, DA_agg, DTup_tuple, DCons_cons, DNil_nil, NN_some, BIf_true, BIf_false, BIf_same, List.toList_toArray, Bool.not_true, Bool.not_false]
    rw [i64w (by omega) (by omega)]
    refine Sum_loop K A n m hm parts hn H hc hp w k d (j + 1) _ (by omega) ?_
    rw [List.drop_eq_getElem_cons hlt] at hs
    exact hs

theorem Sum_ok (A : Option Addr) (n m : Nat) (hm : n ≤ 9223372036854775807) (parts : List (Option Addr × Nat × Nat × List UInt8)) (hn : n = parts.length) (H : Hp) (hc : Cells H A (parts.map fun p => .slice p.1 p.2.1 p.2.2.1))
    (hp : ∀ p ∈ parts, p.2.1 = p.2.2.2.length ∧ p.2.1 ≤ 9223372036854775807 ∧ Cells H p.1 (byteVals p.2.2.2)) :
    HCalls Try.prog 42 #[.slice A n m] H (RetE (.int .u32 ((parts.foldl (fun s p => more s p.2.2.2) 0#32).toNat : Int)) H) := by
  apply W_crc_Sum.ok
  exact ⟨n + 1, Sum_loop _ A n m hm parts hn H hc hp _ (RetE.mk _ _) n 0 0#32 (by omega) rfl⟩

theorem CrcJoins_ok (A1 A2 : Option Addr) (n1 m1 n2 m2 : Nat) (cs bs : List UInt8) (h1 : n1 = cs.length) (h2 : n2 = bs.length) (x : Int) (hx : x ≤ 9223372036854775807) (H : Hp) (ha : Cells H A1 (byteVals cs)) (hb : Cells H A2 (byteVals bs)) :
    HCalls Try.prog 10 #[.slice A1 n1 m1, .slice A2 n2 m2, .int .i64 x] H (RetE (.bool true) H) := by
  apply HCalls.ret
  apply W_abacistlaw16_CrcJoins.ok
  unfold W_abacistlaw16_CrcJoins
  refine HCalls.use (awake_ok H) ?_
  try simp only [DI_int', DB_bool, DS_string, DP_pointer, DSl_slice, DM_map, DA_agg, DTup_tuple, DCons_cons, DNil_nil, NN_some, BIf_true, BIf_false, BIf_same, List.toList_toArray, Bool.not_true, Bool.not_false]
  rw [BIf_decide, BIf_decide]
  split
  · exact ⟨rfl, Hp.le_refl _⟩
  split
  · exact ⟨rfl, Hp.le_refl _⟩
  refine BsK_of ha h1 ?_
  refine QCall.use (rOf_ok cs (by omega) H) ?_
  simp only [DI_int', DB_bool, DS_string, DP_pointer, DSl_slice, DM_map, DA_agg, DTup_tuple, DCons_cons, DNil_nil, NN_some, BIf_true, BIf_false, BIf_same, List.toList_toArray, Bool.not_true, Bool.not_false]
  refine BsK_of hb h2 ?_
  refine QCall.use (rOf_ok bs (by omega) H) ?_
  simp only [DI_int', DB_bool, DS_string, DP_pointer, DSl_slice, DM_map, DA_agg, DTup_tuple, DCons_cons, DNil_nil, NN_some, BIf_true, BIf_false, BIf_same, List.toList_toArray, Bool.not_true, Bool.not_false]
  refine BsK_of ha h1 (BsK_of hb h2 ?_)
  rw [FormP.bsize, FormP.bsize, FormP.bappend]
  refine ⟨by omega, ?_⟩
  refine HCalls.use (rOf_ok (cs ++ bs) (by simp; omega) H) ?_
  try simp only [DI_int', DB_bool, DS_string, DP_pointer, DSl_slice, DM_map, DA_agg, DTup_tuple, DCons_cons, DNil_nil, NN_some, BIf_true, BIf_false, BIf_same, List.toList_toArray, Bool.not_true, Bool.not_false]
  have hall : sum (cs ++ bs) = more (sum cs) bs := by unfold sum; exact more_append _ _ _
  refine HCalls.use (Join_ok (sum cs) (sum bs) n2 (by omega) H) ?_
  try simp only [DI_int', DB_bool, DS_string, DP_pointer, DSl_slice, DM_map, DA_agg, DTup_tuple, DCons_cons, DNil_nil, NN_some, BIf_true, BIf_false, BIf_same, List.toList_toArray, Bool.not_true, Bool.not_false]
  have hj : (if (n2 : Int) < 1 then sum cs else it bit1 (8 * (n2 : Int).toNat) (sum cs) ^^^ sum bs) = sum (cs ++ bs) := by
    rw [hall, more_join]
    split
    · have : bs = [] := List.eq_nil_of_length_eq_zero (by omega)
      subst this
      have h0 : sum [] = 0#32 := by decide
      rw [h0]; simp [it]
    · rw [Int.toNat_natCast, h2]
  rw [hj]
  refine BIf_pos (by simp) ?_
  refine HCalls.use (More_ok (sum cs) A2 n2 m2 bs h2 (by omega) H hb) ?_
  try simp only [DI_int', DB_bool, DS_string, DP_pointer, DSl_slice, DM_map, DA_agg, DTup_tuple, DCons_cons, DNil_nil, NN_some, BIf_true, BIf_false, BIf_same, List.toList_toArray, Bool.not_true, Bool.not_false]
  rw [← hall]
  refine BIf_pos (by simp) ?_
  intro b hbn
  have hle := Hp.le_set (o := .row [.slice A1 n1 m1, .slice A2 n2 m2] 28 2) hbn
  refine HCalls.use (Sum_ok (some ⟨b, 0, none⟩) 2 2 (by omega) [(A1, n1, m1, cs), (A2, n2, m2, bs)] rfl _ (Cells.row (Hp.set_same H b _) 0 2) (by intro p hp; simp at hp; rcases hp with rfl | rfl; exact ⟨h1, by simp; omega, ha.le hle⟩; exact ⟨h2, by simp; omega, hb.le hle⟩)) ?_
  try simp only [DI_int', DB_bool, DS_string, DP_pointer, DSl_slice, DM_map, DA_agg, DTup_tuple, DCons_cons, DNil_nil, NN_some, BIf_true, BIf_false, BIf_same, List.toList_toArray, Bool.not_true, Bool.not_false]
  have hs : List.foldl (fun s (p : Option Addr × Nat × Nat × List UInt8) => more s p.2.2.2) 0#32 [(A1, n1, m1, cs), (A2, n2, m2, bs)] = sum (cs ++ bs) := by rw [hall]; rfl
  rw [hs]
  refine BIf_pos (by simp) ?_
  rw [BIf_decide]
  split
  · exact ⟨rfl, hle⟩
  rename_i hx0
  refine HCalls.use (Join_ok (sum cs) (sum bs) x hx _) ?_
  try simp only [DI_int', DB_bool, DS_string, DP_pointer, DSl_slice, DM_map, DA_agg, DTup_tuple, DCons_cons, DNil_nil, NN_some, BIf_true, BIf_false, BIf_same, List.toList_toArray, Bool.not_true, Bool.not_false]
  rw [if_pos (by omega)]
  exact ⟨by simp, hle⟩

end Go.Proofs.Ytdjdielefolfbaa.CrcP
