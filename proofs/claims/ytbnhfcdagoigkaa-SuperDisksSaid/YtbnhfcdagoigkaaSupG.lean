/- The law SuperDisks. -/
import Derived.Test.YtbnhfcdagoigkaaSupF
set_option maxRecDepth 100000
set_option linter.unusedSimpArgs false
set_option linter.unusedVariables false
set_option linter.unnecessarySimpa false
set_option linter.unusedSectionVars false
namespace Go.Proofs.Ytbnhfcdagoigkaa.Sup
open Go Go.Hw Go.Form Go.Proofs.Ytbnhfcdagoigkaa.W Go.Proofs.Ytbnhfcdagoigkaa.Lay Go.Proofs.Ytbnhfcdagoigkaa.Dsk

def D2 (n zn f : Nat) : D := ⟨n, zn, fun _ => none, fun _ => none, fun _ => false, 1, 0, 0, false, f⟩

/-- What the write leaves. -/
theorem w2 {k sec s ar : Int} {n zn f : Nat} (hf : f < 5) (hn : 1 ≤ n) (hok : Ok (D2 n zn f)) (hg : goodB k sec s ar = true) (h1 : sec = n) (h2 : s = zn) (hl : (supF k sec s ar).length = zn) :
    ∃ e d, wrV (D2 n zn f) k sec s ar = (e, d) ∧ Ok d ∧ Dom d ∧ d.sec = n ∧ d.size = zn ∧ d.rd ≤ 50 ∧ d.down = (e == 8) ∧
      ((e = 0 ∧ d.safe 0 = some (supF k sec s ar) ∧ ∀ i, d.cache i = none) ∨ (e = 8 ∧ d.safe 0 = none ∧ (d.cache 0 = none ∨ d.cache 0 = some (supF k sec s ar)))) := by
  have hdom : Dom (D2 n zn f) := fun k hk => by cases hk
  have ho : ofB (D2 n zn f) sec s = true := by
    unfold ofB
    rw [decide_eq_true_eq]
    exact ⟨h1, h2⟩
  have hchk : (D2 n zn f).chk 0 = 0 := by
    unfold D.chk
    rw [if_neg (by show ¬ (false = true); simp), if_neg (by show ¬ ((0 : Int) < 0 ∨ (0 : Int) ≥ (n : Int)); omega)]
  have hst : s.toNat = zn := by omega
  have hE : (D2 n zn f).writeE 0 s.toNat = if (D2 n zn f).burns then 8 else 0 := by
    unfold D.writeE
    rw [if_neg (by rw [hchk]; simp), if_neg (by rw [hst]; show ¬ (zn ≠ zn); simp)]
  have hD : (D2 n zn f).writeD 0 (supF k sec s ar) = if (D2 n zn f).burns then (D2 n zn f).burnt else (D2 n zn f).wrote 0 (supF k sec s ar) := by
    unfold D.writeD
    rw [if_neg (by rw [hchk]; simp), if_neg (by rw [hl]; show ¬ (zn ≠ zn); simp)]
  have n1 := Next.write hok hdom 0 (supF k sec s ar)
  have n2 := Next.sync n1.ok n1.dom
  have hwr : wrV (D2 n zn f) k sec s ar = if (D2 n zn f).burns then (8, (D2 n zn f).burnt) else (((D2 n zn f).wrote 0 (supF k sec s ar)).syncE, ((D2 n zn f).wrote 0 (supF k sec s ar)).syncD) := by
    unfold wrV
    rw [if_neg (by rw [hg, ho]; simp), hE, hD]
    cases (D2 n zn f).burns with
    | true => rfl
    | false => rfl
  rw [hwr]
  rw [hD] at n1 n2
  have hc : f = 0 ∨ f = 1 ∨ f = 2 ∨ f = 3 ∨ f = 4 := by omega
  rcases hc with rfl | rfl | rfl | rfl | rfl
  · exact ⟨0, ((D2 n zn 0).wrote 0 (supF k sec s ar)).syncD, rfl, n2.ok, n2.dom, rfl, rfl, by show 1 ≤ 50; omega, rfl, .inl ⟨rfl, by rfl, fun i => rfl⟩⟩
  · exact ⟨8, (D2 n zn 1).burnt, rfl, n1.ok, n1.dom, rfl, rfl, by show 1 ≤ 50; omega, rfl, .inr ⟨rfl, rfl, .inl rfl⟩⟩
  · exact ⟨8, ((D2 n zn 2).wrote 0 (supF k sec s ar)).syncD, rfl, n2.ok, n2.dom, rfl, rfl, by show 1 ≤ 50; omega, rfl, .inr ⟨rfl, rfl, .inr rfl⟩⟩
  · exact ⟨0, ((D2 n zn 3).wrote 0 (supF k sec s ar)).syncD, rfl, n2.ok, n2.dom, rfl, rfl, by show 1 ≤ 50; omega, rfl, .inl ⟨rfl, by rfl, fun i => rfl⟩⟩
  · exact ⟨0, ((D2 n zn 4).wrote 0 (supF k sec s ar)).syncD, rfl, n2.ok, n2.dom, rfl, rfl, by show 1 ≤ 50; omega, rfl, .inl ⟨rfl, by rfl, fun i => rfl⟩⟩

set_option maxHeartbeats 1000000 in
theorem SuperDisks_ok (k sec s ar : Int) (hr : ∀ z ∈ sbL ((k, sec, s, ar) : Sb), -9223372036854775808 ≤ z ∧ z ≤ 9223372036854775807) (x5 x6 x7 : Nat) (h5 : x5 ≤ 255) (h6 : x6 ≤ 255) (h7 : x7 ≤ 255) (c1 : Bool) (H : Hp) :
    HCalls Try.prog 3 #[.agg #[.int .i64 k, .int .i64 sec, .int .i64 s, .int .i64 ar], .int .u8 x5, .int .u8 x6, .int .u8 x7, .bool c1] H (Ret (.bool true) H) := by
  apply W_abacistlaw18_SuperDisks.ok
  unfold W_abacistlaw18_SuperDisks
  refine (Sep.start H).nw fun b1 H1 hs => ?_
  refine HCalls.use (awake_ok H1) ?_
  try simp only [DI_int', DB_bool, DS_string, DP_pointer, DSl_slice, DM_map, DA_agg, DTup_tuple, DCons_cons, DNil_nil, NN_some, BIf_true, BIf_false, BIf_same, List.toList_toArray, Bool.not_true, Bool.not_false]
  refine HCalls.use (awake_ok H1) ?_
  try simp only [DI_int', DB_bool, DS_string, DP_pointer, DSl_slice, DM_map, DA_agg, DTup_tuple, DCons_cons, DNil_nil, NN_some, BIf_true, BIf_false, BIf_same, List.toList_toArray, Bool.not_true, Bool.not_false]
  obtain ⟨t, ht, hw0, hsh⟩ := size8 x6
  have e1 : IntKind.i64.wrap ((1 : Int) + IntKind.i64.wrap (x5 : Int)) = ((1 + x5 : Nat) : Int) := by
    rw [i64n (n := x5) (by omega), i64w (by omega) (by omega)]; omega
  have e2 : IntKind.i64.wrap (Int.tmod (x7 : Int) 5) = ((x7 % 5 : Nat) : Int) := by
    rw [show Int.tmod (x7 : Int) 5 = ((x7 % 5 : Nat) : Int) from rfl, i64n (by omega)]
  simp only [hsh, e1, e2]
  obtain ⟨hper, hz4⟩ := per8 ht
  generalize 32 * 2 ^ t = zn at *
  have hn1 : 1 ≤ 1 + x5 ∧ 1 + x5 ≤ 256 := by omega
  generalize 1 + x5 = n at *
  have hf : x7 % 5 < 5 := Nat.mod_lt _ (by omega)
  generalize x7 % 5 = f at *
  have hbig : n * zn ≤ 67108864 := Nat.le_trans (Nat.mul_le_mul hn1.2 hz4) (by decide)
  have hokF : Ok (D.fresh n zn) := Ok.fresh (by omega) hper hbig
  refine ⟨by decide, by simp, hw0, ?_⟩
  refine (New_tr n zn (by omega) hper hbig).use hs [] rfl rfl ?_
  rintro _ _ H1 ⟨p, rfl, rfl⟩ hs
  simp only [DI_int', DB_bool, DS_string, DP_pointer, DSl_slice, DM_map, DA_agg, DTup_tuple, DCons_cons, DNil_nil, NN_some, BIf_true, BIf_false, BIf_same, List.toList_toArray, Bool.not_true, Bool.not_false]
  refine BIf_neg rfl ?_
  have hchk : (D.fresh n zn).chk 0 = 0 := by
    unfold D.chk
    rw [if_neg (by show ¬ (false = true); simp), if_neg (by show ¬ ((0 : Int) < 0 ∨ (0 : Int) ≥ (n : Int)); omega)]
  refine (sRead_tr (p := p) (d := D.fresh n zn) hokF (by show 0 ≤ _; omega) hchk rfl).use hs [0] rfl rfl ?_
  rintro _ _ H1 ⟨rfl, rfl⟩ hs
  have hrz : rdV (D.fresh n zn) ((D.fresh n zn).now 0) = ((0, 0, 0, 0), 10) := by
    show rdV (D.fresh n zn) (List.replicate zn 0) = _
    unfold rdV
    rw [takeV_zero zn hper, if_pos (by simp)]
  rw [hrz]
  simp only [DI_int', DB_bool, DS_string, DP_pointer, DSl_slice, DM_map, DA_agg, DTup_tuple, DCons_cons, DNil_nil, NN_some, BIf_true, BIf_false, BIf_same, List.toList_toArray, Bool.not_true, Bool.not_false]
  refine hs.nw fun b2 H1 hs => ?_
  refine hs.stw 3 rfl rfl rfl rfl fun H1 hs => ?_
  refine BIf_bnen rfl ?_
  try simp only [NN_some, Addr.add_lit', Addr.add_zero, Nat.zero_add, Nat.add_zero]
  refine ⟨by decide, by simp, ?_⟩
  have hs : Sep [Dk p (D2 n zn 0), own H, pts b1 (.obj (.cells (supV k sec s ar) 23)), pts b2 (.obj (.cells (supV 0 0 0 0) 23))] H1 := hs
  refine (Fuse_tr (p := p) (d := D2 n zn 0) (f : Int)).use hs [0] rfl rfl ?_
  rintro _ _ H1 ⟨rfl, rfl⟩ hs
  have hs : Sep [Dk p (D2 n zn f), own H, pts b1 (.obj (.cells (supV k sec s ar) 23)), pts b2 (.obj (.cells (supV 0 0 0 0) 23))] H1 := hs
  have hok2 : Ok (D2 n zn f) := ⟨hokF.sec, hokF.size, hokF.big, hokF.per, fun k b h => (by cases h), fun k b h => (by cases h), by show f ≤ _; omega⟩
  have hsec : sec ≤ 9223372036854775807 := (hr sec (by simp [sbL])).2
  refine hs.ldw 2 rfl rfl ?_
  refine (sWrite_tr (p := p) (d := D2 n zn f) hok2 ⟨by show 0 ≤ 1000; omega, by show 0 ≤ 1000; omega⟩ k sec s ar hsec).use hs [0] rfl rfl ?_
  rintro _ _ H1 ⟨rfl, rfl⟩ hs
  simp only [DI_int', DB_bool, DS_string, DP_pointer, DSl_slice, DM_map, DA_agg, DTup_tuple, DCons_cons, DNil_nil, NN_some, BIf_true, BIf_false, BIf_same, List.toList_toArray, Bool.not_true, Bool.not_false]
  refine hs.ldw 2 rfl rfl ?_
  refine HCalls.use (rGood_ok k sec s ar H1) ?_
  simp only [DI_int', DB_bool, DS_string, DP_pointer, DSl_slice, DM_map, DA_agg, DTup_tuple, DCons_cons, DNil_nil, NN_some, BIf_true, BIf_false, BIf_same, List.toList_toArray, Bool.not_true, Bool.not_false]
  have touched : (wrV (D2 n zn f) k sec s ar = (1, D2 n zn f)) → HCalls Try.prog 11 #[.pointer (some ⟨p, 3, none⟩)] H1 fun v12 H11 => DSl v12 fun A1 n1 m1 => Ret (.bool true) H (.bool (((n1 : Nat) : Int) == (0 : Int))) H11 := fun h => by
    rw [h] at hs
    refine (Touched_none (p := p) (d := D2 n zn f) rfl).use hs [0] rfl rfl ?_
    rintro _ _ H11 ⟨A, cap, rfl, rfl⟩ hs
    simp only [DI_int', DB_bool, DS_string, DP_pointer, DSl_slice, DM_map, DA_agg, DTup_tuple, DCons_cons, DNil_nil, NN_some, BIf_true, BIf_false, BIf_same, List.toList_toArray, Bool.not_true, Bool.not_false]
    exact hs.fin 1 rfl _
  cases hg : goodB k sec s ar with
  | false =>
    have e : wrV (D2 n zn f) k sec s ar = (1, D2 n zn f) := by unfold wrV; rw [if_pos (.inl hg)]
    refine BIf_pos rfl (BIf_beqp (by rw [e]) ?_)
    try simp only [NN_some, Addr.add_lit', Addr.add_zero, Nat.zero_add, Nat.add_zero]
    exact touched e
  | true =>
    refine BIf_neg rfl (hs.ld 2 (v := .int .i64 sec) rfl rfl ?_)
    simp only [DI_int', DB_bool, DS_string, DP_pointer, DSl_slice, DM_map, DA_agg, DTup_tuple, DCons_cons, DNil_nil, NN_some, BIf_true, BIf_false, BIf_same, List.toList_toArray, Bool.not_true, Bool.not_false]
    by_cases c2 : sec = n
    · refine BIf_bnen c2 (hs.ld 2 (v := .int .i64 s) rfl rfl ?_)
      simp only [DI_int', DB_bool, DS_string, DP_pointer, DSl_slice, DM_map, DA_agg, DTup_tuple, DCons_cons, DNil_nil, NN_some, BIf_true, BIf_false, BIf_same, List.toList_toArray, Bool.not_true, Bool.not_false]
      by_cases c3 : s = zn
      · refine BIf_bnen c3 ?_
        have hl := supF_len k sec s ar (by rw [c3]; exact hper)
        obtain ⟨e, d3, hw, q1, q2, q3, q4, q5, q6, q7⟩ := w2 (n := n) (zn := zn) (f := f) hf hn1.1 hok2 hg c2 c3 (by omega)
        rw [hw] at hs ⊢
        have fin : W_abacistlaw18_SuperDisks.j18 (Ret (.bool true) H) c1 ⟨b1, 0, none⟩ (some ⟨p, 0, none⟩) e H1 := j18_ok hg hr c2 c3 q1 q2 q3 q4 q5 q7 (fun he => by rw [q6, he]; rfl) (hs.re [1, 0, 2] rfl)
        have dn : HCalls Try.prog 12 #[.pointer (some ⟨p, 7, none⟩)] H1 fun v15 H14 => DB v15 fun c5 => BIf (!((e == (8 : Int)) == c5)) (Ret (.bool true) H (.bool false) H14) (W_abacistlaw18_SuperDisks.j18 (Ret (.bool true) H) c1 ⟨b1, 0, none⟩ (some ⟨p, 0, none⟩) e H14) := by
          refine HCalls.use (Down_s hs 0 rfl) ?_
          simp only [DI_int', DB_bool, DS_string, DP_pointer, DSl_slice, DM_map, DA_agg, DTup_tuple, DCons_cons, DNil_nil, NN_some, BIf_true, BIf_false, BIf_same, List.toList_toArray, Bool.not_true, Bool.not_false]
          rw [q6]
          exact BIf_neg (by simp) fin
        try simp only [NN_some, Addr.add_lit', Addr.add_zero, Nat.zero_add, Nat.add_zero]
        by_cases he : e = 0
        · exact BIf_bnen he dn
        · refine BIf_bnep he (BIf_bnen ?_ dn)
          rcases q7 with ⟨h, _⟩ | ⟨h, _⟩
          · exact absurd h he
          · exact h
      · have e : wrV (D2 n zn f) k sec s ar = (1, D2 n zn f) := by
          have ho : ofB (D2 n zn f) sec s = false := by
            unfold ofB
            rw [decide_eq_false_iff_not]
            exact fun h => c3 h.2
          unfold wrV
          rw [if_pos (.inr ho)]
        refine BIf_bnep c3 (BIf_beqp (by rw [e]) ?_)
        try simp only [NN_some, Addr.add_lit', Addr.add_zero, Nat.zero_add, Nat.add_zero]
        exact touched e
    · have e : wrV (D2 n zn f) k sec s ar = (1, D2 n zn f) := by
        have ho : ofB (D2 n zn f) sec s = false := by
          unfold ofB
          rw [decide_eq_false_iff_not]
          exact fun h => c2 h.1
        unfold wrV
        rw [if_pos (.inr ho)]
      refine BIf_bnep c2 (BIf_beqp (by rw [e]) ?_)
      try simp only [NN_some, Addr.add_lit', Addr.add_zero, Nat.zero_add, Nat.add_zero]
      exact touched e

end Go.Proofs.Ytbnhfcdagoigkaa.Sup
