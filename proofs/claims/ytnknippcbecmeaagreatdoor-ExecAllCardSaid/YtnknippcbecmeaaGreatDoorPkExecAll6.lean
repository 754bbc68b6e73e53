import Derived.Test.YtnknippcbecmeaaGreatDoorProg
import Derived.Shelf.SlIterI.Nil
import Derived.Shelf.SortM.Plain
import Derived.Shelf.SortM.SortNone
import Derived.Ground.GgzProg
import Derived.Ground.SlgmProg
import Derived.Shelf.Strconv.Itoa0
import Derived.Shelf.Strings.Trim
import Derived.Test.YtnknippcbecmeaaGreatDoorPkExecAll5
set_option maxRecDepth 100000
set_option linter.unusedSimpArgs false
set_option linter.unusedVariables false
set_option linter.unnecessarySimpa false
set_option linter.unusedSectionVars false
section
/- pass: the greatest batch; what is wrong with a pass. -/
namespace Go.Proofs.YtnknippcbecmeaaGreatDoor.Pas
open Go Go.Hw Go.Crc Go.Form W Shp Gol Fft Ker Str Dsk Are Trn
structure BatIs (ea q j : Nat) : Prop where
  le : j ≤ ea
  fit : 2 ^ j + 1 ≤ q
  most : j = ea ∨ q < 2 * 2 ^ j + 1
theorem BatIs.unique {ea q j j' : Nat} (h : BatIs ea q j) (h' : BatIs ea q j') : j = j' := by
  have key : ∀ {a b : Nat}, BatIs ea q a → BatIs ea q b → ¬ a < b := fun {a b} ha hb hlt => by
    have hp : 2 ^ (a + 1) ≤ 2 ^ b := pow_le hlt
    rw [Nat.pow_succ] at hp
    have h1 := hb.le
    have h2 := hb.fit
    rcases ha.most with e | e
    · omega
    · omega
  have h1 := key h h'
  have h2 := key h' h
  omega
theorem BatIs.ex {ea q : Nat} (h : 2 ≤ q) : ∃ j, BatIs ea q j := by
  have key : ∀ t j, j + t = ea → 2 ^ j + 1 ≤ q → ∃ j, BatIs ea q j := fun t => by
    induction t with
    | zero => intro j hj hf; exact ⟨j, by omega, hf, .inl (by omega)⟩
    | succ t ih =>
      intro j hj hf
      by_cases hc : 2 ^ (j + 1) + 1 ≤ q
      · exact ih (j + 1) (by omega) hc
      · rw [Nat.pow_succ] at hc
        exact ⟨j, by omega, hf, .inr (by omega)⟩
  exact key ea 0 (by omega) (by rw [Nat.pow_zero]; omega)
theorem pow2_inj {a b : Nat} (h : 2 ^ a = 2 ^ b) : a = b := by
  rcases Nat.lt_trichotomy a b with h1 | h1 | h1
  · have := Nat.pow_lt_pow_right (show 1 < 2 by omega) h1; omega
  · exact h1
  · have := Nat.pow_lt_pow_right (show 1 < 2 by omega) h1; omega
abbrev batC (r c per free : Int) : Prop := goodS r c = true ∧ c ≤ 1048576 ∧ perB per = true ∧ per ≤ free ∧ 2 * c ≤ free - per
def batQ (r c per free : Int) (v : Value) : Prop :=
  (¬ batC r c per free ∧ v = .tuple #[.int .i64 0, .bool false]) ∨
  (batC r c per free ∧ ∃ ea eb j : Nat, r = ((2 ^ ea : Nat) : Int) ∧ c = ((2 ^ eb : Nat) : Int) ∧ ea + eb ≤ 32 ∧ BatIs ea ((free - per).toNat / 2 ^ eb) j ∧ v = .tuple #[.int .i64 ((2 ^ j : Nat) : Int), .bool true])
theorem bat_loop {r c per free : Int} {ea eb f : Nat} (hr : r = ((2 ^ ea : Nat) : Int)) (hc : c = ((2 ^ eb : Nat) : Int)) (hab : ea + eb ≤ 32) (hf : free - per = (f : Int)) (hf2 : f ≤ 9223372036854775807) (hfr : free - per ≤ 9223372036854775807) (K : Value → Hp → Prop) (b1 : Nat) {L : List As} (i : Nat)
    (hi : L[i]? = some (pts b1 (.obj (.cells #[.int .i64 r, .int .i64 c] 59)))) {H : Hp} (hs : Sep L H) (hK : ∀ j, BatIs ea (f / 2 ^ eb) j → K (.tuple #[.int .i64 ((2 ^ j : Nat) : Int), .bool true]) H) :
    ∀ (t j : Nat), j + t = ea → 2 ^ j + 1 ≤ f / 2 ^ eb → W_pass_Batch.l4 K (t + 1) per free ⟨b1, 0, none⟩ ((2 ^ j : Nat) : Int) H := by
  have hc1 := pow_pos eb
  intro t
  induction t with
  | zero =>
    intro j hj hfit
    have hp2 := pow_le (show j ≤ 32 by omega)
    have hp1 := pow_pos j
    unfold W_pass_Batch.l4
    rw [show (⟨b1, 0, none⟩ : Addr).add 0 = ⟨b1, 0, none⟩ from rfl]
    refine hs.ld i hi rfl ?_
    simp only [HV]
    rw [i64w (x := 2 * ((2 ^ j : Nat) : Int)) (by omega) (by omega)]
    refine BIf_dneg ?_ (hK j ⟨by omega, hfit, .inl (by omega)⟩)
    rw [hr, show ea = j by omega]; omega
  | succ t ih =>
    intro j hj hfit
    have hp2 := pow_le (show j + 1 ≤ 32 by omega)
    have hp3 := pow_le (show j + 1 ≤ ea by omega)
    have hp1 := pow_pos j
    rw [Nat.pow_succ] at hp2 hp3
    unfold W_pass_Batch.l4
    rw [show (⟨b1, 0, none⟩ : Addr).add 0 = ⟨b1, 0, none⟩ from rfl]
    refine hs.ld i hi rfl ?_
    simp only [HV]
    rw [i64w (x := 2 * ((2 ^ j : Nat) : Int)) (by omega) (by omega)]
    refine BIf_dpos (by rw [hr]; omega) ?_
    refine hs.ldf i hi rfl ?_
    simp only [HV]
    refine ⟨by rw [hc]; omega, trivial, ?_⟩
    rw [i64w (x := free - per) (by omega) hfr]
    rw [show Int.tdiv (free - per) c = ((f / 2 ^ eb : Nat) : Int) by rw [hf, hc]; rfl]
    have hdl : f / 2 ^ eb ≤ f := Nat.div_le_self _ _
    rw [i64n (by omega), i64w (x := 2 * ((2 ^ j : Nat) : Int) + 1) (by omega) (by omega)]
    by_cases hc2 : 2 * 2 ^ j + 1 ≤ f / 2 ^ eb
    · refine BIf_dpos (by omega) ?_
      rw [i64w (by omega) (by omega), show ((2 ^ j : Nat) : Int) * 2 = ((2 ^ (j + 1) : Nat) : Int) by rw [Nat.pow_succ]; omega]
      exact ih (j + 1) (by omega) (by rw [Nat.pow_succ]; omega)
    · exact BIf_dneg (by omega) (hK j ⟨by omega, hfit, .inr (by omega)⟩)
theorem Batch_ok (r c per free : Int) (hper : -9223372036854775808 ≤ per ∧ per ≤ 9223372036854775807) (hf : free ≤ 9223372036854775807) (H : Hp) (hT : T64 H) :
    HCalls Tryz.prog 92 #[.agg #[.int .i64 r, .int .i64 c], .int .i64 per, .int .i64 free] H fun v H' => batQ r c per free v ∧ H' = H := by
  refine HCalls.forget ?_
  apply W_pass_Batch.ok
  unfold W_pass_Batch
  refine (Sep.start H).nw fun b1 H1 hs => ?_
  have out : ∀ {v : Value}, batQ r c per free v → ∃ H'', H''.le H1 ∧ batQ r c per free v ∧ H'' = H := fun h => ⟨H, hs.ow 0 rfl, h, rfl⟩
  first | refine hs.ldw 1 rfl rfl ?_
  try simp only [HV]
  refine HCalls.use (Good_ok r c H1 (hT.le (hs.ow 0 rfl))) ?_
  simp only [HV]
  cases hg : goodS r c with
  | false => exact BIf_pos rfl (out (.inl ⟨fun h => (by have h1 := h.1; rw [hg] at h1; cases h1), rfl⟩))
  | true =>
    refine BIf_neg rfl ?_
    obtain ⟨ea, eb, hr, hc, hab, _, _⟩ := goodS_some hg
    have he1 := pow_pos ea
    have he2 := pow_pos eb
    have he3 := pow_le (show ea ≤ 32 by omega)
    have he4 := pow_le (show eb ≤ 32 by omega)
    first | refine hs.ldf 1 rfl rfl ?_ | refine hs.ldg 1 rfl rfl ?_
    try simp only [HV]
    by_cases h0 : c > 1048576
    · exact BIf_dpos h0 (out (.inl ⟨fun h => (by have := h.2.1; omega), rfl⟩))
    refine BIf_dneg h0 ?_
    by_cases h1 : per < 4
    · exact BIf_dpos h1 (out (.inl ⟨fun h => (by have := perB_range h.2.2.1; omega), rfl⟩))
    refine BIf_dneg h1 ?_
    by_cases h2 : per > 512
    · exact BIf_dpos h2 (out (.inl ⟨fun h => (by have := perB_range h.2.2.1; omega), rfl⟩))
    refine BIf_dneg h2 ?_
    have hpb := perB_of (p := per) (by omega) (by omega)
    cases hp : perB per with
    | false => exact BIf_bnep (fun h => by rw [hpb.1 h] at hp; cases hp) (out (.inl ⟨fun h => (by have h1 := h.2.2.1; rw [hp] at h1; cases h1), rfl⟩))
    | true =>
      refine BIf_bnen (hpb.2 hp) ?_
      by_cases h3 : free < per
      · exact BIf_dpos h3 (out (.inl ⟨fun h => (by omega), rfl⟩))
      refine BIf_dneg h3 ?_
      first | refine hs.ldf 1 rfl rfl ?_ | refine hs.ldg 1 rfl rfl ?_
      try simp only [HV]
      rw [i64w (x := free - per) (by omega) (by omega), i64w (x := 2 * c) (by omega) (by omega)]
      by_cases h4 : free - per < 2 * c
      · exact BIf_dpos h4 (out (.inl ⟨fun h => (by omega), rfl⟩))
      refine BIf_dneg h4 ?_
      obtain ⟨f, hfe⟩ := Int.eq_ofNat_of_zero_le (show 0 ≤ free - per by omega)
      refine ⟨ea + 1, ?_⟩
      have h2q : 2 ≤ f / 2 ^ eb := by rw [Nat.le_div_iff_mul_le (by omega)]; omega
      exact bat_loop hr hc hab hfe (by omega) (by omega) (fun v H' => ∃ H'', H''.le H' ∧ batQ r c per free v ∧ H'' = H) b1 1 rfl hs (fun j hj => out (.inr ⟨⟨hg, by omega, hp, by omega, by omega⟩, ea, eb, j, hr, hc, hab, by rw [hfe, Int.toNat_natCast]; exact hj, rfl⟩)) ea 0 (by omega) (by rw [Nat.pow_zero]; omega)
theorem Batch_is {ea eb : Nat} (per free : Int) (hper : -9223372036854775808 ≤ per ∧ per ≤ 9223372036854775807) (hf : free ≤ 9223372036854775807) (H : Hp) (hT : T64 H) (hab : ea + eb ≤ 32) (h : batC ((2 ^ ea : Nat) : Int) ((2 ^ eb : Nat) : Int) per free) {j : Nat} (hj : BatIs ea ((free - per).toNat / 2 ^ eb) j) :
    HCalls Tryz.prog 92 #[.agg #[.int .i64 ((2 ^ ea : Nat) : Int), .int .i64 ((2 ^ eb : Nat) : Int)], .int .i64 per, .int .i64 free] H (RetE (.tuple #[.int .i64 ((2 ^ j : Nat) : Int), .bool true]) H) :=
  (Batch_ok _ _ per free hper hf H hT).mono fun v H' ⟨hq, e⟩ => by
    rcases hq with ⟨h', _⟩ | ⟨_, ea', eb', j', h1, h2, _, hj', rfl⟩
    · exact absurd h h'
    · have e1 : ea = ea' := pow2_inj (show 2 ^ ea = 2 ^ ea' by omega)
      have e2 : eb = eb' := pow2_inj (show 2 ^ eb = 2 ^ eb' by omega)
      subst e1 e2
      rw [hj.unique hj']
      exact ⟨rfl, e⟩
def checkV (r c dir tw : Int) (xw yw : Int) : Int :=
  if goodS r c = true ∧ xw = r * c ∧ yw = r * c then (if dir < 0 ∨ dir > 1 then 18 else if tw < -1 ∨ tw > 32 then 2 else 0) else 19
section
variable {L : List As} {H : Hp} {p q dp ap ap' : Nat} {x y : X}
theorem check_s (hs : Sep L H) (i : Nat) (hi : L[i]? = some (pts p (pipO dp ap x))) (k : Nat) (hk : L[k]? = some (pts q (pipO dp ap y))) (hT : T64 H) (r c dir tw sh : Int) :
    HCalls Tryz.prog 137 #[.pointer (some ⟨p, 0, none⟩), .pointer (some ⟨q, 0, none⟩), .agg #[.int .i64 r, .int .i64 c, .int .i64 dir, .int .i64 tw, .int .u64 sh], .pointer (some ⟨ap', 0, none⟩)] H (RetE (.int .i64 (checkV r c dir tw x.w y.w)) H) := HCalls.ret (by
  have hp1 := hs.get i hi
  have hq1 := hs.get k hk
  apply W_pass_check.ok
  unfold W_pass_check
  refine (Sep.start H).nw fun b1 H1 hs => ?_
  have hs : Sep [own H, pts b1 (.obj (.cells #[.int .i64 r, .int .i64 c, .int .i64 dir, .int .i64 tw, .int .u64 sh] 62))] H1 := hs
  have hle := hs.ow 0 rfl
  have out : ∀ {v : Value}, v = .int .i64 (checkV r c dir tw x.w y.w) → Ret (.int .i64 (checkV r c dir tw x.w y.w)) H v H1 := fun h => ⟨h, hle⟩
  have hw : ∀ {b : Nat} {z : X}, H b = some (pipO dp ap z) → HCalls Tryz.prog 126 #[.pointer (some ⟨b, 0, none⟩)] H1 (RetE (.int .i64 (z.w : Int)) H1) := fun {b z} hb => by
    have hsP : Sep [pts b (pipO dp ap z)] H1 := ⟨H1, fun _ => none, Hp.le_refl _, fun _ _ h => (nomatch h), fun _ => .inr rfl, hle _ _ hb, trivial⟩
    exact words_s hsP 0 rfl
  refine BIf_neg rfl (BIf_neg rfl (BIf_neg rfl ?_))
  simp only [Addr.add_zero]
  refine hs.lda 1 rfl (show 0 + 2 ≤ 5 by omega) ?_
  refine QCall.use (Good_ok r c H1 (hT.le hle)) ?_
  simp only [HV]
  cases hg : goodS r c with
  | false =>
    refine BIf_pos rfl (out ?_)
    unfold checkV
    rw [if_neg (fun h => by rw [hg] at h; cases h.1)]
  | true =>
    refine BIf_neg rfl ?_
    refine QCall.use (hw hp1) ?_
    simp only [HV]
    refine hs.lda 1 rfl (show 0 + 2 ≤ 5 by omega) ?_
    refine QCall.use (Size_ok r c H1 (hT.le hle)) ?_
    rw [show sizeS r c = r * c by unfold sizeS; rw [if_pos hg]]
    simp only [HV]
    by_cases h1 : (x.w : Int) = r * c
    case neg =>
      refine BIf_bnep h1 (out ?_)
      unfold checkV
      rw [if_neg (fun h => h1 h.2.1)]
    refine BIf_bnen h1 ?_
    refine QCall.use (hw hq1) ?_
    simp only [HV]
    refine hs.lda 1 rfl (show 0 + 2 ≤ 5 by omega) ?_
    refine QCall.use (Size_ok r c H1 (hT.le hle)) ?_
    rw [show sizeS r c = r * c by unfold sizeS; rw [if_pos hg]]
    simp only [HV]
    by_cases h2 : (y.w : Int) = r * c
    case neg =>
      refine BIf_bnep h2 (out ?_)
      unfold checkV
      rw [if_neg (fun h => h2 h.2.2)]
    refine BIf_bnen h2 ?_
    have hc : checkV r c dir tw x.w y.w = if dir < 0 ∨ dir > 1 then 18 else if tw < -1 ∨ tw > 32 then 2 else 0 := by
      unfold checkV; rw [if_pos ⟨hg, h1, h2⟩]
    refine hs.ldf 1 rfl rfl ?_
    simp only [HV]
    by_cases h3 : dir < 0
    · exact BIf_dpos h3 (out (by rw [hc, if_pos (.inl h3)]))
    refine BIf_dneg h3 ?_
    refine hs.ldf 1 rfl rfl ?_
    simp only [HV]
    by_cases h4 : dir > 1
    · exact BIf_dpos h4 (out (by rw [hc, if_pos (.inr h4)]))
    refine BIf_dneg h4 ?_
    refine hs.ldf 1 rfl rfl ?_
    simp only [HV]
    by_cases h5 : tw < -1
    · exact BIf_dpos h5 (out (by rw [hc, if_neg (by omega), if_pos (.inl h5)]))
    refine BIf_dneg h5 ?_
    refine hs.ldf 1 rfl rfl ?_
    simp only [HV]
    by_cases h6 : tw > 32
    · exact BIf_dpos h6 (out (by rw [hc, if_neg (by omega), if_pos (.inr h6)]))
    refine BIf_dneg h6 (out (by rw [hc, if_neg (by omega), if_neg (by omega)])))
end
theorem TZu_ok (k : Nat) (hk : k < 64) (H : Hp) (hT : T64 H) : HCalls Tryz.prog 139 #[.int .u64 ((2 ^ k : Nat) : Int)] H (RetE (.int .i64 (k : Int)) H) := by
  apply W_math_bits_TrailingZeros.ok
  unfold W_math_bits_TrailingZeros
  refine HCalls.use (TZ_ok k hk H hT) ?_
  simp only [HV]
  exact RetE.mk _ _
end Go.Proofs.YtnknippcbecmeaaGreatDoor.Pas
end
section
/- pass: Run. -/
namespace Go.Proofs.YtnknippcbecmeaaGreatDoor.Pas
open Go Go.Hw Go.Crc Go.Form W Shp Gol Fft Ker Str Dsk Are Trn
def rowsU (j : J) (d : D) (x : X) (m : Nat) : List UInt64 := (List.range m).flatMap fun q => rowP j q (pws d x (q * 2 ^ j.eb) (2 ^ j.eb))
theorem rowsU_len (j : J) (d : D) (x : X) : ∀ m, (rowsU j d x m).length = m * 2 ^ j.eb
  | 0 => by simp [rowsU]
  | m + 1 => by
    unfold rowsU
    rw [List.range_succ, List.flatMap_append, List.length_append]
    have := rowsU_len j d x m
    unfold rowsU at this
    rw [this, Nat.succ_mul]
    simp [rowP_len]
theorem pws_part {d : D} {x : X} {fr n a c : Nat} (h : a + c ≤ n) : ((pws d x fr n).drop a).take c = pws d x (fr + a) c := by
  apply List.ext_getElem?
  intro i
  rw [List.getElem?_take]
  by_cases hi : i < c
  · rw [if_pos hi, List.getElem?_drop, pws_get (by omega), pws_get hi, Nat.add_assoc]
  · rw [if_neg hi, List.getElem?_eq_none (by rw [pws_len]; omega)]
theorem pws_eq {d d' : D} {x : X} {fr n : Nat} (h : ∀ k, fr ≤ k → k < fr + n → pw d' x k = pw d x k) : pws d' x fr n = pws d x fr n := by
  unfold pws
  apply List.map_congr_left
  intro k hk
  have := List.mem_range.1 hk
  exact h _ (by omega) (by omega)
theorem rowsU_add {j : J} {d d' : D} {x : X} (a b : Nat) (h : ∀ k, k < x.w → pw d' x k = pw d x k) (hw : (a + b) * 2 ^ j.eb ≤ x.w) :
    rowsU j d x (a + b) = rowsU j d x a ++ batF j a (pws d' x (a * 2 ^ j.eb) (b * 2 ^ j.eb)) b := by
  unfold rowsU batF
  rw [List.range_add, List.flatMap_append, List.flatMap_map]
  congr 1
  have : ∀ (l : List Nat), (∀ q, q ∈ l → q < b) → l.flatMap (fun q => rowP j (a + q) (pws d x ((a + q) * 2 ^ j.eb) (2 ^ j.eb))) = l.flatMap fun q => rowP j (a + q) (((pws d' x (a * 2 ^ j.eb) (b * 2 ^ j.eb)).drop (q * 2 ^ j.eb)).take (2 ^ j.eb)) := fun l => by
    induction l with
    | nil => intro _; rfl
    | cons q l ih =>
      intro hq
      have hqb := hq q (by simp)
      have h1 : (q + 1) * 2 ^ j.eb ≤ b * 2 ^ j.eb := Nat.mul_le_mul_right _ (by omega)
      have h2 : (a + q + 1) * 2 ^ j.eb ≤ (a + b) * 2 ^ j.eb := Nat.mul_le_mul_right _ (by omega)
      rw [Nat.succ_mul] at h1 h2
      rw [List.flatMap_cons, List.flatMap_cons, ih fun q' h' => hq q' (by simp [h']), pws_part h1, ← Nat.add_mul, pws_eq (d := d) (d' := d') (fr := (a + q) * 2 ^ j.eb) (n := 2 ^ j.eb) fun k h3 h4 => h k (by omega)]
  exact this _ fun q hq => List.mem_range.1 hq
def rP (per f f' n m : Nat) : Nat := ((List.range m).map fun i => (pcs per f n (i * n) n).length + pcsR per f' n (i * n) n).sum
def wP (per f' n m : Nat) : Nat := ((List.range m).map fun i => (pcs per f' n (i * n) n).length).sum
theorem rP_succ (per f f' n m : Nat) : rP per f f' n (m + 1) = rP per f f' n m + ((pcs per f n (m * n) n).length + pcsR per f' n (m * n) n) := by
  unfold rP; rw [List.range_succ, List.map_append, List.sum_append]; simp
theorem wP_succ (per f' n m : Nat) : wP per f' n (m + 1) = wP per f' n m + (pcs per f' n (m * n) n).length := by
  unfold wP; rw [List.range_succ, List.map_append, List.sum_append]; simp
theorem rP_mono (per f f' n : Nat) {i j : Nat} (h : i ≤ j) : rP per f f' n i ≤ rP per f f' n j := by
  induction h with
  | refl => exact Nat.le_refl _
  | step h ih => rw [rP_succ]; omega
theorem wP_mono (per f' n : Nat) {i j : Nat} (h : i ≤ j) : wP per f' n i ≤ wP per f' n j := by
  induction h with
  | refl => exact Nat.le_refl _
  | step h ih => rw [wP_succ]; omega
theorem rP_le (per f f' n : Nat) : ∀ m, rP per f f' n m ≤ m * (2 * n)
  | 0 => by simp [rP]
  | m + 1 => by
    rw [rP_succ, Nat.succ_mul]
    have h1 := rP_le per f f' n m
    have h2 := pcs_len per f n (m * n) n
    have h3 := pcs_len per f' n (m * n) n
    have h4 : pcsR per f' n (m * n) n ≤ (pcs per f' n (m * n) n).length := List.length_filter_le _ _
    omega
theorem wP_le (per f' n : Nat) : ∀ m, wP per f' n m ≤ m * n
  | 0 => by simp [wP]
  | m + 1 => by
    rw [wP_succ, Nat.succ_mul]
    have h1 := wP_le per f' n m
    have h3 := pcs_len per f' n (m * n) n
    omega
structure PasI (d d' : D) (x y : X) (j : J) (b m : Nat) : Prop where
  pg : Prog (inX y) d d' (rP (D.per d) x.f y.f (b * 2 ^ j.eb) m) (wP (D.per d) y.f (b * 2 ^ j.eb) m)
  src : ∀ k, k < x.w → pw d' x k = pw d x k
  dst : ∀ k, k < m * b * 2 ^ j.eb → pw d' y k = ((rowsU j d x (m * b))[k]?).getD 0
def passP (p q dp ap : Nat) (d : D) (x y : X) (j : J) (b : Nat) (cap peak : Int) (bufs : List (Nat × Nat × Option Addr)) (v : Value) (M : List As) : Prop :=
  (∃ d', PasI d d' x y j b (2 ^ j.ea / b) ∧ v = .tuple #[.int .u32 ((sum (form (rowsU j d x (2 ^ j.ea)))).toNat : Int), .int .i64 0] ∧
    M = [pts p (pipO dp ap x), pts q (pipO dp ap y), Dk dp d', Ar ap cap (mx peak (sumB bufs + (b * 2 ^ j.eb : Nat) + (2 ^ j.eb : Nat) + D.per d)) bufs]) ∨
  (∃ d', Dead (inX y) d d' ∧ d.fuse ≤ rP (D.per d) x.f y.f (b * 2 ^ j.eb) (2 ^ j.ea / b) + wP (D.per d) y.f (b * 2 ^ j.eb) (2 ^ j.ea / b) ∧ v = .tuple #[.int .u32 0, .int .i64 8] ∧
    M = [pts p (pipO dp ap x), pts q (pipO dp ap y), Dk dp d', Ar ap cap (mx peak (sumB bufs + (b * 2 ^ j.eb : Nat) + (2 ^ j.eb : Nat) + D.per d)) bufs])
section
variable {p q dp ap rn bn bb bn2 bb2 sb v2 v3 kp : Nat} {x y : X} {cap peak : Int} {bufs : List (Nat × Nat × Option Addr)} {TT : As} {j : J} {mb : Nat}
def bufs1 (bufs : List (Nat × Nat × Option Addr)) (bn n : Nat) (bb : Nat) : List (Nat × Nat × Option Addr) := bufs ++ [(bn, n, some ⟨bb, 0, none⟩)]
def passL (rn p q dp ap bn bb bn2 bb2 sb v2 v3 kp : Nat) (d0 d' : D) (x y : X) (j : J) (b m : Nat) (cap pk : Int) (bufs : List (Nat × Nat × Option Addr)) (ws : List UInt64) (mb : Nat) (TT : As) : List As :=
  [pts sb (.obj (.cells j.a 62)), pts rn (runO (sum (form (rowsU j d0 x (m * b)))) (8 * (m * b * 2 ^ j.eb)) j kp), pts bb (.row (wordVals ws) 60 mb),
    pts p (pipO dp ap x), pts q (pipO dp ap y), Dk dp d', Ar ap cap pk (bufs1 (bufs1 bufs bn (b * 2 ^ j.eb) bb) bn2 (2 ^ j.eb) bb2), pts v2 (.row [.pointer (some ⟨bn, 0, none⟩)] 164 1), pts v3 (.row [.pointer (some ⟨bn2, 0, none⟩)] 164 1), Kn kp j.eb, TT]
set_option maxHeartbeats 1000000 in
theorem run_loop (K : Value → Hp → Prop) {d : D} {b : Nat} (hT : ∀ H, TT H → T64 H) (hok : Ok d) (hx : On d x) (hy : On d y) (ho : d.rd ≤ 2000000000000000000 ∧ d.wr ≤ 2000000000000000000) (hab : j.ea + j.eb ≤ 32) (hb20 : j.eb ≤ 20) (htw : j.tw ≤ 32) (hxw : x.w = 2 ^ j.ea * 2 ^ j.eb) (hyw : y.w = 2 ^ j.ea * 2 ^ j.eb) (hdis : x.f + x.s ≤ y.f ∨ y.f + y.s ≤ x.f) (hb1 : 1 ≤ b) (hbd : 2 ^ j.ea = 2 ^ j.ea / b * b)
    (hcap : (D.per d : Int) ≤ cap - sumB (bufs1 (bufs1 bufs bn (b * 2 ^ j.eb) bb) bn2 (2 ^ j.eb) bb2)) (hbm : ∀ z ∈ bufs, z.1 ≠ bn) (hbm2 : ∀ z ∈ bufs1 bufs bn (b * 2 ^ j.eb) bb, z.1 ≠ bn2)
    {P1 : Int} (hP1 : P1 = mx peak (sumB (bufs1 (bufs1 bufs bn (b * 2 ^ j.eb) bb) bn2 (2 ^ j.eb) bb2) + D.per d))
    (hK : ∀ d' H, PasI d d' x y j b (2 ^ j.ea / b) → Sep [pts p (pipO dp ap x), pts q (pipO dp ap y), Dk dp d', Ar ap cap P1 bufs, TT] H → K (.tuple #[.int .u32 ((sum (form (rowsU j d x (2 ^ j.ea)))).toNat : Int), .int .i64 0]) H)
    (hK8 : ∀ d' H, Dead (inX y) d d' → d.fuse ≤ rP (D.per d) x.f y.f (b * 2 ^ j.eb) (2 ^ j.ea / b) + wP (D.per d) y.f (b * 2 ^ j.eb) (2 ^ j.ea / b) → Sep [pts p (pipO dp ap x), pts q (pipO dp ap y), Dk dp d', Ar ap cap P1 bufs, TT] H → K (.tuple #[.int .u32 0, .int .i64 8]) H) :
    ∀ (t m : Nat) (z : Int) (d' : D) (pk : Int) (ws : List UInt64) (H : Hp), z = ((m * b : Nat) : Int) → m + t = 2 ^ j.ea / b → PasI d d' x y j b m → ws.length = b * 2 ^ j.eb → mx pk (sumB (bufs1 (bufs1 bufs bn (b * 2 ^ j.eb) bb) bn2 (2 ^ j.eb) bb2) + D.per d) = P1 → (m = 0 ∨ pk = P1) → Sep (passL rn p q dp ap bn bb bn2 bb2 sb v2 v3 kp d d' x y j b m cap pk bufs ws mb TT) H →
      W_pass_Run.l17 K (t + 1) (some ⟨p, 0, none⟩) (some ⟨q, 0, none⟩) ⟨sb, 0, none⟩ (b : Int) (some ⟨bn, 0, none⟩) ⟨rn, 0, none⟩ z (some ⟨ap, 0, none⟩) (some ⟨v3, 0, none⟩) 1 1 (some ⟨ap, 0, none⟩) (some ⟨v2, 0, none⟩) 1 1 H := fun t => by
  have hp := Ok.per_le hok
  have hsz := size_le hab
  have hr1 := pow_pos j.ea
  have hc1 := pow_pos j.eb
  have hnb : 2 ^ j.ea / b ≤ 2 ^ j.ea := Nat.div_le_self _ _
  have hn1 : 1 ≤ 2 ^ j.ea / b := by
    have : 2 ^ j.ea / b ≠ 0 := fun h0 => by rw [h0, Nat.zero_mul] at hbd; omega
    exact Nat.pos_of_ne_zero this
  have hcc : 2 ^ j.ea / b * (b * 2 ^ j.eb) = 2 ^ j.ea * 2 ^ j.eb := by rw [← Nat.mul_assoc, ← hbd]
  have hbr : b * 2 ^ j.eb ≤ 2 ^ j.ea * 2 ^ j.eb := by rw [← hcc]; exact Nat.le_mul_of_pos_left _ hn1
  have hbb : b ≤ 2 ^ j.ea := by
    have : 1 * b ≤ 2 ^ j.ea / b * b := Nat.mul_le_mul_right b hn1
    omega
  have hbc1 : 1 * 2 ^ j.eb ≤ b * 2 ^ j.eb := Nat.mul_le_mul_right _ hb1
  have hr32 := pow_le (show j.ea ≤ 32 by omega)
  have cnt : ∀ m, m ≤ 2 ^ j.ea / b → m * (2 * (b * 2 ^ j.eb)) ≤ 2 * (2 ^ j.ea * 2 ^ j.eb) ∧ m * (b * 2 ^ j.eb) ≤ 2 ^ j.ea * 2 ^ j.eb := fun m hm => by
    have : m * (b * 2 ^ j.eb) ≤ 2 ^ j.ea * 2 ^ j.eb := by rw [← hcc]; exact Nat.mul_le_mul_right _ hm
    refine ⟨?_, this⟩
    rw [Nat.mul_left_comm]; omega
  have gives : ∀ {d' : D} {H : Hp} {K' : Hp → Prop}, Sep [Ar ap cap P1 (bufs1 (bufs1 bufs bn (b * 2 ^ j.eb) bb) bn2 (2 ^ j.eb) bb2), pts v3 (.row [.pointer (some ⟨bn2, 0, none⟩)] 164 1), pts v2 (.row [.pointer (some ⟨bn, 0, none⟩)] 164 1), pts p (pipO dp ap x), pts q (pipO dp ap y), Dk dp d', TT] H →
      (∀ H, Sep [pts p (pipO dp ap x), pts q (pipO dp ap y), Dk dp d', Ar ap cap P1 bufs, TT] H → K' H) →
      HCallsD Tryz.prog 84 #[.pointer (some ⟨ap, 0, none⟩), .slice (some ⟨v3, 0, none⟩) 1 1] H fun _ H => HCallsD Tryz.prog 84 #[.pointer (some ⟨ap, 0, none⟩), .slice (some ⟨v2, 0, none⟩) 1 1] H fun _ H => K' H := fun hs k => by
    refine (Give_oneD v3 bn2 (2 ^ j.eb) (some ⟨bb2, 0, none⟩) hbm2).use hs [0, 1] rfl rfl ?_
    rintro _ _ H ⟨rfl, rfl⟩ hs
    refine (Give_oneD v2 bn (b * 2 ^ j.eb) (some ⟨bb, 0, none⟩) hbm).use hs [0, 1] rfl rfl ?_
    rintro _ _ H ⟨rfl, rfl⟩ hs
    exact k H (hs.re [1, 2, 3, 0, 4] rfl)
  induction t with
  | zero =>
    rintro m _ d' pk ws H rfl hm hI hws hpk hip hs
    have hme : m = 2 ^ j.ea / b := by omega
    subst hme
    unfold passL at hs
    unfold W_pass_Run.l17
    rw [show ((⟨sb, 0, none⟩ : Addr).add 0).add 0 = ⟨sb, 0, none⟩ from rfl]
    refine hs.ld 0 rfl rfl ?_
    simp only [HV]
    rw [← hbd]
    refine BIf_dneg (Int.lt_irrefl _) ?_
    rw [Addr.add_zero]
    refine HCalls.use (CrcP.CSumG_s hs 1 rfl) ?_
    try simp only [HV]
    rw [← hbd]
    rw [hip.resolve_left (by omega)] at hs
    exact gives (hs.re [6, 8, 7, 3, 4, 5, 10] rfl) fun H hs => hK d' H hI hs
  | succ t ih =>
    rintro m _ d' pk ws H rfl hm hI hws hpk hip hs
    have hmlt : m < 2 ^ j.ea / b := by omega
    have hmb : (m + 1) * b ≤ 2 ^ j.ea := by
      have h1 : (m + 1) * b ≤ 2 ^ j.ea / b * b := Nat.mul_le_mul_right b hmlt
      omega
    have hmb' := hmb
    rw [Nat.succ_mul] at hmb'
    have hper : D.per d' = D.per d := hI.pg.per
    have hxd := hx.prog hI.pg
    have hyd := hy.prog hI.pg
    have hrt := rP_le (D.per d) x.f y.f (b * 2 ^ j.eb) m
    have hwt := wP_le (D.per d) y.f (b * 2 ^ j.eb) m
    have hcnt := cnt m (by omega)
    have hrd := hI.pg.rd
    have hwr := hI.pg.wr
    have hmr : (m * b + b) * 2 ^ j.eb ≤ 2 ^ j.ea * 2 ^ j.eb := Nat.mul_le_mul_right _ hmb'
    have hmr' := hmr
    rw [Nat.add_mul] at hmr
    unfold passL at hs
    unfold W_pass_Run.l17
    rw [show ((⟨sb, 0, none⟩ : Addr).add 0).add 0 = ⟨sb, 0, none⟩ from rfl]
    refine hs.ld 0 rfl rfl ?_
    simp only [HV]
    refine BIf_dpos (by omega) ?_
    refine HCalls.use (Words_s hs 6 rfl (b := bn) (n := b * 2 ^ j.eb) (A := some ⟨bb, 0, none⟩) (by simp [bufs1])) ?_
    try simp only [HV]
    refine (batch_tr (rn := rn) (p := p) (q := q) (dp := dp) (ap := ap) (kp := kp) (bb := bb) (mb := mb) (s := sum (form (rowsU j d x (m * b)))) (sk := 8 * (m * b * 2 ^ j.eb)) (j := j) (x := x) (y := y) (cap := cap) (peak := pk) (bufs := bufs1 (bufs1 bufs bn (b * 2 ^ j.eb) bb) bn2 (2 ^ j.eb) bb2) (d := d') (r := m * b) (nb := b) hT hI.pg.ok hI.pg.down hxd hyd (by omega) hb20 htw hb1 (by omega) (by omega) (by rw [hxw]; exact hmr) (by rw [hyw]; exact hmr) (by omega) (by omega) (by rw [hper]; exact hcap) ws hws).use hs [1, 2, 3, 4, 5, 6, 9, 10] rfl rfl ?_
    rintro v M H hQ hs
    unfold batP at hQ
    rw [hper] at hQ
    simp only at hQ
    have hPP : mx P1 (sumB (bufs1 (bufs1 bufs bn (b * 2 ^ j.eb) bb) bn2 (2 ^ j.eb) bb2) + D.per d) = P1 := by rw [hP1, mx_mx]
    have hma : m * (b * 2 ^ j.eb) = m * b * 2 ^ j.eb := (Nat.mul_assoc _ _ _).symm
    have hrs := rP_succ (D.per d) x.f y.f (b * 2 ^ j.eb) m
    have hws' := wP_succ (D.per d) y.f (b * 2 ^ j.eb) m
    rw [hma] at hrs hws'
    rcases hQ with ⟨hpg2, rfl, rfl⟩ | ⟨d2, hdd, hfu, rfl, rfl⟩
    case inr =>
      simp only [HV]
      refine BIf_bnep (by decide) ?_
      rw [hpk] at hs
      refine gives (hs.re [3, 7, 6, 0, 1, 2, 4] rfl) fun H hs => hK8 d2 H (hI.pg.dead hdd) ?_ hs
      have z1 := hI.pg.fuse; have z2 := hI.pg.go
      have z3 := rP_mono (D.per d) x.f y.f (b * 2 ^ j.eb) (show m + 1 ≤ 2 ^ j.ea / b by omega)
      have z4 := wP_mono (D.per d) y.f (b * 2 ^ j.eb) (show m + 1 ≤ 2 ^ j.ea / b by omega)
      omega
    simp only [HV]
    refine BIf_bnen rfl ?_
    generalize ht0 : (pcs (D.per d) x.f (b * 2 ^ j.eb) (m * b * 2 ^ j.eb) (b * 2 ^ j.eb)).length = t0 at *
    have hok1 : Ok (D.rdG d' t0) := Ok.rdG hI.pg.ok t0
    have hU := rowsU_add (j := j) (d := d) (d' := d') (x := x) (m * b) b hI.src (by rw [hxw]; exact hmr')
    have hul : (batF j (m * b) (pws d' x (m * b * 2 ^ j.eb) (b * 2 ^ j.eb)) b).length = b * 2 ^ j.eb := batF_len _ _ _ _
    generalize hus : batF j (m * b) (pws d' x (m * b * 2 ^ j.eb) (b * 2 ^ j.eb)) b = us at *
    have hpw := fun k => wrsG_pw y hok1 (m * b * 2 ^ j.eb) us k
    rw [hul] at hpw
    have hpg3 := hI.pg.trans hpg2
    rw [← hrs, ← hws'] at hpg3
    have htk : m * b + b = (m + 1) * b := (Nat.succ_mul m b).symm
    rw [htk] at hU
    have hUl := rowsU_len j d x (m * b)
    have hI2 : PasI d (wrsG (D.rdG d' t0) y (b * 2 ^ j.eb) (m * b * 2 ^ j.eb) us) x y j b (m + 1) := by
      refine ⟨hpg3, fun k hk => hpg3.pw hok hx (fun i hi => ?_) hk, fun k hk => ?_⟩
      · unfold inX at hi; omega
      · rw [hpw k]
        have hk2 : k < m * b * 2 ^ j.eb + b * 2 ^ j.eb := by
          rw [← htk, Nat.add_mul] at hk; exact hk
        rw [hU]
        by_cases h1 : m * b * 2 ^ j.eb ≤ k
        · rw [if_pos ⟨h1, hk2⟩, List.getElem?_append_right (by omega), hUl]
        · rw [if_neg (by omega), List.getElem?_append_left (by omega)]
          exact hI.dst k (by omega)
    have hcs : more (sum (form (rowsU j d x (m * b)))) (form us) = sum (form (rowsU j d x ((m + 1) * b))) := by
      rw [hU, form_append]
      unfold sum
      rw [more_append]
    have hsk : 8 * (m * b * 2 ^ j.eb) + 8 * (b * 2 ^ j.eb) = 8 * ((m + 1) * b * 2 ^ j.eb) := by rw [← htk, Nat.add_mul]; omega
    rw [hcs, hsk, hpk] at hs
    refine ih (m + 1) _ _ P1 us H ?_ (by omega) hI2 hul hPP (.inr rfl) ?_
    · rw [← Int.natCast_add, htk, i64n (by omega)]
    · exact hs.re [8, 0, 1, 2, 3, 4, 5, 9, 10, 6, 7] rfl
end
end Go.Proofs.YtnknippcbecmeaaGreatDoor.Pas
end
section
/- pass: Run, whole; where it can't. -/
namespace Go.Proofs.YtnknippcbecmeaaGreatDoor.Pas
open Go Go.Hw Go.Crc Go.Form W Shp Gol Fft Ker Str Dsk Are Trn
theorem mx3 (p a b c : Int) (h1 : a ≤ b) (h2 : b ≤ c) : mx (mx (mx p a) b) c = mx p c := by
  have key : ∀ p a b : Int, a ≤ b → mx (mx p a) b = mx p b := fun p a b h => by
    unfold mx
    by_cases h1 : a > p
    · rw [if_pos h1]
      by_cases h2 : b > a
      · rw [if_pos h2, if_pos (by omega)]
      · rw [if_neg h2, if_pos (by omega)]; omega
    · rw [if_neg h1]
  rw [key p a b h1, key p b c h2]
section
variable {p q dp ap : Nat} {x y : X} {cap peak : Int} {bufs : List (Nat × Nat × Option Addr)} {L : List As} {H : Hp} {TT : As} {j : J}
theorem check_zero (hab : j.ea + j.eb ≤ 32) (htw : -1 ≤ j.tw ∧ j.tw ≤ 32) (hxw : x.w = 2 ^ j.ea * 2 ^ j.eb) (hyw : y.w = 2 ^ j.ea * 2 ^ j.eb) : checkV ((2 ^ j.ea : Nat) : Int) ((2 ^ j.eb : Nat) : Int) (if j.d = true then 1 else 0) j.tw x.w y.w = 0 := by
  unfold checkV
  rw [if_pos ⟨goodS_pow hab, by rw [hxw, Int.natCast_mul], by rw [hyw, Int.natCast_mul]⟩, if_neg (by cases j.d <;> decide), if_neg (by omega)]
set_option maxHeartbeats 1000000 in
theorem Run_tr {d : D} {jb : Nat} (hT : ∀ H, TT H → T64 H) (hok : Ok d) (hl : d.down = false) (hx : On d x) (hy : On d y) (ho : d.rd ≤ 2000000000000000000 ∧ d.wr ≤ 2000000000000000000) (hab : j.ea + j.eb ≤ 32) (hb20 : j.eb ≤ 20) (htw : -1 ≤ j.tw ∧ j.tw ≤ 32) (hxw : x.w = 2 ^ j.ea * 2 ^ j.eb) (hyw : y.w = 2 ^ j.ea * 2 ^ j.eb) (hdis : x.f + x.s ≤ y.f ∨ y.f + y.s ≤ x.f)
    (hper : perB (D.per d : Int) = true) (hcap : cap ≤ 1000000000000) (hsum : 0 ≤ sumB bufs) (hfr : (D.per d : Int) + 2 * (2 ^ j.eb : Nat) ≤ cap - sumB bufs) (hj : BatIs j.ea ((cap - sumB bufs - D.per d).toNat / 2 ^ j.eb) jb) :
    Tr Tryz.prog 98 #[.pointer (some ⟨p, 0, none⟩), .pointer (some ⟨q, 0, none⟩), .agg j.a, .pointer (some ⟨ap, 0, none⟩), .int .i64 (D.per d : Int)]
      [pts p (pipO dp ap x), pts q (pipO dp ap y), Dk dp d, Ar ap cap peak bufs, TT] fun v M => ∃ M0, passP p q dp ap d x y j (2 ^ jb) cap peak bufs v M0 ∧ M = M0 ++ [TT] := fun H hs => by
  have hp := Ok.per_le hok
  have hsz := size_le hab
  have hr1 := pow_pos j.ea
  have hc1 := pow_pos j.eb
  have hc20 := pow_le hb20
  have hb1 := pow_pos jb
  have hjb := hj.le
  have hfit := hj.fit
  have hbsz : 2 ^ jb * 2 ^ j.eb ≤ 2 ^ j.ea * 2 ^ j.eb := Nat.mul_le_mul_right _ (pow_le hjb)
  have hbc : 1 * 2 ^ j.eb ≤ 2 ^ jb * 2 ^ j.eb := Nat.mul_le_mul_right _ hb1
  have hroom : 2 ^ jb * 2 ^ j.eb + 2 ^ j.eb ≤ (cap - sumB bufs - D.per d).toNat := by
    rw [Nat.le_div_iff_mul_le (by omega), Nat.add_mul, Nat.one_mul] at hfit
    exact hfit
  have hroom' : ((2 ^ jb * 2 ^ j.eb : Nat) : Int) + ((2 ^ j.eb : Nat) : Int) ≤ cap - sumB bufs - D.per d := by omega
  apply W_pass_Run.ok
  unfold W_pass_Run
  refine hs.nw fun sb H hs => ?_
  have hs : Sep [pts p (pipO dp ap x), pts q (pipO dp ap y), Dk dp d, Ar ap cap peak bufs, TT, pts sb (.obj (.cells j.a 62))] H := hs
  refine hs.ldw 5 rfl rfl ?_
  refine HCalls.use (check_s (ap' := ap) hs 0 rfl 1 rfl (see_T hT hs 4 rfl) _ _ _ _ _) ?_
  rw [check_zero hab htw hxw hyw]
  simp only [HV]
  refine BIf_bnen rfl ?_
  simp only [Addr.add_zero]
  refine hs.lda 5 rfl (show 0 + 2 ≤ 5 by omega) ?_
  refine QCall.use (free_s hs 3 rfl) ?_
  simp only [HV]
  refine QCall.use (Batch_is (ea := j.ea) (eb := j.eb) (D.per d) (cap - sumB bufs) ⟨by omega, by omega⟩ (by omega) H (see_T hT hs 4 rfl) hab ⟨goodS_pow hab, by omega, hper, by omega, by omega⟩ hj) ?_
  simp only [HV]
  refine hs.ldf 5 rfl rfl ?_
  simp only [HV]
  rw [← Int.natCast_mul, i64n (by omega)]
  refine (Take_tr (a := ap) (cap := cap) (peak := peak) (bufs := bufs) (n := 2 ^ jb * 2 ^ j.eb) (by omega) (by omega)).use hs [3] rfl rfl ?_
  rintro _ _ H ⟨bn, bb, rfl, rfl⟩ hs
  simp only [HV]
  refine BIf_bnen rfl ?_
  have fresh : ∀ {L : List As} {H : Hp} {bufs : List (Nat × Nat × Option Addr)} {pk : Int} (b n rb : Nat), Sep L H → L[0]? = some (Ar ap cap pk (bufs ++ [(b, n, some ⟨rb, 0, none⟩)])) → ∀ z ∈ bufs, z.1 ≠ b := fun {L H bufs pk} b n rb hs h0 z hz e => by
    obtain ⟨mp, cl, tk, hA⟩ := Sep.ar hs 0 h0
    have := hA.bn
    rw [List.map_append, List.nodup_append] at this
    exact this.2.2 z.1 (List.mem_map_of_mem hz) b (by simp) e
  have hbm : ∀ z ∈ bufs, z.1 ≠ bn := fresh bn _ bb hs rfl
  refine hs.nw fun v2 H hs => ?_
  refine hs.ldf 6 rfl rfl ?_
  simp only [HV]
  have hsb1 : sumB (bufs ++ [(bn, 2 ^ jb * 2 ^ j.eb, some ⟨bb, 0, none⟩)]) = sumB bufs + ((2 ^ jb * 2 ^ j.eb : Nat) : Int) := by
    rw [sumB_append]; simp [sumB]
  refine (Take_tr (a := ap) (cap := cap) (bufs := bufs ++ [(bn, 2 ^ jb * 2 ^ j.eb, some ⟨bb, 0, none⟩)]) (n := 2 ^ j.eb) (by omega) (by omega)).use hs [0] rfl rfl ?_
  rintro _ _ H ⟨bn2, bb2, rfl, rfl⟩ hs
  simp only [HV]
  refine BIf_bnen rfl ?_
  have hbm2 : ∀ z ∈ bufs1 bufs bn (2 ^ jb * 2 ^ j.eb) bb, z.1 ≠ bn2 := fresh bn2 _ bb2 hs rfl
  refine hs.nw fun v3 H hs => ?_
  have hsb2 : sumB (bufs1 (bufs1 bufs bn (2 ^ jb * 2 ^ j.eb) bb) bn2 (2 ^ j.eb) bb2) = sumB bufs + ((2 ^ jb * 2 ^ j.eb : Nat) : Int) + ((2 ^ j.eb : Nat) : Int) := by
    unfold bufs1
    rw [sumB_append, hsb1]; simp [sumB]
  -- what is known from here on
  have hpk : mx (mx (mx peak (sumB bufs + ((2 ^ jb * 2 ^ j.eb : Nat) : Int))) (sumB bufs + ((2 ^ jb * 2 ^ j.eb : Nat) : Int) + ((2 ^ j.eb : Nat) : Int))) (sumB (bufs1 (bufs1 bufs bn (2 ^ jb * 2 ^ j.eb) bb) bn2 (2 ^ j.eb) bb2) + D.per d) = mx peak (sumB bufs + ((2 ^ jb * 2 ^ j.eb : Nat) : Int) + ((2 ^ j.eb : Nat) : Int) + D.per d) := by
    rw [hsb2]
    exact mx3 _ _ _ _ (by omega) (by omega)
  rw [hsb1] at hs
  have hs : Sep [Ar ap cap (mx (mx peak (sumB bufs + ((2 ^ jb * 2 ^ j.eb : Nat) : Int))) (sumB bufs + ((2 ^ jb * 2 ^ j.eb : Nat) : Int) + ((2 ^ j.eb : Nat) : Int))) (bufs1 (bufs1 bufs bn (2 ^ jb * 2 ^ j.eb) bb) bn2 (2 ^ j.eb) bb2), pts bb2 (.row (zerosU64 (2 ^ j.eb)) 60 (2 ^ j.eb)), pts bb (.row (zerosU64 (2 ^ jb * 2 ^ j.eb)) 60 (2 ^ jb * 2 ^ j.eb)),
    pts p (pipO dp ap x), pts q (pipO dp ap y), Dk dp d, TT, pts sb (.obj (.cells j.a 62)), pts v2 (.row [.pointer (some ⟨bn, 0, none⟩)] 164 1), pts v3 (.row [.pointer (some ⟨bn2, 0, none⟩)] 164 1)] H := hs
  have hz : zerosU64 (2 ^ jb * 2 ^ j.eb) = wordVals (List.replicate (2 ^ jb * 2 ^ j.eb) 0) := by
    unfold zerosU64
    rw [zeroRow_one]
    unfold wordVals
    rw [List.map_replicate]; rfl
  rw [hz] at hs
  have fin : ∀ (kp : Nat) (H : Hp), Sep [Kn kp j.eb, Ar ap cap (mx (mx peak (sumB bufs + ((2 ^ jb * 2 ^ j.eb : Nat) : Int))) (sumB bufs + ((2 ^ jb * 2 ^ j.eb : Nat) : Int) + ((2 ^ j.eb : Nat) : Int))) (bufs1 (bufs1 bufs bn (2 ^ jb * 2 ^ j.eb) bb) bn2 (2 ^ j.eb) bb2), pts bb2 (.row (zerosU64 (2 ^ j.eb)) 60 (2 ^ j.eb)), pts bb (.row (wordVals (List.replicate (2 ^ jb * 2 ^ j.eb) 0)) 60 (2 ^ jb * 2 ^ j.eb)),
      pts p (pipO dp ap x), pts q (pipO dp ap y), Dk dp d, TT, pts sb (.obj (.cells j.a 62)), pts v2 (.row [.pointer (some ⟨bn, 0, none⟩)] 164 1), pts v3 (.row [.pointer (some ⟨bn2, 0, none⟩)] 164 1)] H →
      Nw H (.obj (.cells #[.int .u32 0, .int .i64 0, .int .i64 ((2 ^ j.ea : Nat) : Int), .int .i64 ((2 ^ j.eb : Nat) : Int), .int .i64 (if j.d = true then 1 else 0), .int .i64 j.tw, .int .u64 (j.sh.toNat : Int), .pointer (some ⟨kp, 0, none⟩)] 231)) fun b4 H9 =>
        W_pass_Run.j16 (fun v H' => ∃ M, (∃ M0, passP p q dp ap d x y j (2 ^ jb) cap peak bufs v M0 ∧ M = M0 ++ [TT]) ∧ Sep M H') (some ⟨p, 0, none⟩) (some ⟨q, 0, none⟩) ⟨sb, 0, none⟩ ((2 ^ jb : Nat) : Int) (some ⟨bn, 0, none⟩) ⟨b4, 0, none⟩ (some ⟨ap, 0, none⟩) (some ⟨v3, 0, none⟩) 1 1 (some ⟨ap, 0, none⟩) (some ⟨v2, 0, none⟩) 1 1 H9 := fun kp H hs => by
    refine hs.nw fun rn H hs => ?_
    unfold W_pass_Run.j16
    refine ⟨2 ^ j.ea / 2 ^ jb + 1, ?_⟩
    have out : ∀ {v : Value} {d' : D} {H : Hp}, (∀ {M}, M = [pts p (pipO dp ap x), pts q (pipO dp ap y), Dk dp d', Ar ap cap (mx peak (sumB bufs + ((2 ^ jb * 2 ^ j.eb : Nat) : Int) + ((2 ^ j.eb : Nat) : Int) + D.per d)) bufs] → passP p q dp ap d x y j (2 ^ jb) cap peak bufs v M) →
        Sep [pts p (pipO dp ap x), pts q (pipO dp ap y), Dk dp d', Ar ap cap (mx peak (sumB bufs + ((2 ^ jb * 2 ^ j.eb : Nat) : Int) + ((2 ^ j.eb : Nat) : Int) + D.per d)) bufs, TT] H → ∃ M, (∃ M0, passP p q dp ap d x y j (2 ^ jb) cap peak bufs v M0 ∧ M = M0 ++ [TT]) ∧ Sep M H := fun h hs => ⟨_, ⟨_, h rfl, rfl⟩, hs⟩
    refine run_loop (p := p) (q := q) (dp := dp) (ap := ap) (rn := rn) (bn := bn) (bb := bb) (bn2 := bn2) (bb2 := bb2) (sb := sb) (v2 := v2) (v3 := v3) (kp := kp) (x := x) (y := y) (cap := cap) (bufs := bufs) (TT := TT) (j := j) (mb := 2 ^ jb * 2 ^ j.eb) (peak := mx (mx peak (sumB bufs + ((2 ^ jb * 2 ^ j.eb : Nat) : Int))) (sumB bufs + ((2 ^ jb * 2 ^ j.eb : Nat) : Int) + ((2 ^ j.eb : Nat) : Int))) _ hT hok hx hy ho hab hb20 htw.2 hxw hyw hdis hb1 (div_pow hjb) (by rw [hsb2]; omega) hbm hbm2 hpk.symm
      (fun d' H hI hs => out (fun e => .inl ⟨d', hI, rfl, e⟩) hs) (fun d' H hd hfu hs => out (fun e => .inr ⟨d', hd, hfu, rfl, e⟩) hs) (2 ^ j.ea / 2 ^ jb) 0 0 d _ (List.replicate (2 ^ jb * 2 ^ j.eb) 0) H (by rw [Nat.zero_mul]; rfl) (by omega)
      ⟨by simpa [rP, wP] using Prog.refl (inX y) hok hl, fun _ _ => rfl, fun k hk => by simp at hk⟩ (by simp) hpk (.inl rfl) ?_
    have hs := hs.re [8, 11, 3, 4, 5, 6, 1, 9, 10, 0, 7] rfl
    unfold passL
    simp only [Nat.zero_mul, Nat.mul_zero]
    have e0 : sum (form (rowsU j d x 0)) = 0#32 := by
      show sum (form []) = 0#32
      decide
    rw [e0]
    exact hs
  have tz : ∀ H, T64 H → HCalls Tryz.prog 139 #[.int .u64 (IntKind.u64.wrap ((2 ^ j.eb : Nat) : Int))] H (RetE (.int .i64 (j.eb : Int)) H) := fun H hT => by
    rw [u64n (by omega)]
    exact TZu_ok j.eb (by omega) H hT
  refine ⟨?_, ?_⟩
  · refine hs.ldw 7 rfl rfl ?_
    refine hs.ldf 7 rfl rfl ?_
    simp only [HV]
    refine HCalls.use (tz H (see_T hT hs 6 rfl)) ?_
    simp only [HV]
    refine (New_tr j.eb hb20).use hs [] rfl rfl ?_
    rintro _ _ H ⟨kp, rfl, rfl⟩ hs
    simp only [HV]
    exact fin kp H hs
  refine hs.ldf 7 rfl rfl ?_
  simp only [HV]
  refine ⟨?_, ?_, ?_⟩
  · refine hs.ldw 7 rfl rfl ?_
    refine HCalls.use (tz H (see_T hT hs 6 rfl)) ?_
    simp only [HV]
    refine (New_tr j.eb hb20).use hs [] rfl rfl ?_
    rintro _ _ H ⟨kp, rfl, rfl⟩ hs
    simp only [HV]
    exact fin kp H hs
  · refine hs.ldw 7 rfl rfl ?_
    refine HCalls.use (tz H (see_T hT hs 6 rfl)) ?_
    simp only [HV]
    refine (New_tr j.eb hb20).use hs [] rfl rfl ?_
    rintro _ _ H ⟨kp, rfl, rfl⟩ hs
    simp only [HV]
    exact fin kp H hs
  refine HCalls.use (tz H (see_T hT hs 6 rfl)) ?_
  simp only [HV]
  refine ⟨?_, ?_⟩
  · refine hs.ldw 7 rfl rfl ?_
    refine (New_tr j.eb hb20).use hs [] rfl rfl ?_
    rintro _ _ H ⟨kp, rfl, rfl⟩ hs
    simp only [HV]
    exact fin kp H hs
  · refine (New_tr j.eb hb20).use hs [] rfl rfl ?_
    rintro _ _ H ⟨kp, rfl, rfl⟩ hs
    simp only [HV]
    refine hs.ldw 8 rfl rfl ?_
    exact fin kp H hs
end
end Go.Proofs.YtnknippcbecmeaaGreatDoor.Pas
end
section
/- The law StreamCosts. -/
namespace Go.Proofs.YtnknippcbecmeaaGreatDoor.Str
open Go Go.Hw Go.Form W Dsk Are
end Go.Proofs.YtnknippcbecmeaaGreatDoor.Str
end
section
/- Law 22: a pair of pipes, a pipe's words, and the law's first look. -/
namespace Go.Proofs.YtnknippcbecmeaaGreatDoor.Trn
open Go Go.Hw Go.Crc Go.Form W Shp Str Dsk Are
theorem zeros_u64 (n : Nat) : zeroRow [Value.int .u64 0] n = wordVals (List.replicate n 0) := by
  rw [zeroRow_one]
  unfold wordVals
  rw [List.map_replicate]; rfl
theorem zeros_set (n : Nat) (ws : List UInt64) (h : ws.length = n) : setAt (wordVals (List.replicate n 0)) 0 (wordVals ws) = wordVals ws := by
  rw [setW_vals]
  unfold setW
  rw [List.take_zero, List.nil_append, List.drop_eq_nil_of_le (by simp; omega), List.append_nil]
structure MadeD (d : D) (k n : Nat) : Prop where
  ok : Ok d
  down : d.down = false
  fuse : d.fuse = 0
  cnt : d.rd ≤ 100000000 ∧ d.wr ≤ 100000000
  sec : d.sec = 2 * k + 1
  size : d.size = 32
theorem MadeD.per {d : D} {k n : Nat} (h : MadeD d k n) : D.per d = 4 := by unfold D.per; rw [h.size]
theorem MadeD.prog {S : Int → Prop} {d d' : D} {k n r w : Nat} (h : MadeD d k n) (hp : Prog S d d' r w) (hc : d'.rd ≤ 100000000 ∧ d'.wr ≤ 100000000) : MadeD d' k n :=
  ⟨hp.ok, hp.down, by rw [hp.fuse, h.fuse]; omega, hc, by rw [hp.sec, h.sec], by rw [hp.size, h.size]⟩
section
variable {A : Option Addr} {n m : Nat} {R : As}
end
end Go.Proofs.YtnknippcbecmeaaGreatDoor.Trn
end
section
/- Law 22: a turn of a pair, and the law's first look. -/
namespace Go.Proofs.YtnknippcbecmeaaGreatDoor.Trn
open Go Go.Hw Go.Crc Go.Form W Shp Str Dsk Are
theorem pws_map {d : D} {x : X} {n : Nat} {f : Nat → UInt64} (h : ∀ j, j < n → pw d x j = f j) : pws d x 0 n = (List.range n).map f := by
  unfold pws
  apply List.map_congr_left
  intro j hj
  rw [Nat.zero_add]
  exact h j (List.mem_range.1 hj)
theorem range_get (l : List UInt64) : (List.range l.length).map (fun j => (l[j]?).getD 0) = l := by
  apply List.ext_getElem?
  intro j
  rw [List.getElem?_map]
  by_cases hj : j < l.length
  · rw [List.getElem?_range hj, Option.map_some, List.getElem?_eq_getElem hj]; rfl
  · rw [List.getElem?_eq_none (by simp; omega), List.getElem?_eq_none (by omega)]; rfl
section
variable {p q dp ap : Nat} {x y : X} {cap peak : Int} {TT : As}
end
end Go.Proofs.YtnknippcbecmeaaGreatDoor.Trn
end
section
/- turn.Run where it can't; the reference's Transpose. -/
namespace Go.Proofs.YtnknippcbecmeaaGreatDoor.Trn
open Go Go.Hw Go.Crc Go.Form W Shp Str Dsk Are
section
variable {p q dp ap : Nat} {x y : X} {cap peak : Int} {bufs : List (Nat × Nat × Option Addr)} {L : List As} {H : Hp}
end
def trL (l : List UInt64) (rows cols : Nat) : List UInt64 := (List.range (rows * cols)).map fun k => (l[k % rows * cols + k / rows]?).getD 0
theorem trL_len (l : List UInt64) (rows cols : Nat) : (trL l rows cols).length = rows * cols := by simp [trL]
end Go.Proofs.YtnknippcbecmeaaGreatDoor.Trn
end
section
/- turn.Cost: so many reads, so many writes. -/
namespace Go.Proofs.YtnknippcbecmeaaGreatDoor.Trn
open Go Go.Hw Go.Crc Go.Form W Shp Str Dsk Are
theorem pcs_one {per f k fr n : Nat} (hn : 1 ≤ n) (hk : 1 ≤ k) (h : fr % per + n ≤ per) : pcs per f k fr n = [(f + fr / per, fr % per, n)] := by
  obtain ⟨k, rfl⟩ : ∃ k', k = k' + 1 := ⟨k - 1, by omega⟩
  have hc : cN per fr n = n := by unfold cN; split <;> omega
  show (if n = 0 then [] else (f + fr / per, fr % per, cN per fr n) :: pcs per f k (fr + cN per fr n) (n - cN per fr n)) = _
  rw [if_neg (by omega), hc, Nat.sub_self]
  have e : pcs per f k (fr + n) 0 = [] := by cases k <;> simp [pcs]
  rw [e]
theorem pcs_al {per f : Nat} (hp : 0 < per) : ∀ (q k fr : Nat), q * per ≤ k → fr % per = 0 → (pcs per f k fr (q * per)).length = q ∧ ∀ p ∈ pcs per f k fr (q * per), p.2.2 = per
  | 0, k, fr, _, _ => by
    have e : pcs per f k fr (0 * per) = [] := by rw [Nat.zero_mul]; cases k <;> simp [pcs]
    rw [e]; simp
  | q + 1, k, fr, hk, hf => by
    rw [Nat.succ_mul] at hk
    obtain ⟨k, rfl⟩ : ∃ k', k = k' + 1 := ⟨k - 1, by omega⟩
    have hc : cN per fr ((q + 1) * per) = per := by
      unfold cN
      rw [hf, Nat.sub_zero, Nat.succ_mul]
      split
      · rfl
      · omega
    have e : pcs per f (k + 1) fr ((q + 1) * per) = (f + fr / per, fr % per, per) :: pcs per f k (fr + per) (q * per) := by
      show (if (q + 1) * per = 0 then [] else (f + fr / per, fr % per, cN per fr ((q + 1) * per)) :: pcs per f k (fr + cN per fr ((q + 1) * per)) ((q + 1) * per - cN per fr ((q + 1) * per))) = _
      rw [hc, if_neg (by rw [Nat.succ_mul]; omega), Nat.succ_mul, Nat.add_sub_cancel]
    obtain ⟨h1, h2⟩ := pcs_al (f := f) hp q k (fr + per) (by omega) (by rw [Nat.add_mod_right]; exact hf)
    rw [e]
    refine ⟨by rw [List.length_cons, h1], fun p hp' => ?_⟩
    rcases List.mem_cons.1 hp' with rfl | h
    · rfl
    · exact h2 p h
def m1 (q : Nat) : Nat := if 1 < q then q else 1
theorem unit_cnt (j f fr : Nat) (hd : 2 ^ j ∣ fr) : (pcs 4 f (2 ^ j) fr (2 ^ j)).length = m1 (2 ^ j / 4) ∧ pcsR 4 f (2 ^ j) fr (2 ^ j) = if 2 ^ j < 4 then 1 else 0 := by
  match j, hd with
  | 0, _ =>
    have e := pcs_one (per := 4) (f := f) (k := 2 ^ 0) (fr := fr) (n := 2 ^ 0) (by decide) (by decide) (by rw [Nat.pow_zero]; omega)
    unfold pcsR
    rw [e]; exact ⟨rfl, rfl⟩
  | 1, hd =>
    have e := pcs_one (per := 4) (f := f) (k := 2 ^ 1) (fr := fr) (n := 2 ^ 1) (by decide) (by decide) (by
      obtain ⟨t, rfl⟩ := hd
      rw [Nat.pow_one]; omega)
    unfold pcsR
    rw [e]; exact ⟨rfl, rfl⟩
  | j + 2, hd =>
    have e4 : 2 ^ (j + 2) = 2 ^ j * 4 := by rw [Nat.pow_succ, Nat.pow_succ]; omega
    have hj := pow_pos j
    have hf : fr % 4 = 0 := by
      obtain ⟨t, rfl⟩ := hd
      rw [e4, Nat.mul_assoc, Nat.mul_left_comm]
      exact Nat.mul_mod_right 4 _
    obtain ⟨h1, h2⟩ := pcs_al (per := 4) (f := f) (by omega) (2 ^ j) (2 ^ (j + 2)) fr (by rw [e4]; exact Nat.le_refl _) hf
    rw [← e4] at h1 h2
    refine ⟨?_, ?_⟩
    · rw [h1, e4, Nat.mul_div_cancel _ (by omega)]
      unfold m1
      split <;> omega
    · unfold pcsR
      rw [if_neg (by omega), List.length_eq_zero_iff, List.filter_eq_nil_iff]
      intro p hp
      rw [h2 p hp]; simp
theorem gR_is (ea eb j f m : Nat) (hj : j ≤ eb) : ∀ i, gR 4 f (2 ^ eb) (m * 2 ^ j) (2 ^ j) i = i * m1 (2 ^ j / 4)
  | 0 => by simp [gR]
  | i + 1 => by
    rw [gR_succ, gR_is ea eb j f m hj i, Nat.succ_mul, (unit_cnt j f (i * 2 ^ eb + m * 2 ^ j) (Nat.dvd_add (Nat.dvd_mul_left_of_dvd (Nat.pow_dvd_pow 2 hj) i) (Nat.dvd_mul_left _ _))).1]
theorem rT_is (ea eb j f f' : Nat) (hj : j ≤ eb) : ∀ m, rT 4 f f' (2 ^ ea) (2 ^ eb) (2 ^ j) m = m * (2 ^ ea * m1 (2 ^ j / 4)) + (if 2 ^ j * 2 ^ ea < 4 then m else 0)
  | 0 => by simp [rT]
  | m + 1 => by
    rw [rT_succ, rT_is ea eb j f f' hj m, gR_is ea eb j f m hj, Nat.succ_mul]
    have h := (unit_cnt (j + ea) f' (m * 2 ^ (j + ea)) (Nat.dvd_mul_left _ _)).2
    rw [Nat.mul_assoc, ← Nat.pow_add, h]
    split <;> omega
theorem wT_is (ea j f' : Nat) : ∀ m, wT 4 f' (2 ^ ea) (2 ^ j) m = m * m1 (2 ^ j * 2 ^ ea / 4)
  | 0 => by simp [wT]
  | m + 1 => by
    rw [wT_succ, wT_is ea j f' m, Nat.succ_mul]
    have h := (unit_cnt (j + ea) f' (m * 2 ^ (j + ea)) (Nat.dvd_mul_left _ _)).1
    rw [Nat.mul_assoc, ← Nat.pow_add, h]
theorem m1_le {q : Nat} (h : 1 ≤ q) : m1 (q / 4) ≤ q := by unfold m1; split <;> omega
theorem m1_if (q : Nat) : (if ((q : Nat) : Int) > 1 then ((q : Nat) : Int) else 1) = ((m1 q : Nat) : Int) := by
  unfold m1
  split <;> split <;> omega
def opO (r w : Int) : AO := .obj (.cells #[.int .i64 r, .int .i64 w, .int .i64 0] 43)
theorem Cost_j6 {ea eb j : Nat} {N R W : Nat} (hs1 : 2 ^ j * 2 ^ ea ≤ 1000000) (hR : R + N ≤ 1000000000000) {b1 b2 b3 : Nat} {H0 H : Hp} (hs : Sep [own H0, pts b1 (.obj (.cells #[.int .i64 ((2 ^ ea : Nat) : Int), .int .i64 ((2 ^ eb : Nat) : Int)] 59)), pts b2 (opO 0 0), pts b3 (opO R W)] H) :
    W_turn_Cost.j6 (Ret (.tuple #[.agg #[.int .i64 ((R + (if 2 ^ j * 2 ^ ea < 4 then N else 0) : Nat) : Int), .int .i64 (W : Int), .int .i64 0], .int .i64 0]) H0) 4 ⟨b1, 0, none⟩ ⟨b2, 0, none⟩ ((2 ^ j : Nat) : Int) (N : Int) ⟨b3, 0, none⟩ H := by
  unfold W_turn_Cost.j6
  first | refine hs.ldf 1 rfl rfl ?_ | refine hs.ldg 1 rfl rfl ?_
  try simp only [HV]
  rw [← Int.natCast_mul, i64n (by omega)]
  by_cases h4 : 2 ^ j * 2 ^ ea < 4
  · rw [if_pos h4]
    refine BIf_dpos (by omega) ?_
    first | refine hs.ldf 3 rfl rfl ?_ | refine hs.ldg 3 rfl rfl ?_
    try simp only [HV]
    rw [← Int.natCast_add, i64n (by omega)]
    refine hs.stf 3 rfl (Nat.lt_of_sub_eq_succ rfl) rfl fun H hs => ?_
    refine hs.ldw 3 rfl rfl ?_
    refine hs.stw 2 rfl rfl rfl rfl fun H1 hs => ?_
    refine hs.ldw 2 rfl rfl ?_
    exact hs.fin 0 rfl _
  · rw [if_neg h4]
    refine BIf_dneg (by omega) ?_
    refine hs.ldw 3 rfl rfl ?_
    refine hs.stw 2 rfl rfl rfl rfl fun H1 hs => ?_
    refine hs.ldw 2 rfl rfl ?_
    exact hs.fin 0 rfl _
theorem Cost_is {ea eb j : Nat} {free : Int} (hab : ea + eb ≤ 32) (hj : BandIs ((2 ^ ea : Nat) : Int) ((2 ^ eb : Nat) : Int) 4 free j) (h2 : ((2 ^ ea : Nat) : Int) ≤ free - 4) (hf : free ≤ 1000) (H : Hp) (hT : T64 H) :
    HCalls Tryz.prog 52 #[.agg #[.int .i64 ((2 ^ ea : Nat) : Int), .int .i64 ((2 ^ eb : Nat) : Int)], .int .i64 4, .int .i64 free] H
      (RetE (.tuple #[.agg #[.int .i64 ((2 ^ eb / 2 ^ j * (2 ^ ea * m1 (2 ^ j / 4)) + (if 2 ^ j * 2 ^ ea < 4 then 2 ^ eb / 2 ^ j else 0) : Nat) : Int), .int .i64 ((2 ^ eb / 2 ^ j * m1 (2 ^ j * 2 ^ ea / 4) : Nat) : Int), .int .i64 0], .int .i64 0]) H) := HCalls.ret (by
  have q1 := pow_pos ea
  have q3 := pow_pos j
  have hjb := hj.ge
  have hfit := hj.fit
  rw [← Int.natCast_mul] at hfit
  have hsz := size_le hab
  have hdiv := div_pow hjb
  apply W_turn_Cost.ok
  unfold W_turn_Cost
  refine (Sep.start H).nw fun b1 H1 hs => ?_
  refine hs.nw fun b2 H1 hs => ?_
  refine hs.ldw 1 rfl rfl ?_
  refine HCalls.use (Band_is _ _ 4 free ⟨by omega, by omega⟩ (by omega) H1 (hT.le (hs.ow 0 rfl)) (goodS_pow hab) rfl (by omega) h2 hj) ?_
  simp only [HV]
  first | refine hs.ldf 1 rfl rfl ?_ | refine hs.ldg 1 rfl rfl ?_
  try simp only [HV]
  have hN : 2 ^ eb / 2 ^ j ≤ 2 ^ eb := Nat.div_le_self _ _
  have hN2 : 2 ^ eb / 2 ^ j * 2 ^ ea * 2 ^ j ≤ 4294967296 := by
    rw [Nat.mul_right_comm, ← hdiv, Nat.mul_comm]; exact hsz
  have hN4 : 2 ^ eb / 2 ^ j * (2 ^ j * 2 ^ ea) ≤ 4294967296 := by
    rw [Nat.mul_comm (2 ^ j), ← Nat.mul_assoc]; exact hN2
  have eN : Int.tdiv ((2 ^ eb : Nat) : Int) ((2 ^ j : Nat) : Int) = ((2 ^ eb / 2 ^ j : Nat) : Int) := rfl
  have e4 : Int.tdiv ((2 ^ j : Nat) : Int) 4 = ((2 ^ j / 4 : Nat) : Int) := rfl
  have e5 : Int.tdiv ((2 ^ j * 2 ^ ea : Nat) : Int) 4 = ((2 ^ j * 2 ^ ea / 4 : Nat) : Int) := rfl
  have q5 : 2 ^ eb ≤ 2 ^ 32 := pow_le (by omega)
  have q6 : 2 ^ j ≤ 2 ^ 32 := pow_le (by omega)
  have l1 : 2 ^ eb / 2 ^ j * (2 ^ ea * m1 (2 ^ j / 4)) ≤ 4294967296 :=
    Nat.le_trans (by rw [← Nat.mul_assoc]; exact Nat.mul_le_mul_left _ (m1_le q3)) hN2
  have l2 : 2 ^ eb / 2 ^ j * m1 (2 ^ j * 2 ^ ea / 4) ≤ 4294967296 :=
    Nat.le_trans (Nat.mul_le_mul_left _ (m1_le (Nat.mul_pos q3 q1))) hN4
  have l3 : 2 ^ eb / 2 ^ j * 2 ^ ea ≤ 4294967296 := Nat.le_trans (Nat.le_mul_of_pos_right _ q3) hN2
  have eA : IntKind.i64.wrap (Int.tdiv ((2 ^ eb : Nat) : Int) ((2 ^ j : Nat) : Int)) = ((2 ^ eb / 2 ^ j : Nat) : Int) := by rw [eN, i64n (by omega)]
  have eB : IntKind.i64.wrap (Int.tdiv ((2 ^ j : Nat) : Int) 4) = ((2 ^ j / 4 : Nat) : Int) := by rw [e4, i64n (by omega)]
  have eC : IntKind.i64.wrap (Int.tdiv (IntKind.i64.wrap (((2 ^ j : Nat) : Int) * ((2 ^ ea : Nat) : Int))) 4) = ((2 ^ j * 2 ^ ea / 4 : Nat) : Int) := by
    rw [← Int.natCast_mul, i64n (n := 2 ^ j * 2 ^ ea) (by omega), e5, i64n (by omega)]
  have eR : IntKind.i64.wrap (IntKind.i64.wrap (((2 ^ eb / 2 ^ j : Nat) : Int) * ((2 ^ ea : Nat) : Int)) * ((m1 (2 ^ j / 4) : Nat) : Int)) = ((2 ^ eb / 2 ^ j * (2 ^ ea * m1 (2 ^ j / 4)) : Nat) : Int) := by
    rw [← Int.natCast_mul, i64n (n := 2 ^ eb / 2 ^ j * 2 ^ ea) (by omega), ← Int.natCast_mul, Nat.mul_assoc, i64n (by omega)]
  have eW : IntKind.i64.wrap (((2 ^ eb / 2 ^ j : Nat) : Int) * ((m1 (2 ^ j * 2 ^ ea / 4) : Nat) : Int)) = ((2 ^ eb / 2 ^ j * m1 (2 ^ j * 2 ^ ea / 4) : Nat) : Int) := by
    rw [← Int.natCast_mul, i64n (by omega)]
  have leaf : ∀ {H1 b3} (hs : Sep [own H, pts b1 (.obj (.cells #[.int .i64 ((2 ^ ea : Nat) : Int), .int .i64 ((2 ^ eb : Nat) : Int)] 59)), pts b2 (opO 0 0), pts b3 (opO 0 0)] H1),
      StA H1 (⟨b3, 0, none⟩ : Addr) #[.int .i64 ((2 ^ eb / 2 ^ j * (2 ^ ea * m1 (2 ^ j / 4)) : Nat) : Int), .int .i64 ((2 ^ eb / 2 ^ j * m1 (2 ^ j * 2 ^ ea / 4) : Nat) : Int), .int .i64 0] 3 fun H6 => W_turn_Cost.j6 (Ret (.tuple #[.agg #[.int .i64 ((2 ^ eb / 2 ^ j * (2 ^ ea * m1 (2 ^ j / 4)) + (if 2 ^ j * 2 ^ ea < 4 then 2 ^ eb / 2 ^ j else 0) : Nat) : Int), .int .i64 ((2 ^ eb / 2 ^ j * m1 (2 ^ j * 2 ^ ea / 4) : Nat) : Int), .int .i64 0], .int .i64 0]) H) 4 ⟨b1, 0, none⟩ ⟨b2, 0, none⟩ ((2 ^ j : Nat) : Int) ((2 ^ eb / 2 ^ j : Nat) : Int) ⟨b3, 0, none⟩ H6 := fun hs => by
    refine hs.stw 3 rfl rfl rfl rfl fun H1 hs => ?_
    exact Cost_j6 (by omega) (by omega) hs
  have z1 : ((2 ^ j : Nat) : Int) ≠ 0 := by omega
  have z4 : (4 : Int) ≠ 0 := by decide
  refine ⟨z1, by simp, z4, by simp, ?_, ?_, ?_⟩
  · first | refine hs.ldf 1 rfl rfl ?_ | refine hs.ldg 1 rfl rfl ?_
    try simp only [HV]
    refine ⟨?_, ?_⟩
    · first | refine hs.ldf 1 rfl rfl ?_ | refine hs.ldg 1 rfl rfl ?_
      try simp only [HV]
      refine ⟨z4, by simp, hs.nw fun b3 H1 hs => ?_⟩
      simp only [eA, eB, eC, m1_if, eR, eW]
      exact leaf hs
    · refine hs.nw fun b3 H1 hs => ?_
      first | refine hs.ldf 1 rfl rfl ?_ | refine hs.ldg 1 rfl rfl ?_
      try simp only [HV]
      refine ⟨z4, by simp, ?_⟩
      simp only [eA, eB, eC, m1_if, eR, eW]
      exact leaf hs
  · first | refine hs.ldf 1 rfl rfl ?_ | refine hs.ldg 1 rfl rfl ?_
    try simp only [HV]
    refine ⟨z4, by simp, ?_, ?_⟩
    · first | refine hs.ldf 1 rfl rfl ?_ | refine hs.ldg 1 rfl rfl ?_
      try simp only [HV]
      refine hs.nw fun b3 H1 hs => ?_
      simp only [eA, eB, eC, m1_if, eR, eW]
      exact leaf hs
    · refine hs.nw fun b3 H1 hs => ?_
      first | refine hs.ldf 1 rfl rfl ?_ | refine hs.ldg 1 rfl rfl ?_
      try simp only [HV]
      simp only [eA, eB, eC, m1_if, eR, eW]
      exact leaf hs
  · refine hs.nw fun b3 H1 hs => ⟨?_, ?_⟩
    · first | refine hs.ldf 1 rfl rfl ?_ | refine hs.ldg 1 rfl rfl ?_
      try simp only [HV]
      first | refine hs.ldf 1 rfl rfl ?_ | refine hs.ldg 1 rfl rfl ?_
      try simp only [HV]
      refine ⟨z4, by simp, ?_⟩
      simp only [eA, eB, eC, m1_if, eR, eW]
      exact leaf hs
    · first | refine hs.ldf 1 rfl rfl ?_ | refine hs.ldg 1 rfl rfl ?_
      try simp only [HV]
      refine ⟨z4, by simp, ?_⟩
      first | refine hs.ldf 1 rfl rfl ?_ | refine hs.ldg 1 rfl rfl ?_
      try simp only [HV]
      simp only [eA, eB, eC, m1_if, eR, eW]
      exact leaf hs)
end Go.Proofs.YtnknippcbecmeaaGreatDoor.Trn
end
section
/- pass: Cost; a pass of a pair; the law's first look. -/
namespace Go.Proofs.YtnknippcbecmeaaGreatDoor.Pas
open Go Go.Hw Go.Crc Go.Form W Shp Gol Fft Ker Str Dsk Are Trn
theorem part_cnt (e j f fr : Nat) (hd : 2 ^ j ∣ fr) : (pcs (2 ^ e) f (2 ^ j) fr (2 ^ j)).length = m1 (2 ^ j / 2 ^ e) ∧ pcsR (2 ^ e) f (2 ^ j) fr (2 ^ j) = if 2 ^ j < 2 ^ e then 1 else 0 := by
  have hj := pow_pos j
  have he := pow_pos e
  by_cases h : j < e
  · have hlt : 2 ^ j < 2 ^ e := Nat.pow_lt_pow_right (by omega) h
    have hfit : fr % 2 ^ e + 2 ^ j ≤ 2 ^ e := by
      obtain ⟨t, rfl⟩ := hd
      have e1 : 2 ^ e = 2 ^ j * 2 ^ (e - j) := by rw [← Nat.pow_add]; congr 1; omega
      rw [e1, Nat.mul_mod_mul_left]
      have h1 := Nat.mod_lt t (pow_pos (e - j))
      have h2 : 2 ^ j * (t % 2 ^ (e - j) + 1) ≤ 2 ^ j * 2 ^ (e - j) := Nat.mul_le_mul_left _ h1
      rw [Nat.mul_add, Nat.mul_one] at h2
      exact h2
    have e1 := pcs_one (per := 2 ^ e) (f := f) (k := 2 ^ j) (fr := fr) (n := 2 ^ j) hj hj hfit
    unfold pcsR
    rw [e1, if_pos hlt, Nat.div_eq_of_lt hlt]
    refine ⟨rfl, ?_⟩
    simp [hlt]
  · have e4 : 2 ^ j = 2 ^ (j - e) * 2 ^ e := by rw [← Nat.pow_add]; congr 1; omega
    have hjm := pow_pos (j - e)
    have hf : fr % 2 ^ e = 0 := by
      obtain ⟨t, rfl⟩ := hd
      rw [e4, Nat.mul_right_comm]
      exact Nat.mul_mod_left _ _
    obtain ⟨h1, h2⟩ := pcs_al (per := 2 ^ e) (f := f) (by omega) (2 ^ (j - e)) (2 ^ j) fr (by rw [← e4]; exact Nat.le_refl _) hf
    rw [← e4] at h1 h2
    have hle := pow_le (show e ≤ j by omega)
    refine ⟨?_, ?_⟩
    · rw [h1]
      have : 2 ^ j / 2 ^ e = 2 ^ (j - e) := by rw [e4, Nat.mul_div_cancel _ (by omega)]
      rw [this]
      unfold m1
      split <;> omega
    · unfold pcsR
      rw [if_neg (by omega), List.length_eq_zero_iff, List.filter_eq_nil_iff]
      intro p hp
      rw [h2 p hp]; simp
theorem rP_is (e f f' n : Nat) : ∀ m, rP (2 ^ e) f f' (2 ^ n) m = m * m1 (2 ^ n / 2 ^ e) + (if 2 ^ n < 2 ^ e then m else 0)
  | 0 => by simp [rP]
  | m + 1 => by
    rw [rP_succ, rP_is e f f' n m, (part_cnt e n f (m * 2 ^ n) (Nat.dvd_mul_left _ _)).1, (part_cnt e n f' (m * 2 ^ n) (Nat.dvd_mul_left _ _)).2, Nat.succ_mul]
    split <;> omega
theorem wP_is (e f' n : Nat) : ∀ m, wP (2 ^ e) f' (2 ^ n) m = m * m1 (2 ^ n / 2 ^ e)
  | 0 => by simp [wP]
  | m + 1 => by
    rw [wP_succ, wP_is e f' n m, (part_cnt e n f' (m * 2 ^ n) (Nat.dvd_mul_left _ _)).1, Nat.succ_mul]
theorem m1_le' {q p : Nat} (h : 1 ≤ q) (hp : 1 ≤ p) : m1 (q / p) ≤ q := by
  have := Nat.div_le_self q p
  unfold m1; split <;> omega
theorem m1_if' (q : Nat) : (if ((q : Nat) : Int) > 1 then ((q : Nat) : Int) else 1) = ((m1 q : Nat) : Int) := by
  unfold m1
  split <;> split <;> omega
def opsV (r w : Int) : Array Value := #[.int .i64 r, .int .i64 w, .int .i64 0]
def cR (per n m : Nat) : Nat := m * m1 (n / per) + (if n < per then m else 0)
def cW (per n m : Nat) : Nat := m * m1 (n / per)
theorem Cost_is {ea eb jb : Nat} {per : Nat} {free : Int} (hab : ea + eb ≤ 32) (hp : 4 ≤ per ∧ per ≤ 512) (hf : free ≤ 9223372036854775807) (h : batC ((2 ^ ea : Nat) : Int) ((2 ^ eb : Nat) : Int) (per : Int) free) (hj : BatIs ea ((free - per).toNat / 2 ^ eb) jb) (H : Hp) (hT : T64 H) :
    HCalls Tryz.prog 53 #[.agg #[.int .i64 ((2 ^ ea : Nat) : Int), .int .i64 ((2 ^ eb : Nat) : Int)], .int .i64 (per : Int), .int .i64 free] H
      (RetE (.tuple #[.agg (opsV ((cR per (2 ^ jb * 2 ^ eb) (2 ^ ea / 2 ^ jb) : Nat) : Int) ((cW per (2 ^ jb * 2 ^ eb) (2 ^ ea / 2 ^ jb) : Nat) : Int)), .int .i64 0]) H) := HCalls.ret (by
  have q1 := pow_pos ea
  have q2 := pow_pos eb
  have q3 := pow_pos jb
  have hjb := hj.le
  have hsz := size_le hab
  have hdiv := div_pow hjb
  have hN : 2 ^ ea / 2 ^ jb ≤ 2 ^ ea := Nat.div_le_self _ _
  have hN4 : 2 ^ ea / 2 ^ jb * (2 ^ jb * 2 ^ eb) ≤ 4294967296 := by rw [← Nat.mul_assoc, ← hdiv]; exact hsz
  have q5 : 2 ^ ea ≤ 2 ^ 32 := pow_le (by omega)
  have hbr : 2 ^ jb * 2 ^ eb ≤ 2 ^ ea * 2 ^ eb := Nat.mul_le_mul_right _ (pow_le hjb)
  have l2 : 2 ^ ea / 2 ^ jb * m1 (2 ^ jb * 2 ^ eb / per) ≤ 4294967296 := Nat.le_trans (Nat.mul_le_mul_left _ (m1_le' (Nat.mul_pos q3 q2) (by omega))) hN4
  have hdl := Nat.div_le_self (2 ^ jb * 2 ^ eb) per
  apply W_pass_Cost.ok
  unfold W_pass_Cost
  refine (Sep.start H).nw fun b1 H1 hs => ?_
  refine hs.nw fun b2 H1 hs => ?_
  refine hs.ldw 1 rfl rfl ?_
  refine HCalls.use (Batch_is (per : Int) free ⟨by omega, by omega⟩ hf H1 (hT.le (hs.ow 0 rfl)) hab h hj) ?_
  simp only [HV]
  rw [show (⟨b1, 0, none⟩ : Addr).add 0 = ⟨b1, 0, none⟩ from rfl]
  refine hs.ld 1 rfl rfl ?_
  simp only [HV]
  refine ⟨by omega, by simp, ?_⟩
  refine hs.ldf 1 rfl rfl ?_
  simp only [HV]
  refine ⟨by omega, by simp, hs.nw fun b3 H1 hs => ?_⟩
  have eA : IntKind.i64.wrap (Int.tdiv ((2 ^ ea : Nat) : Int) ((2 ^ jb : Nat) : Int)) = ((2 ^ ea / 2 ^ jb : Nat) : Int) := by
    rw [show Int.tdiv ((2 ^ ea : Nat) : Int) ((2 ^ jb : Nat) : Int) = ((2 ^ ea / 2 ^ jb : Nat) : Int) from rfl, i64n (by omega)]
  have eB : IntKind.i64.wrap (((2 ^ jb : Nat) : Int) * ((2 ^ eb : Nat) : Int)) = ((2 ^ jb * 2 ^ eb : Nat) : Int) := by rw [← Int.natCast_mul, i64n (by omega)]
  have eC : IntKind.i64.wrap (Int.tdiv ((2 ^ jb * 2 ^ eb : Nat) : Int) (per : Int)) = ((2 ^ jb * 2 ^ eb / per : Nat) : Int) := by
    rw [show Int.tdiv ((2 ^ jb * 2 ^ eb : Nat) : Int) (per : Int) = ((2 ^ jb * 2 ^ eb / per : Nat) : Int) from rfl, i64n (by omega)]
  have eW : IntKind.i64.wrap (((2 ^ ea / 2 ^ jb : Nat) : Int) * ((m1 (2 ^ jb * 2 ^ eb / per) : Nat) : Int)) = ((2 ^ ea / 2 ^ jb * m1 (2 ^ jb * 2 ^ eb / per) : Nat) : Int) := by
    rw [← Int.natCast_mul, i64n (by omega)]
  simp only [eA, eB, eC, m1_if', eW]
  refine hs.stw 3 rfl rfl rfl rfl fun H1 hs => ?_
  refine hs.ldf 1 rfl rfl ?_
  simp only [HV]
  rw [eB]
  unfold cR cW
  by_cases h4 : 2 ^ jb * 2 ^ eb < per
  · refine BIf_dpos (by omega) ?_
    rw [if_pos h4]
    simp only [Addr.add_zero]
    refine hs.ld 3 rfl rfl ?_
    simp only [HV]
    rw [← Int.natCast_add, i64n (by omega)]
    refine hs.st 3 rfl (Nat.lt_of_sub_eq_succ rfl) rfl fun H hs => ?_
    refine hs.ldw 3 rfl rfl ?_
    refine hs.stw 2 rfl rfl rfl rfl fun H1 hs => ?_
    refine hs.ldw 2 rfl rfl ?_
    exact hs.fin 0 rfl _
  · refine BIf_dneg (by omega) ?_
    rw [if_neg h4, Nat.add_zero]
    refine hs.ldw 3 rfl rfl ?_
    refine hs.stw 2 rfl rfl rfl rfl fun H1 hs => ?_
    refine hs.ldw 2 rfl rfl ?_
    exact hs.fin 0 rfl _)
section
variable {p q dp ap : Nat} {x y : X} {cap peak : Int} {TT : As} {j : J}
end
end Go.Proofs.YtnknippcbecmeaaGreatDoor.Pas
end
section
/- Formulas of functions, printed by wip/tools/hwp.py. -/
namespace Go.Proofs.YtnknippcbecmeaaGreatDoor.W
open Go Go.Hw
theorem mixWabacistref08 : Tryz.prog.follows .mixedOrders = true := by kernel_rfl
def W_abacistref08_Transform (A1 : Option Addr) (n1 : Nat) (m1 : Nat) (x1 : Int) (x2 : Int) (H : Hp) (K : Value → Hp → Prop) : Prop :=
  HCalls Tryz.prog 60 #[.slice A1 n1 m1, .int .i64 x1, .int .i64 x2] H fun v1 H1 => DSl v1 fun A2 n2 m2 => BIf (x2 == (1 : Int)) (HCalls Tryz.prog 48 #[.int .i64 x1] H1 fun v2 H2 => DI .u64 v2 fun x3 => HCalls Tryz.prog 61 #[.slice A2 n2 m2, .int .u64 x3] H2 fun v3 H3 => DSl v3 fun A3 n3 m3 => K (.slice A3 n3 m3) H3) (K (.slice A2 n2 m2) H1)
theorem W_abacistref08_Transform.ok (A1 : Option Addr) (n1 : Nat) (m1 : Nat) (x1 : Int) (x2 : Int) (H : Hp) (K : Value → Hp → Prop) (h : W_abacistref08_Transform A1 n1 m1 x1 x2 H K) : HCalls Tryz.prog 18 #[.slice A1 n1 m1, .int .i64 x1, .int .i64 x2] H K :=
  hcalls Tryz.func18 rfl (Nat.le_of_ble_eq_true rfl) (hw_safe (Λ := Cuts.none (fun _ => none)) mixWabacistref08 _ _ _ _ _ (Eq.mp (by kernel_rfl) h) (obs_none _ _ _ _ _))
def W_abacistref08_Share (x1 : Int) (H : Hp) (K : Value → Hp → Prop) : Prop :=
  HCalls Tryz.prog 89 #[.int .u64 9223372034707292161, .int .u64 (IntKind.u64.wrap x1)] H fun v1 H1 => DI .u64 v1 fun x2 => K (.int .u64 x2) H1
theorem W_abacistref08_Share.ok (x1 : Int) (H : Hp) (K : Value → Hp → Prop) (h : W_abacistref08_Share x1 H K) : HCalls Tryz.prog 48 #[.int .i64 x1] H K :=
  hcalls Tryz.func48 rfl (Nat.le_of_ble_eq_true rfl) (hw_safe (Λ := Cuts.none (fun _ => none)) mixWabacistref08 _ _ _ _ _ (Eq.mp (by kernel_rfl) h) (obs_none _ _ _ _ _))
def W_abacistref08_Dft.l10 (K : Value → Hp → Prop) (R5 : Option Addr → Nat → Nat → Int → Option Addr → Nat → Nat → Int → Int → Hp → Prop) : Nat → Option Addr → Nat → Nat → Int → Option Addr → Nat → Nat → Int → Int → Int → Int → Int → Hp → Prop
  | 0, _, _, _, _, _, _, _, _, _, _, _, _, _ => False
  | k + 1, A4, n4, m4, x7, A5, n5, m5, x8, x9, x10, x11, x12, H =>
    let R10 := W_abacistref08_Dft.l10 K R5 k
    BIf (decide (x12 < ((n4 : Nat) : Int))) (ixI x12 n4 (NN A4 fun a1 => Ld H (a1.add (x12.toNat * 1)) fun v2 => DI .u64 v2 fun x13 => HCalls Tryz.prog 107 #[.int .u64 x13, .int .u64 x11] H fun v3 H2 => DI .u64 v3 fun x14 => HCalls Tryz.prog 106 #[.int .u64 x10, .int .u64 x14] H2 fun v4 H3 => DI .u64 v4 fun x15 => HCalls Tryz.prog 107 #[.int .u64 x11, .int .u64 x8] H3 fun v5 H4 => DI .u64 v5 fun x16 => R10 A4 n4 m4 x7 A5 n5 m5 x8 x9 x15 x16 (IntKind.i64.wrap (x12 + (1 : Int))) H4)) (Nw H (.row [.int .u64 x10] 60 1) fun b1 H5 => AppK Tryz.prog 60 (.slice A5 n5 m5) (.slice (some ⟨b1, 0, none⟩) 1 1) H5 fun v6 H6 => DSl v6 fun A6 n6 m6 => HCalls Tryz.prog 107 #[.int .u64 x8, .int .u64 x7] H6 fun v7 H7 => DI .u64 v7 fun x17 => R5 A4 n4 m4 x7 A6 n6 m6 x17 (IntKind.i64.wrap (x9 + (1 : Int))) H7)
def W_abacistref08_Dft.l5 (K : Value → Hp → Prop) : Nat → Option Addr → Nat → Nat → Int → Option Addr → Nat → Nat → Int → Int → Hp → Prop
  | 0, _, _, _, _, _, _, _, _, _, _ => False
  | k + 1, A2, n2, m2, x4, A3, n3, m3, x5, x6, H =>
    let R5 := W_abacistref08_Dft.l5 K k
    BIf (decide (x6 < ((n2 : Nat) : Int))) ((∃ k, W_abacistref08_Dft.l10 K R5 k A2 n2 m2 x4 A3 n3 m3 x5 x6 (0 : Int) (1 : Int) (0 : Int) H)) (K (.slice A3 n3 m3) H)
def W_abacistref08_Dft (A1 : Option Addr) (n1 : Nat) (m1 : Nat) (x1 : Int) (x2 : Int) (H : Hp) (K : Value → Hp → Prop) : Prop :=
  HCalls Tryz.prog 105 #[.int .i64 x1, .int .i64 x2] H fun v1 H1 => DI .u64 v1 fun x3 => (∃ k, W_abacistref08_Dft.l5 K k A1 n1 m1 x3 none 0 0 (1 : Int) (0 : Int) H1)
def W_abacistref08_Dft.l5.L (K : Value → Hp → Prop) (k : Nat) : Mid := fun E D H =>
  DG (E.get? 0) fun w0 => DSl w0 fun A2 n2 m2 => eI E 7 .u64 fun x4 => DG (E.get? 8) fun w8 => DSl w8 fun A3 n3 m3 => eI E 9 .u64 fun x5 => eI E 10 .i64 fun x6 => DNilD D (W_abacistref08_Dft.l5 K k A2 n2 m2 x4 A3 n3 m3 x5 x6 H)
def W_abacistref08_Dft.l10.L (K : Value → Hp → Prop) (R5 : Option Addr → Nat → Nat → Int → Option Addr → Nat → Nat → Int → Int → Hp → Prop) (k : Nat) : Mid := fun E D H =>
  DG (E.get? 0) fun w0 => DSl w0 fun A4 n4 m4 => eI E 7 .u64 fun x7 => DG (E.get? 8) fun w8 => DSl w8 fun A5 n5 m5 => eI E 9 .u64 fun x8 => eI E 10 .i64 fun x9 => eI E 11 .u64 fun x10 => eI E 12 .u64 fun x11 => eI E 13 .i64 fun x12 => DNilD D (W_abacistref08_Dft.l10 K R5 k A4 n4 m4 x7 A5 n5 m5 x8 x9 x10 x11 x12 H)
def W_abacistref08_Dft.Λ10 (_ : Value → Hp → Prop) (_R5 : Option Addr → Nat → Nat → Int → Option Addr → Nat → Nat → Int → Int → Hp → Prop) (_R10 : Option Addr → Nat → Nat → Int → Option Addr → Nat → Nat → Int → Int → Int → Int → Int → Hp → Prop) : Cuts := Cuts.none (fun _ => none)
def W_abacistref08_Dft.Λ5 (K : Value → Hp → Prop) (R5 : Option Addr → Nat → Nat → Int → Option Addr → Nat → Nat → Int → Int → Hp → Prop) : Cuts := ⟨fun i => none, fun i => match Nat.beq i 10 with | true => some (fun E D H => ∃ k, W_abacistref08_Dft.l10.L K R5 k E D H) | false => none, (fun _ => none)⟩
def W_abacistref08_Dft.Λ (K : Value → Hp → Prop) : Cuts := ⟨fun i => none, fun i => match Nat.beq i 5 with | true => some (fun E D H => ∃ k, W_abacistref08_Dft.l5.L K k E D H) | false => none, (fun _ => none)⟩
theorem W_abacistref08_Dft.ok (A1 : Option Addr) (n1 : Nat) (m1 : Nat) (x1 : Int) (x2 : Int) (H : Hp) (K : Value → Hp → Prop) (h : W_abacistref08_Dft A1 n1 m1 x1 x2 H K) : HCalls Tryz.prog 60 #[.slice A1 n1 m1, .int .i64 x1, .int .i64 x2] H K :=
  hcalls Tryz.func60 rfl (Nat.le_of_ble_eq_true rfl) (hw_safe (Λ := (W_abacistref08_Dft.Λ K)) mixWabacistref08 _ _ _ _ _ (Eq.mp (by kernel_rfl) h) (obs_seq obs_region rfl (obs_seq obs_region rfl (obs_seq obs_region rfl (obs_seq obs_region rfl (obs_seq (obs_seq obs_region rfl (obs_block (obs_loop rfl (fun E D H h => by
      refine Safe.loop' (W_abacistref08_Dft.l5.L K) (fun E D H h => ?_) (fun k E D H h => ?_) E D H h
      · obtain ⟨w0, e0, g1⟩ := DG.out h; obtain ⟨A2, n2, m2, rfl, g2⟩ := DSl.out g1; obtain ⟨w7, e7, g3⟩ := DG.out g2; obtain ⟨x4, rfl, g4⟩ := DI.out g3; obtain ⟨w8, e8, g5⟩ := DG.out g4; obtain ⟨A3, n3, m3, rfl, g6⟩ := DSl.out g5; obtain ⟨w9, e9, g7⟩ := DG.out g6; obtain ⟨x5, rfl, g8⟩ := DI.out g7; obtain ⟨w10, e10, g9⟩ := DG.out g8; obtain ⟨x6, rfl, g10⟩ := DI.out g9; obtain ⟨rfl, h'⟩ := DNilD.out g10; exact h'
      · obtain ⟨w0, e0, g1⟩ := DG.out h
        obtain ⟨A2, n2, m2, rfl, g2⟩ := DSl.out g1
        obtain ⟨x4, e7, g4⟩ := GI g2
        obtain ⟨w8, e8, g5⟩ := DG.out g4
        obtain ⟨A3, n3, m3, rfl, g6⟩ := DSl.out g5
        obtain ⟨x5, e9, g8⟩ := GI g6; obtain ⟨x6, e10, g10⟩ := GI g8; obtain ⟨rfl, h'⟩ := DNilD.out g10
        exact (hw_safe (Λ := (W_abacistref08_Dft.Λ5 K (W_abacistref08_Dft.l5 K k))) mixWabacistref08 _ _ [(0, .slice A2 n2 m2), (7, .int .u64 x4), (8, .slice A3 n3 m3), (9, .int .u64 x5), (10, .int .i64 x6)] [] H (Eq.mp (by kernel_rfl) h') (obs_seq (obs_seq obs_region rfl (obs_cond obs_skip obs_exit)) rfl (obs_seq (obs_block (obs_seq obs_region rfl (obs_seq obs_region rfl (obs_seq (obs_seq obs_region rfl (obs_block (obs_loop rfl (fun E D H h => by
            refine Safe.loop' (W_abacistref08_Dft.l10.L K (W_abacistref08_Dft.l5 K k)) (fun E D H h => ?_) (fun k E D H h => ?_) E D H h
            · obtain ⟨w0, e0, g1⟩ := DG.out h; obtain ⟨A4, n4, m4, rfl, g2⟩ := DSl.out g1; obtain ⟨w7, e7, g3⟩ := DG.out g2; obtain ⟨x7, rfl, g4⟩ := DI.out g3; obtain ⟨w8, e8, g5⟩ := DG.out g4; obtain ⟨A5, n5, m5, rfl, g6⟩ := DSl.out g5; obtain ⟨w9, e9, g7⟩ := DG.out g6; obtain ⟨x8, rfl, g8⟩ := DI.out g7; obtain ⟨w10, e10, g9⟩ := DG.out g8; obtain ⟨x9, rfl, g10⟩ := DI.out g9; obtain ⟨w11, e11, g11⟩ := DG.out g10; obtain ⟨x10, rfl, g12⟩ := DI.out g11; obtain ⟨w12, e12, g13⟩ := DG.out g12; obtain ⟨x11, rfl, g14⟩ := DI.out g13; obtain ⟨w13, e13, g15⟩ := DG.out g14; obtain ⟨x12, rfl, g16⟩ := DI.out g15; obtain ⟨rfl, h'⟩ := DNilD.out g16; exact h'
            · obtain ⟨w0, e0, g1⟩ := DG.out h
              obtain ⟨A4, n4, m4, rfl, g2⟩ := DSl.out g1
              obtain ⟨x7, e7, g4⟩ := GI g2
              obtain ⟨w8, e8, g5⟩ := DG.out g4
              obtain ⟨A5, n5, m5, rfl, g6⟩ := DSl.out g5
              obtain ⟨x8, e9, g8⟩ := GI g6; obtain ⟨x9, e10, g10⟩ := GI g8; obtain ⟨x10, e11, g12⟩ := GI g10; obtain ⟨x11, e12, g14⟩ := GI g12; obtain ⟨x12, e13, g16⟩ := GI g14; obtain ⟨rfl, h'⟩ := DNilD.out g16
              exact (hw_safe (Λ := (W_abacistref08_Dft.Λ10 K (W_abacistref08_Dft.l5 K k) (W_abacistref08_Dft.l10 K (W_abacistref08_Dft.l5 K k) k))) mixWabacistref08 _ _ [(0, .slice A4 n4 m4), (7, .int .u64 x7), (8, .slice A5 n5 m5), (9, .int .u64 x8), (10, .int .i64 x9), (11, .int .u64 x10), (12, .int .u64 x11), (13, .int .i64 x12)] [] H (Eq.mp (by kernel_rfl) h') (obs_seq (obs_seq obs_region rfl (obs_cond obs_skip obs_exit)) rfl (obs_seq (obs_block (obs_seq obs_region rfl obs_region)) rfl obs_region))).weaken (EnvLe.cons e0 (EnvLe.cons e7 (EnvLe.cons e8 (EnvLe.cons e9 (EnvLe.cons e10 (EnvLe.cons e11 (EnvLe.cons e12 (EnvLe.cons e13 (EnvLe.nil _))))))))) (Hp.le_refl _))))) rfl (obs_seq obs_region rfl obs_region))))) rfl obs_region))).weaken (EnvLe.cons e0 (EnvLe.cons e7 (EnvLe.cons e8 (EnvLe.cons e9 (EnvLe.cons e10 (EnvLe.nil _)))))) (Hp.le_refl _))))) rfl (obs_seq obs_region rfl obs_ret)))))))
def W_abacistref08_Scale.l3 (K : Value → Hp → Prop) : Nat → Option Addr → Nat → Nat → Int → Option Addr → Nat → Nat → Int → Hp → Prop
  | 0, _, _, _, _, _, _, _, _, _ => False
  | k + 1, A2, n2, m2, x2, A3, n3, m3, x3, H =>
    let R3 := W_abacistref08_Scale.l3 K k
    BIf (decide (x3 < ((n2 : Nat) : Int))) (ixI x3 n2 (NN A2 fun a1 => Ld H (a1.add (x3.toNat * 1)) fun v1 => DI .u64 v1 fun x4 => HCalls Tryz.prog 107 #[.int .u64 x4, .int .u64 x2] H fun v2 H1 => DI .u64 v2 fun x5 => Nw H1 (.row [.int .u64 x5] 60 1) fun b1 H2 => AppK Tryz.prog 60 (.slice A3 n3 m3) (.slice (some ⟨b1, 0, none⟩) 1 1) H2 fun v3 H3 => DSl v3 fun A4 n4 m4 => R3 A2 n2 m2 x2 A4 n4 m4 (IntKind.i64.wrap (x3 + (1 : Int))) H3)) (K (.slice A3 n3 m3) H)
def W_abacistref08_Scale (A1 : Option Addr) (n1 : Nat) (m1 : Nat) (x1 : Int) (H : Hp) (K : Value → Hp → Prop) : Prop :=
  (∃ k, W_abacistref08_Scale.l3 K k A1 n1 m1 x1 none 0 0 (0 : Int) H)
def W_abacistref08_Scale.l3.L (K : Value → Hp → Prop) (k : Nat) : Mid := fun E D H =>
  DG (E.get? 0) fun w0 => DSl w0 fun A2 n2 m2 => eI E 1 .u64 fun x2 => DG (E.get? 5) fun w5 => DSl w5 fun A3 n3 m3 => eI E 6 .i64 fun x3 => DNilD D (W_abacistref08_Scale.l3 K k A2 n2 m2 x2 A3 n3 m3 x3 H)
def W_abacistref08_Scale.Λ3 (_ : Value → Hp → Prop) (_R3 : Option Addr → Nat → Nat → Int → Option Addr → Nat → Nat → Int → Hp → Prop) : Cuts := Cuts.none (fun _ => none)
def W_abacistref08_Scale.Λ (K : Value → Hp → Prop) : Cuts := ⟨fun i => none, fun i => match Nat.beq i 3 with | true => some (fun E D H => ∃ k, W_abacistref08_Scale.l3.L K k E D H) | false => none, (fun _ => none)⟩
theorem W_abacistref08_Scale.ok (A1 : Option Addr) (n1 : Nat) (m1 : Nat) (x1 : Int) (H : Hp) (K : Value → Hp → Prop) (h : W_abacistref08_Scale A1 n1 m1 x1 H K) : HCalls Tryz.prog 61 #[.slice A1 n1 m1, .int .u64 x1] H K :=
  hcalls Tryz.func61 rfl (Nat.le_of_ble_eq_true rfl) (hw_safe (Λ := (W_abacistref08_Scale.Λ K)) mixWabacistref08 _ _ _ _ _ (Eq.mp (by kernel_rfl) h) (obs_seq obs_region rfl (obs_seq obs_region rfl (obs_seq (obs_seq obs_region rfl (obs_block (obs_loop rfl (fun E D H h => by
      refine Safe.loop' (W_abacistref08_Scale.l3.L K) (fun E D H h => ?_) (fun k E D H h => ?_) E D H h
      · obtain ⟨w0, e0, g1⟩ := DG.out h; obtain ⟨A2, n2, m2, rfl, g2⟩ := DSl.out g1; obtain ⟨w1, e1, g3⟩ := DG.out g2; obtain ⟨x2, rfl, g4⟩ := DI.out g3; obtain ⟨w5, e5, g5⟩ := DG.out g4; obtain ⟨A3, n3, m3, rfl, g6⟩ := DSl.out g5; obtain ⟨w6, e6, g7⟩ := DG.out g6; obtain ⟨x3, rfl, g8⟩ := DI.out g7; obtain ⟨rfl, h'⟩ := DNilD.out g8; exact h'
      · obtain ⟨w0, e0, g1⟩ := DG.out h
        obtain ⟨A2, n2, m2, rfl, g2⟩ := DSl.out g1
        obtain ⟨x2, e1, g4⟩ := GI g2
        obtain ⟨w5, e5, g5⟩ := DG.out g4
        obtain ⟨A3, n3, m3, rfl, g6⟩ := DSl.out g5
        obtain ⟨x3, e6, g8⟩ := GI g6
        obtain ⟨rfl, h'⟩ := DNilD.out g8
        exact (hw_safe (Λ := (W_abacistref08_Scale.Λ3 K (W_abacistref08_Scale.l3 K k))) mixWabacistref08 _ _ [(0, .slice A2 n2 m2), (1, .int .u64 x2), (5, .slice A3 n3 m3), (6, .int .i64 x3)] [] H (Eq.mp (by kernel_rfl) h') (obs_seq (obs_seq obs_region rfl (obs_cond obs_skip obs_exit)) rfl (obs_seq (obs_block obs_region) rfl obs_region))).weaken (EnvLe.cons e0 (EnvLe.cons e1 (EnvLe.cons e5 (EnvLe.cons e6 (EnvLe.nil _))))) (Hp.le_refl _))))) rfl (obs_seq obs_region rfl obs_ret)))))
def W_abacistref08_Root.l6 (K : Value → Hp → Prop) : Nat → Int → Int → Int → Int → Hp → Prop
  | 0, _, _, _, _, _ => False
  | k + 1, x4, x5, x6, x7, H =>
    let R6 := W_abacistref08_Root.l6 K k
    BIf (decide (x7 < x4)) (R6 x4 x5 (IntKind.u64.wrap ((2 : Int) * x6)) (IntKind.i64.wrap (x7 + (1 : Int))) H) (HCalls Tryz.prog 89 #[.int .u64 x5, .int .u64 (IntKind.u64.wrap (x6 - (1 : Int)))] H fun v2 H2 => DI .u64 v2 fun x8 => K (.int .u64 x8) H2)
def W_abacistref08_Root (x1 : Int) (x2 : Int) (H : Hp) (K : Value → Hp → Prop) : Prop :=
  HCalls Tryz.prog 145 #[.int .i64 x1] H fun v1 H1 => DI .u64 v1 fun x3 => BIf (x2 == (0 : Int)) (K (.int .u64 x3) H1) ((∃ k, W_abacistref08_Root.l6 K k x1 x3 (1 : Int) (0 : Int) H1))
def W_abacistref08_Root.l6.L (K : Value → Hp → Prop) (k : Nat) : Mid := fun E D H =>
  eI E 0 .i64 fun x4 => eI E 5 .u64 fun x5 => eI E 6 .u64 fun x6 => eI E 7 .i64 fun x7 => DNilD D (W_abacistref08_Root.l6 K k x4 x5 x6 x7 H)
def W_abacistref08_Root.Λ6 (_ : Value → Hp → Prop) (_R6 : Int → Int → Int → Int → Hp → Prop) : Cuts := Cuts.none (fun _ => none)
def W_abacistref08_Root.Λ (K : Value → Hp → Prop) : Cuts := ⟨fun i => none, fun i => match Nat.beq i 6 with | true => some (fun E D H => ∃ k, W_abacistref08_Root.l6.L K k E D H) | false => none, (fun _ => none)⟩
theorem W_abacistref08_Root.ok (x1 : Int) (x2 : Int) (H : Hp) (K : Value → Hp → Prop) (h : W_abacistref08_Root x1 x2 H K) : HCalls Tryz.prog 105 #[.int .i64 x1, .int .i64 x2] H K :=
  hcalls Tryz.func105 rfl (Nat.le_of_ble_eq_true rfl) (hw_safe (Λ := (W_abacistref08_Root.Λ K)) mixWabacistref08 _ _ _ _ _ (Eq.mp (by kernel_rfl) h) (obs_seq obs_region rfl (obs_seq obs_region rfl (obs_seq (obs_seq obs_region rfl (obs_cond (obs_seq obs_region rfl obs_ret) obs_skip)) rfl (obs_seq obs_region rfl (obs_seq (obs_seq obs_region rfl (obs_block (obs_loop rfl (fun E D H h => by
      refine Safe.loop' (W_abacistref08_Root.l6.L K) (fun E D H h => ?_) (fun k E D H h => ?_) E D H h
      · obtain ⟨w0, e0, g1⟩ := DG.out h; obtain ⟨x4, rfl, g2⟩ := DI.out g1; obtain ⟨w5, e5, g3⟩ := DG.out g2; obtain ⟨x5, rfl, g4⟩ := DI.out g3; obtain ⟨w6, e6, g5⟩ := DG.out g4; obtain ⟨x6, rfl, g6⟩ := DI.out g5; obtain ⟨w7, e7, g7⟩ := DG.out g6; obtain ⟨x7, rfl, g8⟩ := DI.out g7; obtain ⟨rfl, h'⟩ := DNilD.out g8; exact h'
      · obtain ⟨x4, e0, g2⟩ := GI h
        obtain ⟨x5, e5, g4⟩ := GI g2; obtain ⟨x6, e6, g6⟩ := GI g4; obtain ⟨x7, e7, g8⟩ := GI g6; obtain ⟨rfl, h'⟩ := DNilD.out g8
        exact (hw_safe (Λ := (W_abacistref08_Root.Λ6 K (W_abacistref08_Root.l6 K k))) mixWabacistref08 _ _ [(0, .int .i64 x4), (5, .int .u64 x5), (6, .int .u64 x6), (7, .int .i64 x7)] [] H (Eq.mp (by kernel_rfl) h') (obs_seq (obs_seq obs_region rfl (obs_cond obs_skip obs_exit)) rfl (obs_seq (obs_block obs_region) rfl obs_region))).weaken (EnvLe.cons e0 (EnvLe.cons e5 (EnvLe.cons e6 (EnvLe.cons e7 (EnvLe.nil _))))) (Hp.le_refl _))))) rfl (obs_seq obs_region rfl obs_ret)))))))
end Go.Proofs.YtnknippcbecmeaaGreatDoor.W
end
section
/- The law PassBack. -/
namespace Go.Proofs.YtnknippcbecmeaaGreatDoor.Pas
open Go Go.Hw Go.Crc Go.Form W Shp Gol Fft Ker Str Dsk Are Trn
theorem rShare_ok (k : Nat) (hk : k ≤ 32) (H : Hp) : HCalls Tryz.prog 48 #[.int .i64 (k : Int)] H (RetE (.int .u64 ((Fft.pw half k).val : Int)) H) := by
  apply W_abacistref08_Share.ok
  unfold W_abacistref08_Share
  rw [u64n (by omega)]
  refine HCalls.use (rPow_ok (a := 9223372034707292161) (n := k) (by omega) H) ?_
  rw [pow_val]
  simp only [HV]
  exact RetE.mk _ _
theorem mulr_val (x : UInt64) (y : Nat) : x.toNat * y % 18446744069414584321 = (zw x * zp y).val := by
  rw [← mul_val]
  show _ = x.toNat % 18446744069414584321 * (y % 18446744069414584321) % 18446744069414584321
  rw [← Nat.mul_mod]
theorem sclL_snoc {l : List UInt64} (z : Zp) {i : Nat} (hil : i < l.length) : wordVals (sclL z (l.take (i + 1))) = wordVals (sclL z (l.take i)) ++ [.int .u64 ((zw l[i] * z).val : Int)] := by
  have e : sclL z (l.take (i + 1)) = sclL z (l.take i) ++ [uw (zw l[i] * z)] := by
    unfold sclL
    rw [List.take_add_one, List.getElem?_eq_getElem hil, List.map_append]; rfl
  rw [e, ← uw_int]
  unfold wordVals
  rw [List.map_append]; rfl
theorem dftL_get (d : Bool) (k : Nat) (l : List UInt64) {i : Nat} (h : i < 2 ^ k) : (dftL d k l)[i]? = some (uw (dft (rtd d k) (2 ^ k) (at' l) i)) := by
  unfold dftL; rw [List.getElem?_map, List.getElem?_range h]; rfl
theorem sclL_get (z : Zp) {l : List UInt64} {i : Nat} {w : UInt64} (h : l[i]? = some w) : (sclL z l)[i]? = some (uw (zw w * z)) := by
  unfold sclL; rw [List.getElem?_map, h]; rfl
theorem at_some {l : List UInt64} {i : Nat} {w : UInt64} (h : l[i]? = some w) : at' l i = zw w := by
  unfold at'; rw [List.getD_eq_getElem?_getD, h]; rfl
section
variable {R : As} {A : Option Addr} {n m : Nat} {l : List UInt64}
theorem rScale_loop (K : Value → Hp → Prop) (y : Nat) (hy : y < 2 ^ 64) {L : List As} (hR : ∀ H, R H → Cells H A (wordVals l)) (hl : l.length = n) (hn : n ≤ 4294967296)
    (hK : ∀ A' m' H, Sep (Own 60 1 A' n m' (wordVals (sclL (zp y) l)) :: R :: L) H → K (.slice A' n m') H) :
    ∀ (t i : Nat) (A' : Option Addr) (m' : Nat) (H : Hp), i + t = n → Sep (Own 60 1 A' i m' (wordVals (sclL (zp y) (l.take i))) :: R :: L) H →
      W_abacistref08_Scale.l3 K (t + 1) A n m (y : Int) A' i m' (i : Int) H
  | 0, i, A', m', H, hi, hs => by
    unfold W_abacistref08_Scale.l3
    obtain rfl : i = n := by omega
    refine BIf_dneg (by omega) (hK A' m' H ?_)
    rw [List.take_of_length_le (by omega)] at hs
    exact hs
  | t + 1, i, A', m', H, hi, hs => by
    have hc : Cells H A (wordVals l) := by
      obtain ⟨H1, h1, hle⟩ := hs.see 1 rfl
      exact (hR H1 h1).le hle
    unfold W_abacistref08_Scale.l3
    refine BIf_dpos (by omega) ?_
    have hil : i < l.length := by omega
    have hg : (wordVals l)[i]? = some (.int .u64 ((l[i]).toNat : Int)) := by
      rw [wordVals_get, List.getElem?_eq_getElem hil]; rfl
    refine hc.read hg rfl (by rw [wordVals_length]; omega) ?_
    simp only [HV]
    refine HCalls.use (rMul_ok (a := (l[i]).toNat) hy H) ?_
    rw [mulr_val]
    simp only [HV]
    refine hs.app1 0 rfl Ker.cell_u64 (by omega) rfl (by omega) (by omega) fun A2 m2 H hs => ?_
    simp only [HV]
    rw [i64w (x := (i : Int) + 1) (by omega) (by omega), show (i : Int) + 1 = ((i + 1 : Nat) : Int) by omega]
    refine rScale_loop K y hy hR hl hn hK t (i + 1) A2 m2 H (by omega) ?_
    rw [sclL_snoc _ hil]
    exact hs
theorem rScale_tr (y : Nat) (hy : y < 2 ^ 64) (hR : ∀ H, R H → Cells H A (wordVals l)) (hl : l.length = n) (hn : n ≤ 4294967296) :
    Tr Tryz.prog 61 #[.slice A n m, .int .u64 (y : Int)] [R] fun v M => ∃ A' m', v = .slice A' n m' ∧ M = [Own 60 1 A' n m' (wordVals (sclL (zp y) l)), R] := fun H hs => by
  apply W_abacistref08_Scale.ok
  unfold W_abacistref08_Scale
  have e0 : Sep [Own 60 1 none 0 0 (wordVals (sclL (zp y) (l.take 0))), R] H :=
    ⟨fun _ => none, H, fun _ _ h => (nomatch h), Hp.le_refl _, fun _ => .inl rfl, Own.none _ _ _, hs⟩
  refine ⟨n + 1, ?_⟩
  exact rScale_loop (L := []) _ y hy hR hl hn (fun A' m' H hs => ⟨_, ⟨A', m', rfl, rfl⟩, hs⟩) n 0 none 0 H (by omega) e0
end
theorem rowsU_map {j : J} {d : D} {x : X} {m : Nat} {l : List UInt64} (h : pws d x 0 (m * 2 ^ j.eb) = l) :
    rowsU j d x m = (List.range m).flatMap fun q => rowP j q ((l.drop (q * 2 ^ j.eb)).take (2 ^ j.eb)) := by
  unfold rowsU
  have : ∀ (r : List Nat), (∀ q, q ∈ r → q < m) → r.flatMap (fun q => rowP j q (pws d x (q * 2 ^ j.eb) (2 ^ j.eb))) = r.flatMap fun q => rowP j q ((l.drop (q * 2 ^ j.eb)).take (2 ^ j.eb)) := fun r => by
    induction r with
    | nil => intro _; rfl
    | cons q r ih =>
      intro hq
      have hqb := hq q (by simp)
      have h1 : (q + 1) * 2 ^ j.eb ≤ m * 2 ^ j.eb := Nat.mul_le_mul_right _ (by omega)
      rw [Nat.succ_mul] at h1
      rw [List.flatMap_cons, List.flatMap_cons, ih fun q' h' => hq q' (by simp [h']), ← h, pws_part h1, Nat.zero_add]
  exact this _ fun q hq => List.mem_range.1 hq
theorem flat_part {f : Nat → List UInt64} {c : Nat} (hf : ∀ q, (f q).length = c) : ∀ (m q : Nat), q < m → (((List.range m).flatMap f).drop (q * c)).take c = f q
  | 0, q, h => by omega
  | m + 1, q, h => by
    have hl : ∀ m, ((List.range m).flatMap f).length = m * c := fun m => by
      induction m with
      | zero => simp
      | succ m ih => rw [List.range_succ, List.flatMap_append, List.length_append, ih, Nat.succ_mul]; simp [hf]
    rw [List.range_succ, List.flatMap_append]
    have hs : List.flatMap f [m] = f m := by simp
    rw [hs]
    by_cases e : q = m
    · subst e
      rw [List.drop_append, List.drop_eq_nil_of_le (by rw [hl]; exact Nat.le_refl _), hl, Nat.sub_self, List.drop_zero, List.nil_append, List.take_of_length_le (by rw [hf]; exact Nat.le_refl _)]
    · have h1 : (q + 1) * c ≤ m * c := Nat.mul_le_mul_right _ (by omega)
      rw [Nat.succ_mul] at h1
      rw [List.drop_append_of_le_length (by rw [hl]; omega), List.take_append_of_le_length (by rw [List.length_drop, hl]; omega)]
      exact flat_part hf m q (by omega)
end Go.Proofs.YtnknippcbecmeaaGreatDoor.Pas
end
section
/- The reference's transform, and what law 23 wants. -/
namespace Go.Proofs.YtnknippcbecmeaaGreatDoor.Pas
open Go Go.Hw Go.Crc Go.Form W Shp Gol Fft Ker Str Dsk Are Trn
theorem rRoot3_loop {k : Nat} (hk : k ≤ 32) (H : Hp) : ∀ (t i : Nat), i + t = k → W_abacistref03_Root.l3 (RetE (.int .u64 ((rt k).val : Int)) H) (t + 1) (k : Int) ((18446744069414584320 / 2 ^ i : Nat) : Int) (i : Int) H
  | 0, i, hi => by
    obtain rfl : i = k := by omega
    unfold W_abacistref03_Root.l3
    refine BIf_dneg (by omega) ?_
    have hlt : 18446744069414584320 / 2 ^ i < 2 ^ 64 := Nat.lt_of_le_of_lt (Nat.div_le_self _ _) (by decide)
    refine HCalls.use (rPow_ok (a := 7) hlt H) ?_
    rw [pow_val]
    simp only [HV]
    exact RetE.mk _ _
  | t + 1, i, hi => by
    unfold W_abacistref03_Root.l3
    refine BIf_dpos (by omega) ⟨by decide, by simp, ?_⟩
    have hlt : 18446744069414584320 / 2 ^ i ≤ 18446744069414584320 := Nat.div_le_self _ _
    have e : IntKind.u64.wrap (Int.tdiv ((18446744069414584320 / 2 ^ i : Nat) : Int) 2) = ((18446744069414584320 / 2 ^ (i + 1) : Nat) : Int) := by
      rw [show Int.tdiv ((18446744069414584320 / 2 ^ i : Nat) : Int) 2 = ((18446744069414584320 / 2 ^ i / 2 : Nat) : Int) from rfl, u64n (by omega), Nat.div_div_eq_div_mul, Nat.pow_succ]
    rw [e, i64w (x := (i : Int) + 1) (by omega) (by omega), show (i : Int) + 1 = ((i + 1 : Nat) : Int) by omega]
    exact rRoot3_loop hk H t (i + 1) (by omega)
theorem rRoot3_ok {k : Nat} (hk : k ≤ 32) (H : Hp) : HCalls Tryz.prog 145 #[.int .i64 (k : Int)] H (RetE (.int .u64 ((rt k).val : Int)) H) := by
  apply W_abacistref03_Root.ok
  unfold W_abacistref03_Root
  exact ⟨k + 1, rRoot3_loop hk H k 0 (by omega)⟩
theorem rRoot8_loop {k : Nat} (hk : k ≤ 32) (H : Hp) : ∀ (t i : Nat), i + t = k → W_abacistref08_Root.l6 (RetE (.int .u64 ((rtd true k).val : Int)) H) (t + 1) (k : Int) ((rt k).val : Int) ((2 ^ i : Nat) : Int) (i : Int) H
  | 0, i, hi => by
    obtain rfl : i = k := by omega
    have h32 := pow_le hk
    have h1 := pow_pos i
    unfold W_abacistref08_Root.l6
    refine BIf_dneg (by omega) ?_
    rw [u64w (by omega) (by omega), show ((2 ^ i : Nat) : Int) - 1 = ((2 ^ i - 1 : Nat) : Int) by omega]
    refine HCalls.use (rPow_ok (a := (rt i).val) (n := 2 ^ i - 1) (by omega) H) ?_
    rw [pow_val, zp_of_val]
    simp only [HV]
    exact RetE.mk _ _
  | t + 1, i, hi => by
    have h32 := pow_le (show i ≤ 32 by omega)
    have h1 := pow_pos i
    unfold W_abacistref08_Root.l6
    refine BIf_dpos (by omega) ?_
    rw [u64w (by omega) (by omega), show (2 : Int) * ((2 ^ i : Nat) : Int) = ((2 ^ (i + 1) : Nat) : Int) by rw [Nat.pow_succ]; omega, i64w (x := (i : Int) + 1) (by omega) (by omega), show (i : Int) + 1 = ((i + 1 : Nat) : Int) by omega]
    exact rRoot8_loop hk H t (i + 1) (by omega)
theorem rRoot8_ok {k : Nat} (hk : k ≤ 32) (d : Bool) (H : Hp) : HCalls Tryz.prog 105 #[.int .i64 (k : Int), .int .i64 (if d = true then 1 else 0)] H (RetE (.int .u64 ((rtd d k).val : Int)) H) := by
  apply W_abacistref08_Root.ok
  unfold W_abacistref08_Root
  refine HCalls.use (rRoot3_ok hk H) ?_
  simp only [HV]
  cases d with
  | false => exact BIf_beqp rfl (RetE.mk _ _)
  | true =>
    refine BIf_beqn (by decide) ⟨k + 1, ?_⟩
    exact rRoot8_loop hk H k 0 (by omega)
section
variable {R : As} {A : Option Addr} {n m k : Nat} {l : List UInt64} {L : List As}
theorem rDft_in (K : Value → Hp → Prop) (R5 : Option Addr → Nat → Nat → Int → Option Addr → Nat → Nat → Int → Int → Hp → Prop) (w z : Zp) {xj : Int} {A' : Option Addr} {n' m' : Nat} {vs : List Value} (hR : ∀ H, R H → Cells H A (wordVals l)) (hl : l.length = n) (hn : n ≤ 1048576) (hn' : n' ≤ 1048576)
    (hK : ∀ A2 m2 H, Sep (Own 60 1 A2 (n' + 1) m2 (vs ++ [.int .u64 ((sm (fun i => at' l i * Fft.pw z i) n).val : Int)]) :: R :: L) H → R5 A n m (w.val : Int) A2 (n' + 1) m2 ((z * w).val : Int) (IntKind.i64.wrap (xj + 1)) H) :
    ∀ (t i : Nat) (H : Hp), i + t = n → Sep (Own 60 1 A' n' m' vs :: R :: L) H →
      W_abacistref08_Dft.l10 K R5 (t + 1) A n m (w.val : Int) A' n' m' (z.val : Int) xj ((sm (fun i => at' l i * Fft.pw z i) i).val : Int) ((Fft.pw z i).val : Int) (i : Int) H
  | 0, i, H, hi, hs => by
    obtain rfl : i = n := by omega
    unfold W_abacistref08_Dft.l10
    refine BIf_dneg (by omega) ?_
    refine hs.app1 0 rfl Ker.cell_u64 (by omega) rfl (by omega) (by omega) fun A2 m2 H hs => ?_
    simp only [HV]
    refine HCalls.use (rMul_ok (a := z.val) (val_lt w) H) ?_
    rw [mul_val]
    simp only [HV]
    exact hK A2 m2 H hs
  | t + 1, i, H, hi, hs => by
    have hc : Cells H A (wordVals l) := by
      obtain ⟨H1, h1, hle⟩ := hs.see 1 rfl
      exact (hR H1 h1).le hle
    unfold W_abacistref08_Dft.l10
    refine BIf_dpos (by omega) ?_
    have hil : i < l.length := by omega
    have hg : (wordVals l)[i]? = some (.int .u64 ((l[i]).toNat : Int)) := by
      rw [wordVals_get, List.getElem?_eq_getElem hil]; rfl
    refine hc.read hg rfl (by rw [wordVals_length]; omega) ?_
    simp only [HV]
    refine HCalls.use (rMul_ok (a := (l[i]).toNat) (val_lt _) H) ?_
    rw [mulw_val, ← at_get hil]
    simp only [HV]
    refine HCalls.use (rAdd_ok H) ?_
    rw [show ((sm (fun i => at' l i * Fft.pw z i) i).val + (at' l i * Fft.pw z i).val) % 18446744069414584321 = (sm (fun i => at' l i * Fft.pw z i) (i + 1)).val from (Fin.val_add _ _).symm]
    simp only [HV]
    refine HCalls.use (rMul_ok (a := (Fft.pw z i).val) (val_lt z) H) ?_
    rw [mul_val]
    simp only [HV]
    rw [i64w (x := (i : Int) + 1) (by omega) (by omega), show (i : Int) + 1 = ((i + 1 : Nat) : Int) by omega]
    exact rDft_in K R5 w z hR hl hn hn' hK t (i + 1) H (by omega) hs
def dftN (w : Zp) (n : Nat) (l : List UInt64) (i : Nat) : List UInt64 := (List.range i).map fun j => uw (dft w n (at' l) j)
theorem dftN_succ (w : Zp) (n : Nat) (l : List UInt64) (i : Nat) : wordVals (dftN w n l (i + 1)) = wordVals (dftN w n l i) ++ [.int .u64 ((sm (fun a => at' l a * Fft.pw (Fft.pw w i) a) n).val : Int)] := by
  unfold dftN wordVals
  rw [List.range_succ, List.map_append, List.map_append]
  congr 1
  show [Value.int .u64 ((uw (dft w n (at' l) i)).toNat : Int)] = _
  rw [uw_int]
  have : dft w n (at' l) i = sm (fun a => at' l a * Fft.pw (Fft.pw w i) a) n := sm_congr n fun a _ => by rw [← pw_mul, Nat.mul_comm a i]
  rw [this]
theorem rDft_loop (K : Value → Hp → Prop) (w : Zp) (hR : ∀ H, R H → Cells H A (wordVals l)) (hl : l.length = n) (hn : n ≤ 1048576)
    (hK : ∀ A2 m2 H, Sep (Own 60 1 A2 n m2 (wordVals (dftN w n l n)) :: R :: L) H → K (.slice A2 n m2) H) :
    ∀ (t j : Nat) (A' : Option Addr) (m' : Nat) (H : Hp), j + t = n → Sep (Own 60 1 A' j m' (wordVals (dftN w n l j)) :: R :: L) H →
      W_abacistref08_Dft.l5 K (t + 1) A n m (w.val : Int) A' j m' ((Fft.pw w j).val : Int) (j : Int) H
  | 0, j, A', m', H, hj, hs => by
    obtain rfl : j = n := by omega
    unfold W_abacistref08_Dft.l5
    exact BIf_dneg (by omega) (hK A' m' H hs)
  | t + 1, j, A', m', H, hj, hs => by
    unfold W_abacistref08_Dft.l5
    refine BIf_dpos (by omega) ⟨n + 1, ?_⟩
    refine rDft_in K _ w (Fft.pw w j) hR hl hn (by omega) (fun A2 m2 H hs => ?_) n 0 H (by omega) hs
    rw [i64w (x := (j : Int) + 1) (by omega) (by omega), show (j : Int) + 1 = ((j + 1 : Nat) : Int) by omega]
    refine rDft_loop K w hR hl hn hK t (j + 1) A2 m2 H (by omega) ?_
    rw [dftN_succ]; exact hs
theorem rDft_tr (hR : ∀ H, R H → Cells H A (wordVals l)) (hl : l.length = n) (hn : n = 2 ^ k) (hk : k ≤ 20) (d : Bool) :
    Tr Tryz.prog 60 #[.slice A n m, .int .i64 (k : Int), .int .i64 (if d = true then 1 else 0)] [R] fun v M => ∃ A2 m2, v = .slice A2 n m2 ∧ M = [Own 60 1 A2 n m2 (wordVals (dftL d k l)), R] := fun H hs => by
  have h20 := pow_le hk
  apply W_abacistref08_Dft.ok
  unfold W_abacistref08_Dft
  refine HCalls.use (rRoot8_ok (by omega) d H) ?_
  simp only [HV]
  have e0 : Sep [Own 60 1 none 0 0 (wordVals (dftN (rtd d k) n l 0)), R] H :=
    ⟨fun _ => none, H, fun _ _ h => (nomatch h), Hp.le_refl _, fun _ => .inl rfl, Own.none _ _ _, hs⟩
  refine ⟨n + 1, ?_⟩
  refine rDft_loop (L := []) _ (rtd d k) hR hl (by omega) (fun A2 m2 H hs => ⟨_, ⟨A2, m2, rfl, rfl⟩, ?_⟩) n 0 none 0 H (by omega) e0
  unfold dftL
  rw [← hn]; exact hs
end
def wantZ (j : J) (q : Nat) (l : List UInt64) (c : Nat) : Zp := dft (rtd j.d j.eb) (2 ^ j.eb) (at' l) c * zw j.sh * (if 0 ≤ j.tw then Fft.pw (rtd j.d j.tw.toNat) (q * c) else 1)
theorem rowP_want (j : J) (q : Nat) (l : List UInt64) : rowP j q l = (List.range (2 ^ j.eb)).map fun c => uw (wantZ j q l c) := by
  apply List.ext_getElem?
  intro c
  rw [List.getElem?_map]
  by_cases hc : c < 2 ^ j.eb
  · rw [List.getElem?_range hc]
    have h1 := dftL_get j.d j.eb l hc
    have h2 : (twL j q (dftL j.d j.eb l))[c]? = some (uw (dft (rtd j.d j.eb) (2 ^ j.eb) (at' l) c * (if 0 ≤ j.tw then Fft.pw (rtd j.d j.tw.toNat) (q * c) else 1))) := by
      unfold twL
      by_cases ht : 0 ≤ j.tw
      · rw [if_pos ht, if_pos ht]
        unfold tileL tileN
        rw [List.getElem?_map, dftL_len, List.getElem?_range hc]
        show some (uw (at' (dftL j.d j.eb l) c * Fft.pw (Fft.pw (rtd j.d j.tw.toNat) q) c)) = some _
        rw [at_some h1, zw_uw, ← pw_mul]
      · rw [if_neg ht, if_neg ht, h1]
        congr 2
        grind
    unfold rowP
    rw [sclL_get _ h2, zw_uw]
    show some _ = some _
    congr 2
    unfold wantZ
    grind
  · rw [List.getElem?_eq_none (by rw [rowP_len]; omega), List.getElem?_eq_none (by simp; omega)]; rfl
section
variable {R : As} {A : Option Addr} {n m b1 : Nat} {l : List UInt64} {j : J}
def wantL (j : J) (l : List UInt64) (m : Nat) : List UInt64 := (List.range m).flatMap fun q => rowP j q ((l.drop (q * 2 ^ j.eb)).take (2 ^ j.eb))
end
end Go.Proofs.YtnknippcbecmeaaGreatDoor.Pas
end
section
/- The plan's pure law: passes on rows of words; both roads are the transform. -/
namespace Go.Proofs.YtnknippcbecmeaaGreatDoor.Pln
open Go Go.Hw Shp Fft Ker Pas Str Dsk Trn
def trL (r c : Nat) (l : List UInt64) : List UInt64 := (List.range (r * c)).map fun k => l.getD (k % r * c + k / r) 0
theorem trL_len (r c : Nat) (l : List UInt64) : (trL r c l).length = r * c := by simp [trL]
theorem trL_get {r c : Nat} (l : List UInt64) {i j : Nat} (hi : i < r) (hj : j < c) : (trL r c l).getD (j * r + i) 0 = l.getD (i * c + j) 0 := by
  have h1 : j * r + i < r * c := by
    have : (j + 1) * r ≤ c * r := Nat.mul_le_mul_right _ hj
    rw [Nat.succ_mul] at this
    rw [Nat.mul_comm r c]; omega
  have h2 : (j * r + i) % r = i := by rw [Nat.add_comm, Nat.add_mul_mod_self_right, Nat.mod_eq_of_lt hi]
  have h3 : (j * r + i) / r = j := by rw [Nat.add_comm, Nat.add_mul_div_right _ _ (by omega), Nat.div_eq_of_lt hi, Nat.zero_add]
  unfold trL
  rw [List.getD_eq_getElem?_getD, List.getElem?_map, List.getElem?_range h1]
  show l.getD _ 0 = _
  rw [h2, h3]
theorem trL_at {r c : Nat} (l : List UInt64) {i j : Nat} (hi : i < r) (hj : j < c) : at' (trL r c l) (j * r + i) = at' l (i * c + j) := by
  unfold at'; rw [trL_get l hi hj]
theorem trW_trL (d : D) (x : X) (r c : Nat) : trW d x r c = trL r c (pws d x 0 (r * c)) := by
  unfold trW trL
  apply List.map_congr_left
  intro k hk
  have hk := List.mem_range.1 hk
  have hr : 0 < r := by rcases Nat.eq_zero_or_pos r with h | h; · rw [h, Nat.zero_mul] at hk; omega
                        · exact h
  have h1 : k % r < r := Nat.mod_lt _ hr
  have h2 : k / r < c := Nat.div_lt_of_lt_mul hk
  have h3 : k % r * c + k / r < r * c := by
    have : (k % r + 1) * c ≤ r * c := Nat.mul_le_mul_right _ h1
    rw [Nat.succ_mul] at this; omega
  unfold trK
  rw [List.getD_eq_getElem?_getD, pws_get h3, Nat.zero_add]; rfl
theorem wantL_rows (j : J) (d : D) (x : X) (m : Nat) : rowsU j d x m = wantL j (pws d x 0 (m * 2 ^ j.eb)) m := rowsU_map rfl
theorem wantL_get (j : J) (l : List UInt64) {m q c : Nat} (hq : q < m) (hc : c < 2 ^ j.eb) : (wantL j l m)[q * 2 ^ j.eb + c]? = some (uw (wantZ j q ((l.drop (q * 2 ^ j.eb)).take (2 ^ j.eb)) c)) := by
  have h := flat_part (f := fun q => rowP j q ((l.drop (q * 2 ^ j.eb)).take (2 ^ j.eb))) (c := 2 ^ j.eb) (fun q => rowP_len j q _) m q hq
  have e : (wantL j l m)[q * 2 ^ j.eb + c]? = (((wantL j l m).drop (q * 2 ^ j.eb)).take (2 ^ j.eb))[c]? := by
    rw [List.getElem?_take_of_lt hc, List.getElem?_drop]
  rw [e]
  show ((((List.range m).flatMap fun q => rowP j q ((l.drop (q * 2 ^ j.eb)).take (2 ^ j.eb))).drop (q * 2 ^ j.eb)).take (2 ^ j.eb))[c]? = _
  rw [h, rowP_want, List.getElem?_map, List.getElem?_range hc]; rfl
def wz (j : J) (q : Nat) (f : Nat → Zp) (c : Nat) : Zp := dft (rtd j.d j.eb) (2 ^ j.eb) (fun i => f (q * 2 ^ j.eb + i)) c * zw j.sh * (if 0 ≤ j.tw then Fft.pw (rtd j.d j.tw.toNat) (q * c) else 1)
theorem wantZ_wz (j : J) (l : List UInt64) (q c : Nat) : wantZ j q ((l.drop (q * 2 ^ j.eb)).take (2 ^ j.eb)) c = wz j q (at' l) c := by
  unfold wantZ wz
  congr 2
  refine dft_congr (fun i hi => ?_) c
  unfold at'
  rw [List.getD_eq_getElem?_getD, List.getElem?_take_of_lt hi, List.getElem?_drop, ← List.getD_eq_getElem?_getD]
theorem wantL_at (j : J) (l : List UInt64) {m q c : Nat} (hq : q < m) (hc : c < 2 ^ j.eb) : at' (wantL j l m) (q * 2 ^ j.eb + c) = wz j q (at' l) c := by
  rw [at_some (wantL_get j l hq hc), zw_uw, wantZ_wz]
theorem wantL_uw (j : J) (l : List UInt64) {m q c : Nat} (hq : q < m) (hc : c < 2 ^ j.eb) : (wantL j l m).getD (q * 2 ^ j.eb + c) 0 = uw (wz j q (at' l) c) := by
  rw [List.getD_eq_getElem?_getD, wantL_get j l hq hc, wantZ_wz]; rfl
structure Pz where
  t : Bool
  j : J
  f : Nat
  o : Nat
def Pz.c (p : Pz) : Array Value := p.j.a ++ #[.int .i64 (if p.t = true then 1 else 2), .int .i64 (p.f : Int), .int .i64 (p.o : Int)]
def Pz.ap (p : Pz) (l : List UInt64) : List UInt64 := if p.t = true then trL (2 ^ p.j.ea) (2 ^ p.j.eb) l else wantL p.j l (2 ^ p.j.ea)
def shrU (d : Bool) (k : Nat) : UInt64 := if d = true then uw (Fft.pw half k) else 1
def shortP (d : Bool) (k : Nat) : Pz := ⟨false, ⟨0, k, d, -1, shrU d k⟩, 0, 3⟩
def longP (d : Bool) (k : Nat) : List Pz :=
  [⟨true, ⟨k / 2, k - k / 2, false, -1, 1⟩, 0, 1⟩, ⟨false, ⟨k - k / 2, k / 2, d, (k : Int), 1⟩, 1, 2⟩, ⟨true, ⟨k - k / 2, k / 2, false, -1, 1⟩, 2, 1⟩,
    ⟨false, ⟨k / 2, k - k / 2, d, -1, shrU d k⟩, 1, 2⟩, ⟨true, ⟨k / 2, k - k / 2, false, -1, 1⟩, 2, 3⟩]
def shortB (k per words : Nat) : Bool := decide (k ≤ 20 ∧ 2 * 2 ^ k + per ≤ words)
def planL (d : Bool) (k per words : Nat) : List Pz := if shortB k per words = true then [shortP d k] else longP d k
def leastN (k per : Nat) : Nat := 2 * 2 ^ ((k + 1) / 2) + per
def apL (ps : List Pz) (l : List UInt64) : List UInt64 := ps.foldl (fun l p => p.ap l) l
theorem apL_app (a b : List Pz) (l : List UInt64) : apL (a ++ b) l = apL b (apL a l) := List.foldl_append
def tfL (d : Bool) (k : Nat) (l : List UInt64) : List UInt64 := sclL (zw (shrU d k)) (dftL d k l)
theorem tfL_len (d : Bool) (k : Nat) (l : List UInt64) : (tfL d k l).length = 2 ^ k := by unfold tfL; rw [sclL_len, dftL_len]
theorem short_is (d : Bool) (k : Nat) (l : List UInt64) (hl : l.length = 2 ^ k) : (shortP d k).ap l = tfL d k l := by
  show wantL ⟨0, k, d, -1, shrU d k⟩ l 1 = _
  unfold wantL
  rw [show List.range 1 = [0] from rfl, List.flatMap_cons, List.flatMap_nil, List.append_nil, Nat.zero_mul, List.drop_zero]
  show rowP _ 0 (l.take (2 ^ k)) = _
  rw [List.take_of_length_le (by omega)]
  rfl
theorem long_is (d : Bool) (k : Nat) (hk : k ≤ 32) (l : List UInt64) : apL (longP d k) l = tfL d k l := by
  obtain ⟨a, ha⟩ : ∃ a, k / 2 = a := ⟨_, rfl⟩
  obtain ⟨b, hb⟩ : ∃ b, k - a = b := ⟨_, rfl⟩
  have hab : a + b = k := by omega
  have hka : k - b = a := by omega
  have hkb : k - a = b := by omega
  have hRC : 2 ^ a * 2 ^ b = 2 ^ k := by rw [← Nat.pow_add, hab]
  have hpos : 0 < 2 ^ a := Nat.two_pow_pos a
  unfold longP apL
  simp only [List.foldl_cons, List.foldl_nil, ha, hb]
  show trL (2 ^ a) (2 ^ b) (wantL ⟨a, b, d, -1, shrU d k⟩ (trL (2 ^ b) (2 ^ a) (wantL ⟨b, a, d, (k : Int), 1⟩ (trL (2 ^ a) (2 ^ b) l) (2 ^ b))) (2 ^ a)) = _
  apply List.ext_getElem?
  intro i
  by_cases hi : i < 2 ^ k
  · have hj : i % 2 ^ a < 2 ^ a := Nat.mod_lt _ hpos
    have hm : i / 2 ^ a < 2 ^ b := Nat.div_lt_of_lt_mul (by rw [hRC]; exact hi)
    have hij : i / 2 ^ a * 2 ^ a + i % 2 ^ a = i := by rw [Nat.mul_comm]; exact Nat.div_add_mod i (2 ^ a)
    generalize hjj : i % 2 ^ a = j at hj hij
    generalize hmm : i / 2 ^ a = m at hm hij
    subst hij
    have e1 := trL_get (r := 2 ^ a) (c := 2 ^ b) (wantL ⟨a, b, d, -1, shrU d k⟩ (trL (2 ^ b) (2 ^ a) (wantL ⟨b, a, d, (k : Int), 1⟩ (trL (2 ^ a) (2 ^ b) l) (2 ^ b))) (2 ^ a)) hj hm
    have e2 := wantL_uw ⟨a, b, d, -1, shrU d k⟩ (trL (2 ^ b) (2 ^ a) (wantL ⟨b, a, d, (k : Int), 1⟩ (trL (2 ^ a) (2 ^ b) l) (2 ^ b))) (m := 2 ^ a) hj (c := m) hm
    have hlen : m * 2 ^ a + j < (trL (2 ^ a) (2 ^ b) (wantL ⟨a, b, d, -1, shrU d k⟩ (trL (2 ^ b) (2 ^ a) (wantL ⟨b, a, d, (k : Int), 1⟩ (trL (2 ^ a) (2 ^ b) l) (2 ^ b))) (2 ^ a))).length := by rw [trL_len, hRC]; exact hi
    rw [List.getElem?_eq_getElem hlen]
    rw [List.getD_eq_getElem?_getD, List.getElem?_eq_getElem hlen] at e1
    simp only [Option.getD_some] at e1
    rw [e1, e2]
    have e3 : tfL d k l = sclL (zw (shrU d k)) (dftL d k l) := rfl
    rw [e3, sclL_get _ (dftL_get d k l hi), zw_uw]
    congr 2
    have hw : Fft.pw (rtd d k) (2 ^ a * 2 ^ b) = 1 := by rw [hRC]; exact rtd_one d hk
    have hrows := dft_rows hw (at' l) m j
    rw [hRC] at hrows
    rw [hrows]
    have hwa : Fft.pw (rtd d k) (2 ^ a) = rtd d b := by have := rtd_sub d hk (show b ≤ k by omega); rwa [hka] at this
    have hwb : Fft.pw (rtd d k) (2 ^ b) = rtd d a := by have := rtd_sub d hk (show a ≤ k by omega); rwa [hkb] at this
    rw [hwa, hwb]
    unfold wz
    rw [if_neg (show ¬ ((0 : Int) ≤ -1) by omega)]
    have key : dft (rtd d b) (2 ^ b) (fun i => at' (trL (2 ^ b) (2 ^ a) (wantL ⟨b, a, d, (k : Int), 1⟩ (trL (2 ^ a) (2 ^ b) l) (2 ^ b))) (j * 2 ^ b + i)) m = dft (rtd d b) (2 ^ b) (fun c => dft (rtd d a) (2 ^ a) (fun r => at' l (r * 2 ^ b + c)) j * Fft.pw (rtd d k) (c * j)) m := by
      refine dft_congr (fun c hc => ?_) m
      rw [trL_at _ hc hj]
      have h2 := wantL_at ⟨b, a, d, (k : Int), 1⟩ (trL (2 ^ a) (2 ^ b) l) (m := 2 ^ b) hc (c := j) hj
      refine h2.trans ?_
      unfold wz
      rw [if_pos (Int.natCast_nonneg k)]
      have e1 : zw 1 = 1 := by decide
      have h3 : dft (rtd d a) (2 ^ a) (fun i => at' (trL (2 ^ a) (2 ^ b) l) (c * 2 ^ a + i)) j = dft (rtd d a) (2 ^ a) (fun r => at' l (r * 2 ^ b + c)) j :=
        dft_congr (fun r hr => trL_at l hr hc) j
      show dft (rtd d a) (2 ^ a) (fun i => at' (trL (2 ^ a) (2 ^ b) l) (c * 2 ^ a + i)) j * zw 1 * Fft.pw (rtd d ((k : Int).toNat)) (c * j) = _
      rw [h3, e1, Int.toNat_natCast]
      grind
    show dft (rtd d b) (2 ^ b) (fun i => at' (trL (2 ^ b) (2 ^ a) (wantL ⟨b, a, d, (k : Int), 1⟩ (trL (2 ^ a) (2 ^ b) l) (2 ^ b))) (j * 2 ^ b + i)) m * zw (shrU d k) * 1 = _
    rw [key]
    grind
  · rw [List.getElem?_eq_none (by rw [trL_len, hRC]; omega), List.getElem?_eq_none (by rw [tfL_len]; omega)]
theorem plan_is (d : Bool) (k per words : Nat) (hk : k ≤ 32) (l : List UInt64) (hl : l.length = 2 ^ k) : apL (planL d k per words) l = tfL d k l := by
  unfold planL
  split
  · exact short_is d k l hl
  · exact long_is d k hk l
end Go.Proofs.YtnknippcbecmeaaGreatDoor.Pln
end
section
/- Formulas of functions, printed by wip/tools/hwp.py. -/
namespace Go.Proofs.YtnknippcbecmeaaGreatDoor.W
open Go Go.Hw
theorem mixWplan : Tryz.prog.follows .mixedOrders = true := by kernel_rfl
def W_plan_Passes (x1 : Int) (x2 : Int) (x3 : Int) (x4 : Int) (H : Hp) (K : Value → Hp → Prop) : Prop :=
  HCalls Tryz.prog 99 #[.int .i64 x1, .int .i64 x3] H fun v1 H1 => DB v1 fun c1 => BIf (!c1) (K (.tuple #[.slice none 0 0, .int .i64 1]) H1) (BIf (decide (x2 < (0 : Int))) (K (.tuple #[.slice none 0 0, .int .i64 18]) H1) (BIf (decide (x2 > (1 : Int))) (K (.tuple #[.slice none 0 0, .int .i64 18]) H1) (HCalls Tryz.prog 100 #[.int .i64 x1, .int .i64 x3] H1 fun v2 H2 => DI .i64 v2 fun x5 => BIf (decide (x4 < x5)) (K (.tuple #[.slice none 0 0, .int .i64 6]) H2) (HCalls Tryz.prog 101 #[.int .i64 x1, .int .i64 x3, .int .i64 x4] H2 fun v3 H3 => DB v3 fun c2 => BIf c2 (BIf (decide (x1 ≤ (20 : Int))) ((0 ≤ (IntKind.u64.wrap x1) ∧ HCalls Tryz.prog 103 #[.int .i64 x1, .int .i64 x2] H3 fun v4 H4 => DI .u64 v4 fun x6 => HCalls Tryz.prog 102 #[.agg #[.int .i64 1, .int .i64 (shlI .i64 (1 : Int) (IntKind.u64.wrap x1))], .int .i64 0, .int .i64 3, .int .i64 x2, .int .i64 (-1), .int .u64 x6] H4 fun v5 H5 => DA v5 fun y1 => DCons y1.toList fun v6 l1 => DI .i64 v6 fun x7 => DCons l1 fun v7 l2 => DI .i64 v7 fun x8 => DCons l2 fun v8 l3 => DI .i64 v8 fun x9 => DCons l3 fun v9 l4 => DI .i64 v9 fun x10 => DCons l4 fun v10 l5 => DI .u64 v10 fun x11 => DCons l5 fun v11 l6 => DI .i64 v11 fun x12 => DCons l6 fun v12 l7 => DI .i64 v12 fun x13 => DCons l7 fun v13 l8 => DI .i64 v13 fun x14 => DNil l8 (Nw H5 (.row [.int .i64 x7, .int .i64 x8, .int .i64 x9, .int .i64 x10, .int .u64 x11, .int .i64 x12, .int .i64 x13, .int .i64 x14] 64 8) fun b1 H6 => K (.tuple #[.slice (some ⟨b1, 0, none⟩) 1 1, .int .i64 0]) H6))) (HCalls Tryz.prog 104 #[.int .i64 x1, .int .i64 x2] H3 fun v14 H7 => DSl v14 fun A1 n1 m1 => K (.tuple #[.slice A1 n1 m1, .int .i64 0]) H7)) (HCalls Tryz.prog 104 #[.int .i64 x1, .int .i64 x2] H3 fun v15 H8 => DSl v15 fun A2 n2 m2 => K (.tuple #[.slice A2 n2 m2, .int .i64 0]) H8)))))
theorem W_plan_Passes.ok (x1 : Int) (x2 : Int) (x3 : Int) (x4 : Int) (H : Hp) (K : Value → Hp → Prop) (h : W_plan_Passes x1 x2 x3 x4 H K) : HCalls Tryz.prog 58 #[.int .i64 x1, .int .i64 x2, .int .i64 x3, .int .i64 x4] H K :=
  hcalls Tryz.func58 rfl (Nat.le_of_ble_eq_true rfl) (hw_safe (Λ := Cuts.none (fun _ => none)) mixWplan _ _ _ _ _ (Eq.mp (by kernel_rfl) h) (obs_none _ _ _ _ _))
def W_plan_good (x1 : Int) (x2 : Int) (H : Hp) (K : Value → Hp → Prop) : Prop :=
  BIf (decide (x1 ≥ (0 : Int))) (BIf (decide (x1 ≤ (32 : Int))) (BIf (decide (x2 ≥ (4 : Int))) (BIf (decide (x2 ≤ (512 : Int))) (K (.bool ((bAnd .i64 x2 (IntKind.i64.wrap (x2 - (1 : Int)))) == (0 : Int))) H) (K (.bool false) H)) (K (.bool false) H)) (K (.bool false) H)) (K (.bool false) H)
theorem W_plan_good.ok (x1 : Int) (x2 : Int) (H : Hp) (K : Value → Hp → Prop) (h : W_plan_good x1 x2 H K) : HCalls Tryz.prog 99 #[.int .i64 x1, .int .i64 x2] H K :=
  hcalls Tryz.func99 rfl (Nat.le_of_ble_eq_true rfl) (hw_safe (Λ := Cuts.none (fun _ => none)) mixWplan _ _ _ _ _ (Eq.mp (by kernel_rfl) h) (obs_none _ _ _ _ _))
def W_plan_least (x1 : Int) (x2 : Int) (H : Hp) (K : Value → Hp → Prop) : Prop :=
  ((2 : Int) ≠ 0 ∧ IntKind.i64 = IntKind.i64 ∧ (0 ≤ (IntKind.u64.wrap (IntKind.i64.wrap (Int.tdiv (IntKind.i64.wrap (x1 + (1 : Int))) (2 : Int)))) ∧ K (.int .i64 (IntKind.i64.wrap ((shlI .i64 (2 : Int) (IntKind.u64.wrap (IntKind.i64.wrap (Int.tdiv (IntKind.i64.wrap (x1 + (1 : Int))) (2 : Int))))) + x2))) H))
theorem W_plan_least.ok (x1 : Int) (x2 : Int) (H : Hp) (K : Value → Hp → Prop) (h : W_plan_least x1 x2 H K) : HCalls Tryz.prog 100 #[.int .i64 x1, .int .i64 x2] H K :=
  hcalls Tryz.func100 rfl (Nat.le_of_ble_eq_true rfl) (hw_safe (Λ := Cuts.none (fun _ => none)) mixWplan _ _ _ _ _ (Eq.mp (by kernel_rfl) h) (obs_none _ _ _ _ _))
def W_plan_Short (x1 : Int) (x2 : Int) (x3 : Int) (H : Hp) (K : Value → Hp → Prop) : Prop :=
  HCalls Tryz.prog 99 #[.int .i64 x1, .int .i64 x2] H fun v1 H1 => DB v1 fun c1 => BIf c1 ((0 ≤ (IntKind.u64.wrap x1) ∧ K (.bool (decide ((IntKind.i64.wrap ((shlI .i64 (2 : Int) (IntKind.u64.wrap x1)) + x2)) ≤ x3))) H1)) (K (.bool false) H1)
theorem W_plan_Short.ok (x1 : Int) (x2 : Int) (x3 : Int) (H : Hp) (K : Value → Hp → Prop) (h : W_plan_Short x1 x2 x3 H K) : HCalls Tryz.prog 101 #[.int .i64 x1, .int .i64 x2, .int .i64 x3] H K :=
  hcalls Tryz.func101 rfl (Nat.le_of_ble_eq_true rfl) (hw_safe (Λ := Cuts.none (fun _ => none)) mixWplan _ _ _ _ _ (Eq.mp (by kernel_rfl) h) (obs_none _ _ _ _ _))
def W_plan_across (x1 : Int) (x2 : Int) (x3 : Int) (x4 : Int) (x5 : Int) (x6 : Int) (x7 : Int) (H : Hp) (K : Value → Hp → Prop) : Prop :=
  Nw H (.obj (.cells #[.int .i64 x1, .int .i64 x2] 59)) fun b1 H1 => Nw H1 (.obj (.cells #[.int .i64 0, .int .i64 0, .int .i64 0, .int .i64 0, .int .u64 0, .int .i64 0, .int .i64 0, .int .i64 0] 64)) fun b2 H2 => LdA H2 (⟨b1, 0, none⟩ : Addr) 2 fun l1 => DCons l1.toArray.toList fun v1 l2 => DI .i64 v1 fun x8 => DCons l2 fun v2 l3 => DI .i64 v2 fun x9 => DNil l3 (StA H2 (⟨b2, 0, none⟩ : Addr) #[.int .i64 x8, .int .i64 x9, .int .i64 x5, .int .i64 x6, .int .u64 x7, .int .i64 2, .int .i64 x3, .int .i64 x4] 8 fun H3 => LdA H3 (⟨b2, 0, none⟩ : Addr) 8 fun l4 => K (.agg l4.toArray) H3)
theorem W_plan_across.ok (x1 : Int) (x2 : Int) (x3 : Int) (x4 : Int) (x5 : Int) (x6 : Int) (x7 : Int) (H : Hp) (K : Value → Hp → Prop) (h : W_plan_across x1 x2 x3 x4 x5 x6 x7 H K) : HCalls Tryz.prog 102 #[.agg #[.int .i64 x1, .int .i64 x2], .int .i64 x3, .int .i64 x4, .int .i64 x5, .int .i64 x6, .int .u64 x7] H K :=
  hcalls Tryz.func102 rfl (Nat.le_of_ble_eq_true rfl) (hw_safe (Λ := Cuts.none (fun _ => none)) mixWplan _ _ _ _ _ (Eq.mp (by kernel_rfl) h) (obs_none _ _ _ _ _))
def W_plan_share (x1 : Int) (x2 : Int) (H : Hp) (K : Value → Hp → Prop) : Prop :=
  BIf (x2 == (0 : Int)) (K (.int .u64 1) H) (HCalls Tryz.prog 141 #[.int .i64 x1] H fun v1 H1 => DTup v1 fun l1 => DCons l1 fun v2 l2 => DI .u64 v2 fun x3 => DCons l2 fun v3 l3 => DI .i64 v3 fun x4 => DNil l3 (K (.int .u64 x3) H1))
theorem W_plan_share.ok (x1 : Int) (x2 : Int) (H : Hp) (K : Value → Hp → Prop) (h : W_plan_share x1 x2 H K) : HCalls Tryz.prog 103 #[.int .i64 x1, .int .i64 x2] H K :=
  hcalls Tryz.func103 rfl (Nat.le_of_ble_eq_true rfl) (hw_safe (Λ := Cuts.none (fun _ => none)) mixWplan _ _ _ _ _ (Eq.mp (by kernel_rfl) h) (obs_none _ _ _ _ _))
def W_plan_long (x1 : Int) (x2 : Int) (H : Hp) (K : Value → Hp → Prop) : Prop :=
  HCalls Tryz.prog 142 #[.int .i64 x1] H fun v1 H1 => DTup v1 fun l1 => DCons l1 fun v2 l2 => DA v2 fun y1 => DCons l2 fun v3 l3 => DI .i64 v3 fun x3 => DNil l3 (Nw H1 (.obj (.cells #[.int .i64 0, .int .i64 0] 59)) fun b1 H2 => StA H2 (⟨b1, 0, none⟩ : Addr) y1 2 fun H3 => LdA H3 (⟨b1, 0, none⟩ : Addr) 2 fun l4 => HCalls Tryz.prog 143 #[.agg l4.toArray] H3 fun v4 H4 => DA v4 fun y2 => Nw H4 (.obj (.cells #[.int .i64 0, .int .i64 0] 59)) fun b2 H5 => StA H5 (⟨b2, 0, none⟩ : Addr) y2 2 fun H6 => LdA H6 (⟨b1, 0, none⟩ : Addr) 2 fun l5 => QCall Tryz.prog 144 #[.agg l5.toArray, .int .i64 0, .int .i64 1] H6 fun v5 => DA v5 fun y3 => LdA H6 (⟨b2, 0, none⟩ : Addr) 2 fun l6 => QCall Tryz.prog 102 #[.agg l6.toArray, .int .i64 1, .int .i64 2, .int .i64 x2, .int .i64 x1, .int .u64 1] H6 fun v6 => DA v6 fun y4 => LdA H6 (⟨b2, 0, none⟩ : Addr) 2 fun l7 => QCall Tryz.prog 144 #[.agg l7.toArray, .int .i64 2, .int .i64 1] H6 fun v7 => DA v7 fun y5 => LdA H6 (⟨b1, 0, none⟩ : Addr) 2 fun l8 => QCall Tryz.prog 103 #[.int .i64 x1, .int .i64 x2] H6 fun v8 => DI .u64 v8 fun x4 => QCall Tryz.prog 102 #[.agg l8.toArray, .int .i64 1, .int .i64 2, .int .i64 x2, .int .i64 (-1), .int .u64 x4] H6 fun v9 => DA v9 fun y6 => LdA H6 (⟨b1, 0, none⟩ : Addr) 2 fun l9 => QCall Tryz.prog 144 #[.agg l9.toArray, .int .i64 2, .int .i64 3] H6 fun v10 => DA v10 fun y7 => DCons y3.toList fun v11 l10 => DI .i64 v11 fun x5 => DCons l10 fun v12 l11 => DI .i64 v12 fun x6 => DCons l11 fun v13 l12 => DI .i64 v13 fun x7 => DCons l12 fun v14 l13 => DI .i64 v14 fun x8 => DCons l13 fun v15 l14 => DI .u64 v15 fun x9 => DCons l14 fun v16 l15 => DI .i64 v16 fun x10 => DCons l15 fun v17 l16 => DI .i64 v17 fun x11 => DCons l16 fun v18 l17 => DI .i64 v18 fun x12 => DNil l17 (DCons y4.toList fun v19 l18 => DI .i64 v19 fun x13 => DCons l18 fun v20 l19 => DI .i64 v20 fun x14 => DCons l19 fun v21 l20 => DI .i64 v21 fun x15 => DCons l20 fun v22 l21 => DI .i64 v22 fun x16 => DCons l21 fun v23 l22 => DI .u64 v23 fun x17 => DCons l22 fun v24 l23 => DI .i64 v24 fun x18 => DCons l23 fun v25 l24 => DI .i64 v25 fun x19 => DCons l24 fun v26 l25 => DI .i64 v26 fun x20 => DNil l25 (DCons y5.toList fun v27 l26 => DI .i64 v27 fun x21 => DCons l26 fun v28 l27 => DI .i64 v28 fun x22 => DCons l27 fun v29 l28 => DI .i64 v29 fun x23 => DCons l28 fun v30 l29 => DI .i64 v30 fun x24 => DCons l29 fun v31 l30 => DI .u64 v31 fun x25 => DCons l30 fun v32 l31 => DI .i64 v32 fun x26 => DCons l31 fun v33 l32 => DI .i64 v33 fun x27 => DCons l32 fun v34 l33 => DI .i64 v34 fun x28 => DNil l33 (DCons y6.toList fun v35 l34 => DI .i64 v35 fun x29 => DCons l34 fun v36 l35 => DI .i64 v36 fun x30 => DCons l35 fun v37 l36 => DI .i64 v37 fun x31 => DCons l36 fun v38 l37 => DI .i64 v38 fun x32 => DCons l37 fun v39 l38 => DI .u64 v39 fun x33 => DCons l38 fun v40 l39 => DI .i64 v40 fun x34 => DCons l39 fun v41 l40 => DI .i64 v41 fun x35 => DCons l40 fun v42 l41 => DI .i64 v42 fun x36 => DNil l41 (DCons y7.toList fun v43 l42 => DI .i64 v43 fun x37 => DCons l42 fun v44 l43 => DI .i64 v44 fun x38 => DCons l43 fun v45 l44 => DI .i64 v45 fun x39 => DCons l44 fun v46 l45 => DI .i64 v46 fun x40 => DCons l45 fun v47 l46 => DI .u64 v47 fun x41 => DCons l46 fun v48 l47 => DI .i64 v48 fun x42 => DCons l47 fun v49 l48 => DI .i64 v49 fun x43 => DCons l48 fun v50 l49 => DI .i64 v50 fun x44 => DNil l49 (Nw H6 (.row [.int .i64 x5, .int .i64 x6, .int .i64 x7, .int .i64 x8, .int .u64 x9, .int .i64 x10, .int .i64 x11, .int .i64 x12, .int .i64 x13, .int .i64 x14, .int .i64 x15, .int .i64 x16, .int .u64 x17, .int .i64 x18, .int .i64 x19, .int .i64 x20, .int .i64 x21, .int .i64 x22, .int .i64 x23, .int .i64 x24, .int .u64 x25, .int .i64 x26, .int .i64 x27, .int .i64 x28, .int .i64 x29, .int .i64 x30, .int .i64 x31, .int .i64 x32, .int .u64 x33, .int .i64 x34, .int .i64 x35, .int .i64 x36, .int .i64 x37, .int .i64 x38, .int .i64 x39, .int .i64 x40, .int .u64 x41, .int .i64 x42, .int .i64 x43, .int .i64 x44] 64 40) fun b3 H7 => K (.slice (some ⟨b3, 0, none⟩) 5 5) H7))))))
theorem W_plan_long.ok (x1 : Int) (x2 : Int) (H : Hp) (K : Value → Hp → Prop) (h : W_plan_long x1 x2 H K) : HCalls Tryz.prog 104 #[.int .i64 x1, .int .i64 x2] H K :=
  hcalls Tryz.func104 rfl (Nat.le_of_ble_eq_true rfl) (hw_safe (Λ := Cuts.none (fun i => match Nat.beq i 3 with | true => some ([], [0, 1, 2, 3, 4, 5, 6, 7, 8, 9, 10, 11, 12, 13, 14, 15], 16) | false => none)) mixWplan _ _ _ _ _ (Eq.mp (by kernel_rfl) h) (obs_none _ _ _ _ _))
def W_plan_turn (x1 : Int) (x2 : Int) (x3 : Int) (x4 : Int) (H : Hp) (K : Value → Hp → Prop) : Prop :=
  Nw H (.obj (.cells #[.int .i64 x1, .int .i64 x2] 59)) fun b1 H1 => Nw H1 (.obj (.cells #[.int .i64 0, .int .i64 0, .int .i64 0, .int .i64 0, .int .u64 0, .int .i64 0, .int .i64 0, .int .i64 0] 64)) fun b2 H2 => LdA H2 (⟨b1, 0, none⟩ : Addr) 2 fun l1 => DCons l1.toArray.toList fun v1 l2 => DI .i64 v1 fun x5 => DCons l2 fun v2 l3 => DI .i64 v2 fun x6 => DNil l3 (StA H2 (⟨b2, 0, none⟩ : Addr) #[.int .i64 x5, .int .i64 x6, .int .i64 0, .int .i64 (-1), .int .u64 1, .int .i64 1, .int .i64 x3, .int .i64 x4] 8 fun H3 => LdA H3 (⟨b2, 0, none⟩ : Addr) 8 fun l4 => K (.agg l4.toArray) H3)
theorem W_plan_turn.ok (x1 : Int) (x2 : Int) (x3 : Int) (x4 : Int) (H : Hp) (K : Value → Hp → Prop) (h : W_plan_turn x1 x2 x3 x4 H K) : HCalls Tryz.prog 144 #[.agg #[.int .i64 x1, .int .i64 x2], .int .i64 x3, .int .i64 x4] H K :=
  hcalls Tryz.func144 rfl (Nat.le_of_ble_eq_true rfl) (hw_safe (Λ := Cuts.none (fun _ => none)) mixWplan _ _ _ _ _ (Eq.mp (by kernel_rfl) h) (obs_none _ _ _ _ _))
end Go.Proofs.YtnknippcbecmeaaGreatDoor.W
end
section
/- plan: contracts, of right numbers. -/
namespace Go.Proofs.YtnknippcbecmeaaGreatDoor.Pln
open Go Go.Hw W Shp Fft Ker Pas Str Dsk Trn
theorem shl_two : ∀ k : Nat, k < 61 → shlI .i64 2 (k : Int) = ((2 * 2 ^ k : Nat) : Int) := by decide +kernel
theorem two_small {k : Nat} (hk : k ≤ 32) : 2 ^ k ≤ 4294967296 := Nat.pow_le_pow_right (n := 2) (by omega) hk
theorem per_nat {per : Nat} (hp : perB (per : Int) = true) : 4 ≤ per ∧ per ≤ 512 := by have := perB_range hp; omega
section
variable {k per words : Nat} (hk : k ≤ 32) (hp : perB (per : Int) = true)
include hk
theorem least_ok (hp : per ≤ 512) (H : Hp) : HCalls Tryz.prog 100 #[.int .i64 (k : Int), .int .i64 (per : Int)] H (RetE (.int .i64 (leastN k per : Int)) H) := by
  have h1 := two_small (k := (k + 1) / 2) (by omega)
  apply W_plan_least.ok
  unfold W_plan_least
  rw [i64w (x := (k : Int) + 1) (by omega) (by omega), show Int.tdiv ((k : Int) + 1) 2 = (((k + 1) / 2 : Nat) : Int) from rfl, i64n (by omega), u64n (by omega), shl_two _ (by omega), i64w (by omega) (by omega)]
  refine ⟨by decide, by simp, by omega, ?_⟩
  exact RetE.of (by unfold leastN; rw [Int.natCast_add])
include hp
theorem good_ok (H : Hp) : HCalls Tryz.prog 99 #[.int .i64 (k : Int), .int .i64 (per : Int)] H (RetE (.bool true) H) := by
  have h := per_nat hp
  apply W_plan_good.ok
  unfold W_plan_good
  refine BIf_dpos (by omega) (BIf_dpos (by omega) (BIf_dpos (by omega) (BIf_dpos (by omega) ?_)))
  rw [(perB_of (p := (per : Int)) (by omega) (by omega)).2 hp]
  exact RetE.mk _ _
theorem Short_ok (hw : words ≤ 16777216) (H : Hp) : HCalls Tryz.prog 101 #[.int .i64 (k : Int), .int .i64 (per : Int), .int .i64 (words : Int)] H (RetE (.bool (decide (2 * 2 ^ k + per ≤ words))) H) := by
  have h := per_nat hp
  have h1 := two_small hk
  apply W_plan_Short.ok
  unfold W_plan_Short
  refine HCalls.use (good_ok hk hp H) ?_
  try simp only [HV]
  rw [u64n (by omega), shl_two _ (by omega), i64w (by omega) (by omega)]
  refine ⟨by omega, ?_⟩
  exact RetE.of (by congr 1; rw [decide_eq_decide]; omega)
end
theorem share_ok {k : Nat} (hk : k ≤ 32) (d : Bool) (H : Hp) : HCalls Tryz.prog 103 #[.int .i64 (k : Int), .int .i64 (if d = true then 1 else 0)] H (RetE (.int .u64 ((shrU d k).toNat : Int)) H) := by
  apply W_plan_share.ok
  unfold W_plan_share
  cases d with
  | false => exact BIf_beqp rfl (RetE.mk _ _)
  | true =>
    refine BIf_beqn (by decide) ?_
    refine HCalls.use (Share_ok hk H) ?_
    try simp only [HV]
    exact RetE.of (by unfold shrU; rw [if_pos rfl, uw_nat])
theorem turn_ok (a b f o : Int) (H : Hp) : HCalls Tryz.prog 144 #[.agg #[.int .i64 a, .int .i64 b], .int .i64 f, .int .i64 o] H (RetE (.agg #[.int .i64 a, .int .i64 b, .int .i64 0, .int .i64 (-1), .int .u64 1, .int .i64 1, .int .i64 f, .int .i64 o]) H) := HCalls.ret (by
  apply W_plan_turn.ok
  unfold W_plan_turn
  refine (Sep.start H).nw fun b1 H1 hs => ?_
  refine hs.nw fun b2 H1 hs => ?_
  refine hs.ldw 1 rfl rfl ?_
  simp only [HV]
  refine hs.stw 2 rfl rfl rfl rfl fun H1 hs => ?_
  refine hs.ldw 2 rfl rfl ?_
  exact hs.fin 0 rfl _)
theorem across_ok (a b f o di tw sh : Int) (H : Hp) : HCalls Tryz.prog 102 #[.agg #[.int .i64 a, .int .i64 b], .int .i64 f, .int .i64 o, .int .i64 di, .int .i64 tw, .int .u64 sh] H (RetE (.agg #[.int .i64 a, .int .i64 b, .int .i64 di, .int .i64 tw, .int .u64 sh, .int .i64 2, .int .i64 f, .int .i64 o]) H) := HCalls.ret (by
  apply W_plan_across.ok
  unfold W_plan_across
  refine (Sep.start H).nw fun b1 H1 hs => ?_
  refine hs.nw fun b2 H1 hs => ?_
  refine hs.ldw 1 rfl rfl ?_
  simp only [HV]
  refine hs.stw 2 rfl rfl rfl rfl fun H1 hs => ?_
  refine hs.ldw 2 rfl rfl ?_
  exact hs.fin 0 rfl _)
theorem Turned_ok (a b : Int) (H : Hp) : HCalls Tryz.prog 143 #[.agg #[.int .i64 a, .int .i64 b]] H (RetE (.agg #[.int .i64 b, .int .i64 a]) H) := HCalls.ret (by
  apply W_shape_Turned.ok
  unfold W_shape_Turned
  refine (Sep.start H).nw fun b1 H1 hs => ?_
  refine hs.nw fun b2 H1 hs => ?_
  refine hs.ldf 1 rfl rfl ?_
  simp only [HV]
  refine hs.ldf 1 rfl rfl ?_
  simp only [HV]
  refine hs.stw 2 rfl rfl rfl rfl fun H1 hs => ?_
  refine hs.ldw 2 rfl rfl ?_
  exact hs.fin 0 rfl _)
theorem split_ok {k a : Nat} (hk : k ≤ 32) (ha : a ≤ k) (H : Hp) : HCalls Tryz.prog 173 #[.int .i64 (k : Int), .int .i64 (a : Int)] H (RetE (.agg #[.int .i64 ((2 ^ a : Nat) : Int), .int .i64 ((2 ^ (k - a) : Nat) : Int)]) H) := HCalls.ret (by
  apply W_shape_split.ok
  unfold W_shape_split
  refine (Sep.start H).nw fun b1 H1 hs => ?_
  rw [i64w (x := (k : Int) - a) (by omega) (by omega), show (k : Int) - a = ((k - a : Nat) : Int) by omega, u64n (by omega), u64n (by omega), Lay.shl_one (by omega), Lay.shl_one (by omega)]
  refine ⟨by omega, by omega, ?_⟩
  refine hs.stw 1 rfl rfl rfl rfl fun H1 hs => ?_
  refine hs.ldw 1 rfl rfl ?_
  exact hs.fin 0 rfl _)
theorem sgood_ok {k : Nat} (hk : k ≤ 32) (H : Hp) : HCalls Tryz.prog 172 #[.int .i64 (k : Int)] H (RetE (.bool true) H) := by
  apply W_shape_good.ok
  unfold W_shape_good
  refine BIf_dpos (by omega) ?_
  rw [decide_eq_true (by omega)]
  exact RetE.mk _ _
theorem Even_ok {k : Nat} (hk : k ≤ 32) (H : Hp) : HCalls Tryz.prog 142 #[.int .i64 (k : Int)] H (RetE (.tuple #[.agg #[.int .i64 ((2 ^ (k / 2) : Nat) : Int), .int .i64 ((2 ^ (k - k / 2) : Nat) : Int)], .int .i64 0]) H) := HCalls.ret (by
  apply W_shape_Even.ok
  unfold W_shape_Even
  refine (Sep.start H).nw fun b1 H1 hs => ?_
  refine HCalls.use (sgood_ok hk H1) ?_
  try simp only [HV]
  rw [show Int.tdiv (k : Int) 2 = ((k / 2 : Nat) : Int) from rfl, i64n (by omega)]
  refine ⟨by decide, by simp, ?_⟩
  refine HCalls.use (split_ok hk (a := k / 2) (by omega) H1) ?_
  try simp only [HV]
  refine hs.stw 1 rfl rfl rfl rfl fun H1 hs => ?_
  refine hs.ldw 1 rfl rfl ?_
  exact hs.fin 0 rfl _)
def passV (ps : List Pz) : List Value := ps.flatMap fun p => p.c.toList
theorem passV_len : ∀ ps : List Pz, (passV ps).length = ps.length * 8
  | [] => rfl
  | p :: ps => by
    show (p.c.toList ++ passV ps).length = _
    rw [List.length_append, passV_len ps, List.length_cons, Nat.succ_mul]
    have : p.c.toList.length = 8 := rfl
    omega
theorem passV_get : ∀ (ps : List Pz) (i : Nat) (p : Pz), ps[i]? = some p → ((passV ps).drop (i * 8)).take 8 = p.c.toList
  | [], i, p, h => by simp at h
  | q :: ps, 0, p, h => by
    cases h
    show ((q.c.toList ++ passV ps).drop (0 * 8)).take 8 = _
    rw [Nat.zero_mul, List.drop_zero, List.take_append_of_le_length (by show 8 ≤ 8; omega)]; rfl
  | q :: ps, i + 1, p, h => by
    show ((q.c.toList ++ passV ps).drop ((i + 1) * 8)).take 8 = _
    have e : (i + 1) * 8 = q.c.toList.length + i * 8 := by have : q.c.toList.length = 8 := rfl; omega
    rw [e, List.drop_append, List.drop_eq_nil_of_le (by omega), List.nil_append, Nat.add_sub_cancel_left]
    exact passV_get ps i p (by simpa using h)
theorem long_tr {k : Nat} (hk : k ≤ 32) (d : Bool) : Tr Tryz.prog 104 #[.int .i64 (k : Int), .int .i64 (if d = true then 1 else 0)] [] fun v M => ∃ b, v = .slice (some ⟨b, 0, none⟩) 5 5 ∧ M = [pts b (.row (passV (longP d k)) 64 40)] := fun H hs => by
  apply W_plan_long.ok
  unfold W_plan_long
  refine HCalls.use (Even_ok hk H) ?_
  try simp only [HV]
  refine hs.nw fun b1 H hs => ?_
  refine hs.stw 0 rfl rfl rfl rfl fun H hs => ?_
  refine hs.ldw 0 rfl rfl ?_
  refine HCalls.use (Turned_ok _ _ H) ?_
  try simp only [HV]
  refine hs.nw fun b2 H hs => ?_
  refine hs.stw 1 rfl rfl rfl rfl fun H hs => ?_
  refine hs.ldw 0 rfl rfl ?_
  refine QCall.use (turn_ok _ _ 0 1 H) ?_
  try simp only [HV]
  refine hs.ldw 1 rfl rfl ?_
  refine QCall.use (across_ok _ _ 1 2 (if d = true then 1 else 0) (k : Int) 1 H) ?_
  try simp only [HV]
  refine hs.ldw 1 rfl rfl ?_
  refine QCall.use (turn_ok _ _ 2 1 H) ?_
  try simp only [HV]
  refine hs.ldw 0 rfl rfl ?_
  refine QCall.use (share_ok hk d H) ?_
  try simp only [HV]
  refine QCall.use (across_ok _ _ 1 2 (if d = true then 1 else 0) (-1) ((shrU d k).toNat : Int) H) ?_
  try simp only [HV]
  refine hs.ldw 0 rfl rfl ?_
  refine QCall.use (turn_ok _ _ 2 3 H) ?_
  try simp only [HV]
  refine hs.nw fun b3 H hs => ?_
  exact ⟨_, ⟨b3, rfl, rfl⟩, hs.re [2] rfl⟩
def passesQ (d : Bool) (k per words : Nat) (v : Value) (M : List As) : Prop := ∃ b, v = .tuple #[.slice (some ⟨b, 0, none⟩) (planL d k per words).length (planL d k per words).length, .int .i64 0] ∧ M = [pts b (.row (passV (planL d k per words)) 64 ((planL d k per words).length * 8))]
theorem Passes_tr {k per words : Nat} (hk : k ≤ 32) (hp : perB (per : Int) = true) (hw : leastN k per ≤ words ∧ words ≤ 16777216) (d : Bool) :
    Tr Tryz.prog 58 #[.int .i64 (k : Int), .int .i64 (if d = true then 1 else 0), .int .i64 (per : Int), .int .i64 (words : Int)] [] (passesQ d k per words) := fun H hs => by
  have h := per_nat hp
  have h1 := two_small hk
  apply W_plan_Passes.ok
  unfold W_plan_Passes
  refine HCalls.use (good_ok hk hp H) ?_
  try simp only [HV]
  refine BIf_dneg (by cases d <;> decide) (BIf_dneg (by cases d <;> decide) ?_)
  refine HCalls.use (least_ok hk h.2 H) ?_
  try simp only [HV]
  refine BIf_dneg (by omega) ?_
  refine HCalls.use (Short_ok hk hp hw.2 H) ?_
  try simp only [HV]
  have long : shortB k per words = false → HCalls Tryz.prog 104 #[.int .i64 (k : Int), .int .i64 (if d = true then 1 else 0)] H fun v14 H7 => DSl v14 fun A1 n1 m1 => ∃ M, passesQ d k per words (.tuple #[.slice A1 n1 m1, .int .i64 0]) M ∧ Sep M H7 := fun hb => by
    refine (long_tr hk d).use hs [] rfl rfl ?_
    rintro _ _ H1 ⟨b, rfl, rfl⟩ hs
    simp only [HV]
    have e : planL d k per words = longP d k := by unfold planL; rw [if_neg (by rw [hb]; simp)]
    exact ⟨_, ⟨b, by rw [e]; rfl, rfl⟩, by rw [e]; exact hs⟩
  by_cases hs1 : 2 * 2 ^ k + per ≤ words
  · refine BIf_dpos hs1 ?_
    by_cases hk2 : k ≤ 20
    · refine BIf_dpos (by omega) ?_
      rw [u64n (by omega), Lay.shl_one (by omega)]
      refine ⟨by omega, ?_⟩
      refine HCalls.use (share_ok hk d H) ?_
      try simp only [HV]
      refine HCalls.use (across_ok _ _ 0 3 (if d = true then 1 else 0) (-1) ((shrU d k).toNat : Int) H) ?_
      try simp only [HV]
      refine hs.nw fun b1 H hs => ?_
      have e : planL d k per words = [shortP d k] := by unfold planL; rw [if_pos (show shortB k per words = true from decide_eq_true ⟨hk2, hs1⟩)]
      exact ⟨_, ⟨b1, by rw [e]; rfl, rfl⟩, by rw [e]; exact hs⟩
    · refine BIf_dneg (by omega) (long (decide_eq_false (by omega)))
  · exact BIf_dneg hs1 (long (decide_eq_false (by omega)))
end Go.Proofs.YtnknippcbecmeaaGreatDoor.Pln
end
section
/- The library's sort and keys of a map, laid at this program (printed by lay.py). -/
namespace Go.Proofs.YtnknippcbecmeaaGreatDoor.Lib
open Go Go.Proofs Go.Shelf Go.RowKit Go.Maps Go.Sort
end Go.Proofs.YtnknippcbecmeaaGreatDoor.Lib
end
section
/- The frame of the proofs: the library's sorted keys of a map whose keys are ints. -/
namespace Go.Hw
open Go Go.Proofs Go.Proofs.YtnknippcbecmeaaGreatDoor.Lib Go.RowKit Go.Maps Go.Sort Go.Shelf
open Go.WideElems (Fit rd rg)
end Go.Hw
end
section
/- disk: Dirty, Boot, Crash, Fuse. -/
namespace Go.Proofs.YtnknippcbecmeaaGreatDoor.Dsk
open Go Go.Hw Go.Form W
def Dom (d : D) : Prop := ∀ k, (d.cache k).isSome = true → 0 ≤ k ∧ k < d.sec
def boolVals (l : List Bool) : List Value := l.map Value.bool
end Go.Proofs.YtnknippcbecmeaaGreatDoor.Dsk
end
section
/- disk: what stays; the law DiskMakes. -/
namespace Go.Proofs.YtnknippcbecmeaaGreatDoor.Dsk
open Go Go.Hw Go.Form W
theorem Ok.writeD {d : D} (h : Ok d) (i : Int) (bs : List UInt8) : Ok (d.writeD i bs) := by
  unfold D.writeD
  split
  · exact h
  · split
    · exact h
    · rename_i hl
      have hb := Ok.burnt h
      split
      · exact hb
      · unfold D.wrote
        refine ⟨hb.sec, hb.size, hb.big, hb.per, hb.safe, fun k b hk => ?_, hb.fz⟩
        have hk' : (if k = i then some bs else d.cache k) = some b := hk
        have hsz : d.burnt.size = d.size := (burnt_rd d).2.2.2.1
        split at hk'
        · cases hk'; show bs.length = d.burnt.size; rw [hsz]; omega
        · show b.length = d.burnt.size; rw [hsz]; exact h.cache k b hk'
theorem Dom.writeD {d : D} (h : Dom d) (i : Int) (bs : List UInt8) : Dom (d.writeD i bs) := by
  have hbr := burnt_rd d
  unfold D.writeD
  split
  · exact h
  · rename_i hc
    split
    · exact h
    · split
      · intro k hk
        rw [hbr.2.2.2.2.2.2.1] at hk
        rw [hbr.2.2.2.2.1]
        exact h k hk
      · intro k hk
        have hk' : (if k = i then some bs else d.cache k).isSome = true := hk
        show 0 ≤ k ∧ k < (d.burnt.sec : Int)
        rw [hbr.2.2.2.2.1]
        split at hk'
        · rename_i e; subst e
          have := chk_in (d := d) (i := k) (by simpa using hc)
          omega
        · exact h k hk'
end Go.Proofs.YtnknippcbecmeaaGreatDoor.Dsk
end
section
/- disk: Sync; and what the laws of the layer do with a disk. -/
namespace Go.Proofs.YtnknippcbecmeaaGreatDoor.Dsk
open Go Go.Hw Go.Form W
def mergeB (s c : Int → Option (List UInt8)) : Int → Option (List UInt8) := fun i => match c i with | some b => some b | none => s i
theorem born_inj {l : List (Int × Value × Nat)} (h : (l.map (·.2.2)).Nodup) {x y : Int × Value × Nat} (hx : x ∈ l) (hy : y ∈ l) (e : x.2.2 = y.2.2) : x = y := by
  induction l with
  | nil => simp at hx
  | cons z l ih =>
    simp only [List.map_cons, List.nodup_cons] at h
    rcases List.mem_cons.1 hx with ex | hx'
    · rcases List.mem_cons.1 hy with ey | hy'
      · rw [ex, ey]
      · exact absurd (by rw [← ex, e]; exact List.mem_map_of_mem hy') h.1
    · rcases List.mem_cons.1 hy with ey | hy'
      · exact absurd (by rw [← ey, ← e]; exact List.mem_map_of_mem hx') h.1
      · exact ih h.2 hx' hy'
theorem mcopy_loop (K : Value → Hp → Prop) {r1 r2 it cl : Nat} {c s : Int → Option (List UInt8)} {l : List (Int × Value × Nat)} (hok : OkK l cl (strM c))
    (hK : ∀ H, Sep [Mp r1 (strM (mergeB s c)), pts r2 (kmap l cl)] H → K (.tuple #[]) H) :
    ∀ (t : Nat) (sj : Int → Option (List UInt8)) (seen : Array Nat) (last : Nat) (H : Hp), (unseenK l seen).length ≤ t → (∀ x ∈ l, x.2.2 < last) → (∀ i, (∀ x ∈ unseenK l seen, x.1 ≠ i) → sj i = mergeB s c i) →
      Sep [Mp r1 (strM sj), pts r2 (kmap l cl), pts it (iterO r2 cl seen last)] H → W_maps_Copy_map_int_string_map_int_string_int_string.l1 K (t + 1) (some r1) (.pointer (some ⟨it, 0, none⟩)) H := fun t => by
  induction t with
  | zero =>
    intro sj seen last H ht hlast hsj hs
    unfold W_maps_Copy_map_int_string_map_int_string_int_string.l1
    have h0 : unseenK l seen = [] := List.length_eq_zero_iff.1 (by omega)
    refine next_K (hs.get 2 rfl) (hs.get 1 rfl) hok.bl hlast (fun x hx => by rw [h0] at hx; simp at hx) (fun _ => ?_)
    simp only [Ex, List.getElem?_toArray, List.getElem?_cons_zero, DB_bool, BIf_false]
    refine hK H ?_
    have : sj = mergeB s c := funext fun i => hsj i (fun x hx => by rw [h0] at hx; simp at hx)
    rw [← this]
    exact hs.re [0, 1] rfl
  | succ t ih =>
    intro sj seen last H ht hlast hsj hs
    unfold W_maps_Copy_map_int_string_map_int_string_int_string.l1
    refine next_K (hs.get 2 rfl) (hs.get 1 rfl) hok.bl hlast (fun x hx => ?_) (fun h0 => ?_)
    · simp only [Ex, List.getElem?_toArray, List.getElem?_cons_zero, DB_bool, BIf_true]
      have hxl : x ∈ l := (List.mem_filter.1 hx).1
      have hs := hs.put 2 (iterO r2 cl (seen.push x.2.2) cl) rfl
      refine entry_K (hs.get 2 rfl) (hs.get 1 rfl) hxl (by simp) hok.bn ?_
      simp only [Ex, List.getElem?_toArray, List.getElem?_cons_zero, List.getElem?_cons_succ]
      have hg : strM c x.1 = some x.2.1 := by rw [← hok.get, getK_mem hok.nd hxl]
      obtain ⟨b, hcb, hxb⟩ : ∃ b, c x.1 = some b ∧ x.2.1 = strV b := by
        unfold strM at hg
        cases hc : c x.1 with
        | none => rw [hc] at hg; cases hg
        | some b => rw [hc] at hg; exact ⟨b, rfl, (Option.some.inj hg).symm⟩
      rw [hxb]
      show DI .i64 (.int .i64 x.1) fun x1 => DS (.string ⟨b.toArray⟩) _
      simp only [HV]
      refine hs.upd u_int u_strm 0 rfl fun H hs => ?_
      rw [show (Value.string ⟨b.toArray⟩) = strV b from rfl, updB_M] at hs
      have hlt := unseenK_lt hx
      refine ih (updB sj x.1 b) (seen.push x.2.2) cl H (by omega) hok.bl (fun i hi => ?_) hs
      by_cases e : i = x.1
      · subst e
        unfold mergeB updB
        rw [hcb]; simp
      · unfold updB
        rw [if_neg e]
        refine hsj i fun y hy ey => ?_
        obtain ⟨hyl, hys⟩ := List.mem_filter.1 hy
        have hne : y.2.2 ≠ x.2.2 := fun e2 => e (by rw [← ey, born_inj hok.bn hyl hxl e2])
        refine hi y (List.mem_filter.2 ⟨hyl, ?_⟩) ey
        rw [Array.contains_push]
        simp only [Bool.not_eq_true', Bool.or_eq_false_iff] at hys ⊢
        exact ⟨hys, by simpa using hne⟩
    · simp only [Ex, List.getElem?_toArray, List.getElem?_cons_zero, DB_bool, BIf_false]
      refine hK H ?_
      have : sj = mergeB s c := funext fun i => hsj i (fun x hx => by rw [h0] at hx; simp at hx)
      rw [← this]
      exact hs.re [0, 1] rfl
theorem mcopy_tr (r1 r2 : Nat) (s c : Int → Option (List UInt8)) : Tr Tryz.prog 88 #[.map (some r1), .map (some r2)] [Mp r1 (strM s), Mp r2 (strM c)] fun v M =>
    v = .tuple #[] ∧ M = [Mp r1 (strM (mergeB s c)), Mp r2 (strM c)] := fun H hs => by
  have hs0 := hs
  obtain ⟨H1, ⟨l, clock, hr1, hok⟩, hle⟩ := hs.see 1 rfl
  apply W_maps_Copy_map_int_string_map_int_string_int_string.ok
  unfold W_maps_Copy_map_int_string_map_int_string_int_string
  refine range_K u_strm (hle _ _ hr1) fun it hit => ?_
  have hs1 : Sep [Mp r1 (strM s), pts r2 (kmap l clock)] H := hs.turn' 1 rfl fun H2 hle2 hA => by
    obtain ⟨l2, clock2, h2, _⟩ := hA
    have e1 := hle2 _ _ h2
    have e2 := hle _ _ hr1
    rw [e1] at e2
    show H2 r2 = some (kmap l clock)
    rw [h2, e2]
  have hs2 := hs1.new hit (iterO r2 clock #[] clock)
  refine ⟨l.length + 1, ?_⟩
  refine mcopy_loop _ (s := s) hok (fun H hs => ⟨_, ⟨rfl, rfl⟩, hs.turn 1 rfl fun H2 hA => ⟨l, clock, hA, hok⟩⟩) l.length s #[] clock _ ?_ hok.bl (fun i hi => ?_) hs2
  · unfold unseenK; exact List.length_filter_le _ _
  · unfold mergeB
    have hn : c i = none := by
      have : getK l i = none := getK_none.2 fun x hx => hi x (by unfold unseenK; simp [hx])
      rw [hok.get] at this
      unfold strM at this
      cases hc : c i with
      | none => rfl
      | some b => rw [hc] at this; cases this
    rw [hn]
def D.synced (d : D) : D := { d.burnt with sy := d.sy + 1, safe := mergeB d.safe d.cache, cache := fun _ => none }
def D.syncE (d : D) : Int := if d.down then 8 else if d.burns then 8 else 0
def D.syncD (d : D) : D := if d.down then d else if d.burns then d.burnt else d.synced
theorem Sync_tr {p : Nat} {d : D} (hok : Ok d) (ho : d.sy ≤ 4611686018427387904) : Tr Tryz.prog 47 #[.pointer (some ⟨p, 0, none⟩)] [Dk p d] fun v M => v = .int .i64 d.syncE ∧ M = [Dk p d.syncD] := fun H hs => by
  have hf := hok.fz
  obtain ⟨r1, r2, r3, hp⟩ := Dk.see hs 0 rfl
  apply W_disk_Disk_Sync.ok
  unfold W_disk_Disk_Sync
  simp only [NN_some, Addr.add_lit', Addr.add_zero, Nat.zero_add, Nat.add_zero]
  refine Ld_obj hp (v := .bool d.down) rfl ?_
  simp only [HV]
  cases hdn : d.down with
  | true => exact BIf_pos rfl ⟨_, ⟨by simp [D.syncE, hdn], by simp [D.syncD, hdn]⟩, hs⟩
  | false =>
    refine BIf_neg rfl ?_
    refine (burns_tr hf).use hs [0] rfl rfl ?_
    rintro _ _ H ⟨rfl, rfl⟩ hs
    simp only [HV]
    cases hb : d.burns with
    | true => exact BIf_pos rfl ⟨_, ⟨by simp [D.syncE, hdn, hb], by simp [D.syncD, hdn, hb]; rfl⟩, hs⟩
    | false =>
      refine BIf_neg rfl ?_
      have hbr := burnt_rd d
      obtain ⟨r1, r2, r3, hs⟩ := Dk.open hs
      try simp only [NN_some, Addr.add_lit', Addr.add_zero, Nat.zero_add, Nat.add_zero]
      refine hs.ld 0 rfl rfl ?_
      simp only [HV]
      refine hs.st 0 rfl (by show 5 < 10; omega) rfl fun H hs => ?_
      rw [hbr.2.2.1] at hs
      rw [i64w (x := (d.sy : Int) + 1) (by omega) (by omega)] at hs
      refine hs.ld 0 rfl rfl ?_
      simp only [HV]
      refine hs.ld 0 rfl rfl ?_
      simp only [HV]
      rw [hbr.2.2.2.2.2.1, hbr.2.2.2.2.2.2.1] at hs
      refine (mcopy_tr r1 r3 d.safe d.cache).use hs [1, 3] rfl rfl ?_
      rintro _ _ H ⟨rfl, rfl⟩ hs
      try simp only [HV]
      refine hs.ld 2 rfl rfl ?_
      simp only [HV]
      refine hs.clearK u_int u_strm 1 rfl fun H hs => ?_
      refine ⟨_, ⟨by simp [D.syncE, hdn, hb], by simp [D.syncD, hdn, hb]; rfl⟩, ?_⟩
      exact Dk.shut (d := d.synced) (r1 := r1) (r2 := r2) (r3 := r3) (hs.re [2, 0, 3, 1] rfl)
end Go.Proofs.YtnknippcbecmeaaGreatDoor.Dsk
end
section
/- disk: what the law DiskSafe does with a disk. -/
namespace Go.Proofs.YtnknippcbecmeaaGreatDoor.Dsk
open Go Go.Hw Go.Form W
theorem CellsS.rdA {s : Nat} {H : Hp} {A : Option Addr} {rows : List (List Value)} (h : CellsS s H A rows) {i : Nat} {r : List Value} (hi : rows[i]? = some r) (hr : r.length = s) {x : Int} (hx : x = i) {n : Nat} (hn : rows.length ≤ n) {K : List Value → Prop} (k : K r) :
    ixI x n (NN A fun a => LdA H (a.add (x.toNat * s)) s K) := by
  obtain ⟨a, rfl, hc⟩ := h i r hi
  subst hx
  have := (List.getElem?_eq_some_iff.1 hi).1
  refine ⟨by omega, by omega, ?_⟩
  rw [Int.toNat_natCast]
  have hcells : Cells H (some (a.add (i * s))) r := fun j v hj => ⟨_, rfl, by rw [add_add]; exact hc j v hj⟩
  have := hcells.cells?
  rw [hr] at this
  show LdA H (a.add (i * s)) s K
  unfold LdA
  rw [this]
  exact k
structure Act where
  k : Int
  i : Int
  A : Option Addr
  n : Nat
  m : Nat
  b : List UInt8
  A' : Option Addr
  n' : Nat
  m' : Nat
  ks : List Bool
def laidB (bs : List UInt8) : List UInt8 := bs.take 32 ++ List.replicate (32 - bs.length) 0
theorem laidB_len (bs : List UInt8) : (laidB bs).length = 32 := by
  unfold laidB
  rw [List.length_append, List.length_take, List.length_replicate]; omega
end Go.Proofs.YtnknippcbecmeaaGreatDoor.Dsk
end
section
/- disk: an act of the law DiskSafe. -/
namespace Go.Proofs.YtnknippcbecmeaaGreatDoor.Dsk
open Go Go.Hw Go.Form W
structure Calm (d : D) : Prop where
  down : d.down = false
  fuse : d.fuse = 0
structure Next (d d' : D) : Prop where
  ok : Ok d'
  dom : Dom d'
  sec : d'.sec = d.sec
  size : d'.size = d.size
  rd : d'.rd ≤ d.rd + 1
  wr : d'.wr ≤ d.wr + 1
  sy : d'.sy ≤ d.sy + 1
section
variable {d : D} (h : Ok d) (hd : Dom d)
include h hd
theorem Next.refl : Next d d := ⟨h, hd, rfl, rfl, by omega, by omega, by omega⟩
theorem Next.burnt : Next d d.burnt := by
  have hb := burnt_rd d
  refine ⟨Ok.burnt h, fun k hk => ?_, hb.2.2.2.2.1, hb.2.2.2.1, by rw [hb.1]; omega, by rw [hb.2.1]; omega, by rw [hb.2.2.1]; omega⟩
  rw [hb.2.2.2.2.2.2.1] at hk
  rw [hb.2.2.2.2.1]; exact hd k hk
theorem Next.read : Next d { d.burnt with rd := d.rd + 1 } := by
  have hb := Next.burnt h hd
  exact ⟨⟨hb.ok.sec, hb.ok.size, hb.ok.big, hb.ok.per, hb.ok.safe, hb.ok.cache, hb.ok.fz⟩, hb.dom, hb.sec, hb.size, Nat.le_refl _, hb.wr, hb.sy⟩
theorem Next.write (i : Int) (bs : List UInt8) : Next d (d.writeD i bs) := by
  have hb := burnt_rd d
  have h1 := Ok.writeD h i bs
  have h2 := Dom.writeD hd i bs
  have hn := Next.burnt h hd
  unfold D.writeD at h1 h2 ⊢
  split
  · exact Next.refl h hd
  · rename_i c1
    rw [if_neg c1] at h1 h2
    split
    · exact Next.refl h hd
    · rename_i c2
      rw [if_neg c2] at h1 h2
      split
      · exact hn
      · rename_i c3
        rw [if_neg c3] at h1 h2
        exact ⟨h1, h2, hn.sec, hn.size, hn.rd, Nat.le_refl _, hn.sy⟩
theorem Next.sync : Next d d.syncD := by
  have hn := Next.burnt h hd
  have hb := burnt_rd d
  unfold D.syncD
  split
  · exact Next.refl h hd
  · split
    · exact hn
    · refine ⟨⟨hn.ok.sec, hn.ok.size, hn.ok.big, hn.ok.per, fun k b hk => ?_, fun k b hk => (by cases hk), hn.ok.fz⟩, fun k hk => (by cases hk), hn.sec, hn.size, hn.rd, hn.wr, Nat.le_refl _⟩
      have hk' : mergeB d.safe d.cache k = some b := hk
      show b.length = d.burnt.size
      rw [hb.2.2.2.1]
      unfold mergeB at hk'
      split at hk'
      · rename_i b' hc; cases hk'; exact h.cache k b hc
      · exact h.safe k b hk'
end
def Eff (d d' : D) (a : Act) (e : Int) : Prop := Calm d → a.k ≤ 2 → Calm d' ∧ d'.safe = d.safe ∧
  ((0 ≤ a.k ∧ a.k ≤ 1 ∧ e = 0) → (0 ≤ a.i ∧ a.i < d.sec) ∧ d'.cache = updB d.cache a.i (laidB a.b)) ∧ (¬ (0 ≤ a.k ∧ a.k ≤ 1 ∧ e = 0) → d'.cache = d.cache)
theorem Calm.burns {d : D} (h : Calm d) : d.burns = false := by unfold D.burns; rw [h.fuse]; rfl
theorem Calm.burnt {d : D} (h : Calm d) : d.burnt = d := by unfold D.burnt; rw [if_pos h.fuse]
theorem Eff.same {d : D} {a : Act} {e : Int} (h : ¬ (0 ≤ a.k ∧ a.k ≤ 1 ∧ e = 0)) : Eff d d a e := fun hc _ => ⟨hc, rfl, fun h' => absurd h' h, fun _ => rfl⟩
theorem Eff.write {d : D} {a : Act} (hz : d.size = 32) (hk : 0 ≤ a.k ∧ a.k ≤ 1) : Eff d (d.writeD a.i (laidB a.b)) a (d.writeE a.i 32) := fun hc _ => by
  have hl := laidB_len a.b
  by_cases h0 : d.chk a.i = 0
  · have e1 : d.writeE a.i 32 = 0 := by
      unfold D.writeE
      rw [if_neg (by rw [h0]; simp), if_neg (by omega), hc.burns]; rfl
    have e2 : d.writeD a.i (laidB a.b) = d.wrote a.i (laidB a.b) := by
      unfold D.writeD
      rw [if_neg (by rw [h0]; simp), if_neg (by omega), hc.burns]; rfl
    rw [e1, e2]
    have hb := hc.burnt
    have hr := chk_in h0
    unfold D.wrote
    rw [hb]
    exact ⟨⟨hc.down, hc.fuse⟩, rfl, fun _ => ⟨⟨hr.1, hr.2.1⟩, rfl⟩, fun h => absurd ⟨hk.1, hk.2, rfl⟩ h⟩
  · have e1 : d.writeE a.i 32 = d.chk a.i := by unfold D.writeE; rw [if_pos h0]
    have e2 : d.writeD a.i (laidB a.b) = d := by unfold D.writeD; rw [if_pos h0]
    rw [e1, e2]
    exact ⟨hc, rfl, fun h => absurd h.2.2 h0, fun _ => rfl⟩
theorem Eff.read {d : D} {a : Act} {e : Int} (hk : a.k = 2) : Eff d { d.burnt with rd := d.rd + 1 } a e := fun hc _ => by
  rw [hc.burnt]
  exact ⟨⟨hc.down, hc.fuse⟩, rfl, fun h => by omega, fun _ => rfl⟩
end Go.Proofs.YtnknippcbecmeaaGreatDoor.Dsk
end
section
/- A disk's contents: what calls leave, and what a power leaves that went. -/
namespace Go.Proofs.YtnknippcbecmeaaGreatDoor.Eng
open Go Go.Hw Go.Form Dsk Str
abbrev Cn := Int → List UInt8
structure Clean (d : D) (c : Cn) : Prop where
  ok : Ok d
  down : d.down = false
  cache : ∀ i, d.cache i = none
  sat : ∀ i, d.sat i = c i
theorem Clean.now {d : D} {c : Cn} (h : Clean d c) (i : Int) : d.now i = c i := by
  unfold D.now; rw [h.cache]; exact h.sat i
theorem Clean.dom {d : D} {c : Cn} (h : Clean d c) : Dom d := fun k hk => by rw [h.cache] at hk; cases hk
structure Went (d d' : D) (r w s : Nat) : Prop where
  fuse : d'.fuse = d.fuse - (r + w + s)
  go : d.fuse = 0 ∨ r + w + s < d.fuse
  sec : d'.sec = d.sec
  size : d'.size = d.size
  rd : d'.rd = d.rd + r
  wr : d'.wr = d.wr + w
  sy : d'.sy = d.sy + s
structure Cut (d d' : D) (n : Nat) : Prop where
  ok : Ok d'
  dom : Dom d'
  down : d'.down = true
  fuse : d'.fuse = 0
  sec : d'.sec = d.sec
  size : d'.size = d.size
  cnt : d'.rd + d'.wr + d'.sy + 1 = d.rd + d.wr + d.sy + d.fuse
  rd : d.rd ≤ d'.rd
  wr : d.wr ≤ d'.wr
  sy : d.sy ≤ d'.sy
  le : d.fuse ≤ n
  pos : 1 ≤ d.fuse
def Left (d : D) (P : Cn → Prop) : Prop := ∀ c' : Cn, (∀ i, c' i = d.sat i ∨ c' i = d.now i) → P c'
theorem Left.mono {d : D} {P Q : Cn → Prop} (h : Left d P) (k : ∀ c, P c → Q c) : Left d Q := fun c' hc => k _ (h c' hc)
theorem Went.refl (d : D) : Went d d 0 0 0 := ⟨by omega, by omega, rfl, rfl, rfl, rfl, rfl⟩
theorem Went.trans {d d1 d2 : D} {r w s r' w' s' : Nat} (h : Went d d1 r w s) (k : Went d1 d2 r' w' s') : Went d d2 (r + r') (w + w') (s + s') := by
  have h1 := h.fuse; have h2 := k.fuse; have h3 := h.go; have h4 := k.go; have h5 := h.rd; have h6 := k.rd; have h7 := h.wr; have h8 := k.wr; have h9 := h.sy; have h10 := k.sy
  exact ⟨by omega, by omega, k.sec.trans h.sec, k.size.trans h.size, by omega, by omega, by omega⟩
theorem Went.cut {d d1 d2 : D} {r w s n : Nat} (h : Went d d1 r w s) (k : Cut d1 d2 n) : Cut d d2 (r + w + s + n) := by
  have h1 := h.fuse; have h3 := h.go; have h4 := k.pos; have h5 := h.rd; have h6 := k.rd; have h7 := h.wr; have h8 := k.wr; have h9 := h.sy; have h10 := k.sy; have h11 := k.cnt; have h12 := k.le
  exact ⟨k.ok, k.dom, k.down, k.fuse, k.sec.trans h.sec, k.size.trans h.size, by omega, by omega, by omega, by omega, by omega, by omega⟩
theorem Cut.more {d d' : D} {n m : Nat} (h : Cut d d' n) (k : n ≤ m) : Cut d d' m := { h with le := Nat.le_trans h.le k }
theorem Went.per {d d' : D} {r w s : Nat} (h : Went d d' r w s) : D.per d' = D.per d := by unfold D.per; rw [h.size]
theorem Went.calm {d d' : D} {r w s : Nat} (h : Went d d' r w s) (hf : d.fuse = 0) : d'.fuse = 0 := by rw [h.fuse]; omega
theorem Cut.calm {d d' : D} {n : Nat} (h : Cut d d' n) (hf : d.fuse = 0) : False := by have := h.pos; omega
def Sam (S : Int → Prop) (c c' : Cn) : Prop := ∀ i, ¬ S i → c' i = c i
theorem Clean.rdG {d : D} {c : Cn} (h : Clean d c) (t : Nat) : Clean (D.rdG d t) c := ⟨Ok.rdG h.ok t, h.down, h.cache, h.sat⟩
theorem Went.rdG {d : D} {t : Nat} (hf : d.fuse = 0 ∨ t < d.fuse) : Went d (D.rdG d t) t 0 0 := ⟨by show d.fuse - t = _; omega, by omega, rfl, rfl, rfl, rfl, rfl⟩
theorem Cut.rdG {d : D} {c : Cn} (h : Clean d c) {j n : Nat} (hf : d.fuse = j + 1) (hn : j < n) : Cut d (D.dead (D.rdG d j)) n := by
  refine ⟨Ok.dead (Ok.rdG h.ok j), h.dom, rfl, rfl, rfl, rfl, ?_, ?_, Nat.le_refl _, Nat.le_refl _, by omega, by omega⟩
  · show d.rd + j + d.wr + d.sy + 1 = _; omega
  · show d.rd ≤ d.rd + j; omega
theorem Left.rdG {d : D} {c : Cn} (h : Clean d c) (j : Nat) : Left (D.dead (D.rdG d j)) fun c' => c' = c := fun c' hc => funext fun i => by
  rcases hc i with e | e
  · exact e.trans (h.sat i)
  · exact e.trans (h.now i)
section
variable {S : Int → Prop} {d d1 : D} {c : Cn} {r w : Nat}
theorem Clean.prog (h : Clean d c) (p : Prog S d d1 r w) (i : Int) : d1.sat i = c i ∧ (¬ S i → d1.now i = c i) := by
  have e1 : d1.sat i = c i := by rw [← h.sat]; unfold D.sat; rw [p.safe, p.size]
  refine ⟨e1, fun hi => ?_⟩
  unfold D.now
  rw [p.cache i hi, h.cache]; exact e1
theorem Clean.dead (h : Clean d c) (p : Dead S d d1) (i : Int) : d1.sat i = c i ∧ (¬ S i → d1.now i = c i) := by
  have e1 : d1.sat i = c i := by rw [← h.sat]; unfold D.sat; rw [p.safe, p.size]
  refine ⟨e1, fun hi => ?_⟩
  unfold D.now
  rw [p.cache i hi, h.cache]; exact e1
theorem Clean.progDom (h : Clean d c) (p : Prog S d d1 r w) (hS : ∀ i, S i → 0 ≤ i ∧ i < d.sec) : Dom d1 := fun k hk => by
  by_cases hs : S k
  · have := hS k hs; rw [p.sec]; exact this
  · rw [p.cache k hs, h.cache] at hk; cases hk
theorem Clean.deadCut (h : Clean d c) (p : Dead S d d1) (hS : ∀ i, S i → 0 ≤ i ∧ i < d.sec) {n : Nat} (hn : d.fuse ≤ n) (hf : 1 ≤ d.fuse) : Cut d d1 n := by
  have h1 := p.cnt; have h2 := p.sy
  refine ⟨p.ok, fun k hk => ?_, p.down, p.fuse, p.sec, p.size, by omega, p.rd, p.wr, by omega, hn, hf⟩
  by_cases hs : S k
  · have := hS k hs; rw [p.sec]; exact this
  · rw [p.cache k hs, h.cache] at hk; cases hk
theorem Clean.deadLeft (h : Clean d c) (p : Dead S d d1) : Left d1 fun c' => Sam S c c' := fun c' hc i hi => by
  obtain ⟨h1, h2⟩ := h.dead p i
  rcases hc i with e | e
  · exact e.trans h1
  · exact e.trans (h2 hi)
theorem Clean.sync (h : Clean d c) (p : Prog S d d1 r w) (hS : ∀ i, S i → 0 ≤ i ∧ i < d.sec) :
    (d1.syncE = 0 ∧ Went d d1.syncD r w 1 ∧ Clean d1.syncD d1.now) ∨ (d1.syncE = 8 ∧ Cut d d1.syncD (r + w + 1) ∧ Left d1.syncD fun c' => (∀ i, c' i = c i ∨ c' i = d1.now i) ∧ Sam S c c') := by
  have hdom := h.progDom p hS
  have hn := Next.sync p.ok hdom
  have hb := burnt_rd d1
  have p1 := p.fuse; have p2 := p.go; have p3 := p.rd; have p4 := p.wr; have p5 := p.sy
  have hdn : ¬ d1.down = true := by rw [p.down]; simp
  by_cases hf : d1.fuse = 1
  · right
    have eE : d1.syncE = 8 := by unfold D.syncE D.burns; rw [if_neg hdn, if_pos (by simp [hf])]
    have eD : d1.syncD = D.dead d1 := by
      unfold D.syncD D.burns
      rw [if_neg hdn, if_pos (by simp [hf]), burnt_one hf]
    rw [eE, eD]
    refine ⟨rfl, ⟨Ok.dead p.ok, hdom, rfl, rfl, p.sec, p.size, ?_, ?_, ?_, ?_, by omega, by omega⟩, fun c' hc => ⟨fun i => ?_, fun i hi => ?_⟩⟩
    · show d1.rd + d1.wr + d1.sy + 1 = _; omega
    · show d.rd ≤ d1.rd; omega
    · show d.wr ≤ d1.wr; omega
    · show d.sy ≤ d1.sy; omega
    · rcases hc i with e | e
      · exact .inl (e.trans (h.prog p i).1)
      · exact .inr e
    · rcases hc i with e | e
      · exact e.trans (h.prog p i).1
      · exact e.trans ((h.prog p i).2 hi)
  · left
    have hbn : d1.burns = false := by unfold D.burns; exact decide_eq_false hf
    have hbt := burnt_live p.down hf
    have eE : d1.syncE = 0 := by unfold D.syncE; rw [hbn, p.down]; rfl
    have eD : d1.syncD = d1.synced := by unfold D.syncD; rw [hbn, p.down]; rfl
    rw [eD] at hn ⊢
    refine ⟨eE, ⟨?_, by omega, (hn.sec).trans p.sec, (hn.size).trans p.size, ?_, ?_, ?_⟩, ⟨hn.ok, ?_, fun i => rfl, fun i => ?_⟩⟩
    · show d1.burnt.fuse = _; rw [hbt]; show d1.fuse - 1 = _; omega
    · show d1.burnt.rd = _; rw [hb.1]; omega
    · show d1.burnt.wr = _; rw [hb.2.1]; omega
    · show d1.sy + 1 = _; omega
    · show d1.burnt.down = false; rw [hbt]; exact p.down
    · show (mergeB d1.safe d1.cache i).getD (List.replicate d1.burnt.size 0) = _
      rw [hb.2.2.2.1]
      unfold D.now D.sat mergeB
      cases d1.cache i <;> rfl
end
theorem Clean.fresh {sec size : Nat} (h1 : 1 ≤ sec ∧ sec ≤ 1048576) (h2 : 0 < Lay.perN size) (h3 : sec * size ≤ 67108864) : Clean (D.fresh sec size) fun _ => List.replicate size 0 :=
  ⟨Ok.fresh h1 h2 h3, rfl, fun _ => rfl, fun _ => rfl⟩
end Go.Proofs.YtnknippcbecmeaaGreatDoor.Eng
end
section
/- Formulas of functions, printed by wip/tools/hwp.py. -/
namespace Go.Proofs.YtnknippcbecmeaaGreatDoor.W
open Go Go.Hw
end Go.Proofs.YtnknippcbecmeaaGreatDoor.W
end
section
/- Formulas of functions, printed by wip/tools/hwp.py. -/
namespace Go.Proofs.YtnknippcbecmeaaGreatDoor.W
open Go Go.Hw
end Go.Proofs.YtnknippcbecmeaaGreatDoor.W
end
section
/- record: right records; which may stand behind which. -/
namespace Go.Proofs.YtnknippcbecmeaaGreatDoor.Rec
open Go Go.Hw W
structure R where
  s : Nat
  kd : Int
  kk : Int
  dir : Int
  ps : Int
  ld : Nat
  inp : Nat
  out : Nat
def R.c (r : R) : Array Value := #[.int .u64 (r.s : Int), .int .i64 r.kd, .int .i64 r.kk, .int .i64 r.dir, .int .i64 r.ps, .int .u32 (r.ld : Int), .int .u32 (r.inp : Int), .int .u32 (r.out : Int)]
abbrev R.good (r : R) : Prop := 1 ≤ r.s ∧ r.s < 281474976710656 ∧ 0 ≤ r.kk ∧ r.kk ≤ 32 ∧ (r.dir = 0 ∨ r.dir = 1) ∧
  ((r.kd = 1 ∧ r.inp = 0 ∧ r.ps = 0 ∧ r.dir = 0 ∧ r.out = 0) ∨ (r.kd = 2 ∧ r.ps = 0 ∧ r.dir = 0 ∧ r.out = 0) ∨ (r.kd = 3 ∧ r.ps = 0) ∨ (r.kd = 4 ∧ 1 ≤ r.ps ∧ r.ps ≤ 7))
section
variable {r : R} {H0 H : Hp} {b1 : Nat}
end
end Go.Proofs.YtnknippcbecmeaaGreatDoor.Rec
end
section
/- Formulas of functions, printed by wip/tools/hwp.py. -/
namespace Go.Proofs.YtnknippcbecmeaaGreatDoor.W
open Go Go.Hw
end Go.Proofs.YtnknippcbecmeaaGreatDoor.W
end
section
/- Formulas of functions, printed by wip/tools/hwp.py. -/
namespace Go.Proofs.YtnknippcbecmeaaGreatDoor.W
open Go Go.Hw
end Go.Proofs.YtnknippcbecmeaaGreatDoor.W
end
section
/- Formulas of functions, printed by wip/tools/hwp.py. -/
namespace Go.Proofs.YtnknippcbecmeaaGreatDoor.W
open Go Go.Hw
end Go.Proofs.YtnknippcbecmeaaGreatDoor.W
end
section
/- Contracts of the library's functions, laid at this program (printed by lay2.py). -/
namespace Go.Proofs.YtnknippcbecmeaaGreatDoor.Lib2
open Go Go.Proofs Go.Shelf Go.RowKit
end Go.Proofs.YtnknippcbecmeaaGreatDoor.Lib2
end
section
/- The frame of the proofs: a number's decimal digits, as the library puts them. -/
namespace Go.Hw
open Go Go.Proofs Go.Proofs.YtnknippcbecmeaaGreatDoor.Lib2 Go.RowKit Go.Shelf
end Go.Hw
end
section
/- slices.SortFunc of at most 12 records by their numbers. -/
namespace Go.Proofs.YtnknippcbecmeaaGreatDoor.Srt
open Go Go.Hw W Rec
def dR : R := ⟨0, 0, 0, 0, 0, 0, 0, 0⟩
def bub (l : List R) : Nat → List R
  | 0 => l
  | j + 1 => if (l.getD (j + 1) dR).s < (l.getD j dR).s then bub ((l.set (j + 1) (l.getD j dR)).set j (l.getD (j + 1) dR)) j else l
theorem bub_len (j : Nat) : ∀ l, (bub l j).length = l.length := by
  induction j with
  | zero => intro l; rfl
  | succ j ih =>
    intro l
    unfold bub
    split
    · rw [ih]; simp
    · rfl
def isort (l : List R) : Nat → List R
  | 0 => l
  | i + 1 => isort l i |> fun q => bub q (i + 1)
end Go.Proofs.YtnknippcbecmeaaGreatDoor.Srt
end
section
/- slices.SortFunc of at most 12 records by their numbers: the walk. -/
namespace Go.Proofs.YtnknippcbecmeaaGreatDoor.Srt
open Go Go.Hw W Rec
end Go.Proofs.YtnknippcbecmeaaGreatDoor.Srt
end
section
/- slices.SortFunc of at most 12 records by their numbers: the contract; what it leaves. -/
namespace Go.Proofs.YtnknippcbecmeaaGreatDoor.Srt
open Go Go.Hw W Rec
theorem isort_len : ∀ (i : Nat) (l : List R), (isort l i).length = l.length
  | 0, _ => rfl
  | i + 1, l => by
    show (bub (isort l i) (i + 1)).length = _
    rw [bub_len, isort_len i l]
theorem swap_perm (l : List R) {j : Nat} (h : j + 1 < l.length) : ((l.set (j + 1) (l.getD j dR)).set j (l.getD (j + 1) dR)).Perm l := by
  induction l generalizing j with
  | nil => simp at h
  | cons x l ih =>
    cases j with
    | zero =>
      cases l with
      | nil => simp at h
      | cons y t => exact List.Perm.swap x y t
    | succ j =>
      exact (ih (j := j) (by simpa using h)).cons x
theorem bub_perm (j : Nat) : ∀ (l : List R), j < l.length → (bub l j).Perm l := by
  induction j with
  | zero => intro l _; exact List.Perm.refl _
  | succ j ih =>
    intro l h
    unfold bub
    split
    · refine (ih _ (by simp; omega)).trans (swap_perm l h)
    · exact List.Perm.refl _
theorem isort_perm (l : List R) : ∀ i, i < l.length ∨ i = 0 → (isort l i).Perm l
  | 0, _ => List.Perm.refl _
  | i + 1, h => by
    have ih := isort_perm l i (by omega)
    show (bub (isort l i) (i + 1)).Perm l
    refine (bub_perm (i + 1) _ (by rw [isort_len]; omega)).trans ih
end Go.Proofs.YtnknippcbecmeaaGreatDoor.Srt
end
section
/- what slices.SortFunc leaves: the same records, by rising numbers. -/
namespace Go.Proofs.YtnknippcbecmeaaGreatDoor.Srt
open Go Go.Hw Rec
def leR (a b : R) : Prop := a.s ≤ b.s
theorem bub_ins : ∀ (j : Nat) (p r : List R) (x : R), p.length = j → ∃ p', bub (p ++ x :: r) j = p' ++ r ∧ p'.length = j + 1 ∧ (p.Pairwise leR → p'.Pairwise leR) ∧ p'.Perm (x :: p)
  | 0, p, r, x, h => by
    rw [List.length_eq_zero_iff.1 h]
    exact ⟨[x], rfl, rfl, fun _ => by simp, List.Perm.refl _⟩
  | j + 1, p, r, x, h => by
    obtain ⟨q, y, rfl⟩ : ∃ q y, p = q ++ [y] := ⟨_, _, (List.dropLast_concat_getLast (by intro e; rw [e] at h; cases h)).symm⟩
    have hq : q.length = j := by simpa using h
    have e0 : q ++ [y] ++ x :: r = q ++ y :: x :: r := by simp
    rw [e0]
    unfold bub
    have g1 : (q ++ y :: x :: r).getD (j + 1) dR = x := by rw [List.getD_eq_getElem?_getD, List.getElem?_append_right (by omega), hq, show j + 1 - j = 1 by omega]; rfl
    have g0 : (q ++ y :: x :: r).getD j dR = y := by rw [List.getD_eq_getElem?_getD, List.getElem?_append_right (by omega), hq, Nat.sub_self]; rfl
    rw [g1, g0]
    by_cases hxy : x.s < y.s
    · rw [if_pos hxy]
      have es : ((q ++ y :: x :: r).set (j + 1) y).set j x = q ++ x :: y :: r := by
        rw [List.set_append_right _ _ (by omega), hq, show j + 1 - j = 1 by omega, List.set_append_right _ _ (by omega), hq, Nat.sub_self]
        rfl
      rw [es]
      obtain ⟨p'', h1, h2, h3, h4⟩ := bub_ins j q (y :: r) x hq
      refine ⟨p'' ++ [y], by rw [h1]; simp, by simp [h2], fun hs => ?_, ?_⟩
      · rw [List.pairwise_append] at hs ⊢
        obtain ⟨s1, _, s3⟩ := hs
        refine ⟨h3 s1, by simp, fun a ha b hb => ?_⟩
        have hb' : b = y := by simpa using hb
        subst hb'
        rcases List.mem_cons.1 (h4.mem_iff.1 ha) with rfl | ha
        · exact Nat.le_of_lt hxy
        · exact s3 a ha b (by simp)
      · have : (p'' ++ [y]).Perm ((x :: q) ++ [y]) := h4.append_right [y]
        simpa using this
    · rw [if_neg hxy]
      refine ⟨q ++ [y, x], by simp, by simp [hq], fun hs => ?_, ?_⟩
      · rw [List.pairwise_append] at hs ⊢
        obtain ⟨s1, _, s3⟩ := hs
        have hyx : leR y x := Nat.not_lt.1 hxy
        refine ⟨s1, by simp [hyx], fun a ha b hb => ?_⟩
        have hay := s3 a ha y (by simp)
        have : b = y ∨ b = x := by simpa using hb
        rcases this with rfl | rfl
        · exact hay
        · exact Nat.le_trans hay hyx
      · have : (q ++ [y] ++ [x]).Perm (x :: (q ++ [y])) := List.perm_append_comm
        simpa using this
theorem isort_pre : ∀ (i : Nat) (l : List R), i < l.length → ∃ p r, isort l i = p ++ r ∧ p.length = i + 1 ∧ p.Pairwise leR
  | 0, l, h => by
    cases l with
    | nil => simp at h
    | cons x t => exact ⟨[x], t, rfl, rfl, by simp⟩
  | i + 1, l, h => by
    obtain ⟨p, r, h1, h2, h3⟩ := isort_pre i l (by omega)
    have hlen := isort_len i l
    cases r with
    | nil =>
      rw [h1, List.append_nil, h2] at hlen
      omega
    | cons x r =>
      obtain ⟨p', g1, g2, g3, _⟩ := bub_ins (i + 1) p r x h2
      refine ⟨p', r, ?_, g2, g3 h3⟩
      show bub (isort l i) (i + 1) = _
      rw [h1, g1]
theorem isort_sorted (l : List R) : (isort l (l.length - 1)).Pairwise leR := by
  by_cases h0 : l = []
  · subst h0; exact List.Pairwise.nil
  · have hp : 0 < l.length := List.length_pos_iff.2 h0
    obtain ⟨p, r, h1, h2, h3⟩ := isort_pre (l.length - 1) l (by omega)
    have hlen := isort_len (l.length - 1) l
    rw [h1] at hlen ⊢
    have : r = [] := by
      rw [List.length_append, h2] at hlen
      exact List.length_eq_zero_iff.1 (by omega)
    rw [this, List.append_nil]
    exact h3
theorem isort_all (l : List R) : (isort l (l.length - 1)).Perm l := by
  by_cases h0 : l = []
  · subst h0; exact List.Perm.refl _
  · have hp : 0 < l.length := List.length_pos_iff.2 h0
    exact isort_perm l _ (.inl (by omega))
end Go.Proofs.YtnknippcbecmeaaGreatDoor.Srt
end
section
/- record: which may stand behind which. -/
namespace Go.Proofs.YtnknippcbecmeaaGreatDoor.Rec
open Go Go.Hw W
abbrev after (a b : R) : Prop := a.good ∧ b.good ∧ b.s = a.s + 1 ∧ (b.kd = 1 ∨ (b.kd = 2 ∧ a.kd = 1 ∧ a.ld = b.ld ∧ a.kk = b.kk) ∨ (b.kd = 3 ∧ a.kd ≠ 1 ∧ a.ld = b.ld ∧ a.kk = b.kk ∧ a.inp = b.inp ∧ b.out = 0) ∨
  (b.kd = 4 ∧ 3 ≤ a.kd ∧ a.ld = b.ld ∧ a.kk = b.kk ∧ a.inp = b.inp ∧ a.dir = b.dir ∧ b.ps = a.ps + 1))
abbrev same (a b : R) : Prop := a.ld = b.ld ∧ a.kk = b.kk ∧ a.inp = b.inp
section
variable {a b : R} {H0 H : Hp} {b1 b2 : Nat}
end
end Go.Proofs.YtnknippcbecmeaaGreatDoor.Rec
end
section
/- record: a form's words. -/
namespace Go.Proofs.YtnknippcbecmeaaGreatDoor.Rec
open Go Go.Hw Go.Form Go.Crc W
def joinN (w : Nat) : List (Nat × Nat) → Nat
  | [] => w
  | p :: ps => joinN (w ||| (p.1 * 2 ^ p.2 % 2 ^ 64)) ps
theorem joinN_lt : ∀ (ps : List (Nat × Nat)) (w : Nat), w < 2 ^ 64 → joinN w ps < 2 ^ 64
  | [], w, h => h
  | p :: ps, w, h => joinN_lt ps _ (or_lt h (Nat.mod_lt _ (Nat.two_pow_pos 64)))
def R.p1 (r : R) : List (Nat × Nat) := [(21061, 48), (r.s, 0)]
def R.p2 (r : R) : List (Nat × Nat) := [(r.ld, 32), (r.ps.toNat, 24), (r.kk.toNat, 16), (r.dir.toNat, 8), (r.kd.toNat, 0)]
def R.p3 (r : R) : List (Nat × Nat) := [(r.inp, 32), (r.out, 0)]
def R.w3 (r : R) : List UInt64 := [UInt64.ofNat (joinN 0 r.p1), UInt64.ofNat (joinN 0 r.p2), UInt64.ofNat (joinN 0 r.p3)]
structure R.u32 (r : R) : Prop where
  ld : r.ld < 4294967296
  inp : r.inp < 4294967296
  out : r.out < 4294967296
end Go.Proofs.YtnknippcbecmeaaGreatDoor.Rec
end
section
/- record: Put; the law RecordFollows. -/
namespace Go.Proofs.YtnknippcbecmeaaGreatDoor.Gen
open Go
end Go.Proofs.YtnknippcbecmeaaGreatDoor.Gen
namespace Go.Hw
open Go
end Go.Hw
namespace Go.Proofs.YtnknippcbecmeaaGreatDoor.Rec
open Go Go.Hw Go.Form Go.Crc W
def sealP (l : List UInt64) : List (Nat × Nat) := [(4294967295 - (sum (form l)).toNat, 32), ((sum (form l)).toNat, 0)]
def R.w4 (r : R) : List UInt64 := r.w3 ++ [UInt64.ofNat (joinN 0 (sealP r.w3))]
end Go.Proofs.YtnknippcbecmeaaGreatDoor.Rec
end
section
/- Contracts of the library's functions, laid at this program (printed by lay2.py). -/
namespace Go.Proofs.YtnknippcbecmeaaGreatDoor.Lib2
open Go Go.Proofs Go.Shelf Go.RowKit
end Go.Proofs.YtnknippcbecmeaaGreatDoor.Lib2
end
section
/- The frame of the proofs: the library's Trim at one byte. -/
namespace Go.Hw
open Go Go.Proofs Go.Proofs.YtnknippcbecmeaaGreatDoor.Lib2 Go.RowKit Go.Shelf
end Go.Hw
end
section
/- record: the record of words; all words of a form. -/
namespace Go.Proofs.YtnknippcbecmeaaGreatDoor.Rec
open Go Go.Hw Go.Form Go.Crc W
def recOf (a b c : Nat) : R := ⟨a % 281474976710656, ((b % 256 : Nat) : Int), ((b / 65536 % 256 : Nat) : Int), ((b / 256 % 256 : Nat) : Int), ((b / 16777216 % 256 : Nat) : Int), b / 4294967296, c / 4294967296, c % 4294967296⟩
def nought (bs : List UInt8) : Bool := decide (∀ x ∈ bs.drop 32, x = 0)
end Go.Proofs.YtnknippcbecmeaaGreatDoor.Rec
end
section
/- record: Take. -/
namespace Go.Proofs.YtnknippcbecmeaaGreatDoor.Rec
open Go Go.Hw Go.Form Go.Crc W
def secB (n : Int) : Bool := decide ((Lay.NeedV 0 n).2 = 0)
def zeroR : R := ⟨0, 0, 0, 0, 0, 0, 0, 0⟩
def w3U (bs : List UInt8) : List UInt64 := [UInt64.ofNat (wordN bs 0), UInt64.ofNat (wordN bs 8), UInt64.ofNat (wordN bs 16)]
def takeV (bs : List UInt8) : R × Int :=
  if secB (bs.length : Int) = true then
    if wordN bs 0 / 281474976710656 = 21061 ∧ nought bs = true then
      if wordN bs 24 = joinN 0 (sealP (w3U bs)) then
        if (recOf (wordN bs 0) (wordN bs 8) (wordN bs 16)).good then (recOf (wordN bs 0) (wordN bs 8) (wordN bs 16), 0) else (zeroR, 1)
      else (zeroR, 9)
    else (zeroR, 10)
  else (zeroR, 15)
theorem wordN_lt (bs : List UInt8) (o : Nat) : wordN bs o < 2 ^ 64 := leN_lt8 (by simp; omega)
end Go.Proofs.YtnknippcbecmeaaGreatDoor.Rec
end
section
/- Formulas of functions, printed by wip/tools/hwp.py. -/
namespace Go.Proofs.YtnknippcbecmeaaGreatDoor.W
open Go Go.Hw
end Go.Proofs.YtnknippcbecmeaaGreatDoor.W
end
section
/- super, and the document's superblock: what their functions answer. -/
namespace Go.Proofs.YtnknippcbecmeaaGreatDoor.Sup
open Go Go.Hw Go.Form W Lay
def goodB (k sec s ar : Int) : Bool := decide (0 ≤ k ∧ k ≤ 32 ∧ 0 < perN s ∧ (needN k.toNat (perN s) : Int) ≤ sec ∧ 1 ≤ ar ∧ ar ≤ 16777216)
def logN (s : Int) : Int := if s = 32 then 5 else if s = 64 then 6 else if s = 128 then 7 else if s = 256 then 8 else if s = 512 then 9 else if s = 1024 then 10 else if s = 2048 then 11 else if s = 4096 then 12 else -1
end Go.Proofs.YtnknippcbecmeaaGreatDoor.Sup
end
section
/- The reference's Take. -/
namespace Go.Proofs.YtnknippcbecmeaaGreatDoor.Rec
open Go Go.Hw Go.Form Go.Crc W FormP
theorem secB_per (s : Int) : secB s = true ↔ 0 < Lay.perN s := by
  unfold secB Lay.NeedV
  by_cases h : 0 < Lay.perN s
  · rw [if_pos ⟨by omega, by omega, h⟩]; simp [h]
  · rw [if_neg (fun g => h g.2.2)]; simp [h]
theorem secB_32 {s : Int} (h : secB s = true) : 32 ≤ s ∧ s ≤ 4096 := by
  rw [secB_per] at h
  refine ⟨Int.not_lt.1 fun g => ?_, Int.not_lt.1 fun g => ?_⟩
  · rw [Lay.perN_small g] at h; omega
  · rw [Lay.perN_great g] at h; omega
theorem join2 {p q : Nat} (hp : p < 4294967296) (hq : q < 4294967296) : joinN 0 [(p, 32), (q, 0)] = p * 4294967296 + q := by
  show (0 ||| (p * 2 ^ 32 % 2 ^ 64)) ||| (q * 2 ^ 0 % 2 ^ 64) = _
  rw [Nat.zero_or, Nat.mod_eq_of_lt (by omega), Nat.pow_zero, Nat.mul_one, Nat.mod_eq_of_lt (by omega), Nat.mul_comm p, ← Nat.two_pow_add_eq_or_of_lt (i := 32) hq p]
end Go.Proofs.YtnknippcbecmeaaGreatDoor.Rec
end
section
/- The reference's words of a record. -/
namespace Go.Proofs.YtnknippcbecmeaaGreatDoor.Rec
open Go Go.Hw Go.Form Go.Crc W FormP
theorem or_add {w q : Nat} (k : Nat) (hw : 2 ^ k ∣ w) (hq : q < 2 ^ k) : w ||| q = w + q := by
  obtain ⟨t, rfl⟩ := hw
  exact (Nat.two_pow_add_eq_or_of_lt hq t).symm
theorem p1_sum (r : R) (hg : r.good) : joinN 0 r.p1 = 5928144484503126016 + r.s := by
  obtain ⟨g1, g2, _⟩ := hg
  show (0 ||| (21061 * 2 ^ 48 % 2 ^ 64)) ||| (r.s * 2 ^ 0 % 2 ^ 64) = _
  rw [Nat.zero_or, Nat.pow_zero, Nat.mul_one, Nat.mod_eq_of_lt (show r.s < 2 ^ 64 by omega), or_add 48 ⟨21061, by decide⟩ (by omega)]
theorem p3_sum (r : R) (hu : r.u32) : joinN 0 r.p3 = r.inp * 4294967296 + r.out := join2 hu.inp hu.out
theorem p2_sum (r : R) (hg : r.good) (hu : r.u32) : joinN 0 r.p2 = r.ld * 4294967296 + r.ps.toNat * 16777216 + r.kk.toNat * 65536 + r.dir.toNat * 256 + r.kd.toNat := by
  obtain ⟨g1, g2, g3, g4, g5, g6⟩ := hg
  have hu := hu.ld
  have h1 : r.ps.toNat < 256 := by omega
  have h2 : r.kk.toNat < 256 := by omega
  have h3 : r.dir.toNat < 256 := by omega
  have h4 : r.kd.toNat < 256 := by omega
  show ((((0 ||| (r.ld * 2 ^ 32 % 2 ^ 64)) ||| (r.ps.toNat * 2 ^ 24 % 2 ^ 64)) ||| (r.kk.toNat * 2 ^ 16 % 2 ^ 64)) ||| (r.dir.toNat * 2 ^ 8 % 2 ^ 64)) ||| (r.kd.toNat * 2 ^ 0 % 2 ^ 64) = _
  generalize r.ps.toNat = a at *
  generalize r.kk.toNat = b at *
  generalize r.dir.toNat = c at *
  generalize r.kd.toNat = d at *
  generalize r.ld = l at *
  rw [Nat.zero_or, Nat.mod_eq_of_lt (show l * 2 ^ 32 < 2 ^ 64 by omega), Nat.mod_eq_of_lt (show a * 2 ^ 24 < 2 ^ 64 by omega), Nat.mod_eq_of_lt (show b * 2 ^ 16 < 2 ^ 64 by omega), Nat.mod_eq_of_lt (show c * 2 ^ 8 < 2 ^ 64 by omega), Nat.pow_zero, Nat.mul_one, Nat.mod_eq_of_lt (show d < 2 ^ 64 by omega)]
  rw [or_add 32 ⟨l, Nat.mul_comm _ _⟩ (show a * 2 ^ 24 < 2 ^ 32 by omega), or_add 24 ⟨l * 256 + a, by omega⟩ (show b * 2 ^ 16 < 2 ^ 24 by omega), or_add 16 ⟨(l * 256 + a) * 256 + b, by omega⟩ (show c * 2 ^ 8 < 2 ^ 16 by omega), or_add 8 ⟨((l * 256 + a) * 256 + b) * 256 + c, by omega⟩ (show d < 2 ^ 8 by omega)]
end Go.Proofs.YtnknippcbecmeaaGreatDoor.Rec
end
section
/- record: records compared. -/
namespace Go.Proofs.YtnknippcbecmeaaGreatDoor.Rec
open Go Go.Hw Go.Form Go.Crc W FormP
structure R.wf (r : R) : Prop where
  s : r.s < 2 ^ 64
  kd : -9223372036854775808 ≤ r.kd ∧ r.kd ≤ 9223372036854775807
  kk : -9223372036854775808 ≤ r.kk ∧ r.kk ≤ 9223372036854775807
  dir : -9223372036854775808 ≤ r.dir ∧ r.dir ≤ 9223372036854775807
  ps : -9223372036854775808 ≤ r.ps ∧ r.ps ≤ 9223372036854775807
  u : r.u32
end Go.Proofs.YtnknippcbecmeaaGreatDoor.Rec
end
section
/- record: the form's record. -/
namespace Go.Proofs.YtnknippcbecmeaaGreatDoor.Rec
open Go Go.Hw Go.Form Go.Crc W FormP
def R.form (r : R) (size : Nat) : List UInt8 := Form.form r.w4 ++ List.replicate (size - 32) 0
theorem form_w4 (r : R) : (Form.form r.w4).length = 32 := by rw [form_length]; rfl
theorem rform_len (r : R) {size : Nat} (h : 32 ≤ size) : (r.form size).length = size := by
  unfold R.form
  rw [List.length_append, form_w4, List.length_replicate]; omega
theorem rform_nought (r : R) (size : Nat) : nought (r.form size) = true := by
  unfold nought R.form
  refine decide_eq_true fun x hx => ?_
  rw [List.drop_append, form_w4, Nat.sub_self, List.drop_eq_nil_of_le (by rw [form_w4]; exact Nat.le_refl _), List.nil_append, List.drop_zero] at hx
  exact (List.mem_replicate.1 hx).2
theorem recOf_r (r : R) (hg : r.good) (hu : r.u32) : recOf (joinN 0 r.p1) (joinN 0 r.p2) (joinN 0 r.p3) = r := by
  rw [p1_sum r hg, p2_sum r hg hu, p3_sum r hu]
  obtain ⟨g1, g2, g3, g4, g5, g6⟩ := hg
  obtain ⟨u1, u2, u3⟩ := hu
  obtain ⟨s, kd, kk, dir, ps, ld, inp, out⟩ := r
  simp only at *
  unfold recOf
  congr 1 <;> omega
theorem rform_words (r : R) (size : Nat) : wordN (r.form size) 0 = joinN 0 r.p1 ∧ wordN (r.form size) 8 = joinN 0 r.p2 ∧ wordN (r.form size) 16 = joinN 0 r.p3 ∧ wordN (r.form size) 24 = joinN 0 (sealP r.w3) := by
  have h4 : r.w4.length = 4 := rfl
  have w0 := wordN_form (l := r.w4) (i := 0) (by omega) (List.replicate (size - 32) 0)
  have w1 := wordN_form (l := r.w4) (i := 1) (by omega) (List.replicate (size - 32) 0)
  have w2 := wordN_form (l := r.w4) (i := 2) (by omega) (List.replicate (size - 32) 0)
  have w3 := wordN_form (l := r.w4) (i := 3) (by omega) (List.replicate (size - 32) 0)
  refine ⟨w0.trans ?_, w1.trans ?_, w2.trans ?_, w3.trans ?_⟩
  · exact UInt64.toNat_ofNat_of_lt' (joinN_lt r.p1 0 (by decide))
  · exact UInt64.toNat_ofNat_of_lt' (joinN_lt r.p2 0 (by decide))
  · exact UInt64.toNat_ofNat_of_lt' (joinN_lt r.p3 0 (by decide))
  · exact UInt64.toNat_ofNat_of_lt' (joinN_lt (sealP r.w3) 0 (by decide))
theorem takeV_form (r : R) (hg : r.good) (hu : r.u32) {size : Nat} (h32 : 32 ≤ size) (hs : secB (size : Int) = true) : takeV (r.form size) = (r, 0) := by
  obtain ⟨w0, w1, w2, w3⟩ := rform_words r size
  have hU : w3U (r.form size) = r.w3 := by
    unfold w3U
    rw [w0, w1, w2]; rfl
  have hr := recOf_r r hg hu
  have hm : joinN 0 r.p1 / 281474976710656 = 21061 := by
    have := p1_sum r hg
    have := hg.1
    have := hg.2.1
    omega
  unfold takeV
  rw [rform_len r h32, if_pos hs, hU, w0, w1, w2, w3, hr, if_pos ⟨hm, rform_nought r size⟩, if_pos rfl, if_pos hg]
end Go.Proofs.YtnknippcbecmeaaGreatDoor.Rec
end
section
/- ring: New, slot. -/
namespace Go.Proofs.YtnknippcbecmeaaGreatDoor.Rng
open Go Go.Hw W Rec Srt Dsk
def slotN (f n : Nat) (s : Nat) : Nat := f + (s - 1) % n
end Go.Proofs.YtnknippcbecmeaaGreatDoor.Rng
end
section
/- ring: Scan. -/
namespace Go.Proofs.YtnknippcbecmeaaGreatDoor.Rng
open Go Go.Hw W Rec Srt Dsk
def stand (f n : Nat) (bs : List UInt8) (i : Nat) : List R := if (takeV bs).2 = 0 ∧ slotN f n (takeV bs).1.s = f + i then [(takeV bs).1] else []
end Go.Proofs.YtnknippcbecmeaaGreatDoor.Rng
end
section
/- ring: Scan and Last: the contracts. -/
namespace Go.Proofs.YtnknippcbecmeaaGreatDoor.Rng
open Go Go.Hw W Rec Srt Dsk
def lastR (r : Int × D × List R) : Option R := (isort r.2.2 (r.2.2.length - 1)).getLast?
end Go.Proofs.YtnknippcbecmeaaGreatDoor.Rng
end
section
/- record: Put where it can't. -/
namespace Go.Proofs.YtnknippcbecmeaaGreatDoor.Rec
open Go Go.Hw Go.Form Go.Crc W FormP
theorem put_row (r : R) {size : Nat} (h32 : 32 ≤ size) : setAt (zeroRow [Value.int .u8 0] size) 0 (byteVals (Form.form r.w4)) = byteVals (r.form size) := by
  rw [zeroRow_one]
  unfold setAt R.form
  rw [List.take_zero, List.nil_append, Nat.zero_add, byteVals_length, form_w4, List.drop_replicate]
  unfold byteVals
  rw [List.map_append, List.map_replicate]; rfl
end Go.Proofs.YtnknippcbecmeaaGreatDoor.Rec
end
section
/- ring: Append. -/
namespace Go.Proofs.YtnknippcbecmeaaGreatDoor.Rng
open Go Go.Hw W Rec Srt Dsk
def mayB (q : Option R) (r : R) : Bool := match q with | some q => decide (after q r) | none => decide (r.s = 1 ∧ r.kd = 1)
end Go.Proofs.YtnknippcbecmeaaGreatDoor.Rng
end
section
/- ring: Append: the contract. -/
namespace Go.Proofs.YtnknippcbecmeaaGreatDoor.Rng
open Go Go.Hw W Rec Srt Dsk
end Go.Proofs.YtnknippcbecmeaaGreatDoor.Rng
end
section
/- ring: Chain. -/
namespace Go.Proofs.YtnknippcbecmeaaGreatDoor.Rng
open Go Go.Hw W Rec Srt Dsk
end Go.Proofs.YtnknippcbecmeaaGreatDoor.Rng
end
section
/- ring: Clear. -/
namespace Go.Proofs.YtnknippcbecmeaaGreatDoor.Rng
open Go Go.Hw W Rec Srt Dsk
end Go.Proofs.YtnknippcbecmeaaGreatDoor.Rng
end
section
/- Formulas of functions, printed by wip/tools/hwp.py. -/
namespace Go.Proofs.YtnknippcbecmeaaGreatDoor.W
open Go Go.Hw
end Go.Proofs.YtnknippcbecmeaaGreatDoor.W
end
section
/- law 21: acts; are they few and short. -/
namespace Go.Proofs.YtnknippcbecmeaaGreatDoor.Rng
open Go Go.Hw W Rec Srt Dsk
structure Act where
  k : Int
  i : Int
  r : R
  A : Option Addr
  n : Nat
  m : Nat
  ks : List Bool
  A' : Option Addr
  n' : Nat
  m' : Nat
  b : List UInt8
structure OkA (H : Hp) (a : Act) : Prop where
  n : a.n = a.ks.length
  ks : Cells H a.A (boolVals a.ks)
  n' : a.n' = a.b.length
  b : Cells H a.A' (byteVals a.b)
  i : -9223372036854775808 ≤ a.i ∧ a.i ≤ 9223372036854775807
  wf : a.r.wf
theorem OkA.le {H H' : Hp} {a : Act} (h : OkA H a) (k : H.le H') : OkA H' a := ⟨h.n, h.ks.le k, h.n', h.b.le k, h.i, h.wf⟩
def short (a : Act) : Prop := a.n ≤ 20 ∧ a.n' ≤ 100
end Go.Proofs.YtnknippcbecmeaaGreatDoor.Rng
end
section
/- ring: what stands: laws of the last one. -/
namespace Go.Proofs.YtnknippcbecmeaaGreatDoor.Rng
open Go Go.Hw Rec Srt Dsk
theorem lastR_nil (r : Int × D × List R) : lastR r = none ↔ r.2.2 = [] := by
  unfold lastR
  rw [List.getLast?_eq_none_iff]
  constructor
  · intro h
    have := isort_len (r.2.2.length - 1) r.2.2
    rw [h] at this
    exact List.length_eq_zero_iff.1 this.symm
  · intro h
    rw [h]; rfl
theorem lastR_max {r : Int × D × List R} {q : R} (h : lastR r = some q) : q ∈ r.2.2 ∧ ∀ x ∈ r.2.2, x.s ≤ q.s := by
  unfold lastR at h
  have hp := isort_all r.2.2
  have hs := isort_sorted r.2.2
  generalize isort r.2.2 (r.2.2.length - 1) = l at *
  obtain ⟨p, rfl⟩ := List.getLast?_eq_some_iff.1 h
  refine ⟨hp.mem_iff.1 (by simp), fun x hx => ?_⟩
  have hx2 := hp.mem_iff.2 hx
  rw [List.pairwise_append] at hs
  rcases List.mem_append.1 hx2 with h1 | h1
  · exact hs.2.2 x h1 q (by simp)
  · have : x = q := by simpa using h1
    rw [this]
    exact Nat.le_refl _
theorem lastR_of {r : Int × D × List R} {q : R} (hq : q ∈ r.2.2) (hm : ∀ x ∈ r.2.2, x.s ≤ q.s) (hd : ∀ x ∈ r.2.2, x.s = q.s → x = q) : lastR r = some q := by
  cases h : lastR r with
  | none => rw [(lastR_nil r).1 h] at hq; simp at hq
  | some y =>
    obtain ⟨h1, h2⟩ := lastR_max h
    have := h2 q hq
    have := hm y h1
    rw [hd y h1 (by omega)]
end Go.Proofs.YtnknippcbecmeaaGreatDoor.Rng
end
section
/- ring: what stands in slots, by contents; what an append leaves. -/
namespace Go.Proofs.YtnknippcbecmeaaGreatDoor.Eng
open Go Go.Hw Go.Form Dsk Str Rec Srt Rng
def stC (c : Cn) (f n : Nat) : Nat → Nat → List R
  | 0, _ => []
  | k + 1, i => stand f n (c ((f + i : Nat) : Int)) i ++ stC c f n k (i + 1)
def updC (c : Cn) (k : Nat) (b : List UInt8) : Cn := fun i => if i = (k : Int) then b else c i
def lastC (c : Cn) (f n : Nat) : Option R := lastR (0, (D.fresh 1 32), stC c f n n 0)
theorem stC_mem (c : Cn) (f n : Nat) (x : R) : ∀ k i, x ∈ stC c f n k i ↔ ∃ j, i ≤ j ∧ j < i + k ∧ x ∈ stand f n (c ((f + j : Nat) : Int)) j
  | 0, i => by
    constructor
    · intro h; cases h
    · rintro ⟨j, h1, h2, _⟩; omega
  | k + 1, i => by
    show x ∈ _ ++ _ ↔ _
    rw [List.mem_append, stC_mem c f n x k (i + 1)]
    constructor
    · rintro (h | ⟨j, h1, h2, h3⟩)
      · exact ⟨i, Nat.le_refl _, by omega, h⟩
      · exact ⟨j, by omega, by omega, h3⟩
    · rintro ⟨j, h1, h2, h3⟩
      by_cases e : j = i
      · subst e; exact .inl h3
      · exact .inr ⟨j, by omega, by omega, h3⟩
theorem stand_mem {f n : Nat} {bs : List UInt8} {i : Nat} {x : R} : x ∈ stand f n bs i ↔ (takeV bs).2 = 0 ∧ slotN f n x.s = f + i ∧ x = (takeV bs).1 := by
  unfold stand
  split
  · rename_i h
    rw [List.mem_singleton]
    constructor
    · rintro rfl; exact ⟨h.1, h.2, rfl⟩
    · rintro ⟨_, _, h3⟩; exact h3
  · rename_i h
    constructor
    · intro h'; cases h'
    · rintro ⟨h1, h2, rfl⟩; exact absurd ⟨h1, h2⟩ h
theorem slotN_in {f n s : Nat} (hn : 1 ≤ n) : f ≤ slotN f n s ∧ slotN f n s < f + n := by
  have := Nat.mod_lt (s - 1) (show n > 0 by omega)
  unfold slotN; omega
theorem last_upd {c : Cn} {f n size : Nat} (hn : 1 ≤ n) (hsz : 32 ≤ size) (hsec : secB (size : Int) = true) {r : R} (hg : r.good) (hu : r.u32) (hm : mayB (lastC c f n) r = true) :
    lastC (updC c (slotN f n r.s) (r.form size)) f n = some r := by
  have hsl := slotN_in (f := f) (s := r.s) hn
  have ht := takeV_form r hg hu hsz hsec
  have hstand : ∀ j, j < n → ∀ x, x ∈ stand f n (updC c (slotN f n r.s) (r.form size) ((f + j : Nat) : Int)) j → x = r ∨ x ∈ stC c f n n 0 := fun j hj x hx => by
    unfold updC at hx
    by_cases e : ((f + j : Nat) : Int) = (slotN f n r.s : Nat)
    · rw [if_pos e, stand_mem, ht] at hx
      exact .inl hx.2.2
    · rw [if_neg e] at hx
      exact .inr ((stC_mem c f n x n 0).2 ⟨j, Nat.zero_le _, by omega, hx⟩)
  have hless : ∀ x ∈ stC c f n n 0, x.s < r.s := fun x hx => by
    unfold mayB at hm
    cases hq : lastC c f n with
    | none =>
      have e : stC c f n n 0 = [] := (lastR_nil _).1 hq
      rw [e] at hx
      cases hx
    | some q =>
      rw [hq] at hm
      have ha : after q r := of_decide_eq_true hm
      have := (lastR_max hq).2 x hx
      have := ha.2.2.1
      omega
  refine lastR_of (q := r) ?_ (fun x hx => ?_) fun x hx e => ?_
  · refine (stC_mem _ f n r n 0).2 ⟨slotN f n r.s - f, Nat.zero_le _, by omega, ?_⟩
    rw [show f + (slotN f n r.s - f) = slotN f n r.s by omega, stand_mem]
    unfold updC
    rw [if_pos rfl, ht]
    exact ⟨rfl, by omega, rfl⟩
  · obtain ⟨j, _, h2, h3⟩ := (stC_mem _ f n x n 0).1 hx
    rcases hstand j (by omega) x h3 with e | e
    · rw [e]; exact Nat.le_refl _
    · exact Nat.le_of_lt (hless x e)
  · obtain ⟨j, _, h2, h3⟩ := (stC_mem _ f n x n 0).1 hx
    rcases hstand j (by omega) x h3 with e' | e'
    · exact e'
    · have := hless x e'; omega
end Go.Proofs.YtnknippcbecmeaaGreatDoor.Eng
end
section
/- super: forms. -/
namespace Go.Proofs.YtnknippcbecmeaaGreatDoor.Sup
open Go Go.Hw Go.Form W Lay
def firstN (k : Nat) (s : Int) : Nat := 4702392716946833408 + k * 65536 + (logN s).toNat
def supW (k sec s ar : Int) : List UInt64 := [UInt64.ofNat (firstN k.toNat s), UInt64.ofNat sec.toNat, UInt64.ofNat ar.toNat]
def supS (k sec s ar : Int) : List UInt64 := supW k sec s ar ++ [UInt64.ofNat (Go.Crc.sum (form (supW k sec s ar))).toNat]
def supF (k sec s ar : Int) : List UInt8 := form (supS k sec s ar) ++ List.replicate (s.toNat - 32) 0
end Go.Proofs.YtnknippcbecmeaaGreatDoor.Sup
end
section
/- super: the superblock of a form, and the document's. -/
namespace Go.Proofs.YtnknippcbecmeaaGreatDoor.Sup
open Go Go.Hw Go.Form W Lay
def noughts (bs : List UInt8) : Bool := (bs.drop 32).all (· == 0)
abbrev Sb := Int × Int × Int × Int
def crcN (a b c : Nat) : Nat := (Go.Crc.sum (form [UInt64.ofNat a, UInt64.ofNat b, UInt64.ofNat c])).toNat
def sbOf (bs : List UInt8) : Sb := (((wordN bs 0 / 65536 % 65536 : Nat) : Int), IntKind.i64.wrap (wordN bs 8 : Nat), ((bs.length : Nat) : Int), IntKind.i64.wrap (wordN bs 16 : Nat))
def takeV (bs : List UInt8) : Sb × Int :=
  if perN bs.length = 0 then ((0, 0, 0, 0), 15)
  else if wordN bs 0 / 4294967296 ≠ 1094861123 ∨ noughts bs = false then ((0, 0, 0, 0), 10)
  else if wordN bs 24 ≠ crcN (wordN bs 0) (wordN bs 8) (wordN bs 16) then ((0, 0, 0, 0), 9)
  else if goodB (sbOf bs).1 (sbOf bs).2.1 (sbOf bs).2.2.1 (sbOf bs).2.2.2 = true ∧ ((wordN bs 0 % 65536 : Nat) : Int) = logN bs.length then (sbOf bs, 0)
  else ((0, 0, 0, 0), 1)
end Go.Proofs.YtnknippcbecmeaaGreatDoor.Sup
end
section
/- super: the document's form, and its superblock of a form; the law SuperForms. -/
namespace Go.Proofs.YtnknippcbecmeaaGreatDoor.Sup
open Go Go.Hw Go.Form W Lay
end Go.Proofs.YtnknippcbecmeaaGreatDoor.Sup
end
section
/- super on a disk: Write, Read; the law SuperDisks. -/
namespace Go.Proofs.YtnknippcbecmeaaGreatDoor.Sup
open Go Go.Hw Go.Form W Lay Dsk
theorem leN_zero : ∀ n, leN (List.replicate n 0) = 0
  | 0 => rfl
  | n + 1 => by
    rw [List.replicate_succ]
    show (0 : UInt8).toNat + 256 * leN (List.replicate n 0) = 0
    rw [leN_zero n]; rfl
end Go.Proofs.YtnknippcbecmeaaGreatDoor.Sup
end
section
/- The journal as a row of records; what a disk holds of an engine. -/
namespace Go.Proofs.YtnknippcbecmeaaGreatDoor.Eng
open Go Go.Hw Go.Form Dsk Str Rec Srt Rng Pln
structure Log (L : List R) : Prop where
  u : ∀ r ∈ L, r.u32
  g : ∀ r ∈ L, r.good
  hd : ∀ r, L[0]? = some r → r.s = 1 ∧ r.kd = 1
  ch : ∀ i a b, L[i]? = some a → L[i + 1]? = some b → after a b
theorem Log.init {L : List R} {r : R} (h : Log (L ++ [r])) : Log L ∧ r.good ∧ r.u32 ∧ mayB L.getLast? r = true := by
  refine ⟨⟨fun x hx => h.u x (List.mem_append_left _ hx), fun x hx => h.g x (List.mem_append_left _ hx), fun x hx => ?_, fun i a b ha hb => ?_⟩, h.g r (by simp), h.u r (by simp), ?_⟩
  · exact h.hd x (by rw [List.getElem?_append_left (List.getElem?_eq_some_iff.1 hx).1]; exact hx)
  · exact h.ch i a b (by rw [List.getElem?_append_left (List.getElem?_eq_some_iff.1 ha).1]; exact ha) (by rw [List.getElem?_append_left (List.getElem?_eq_some_iff.1 hb).1]; exact hb)
  · cases hl : L.getLast? with
    | none =>
      rw [List.getLast?_eq_none_iff] at hl
      subst hl
      exact decide_eq_true (h.hd r (by simp))
    | some a =>
      have hn : L ≠ [] := fun e => by rw [e] at hl; simp at hl
      have hp := List.length_pos_iff.2 hn
      rw [List.getLast?_eq_getElem?] at hl
      refine decide_eq_true (h.ch (L.length - 1) a r ?_ ?_)
      · rw [List.getElem?_append_left (by omega)]; exact hl
      · rw [show L.length - 1 + 1 = L.length by omega, List.getElem?_append_right (Nat.le_refl _), Nat.sub_self]; rfl
theorem Log.num {L : List R} (h : Log L) : ∀ i a, L[i]? = some a → a.s = i + 1
  | 0, a, ha => (h.hd a ha).1
  | i + 1, a, ha => by
    have hlt := (List.getElem?_eq_some_iff.1 ha).1
    have hb : L[i]? = some L[i] := List.getElem?_eq_getElem (by omega)
    have := h.num i _ hb
    have h2 := (h.ch i _ a hb ha).2.2.1
    omega
theorem Log.last {L : List R} (h : Log L) {r : R} (hr : L.getLast? = some r) : r.good ∧ r.u32 ∧ r.s = L.length := by
  have hn : L ≠ [] := fun e => by rw [e] at hr; simp at hr
  have hp := List.length_pos_iff.2 hn
  have hm : r ∈ L := List.mem_of_getLast? hr
  rw [List.getLast?_eq_getElem?] at hr
  have := h.num _ _ hr
  exact ⟨h.g r hm, h.u r hm, by omega⟩
def ringB (size : Nat) (L : List R) : Nat → List UInt8 := L.foldl (fun f r => fun j => if j = (r.s - 1) % 8 then r.form size else f j) (fun _ => List.replicate size 0)
theorem ringB_snoc (size : Nat) (L : List R) (r : R) (j : Nat) : ringB size (L ++ [r]) j = if j = (r.s - 1) % 8 then r.form size else ringB size L j := by
  unfold ringB; rw [List.foldl_append]; rfl
def Ring (size : Nat) (L : List R) (c : Cn) : Prop := ∀ i, i < 8 → c ((1 + i : Nat) : Int) = ringB size L i
theorem updC_same (c : Cn) (k : Nat) (a b : List UInt8) : updC (updC c k a) k b = updC c k b := funext fun i => by
  unfold updC; split <;> rfl
theorem updC_id (c : Cn) (k : Nat) : updC c k (c k) = c := funext fun i => by
  unfold updC
  split
  · rename_i h; rw [h]
  · rfl
theorem updC_at (c : Cn) (k : Nat) (b : List UInt8) : updC c k b k = b := if_pos rfl
theorem updC_ne (c : Cn) {k : Nat} (b : List UInt8) {i : Int} (h : i ≠ k) : updC c k b i = c i := if_neg h
theorem rtake_zero {size : Nat} (hs : secB (size : Int) = true) : (takeV (List.replicate size 0)).2 ≠ 0 := by
  unfold Rec.takeV
  rw [List.length_replicate, if_pos hs, if_neg]
  · decide
  · intro h
    have : wordN (List.replicate size 0) 0 = 0 := by
      unfold wordN
      rw [List.drop_zero, List.take_replicate, Sup.leN_zero]
    rw [this] at h
    exact absurd h.1 (by decide)
theorem Ring.last {size : Nat} (hsec : secB (size : Int) = true) : ∀ (n : Nat) {L : List R} {c : Cn}, L.length = n → Log L → Ring size L c → lastC c 1 8 = L.getLast?
  | 0, L, c, hl, h, hr => by
    have e : L = [] := List.length_eq_zero_iff.1 hl
    subst e
    refine (lastR_nil _).2 ?_
    refine List.eq_nil_iff_forall_not_mem.2 fun x hx => ?_
    obtain ⟨j, _, h2, h3⟩ := (stC_mem c 1 8 x 8 0).1 hx
    rw [hr j (by omega), stand_mem] at h3
    exact rtake_zero hsec h3.1
  | n + 1, L, c, hl, h, hr => by
    have hn : L ≠ [] := fun e => by rw [e] at hl; simp at hl
    obtain ⟨L', r, rfl⟩ : ∃ L' r, L = L' ++ [r] := ⟨L.dropLast, L.getLast hn, (List.dropLast_concat_getLast hn).symm⟩
    obtain ⟨h1, h2, h3, h4⟩ := h.init
    have hsl := slotN_in (f := 1) (n := 8) (s := r.s) (by omega)
    have hk : slotN 1 8 r.s = 1 + (r.s - 1) % 8 := rfl
    have hm := Nat.mod_lt (r.s - 1) (show 8 > 0 by omega)
    let c' : Cn := updC c (slotN 1 8 r.s) (ringB size L' ((r.s - 1) % 8))
    have hr' : Ring size L' c' := fun i hi => by
      have := hr i hi
      rw [ringB_snoc] at this
      show updC c (slotN 1 8 r.s) _ _ = _
      by_cases e : i = (r.s - 1) % 8
      · subst e; rw [← hk, updC_at]
      · rw [updC_ne _ _ (by omega), this, if_neg e]
    have ih := Ring.last hsec n (by simpa using hl) h1 hr'
    have hsz := secB_32 hsec
    have hup := last_upd (c := c') (f := 1) (n := 8) (size := size) (by omega) (by omega) hsec h2 h3 (by rw [ih]; exact h4)
    have e : updC c' (slotN 1 8 r.s) (r.form size) = c := by
      show updC (updC c _ _) _ _ = c
      rw [updC_same]
      have := hr ((r.s - 1) % 8) hm
      rw [ringB_snoc, if_pos rfl, ← hk] at this
      rw [← this, updC_id]
    rw [e] at hup
    rw [hup, List.getLast?_append]; rfl
def cw (c : Cn) (per f i : Nat) : UInt64 := ((wordsB (c ((f + i / per : Nat) : Int)))[i % per]?).getD 0
def cws (c : Cn) (per f n : Nat) : List UInt64 := (List.range n).map (cw c per f)
theorem cws_len (c : Cn) (per f n : Nat) : (cws c per f n).length = n := by simp [cws]
theorem pw_cw {d : D} {c : Cn} (h : ∀ i, d.now i = c i) (x : X) (i : Nat) : pw d x i = cw c (D.per d) x.f i := by unfold pw cw; rw [h]
theorem pws_cws {d : D} {c : Cn} (h : ∀ i, d.now i = c i) (x : X) (n : Nat) : pws d x 0 n = cws c (D.per d) x.f n := by
  unfold pws cws
  apply List.map_congr_left
  intro i _
  rw [Nat.zero_add, pw_cw h]
def crcU (l : List UInt64) : Nat := (Go.Crc.sum (form l)).toNat
structure Mn where
  most : Nat
  arena : Nat
  L : List R
  inp : List UInt64
def exX (most per i k : Nat) : X := ⟨9 + i * Lay.roomN most per, Lay.roomN k per, 2 ^ k⟩
def dirB (r : R) : Bool := decide (r.dir = 1)
def planR (m : Mn) (per : Nat) (r : R) : List Pz := planL (dirB r) r.kk.toNat per m.arena
structure InpOk (m : Mn) (per : Nat) (c : Cn) (r : R) : Prop where
  len : m.inp.length = 2 ^ r.kk.toNat
  can : ∀ w ∈ m.inp, w.toNat < 18446744069414584321
  sum : r.inp = crcU m.inp
  ws : cws c per 9 (2 ^ r.kk.toNat) = m.inp
structure OutOk (m : Mn) (per : Nat) (c : Cn) (r : R) : Prop where
  ps : r.ps.toNat ≤ (planR m per r).length
  ws : ∀ p, (planR m per r)[r.ps.toNat - 1]? = some p → cws c per (9 + p.o * Lay.roomN m.most per) (2 ^ r.kk.toNat) = apL ((planR m per r).take r.ps.toNat) m.inp
  sum : r.out = crcU (apL ((planR m per r).take r.ps.toNat) m.inp)
structure Holds (sec size : Nat) (m : Mn) (c : Cn) : Prop where
  sup : c 0 = Sup.supF m.most sec size m.arena
  good : Sup.goodB m.most sec size m.arena = true
  least : leastN m.most (size / 8) ≤ m.arena
  log : Log m.L
  ring : Ring size m.L c
  kk : ∀ r, m.L.getLast? = some r → r.kk ≤ m.most
  inp : ∀ r, m.L.getLast? = some r → 2 ≤ r.kd → InpOk m (size / 8) c r
  out : ∀ r, m.L.getLast? = some r → r.kd = 4 → OutOk m (size / 8) c r
end Go.Proofs.YtnknippcbecmeaaGreatDoor.Eng
end
