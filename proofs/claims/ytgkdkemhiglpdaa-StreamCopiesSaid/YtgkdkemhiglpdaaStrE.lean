/- stream: what written words leave. -/
import Derived.Test.YtgkdkemhiglpdaaStrD
set_option maxRecDepth 100000
set_option linter.unusedSimpArgs false
set_option linter.unusedVariables false
set_option linter.unnecessarySimpa false
set_option linter.unusedSectionVars false
namespace Go.Proofs.Ytgkdkemhiglpdaa.Str
open Go Go.Hw Go.Form Go.Proofs.Ytgkdkemhiglpdaa.W Go.Proofs.Ytgkdkemhiglpdaa.Dsk Go.Proofs.Ytgkdkemhiglpdaa.Are

theorem setW_get {ws src : List UInt64} {a : Nat} (ha : a ≤ ws.length) (i : Nat) : (setW ws a src)[i]? = if i < a then ws[i]? else if i < a + src.length then src[i - a]? else ws[i]? := by
  unfold setW
  have hl : (ws.take a).length = a := by rw [List.length_take]; omega
  rw [List.append_assoc]
  by_cases h1 : i < a
  · rw [if_pos h1, List.getElem?_append_left (by omega), List.getElem?_take_of_lt h1]
  · rw [if_neg h1, List.getElem?_append_right (by omega), hl]
    by_cases h2 : i < a + src.length
    · rw [if_pos h2, List.getElem?_append_left (by omega)]
    · rw [if_neg h2, List.getElem?_append_right (by omega), List.getElem?_drop]
      congr 1; omega

theorem wpc_pw {d : D} (hok : Ok d) (x : X) (fr : Nat) (src : List UInt64) (hl : fr % D.per d + src.length ≤ D.per d) (j : Nat) :
    pw (wpc d (x.f + fr / D.per d) (fr % D.per d) src) x j = if fr ≤ j ∧ j < fr + src.length then (src[j - fr]?).getD 0 else pw d x j := by
  have hp := Ok.per_le hok
  have hwl : (wordsB (d.now ((x.f + fr / D.per d : Nat) : Int))).length = D.per d := by rw [wordsB_len, hok.now]; rfl
  unfold pw
  rw [wpc_per, wpc_now]
  have ej := Nat.div_add_mod j (D.per d)
  have ef := Nat.div_add_mod fr (D.per d)
  have mj := Nat.mod_lt j (show 0 < D.per d by omega)
  have mf := Nat.mod_lt fr (show 0 < D.per d by omega)
  by_cases hs : j / D.per d = fr / D.per d
  · rw [hs] at ej ⊢
    rw [if_pos rfl, wordsB_form, setW_get (by omega)]
    generalize D.per d * (fr / D.per d) = q at *
    by_cases h1 : j % D.per d < fr % D.per d
    · rw [if_pos h1, if_neg (by omega)]
    · rw [if_neg h1]
      by_cases h2 : j % D.per d < fr % D.per d + src.length
      · rw [if_pos h2, if_pos (by omega), show j % D.per d - fr % D.per d = j - fr by omega]
      · rw [if_neg h2, if_neg (by omega)]
  · rw [if_neg (by omega), if_neg]
    intro hc
    apply hs
    apply Nat.div_eq_of_lt_le
    · rw [Nat.mul_comm]; omega
    · rw [Nat.succ_mul, Nat.mul_comm]; omega

/-- What written words leave. -/
structure Wrote (d d' : D) (x : X) (fr : Nat) (src : List UInt64) (ps : List (Nat × Nat × Nat)) : Prop where
  ok : Ok d'
  calm : Calm d → Calm d'
  size : d'.size = d.size
  sec : d'.sec = d.sec
  wr : d'.wr = d.wr + ps.length
  rd : d'.rd = d.rd + (ps.filter fun p => decide (p.2.2 < D.per d)).length
  sy : d'.sy = d.sy
  safe : d'.safe = d.safe
  tch : ∀ i, d'.tch i = true → d.tch i = true ∨ ∃ j, j < src.length ∧ i = ((x.f + (fr + j) / D.per d : Nat) : Int)
  now : ∀ i, (∀ j, j < src.length → i ≠ ((x.f + (fr + j) / D.per d : Nat) : Int)) → d'.now i = d.now i
  pw : ∀ j, pw d' x j = if fr ≤ j ∧ j < fr + src.length then (src[j - fr]?).getD 0 else pw d x j

theorem wpc_safe (d : D) (s at' : Nat) (src : List UInt64) : (wpc d s at' src).safe = d.safe ∧ (wpc d s at' src).tch = updT d.tch s := by
  unfold wpc
  split <;> exact ⟨rfl, rfl⟩

theorem wrs_wrote (x : X) : ∀ (k fr : Nat) (d : D) (src : List UInt64), Ok d → src.length ≤ k → Wrote d (wrs d x k fr src) x fr src (pcs (D.per d) x.f k fr src.length)
  | k, fr, d, [], hok, hk => by
    have e1 : wrs d x k fr [] = d := by cases k <;> simp [wrs]
    have e2 : pcs (D.per d) x.f k fr ([] : List UInt64).length = [] := by cases k <;> simp [pcs]
    rw [e1, e2]
    exact ⟨hok, id, rfl, rfl, rfl, rfl, rfl, rfl, fun i h => .inl h, fun _ _ => rfl, fun j => by rw [if_neg (by simp only [List.length_nil]; omega)]⟩
  | 0, fr, d, w0 :: s0, hok, hk => by simp at hk
  | k + 1, fr, d, w0 :: s0, hok, hk => by
    generalize hsrc : w0 :: s0 = src at *
    have hne : src ≠ [] := by rw [← hsrc]; simp
    have hpos : 0 < src.length := by rw [← hsrc]; simp
    have hp := Ok.per_le hok
    have hcle := cN_le (D.per d) fr src.length
    have hcpos := cN_pos (per := D.per d) (fr := fr) (n := src.length) (by omega) hpos
    have hcper := cN_per (per := D.per d) (fr := fr) (n := src.length) (by omega)
    have e : pcs (D.per d) x.f (k + 1) fr src.length = (x.f + fr / D.per d, fr % D.per d, cN (D.per d) fr src.length) :: pcs (D.per d) x.f k (fr + cN (D.per d) fr src.length) (src.length - cN (D.per d) fr src.length) := by
      show (if src.length = 0 then [] else _) = _
      rw [if_neg (by omega)]
    have ew : wrs d x (k + 1) fr src = wrs (wpc d (x.f + fr / D.per d) (fr % D.per d) (src.take (cN (D.per d) fr src.length))) x k (fr + cN (D.per d) fr src.length) (src.drop (cN (D.per d) fr src.length)) := by
      show (if src = [] then d else _) = _
      rw [if_neg hne]
    rw [e, ew]
    generalize hcv : cN (D.per d) fr src.length = c at *
    have htk : (src.take c).length = c := by rw [List.length_take]; omega
    have hdl : (src.drop c).length = src.length - c := by simp
    have hok1 : Ok (wpc d (x.f + fr / D.per d) (fr % D.per d) (src.take c)) := wpc_ok hok _ _ (by omega)
    have hsz := wpc_size d (x.f + fr / D.per d) (fr % D.per d) (src.take c)
    have hper := wpc_per d (x.f + fr / D.per d) (fr % D.per d) (src.take c)
    have hcnt := wpc_cnt d (x.f + fr / D.per d) (fr % D.per d) (src.take c)
    have hsf := wpc_safe d (x.f + fr / D.per d) (fr % D.per d) (src.take c)
    have hnow := wpc_now d (x.f + fr / D.per d) (fr % D.per d) (src.take c)
    have hpw := wpc_pw hok x fr (src.take c) (by omega)
    have ih := wrs_wrote x k (fr + c) _ (src.drop c) hok1 (by omega)
    rw [hper, hdl] at ih
    generalize wrs (wpc d (x.f + fr / D.per d) (fr % D.per d) (src.take c)) x k (fr + c) (src.drop c) = d2 at *
    generalize pcs (D.per d) x.f k (fr + c) (src.length - c) = ps at *
    refine ⟨ih.ok, fun hc => ih.calm (wpc_calm hc _ _ _), ih.size.trans hsz.1, ih.sec.trans hsz.2, ?_, ?_, ih.sy.trans hcnt.2.2, ih.safe.trans hsf.1, fun i hi => ?_, fun i hi => ?_, fun j => ?_⟩
    · rw [ih.wr, hcnt.1, List.length_cons]; omega
    · rw [ih.rd, hcnt.2.1, htk, hper]
      by_cases hlt : c < D.per d
      · rw [if_pos hlt, List.filter_cons_of_pos (by simpa using hlt), List.length_cons]; omega
      · rw [if_neg hlt, List.filter_cons_of_neg (by simpa using hlt)]; omega
    · rcases ih.tch i hi with h | ⟨j, hj, h⟩
      · rw [hsf.2] at h
        unfold updT at h
        by_cases he : i = ((x.f + fr / D.per d : Nat) : Int)
        · exact .inr ⟨0, hpos, by rw [Nat.add_zero]; exact he⟩
        · rw [if_neg he] at h; exact .inl h
      · refine .inr ⟨c + j, by omega, ?_⟩
        rw [h, hper, Nat.add_assoc]
    · rw [ih.now i (fun j hj => ?_), hnow, if_neg]
      · have := hi 0 hpos
        rw [Nat.add_zero] at this
        exact this
      · have := hi (c + j) (by omega)
        rw [hper, Nat.add_assoc]; exact this
    · rw [ih.pw j, hpw j, htk, hdl]
      by_cases h1 : fr + c ≤ j ∧ j < fr + c + (src.length - c)
      · rw [if_pos h1, if_pos (by omega), List.getElem?_drop, show c + (j - (fr + c)) = j - fr by omega]
      · rw [if_neg h1]
        by_cases h2 : fr ≤ j ∧ j < fr + c
        · rw [if_pos h2, if_pos (by omega), List.getElem?_take_of_lt (by omega)]
        · rw [if_neg h2, if_neg (by omega)]

/-- An array's cells may be taken for a row. -/
theorem HCalls.ofRow {P : Program} {f : FuncId} {args : Array Value} {H : Hp} {R : Value → Hp → Prop} {b : Nat} {c : Array Value} {e : TypeId} (hb : H b = some (.obj (.cells c e)))
    (h : HCalls P f args (H.set b (.row c.toList e c.size)) R) : HCalls P f args H R := fun w hw => by
  have hf : Fits (H.set b (.row c.toList e c.size)) w := fun i o ho => by
    by_cases hi : i = b
    · subst hi
      rw [Hp.set_same] at ho
      obtain ⟨o', h1, h2⟩ := hw i _ hb
      cases ho
      refine ⟨o', h1, [], 0, 0, ?_, ?_, .inl rfl⟩
      · rw [List.append_nil]; exact h2
      · rw [List.append_nil, Array.length_toList]
    · rw [Hp.set_other _ _ hi] at ho
      exact hw i o ho
  refine (h w hf).mono fun _ _ ⟨v, H', e', r, a⟩ => ⟨v, H', e', r, ⟨a.fits, a.size, a.os, a.tape, a.output, fun i hi h0 => ?_⟩⟩
  refine a.old i hi ?_
  rw [Hp.set_other]
  · exact h0
  · rintro rfl
    rw [hb] at h0; cases h0

theorem pws_one (d : D) (x : X) (i : Nat) : pws d x i 1 = [pw d x i] := by simp [pws]

/-- A word is read. -/
theorem Get_tr {p dp ap : Nat} {d : D} {x : X} {cap peak : Int} {bufs : List (Nat × Nat × Option Addr)} (hok : Ok d) (hc : Calm d) (hx : On d x) (ho : d.rd ≤ 4611686010000000000) (i : Nat) (hf : i < x.w) (hcap : (D.per d : Int) ≤ cap - sumB bufs) :
    Tr Try.prog 53 #[.pointer (some ⟨p, 0, none⟩), .int .i64 i] [pts p (pipO dp ap x), Dk dp d, Ar ap cap peak bufs] fun v M =>
      v = .tuple #[.int .u64 ((pw d x i).toNat : Int), .int .i64 0] ∧ M = [pts p (pipO dp ap x), Dk dp (D.rdN d 1), Ar ap cap (mx peak (sumB bufs + D.per d)) bufs] := fun H hs => by
  have hp := Ok.per_le hok
  have hpl : (pcs (D.per d) x.f 1 i 1).length = 1 := by
    have hc1 : cN (D.per d) i 1 = 1 := by
      have := cN_le (D.per d) i 1
      have := cN_pos (per := D.per d) (fr := i) (n := 1) (by omega) (by omega)
      omega
    simp [pcs]
  apply W_stream_Pipe_Get.ok
  unfold W_stream_Pipe_Get
  refine hs.nw fun b1 H hs => BIf_dneg (by omega) ?_
  refine HCalls.use (words_s hs 0 rfl) ?_
  simp only [DI_int', DB_bool, DS_string, DP_pointer, DSl_slice, DM_map, DA_agg, DTup_tuple, DCons_cons, DNil_nil, NN_some, BIf_true, BIf_false, BIf_same, List.toList_toArray, Bool.not_true, Bool.not_false]
  refine BIf_dneg (by omega) ?_
  refine slB_all ?_
  rw [slA_zero]
  have hs' := hs.put 3 (.row [.int .u64 0] 150 1) rfl
  refine HCalls.ofRow (hs.get 3 rfl) ?_
  refine (Read_tr (p := p) (dp := dp) (ap := ap) (d := d) (x := x) (rl := b1) (off := 0) (mm := 1) (xs := [.int .u64 0]) hok hc hx ho i 1 1 (Nat.le_refl _) (by omega) (Nat.le_refl _) (by simp) hcap).use hs' [0, 1, 2, 3] rfl rfl ?_
  rintro _ _ H ⟨rfl, rfl⟩ hs
  simp only [DI_int', DB_bool, DS_string, DP_pointer, DSl_slice, DM_map, DA_agg, DTup_tuple, DCons_cons, DNil_nil, NN_some, BIf_true, BIf_false, BIf_same, List.toList_toArray, Bool.not_true, Bool.not_false]
  refine BIf_bnen rfl ?_
  rw [hpl, pws_one] at hs
  refine ⟨by omega, by omega, ?_⟩
  have hs : Sep [pts p (pipO dp ap x), Dk dp (D.rdN d 1), Ar ap cap (mx peak (sumB bufs + D.per d)) bufs, pts b1 (.row [.int .u64 ((pw d x i).toNat : Int)] 150 1)] H := hs
  refine hs.ldr 3 (j := 0) rfl rfl ?_
  simp only [DI_int', DB_bool, DS_string, DP_pointer, DSl_slice, DM_map, DA_agg, DTup_tuple, DCons_cons, DNil_nil, NN_some, BIf_true, BIf_false, BIf_same, List.toList_toArray, Bool.not_true, Bool.not_false]
  exact ⟨_, ⟨trivial, rfl⟩, hs.re [0, 1, 2] rfl⟩

end Go.Proofs.Ytgkdkemhiglpdaa.Str
