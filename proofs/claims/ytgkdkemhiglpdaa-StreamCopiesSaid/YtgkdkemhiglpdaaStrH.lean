/- stream: each, with Copy's function. -/
import Derived.Test.YtgkdkemhiglpdaaStrG
set_option maxRecDepth 100000
set_option linter.unusedSimpArgs false
set_option linter.unusedVariables false
set_option linter.unnecessarySimpa false
set_option linter.unusedSectionVars false
namespace Go.Proofs.Ytgkdkemhiglpdaa.Str
open Go Go.Hw Go.Form Go.Proofs.Ytgkdkemhiglpdaa.W Go.Proofs.Ytgkdkemhiglpdaa.Dsk Go.Proofs.Ytgkdkemhiglpdaa.Are

/-- So many words are copied, after so many sectors. -/
structure CopyI (d d' : D) (x y : X) (i k : Nat) : Prop where
  ok : Ok d'
  calm : Calm d'
  size : d'.size = d.size
  sec : d'.sec = d.sec
  rd : d'.rd ≤ d.rd + 1000 * i
  wr : d'.wr ≤ d.wr + 1000 * i
  src : ∀ j, j < x.w → pw d' x j = pw d x j
  dst : ∀ j, j < k → pw d' y j = pw d x j

theorem CopyI.per {d d' : D} {x y : X} {i k : Nat} (h : CopyI d d' x y i k) : D.per d' = D.per d := by unfold D.per; rw [h.size]

theorem CopyI.step {d d' : D} {x y : X} {i : Nat} (hok : Ok d) (h : CopyI d d' x y i (i * D.per d)) (hx : On d x) (hy : On d y) (hw : y.w = x.w) (hdis : x.f + x.s ≤ y.f ∨ y.f + y.s ≤ x.f) (n : Nat) (hn1 : 1 ≤ n) (hn2 : n ≤ D.per d) (hn : i * D.per d + n ≤ x.w) :
    CopyI d (wrs (D.more d') y n (i * D.per d) ((wordsB (d'.now ((x.f + i : Nat) : Int))).take n)) x y (i + 1) (i * D.per d + n) := by
  have hp := Ok.per_le hok
  have hper := h.per
  have hwl : (wordsB (d'.now ((x.f + i : Nat) : Int))).length = D.per d := by rw [wordsB_len, h.ok.now]; exact hper
  have htl : ((wordsB (d'.now ((x.f + i : Nat) : Int))).take n).length = n := by rw [List.length_take]; omega
  have W := wrs_wrote y n (i * D.per d) (D.more d') ((wordsB (d'.now ((x.f + i : Nat) : Int))).take n) (Ok.more h.ok) (by omega)
  have hpm : D.per (D.more d') = D.per d := hper
  have hpl := pcs_len (D.per (D.more d')) y.f n (i * D.per d) n
  rw [htl] at W
  have hcl := List.length_filter_le (fun p : Nat × Nat × Nat => decide (p.2.2 < D.per (D.more d'))) (pcs (D.per (D.more d')) y.f n (i * D.per d) n)
  have hrd := W.rd
  have hwr := W.wr
  have hr1 : (D.more d').rd = d'.rd + 1 := rfl
  have hw1 : (D.more d').wr = d'.wr := rfl
  have h1 := h.rd
  have h2 := h.wr
  have hsz : (D.more d').size = d'.size := rfl
  have hse : (D.more d').sec = d'.sec := rfl
  have hnow : ∀ k, (D.more d').now k = d'.now k := fun k => rfl
  have hpwm : ∀ z j, pw (D.more d') z j = pw d' z j := fun z j => rfl
  generalize wrs (D.more d') y n (i * D.per d) ((wordsB (d'.now ((x.f + i : Nat) : Int))).take n) = d2 at *
  refine ⟨W.ok, W.calm (Calm.more h.calm), by rw [W.size, hsz, h.size], by rw [W.sec, hse, h.sec], by omega, by omega, fun j hj => ?_, fun j hj => ?_⟩
  · rw [← h.src j hj]
    have hP : D.per d2 = D.per d' := by show d2.size / 8 = d'.size / 8; rw [W.size, hsz]
    unfold pw
    rw [hP, W.now _ (fun jj hjj => ?_), hnow]
    rw [htl] at hjj
    rw [hpm, hper]
    have a1 : j / D.per d < x.s := by
      rw [Nat.div_lt_iff_lt_mul (by omega)]; have := hx.room; omega
    have a2 : (i * D.per d + jj) / D.per d < y.s := by
      rw [Nat.div_lt_iff_lt_mul (by omega)]; have := hy.room; omega
    intro e
    have e' := Int.ofNat_inj.1 e
    generalize j / D.per d = u at *
    generalize (i * D.per d + jj) / D.per d = v at *
    omega
  · rw [W.pw j, htl, hpwm]
    by_cases c1 : i * D.per d ≤ j ∧ j < i * D.per d + n
    · rw [if_pos c1, List.getElem?_take_of_lt (by omega), ← h.src j (by omega)]
      unfold pw
      rw [hper]
      have e1 : j / D.per d = i := Nat.div_eq_of_lt_le (by omega) (by rw [Nat.succ_mul]; omega)
      have e2 : j % D.per d = j - i * D.per d := by
        have := Nat.div_add_mod j (D.per d)
        rw [e1, Nat.mul_comm] at this
        omega
      rw [e1, e2]
    · rw [if_neg c1]
      exact h.dst j (by omega)

theorem DR_int {P : Program} {g : FuncId} {t : TypeId} {k : IntKind} {n : Int} {K : Value → Prop} (h : resTypes P g = [t]) (hu : P.underlying t = some (.int k)) (hk : K (.int k n)) : DR P (resTypes P g) (.int k n) K := by
  rw [h]
  show DT P t _ K
  unfold DT
  rw [hu]
  simpa using hk

theorem BIf_both {c : Bool} {X Y : Prop} (hx : X) (hy : Y) : BIf c X Y := by cases c <;> assumption

theorem cat3 (a b c d e f : Value) : ((#[] ++ #[a, b, c]) ++ #[d, e, f] : Array Value) = #[a, b, c, d, e, f] := rfl

section
variable {p q dp ap bp bq bt b rb mb vb : Nat} {d : D} {x y : X} {cap peak P1 : Int} {bufs : List (Nat × Nat × Option Addr)}

/-- The parts of memory while words are copied. -/
def copyL (p q dp ap bp bq bt b rb mb vb : Nat) (d' : D) (x y : X) (cap pk : Int) (bufs : List (Nat × Nat × Option Addr)) (per : Nat) (ws : List UInt64) (a : Nat) : List As :=
  [pts p (pipO dp ap x), pts q (pipO dp ap y), Dk dp d', Ar ap cap pk (bufs ++ [(b, per, some ⟨rb, 0, none⟩)]), pts rb (.row (wordVals ws) 94 mb), pts bp (.obj (.cells #[.pointer (some ⟨p, 0, none⟩)] 43)), pts bq (.obj (.cells #[.pointer (some ⟨q, 0, none⟩)] 43)), pts bt (.obj (.cells #[.int .i64 (a : Int)] 3)), pts vb (.row [.pointer (some ⟨b, 0, none⟩)] 114 1)]

def copyC (bp bq bt : Nat) : Array Value := #[.pointer (some ⟨bp, 0, none⟩), .pointer (some ⟨bq, 0, none⟩), .pointer (some ⟨bt, 0, none⟩)]

theorem min_nat {per left : Nat} {l : Int} (h : l = left) : (if (per : Int) < l then (per : Int) else l) = ((if per < left then per else left : Nat) : Int) := by
  subst h
  by_cases c : per < left
  · rw [if_pos c, if_pos (by omega)]
  · rw [if_neg c, if_neg (by omega)]

theorem each_copy (K : Value → Hp → Prop) (hok : Ok d) (hbm : ∀ z ∈ bufs, z.1 ≠ b) (hx : On d x) (hy : On d y) (hw : y.w = x.w) (hdis : x.f + x.s ≤ y.f ∨ y.f + y.s ≤ x.f) (hr0 : d.rd ≤ 4000000000000000000 ∧ d.wr ≤ 4000000000000000000)
    (hcap : (D.per d : Int) ≤ cap - sumB (bufs ++ [(b, D.per d, some ⟨rb, 0, none⟩)])) (hP : mx P1 (sumB (bufs ++ [(b, D.per d, some ⟨rb, 0, none⟩)]) + D.per d) = P1)
    (hK : ∀ i d' H, i ≤ x.s → CopyI d d' x y i x.w → Sep [pts p (pipO dp ap x), pts q (pipO dp ap y), Dk dp d', Ar ap cap P1 bufs] H → K (.int .i64 0) H) :
    ∀ (t i : Nat) (d' : D) (pk : Int) (ws : List UInt64) (H : Hp), CopyI d d' x y i (if i * D.per d < x.w then i * D.per d else x.w) → x.w ≤ (i + t) * D.per d → mx pk (sumB (bufs ++ [(b, D.per d, some ⟨rb, 0, none⟩)]) + D.per d) = P1 → (i = 0 ∨ pk = P1) → i ≤ x.s → ws.length = D.per d →
      Sep (copyL p q dp ap bp bq bt b rb mb vb d' x y cap pk bufs (D.per d) ws (if i * D.per d < x.w then i * D.per d else x.w)) H →
      W_stream_Pipe_each.l6 K (t + 1) (some ⟨p, 0, none⟩) 63 #[] (copyC bp bq bt) (some ⟨b, 0, none⟩) 0 ((x.w : Int) - ((i * D.per d : Nat) : Int)) ((x.f + i : Nat) : Int) (some ⟨ap, 0, none⟩) (some ⟨vb, 0, none⟩) 1 1 H := fun t => by
  have hp := Ok.per_le hok
  have hsec := hok.sec
  have hroom : x.s * D.per d ≤ 1048576 * 512 := Nat.mul_le_mul (by have := hx.fit; omega) (by omega)
  have h4 := hx.room
  have hw1 := hx.w1
  have hfit := hx.fit
  have hy4 := hy.room
  induction t with
  | zero =>
    intro i d' pk ws H hI hf hpk hip hie hws hs
    rw [Nat.add_zero] at hf
    unfold W_stream_Pipe_each.l6
    refine BIf_dneg (by omega) ?_
    rw [if_neg (by omega)] at hI
    have hi0 : i ≠ 0 := by rintro rfl; rw [Nat.zero_mul] at hf; omega
    have hpk1 : pk = P1 := hip.resolve_left hi0
    subst hpk1
    unfold copyL at hs
    refine (Give_oneD vb b (D.per d) (some ⟨rb, 0, none⟩) hbm).use hs [3, 8] rfl rfl ?_
    rintro _ _ H ⟨rfl, rfl⟩ hs
    exact hK i d' H hie hI (hs.re [1, 2, 3, 0] rfl)
  | succ t ih =>
    intro i d' pk ws H hI hf hpk hip hie hws hs
    by_cases hlt : i * D.per d < x.w
    · rw [if_pos hlt] at hI
      have hper := hI.per
      have his : i < x.s := by
        apply Nat.lt_of_mul_lt_mul_right (a := D.per d)
        omega
      have hn : (if D.per d < x.w - i * D.per d then D.per d else x.w - i * D.per d) = (if D.per d < x.w - i * D.per d then D.per d else x.w - i * D.per d) := rfl
      generalize hnv : (if D.per d < x.w - i * D.per d then D.per d else x.w - i * D.per d) = n at hn
      have hn1 : 1 ≤ n ∧ n ≤ D.per d ∧ i * D.per d + n ≤ x.w := by rw [← hnv]; split <;> omega
      have hI2 := hI.step hok hx hy hw hdis n hn1.1 hn1.2.1 hn1.2.2
      have hrd := hI.rd
      have hwr := hI.wr
      have hnext : i * D.per d + n = (if (i + 1) * D.per d < x.w then (i + 1) * D.per d else x.w) := by
        rw [Nat.succ_mul, ← hnv]
        split <;> split <;> omega
      rw [if_pos hlt] at hs
      unfold copyL at hs
      unfold W_stream_Pipe_each.l6
      refine BIf_dpos (by omega) (BIf_beqp rfl ?_)
      simp only [NN_some, Addr.add_lit', Addr.add_zero, Nat.zero_add, Nat.add_zero]
      refine HCalls.use (per_s hs 0 2 rfl rfl hI.ok) ?_
      try simp only [DI_int', DB_bool, DS_string, DP_pointer, DSl_slice, DM_map, DA_agg, DTup_tuple, DCons_cons, DNil_nil, NN_some, BIf_true, BIf_false, BIf_same, List.toList_toArray, Bool.not_true, Bool.not_false]
      rw [hper]
      refine BIf_pos (by kernel_rfl) ?_
      unfold copyC
      rw [cat3, min_nat (left := x.w - i * D.per d) (by omega), hnv]
      refine (Copy1_tr (p := p) (q := q) (dp := dp) (ap := ap) (bp := bp) (bq := bq) (bt := bt) (b := b) (rb := rb) (mb := mb) (d := d') (x := x) (y := y) (cap := cap) (peak := pk) (bufs := bufs ++ [(b, D.per d, some ⟨rb, 0, none⟩)]) (ws := ws) hI.ok hI.calm ⟨by omega, by omega⟩ ⟨hy.w1, hy.s1, by rw [hI.sec]; exact hy.fit, by rw [hper]; exact hy.room⟩ (x.f + i) n (i * D.per d) (by rw [hI.sec]; omega) hn1.1 (by rw [hper]; exact hn1.2.1) (by omega) (by rw [hper]; exact List.mem_append_right _ (List.mem_singleton.2 rfl)) (by rw [hper]; exact hws) (by rw [hper]; exact hcap)).use hs [0, 1, 2, 3, 4, 5, 6, 7] rfl rfl ?_
      rintro _ _ H ⟨rfl, rfl⟩ hs
      refine DR_int (t := 26) (by kernel_rfl) (by kernel_rfl) ?_
      simp only [DI_int', DB_bool, DS_string, DP_pointer, DSl_slice, DM_map, DA_agg, DTup_tuple, DCons_cons, DNil_nil, NN_some, BIf_true, BIf_false, BIf_same, List.toList_toArray, Bool.not_true, Bool.not_false]
      refine HCalls.use (per_s hs 0 2 rfl rfl hI2.ok) ?_
      try simp only [DI_int', DB_bool, DS_string, DP_pointer, DSl_slice, DM_map, DA_agg, DTup_tuple, DCons_cons, DNil_nil, NN_some, BIf_true, BIf_false, BIf_same, List.toList_toArray, Bool.not_true, Bool.not_false]
      rw [hI2.per]
      rw [hper, hpk] at hs
      have e1 : IntKind.i64.wrap ((x.w : Int) - ((i * D.per d : Nat) : Int) - (D.per d : Int)) = (x.w : Int) - (((i + 1) * D.per d : Nat) : Int) := by
        rw [i64w (by omega) (by omega), Nat.succ_mul]; omega
      have e2 : IntKind.i64.wrap (((x.f + i : Nat) : Int) + 1) = ((x.f + (i + 1) : Nat) : Int) := by
        rw [i64w (by omega) (by omega)]; omega
      rw [e1, e2]
      have hwl : (wordsB (d'.now ((x.f + i : Nat) : Int))).length = D.per d := by rw [wordsB_len, hI.ok.now]; exact hper
      refine ih (i + 1) _ P1 (wordsB (d'.now ((x.f + i : Nat) : Int))) H (by rw [← hnext]; exact hI2) (by rw [show i + 1 + t = i + (t + 1) by omega]; exact hf) hP (.inr rfl) (by omega) hwl ?_
      rw [← hnext]
      exact hs
    · unfold W_stream_Pipe_each.l6
      refine BIf_dneg (by omega) ?_
      rw [if_neg hlt] at hI
      have hi0 : i ≠ 0 := by rintro rfl; rw [Nat.zero_mul] at hlt; omega
      have hpk1 : pk = P1 := hip.resolve_left hi0
      subst hpk1
      unfold copyL at hs
      refine (Give_oneD vb b (D.per d) (some ⟨rb, 0, none⟩) hbm).use hs [3, 8] rfl rfl ?_
      rintro _ _ H ⟨rfl, rfl⟩ hs
      exact hK i d' H hie hI (hs.re [1, 2, 3, 0] rfl)

/-- No room for a second buffer. -/
theorem each_full (K : Value → Hp → Prop) (hok : Ok d) (hc : Calm d) (hbm : ∀ z ∈ bufs, z.1 ≠ b) (hx : On d x) (hy : On d y) (hw : y.w = x.w) (hr0 : d.rd ≤ 4000000000000000000 ∧ d.wr ≤ 4000000000000000000)
    (hcap : cap - sumB (bufs ++ [(b, D.per d, some ⟨rb, 0, none⟩)]) < (D.per d : Int))
    (hK : ∀ H, Sep [pts p (pipO dp ap x), pts q (pipO dp ap y), Dk dp (D.more d), Ar ap cap peak bufs] H → K (.int .i64 6) H) {ws : List UInt64} {H : Hp} (hws : ws.length = D.per d) (a0 t : Nat) (ha0 : a0 = 0)
    (hs : Sep (copyL p q dp ap bp bq bt b rb mb vb d x y cap peak bufs (D.per d) ws a0) H) :
      W_stream_Pipe_each.l6 K (t + 1 + 1) (some ⟨p, 0, none⟩) 63 #[] (copyC bp bq bt) (some ⟨b, 0, none⟩) 0 (x.w : Int) (x.f : Int) (some ⟨ap, 0, none⟩) (some ⟨vb, 0, none⟩) 1 1 H := by
  have hp := Ok.per_le hok
  have hsec := hok.sec
  have hw1 := hx.w1
  have hs1 := hx.s1
  have hfit := hx.fit
  have hn : (if D.per d < x.w then D.per d else x.w) = (if D.per d < x.w then D.per d else x.w) := rfl
  generalize hnv : (if D.per d < x.w then D.per d else x.w) = n at hn
  have hn1 : 1 ≤ n ∧ n ≤ D.per d ∧ n ≤ x.w := by rw [← hnv]; split <;> omega
  unfold copyL at hs
  unfold W_stream_Pipe_each.l6
  refine BIf_dpos (by omega) (BIf_beqp rfl ?_)
  simp only [NN_some, Addr.add_lit', Addr.add_zero, Nat.zero_add, Nat.add_zero]
  refine HCalls.use (per_s hs 0 2 rfl rfl hok) ?_
  try simp only [DI_int', DB_bool, DS_string, DP_pointer, DSl_slice, DM_map, DA_agg, DTup_tuple, DCons_cons, DNil_nil, NN_some, BIf_true, BIf_false, BIf_same, List.toList_toArray, Bool.not_true, Bool.not_false]
  refine BIf_pos (by kernel_rfl) ?_
  unfold copyC
  rw [cat3, min_nat (left := x.w) rfl, hnv]
  have ho : d.rd ≤ 4611685000000000000 ∧ d.wr ≤ 4611685000000000000 := by omega
  have hq1 : x.f < d.sec := by omega
  have hq2 : a0 + n ≤ y.w := by omega
  refine (Copy1_full (p := p) (q := q) (dp := dp) (ap := ap) (bp := bp) (bq := bq) (bt := bt) (b := b) (rb := rb) (mb := mb) (d := d) (x := x) (y := y) (cap := cap) (peak := peak) (bufs := bufs ++ [(b, D.per d, some ⟨rb, 0, none⟩)]) (ws := ws) hok hc ho hy x.f n a0 hq1 hn1.1 hn1.2.1 hq2 (by exact List.mem_append_right _ (List.mem_singleton.2 rfl)) (by exact hws) (by exact hcap)).use hs [0, 1, 2, 3, 4, 5, 6, 7] rfl rfl ?_
  rintro _ _ H ⟨rfl, rfl⟩ hs
  refine DR_int (t := 26) (by kernel_rfl) (by kernel_rfl) ?_
  simp only [DI_int', DB_bool, DS_string, DP_pointer, DSl_slice, DM_map, DA_agg, DTup_tuple, DCons_cons, DNil_nil, NN_some, BIf_true, BIf_false, BIf_same, List.toList_toArray, Bool.not_true, Bool.not_false]
  refine HCalls.use (per_s hs 0 2 rfl rfl (Ok.more hok)) ?_
  try simp only [DI_int', DB_bool, DS_string, DP_pointer, DSl_slice, DM_map, DA_agg, DTup_tuple, DCons_cons, DNil_nil, NN_some, BIf_true, BIf_false, BIf_same, List.toList_toArray, Bool.not_true, Bool.not_false]
  have fin : HCallsD Try.prog 58 #[.pointer (some ⟨ap, 0, none⟩), .slice (some ⟨vb, 0, none⟩) 1 1] H fun _ H9 => K (.int .i64 6) H9 := by
    refine (Give_oneD vb b (D.per d) (some ⟨rb, 0, none⟩) hbm).use hs [3, 8] rfl rfl ?_
    rintro _ _ H ⟨rfl, rfl⟩ hs
    exact hK H (hs.re [1, 2, 3, 0] rfl)
  unfold W_stream_Pipe_each.l6
  exact BIf_both (BIf_beqn (by decide) fin) fin
end

end Go.Proofs.Ytgkdkemhiglpdaa.Str
