/- super on a disk: Write, Read; the law SuperDisks. -/
import Derived.Test.YtbnhfcdagoigkaaSupL
import Derived.Test.YtbnhfcdagoigkaaDskG
import Derived.Test.YtbnhfcdagoigkaaWabacistlaw18
set_option maxRecDepth 100000
set_option linter.unusedSimpArgs false
set_option linter.unusedVariables false
set_option linter.unnecessarySimpa false
set_option linter.unusedSectionVars false
namespace Go.Proofs.Ytbnhfcdagoigkaa.Sup
open Go Go.Hw Go.Form Go.Proofs.Ytbnhfcdagoigkaa.W Go.Proofs.Ytbnhfcdagoigkaa.Lay Go.Proofs.Ytbnhfcdagoigkaa.Dsk

theorem leN_zero : ∀ n, leN (List.replicate n 0) = 0
  | 0 => rfl
  | n + 1 => by
    rw [List.replicate_succ]
    show (0 : UInt8).toNat + 256 * leN (List.replicate n 0) = 0
    rw [leN_zero n]; rfl
theorem takeV_zero (s : Nat) (hs : 0 < perN s) : takeV (List.replicate s 0) = ((0, 0, 0, 0), 10) := by
  unfold takeV
  rw [List.length_replicate, if_neg (by omega), if_pos]
  left
  have : wordN (List.replicate s 0) 0 = 0 := by
    unfold wordN
    rw [List.drop_zero, List.take_replicate, leN_zero]
  rw [this]; decide

def ofB (d : D) (sec s : Int) : Bool := decide (sec = d.sec ∧ s = d.size)

theorem of_ok {L : List As} {H : Hp} {p : Nat} {d : D} (hs0 : Sep L H) (i : Nat) (hi : L[i]? = some (Dk p d)) (k sec s ar : Int) : HCalls Try.prog 31 #[.pointer (some ⟨p, 0, none⟩), .agg (supV k sec s ar)] H (RetE (.bool (ofB d sec s)) H) := by
  apply HCalls.ret
  apply W_super_of.ok
  unfold W_super_of
  refine (Sep.start H).nw fun b1 H' hs => ?_
  have hle := hs.ow 0 rfl
  refine hs.ld 1 rfl rfl ?_
  simp only [DI_int', DB_bool, DS_string, DP_pointer, DSl_slice, DM_map, DA_agg, DTup_tuple, DCons_cons, DNil_nil, NN_some, BIf_true, BIf_false, BIf_same, List.toList_toArray, Bool.not_true, Bool.not_false]
  try simp only [NN_some, Addr.add_lit', Addr.add_zero, Nat.zero_add, Nat.add_zero]
  refine QCall.use (Sectors_s (hs0.up hle) i hi) ?_
  simp only [DI_int', DB_bool, DS_string, DP_pointer, DSl_slice, DM_map, DA_agg, DTup_tuple, DCons_cons, DNil_nil, NN_some, BIf_true, BIf_false, BIf_same, List.toList_toArray, Bool.not_true, Bool.not_false]
  by_cases h1 : sec = d.sec
  · refine BIf_beqp h1 (hs.ld 1 rfl rfl ?_)
    simp only [DI_int', DB_bool, DS_string, DP_pointer, DSl_slice, DM_map, DA_agg, DTup_tuple, DCons_cons, DNil_nil, NN_some, BIf_true, BIf_false, BIf_same, List.toList_toArray, Bool.not_true, Bool.not_false]
    try simp only [NN_some, Addr.add_lit', Addr.add_zero, Nat.zero_add, Nat.add_zero]
    refine QCall.use (Size_s (hs0.up hle) i hi) ?_
    simp only [DI_int', DB_bool, DS_string, DP_pointer, DSl_slice, DM_map, DA_agg, DTup_tuple, DCons_cons, DNil_nil, NN_some, BIf_true, BIf_false, BIf_same, List.toList_toArray, Bool.not_true, Bool.not_false]
    have e : (s == (d.size : Int)) = ofB d sec s := by
      unfold ofB
      by_cases h2 : s = d.size
      · simp [h1, h2]
      · simp [h2]
    rw [e]
    exact hs.fin 0 rfl _
  · refine BIf_beqn h1 ?_
    have e : ofB d sec s = false := by unfold ofB; simp [h1]
    rw [e]
    exact hs.fin 0 rfl _

/-- What is written. -/
def wrV (d : D) (k sec s ar : Int) : Int × D :=
  if goodB k sec s ar = false ∨ ofB d sec s = false then (1, d)
  else if d.writeE 0 s.toNat ≠ 0 then (d.writeE 0 s.toNat, d.writeD 0 (supF k sec s ar))
  else ((d.writeD 0 (supF k sec s ar)).syncE, (d.writeD 0 (supF k sec s ar)).syncD)

theorem sWrite_tr {p : Nat} {d : D} (hok : Ok d) (hb : d.wr ≤ 1000 ∧ d.sy ≤ 1000) (k sec s ar : Int) (hsec : sec ≤ 9223372036854775807) :
    Tr Try.prog 9 #[.pointer (some ⟨p, 0, none⟩), .agg (supV k sec s ar)] [Dk p d] fun v M => v = .int .i64 (wrV d k sec s ar).1 ∧ M = [Dk p (wrV d k sec s ar).2] := fun H hs => by
  apply W_super_Write.ok
  unfold W_super_Write
  refine hs.nw fun b1 H hs => ?_
  refine hs.ldw 1 rfl rfl ?_
  cases hg : goodB k sec s ar with
  | false =>
    refine HCalls.use (Put_no k sec s ar hg H) ?_
    simp only [DI_int', DB_bool, DS_string, DP_pointer, DSl_slice, DM_map, DA_agg, DTup_tuple, DCons_cons, DNil_nil, NN_some, BIf_true, BIf_false, BIf_same, List.toList_toArray, Bool.not_true, Bool.not_false]
    have e : wrV d k sec s ar = (1, d) := by unfold wrV; rw [if_pos (.inl hg)]
    rw [e]
    exact BIf_bnep (by omega) ⟨_, ⟨rfl, rfl⟩, hs.re [0] rfl⟩
  | true =>
    refine (Put_ok k sec s ar hg hsec).use hs [] rfl rfl ?_
    rintro _ _ H ⟨b, rfl, rfl⟩ hs
    simp only [DI_int', DB_bool, DS_string, DP_pointer, DSl_slice, DM_map, DA_agg, DTup_tuple, DCons_cons, DNil_nil, NN_some, BIf_true, BIf_false, BIf_same, List.toList_toArray, Bool.not_true, Bool.not_false]
    refine BIf_bnen rfl ?_
    have hs : Sep [pts b (.row (byteVals (supF k sec s ar)) 5 s.toNat), Dk p d, pts b1 (.obj (.cells (supV k sec s ar) 23))] H := hs
    refine hs.ldw 2 rfl rfl ?_
    refine HCalls.use (of_ok hs 1 rfl k sec s ar) ?_
    simp only [DI_int', DB_bool, DS_string, DP_pointer, DSl_slice, DM_map, DA_agg, DTup_tuple, DCons_cons, DNil_nil, NN_some, BIf_true, BIf_false, BIf_same, List.toList_toArray, Bool.not_true, Bool.not_false]
    cases ho : ofB d sec s with
    | false =>
      have e : wrV d k sec s ar = (1, d) := by unfold wrV; rw [if_pos (.inr ho)]
      rw [e]
      exact BIf_pos rfl ⟨_, ⟨rfl, rfl⟩, hs.re [1] rfl⟩
    | true =>
      refine BIf_neg rfl ?_
      have hper : 0 < perN s := by
        unfold goodB at hg
        simp only [decide_eq_true_eq] at hg
        exact hg.2.2.1
      have hl := supF_len k sec s ar hper
      refine (Write_tr (p := p) (d := d) hok (by omega) 0 (some ⟨b, 0, none⟩) s.toNat s.toNat (supF k sec s ar) (by omega) (pts b (.row (byteVals (supF k sec s ar)) 5 s.toNat)) (fun H h => ?_)).use hs [1, 0] rfl rfl ?_
      · have := Cells.row h 0 s.toNat
        rw [List.drop_zero, List.take_of_length_le (by rw [byteVals_length]; omega)] at this
        exact this
      rintro _ _ H ⟨rfl, rfl⟩ hs
      simp only [DI_int', DB_bool, DS_string, DP_pointer, DSl_slice, DM_map, DA_agg, DTup_tuple, DCons_cons, DNil_nil, NN_some, BIf_true, BIf_false, BIf_same, List.toList_toArray, Bool.not_true, Bool.not_false]
      by_cases he : d.writeE 0 s.toNat = 0
      · refine BIf_bnen he ?_
        have e : wrV d k sec s ar = ((d.writeD 0 (supF k sec s ar)).syncE, (d.writeD 0 (supF k sec s ar)).syncD) := by
          unfold wrV; rw [if_neg (by rw [hg, ho]; simp), if_neg (by rw [he]; simp)]
        have hsy : (d.writeD 0 (supF k sec s ar)).sy = d.sy := by
          have hbr := burnt_rd d
          unfold D.writeD
          split
          · rfl
          · split
            · rfl
            · split
              · exact hbr.2.2.1
              · exact hbr.2.2.1
        refine (Sync_tr (p := p) (d := d.writeD 0 (supF k sec s ar)) (Ok.writeD hok 0 _) (by rw [hsy]; omega)).use hs [0] rfl rfl ?_
        rintro _ _ H ⟨rfl, rfl⟩ hs
        simp only [DI_int', DB_bool, DS_string, DP_pointer, DSl_slice, DM_map, DA_agg, DTup_tuple, DCons_cons, DNil_nil, NN_some, BIf_true, BIf_false, BIf_same, List.toList_toArray, Bool.not_true, Bool.not_false]
        rw [e]
        exact ⟨_, ⟨rfl, rfl⟩, hs.re [0] rfl⟩
      · have e : wrV d k sec s ar = (d.writeE 0 s.toNat, d.writeD 0 (supF k sec s ar)) := by
          unfold wrV; rw [if_neg (by rw [hg, ho]; simp), if_pos he]
        rw [e]
        exact BIf_bnep he ⟨_, ⟨rfl, rfl⟩, hs.re [0] rfl⟩

/-- What bytes on a disk are the superblock of. -/
def rdV (d : D) (bs : List UInt8) : Sb × Int :=
  if (takeV bs).2 ≠ 0 then ((0, 0, 0, 0), (takeV bs).2) else if ofB d (takeV bs).1.2.1 (takeV bs).1.2.2.1 = true then ((takeV bs).1, 0) else ((0, 0, 0, 0), 1)

/-- A read that comes. -/
theorem sRead_tr {p : Nat} {d : D} (hok : Ok d) (ho : d.rd ≤ 1000) (hc : d.chk 0 = 0) (hb : d.burns = false) :
    Tr Try.prog 7 #[.pointer (some ⟨p, 0, none⟩)] [Dk p d] fun v M => v = .tuple #[.agg (sbV (rdV d (d.now 0)).1), .int .i64 (rdV d (d.now 0)).2] ∧ M = [Dk p { d.burnt with rd := d.rd + 1 }] := fun H hs => by
  have hnow := hok.now 0
  have hsz := hok.size
  have hbr := burnt_rd d
  apply W_super_Read.ok
  unfold W_super_Read
  refine hs.nw fun b1 H hs => ?_
  refine (Read_tr (p := p) (d := d) hok (by omega) 0).use hs [0] rfl rfl ?_
  rintro _ _ H (⟨h, _⟩ | ⟨_, h, _⟩ | ⟨_, _, b, c, m, rfl, hcc, rfl⟩) hs
  · exact absurd hc h
  · rw [hb] at h; cases h
  · simp only [DI_int', DB_bool, DS_string, DP_pointer, DSl_slice, DM_map, DA_agg, DTup_tuple, DCons_cons, DNil_nil, NN_some, BIf_true, BIf_false, BIf_same, List.toList_toArray, Bool.not_true, Bool.not_false]
    refine BIf_bnen rfl ?_
    have hcell : Cells H (some ⟨b, 0, none⟩) (byteVals (d.now 0)) := by
      have := Cells.row (hs.get 1 (b := b) (o := .row (byteVals (d.now 0)) 5 m) rfl) 0 d.size
      rw [List.drop_zero, List.take_of_length_le (by rw [byteVals_length]; omega)] at this
      exact this
    refine HCalls.use (Take_ok (some ⟨b, 0, none⟩) d.size c hcc (by omega) (d.now 0) hnow.symm H hcell) ?_
    simp only [DI_int', DB_bool, DS_string, DP_pointer, DSl_slice, DM_map, DA_agg, DTup_tuple, DCons_cons, DNil_nil, NN_some, BIf_true, BIf_false, BIf_same, List.toList_toArray, Bool.not_true, Bool.not_false]
    have hof : ∀ x y, ofB { d.burnt with rd := d.rd + 1 } x y = ofB d x y := fun x y => by
      unfold ofB
      show decide (x = (d.burnt.sec : Int) ∧ y = (d.burnt.size : Int)) = _
      rw [hbr.2.2.2.2.1, hbr.2.2.2.1]
    unfold rdV
    generalize takeV (d.now 0) = tv at *
    obtain ⟨⟨k, sec, s, ar⟩, e⟩ := tv
    have hs : Sep [Dk p { d.burnt with rd := d.rd + 1 }, pts b (.row (byteVals (d.now 0)) 5 m), pts b1 (.obj (.cells (supV 0 0 0 0) 23))] H := hs
    refine hs.nw fun b2 H hs => ?_
    refine hs.stw 3 (y := supV k sec s ar) rfl rfl rfl rfl fun H hs => ?_
    have hs : Sep [Dk p { d.burnt with rd := d.rd + 1 }, pts b (.row (byteVals (d.now 0)) 5 m), pts b1 (.obj (.cells (supV 0 0 0 0) 23)), pts b2 (.obj (.cells (supV k sec s ar) 23))] H := hs
    by_cases he : e = 0
    · refine BIf_bnen he ?_
      refine hs.ldw 3 rfl rfl ?_
      refine HCalls.use (of_ok hs 0 rfl k sec s ar) ?_
      rw [hof]
      simp only [DI_int', DB_bool, DS_string, DP_pointer, DSl_slice, DM_map, DA_agg, DTup_tuple, DCons_cons, DNil_nil, NN_some, BIf_true, BIf_false, BIf_same, List.toList_toArray, Bool.not_true, Bool.not_false]
      cases hob : ofB d sec s with
      | false =>
        refine BIf_pos rfl ?_
        refine hs.stw 2 rfl rfl rfl rfl fun H hs => ?_
        refine hs.ldw 2 rfl rfl ?_
        refine ⟨_, ⟨?_, rfl⟩, hs.re [0] rfl⟩
        rw [if_neg (by simpa using he), if_neg (by simp)]
        rfl
      | true =>
        refine BIf_neg rfl ?_
        refine hs.ldw 3 rfl rfl ?_
        refine hs.stw 2 rfl rfl rfl rfl fun H hs => ?_
        refine hs.ldw 2 rfl rfl ?_
        refine ⟨_, ⟨?_, rfl⟩, hs.re [0] rfl⟩
        rw [if_neg (by simpa using he), if_pos rfl]
        rfl
    · refine BIf_bnep he ?_
      refine hs.stw 2 rfl rfl rfl rfl fun H hs => ?_
      refine hs.ldw 2 rfl rfl ?_
      refine ⟨_, ⟨?_, rfl⟩, hs.re [0] rfl⟩
      rw [if_pos (by simpa using he)]
      rfl

/-- A read of a disk without power. -/
theorem sRead_down {p : Nat} {d : D} (hok : Ok d) (ho : d.rd ≤ 1000) (hc : d.down = true) :
    Tr Try.prog 7 #[.pointer (some ⟨p, 0, none⟩)] [Dk p d] fun v M => v = .tuple #[.agg (supV 0 0 0 0), .int .i64 8] ∧ M = [Dk p d] := fun H hs => by
  have hchk : d.chk 0 = 8 := by unfold D.chk; rw [if_pos hc]
  apply W_super_Read.ok
  unfold W_super_Read
  refine hs.nw fun b1 H hs => ?_
  refine (Read_tr (p := p) (d := d) hok (by omega) 0).use hs [0] rfl rfl ?_
  rintro _ _ H (⟨h, rfl, rfl⟩ | ⟨h, _, _⟩ | ⟨h, _⟩) hs
  · rw [hchk]
    simp only [DI_int', DB_bool, DS_string, DP_pointer, DSl_slice, DM_map, DA_agg, DTup_tuple, DCons_cons, DNil_nil, NN_some, BIf_true, BIf_false, BIf_same, List.toList_toArray, Bool.not_true, Bool.not_false]
    refine BIf_bnep (by omega) ?_
    refine hs.stw 1 rfl rfl rfl rfl fun H hs => ?_
    refine hs.ldw 1 rfl rfl ?_
    exact ⟨_, ⟨rfl, rfl⟩, hs.re [0] rfl⟩
  · rw [hchk] at h; cases h
  · rw [hchk] at h; cases h

end Go.Proofs.Ytbnhfcdagoigkaa.Sup
