import Derived.Test.YtnknippcbecmeaaGreatDoorPkRingPlays5
set_option maxRecDepth 100000
set_option linter.unusedSimpArgs false
set_option linter.unusedVariables false
set_option linter.unnecessarySimpa false
set_option linter.unusedSectionVars false
section
/- law 21: RingPlays, act by act. -/
namespace Go.Proofs.YtnknippcbecmeaaGreatDoor.Eng
open Go Go.Hw Go.Form W Dsk Str Rec Srt Rng
section
variable (K : Value → Hp → Prop) {H0 : Hp} (hK : ∀ H, H0.le H → K (.bool true) H) {p b b1 nn : Nat} (hnn : 2 ≤ nn ∧ nn ≤ 6) {A : Option Addr} {n m : Nat} {l : List Rng.Act} (hl : l.length = n) (hn : n ≤ 30) (hc : CellsS 12 H0 A (l.map Rng.actRow)) (hall : ∀ a ∈ l, Rng.OkA H0 a)
include hK hnn hl hn hc hall
theorem plays_loop : ∀ (t j : Nat) (d : D) (c : Cn) (H : Hp), j + t = n → Pl (100 * j) d c → Hw.Sep [own H0, Dk p d, pts b (ringO p 1 nn 0), pts b1 (extO nn)] H →
    W_abacistlaw21_RingPlays.l13 K (t + 1) A n m (some ⟨p, 0, none⟩) ⟨b1, 0, none⟩ (some ⟨b, 0, none⟩) (j : Int) H := fun t => by
  induction t with
  | zero =>
    intro j d c H hj hP hs
    unfold W_abacistlaw21_RingPlays.l13
    exact BIf_dneg (by omega) (hK H (hs.ow 0 rfl))
  | succ t ih =>
    intro j d c H hj hP hs
    have hjl : j < l.length := by omega
    have hOK := hall (l[j]'hjl) (List.getElem_mem _)
    unfold W_abacistlaw21_RingPlays.l13
    refine BIf_dpos (by omega) ?_
    have hrow : (l.map Rng.actRow)[j]? = some (Rng.actRow (l[j]'hjl)) := by rw [List.getElem?_map, List.getElem?_eq_getElem hjl]; rfl
    refine CellsS.rdA (hc.le (hs.ow 0 rfl)) hrow rfl rfl (by rw [List.length_map]; omega) ?_
    generalize l[j]'hjl = a at hOK
    refine hs.nw fun b2 H hs => ?_
    refine hs.stw 4 (y := (Rng.actRow a).toArray) rfl rfl rfl rfl fun H hs => ?_
    refine hs.ldw 3 rfl rfl ?_
    try simp only [Array.toArray_toList]
    have hrd := hP.rd
    refine look hnn hP.sh hP.sec hP.size (by omega) (hs.re [1, 0, 2, 3, 4] rfl) fun A4 m4 H hm4 hs => ?_
    have hP1 : Pl (100 * j + 6) (D.rdN d nn) c := (hP.up (Upto.rdN d nn) (hP.sh.rdN nn)).more (by omega)
    have hlen := riL_len c nn
    have hwf := riL_wf c nn
    generalize D.rdN d nn = d1 at hP1 hs
    have hs : Hw.Sep [own H0, Dk p d1, pts b (ringO p 1 nn 0), pts b1 (extO nn), pts b2 (actP a), Own 86 8 A4 (riL c nn).length m4 (recV (riL c nn))] H := hs.re [2, 1, 3, 4, 5, 0] rfl
    have go : ∀ d c H, Pl (100 * j + 100) d c → Hw.Sep [own H0, Dk p d, pts b (ringO p 1 nn 0), pts b1 (extO nn)] H → W_abacistlaw21_RingPlays.l13 K (t + 1) A n m (some ⟨p, 0, none⟩) ⟨b1, 0, none⟩ (some ⟨b, 0, none⟩) (IntKind.i64.wrap ((j : Int) + 1)) H := fun d c H hP hs => by
      rw [i64w (x := (j : Int) + 1) (by omega) (by omega)]
      exact ih (j + 1) d c H (by omega) (by rw [show 100 * (j + 1) = 100 * j + 100 by omega]; exact hP) hs
    have hB : 100 * j ≤ 10000 := by omega
    have hsA : (Rng.actRow a).toArray.size = 12 := rfl
    try simp only [NN_some, Addr.add_lit', Addr.add_zero, Nat.zero_add, Nat.add_zero]
    refine hs.ld 4 (v := .int .i64 a.k) rfl rfl ?_
    simp only [HV]
    by_cases h03 : 0 ≤ a.k ∧ a.k ≤ 3
    · have j24 : ∀ (a : Rng.Act) (H : Hp), a.r.wf → Hw.Sep [own H0, Dk p d1, pts b (ringO p 1 nn 0), pts b1 (extO nn), pts b2 (actP a), Own 86 8 A4 (riL c nn).length m4 (recV (riL c nn))] H → _ := fun a H hw hs => plays_j24 (K := K) (A := A) (n := n) (m := m) (j := j) hnn hB go hP1 hw hs
      have hl2 : ∀ hp : 0 < (riL c nn).length, (riL c nn).length - 1 < (riL c nn).length := fun hp => by omega
      have hcase : a.k = 0 ∨ a.k = 1 ∨ a.k = 2 ∨ a.k = 3 := by omega
      have a3 : a.k = 3 → (riL c nn).length > 0 → ∃ q : R, q.wf ∧ q.s < 281474976710656 ∧ (recV (riL c nn))[((riL c nn).length - 1) * 8 + 0]? = some (.int .u64 (q.s : Int)) := fun _ hp => by
        have hm := List.getElem_mem (hl2 hp)
        refine ⟨_, hwf _ hm, ?_, recV_seq _ _ (hl2 hp)⟩
        have hm2 := (riL_perm c nn).mem_iff.1 hm
        obtain ⟨j, _, _, h3⟩ := (stC_mem c 1 nn _ nn 0).1 hm2
        obtain ⟨h4, _, h5⟩ := stand_mem.1 h3
        rw [h5]; exact (takeV_good h4).2.1
      rcases hcase with e | e | e | e
      · refine BIf_beqp e (BIf_beqp e ?_)
        refine hs.ld 4 (v := .int .i64 a.k) rfl rfl ?_
        simp only [HV]
        exact BIf_beqn (by omega) (j24 a H hOK.wf hs)
      · refine BIf_beqn (by omega) (BIf_beqp e (BIf_beqp e ?_))
        refine hs.ld 4 (v := .int .i64 a.k) rfl rfl ?_
        simp only [HV]
        exact BIf_beqn (by omega) (j24 a H hOK.wf hs)
      · refine BIf_beqn (by omega) (BIf_beqn (by omega) (BIf_beqp e (BIf_beqp e ?_)))
        refine hs.ld 4 (v := .int .i64 a.k) rfl rfl ?_
        simp only [HV]
        exact BIf_beqn (by omega) (j24 a H hOK.wf hs)
      · refine BIf_beqn (by omega) (BIf_beqn (by omega) (BIf_beqn (by omega) (BIf_beqp e ?_)))
        refine hs.ld 4 (v := .int .i64 a.k) rfl rfl ?_
        simp only [HV]
        refine BIf_beqp e ?_
        by_cases hp : ((riL c nn).length : Int) > 0
        · refine BIf_dpos hp ?_
          obtain ⟨q, hqw, hq, hget⟩ := a3 e (by omega)
          have e2 : IntKind.i64.wrap (((riL c nn).length : Int) - 1) = (((riL c nn).length - 1 : Nat) : Int) := by rw [i64w (by omega) (by omega)]; omega
          rw [e2]
          refine (hs.own 5 rfl).rd rfl 0 (by omega) hget ?_
          simp only [HV]
          try simp only [NN_some, Addr.add_lit', Addr.add_zero, Nat.zero_add, Nat.add_zero]
          refine hs.st 4 rfl (by show 2 < 12; omega) rfl fun H hs => ?_
          rw [u64w (x := (q.s : Int) + 1) (by omega) (by omega)] at hs
          have w := hOK.wf
          exact j24 { a with r := { a.r with s := q.s + 1 } } H ⟨by show q.s + 1 < 2 ^ 64; omega, w.kd, w.kk, w.dir, w.ps, ⟨w.u.ld, w.u.inp, w.u.out⟩⟩ hs
        · exact BIf_dneg hp (j24 a H hOK.wf hs)
    · refine BIf_beqn (by omega) (BIf_beqn (by omega) (BIf_beqn (by omega) (BIf_beqn (by omega) ?_)))
      by_cases h4 : a.k = 4
      · refine BIf_beqp h4 ?_
        try simp only [NN_some, Addr.add_lit', Addr.add_zero, Nat.zero_add, Nat.add_zero]
        refine (Crash_tr (p := p) (d := d1)).use hs [1] rfl rfl ?_
        rintro _ _ H ⟨rfl, rfl⟩ hs
        exact plays_j35 hnn hB go hP1 hOK (hs.re [1, 0, 2, 3, 4] rfl)
      refine BIf_beqn h4 ?_
      by_cases h6 : a.k = 6
      · refine BIf_beqp h6 ?_
        have h1 := hP1.wr; have h2 := hP1.sy; have h3 := hP1.rd
        refine (Clear_tr (b := b) (p := p) (f := 1) (n := nn) (w := 0) (d := d1) (by omega) hP1.sh.ok (by omega) (by omega)).use hs [1, 2] rfl rfl ?_
        rintro _ _ H ⟨rfl, rfl⟩ hs
        obtain ⟨d', e, hS', _, hup⟩ := clr_shows 1 nn 0 hP1.sh (by have := hP1.sec; omega)
        rw [e] at hs ⊢
        have hP2 := hP1.up hup hS'
        have hno : riL (zeroC c 1 d1.size nn 0) nn = [] := by
          have h0 : stC (zeroC c 1 d1.size nn 0) 1 nn nn 0 = [] := zeroC_none c (by rw [hP1.size]; exact sec32)
          have := riL_perm (zeroC c 1 d1.size nn 0) nn
          rw [h0] at this
          exact this.eq_nil
        generalize zeroC c 1 d1.size nn 0 = c' at hS' hP2 hno
        have h5 := hP2.rd
        simp only [HV]
        refine BIf_bnen rfl ?_
        have hs : Hw.Sep [Dk p d', pts b (ringO p 1 nn 0), own H0, pts b1 (extO nn), pts b2 (actP a), Own 86 8 A4 (riL c nn).length m4 (recV (riL c nn))] H := hs
        refine hs.ldw 3 rfl rfl ?_
        try simp only [Array.toArray_toList]
        refine look hnn hS' hP2.sec hP2.size (by omega) (hs.re [0, 1, 2, 3] rfl) fun A10 m10 H hm10 hs => ?_
        refine BIf_bnen (by rw [hno]; rfl) ?_
        exact plays_end hnn hB go ((hP2.up (Upto.rdN d' nn) (hS'.rdN nn)).more (by omega)) (hs.re [3, 1, 2, 4] rfl)
      refine BIf_beqn h6 ?_
      by_cases h7 : a.k = 7
      · refine BIf_beqp h7 ?_
        obtain ⟨q, hq7, hq⟩ := and7 a.i
        have hqm : q % nn < nn := Nat.mod_lt _ (by omega)
        have hidx : IntKind.i64.wrap ((1 : Int) + Int.tmod (bAnd .i64 a.i 7) (nn : Int)) = ((1 + q % nn : Nat) : Int) := by
          rw [hq, show Int.tmod (q : Int) (nn : Int) = ((q % nn : Nat) : Int) from rfl, i64w (by omega) (by omega)]; omega
        have h1 := hP1.wr
        have hsec := hP1.sec
        have hlA := laidL_len a.b
        obtain ⟨w1, w2, w3⟩ := hP1.sh.wrote (k := 1 + q % nn) (b := laidL a.b) (by omega) (by rw [hlA, hP1.size])
        have hup := hP1.sh.upW (1 + q % nn : Nat) (laidL a.b)
        have fin : ∀ {H : Hp} {x : Nat}, Hw.Sep [pts x (.row (byteVals (laidL a.b)) 5 32), own H0, Dk p d1, pts b (ringO p 1 nn 0), pts b1 (extO nn)] H →
            HCalls Tryz.prog 35 #[.pointer (some ⟨p, 0, none⟩), .int .i64 ((1 + q % nn : Nat) : Int), .slice (some ⟨x, 0, none⟩) 32 32] H fun v54 H43 => DI .i64 v54 fun x29 => W_abacistlaw21_RingPlays.j43 K (W_abacistlaw21_RingPlays.l13 K (t + 1)) A n m (some ⟨p, 0, none⟩) ⟨b1, 0, none⟩ (some ⟨b, 0, none⟩) (j : Int) H43 := fun {H x} hs => by
          refine (Write_tr (p := p) (d := d1) hP1.sh.ok (by omega) ((1 + q % nn : Nat) : Int) (some ⟨x, 0, none⟩) 32 32 (laidL a.b) hlA.symm (pts x (.row (byteVals (laidL a.b)) 5 32)) (fun H h => by
            have := Cells.row h 0 (byteVals (laidL a.b)).length
            rwa [List.drop_zero, List.take_length] at this)).use hs [2, 0] rfl rfl ?_
          rintro _ _ H ⟨rfl, rfl⟩ hs
          simp only [HV]
          rw [w2] at hs
          exact plays_end hnn hB go ((hP1.up hup w3).more (by omega)) (hs.re [2, 0, 3, 4] rfl)
        have lai : ∀ H, H0.le H → Cells H a.A' (byteVals a.b) := fun H h => hOK.b.le h
        have hn0 : (nn : Int) ≠ 0 := by omega
        repeat' first
          | exact fin (hs.re [0, 2, 3, 4, 5] rfl)
          | exact fin (hs.re [0, 1, 2, 3, 4] rfl)
          | refine hs.ld 4 (v := .slice a.A' a.n' a.m') rfl rfl ?_
          | refine hs.ld 4 (v := .int .i64 a.i) rfl rfl ?_
          | refine hs.ld 5 (v := .int .i64 a.i) rfl rfl ?_
          | refine hs.ld 3 (v := .int .i64 (nn : Int)) rfl rfl ?_
          | refine hs.ld 4 (v := .int .i64 (nn : Int)) rfl rfl ?_
          | exact hn0
          | (refine (laid_tr (A := a.A') (n := a.n') (m := a.m') (bs := a.b) (R := own H0) hOK.n' lai).use hs [0] rfl rfl ?_; rintro _ _ H ⟨x, rfl, rfl⟩ hs)
          | rw [hidx]
          | (simp only [HV]; try simp only [NN_some, Addr.add_lit', Addr.add_zero, Nat.zero_add, Nat.add_zero])
          | refine ⟨?_, ?_⟩
      · refine BIf_beqn h7 ?_
        exact plays_end hnn hB go (hP1.more (by omega)) (hs.re [0, 1, 2, 3] rfl)
end
theorem RingPlays_ok (x : Nat) (hx : x ≤ 255) (A : Option Addr) (n m : Nat) (l : List Rng.Act) (hl : l.length = n) (H : Hp) (hc : CellsS 12 H A (l.map Rng.actRow)) (hall : ∀ a ∈ l, Rng.OkA H a) :
    HCalls Tryz.prog 4 #[.int .u8 (x : Int), .slice A n m] H (Ret (.bool true) H) := by
  apply W_abacistlaw21_RingPlays.ok
  unfold W_abacistlaw21_RingPlays
  refine HCalls.use (Rng.awake_ok H) ?_
  try simp only [HV]
  refine (Rng.few_ok A n m l hl H hc).mono ?_
  rintro _ _ ⟨rfl, c, rfl, hf⟩
  simp only [HV]
  cases c with
  | false => exact BIf_pos rfl ⟨rfl, Hp.le_refl _⟩
  | true =>
    refine BIf_neg rfl ?_
    have hn := (hf rfl).1
    refine (Dsk.New_tr 10 32 (by omega) (by decide) (by omega)).use (Sep.start _) [] rfl rfl ?_
    rintro _ _ H1 ⟨p, rfl, rfl⟩ hs
    simp only [HV]
    refine ⟨by decide, by simp, ?_⟩
    rw [i64n (n := x) (by omega), show Int.tmod (x : Int) 5 = ((x % 5 : Nat) : Int) from rfl, i64w (x := (2 : Int) + ((x % 5 : Nat) : Int)) (by omega) (by omega), show (2 : Int) + ((x % 5 : Nat) : Int) = ((2 + x % 5 : Nat) : Int) by omega]
    generalize hnn : 2 + x % 5 = nn
    refine hs.nw fun b1 H1 hs => ?_
    refine hs.stw 2 rfl rfl rfl rfl fun H1 hs => ?_
    refine BIf_neg rfl ?_
    refine hs.ldw 2 rfl rfl ?_
    have hok : Ok (D.fresh 10 32) := Ok.fresh (by omega) (by decide) (by omega)
    refine (Rng.New_tr (p := p) hok 1 (nn : Int) 0 (by omega)).use hs [0] rfl rfl ?_
    rintro _ _ H1 (⟨he, b, rfl, rfl⟩ | ⟨he, _⟩) hs
    · simp only [HV]
      refine BIf_neg rfl (BIf_bnen rfl ?_)
      have hs : Hw.Sep [Dk p (D.fresh 10 32), pts b (ringO p 1 nn 0), own _, pts b1 (extO nn)] H1 := hs
      refine QCall.use (Slots_s hs 1 rfl) ?_
      simp only [HV]
      try simp only [NN_some, Addr.add_lit', Addr.add_zero, Nat.zero_add, Nat.add_zero]
      refine hs.ld 3 (v := .int .i64 (nn : Int)) rfl rfl ?_
      simp only [HV]
      refine BIf_bnen rfl ⟨n + 1, ?_⟩
      have hcl := Clean.fresh (sec := 10) (size := 32) (by omega) (by decide) (by omega)
      exact plays_loop _ (fun H h => ⟨rfl, h⟩) (by omega) hl hn hc hall n 0 (D.fresh 10 32) (fun _ => List.replicate 32 0) H1 (by omega) ⟨⟨hcl.ok, hcl.dom, rfl, rfl, hcl.now⟩, rfl, rfl, Nat.le_refl _, Nat.le_refl _, Nat.le_refl _⟩ (hs.re [2, 0, 1, 3] rfl)
    · have : extB (D.fresh 10 32) 1 (nn : Int) = true := decide_eq_true ⟨by omega, by omega, by show (1 : Int) < ((10 : Nat) : Int); omega, by show (nn : Int) ≤ ((10 : Nat) : Int) - 1; omega⟩
      rw [this] at he; cases he
end Go.Proofs.YtnknippcbecmeaaGreatDoor.Eng
end
