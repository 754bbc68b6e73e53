import Derived.Test.YtnknippcbecmeaaGreatDoorProg
import Derived.Test.YtnknippcbecmeaaGreatDoorPkExecAll6
set_option maxRecDepth 100000
set_option linter.unusedSimpArgs false
set_option linter.unusedVariables false
set_option linter.unnecessarySimpa false
set_option linter.unusedSectionVars false
section
/- What a disk holds: appended records, words written. -/
namespace Go.Proofs.YtnknippcbecmeaaGreatDoor.Eng
open Go Go.Hw Go.Form Dsk Str Rec Srt Rng Pln Trn
theorem room_ge {k p : Nat} (hp : 1 ≤ p) : 2 ^ k ≤ Lay.roomN k p * p := by
  have h1 := Nat.two_pow_pos k
  have h2 := Nat.div_add_mod (2 ^ k - 1) p
  have h3 := Nat.mod_lt (2 ^ k - 1) (show p > 0 by omega)
  unfold Lay.roomN
  rw [Nat.add_mul, Nat.mul_comm, Nat.one_mul]; omega
theorem room_mono {k m p : Nat} (h : k ≤ m) : Lay.roomN k p ≤ Lay.roomN m p := by
  have h1 : 2 ^ k ≤ 2 ^ m := Nat.pow_le_pow_right (by omega) h
  unfold Lay.roomN
  have := Nat.div_le_div_right (c := p) (show 2 ^ k - 1 ≤ 2 ^ m - 1 by omega)
  omega
theorem perN_size {s : Nat} (h : 0 < Lay.perN s) : Lay.perN s = s / 8 ∧ 4 ≤ s / 8 ∧ s / 8 ≤ 512 ∧ 8 * (s / 8) = s := by
  have : s = 32 ∨ s = 64 ∨ s = 128 ∨ s = 256 ∨ s = 512 ∨ s = 1024 ∨ s = 2048 ∨ s = 4096 := by
    unfold Lay.perN at h
    repeat' split at h
    all_goals omega
  rcases this with e | e | e | e | e | e | e | e <;> subst e <;> decide
theorem good_of {m sec s : Nat} {ar : Int} (h : Sup.goodB (m : Int) sec s ar = true) : m ≤ 32 ∧ 0 < Lay.perN s ∧ Lay.needN m (s / 8) ≤ sec ∧ 1 ≤ ar ∧ ar ≤ 16777216 := by
  have h1 := of_decide_eq_true h
  have h3 := h1.2.2.1
  have h2 := perN_size h3
  rw [h2.1, Int.toNat_natCast] at h1
  exact ⟨by omega, h3, by omega, h1.2.2.2.2⟩
theorem Holds.per {sec size : Nat} {m : Mn} {c : Cn} (h : Holds sec size m c) : 4 ≤ size / 8 ∧ size / 8 ≤ 512 ∧ 8 * (size / 8) = size := (perN_size (good_of h.good).2.1).2
end Go.Proofs.YtnknippcbecmeaaGreatDoor.Eng
end
section
/- An engine's calls, as they change what a disk holds. -/
namespace Go.Proofs.YtnknippcbecmeaaGreatDoor.Eng
open Go Go.Hw Go.Form Dsk Str Rec Srt Rng Pln Trn
def Mn.r (m : Mn) : R := m.L.getLast?.getD zeroR
def Mn.add (m : Mn) (r : R) : Mn := { m with L := m.L ++ [r] }
theorem Mn.add_r (m : Mn) (r : R) : (m.add r).r = r := by unfold Mn.r Mn.add; simp
structure Small (B : Nat) (m : Mn) : Prop where
  len : m.L.length ≤ B
  ld : m.r.ld ≤ B
theorem Small.add {B : Nat} {m : Mn} (h : Small B m) {r : R} (hr : r.ld ≤ B + 1) : Small (B + 1) (m.add r) := ⟨by unfold Mn.add; have := h.len; simp; omega, by rw [Mn.add_r]; exact hr⟩
section
variable {sec size : Nat} {m : Mn} {c : Cn} (h : Holds sec size m c) {B : Nat} (hs : Small B m) (hB : B ≤ 1000000)
include h hs hB
end
theorem planL_len (d : Bool) (k per words : Nat) : 1 ≤ (planL d k per words).length ∧ (planL d k per words).length ≤ 5 := by
  unfold planL longP; split <;> simp
section
variable {sec size : Nat} {m : Mn} {c : Cn} (h : Holds sec size m c) {B : Nat} (hs : Small B m) (hB : B ≤ 1000000)
include h hs hB
end
end Go.Proofs.YtnknippcbecmeaaGreatDoor.Eng
end
section
/- stream: a small arena; Copy. -/
namespace Go.Proofs.YtnknippcbecmeaaGreatDoor.Str
open Go Go.Hw Go.Form W Dsk Are
section
variable {p q dp ap bp bq bt b rb mb : Nat} {d : D} {x y : X} {cap peak : Int} {bufs : List (Nat × Nat × Option Addr)} {ws : List UInt64}
end
end Go.Proofs.YtnknippcbecmeaaGreatDoor.Str
end
section
/- stream: each, with Copy's function. -/
namespace Go.Proofs.YtnknippcbecmeaaGreatDoor.Str
open Go Go.Hw Go.Form W Dsk Are
structure CopyI (d d' : D) (x y : X) (i k : Nat) : Prop where
  ok : Ok d'
  calm : Calm d'
  size : d'.size = d.size
  sec : d'.sec = d.sec
  rd : d'.rd ≤ d.rd + 1000 * i
  wr : d'.wr ≤ d.wr + 1000 * i
  src : ∀ j, j < x.w → pw d' x j = pw d x j
  dst : ∀ j, j < k → pw d' y j = pw d x j
theorem CopyI.per {d d' : D} {x y : X} {i k : Nat} (h : CopyI d d' x y i k) : D.per d' = D.per d := by unfold D.per; rw [h.size]
theorem DR_int {P : Program} {g : FuncId} {t : TypeId} {k : IntKind} {n : Int} {K : Value → Prop} (h : resTypes P g = [t]) (hu : P.underlying t = some (.int k)) (hk : K (.int k n)) : DR P (resTypes P g) (.int k n) K := by
  rw [h]
  show DT P t _ K
  unfold DT
  rw [hu]
  simpa using hk
section
variable {p q dp ap bp bq bt b rb mb vb : Nat} {d : D} {x y : X} {cap peak P1 : Int} {bufs : List (Nat × Nat × Option Addr)}
theorem min_nat {per left : Nat} {l : Int} (h : l = left) : (if (per : Int) < l then (per : Int) else l) = ((if per < left then per else left : Nat) : Int) := by
  subst h
  by_cases c : per < left
  · rw [if_pos c, if_pos (by omega)]
  · rw [if_neg c, if_neg (by omega)]
end
end Go.Proofs.YtnknippcbecmeaaGreatDoor.Str
end
section
/- stream: Copy; words that are the same. -/
namespace Go.Proofs.YtnknippcbecmeaaGreatDoor.Str
open Go Go.Hw Go.Form W Dsk Are
section
variable {p q dp ap : Nat} {d : D} {x y : X} {cap peak : Int} {bufs : List (Nat × Nat × Option Addr)}
end
end Go.Proofs.YtnknippcbecmeaaGreatDoor.Str
end
section
/- stream: each, with any function; Fill. -/
namespace Go.Proofs.YtnknippcbecmeaaGreatDoor.Str
open Go Go.Hw Go.Form W Dsk Are
theorem cat2 (a b c d e : Value) : ((#[] ++ #[a, b, c]) ++ #[d, e] : Array Value) = #[a, b, c, d, e] := rfl
section
variable {p dp ap bp : Nat} {d : D} {x : X} {cap peak : Int} {bufs : List (Nat × Nat × Option Addr)} {B : As}
def eachL (p dp ap bp b rb mb vb : Nat) (d : D) (x : X) (cap pk : Int) (bufs : List (Nat × Nat × Option Addr)) (per : Nat) (ws : List UInt64) (B : As) : List As :=
  [pts p (pipO dp ap x), Dk dp d, Ar ap cap pk (bufs ++ [(b, per, some ⟨rb, 0, none⟩)]), pts rb (.row (wordVals ws) 60 mb), pts bp (.obj (.cells #[.pointer (some ⟨p, 0, none⟩)] 116)), B, pts vb (.row [.pointer (some ⟨b, 0, none⟩)] 164 1)]
theorem each_start2 (K : Value → Hp → Prop) (f : FuncId) (C : Array Value) (hok : Ok d) (hcap : (D.per d : Int) ≤ cap - sumB bufs) {H : Hp}
    (hs : Sep [pts p (pipO dp ap x), Dk dp d, Ar ap cap peak bufs, pts bp (.obj (.cells #[.pointer (some ⟨p, 0, none⟩)] 116)), B] H)
    (k : ∀ b rb vb H, (∀ z ∈ bufs, z.1 ≠ b) → Sep (eachL p dp ap bp b rb (D.per d) vb d x cap (mx peak (sumB bufs + D.per d)) bufs (D.per d) (List.replicate (D.per d) 0) B) H →
      ∃ t, W_stream_Pipe_each.l6 K t (some ⟨p, 0, none⟩) f #[] C (some ⟨b, 0, none⟩) 0 (x.w : Int) (x.f : Int) (some ⟨ap, 0, none⟩) (some ⟨vb, 0, none⟩) 1 1 H) :
    HCalls Tryz.prog 93 #[.pointer (some ⟨p, 0, none⟩), .func (.func f) #[] C] H K := by
  have hp := Ok.per_le hok
  apply W_stream_Pipe_each.ok
  unfold W_stream_Pipe_each
  simp only [NN_some, Addr.add_lit', Addr.add_zero, Nat.zero_add, Nat.add_zero]
  have rest : ∀ (b rb : Nat) (H : Hp), (∀ y ∈ bufs, y.1 ≠ b) → Sep [Ar ap cap (if sumB bufs + D.per d > peak then sumB bufs + D.per d else peak) (bufs ++ [(b, D.per d, some ⟨rb, 0, none⟩)]), pts rb (.row (zerosU64 (D.per d)) 60 (D.per d)), pts p (pipO dp ap x), Dk dp d, pts bp (.obj (.cells #[.pointer (some ⟨p, 0, none⟩)] 116)), B] H →
      W_stream_Pipe_each.j2 K (some ⟨p, 0, none⟩) f #[] C (some ⟨b, 0, none⟩) 0 H := fun b rb H hbm hs => by
    unfold W_stream_Pipe_each.j2
    refine BIf_bnen rfl ?_
    simp only [NN_some, Addr.add_lit', Addr.add_zero, Nat.zero_add, Nat.add_zero]
    refine hs.ld 2 rfl rfl ?_
    simp only [HV]
    refine hs.nw fun vb H hs => ?_
    refine QCall.use (words_s hs 2 rfl) ?_
    simp only [HV]
    refine hs.ld 2 rfl rfl ?_
    simp only [HV]
    have hz : zerosU64 (D.per d) = wordVals (List.replicate (D.per d) 0) := by
      unfold zerosU64
      rw [zeroRow_one]
      unfold wordVals
      rw [List.map_replicate]; rfl
    rw [hz] at hs
    exact k b rb vb H hbm (hs.re [2, 3, 0, 1, 4, 5, 6] rfl)
  have fresh : ∀ {L : List As} {H : Hp} (b rb : Nat) (pk : Int), Sep L H → L[0]? = some (Ar ap cap pk (bufs ++ [(b, D.per d, some ⟨rb, 0, none⟩)])) → ∀ y ∈ bufs, y.1 ≠ b := fun b rb pk hs h0 y hy e => by
    obtain ⟨mp, cl, tk, hA⟩ := Sep.ar hs 0 h0
    have := hA.bn
    rw [List.map_append, List.nodup_append] at this
    exact this.2.2 y.1 (List.mem_map_of_mem hy) b (by simp) e
  refine ⟨?_, ?_⟩
  · refine hs.ld 0 rfl rfl ?_
    simp only [HV]
    refine HCalls.use (per_s hs 0 1 rfl rfl hok) ?_
    try simp only [HV]
    refine (Take_tr (a := ap) (cap := cap) (peak := peak) (bufs := bufs) (n := D.per d) (by omega) hcap).use hs [2] rfl rfl ?_
    rintro _ _ H ⟨b, rb, rfl, rfl⟩ hs
    simp only [HV]
    exact rest b rb H (fresh b rb _ hs rfl) hs
  · refine HCalls.use (per_s hs 0 1 rfl rfl hok) ?_
    try simp only [HV]
    refine hs.ld 0 rfl rfl ?_
    simp only [HV]
    refine (Take_tr (a := ap) (cap := cap) (peak := peak) (bufs := bufs) (n := D.per d) (by omega) hcap).use hs [2] rfl rfl ?_
    rintro _ _ H ⟨b, rb, rfl, rfl⟩ hs
    simp only [HV]
    exact rest b rb H (fresh b rb _ hs rfl) hs
end
section
variable {p dp ap bp bw b rb mb : Nat} {d : D} {x : X} {cap peak : Int} {bufs : List (Nat × Nat × Option Addr)}
end
end Go.Proofs.YtnknippcbecmeaaGreatDoor.Str
end
section
/- stream: Fill. -/
namespace Go.Proofs.YtnknippcbecmeaaGreatDoor.Str
open Go Go.Hw Go.Form W Dsk Are
section
variable {p dp ap bp bw b rb mb vb : Nat} {d : D} {x : X} {cap peak pk : Int} {bufs : List (Nat × Nat × Option Addr)}
end
end Go.Proofs.YtnknippcbecmeaaGreatDoor.Str
end
section
/- stream: Sum. -/
namespace Go.Proofs.YtnknippcbecmeaaGreatDoor.Str
open Go Go.Hw Go.Form W Dsk Are
section
variable {p dp ap bp bc b rb mb vb : Nat} {d : D} {x : X} {cap peak pk : Int} {bufs : List (Nat × Nat × Option Addr)}
def ctr (bc : Nat) (ws : List UInt64) : As := pts bc (CrcP.counter (Go.Crc.sum (form ws)) (8 * ws.length))
def sumC (bp bc : Nat) : Array Value := #[.pointer (some ⟨bp, 0, none⟩), .pointer (some ⟨bc, 0, none⟩)]
end
end Go.Proofs.YtnknippcbecmeaaGreatDoor.Str
end
section
/- stream: Sum, at every fuse. -/
namespace Go.Proofs.YtnknippcbecmeaaGreatDoor.Str
open Go Go.Hw Go.Form W Dsk Are
def nS (per w : Nat) : Nat := (w + per - 1) / per
theorem nS_lt {per w i : Nat} (hp : 1 ≤ per) : i < nS per w ↔ i * per < w := by
  unfold nS
  rw [Nat.lt_iff_add_one_le, Nat.le_div_iff_mul_le (by omega), Nat.succ_mul]; omega
section
variable {p dp ap bp bc b rb mb vb : Nat} {d : D} {x : X} {cap peak pk : Int} {bufs : List (Nat × Nat × Option Addr)}
theorem Sum1_g {ws pre : List UInt64} (hok : Ok d) (hl : d.down = false) (ho : d.rd ≤ 4611685000000000000) (s n : Nat) (hs1 : s < d.sec) (hn2 : n ≤ D.per d) (hpre : pre.length ≤ 1000000000)
    (hbm : (b, D.per d, some ⟨rb, 0, none⟩) ∈ bufs) (hws : ws.length = D.per d) :
    Tr Tryz.prog 94 #[.int .i64 s, .int .i64 n, .pointer (some ⟨b, 0, none⟩), .pointer (some ⟨bp, 0, none⟩), .pointer (some ⟨bc, 0, none⟩)]
      [pts p (pipO dp ap x), Dk dp d, Ar ap cap peak bufs, pts rb (.row (wordVals ws) 60 mb), pts bp (.obj (.cells #[.pointer (some ⟨p, 0, none⟩)] 116)), ctr bc pre] fun v M =>
      (d.fuse ≠ 1 ∧ v = .int .i64 0 ∧ M = [pts p (pipO dp ap x), Dk dp (D.mr d), Ar ap cap peak bufs, pts rb (.row (wordVals (wordsB (d.now s))) 60 mb), pts bp (.obj (.cells #[.pointer (some ⟨p, 0, none⟩)] 116)), ctr bc (pre ++ (wordsB (d.now s)).take n)]) ∨
      (d.fuse = 1 ∧ v = .int .i64 8 ∧ M = [pts p (pipO dp ap x), Dk dp (D.dead d), Ar ap cap peak bufs, pts rb (.row (wordVals ws) 60 mb), pts bp (.obj (.cells #[.pointer (some ⟨p, 0, none⟩)] 116)), ctr bc pre]) := fun H hs => by
  have hp := Ok.per_le hok
  have hwl : (wordsB (d.now (s : Int))).length = D.per d := by rw [wordsB_len, hok.now]; rfl
  have htl : ((wordsB (d.now (s : Int))).take n).length = n := by rw [List.length_take]; omega
  apply W_stream_Pipe_Sum_1.ok
  unfold W_stream_Pipe_Sum_1
  try simp only [NN_some, Addr.add_lit', Addr.add_zero, Nat.zero_add, Nat.add_zero]
  refine hs.ld 4 rfl rfl ?_
  simp only [HV]
  try simp only [NN_some, Addr.add_lit', Addr.add_zero, Nat.zero_add, Nat.add_zero]
  refine (load_g (p := p) (ap := ap) (x := x) (cap := cap) (peak := peak) (b := b) (rb := rb) (m := mb) hok hl (by omega) (s : Int) (Int.natCast_nonneg _) (Int.ofNat_lt.2 hs1) hbm (xs := wordVals ws) (by rw [wordVals_length]; exact hws)).use hs [0, 1, 2, 3] rfl rfl ?_
  rintro _ _ H (⟨hf, rfl, rfl⟩ | ⟨hf, rfl, rfl⟩) hs
  · simp only [HV]
    refine BIf_beqp rfl ?_
    refine HCalls.use (Words_s hs 2 rfl hbm) ?_
    simp only [HV]
    refine slB_to rfl (by omega) ?_
    rw [slA_zero, Nat.sub_zero, Nat.sub_zero]
    have hcell : Cells H (some ⟨rb, 0, none⟩) (wordVals ((wordsB (d.now (s : Int))).take n)) := by
      have := Cells.row (hs.get 3 (b := rb) (o := .row (wordVals (wordsB (d.now (s : Int)))) 60 mb) rfl) 0 n
      rw [List.drop_zero] at this
      rw [show wordVals ((wordsB (d.now (s : Int))).take n) = (wordVals (wordsB (d.now (s : Int)))).take n by unfold wordVals; rw [List.map_take]]
      exact this
    have hs : Sep [pts p (pipO dp ap x), Dk dp (D.mr d), Ar ap cap peak bufs, pts rb (.row (wordVals (wordsB (d.now (s : Int)))) 60 mb), pts bp (.obj (.cells #[.pointer (some ⟨p, 0, none⟩)] 116)), pts bc (CrcP.counter (Go.Crc.sum (form pre)) (8 * pre.length))] H := hs
    refine HCalls.use (CrcP.AddWords_ok bc (Go.Crc.sum (form pre)) (8 * pre.length) (some ⟨rb, 0, none⟩) n (D.per d) ((wordsB (d.now (s : Int))).take n) htl.symm H (hs.get 5 rfl) hcell (by omega) (by omega)) ?_
    have hs2 := hs.put 5 (CrcP.counter (Go.Crc.more (Go.Crc.sum (form pre)) (form ((wordsB (d.now (s : Int))).take n))) (8 * pre.length + 8 * n)) rfl
    refine ⟨_, .inl ⟨hf, by first | rfl | trivial, rfl⟩, ?_⟩
    have e : ctr bc (pre ++ (wordsB (d.now (s : Int))).take n) = pts bc (CrcP.counter (Go.Crc.more (Go.Crc.sum (form pre)) (form ((wordsB (d.now (s : Int))).take n))) (8 * pre.length + 8 * n)) := by
      unfold ctr
      rw [List.length_append, htl, Nat.mul_add]
      have : form (pre ++ (wordsB (d.now (s : Int))).take n) = form pre ++ form ((wordsB (d.now (s : Int))).take n) := by unfold form; rw [List.flatMap_append]
      rw [this]
      unfold Go.Crc.sum
      rw [Go.Crc.more_append]
    rw [e]
    exact hs2
  · simp only [HV]
    refine BIf_beqn (by decide) ?_
    exact ⟨_, .inr ⟨hf, by first | rfl | trivial, rfl⟩, hs⟩
def sumP (p dp ap : Nat) (d : D) (x : X) (cap pk : Int) (bufs : List (Nat × Nat × Option Addr)) (v : Value) (M : List As) : Prop :=
  ((d.fuse = 0 ∨ nS (D.per d) x.w < d.fuse) ∧ v = .tuple #[.int .u32 ((Go.Crc.sum (form (pws d x 0 x.w))).toNat : Int), .int .i64 0] ∧ M = [pts p (pipO dp ap x), Dk dp (D.rdG d (nS (D.per d) x.w)), Ar ap cap pk bufs]) ∨
  (∃ j, j < nS (D.per d) x.w ∧ d.fuse = j + 1 ∧ v = .tuple #[.int .u32 0, .int .i64 8] ∧ M = [pts p (pipO dp ap x), Dk dp (D.dead (D.rdG d j)), Ar ap cap pk bufs])
theorem each_sum_g (K : Value → Hp → Prop) (hok : Ok d) (hl : d.down = false) (hbm : ∀ z ∈ bufs, z.1 ≠ b) (hx : On d x) (ho : d.rd ≤ 3000000000000000000)
    (hK : ∀ H, (d.fuse = 0 ∨ nS (D.per d) x.w < d.fuse) → Sep [pts p (pipO dp ap x), Dk dp (D.rdG d (nS (D.per d) x.w)), Ar ap cap pk bufs, ctr bc (pws d x 0 x.w)] H → K (.int .i64 0) H)
    (hD : ∀ j H pre, j < nS (D.per d) x.w → d.fuse = j + 1 → Sep [pts p (pipO dp ap x), Dk dp (D.dead (D.rdG d j)), Ar ap cap pk bufs, ctr bc pre] H → K (.int .i64 8) H) :
    ∀ (t i : Nat) (ws : List UInt64) (H : Hp), x.w ≤ (i + t) * D.per d → i ≤ nS (D.per d) x.w → (d.fuse = 0 ∨ i < d.fuse) → ws.length = D.per d →
      Sep (eachL p dp ap bp b rb mb vb (D.rdG d i) x cap pk bufs (D.per d) ws (ctr bc (pws d x 0 (if i * D.per d < x.w then i * D.per d else x.w)))) H →
      W_stream_Pipe_each.l6 K (t + 2) (some ⟨p, 0, none⟩) 94 #[] (sumC bp bc) (some ⟨b, 0, none⟩) 0 ((x.w : Int) - ((i * D.per d : Nat) : Int)) ((x.f + i : Nat) : Int) (some ⟨ap, 0, none⟩) (some ⟨vb, 0, none⟩) 1 1 H := fun t => by
  have hp := Ok.per_le hok
  have hsec := hok.sec
  have hroom : x.s * D.per d ≤ 1048576 * 512 := Nat.mul_le_mul (by have := hx.fit; omega) (by omega)
  have h4 := hx.room
  have hw1 := hx.w1
  have hfit := hx.fit
  have fin : ∀ (i : Nat) (ws : List UInt64) (H : Hp), x.w ≤ i * D.per d → i ≤ nS (D.per d) x.w → (d.fuse = 0 ∨ i < d.fuse) → Sep (eachL p dp ap bp b rb mb vb (D.rdG d i) x cap pk bufs (D.per d) ws (ctr bc (pws d x 0 (if i * D.per d < x.w then i * D.per d else x.w)))) H →
      HCallsD Tryz.prog 84 #[.pointer (some ⟨ap, 0, none⟩), .slice (some ⟨vb, 0, none⟩) 1 1] H fun _ H9 => K (.int .i64 0) H9 := fun i ws H hi hie hfu hs => by
    have e : i = nS (D.per d) x.w := by
      rcases Nat.lt_or_ge i (nS (D.per d) x.w) with h | h
      · have := (nS_lt (by omega)).1 h; omega
      · omega
    rw [if_neg (by omega)] at hs
    unfold eachL at hs
    refine (Give_oneD vb b (D.per d) (some ⟨rb, 0, none⟩) hbm).use hs [2, 6] rfl rfl ?_
    rintro _ _ H ⟨rfl, rfl⟩ hs
    subst e
    exact hK H hfu (hs.re [1, 2, 0, 5] rfl)
  induction t with
  | zero =>
    intro i ws H hi hie hfu hws hs
    rw [Nat.add_zero] at hi
    unfold W_stream_Pipe_each.l6
    exact BIf_dneg (by omega) (fin i ws H hi hie hfu hs)
  | succ t ih =>
    intro i ws H hi hie hfu hws hs
    by_cases hlt : i * D.per d < x.w
    · have his : i < x.s := by
        apply Nat.lt_of_mul_lt_mul_right (a := D.per d)
        omega
      have hin := (nS_lt (per := D.per d) (w := x.w) (i := i) (by omega)).2 hlt
      have hokj := Ok.rdG hok i
      have hlj : (D.rdG d i).down = false := hl
      generalize hnv : (if D.per d < x.w - i * D.per d then D.per d else x.w - i * D.per d) = n
      have hn1 : 1 ≤ n ∧ n ≤ D.per d ∧ i * D.per d + n ≤ x.w := by rw [← hnv]; split <;> omega
      rw [if_pos hlt] at hs
      unfold eachL at hs
      unfold W_stream_Pipe_each.l6
      refine BIf_dpos (by omega) (BIf_beqp rfl ?_)
      try simp only [NN_some, Addr.add_lit', Addr.add_zero, Nat.zero_add, Nat.add_zero]
      refine HCalls.use (per_s hs 0 1 rfl rfl hokj) ?_
      try simp only [HV]
      rw [show D.per (D.rdG d i) = D.per d from rfl]
      refine BIf_pos (by kernel_rfl) ?_
      unfold sumC
      rw [cat2, min_nat (left := x.w - i * D.per d) (by omega), hnv]
      have hs1 : x.f + i < (D.rdG d i).sec := by show _ < d.sec; omega
      have ho1 : (D.rdG d i).rd ≤ 4611685000000000000 := by show d.rd + i ≤ _; omega
      have hpl : (pws d x 0 (i * D.per d)).length ≤ 1000000000 := by rw [pws_len]; omega
      refine (Sum1_g (p := p) (dp := dp) (ap := ap) (bp := bp) (bc := bc) (b := b) (rb := rb) (mb := mb) (d := D.rdG d i) (x := x) (cap := cap) (peak := pk) (bufs := bufs ++ [(b, D.per d, some ⟨rb, 0, none⟩)]) (ws := ws) (pre := pws d x 0 (i * D.per d)) hokj hlj ho1 (x.f + i) n hs1 hn1.2.1 hpl (List.mem_append_right _ (List.mem_singleton.2 rfl)) hws).use hs [0, 1, 2, 3, 4, 5] rfl rfl ?_
      have hwl : (wordsB (d.now ((x.f + i : Nat) : Int))).length = D.per d := by rw [wordsB_len, hok.now]; rfl
      have e1 : IntKind.i64.wrap ((x.w : Int) - ((i * D.per d : Nat) : Int) - (D.per d : Int)) = (x.w : Int) - (((i + 1) * D.per d : Nat) : Int) := by
        rw [i64w (by omega) (by omega), Nat.succ_mul]; omega
      have e2 : IntKind.i64.wrap (((x.f + i : Nat) : Int) + 1) = ((x.f + (i + 1) : Nat) : Int) := by
        rw [i64w (by omega) (by omega)]; omega
      rintro _ _ H (⟨hf, rfl, rfl⟩ | ⟨hf, rfl, rfl⟩) hs
      · refine DR_int (t := 55) (by kernel_rfl) (by kernel_rfl) ?_
        rw [rdG_mr] at hs
        simp only [HV]
        refine HCalls.use (per_s hs 0 1 rfl rfl (Ok.rdG hok (i + 1))) ?_
        try simp only [HV]
        rw [show D.per (D.rdG d (i + 1)) = D.per d from rfl, e1, e2]
        have hnext : i * D.per d + n = (if (i + 1) * D.per d < x.w then (i + 1) * D.per d else x.w) := by
          rw [Nat.succ_mul, ← hnv]
          split <;> split <;> omega
        have hpc : (wordsB (d.now ((x.f + i : Nat) : Int))).take n = pws d x (i * D.per d) n := by
          have := piece_words hok x (fr := i * D.per d) (k := n) (by rw [Nat.mul_mod_left]; omega)
          rw [Nat.mul_div_cancel _ (by omega), Nat.mul_mod_left, List.drop_zero] at this
          exact this
        have hpa : pws d x 0 (i * D.per d) ++ (wordsB (d.now ((x.f + i : Nat) : Int))).take n = pws d x 0 (i * D.per d + n) := by
          rw [pws_add, Nat.zero_add, hpc]
        have hf' : d.fuse - i ≠ 1 := hf
        refine ih (i + 1) (wordsB (d.now ((x.f + i : Nat) : Int))) H (by rw [show i + 1 + t = i + (t + 1) by omega]; exact hi) (by omega) (by omega) hwl ?_
        rw [← hnext, ← hpa]
        exact hs
      · refine DR_int (t := 55) (by kernel_rfl) (by kernel_rfl) ?_
        simp only [HV]
        have hf' : d.fuse - i = 1 := hf
        have hokd : Ok (D.dead (D.rdG d i)) := Ok.dead hokj
        refine HCalls.use (per_s hs 0 1 rfl rfl hokd) ?_
        try simp only [HV]
        rw [show D.per (D.dead (D.rdG d i)) = D.per d from rfl, e1, e2]
        unfold W_stream_Pipe_each.l6
        have give : HCallsD Tryz.prog 84 #[.pointer (some ⟨ap, 0, none⟩), .slice (some ⟨vb, 0, none⟩) 1 1] H fun _ H9 => K (.int .i64 8) H9 := by
          refine (Give_oneD vb b (D.per d) (some ⟨rb, 0, none⟩) hbm).use hs [2, 6] rfl rfl ?_
          rintro _ _ H ⟨rfl, rfl⟩ hs
          exact hD i H _ hin (by omega) (hs.re [1, 2, 0, 5] rfl)
        by_cases hgt : (x.w : Int) - (((i + 1) * D.per d : Nat) : Int) > 0
        · exact BIf_dpos hgt (BIf_beqn (by decide) give)
        · exact BIf_dneg hgt give
    · unfold W_stream_Pipe_each.l6
      exact BIf_dneg (by omega) (fin i ws H (by omega) hie hfu hs)
theorem SumG_tr (hok : Ok d) (hl : d.down = false) (hx : On d x) (ho : d.rd ≤ 3000000000000000000) (hcap : (D.per d : Int) ≤ cap - sumB bufs) :
    Tr Tryz.prog 56 #[.pointer (some ⟨p, 0, none⟩)] [pts p (pipO dp ap x), Dk dp d, Ar ap cap peak bufs] (sumP p dp ap d x cap (mx peak (sumB bufs + D.per d)) bufs) := fun H hs => by
  have hp := Ok.per_le hok
  apply W_stream_Pipe_Sum.ok
  unfold W_stream_Pipe_Sum
  refine hs.nw fun bp H hs => ?_
  refine hs.nw fun bc H hs => ?_
  refine hs.ld 3 rfl rfl ?_
  simp only [HV]
  have h0 : ctr bc [] = pts bc (.obj (.cells #[.int .u32 0, .int .i64 0] 182)) := by
    unfold ctr CrcP.counter
    rfl
  have hs : Sep [pts p (pipO dp ap x), Dk dp d, Ar ap cap peak bufs, pts bp (.obj (.cells #[.pointer (some ⟨p, 0, none⟩)] 116)), ctr bc []] H := by rw [h0]; exact hs
  refine each_start2 (peak := peak) (bufs := bufs) (cap := cap) (B := ctr bc []) _ 94 (sumC bp bc) hok hcap hs fun b rb vb H hbm hs => ?_
  have e9 : (x.w : Int) - ((0 * D.per d : Nat) : Int) = x.w := by rw [Nat.zero_mul]; omega
  have e0 : (if 0 * D.per d < x.w then 0 * D.per d else x.w) = 0 := by rw [Nat.zero_mul, if_pos (show 0 < x.w from hx.w1)]
  refine ⟨x.w + 2, ?_⟩
  have t := each_sum_g (p := p) (dp := dp) (ap := ap) (bp := bp) (bc := bc) (b := b) (rb := rb) (mb := D.per d) (vb := vb) (d := d) (x := x) (cap := cap) (pk := mx peak (sumB bufs + D.per d)) (bufs := bufs)
    (fun v2 H3 => DI .i64 v2 fun x1 => BIf (x1 != (0 : Int)) (∃ M, sumP p dp ap d x cap (mx peak (sumB bufs + D.per d)) bufs (.tuple #[.int .u32 0, .int .i64 x1] : Value) M ∧ Sep M H3)
      (HCalls Tryz.prog 96 #[.pointer (some (⟨bc, 0, none⟩ : Addr))] H3 fun v3 H4 => DI .u32 v3 fun x2 => ∃ M, sumP p dp ap d x cap (mx peak (sumB bufs + D.per d)) bufs (.tuple #[.int .u32 x2, .int .i64 0] : Value) M ∧ Sep M H4))
    hok hl hbm hx ho (fun H hfu hs => by
      simp only [HV]
      refine BIf_bnen rfl ?_
      have hs : Sep [pts p (pipO dp ap x), Dk dp (D.rdG d (nS (D.per d) x.w)), Ar ap cap (mx peak (sumB bufs + D.per d)) bufs, pts bc (CrcP.counter (Go.Crc.sum (form (pws d x 0 x.w))) (8 * (pws d x 0 x.w).length))] H := hs
      refine HCalls.use (CrcP.CSum_ok bc _ _ H (hs.get 3 rfl)) ?_
      try simp only [HV]
      exact ⟨_, .inl ⟨hfu, rfl, rfl⟩, hs.re [0, 1, 2] rfl⟩) (fun j H pre hj hfu hs => by
      simp only [HV]
      refine BIf_bnep (by decide) ?_
      exact ⟨_, .inr ⟨j, hj, hfu, rfl, rfl⟩, hs.re [0, 1, 2] rfl⟩) x.w 0 (List.replicate (D.per d) 0) H (by rw [Nat.zero_add]; exact Nat.le_mul_of_pos_right _ (by omega)) (Nat.zero_le _) (by omega) (by simp)
  rw [e0, e9] at t
  exact t hs
end
end Go.Proofs.YtnknippcbecmeaaGreatDoor.Str
end
section
/- Formulas of functions, printed by wip/tools/hwp.py. -/
namespace Go.Proofs.YtnknippcbecmeaaGreatDoor.W
open Go Go.Hw
theorem mixWexec : Tryz.prog.follows .mixedOrders = true := by kernel_rfl
def W_exec_Cost.j13 (K : Value → Hp → Prop) (a5 : Addr) (a6 : Addr) (x14 : Int) (a7 : Addr) (H : Hp) : Prop :=
  BIf (x14 != (0 : Int)) (StA H a5 #[.int .i64 0, .int .i64 0, .int .i64 0] 3 fun H14 => LdA H14 a5 3 fun l22 => K (.tuple #[.agg l22.toArray, .int .i64 x14]) H14) (LdA H a7 3 fun l17 => Ld H (a6.add 1) fun v18 => DI .i64 v18 fun x15 => DCons l17.toArray.toList fun v19 l18 => DI .i64 v19 fun x16 => DCons l18 fun v20 l19 => DI .i64 v20 fun x17 => DCons l19 fun v21 l20 => DI .i64 v21 fun x18 => DNil l20 (Nw H (.row [.int .i64 x16, .int .i64 x17, .int .i64 x18, .int .i64 x15, .int .i64 0, .int .i64 1] 43 6) fun b6 H15 => HCalls Tryz.prog 54 #[.slice (some ⟨b6, 0, none⟩) 2 2] H15 fun v22 H16 => DA v22 fun y7 => StA H16 a5 y7 3 fun H17 => LdA H17 a5 3 fun l23 => K (.tuple #[.agg l23.toArray, .int .i64 0]) H17))
def W_exec_Cost.j4 (K : Value → Hp → Prop) (x7 : Int) (a1 : Addr) (a2 : Addr) (a3 : Addr) (a4 : Addr) (x8 : Int) (H : Hp) : Prop :=
  BIf (x8 != (0 : Int)) (StA H a3 #[.int .i64 0, .int .i64 0, .int .i64 0] 3 fun H8 => LdA H8 a3 3 fun l21 => K (.tuple #[.agg l21.toArray, .int .i64 x8]) H8) (Nw H (.obj (.cells #[.int .i64 0, .int .i64 0, .int .i64 0] 43)) fun b5 H9 => Ld H9 (a2.add 5) fun v9 => DI .i64 v9 fun x9 => BIf (x9 == (1 : Int)) (LdA H9 ((a2.add 0).add 0) 2 fun l9 => Ld H9 (a1.add 1) fun v10 => DI .i64 v10 fun x10 => HCalls Tryz.prog 52 #[.agg l9.toArray, .int .i64 x10, .int .i64 x7] H9 fun v11 H10 => DTup v11 fun l10 => DCons l10 fun v12 l11 => DA v12 fun y5 => DCons l11 fun v13 l12 => DI .i64 v13 fun x11 => DNil l12 (StA H10 (⟨b5, 0, none⟩ : Addr) y5 3 fun H11 => W_exec_Cost.j13 K a3 a4 x11 (⟨b5, 0, none⟩ : Addr) H11)) (BIf (x9 == (2 : Int)) (LdA H9 ((a2.add 0).add 0) 2 fun l13 => Ld H9 (a1.add 1) fun v14 => DI .i64 v14 fun x12 => HCalls Tryz.prog 53 #[.agg l13.toArray, .int .i64 x12, .int .i64 x7] H9 fun v15 H12 => DTup v15 fun l14 => DCons l14 fun v16 l15 => DA v16 fun y6 => DCons l15 fun v17 l16 => DI .i64 v17 fun x13 => DNil l16 (StA H12 (⟨b5, 0, none⟩ : Addr) y6 3 fun H13 => W_exec_Cost.j13 K a3 a4 x13 (⟨b5, 0, none⟩ : Addr) H13)) (W_exec_Cost.j13 K a3 a4 (18 : Int) (⟨b5, 0, none⟩ : Addr) H9)))
def W_exec_Cost (y1 : Array Value) (x1 : Int) (y2 : Array Value) (x2 : Int) (H : Hp) (K : Value → Hp → Prop) : Prop :=
  Nw H (.obj (.cells y1 33)) fun b1 H1 => Nw H1 (.obj (.cells y2 64)) fun b2 H2 => Nw H2 (.obj (.cells #[.int .i64 0, .int .i64 0, .int .i64 0] 43)) fun b3 H3 => LdA H3 (⟨b1, 0, none⟩ : Addr) 17 fun l1 => Ld H3 ((⟨b2, 0, none⟩ : Addr).add 6) fun v1 => DI .i64 v1 fun x3 => HCalls Tryz.prog 51 #[.agg l1.toArray, .int .i64 x3, .int .i64 x1] H3 fun v2 H4 => DTup v2 fun l2 => DCons l2 fun v3 l3 => DA v3 fun y3 => DCons l3 fun v4 l4 => DI .i64 v4 fun x4 => DNil l4 (Nw H4 (.obj (.cells #[.int .i64 0, .int .i64 0, .int .i64 0] 30)) fun b4 H5 => StA H5 (⟨b4, 0, none⟩ : Addr) y3 3 fun H6 => BIf (x4 == (0 : Int)) (LdA H6 (⟨b1, 0, none⟩ : Addr) 17 fun l5 => Ld H6 ((⟨b2, 0, none⟩ : Addr).add 7) fun v5 => DI .i64 v5 fun x5 => HCalls Tryz.prog 51 #[.agg l5.toArray, .int .i64 x5, .int .i64 x1] H6 fun v6 H7 => DTup v6 fun l6 => DCons l6 fun v7 l7 => DA v7 fun y4 => DCons l7 fun v8 l8 => DI .i64 v8 fun x6 => DNil l8 (W_exec_Cost.j4 K x2 (⟨b1, 0, none⟩ : Addr) (⟨b2, 0, none⟩ : Addr) (⟨b3, 0, none⟩ : Addr) (⟨b4, 0, none⟩ : Addr) x6 H7)) (W_exec_Cost.j4 K x2 (⟨b1, 0, none⟩ : Addr) (⟨b2, 0, none⟩ : Addr) (⟨b3, 0, none⟩ : Addr) (⟨b4, 0, none⟩ : Addr) x4 H6))
def W_exec_Cost.Λ (K : Value → Hp → Prop) : Cuts := ⟨fun i => match Nat.beq i 13 with | true => some (fun E D H => eN E 8 fun a5 => eN E 10 fun a6 => eI E 11 .i64 fun x14 => eN E 12 fun a7 => DNilD D (W_exec_Cost.j13 K a5 a6 x14 a7 H)) | false => match Nat.beq i 4 with | true => some (fun E D H => eI E 3 .i64 fun x7 => eN E 4 fun a1 => eN E 6 fun a2 => eN E 8 fun a3 => eN E 10 fun a4 => eI E 11 .i64 fun x8 => DNilD D (W_exec_Cost.j4 K x7 a1 a2 a3 a4 x8 H)) | false => none, fun i => none, (fun _ => none)⟩
theorem W_exec_Cost.ok (y1 : Array Value) (x1 : Int) (y2 : Array Value) (x2 : Int) (H : Hp) (K : Value → Hp → Prop) (h : W_exec_Cost y1 x1 y2 x2 H K) : HCalls Tryz.prog 12 #[.agg y1, .int .i64 x1, .agg y2, .int .i64 x2] H K :=
  hcalls Tryz.func12 rfl (Nat.le_of_ble_eq_true rfl) (hw_safe (Λ := (W_exec_Cost.Λ K)) mixWexec _ _ _ _ _ (Eq.mp (by kernel_rfl) h) (obs_seq obs_region rfl (obs_seq obs_region rfl (obs_seqc (obs_seq obs_region rfl (obs_cond obs_region obs_skip)) rfl (fun E D H h => by
      obtain ⟨x7, e3, g2⟩ := GI h; obtain ⟨a1, e4, g5⟩ := GN g2; obtain ⟨a2, e6, g8⟩ := GN g5; obtain ⟨a3, e8, g11⟩ := GN g8; obtain ⟨a4, e10, g14⟩ := GN g11; obtain ⟨x8, e11, g16⟩ := GI g14; obtain ⟨rfl, h'⟩ := DNilD.out g16
      exact (hw_safe (Λ := (W_exec_Cost.Λ K)) mixWexec _ _ [(3, .int .i64 x7), (4, .pointer (some a1)), (6, .pointer (some a2)), (8, .pointer (some a3)), (10, .pointer (some a4)), (11, .int .i64 x8)] [] H (Eq.mp (by kernel_rfl) h') (obs_seq (obs_seq obs_region rfl (obs_cond (obs_seq obs_region rfl obs_ret) obs_skip)) rfl (obs_seq obs_region rfl (obs_seqc (obs_seq obs_region rfl (obs_block (obs_seq obs_region rfl (obs_cond obs_region (obs_seq obs_region rfl (obs_cond obs_region obs_region)))))) rfl (fun E D H h => by
          obtain ⟨a5, e8, g3⟩ := GN h; obtain ⟨a6, e10, g6⟩ := GN g3; obtain ⟨x14, e11, g8⟩ := GI g6; obtain ⟨a7, e12, g11⟩ := GN g8; obtain ⟨rfl, h'⟩ := DNilD.out g11
          exact (hw_safe (Λ := (W_exec_Cost.Λ K)) mixWexec _ _ [(8, .pointer (some a5)), (10, .pointer (some a6)), (11, .int .i64 x14), (12, .pointer (some a7))] [] H (Eq.mp (by kernel_rfl) h') (obs_seq (obs_seq obs_region rfl (obs_cond (obs_seq obs_region rfl obs_ret) obs_skip)) rfl (obs_seq obs_region rfl obs_ret))).weaken (EnvLe.cons e8 (EnvLe.cons e10 (EnvLe.cons e11 (EnvLe.cons e12 (EnvLe.nil _))))) (Hp.le_refl _)))))).weaken (EnvLe.cons e3 (EnvLe.cons e4 (EnvLe.cons e6 (EnvLe.cons e8 (EnvLe.cons e10 (EnvLe.cons e11 (EnvLe.nil _))))))) (Hp.le_refl _))))))
def W_exec_Do.j6 (K : Value → Hp → Prop) (p5 : Option Addr) (p6 : Option Addr) (x6 : Int) (a1 : Addr) (a2 : Addr) (p7 : Option Addr) (p8 : Option Addr) (H : Hp) : Prop :=
  HCalls Tryz.prog 56 #[.pointer p7] H fun v7 H4 => DTup v7 fun l7 => DCons l7 fun v8 l8 => DI .u32 v8 fun x7 => DCons l8 fun v9 l9 => DI .i64 v9 fun x8 => DNil l9 (BIf (x8 != (0 : Int)) (K (.tuple #[.int .u32 0, .int .i64 x8]) H4) (BIf (x7 != x6) (K (.tuple #[.int .u32 0, .int .i64 9]) H4) (LdA H4 a2 8 fun l10 => Ld H4 (a1.add 1) fun v10 => DI .i64 v10 fun x9 => HCalls Tryz.prog 57 #[.pointer p7, .pointer p8, .agg l10.toArray, .pointer p6, .int .i64 x9] H4 fun v11 H5 => DTup v11 fun l11 => DCons l11 fun v12 l12 => DI .u32 v12 fun x10 => DCons l12 fun v13 l13 => DI .i64 v13 fun x11 => DNil l13 (BIf (x11 != (0 : Int)) (K (.tuple #[.int .u32 0, .int .i64 x11]) H5) (HCalls Tryz.prog 47 #[.pointer p5] H5 fun v14 H6 => DI .i64 v14 fun x12 => BIf (x12 != (0 : Int)) (K (.tuple #[.int .u32 0, .int .i64 x12]) H6) (K (.tuple #[.int .u32 x10, .int .i64 0]) H6))))))
def W_exec_Do (p1 : Option Addr) (p2 : Option Addr) (y1 : Array Value) (x1 : Int) (y2 : Array Value) (x2 : Int) (H : Hp) (K : Value → Hp → Prop) : Prop :=
  Nw H (.obj (.cells y1 33)) fun b1 H1 => Nw H1 (.obj (.cells y2 64)) fun b2 H2 => LdA H2 (⟨b1, 0, none⟩ : Addr) 17 fun l1 => LdA H2 (⟨b2, 0, none⟩ : Addr) 8 fun l2 => HCalls Tryz.prog 55 #[.pointer p1, .pointer p2, .agg l1.toArray, .int .i64 x1, .agg l2.toArray] H2 fun v1 H3 => DTup v1 fun l3 => DCons l3 fun v2 l4 => DP v2 fun p3 => DCons l4 fun v3 l5 => DP v3 fun p4 => DCons l5 fun v4 l6 => DI .i64 v4 fun x3 => DNil l6 (BIf (x3 != (0 : Int)) (K (.tuple #[.int .u32 0, .int .i64 x3]) H3) (Ld H3 ((⟨b2, 0, none⟩ : Addr).add 5) fun v5 => DI .i64 v5 fun x4 => BIf (x4 != (1 : Int)) (Ld H3 ((⟨b2, 0, none⟩ : Addr).add 5) fun v6 => DI .i64 v6 fun x5 => BIf (x5 != (2 : Int)) (K (.tuple #[.int .u32 0, .int .i64 18]) H3) (W_exec_Do.j6 K p1 p2 x2 (⟨b1, 0, none⟩ : Addr) (⟨b2, 0, none⟩ : Addr) p3 p4 H3)) (W_exec_Do.j6 K p1 p2 x2 (⟨b1, 0, none⟩ : Addr) (⟨b2, 0, none⟩ : Addr) p3 p4 H3)))
def W_exec_Do.Λ (K : Value → Hp → Prop) : Cuts := ⟨fun i => match Nat.beq i 6 with | true => some (fun E D H => eP E 0 fun p5 => eP E 1 fun p6 => eI E 5 .u32 fun x6 => eN E 8 fun a1 => eN E 10 fun a2 => eP E 14 fun p7 => eP E 15 fun p8 => DNilD D (W_exec_Do.j6 K p5 p6 x6 a1 a2 p7 p8 H)) | false => none, fun i => none, (fun _ => none)⟩
theorem W_exec_Do.ok (p1 : Option Addr) (p2 : Option Addr) (y1 : Array Value) (x1 : Int) (y2 : Array Value) (x2 : Int) (H : Hp) (K : Value → Hp → Prop) (h : W_exec_Do p1 p2 y1 x1 y2 x2 H K) : HCalls Tryz.prog 13 #[.pointer p1, .pointer p2, .agg y1, .int .i64 x1, .agg y2, .int .u32 x2] H K :=
  hcalls Tryz.func13 rfl (Nat.le_of_ble_eq_true rfl) (hw_safe (Λ := (W_exec_Do.Λ K)) mixWexec _ _ _ _ _ (Eq.mp (by kernel_rfl) h) (obs_seq obs_region rfl (obs_seq obs_region rfl (obs_seqc (obs_block (obs_seq obs_region rfl (obs_cond (obs_seq obs_region rfl obs_ret) (obs_seq obs_region rfl (obs_cond (obs_seq obs_region rfl obs_ret) obs_skip))))) rfl (fun E D H h => by
      obtain ⟨p5, e0, g2⟩ := GP h; obtain ⟨p6, e1, g4⟩ := GP g2; obtain ⟨x6, e5, g6⟩ := GI g4; obtain ⟨a1, e8, g9⟩ := GN g6; obtain ⟨a2, e10, g12⟩ := GN g9; obtain ⟨p7, e14, g14⟩ := GP g12; obtain ⟨p8, e15, g16⟩ := GP g14; obtain ⟨rfl, h'⟩ := DNilD.out g16
      exact (hw_safe (Λ := (W_exec_Do.Λ K)) mixWexec _ _ [(0, .pointer p5), (1, .pointer p6), (5, .int .u32 x6), (8, .pointer (some a1)), (10, .pointer (some a2)), (14, .pointer p7), (15, .pointer p8)] [] H (Eq.mp (by kernel_rfl) h') (obs_seq obs_region rfl (obs_seq (obs_block (obs_seq obs_region rfl (obs_cond (obs_seq obs_region rfl obs_ret) (obs_seq obs_region rfl (obs_cond (obs_seq obs_region rfl obs_ret) obs_skip))))) rfl (obs_seq (obs_seq obs_region rfl (obs_seq obs_region rfl (obs_cond (obs_seq obs_region rfl obs_ret) obs_skip))) rfl (obs_seq (obs_seq obs_region rfl (obs_seq obs_region rfl (obs_cond (obs_seq obs_region rfl obs_ret) obs_skip))) rfl (obs_seq obs_region rfl obs_ret)))))).weaken (EnvLe.cons e0 (EnvLe.cons e1 (EnvLe.cons e5 (EnvLe.cons e8 (EnvLe.cons e10 (EnvLe.cons e14 (EnvLe.cons e15 (EnvLe.nil _)))))))) (Hp.le_refl _))))))
def W_exec_All.l9 (K : Value → Hp → Prop) : Nat → Int → Int → Addr → Addr → Option Addr → Nat → Nat → Option Addr → Nat → Nat → Int → Int → Hp → Prop
  | 0, _, _, _, _, _, _, _, _, _, _, _, _, _ => False
  | k + 1, x7, x8, a1, a2, A2, n2, m2, A3, n3, m3, x9, x10, H =>
    let R9 := W_exec_All.l9 K k
    BIf (decide (x10 < x9)) (ixI x10 n3 (NN A3 fun a3 => LdA H (a3.add (x10.toNat * 8)) 8 fun l8 => Nw H (.obj (.cells #[.int .i64 0, .int .i64 0, .int .i64 0, .int .i64 0, .int .u64 0, .int .i64 0, .int .i64 0, .int .i64 0] 64)) fun b4 H9 => StA H9 (⟨b4, 0, none⟩ : Addr) l8.toArray 8 fun H10 => LdA H10 a1 17 fun l9 => LdA H10 (⟨b4, 0, none⟩ : Addr) 8 fun l10 => HCalls Tryz.prog 12 #[.agg l9.toArray, .int .i64 x7, .agg l10.toArray, .int .i64 x8] H10 fun v8 H11 => DTup v8 fun l11 => DCons l11 fun v9 l12 => DA v9 fun y3 => DCons l12 fun v10 l13 => DI .i64 v10 fun x11 => DNil l13 (Nw H11 (.obj (.cells #[.int .i64 0, .int .i64 0, .int .i64 0] 43)) fun b5 H12 => StA H12 (⟨b5, 0, none⟩ : Addr) y3 3 fun H13 => BIf (x11 != (0 : Int)) (StA H13 a2 #[.int .i64 0, .int .i64 0, .int .i64 0] 3 fun H14 => LdA H14 a2 3 fun l20 => K (.tuple #[.agg l20.toArray, .int .i64 x11]) H14) (LdA H13 (⟨b5, 0, none⟩ : Addr) 3 fun l14 => DCons l14.toArray.toList fun v11 l15 => DI .i64 v11 fun x12 => DCons l15 fun v12 l16 => DI .i64 v12 fun x13 => DCons l16 fun v13 l17 => DI .i64 v13 fun x14 => DNil l17 (Nw H13 (.row [.int .i64 x12, .int .i64 x13, .int .i64 x14] 43 3) fun b6 H15 => AppK Tryz.prog 43 (.slice A2 n2 m2) (.slice (some ⟨b6, 0, none⟩) 1 1) H15 fun v14 H16 => DSl v14 fun A4 n4 m4 => R9 x7 x8 a1 a2 A4 n4 m4 A3 n3 m3 x9 (IntKind.i64.wrap (x10 + (1 : Int))) H16))))) (HCalls Tryz.prog 54 #[.slice A2 n2 m2] H fun v15 H17 => DA v15 fun y4 => StA H17 a2 y4 3 fun H18 => LdA H18 a2 3 fun l21 => K (.tuple #[.agg l21.toArray, .int .i64 0]) H18)
def W_exec_All (y1 : Array Value) (x1 : Int) (x2 : Int) (x3 : Int) (H : Hp) (K : Value → Hp → Prop) : Prop :=
  Nw H (.obj (.cells y1 33)) fun b1 H1 => Nw H1 (.obj (.cells #[.int .i64 0, .int .i64 0, .int .i64 0] 43)) fun b2 H2 => LdA H2 (⟨b1, 0, none⟩ : Addr) 17 fun l1 => HCalls Tryz.prog 51 #[.agg l1.toArray, .int .i64 0, .int .i64 x1] H2 fun v1 H3 => DTup v1 fun l2 => DCons l2 fun v2 l3 => DA v2 fun y2 => DCons l3 fun v3 l4 => DI .i64 v3 fun x4 => DNil l4 (Nw H3 (.obj (.cells #[.int .i64 0, .int .i64 0, .int .i64 0] 30)) fun b3 H4 => StA H4 (⟨b3, 0, none⟩ : Addr) y2 3 fun H5 => BIf (x4 != (0 : Int)) (StA H5 (⟨b2, 0, none⟩ : Addr) #[.int .i64 0, .int .i64 0, .int .i64 0] 3 fun H6 => LdA H6 (⟨b2, 0, none⟩ : Addr) 3 fun l18 => K (.tuple #[.agg l18.toArray, .int .i64 x4]) H6) (Ld H5 ((⟨b1, 0, none⟩ : Addr).add 1) fun v4 => DI .i64 v4 fun x5 => HCalls Tryz.prog 58 #[.int .i64 x1, .int .i64 x2, .int .i64 x5, .int .i64 x3] H5 fun v5 H7 => DTup v5 fun l5 => DCons l5 fun v6 l6 => DSl v6 fun A1 n1 m1 => DCons l6 fun v7 l7 => DI .i64 v7 fun x6 => DNil l7 (BIf (x6 != (0 : Int)) (StA H7 (⟨b2, 0, none⟩ : Addr) #[.int .i64 0, .int .i64 0, .int .i64 0] 3 fun H8 => LdA H8 (⟨b2, 0, none⟩ : Addr) 3 fun l19 => K (.tuple #[.agg l19.toArray, .int .i64 x6]) H8) ((∃ k, W_exec_All.l9 K k x1 x3 (⟨b1, 0, none⟩ : Addr) (⟨b2, 0, none⟩ : Addr) none 0 0 A1 n1 m1 ((n1 : Nat) : Int) (0 : Int) H7)))))
def W_exec_All.l9.L (K : Value → Hp → Prop) (k : Nat) : Mid := fun E D H =>
  eI E 1 .i64 fun x7 => eI E 3 .i64 fun x8 => eN E 4 fun a1 => eN E 8 fun a2 => DG (E.get? 14) fun w14 => DSl w14 fun A2 n2 m2 => DG (E.get? 42) fun w42 => DSl w42 fun A3 n3 m3 => eI E 43 .i64 fun x9 => eI E 44 .i64 fun x10 => DNilD D (W_exec_All.l9 K k x7 x8 a1 a2 A2 n2 m2 A3 n3 m3 x9 x10 H)
def W_exec_All.Λ9 (_ : Value → Hp → Prop) (_R9 : Int → Int → Addr → Addr → Option Addr → Nat → Nat → Option Addr → Nat → Nat → Int → Int → Hp → Prop) : Cuts := Cuts.none (fun _ => none)
def W_exec_All.Λ (K : Value → Hp → Prop) : Cuts := ⟨fun i => none, fun i => match Nat.beq i 9 with | true => some (fun E D H => ∃ k, W_exec_All.l9.L K k E D H) | false => none, (fun _ => none)⟩
theorem W_exec_All.ok (y1 : Array Value) (x1 : Int) (x2 : Int) (x3 : Int) (H : Hp) (K : Value → Hp → Prop) (h : W_exec_All y1 x1 x2 x3 H K) : HCalls Tryz.prog 14 #[.agg y1, .int .i64 x1, .int .i64 x2, .int .i64 x3] H K :=
  hcalls Tryz.func14 rfl (Nat.le_of_ble_eq_true rfl) (hw_safe (Λ := (W_exec_All.Λ K)) mixWexec _ _ _ _ _ (Eq.mp (by kernel_rfl) h) (obs_seq obs_region rfl (obs_seq (obs_seq obs_region rfl (obs_seq obs_region rfl (obs_cond (obs_seq obs_region rfl obs_ret) obs_skip))) rfl (obs_seq obs_region rfl (obs_seq (obs_seq obs_region rfl (obs_cond (obs_seq obs_region rfl obs_ret) obs_skip)) rfl (obs_seq obs_region rfl (obs_seq (obs_seq obs_region rfl (obs_block (obs_loop rfl (fun E D H h => by
      refine Safe.loop' (W_exec_All.l9.L K) (fun E D H h => ?_) (fun k E D H h => ?_) E D H h
      · obtain ⟨w1, e1, g1⟩ := DG.out h; obtain ⟨x7, rfl, g2⟩ := DI.out g1; obtain ⟨w3, e3, g3⟩ := DG.out g2; obtain ⟨x8, rfl, g4⟩ := DI.out g3; obtain ⟨w4, e4, g5⟩ := DG.out g4; obtain ⟨pw4, rfl, g6⟩ := DP.out g5; obtain ⟨a1, rfl, g7⟩ := NN.out g6; obtain ⟨w8, e8, g8⟩ := DG.out g7; obtain ⟨pw8, rfl, g9⟩ := DP.out g8; obtain ⟨a2, rfl, g10⟩ := NN.out g9; obtain ⟨w14, e14, g11⟩ := DG.out g10; obtain ⟨A2, n2, m2, rfl, g12⟩ := DSl.out g11; obtain ⟨w42, e42, g13⟩ := DG.out g12; obtain ⟨A3, n3, m3, rfl, g14⟩ := DSl.out g13; obtain ⟨w43, e43, g15⟩ := DG.out g14; obtain ⟨x9, rfl, g16⟩ := DI.out g15; obtain ⟨w44, e44, g17⟩ := DG.out g16; obtain ⟨x10, rfl, g18⟩ := DI.out g17; obtain ⟨rfl, h'⟩ := DNilD.out g18; exact h'
      · obtain ⟨x7, e1, g2⟩ := GI h
        obtain ⟨x8, e3, g4⟩ := GI g2; obtain ⟨a1, e4, g7⟩ := GN g4; obtain ⟨a2, e8, g10⟩ := GN g7; obtain ⟨w14, e14, g11⟩ := DG.out g10
        obtain ⟨A2, n2, m2, rfl, g12⟩ := DSl.out g11
        obtain ⟨w42, e42, g13⟩ := DG.out g12
        obtain ⟨A3, n3, m3, rfl, g14⟩ := DSl.out g13
        obtain ⟨x9, e43, g16⟩ := GI g14; obtain ⟨x10, e44, g18⟩ := GI g16; obtain ⟨rfl, h'⟩ := DNilD.out g18
        exact (hw_safe (Λ := (W_exec_All.Λ9 K (W_exec_All.l9 K k))) mixWexec _ _ [(1, .int .i64 x7), (3, .int .i64 x8), (4, .pointer (some a1)), (8, .pointer (some a2)), (14, .slice A2 n2 m2), (42, .slice A3 n3 m3), (43, .int .i64 x9), (44, .int .i64 x10)] [] H (Eq.mp (by kernel_rfl) h') (obs_seq obs_region rfl (obs_seq (obs_cond obs_skip obs_exit) rfl (obs_seq (obs_block (obs_seq obs_region rfl (obs_seq obs_region rfl (obs_seq (obs_seq obs_region rfl (obs_cond (obs_seq obs_region rfl obs_ret) obs_skip)) rfl obs_region)))) rfl obs_region)))).weaken (EnvLe.cons e1 (EnvLe.cons e3 (EnvLe.cons e4 (EnvLe.cons e8 (EnvLe.cons e14 (EnvLe.cons e42 (EnvLe.cons e43 (EnvLe.cons e44 (EnvLe.nil _))))))))) (Hp.le_refl _))))) rfl (obs_seq obs_region rfl obs_ret))))))))
def W_exec_Pipe (p1 : Option Addr) (p2 : Option Addr) (y1 : Array Value) (x1 : Int) (x2 : Int) (H : Hp) (K : Value → Hp → Prop) : Prop :=
  Nw H (.obj (.cells y1 33)) fun b1 H1 => LdA H1 (⟨b1, 0, none⟩ : Addr) 17 fun l1 => HCalls Tryz.prog 51 #[.agg l1.toArray, .int .i64 x1, .int .i64 x2] H1 fun v1 H2 => DTup v1 fun l2 => DCons l2 fun v2 l3 => DA v2 fun y2 => DCons l3 fun v3 l4 => DI .i64 v3 fun x3 => DNil l4 (Nw H2 (.obj (.cells #[.int .i64 0, .int .i64 0, .int .i64 0] 30)) fun b2 H3 => StA H3 (⟨b2, 0, none⟩ : Addr) y2 3 fun H4 => BIf (x3 != (0 : Int)) (K (.tuple #[.pointer none, .int .i64 x3]) H4) (LdA H4 (⟨b2, 0, none⟩ : Addr) 3 fun l5 => HCalls Tryz.prog 80 #[.pointer p1, .pointer p2, .agg l5.toArray] H4 fun v4 H5 => DTup v4 fun l6 => DCons l6 fun v5 l7 => DP v5 fun p3 => DCons l7 fun v6 l8 => DI .i64 v6 fun x4 => DNil l8 (K (.tuple #[.pointer p3, .int .i64 x4]) H5)))
theorem W_exec_Pipe.ok (p1 : Option Addr) (p2 : Option Addr) (y1 : Array Value) (x1 : Int) (x2 : Int) (H : Hp) (K : Value → Hp → Prop) (h : W_exec_Pipe p1 p2 y1 x1 x2 H K) : HCalls Tryz.prog 45 #[.pointer p1, .pointer p2, .agg y1, .int .i64 x1, .int .i64 x2] H K :=
  hcalls Tryz.func45 rfl (Nat.le_of_ble_eq_true rfl) (hw_safe (Λ := Cuts.none (fun _ => none)) mixWexec _ _ _ _ _ (Eq.mp (by kernel_rfl) h) (obs_none _ _ _ _ _))
def W_exec_Extent (y1 : Array Value) (x1 : Int) (x2 : Int) (H : Hp) (K : Value → Hp → Prop) : Prop :=
  Nw H (.obj (.cells y1 33)) fun b1 H1 => Nw H1 (.obj (.cells #[.int .i64 0, .int .i64 0, .int .i64 0] 30)) fun b2 H2 => LdA H2 (⟨b1, 0, none⟩ : Addr) 17 fun l1 => HCalls Tryz.prog 90 #[.agg l1.toArray] H2 fun v1 H3 => DB v1 fun c1 => BIf (!c1) (StA H3 (⟨b2, 0, none⟩ : Addr) #[.int .i64 0, .int .i64 0, .int .i64 0] 3 fun H4 => LdA H4 (⟨b2, 0, none⟩ : Addr) 3 fun l2 => K (.tuple #[.agg l2.toArray, .int .i64 1]) H4) (BIf (decide (x1 < (0 : Int))) (StA H3 (⟨b2, 0, none⟩ : Addr) #[.int .i64 0, .int .i64 0, .int .i64 0] 3 fun H5 => LdA H5 (⟨b2, 0, none⟩ : Addr) 3 fun l3 => K (.tuple #[.agg l3.toArray, .int .i64 1]) H5) (BIf (decide (x1 ≥ (4 : Int))) (StA H3 (⟨b2, 0, none⟩ : Addr) #[.int .i64 0, .int .i64 0, .int .i64 0] 3 fun H6 => LdA H6 (⟨b2, 0, none⟩ : Addr) 3 fun l4 => K (.tuple #[.agg l4.toArray, .int .i64 1]) H6) (BIf (decide (x2 < (0 : Int))) (StA H3 (⟨b2, 0, none⟩ : Addr) #[.int .i64 0, .int .i64 0, .int .i64 0] 3 fun H7 => LdA H7 (⟨b2, 0, none⟩ : Addr) 3 fun l5 => K (.tuple #[.agg l5.toArray, .int .i64 1]) H7) (Ld H3 ((⟨b1, 0, none⟩ : Addr).add 0) fun v2 => DI .i64 v2 fun x3 => BIf (decide (x2 > x3)) (StA H3 (⟨b2, 0, none⟩ : Addr) #[.int .i64 0, .int .i64 0, .int .i64 0] 3 fun H8 => LdA H8 (⟨b2, 0, none⟩ : Addr) 3 fun l6 => K (.tuple #[.agg l6.toArray, .int .i64 1]) H8) ((0 ≤ (IntKind.u64.wrap x2) ∧ ixI x1 4 (Ld H3 ((((⟨b1, 0, none⟩ : Addr).add 5).add (x1.toNat * 3)).add 0) fun v3 => DI .i64 v3 fun x4 => Ld H3 ((⟨b1, 0, none⟩ : Addr).add 1) fun v4 => DI .i64 v4 fun x5 => (x5 ≠ 0 ∧ IntKind.i64 = IntKind.i64 ∧ StA H3 (⟨b2, 0, none⟩ : Addr) #[.int .i64 x4, .int .i64 (IntKind.i64.wrap ((IntKind.i64.wrap (Int.tdiv (IntKind.i64.wrap ((shlI .i64 (1 : Int) (IntKind.u64.wrap x2)) - (1 : Int))) x5)) + (1 : Int))), .int .i64 (shlI .i64 (1 : Int) (IntKind.u64.wrap x2))] 3 fun H9 => LdA H9 (⟨b2, 0, none⟩ : Addr) 3 fun l7 => K (.tuple #[.agg l7.toArray, .int .i64 0]) H9))))))))
theorem W_exec_Extent.ok (y1 : Array Value) (x1 : Int) (x2 : Int) (H : Hp) (K : Value → Hp → Prop) (h : W_exec_Extent y1 x1 x2 H K) : HCalls Tryz.prog 51 #[.agg y1, .int .i64 x1, .int .i64 x2] H K :=
  hcalls Tryz.func51 rfl (Nat.le_of_ble_eq_true rfl) (hw_safe (Λ := Cuts.none (fun i => match Nat.beq i 4 with | true => some ([], [0, 1, 2, 3, 4, 5, 6, 7, 8, 9, 10, 11, 12], 13) | false => none)) mixWexec _ _ _ _ _ (Eq.mp (by kernel_rfl) h) (obs_none _ _ _ _ _))
def W_exec_total.l2 (K : Value → Hp → Prop) : Nat → Addr → Option Addr → Nat → Nat → Int → Int → Hp → Prop
  | 0, _, _, _, _, _, _, _ => False
  | k + 1, a1, A2, n2, m2, x1, x2, H =>
    let R2 := W_exec_total.l2 K k
    BIf (decide (x2 < x1)) (ixI x2 n2 (NN A2 fun a2 => LdA H (a2.add (x2.toNat * 3)) 3 fun l1 => Nw H (.obj (.cells #[.int .i64 0, .int .i64 0, .int .i64 0] 43)) fun b2 H2 => StA H2 (⟨b2, 0, none⟩ : Addr) l1.toArray 3 fun H3 => Ld H3 (a1.add 0) fun v1 => DI .i64 v1 fun x3 => Ld H3 ((⟨b2, 0, none⟩ : Addr).add 0) fun v2 => DI .i64 v2 fun x4 => Ld H3 (a1.add 1) fun v3 => DI .i64 v3 fun x5 => Ld H3 ((⟨b2, 0, none⟩ : Addr).add 1) fun v4 => DI .i64 v4 fun x6 => Ld H3 (a1.add 2) fun v5 => DI .i64 v5 fun x7 => Ld H3 ((⟨b2, 0, none⟩ : Addr).add 2) fun v6 => DI .i64 v6 fun x8 => StA H3 a1 #[.int .i64 (IntKind.i64.wrap (x3 + x4)), .int .i64 (IntKind.i64.wrap (x5 + x6)), .int .i64 (IntKind.i64.wrap (x7 + x8))] 3 fun H4 => R2 a1 A2 n2 m2 x1 (IntKind.i64.wrap (x2 + (1 : Int))) H4)) (LdA H a1 3 fun l2 => StA H a1 l2.toArray 3 fun H5 => LdA H5 a1 3 fun l3 => K (.agg l3.toArray) H5)
def W_exec_total (A1 : Option Addr) (n1 : Nat) (m1 : Nat) (H : Hp) (K : Value → Hp → Prop) : Prop :=
  Nw H (.obj (.cells #[.int .i64 0, .int .i64 0, .int .i64 0] 43)) fun b1 H1 => (∃ k, W_exec_total.l2 K k (⟨b1, 0, none⟩ : Addr) A1 n1 m1 ((n1 : Nat) : Int) (0 : Int) H1)
def W_exec_total.l2.L (K : Value → Hp → Prop) (k : Nat) : Mid := fun E D H =>
  eN E 2 fun a1 => DG (E.get? 5) fun w5 => DSl w5 fun A2 n2 m2 => eI E 6 .i64 fun x1 => eI E 7 .i64 fun x2 => DNilD D (W_exec_total.l2 K k a1 A2 n2 m2 x1 x2 H)
def W_exec_total.Λ2 (_ : Value → Hp → Prop) (_R2 : Addr → Option Addr → Nat → Nat → Int → Int → Hp → Prop) : Cuts := Cuts.none (fun _ => none)
def W_exec_total.Λ (K : Value → Hp → Prop) : Cuts := ⟨fun i => none, fun i => match Nat.beq i 2 with | true => some (fun E D H => ∃ k, W_exec_total.l2.L K k E D H) | false => none, (fun _ => none)⟩
theorem W_exec_total.ok (A1 : Option Addr) (n1 : Nat) (m1 : Nat) (H : Hp) (K : Value → Hp → Prop) (h : W_exec_total A1 n1 m1 H K) : HCalls Tryz.prog 54 #[.slice A1 n1 m1] H K :=
  hcalls Tryz.func54 rfl (Nat.le_of_ble_eq_true rfl) (hw_safe (Λ := (W_exec_total.Λ K)) mixWexec _ _ _ _ _ (Eq.mp (by kernel_rfl) h) (obs_seq obs_region rfl (obs_seq (obs_seq obs_region rfl (obs_block (obs_loop rfl (fun E D H h => by
      refine Safe.loop' (W_exec_total.l2.L K) (fun E D H h => ?_) (fun k E D H h => ?_) E D H h
      · obtain ⟨w2, e2, g1⟩ := DG.out h; obtain ⟨pw2, rfl, g2⟩ := DP.out g1; obtain ⟨a1, rfl, g3⟩ := NN.out g2; obtain ⟨w5, e5, g4⟩ := DG.out g3; obtain ⟨A2, n2, m2, rfl, g5⟩ := DSl.out g4; obtain ⟨w6, e6, g6⟩ := DG.out g5; obtain ⟨x1, rfl, g7⟩ := DI.out g6; obtain ⟨w7, e7, g8⟩ := DG.out g7; obtain ⟨x2, rfl, g9⟩ := DI.out g8; obtain ⟨rfl, h'⟩ := DNilD.out g9; exact h'
      · obtain ⟨a1, e2, g3⟩ := GN h
        obtain ⟨w5, e5, g4⟩ := DG.out g3
        obtain ⟨A2, n2, m2, rfl, g5⟩ := DSl.out g4
        obtain ⟨x1, e6, g7⟩ := GI g5; obtain ⟨x2, e7, g9⟩ := GI g7; obtain ⟨rfl, h'⟩ := DNilD.out g9
        exact (hw_safe (Λ := (W_exec_total.Λ2 K (W_exec_total.l2 K k))) mixWexec _ _ [(2, .pointer (some a1)), (5, .slice A2 n2 m2), (6, .int .i64 x1), (7, .int .i64 x2)] [] H (Eq.mp (by kernel_rfl) h') (obs_seq obs_region rfl (obs_seq (obs_cond obs_skip obs_exit) rfl (obs_seq (obs_block (obs_seq obs_region rfl obs_region)) rfl obs_region)))).weaken (EnvLe.cons e2 (EnvLe.cons e5 (EnvLe.cons e6 (EnvLe.cons e7 (EnvLe.nil _))))) (Hp.le_refl _))))) rfl (obs_seq obs_region rfl obs_ret))))
def W_exec_ends (p1 : Option Addr) (p2 : Option Addr) (y1 : Array Value) (x1 : Int) (y2 : Array Value) (H : Hp) (K : Value → Hp → Prop) : Prop :=
  Nw H (.obj (.cells y1 33)) fun b1 H1 => Nw H1 (.obj (.cells y2 64)) fun b2 H2 => LdA H2 (⟨b1, 0, none⟩ : Addr) 17 fun l1 => Ld H2 ((⟨b2, 0, none⟩ : Addr).add 6) fun v1 => DI .i64 v1 fun x2 => HCalls Tryz.prog 45 #[.pointer p1, .pointer p2, .agg l1.toArray, .int .i64 x2, .int .i64 x1] H2 fun v2 H3 => DTup v2 fun l2 => DCons l2 fun v3 l3 => DP v3 fun p3 => DCons l3 fun v4 l4 => DI .i64 v4 fun x3 => DNil l4 (BIf (x3 == (0 : Int)) (LdA H3 (⟨b1, 0, none⟩ : Addr) 17 fun l5 => Ld H3 ((⟨b2, 0, none⟩ : Addr).add 7) fun v5 => DI .i64 v5 fun x4 => HCalls Tryz.prog 45 #[.pointer p1, .pointer p2, .agg l5.toArray, .int .i64 x4, .int .i64 x1] H3 fun v6 H4 => DTup v6 fun l6 => DCons l6 fun v7 l7 => DP v7 fun p4 => DCons l7 fun v8 l8 => DI .i64 v8 fun x5 => DNil l8 (K (.tuple #[.pointer p3, .pointer p4, .int .i64 x5]) H4)) (K (.tuple #[.pointer p3, .pointer none, .int .i64 x3]) H3))
theorem W_exec_ends.ok (p1 : Option Addr) (p2 : Option Addr) (y1 : Array Value) (x1 : Int) (y2 : Array Value) (H : Hp) (K : Value → Hp → Prop) (h : W_exec_ends p1 p2 y1 x1 y2 H K) : HCalls Tryz.prog 55 #[.pointer p1, .pointer p2, .agg y1, .int .i64 x1, .agg y2] H K :=
  hcalls Tryz.func55 rfl (Nat.le_of_ble_eq_true rfl) (hw_safe (Λ := Cuts.none (fun _ => none)) mixWexec _ _ _ _ _ (Eq.mp (by kernel_rfl) h) (obs_none _ _ _ _ _))
def W_exec_run (p1 : Option Addr) (p2 : Option Addr) (y1 : Array Value) (p3 : Option Addr) (x1 : Int) (H : Hp) (K : Value → Hp → Prop) : Prop :=
  Nw H (.obj (.cells y1 64)) fun b1 H1 => Ld H1 ((⟨b1, 0, none⟩ : Addr).add 5) fun v1 => DI .i64 v1 fun x2 => BIf (x2 == (1 : Int)) (LdA H1 (((⟨b1, 0, none⟩ : Addr).add 0).add 0) 2 fun l1 => HCalls Tryz.prog 97 #[.pointer p1, .pointer p2, .agg l1.toArray, .pointer p3, .int .i64 x1] H1 fun v2 H2 => DTup v2 fun l2 => DCons l2 fun v3 l3 => DI .u32 v3 fun x3 => DCons l3 fun v4 l4 => DI .i64 v4 fun x4 => DNil l4 (K (.tuple #[.int .u32 x3, .int .i64 x4]) H2)) (BIf (x2 == (2 : Int)) (LdA H1 ((⟨b1, 0, none⟩ : Addr).add 0) 5 fun l5 => HCalls Tryz.prog 98 #[.pointer p1, .pointer p2, .agg l5.toArray, .pointer p3, .int .i64 x1] H1 fun v5 H3 => DTup v5 fun l6 => DCons l6 fun v6 l7 => DI .u32 v6 fun x5 => DCons l7 fun v7 l8 => DI .i64 v7 fun x6 => DNil l8 (K (.tuple #[.int .u32 x5, .int .i64 x6]) H3)) (K (.tuple #[.int .u32 0, .int .i64 18]) H1))
theorem W_exec_run.ok (p1 : Option Addr) (p2 : Option Addr) (y1 : Array Value) (p3 : Option Addr) (x1 : Int) (H : Hp) (K : Value → Hp → Prop) (h : W_exec_run p1 p2 y1 p3 x1 H K) : HCalls Tryz.prog 57 #[.pointer p1, .pointer p2, .agg y1, .pointer p3, .int .i64 x1] H K :=
  hcalls Tryz.func57 rfl (Nat.le_of_ble_eq_true rfl) (hw_safe (Λ := Cuts.none (fun _ => none)) mixWexec _ _ _ _ _ (Eq.mp (by kernel_rfl) h) (obs_none _ _ _ _ _))
end Go.Proofs.YtnknippcbecmeaaGreatDoor.W
end
section
/- exec: extents, pipes; layout.Good: contracts, of right layouts. -/
namespace Go.Proofs.YtnknippcbecmeaaGreatDoor.Eng
open Go Go.Hw Go.Form W Shp Dsk Str Are Trn Pas Pln
theorem p_lay : plain64 Tryz.prog 33 17 := ⟨by kernel_rfl, by kernel_rfl, by kernel_rfl, by kernel_rfl⟩
def layI (k p : Nat) : List Int :=
  let r : Int := Lay.roomN k p
  let w : Int := (2 ^ k : Nat)
  [(k : Int), (p : Int), 1, 8, ((8 * p : Nat) : Int), 9, r, w, 9 + r, r, w, 9 + 2 * r, r, w, 9 + 3 * r, r, w]
theorem perB_cases {per : Nat} (h : perB (per : Int) = true) : per = 4 ∨ per = 8 ∨ per = 16 ∨ per = 32 ∨ per = 64 ∨ per = 128 ∨ per = 256 ∨ per = 512 := by
  unfold perB at h
  simp only [Bool.or_eq_true, beq_iff_eq] at h
  omega
theorem perN_of {per : Nat} (h : perB (per : Int) = true) : Lay.perN ((per * 8 : Nat) : Int) = per := by
  rcases perB_cases h with e | e | e | e | e | e | e | e <;> subst e <;> decide
theorem room_small {k p : Nat} (hk : k ≤ 32) : Lay.roomN k p ≤ 4294967296 := by
  have := two_small hk
  unfold Lay.roomN
  have := Nat.div_le_self (2 ^ k - 1) p
  have := Nat.two_pow_pos k
  omega
section
variable {most per : Nat} (hm : most ≤ 32) (hp : perB (per : Int) = true)
include hm hp
theorem layI_range : ∀ x ∈ layI most per, -9223372036854775808 ≤ x ∧ x ≤ 9223372036854775807 := by
  have h1 := room_small (p := per) hm
  have h2 := two_small hm
  have h3 := per_nat hp
  intro x hx
  unfold layI at hx
  generalize Lay.roomN most per = rr at *
  generalize 2 ^ most = ww at *
  simp only [List.mem_cons, List.not_mem_nil, or_false] at hx
  omega
theorem Good_ok (H : Hp) : HCalls Tryz.prog 90 #[.agg (Lay.layV most per)] H (RetE (.bool true) H) := HCalls.ret (by
  have h3 := per_nat hp
  apply W_layout_Good.ok
  unfold W_layout_Good
  refine (Sep.start H).nw fun b1 H1 hs => ?_
  refine hs.ldf 1 rfl rfl ?_
  simp only [HV]
  refine hs.ldf 1 rfl rfl ?_
  simp only [HV]
  rw [if_neg (by omega), i64w (x := (per : Int) * 8) (by omega) (by omega)]
  refine QCall.use (Lay.per_ok ((per : Int) * 8) H1) ?_
  try simp only [HV]
  have e : Lay.perN ((per : Int) * 8) = per := perN_of hp
  rw [e]
  refine QCall.use (Lay.good_ok (most : Int) (per : Int) H1) ?_
  try simp only [HV]
  rw [decide_eq_true (by omega)]
  refine BIf_pos rfl ?_
  refine hs.ldw 1 rfl rfl ?_
  refine hs.ldf 1 rfl rfl ?_
  simp only [HV]
  refine hs.ldf 1 rfl rfl ?_
  simp only [HV]
  refine QCall.use (Lay.lay_ok hm (p := per) (by omega) (by omega) H1) ?_
  try simp only [HV]
  refine EqI_eql p_lay (a := layI most per) (b := layI most per) rfl rfl (layI_range hm hp) (layI_range hm hp) rfl rfl ?_
  rw [decide_eq_true rfl]
  exact hs.fin 0 rfl _)
theorem Extent_ok {i k : Nat} (hi : i < 4) (hk : k ≤ most) (H : Hp) : HCalls Tryz.prog 51 #[.agg (Lay.layV most per), .int .i64 (i : Int), .int .i64 (k : Int)] H
    (RetE (.tuple #[.agg #[.int .i64 (((exX most per i k).f : Nat) : Int), .int .i64 (((exX most per i k).s : Nat) : Int), .int .i64 (((exX most per i k).w : Nat) : Int)], .int .i64 0]) H) := HCalls.ret (by
  have h3 := per_nat hp
  have h1 := two_small (k := k) (by omega)
  have h4 := Nat.two_pow_pos k
  have h5 := room_small (p := per) hm
  apply W_exec_Extent.ok
  unfold W_exec_Extent
  refine (Sep.start H).nw fun b1 H1 hs => ?_
  refine hs.nw fun b2 H1 hs => ?_
  refine hs.ldw 1 rfl rfl ?_
  rw [Array.toArray_toList]
  refine HCalls.use (Good_ok hm hp H1) ?_
  try simp only [HV]
  refine BIf_dneg (by omega) (BIf_dneg (by omega) (BIf_dneg (by omega) ?_))
  refine hs.ldf 1 (v := .int .i64 most) rfl rfl ?_
  simp only [HV]
  refine BIf_dneg (by omega) ⟨by rw [u64n (by omega)]; omega, by omega, by omega, ?_⟩
  rw [Int.toNat_natCast]
  try simp only [NN_some, Addr.add_lit', Addr.add_zero, Nat.zero_add, Nat.add_zero]
  refine hs.ld 1 (v := .int .i64 (Lay.exF (Lay.roomN most per) i)) rfl (by rw [nthV_eq, Array.getElem?_toList]; exact Lay.lay_first most per i hi) ?_
  simp only [HV]
  refine hs.ld 1 (v := .int .i64 per) rfl rfl ?_
  simp only [HV]
  rw [u64n (n := k) (by omega), Lay.shl_one (by omega), i64w (x := ((2 ^ k : Nat) : Int) - 1) (by omega) (by omega), show ((2 ^ k : Nat) : Int) - 1 = ((2 ^ k - 1 : Nat) : Int) by omega,
    show Int.tdiv ((2 ^ k - 1 : Nat) : Int) (per : Int) = (((2 ^ k - 1) / per : Nat) : Int) from rfl]
  have h6 := Nat.div_le_self (2 ^ k - 1) per
  rw [i64n (Nat.le_trans h6 (by omega)), i64w (x := (((2 ^ k - 1) / per : Nat) : Int) + 1) (by generalize (2 ^ k - 1) / per = q at *; omega) (by generalize (2 ^ k - 1) / per = q at *; omega)]
  refine ⟨by omega, by simp, ?_⟩
  refine hs.stw 2 rfl rfl rfl rfl fun H1 hs => ?_
  refine hs.ldw 2 rfl rfl ?_
  have e1 : Lay.exF (Lay.roomN most per) i = (((exX most per i k).f : Nat) : Int) := by unfold Lay.exF exX; simp
  rw [e1]
  exact hs.fin 0 rfl _)
end
structure LayOk (d : D) (most : Nat) : Prop where
  m : most ≤ 32
  p : perB (D.per d : Int) = true
  fit : Lay.needN most (D.per d) ≤ d.sec
theorem LayOk.on {d : D} {most : Nat} (h : LayOk d most) (hok : Ok d) {i k : Nat} (hi : i < 4) (hk : k ≤ most) : On d (exX most (D.per d) i k) := by
  have h1 := (Ok.per_le hok).1
  have h2 := room_mono (p := D.per d) hk
  have h3 := h.fit
  have h4 := room_ge (k := k) (p := D.per d) (by omega)
  have h5 := Nat.two_pow_pos k
  unfold Lay.needN at h3
  have h6 : i * Lay.roomN most (D.per d) ≤ 3 * Lay.roomN most (D.per d) := Nat.mul_le_mul_right _ (by omega)
  exact ⟨h5, Nat.le_add_left 1 ((2 ^ k - 1) / D.per d), by show 9 + i * Lay.roomN most (D.per d) + Lay.roomN k (D.per d) ≤ d.sec; omega, h4⟩
theorem LayOk.prog {d d' : D} {most : Nat} (h : LayOk d most) (h1 : d'.sec = d.sec) (h2 : d'.size = d.size) : LayOk d' most := by
  have e : D.per d' = D.per d := by unfold D.per; rw [h2]
  exact ⟨h.m, by rw [e]; exact h.p, by rw [e, h1]; exact h.fit⟩
theorem ext_apart {most per i j k : Nat} (hk : k ≤ most) (hij : i ≠ j) : (exX most per i k).f + (exX most per i k).s ≤ (exX most per j k).f ∨ (exX most per j k).f + (exX most per j k).s ≤ (exX most per i k).f := by
  have h2 := room_mono (p := per) hk
  show 9 + i * Lay.roomN most per + Lay.roomN k per ≤ 9 + j * Lay.roomN most per ∨ 9 + j * Lay.roomN most per + Lay.roomN k per ≤ 9 + i * Lay.roomN most per
  rcases Nat.lt_or_gt_of_ne hij with h | h
  · left
    have : (i + 1) * Lay.roomN most per ≤ j * Lay.roomN most per := Nat.mul_le_mul_right _ h
    rw [Nat.succ_mul] at this; omega
  · right
    have : (j + 1) * Lay.roomN most per ≤ i * Lay.roomN most per := Nat.mul_le_mul_right _ h
    rw [Nat.succ_mul] at this; omega
section
variable {dp ap : Nat} {d : D} {most : Nat} (hok : Ok d) (hl : LayOk d most)
include hok hl
theorem Pipe_tr {i k : Nat} (hi : i < 4) (hk : k ≤ most) : Tr Tryz.prog 45 #[.pointer (some ⟨dp, 0, none⟩), .pointer (some ⟨ap, 0, none⟩), .agg (Lay.layV most (D.per d)), .int .i64 (i : Int), .int .i64 (k : Int)] [Dk dp d] fun v M =>
    ∃ p, v = .tuple #[.pointer (some ⟨p, 0, none⟩), .int .i64 0] ∧ M = [Dk dp d, pts p (pipO dp ap (exX most (D.per d) i k))] := fun H hs => by
  apply W_exec_Pipe.ok
  unfold W_exec_Pipe
  refine hs.nw fun b1 H hs => ?_
  refine hs.ldw 1 rfl rfl ?_
  rw [Array.toArray_toList]
  refine HCalls.use (Extent_ok hl.m hl.p hi hk H) ?_
  try simp only [HV]
  refine hs.nw fun b2 H hs => ?_
  refine hs.stw 2 rfl rfl rfl rfl fun H hs => ?_
  refine BIf_bnen rfl ?_
  refine hs.ldw 2 rfl rfl ?_
  refine (New_tr (dp := dp) (ap := ap) hok (exX most (D.per d) i k) (hl.on hok hi hk)).use hs [0] rfl rfl ?_
  rintro _ _ H ⟨p, rfl, rfl⟩ hs
  simp only [HV]
  exact ⟨_, ⟨p, rfl, rfl⟩, hs.re [0, 1] rfl⟩
theorem ends_tr {pz : Pz} {k : Nat} (hf : pz.f < 4) (ho : pz.o < 4) (hk : k ≤ most) : Tr Tryz.prog 55 #[.pointer (some ⟨dp, 0, none⟩), .pointer (some ⟨ap, 0, none⟩), .agg (Lay.layV most (D.per d)), .int .i64 (k : Int), .agg pz.c] [Dk dp d] fun v M =>
    ∃ p q, v = .tuple #[.pointer (some ⟨p, 0, none⟩), .pointer (some ⟨q, 0, none⟩), .int .i64 0] ∧ M = [Dk dp d, pts p (pipO dp ap (exX most (D.per d) pz.f k)), pts q (pipO dp ap (exX most (D.per d) pz.o k))] := fun H hs => by
  apply W_exec_ends.ok
  unfold W_exec_ends
  refine hs.nw fun b1 H hs => ?_
  refine hs.nw fun b2 H hs => ?_
  refine hs.ldw 1 rfl rfl ?_
  rw [Array.toArray_toList]
  refine hs.ldf 2 (v := .int .i64 (pz.f : Int)) rfl rfl ?_
  simp only [HV]
  refine (Pipe_tr (dp := dp) (ap := ap) hok hl hf hk).use hs [0] rfl rfl ?_
  rintro _ _ H ⟨p, rfl, rfl⟩ hs
  simp only [HV]
  refine BIf_beqp rfl ?_
  refine hs.ldw 2 rfl rfl ?_
  rw [Array.toArray_toList]
  refine hs.ldf 3 (v := .int .i64 (pz.o : Int)) rfl rfl ?_
  simp only [HV]
  refine (Pipe_tr (dp := dp) (ap := ap) hok hl ho hk).use hs [0] rfl rfl ?_
  rintro _ _ H ⟨q, rfl, rfl⟩ hs
  simp only [HV]
  exact ⟨_, ⟨p, q, rfl, rfl⟩, hs.re [0, 2, 1] rfl⟩
end
end Go.Proofs.YtnknippcbecmeaaGreatDoor.Eng
end
section
/- exec: a pass on a disk, at every fuse. -/
namespace Go.Proofs.YtnknippcbecmeaaGreatDoor.Eng
open Go Go.Hw Go.Form W Shp Dsk Str Are Trn Pas Pln
structure PzOk (pz : Pz) (k per cap : Nat) : Prop where
  f : pz.f < 4
  o : pz.o < 4
  fo : pz.f ≠ pz.o
  k : pz.j.ea + pz.j.eb = k
  tn : pz.t = true → 2 ^ pz.j.ea + per ≤ cap
  rw : pz.t = false → pz.j.eb ≤ 20 ∧ -1 ≤ pz.j.tw ∧ pz.j.tw ≤ 32 ∧ per + 2 * 2 ^ pz.j.eb ≤ cap
def CostP (per cap f o : Nat) (pz : Pz) (r w : Nat) : Prop :=
  (pz.t = true ∧ ∃ j, BandIs ((2 ^ pz.j.ea : Nat) : Int) ((2 ^ pz.j.eb : Nat) : Int) per cap j ∧ r = rT per f o (2 ^ pz.j.ea) (2 ^ pz.j.eb) (2 ^ j) (2 ^ pz.j.eb / 2 ^ j) ∧ w = wT per o (2 ^ pz.j.ea) (2 ^ j) (2 ^ pz.j.eb / 2 ^ j)) ∨
  (pz.t = false ∧ ∃ j, BatIs pz.j.ea ((cap - per) / 2 ^ pz.j.eb) j ∧ r = rP per f o (2 ^ j * 2 ^ pz.j.eb) (2 ^ pz.j.ea / 2 ^ j) ∧ w = wP per o (2 ^ j * 2 ^ pz.j.eb) (2 ^ pz.j.ea / 2 ^ j))
section
variable {p q dp ap : Nat} {x y : X} {cap : Nat} {peak : Int} {TT : As} {k : Nat} {pz : Pz}
def runQ (p q dp ap : Nat) (x y : X) (cap : Nat) (pz : Pz) (TT : As) (d : D) (v : Value) (M : List As) : Prop :=
  ∃ peak' : Int, peak' ≤ cap ∧ ∃ r w, CostP (D.per d) cap x.f y.f pz r w ∧
    ((∃ d', Prog (inX y) d d' r w ∧ pws d' y 0 y.w = pz.ap (pws d x 0 x.w) ∧ v = .tuple #[.int .u32 ((Go.Crc.sum (form (pz.ap (pws d x 0 x.w)))).toNat : Int), .int .i64 0] ∧ M = [pts p (pipO dp ap x), pts q (pipO dp ap y), Dk dp d', Ar ap cap peak' [], TT]) ∨
     (∃ d', Dead (inX y) d d' ∧ d.fuse ≤ r + w ∧ v = .tuple #[.int .u32 0, .int .i64 8] ∧ M = [pts p (pipO dp ap x), pts q (pipO dp ap y), Dk dp d', Ar ap cap peak' [], TT]))
theorem mx_le {a b c : Int} (h1 : a ≤ c) (h2 : b ≤ c) : mx a b ≤ c := by unfold mx; split <;> assumption
theorem run_tr {d : D} (hT : ∀ H, TT H → T64 H) (hok : Ok d) (hl : d.down = false) (hx : On d x) (hy : On d y) (ho : d.rd ≤ 1000000000000 ∧ d.wr ≤ 1000000000000) (hk32 : k ≤ 32) (hxw : x.w = 2 ^ k) (hyw : y.w = 2 ^ k) (hdis : x.f + x.s ≤ y.f ∨ y.f + y.s ≤ x.f)
    (hper : perB (D.per d : Int) = true) (hcap : cap ≤ 16777216) (hpk : peak ≤ cap) (hz : PzOk pz k (D.per d) cap) :
    Tr Tryz.prog 57 #[.pointer (some ⟨p, 0, none⟩), .pointer (some ⟨q, 0, none⟩), .agg pz.c, .pointer (some ⟨ap, 0, none⟩), .int .i64 (D.per d : Int)]
      [pts p (pipO dp ap x), pts q (pipO dp ap y), Dk dp d, Ar ap cap peak [], TT] (runQ p q dp ap x y cap pz TT d) := fun H hs => by
  have hp := Ok.per_le hok
  have hkk := hz.k
  have hpow : 2 ^ pz.j.ea * 2 ^ pz.j.eb = 2 ^ k := by rw [← Nat.pow_add, hkk]
  have hxw2 : x.w = 2 ^ pz.j.ea * 2 ^ pz.j.eb := hxw.trans hpow.symm
  have hyw2 : y.w = 2 ^ pz.j.ea * 2 ^ pz.j.eb := hyw.trans hpow.symm
  apply W_exec_run.ok
  unfold W_exec_run
  refine hs.nw fun b1 H hs => ?_
  refine hs.ldf 5 (v := .int .i64 (if pz.t = true then 1 else 2)) rfl rfl ?_
  simp only [HV]
  cases ht : pz.t with
  | true =>
    refine BIf_beqp rfl ?_
    try simp only [NN_some, Addr.add_lit', Addr.add_zero, Nat.zero_add, Nat.add_zero]
    refine hs.lda 5 (off := 0) (n := 2) rfl (by show 0 + 2 ≤ 8; omega) ?_
    have ea : ((pz.c.toList.drop 0).take 2).toArray = #[.int .i64 ((2 ^ pz.j.ea : Nat) : Int), .int .i64 ((2 ^ pz.j.eb : Nat) : Int)] := rfl
    rw [ea]
    have htn := hz.tn ht
    obtain ⟨j, hj1, hj⟩ := BandIs.ex (ea := pz.j.ea) (eb := pz.j.eb) (per := (D.per d : Int)) (free := (cap : Int)) (by omega) (by omega)
    have hjs : BandIs ((2 ^ pz.j.ea : Nat) : Int) ((2 ^ pz.j.eb : Nat) : Int) (D.per d) ((cap : Int) - sumB []) j := by rw [sumB_nil, Int.sub_zero]; exact hj
    have hfit := hj.fit
    have hdv : 2 ^ pz.j.eb / 2 ^ j * 2 ^ j = 2 ^ pz.j.eb := (div_pow hj1).symm
    refine (Trn.Run_tr (p := p) (q := q) (dp := dp) (ap := ap) (x := x) (y := y) (cap := cap) (peak := peak) (bufs := []) hT hok hl hx hy (by omega) (by omega) hxw2 hyw2 hdis hper (by omega) (by decide) hjs).use hs [0, 1, 2, 3, 4] rfl rfl ?_
    rintro v _ H ⟨M0, hq, rfl⟩ hs
    have hpk2 : mx peak (sumB [] + ((2 ^ j * 2 ^ pz.j.ea : Nat) : Int) + (D.per d : Int)) ≤ cap := mx_le hpk (by rw [sumB_nil]; rw [Int.natCast_mul]; omega)
    have hap : pz.ap (pws d x 0 x.w) = trW d x (2 ^ pz.j.ea) (2 ^ pz.j.eb) := by unfold Pz.ap; rw [if_pos ht, trW_trL, hxw2]
    rcases hq with ⟨d', hI, rfl, rfl⟩ | ⟨d', hD, hfu, rfl, rfl⟩
    · simp only [HV]
      refine ⟨_, ⟨_, hpk2, _, _, .inl ⟨ht, j, hj, rfl, rfl⟩, .inl ⟨d', hI.pg, ?_, by rw [hap], rfl⟩⟩, hs.re [0, 1, 2, 3, 4] rfl⟩
      rw [hap]
      have hlen := trW_len d x (2 ^ pz.j.ea) (2 ^ pz.j.eb)
      rw [hyw2]
      refine (pws_map fun k hk => hI.dst k ?_)
      rw [hdv, Nat.mul_comm]; exact hk
    · simp only [HV]
      exact ⟨_, ⟨_, hpk2, _, _, .inl ⟨ht, j, hj, rfl, rfl⟩, .inr ⟨d', hD, hfu, rfl, rfl⟩⟩, hs.re [0, 1, 2, 3, 4] rfl⟩
  | false =>
    refine BIf_beqn (by decide) (BIf_beqp rfl ?_)
    try simp only [NN_some, Addr.add_lit', Addr.add_zero, Nat.zero_add, Nat.add_zero]
    refine hs.lda 5 (off := 0) (n := 5) rfl (by show 0 + 5 ≤ 8; omega) ?_
    have ea : ((pz.c.toList.drop 0).take 5).toArray = pz.j.a := rfl
    rw [ea]
    obtain ⟨h20, htw1, htw2, hcp⟩ := hz.rw ht
    have hpb := Nat.two_pow_pos pz.j.eb
    have hq2 : 2 ≤ (cap - D.per d) / 2 ^ pz.j.eb := (Nat.le_div_iff_mul_le hpb).2 (by omega)
    obtain ⟨j, hj⟩ := BatIs.ex (ea := pz.j.ea) hq2
    have hjs : BatIs pz.j.ea (((cap : Int) - sumB [] - (D.per d : Int)).toNat / 2 ^ pz.j.eb) j := by
      have : ((cap : Int) - sumB [] - (D.per d : Int)).toNat = cap - D.per d := by rw [sumB_nil]; omega
      rw [this]; exact hj
    have hfit : (2 ^ j + 1) * 2 ^ pz.j.eb ≤ cap - D.per d := (Nat.le_div_iff_mul_le hpb).1 hj.fit
    rw [Nat.succ_mul] at hfit
    refine (Pas.Run_tr (p := p) (q := q) (dp := dp) (ap := ap) (x := x) (y := y) (cap := cap) (peak := peak) (bufs := []) (j := pz.j) hT hok hl hx hy (by omega) (by omega) h20 ⟨htw1, htw2⟩ hxw2 hyw2 hdis hper (by omega) (by decide) (by rw [sumB_nil]; omega) hjs).use hs [0, 1, 2, 3, 4] rfl rfl ?_
    rintro v _ H ⟨M0, hq, rfl⟩ hs
    have hpk2 : mx peak (sumB [] + ((2 ^ j * 2 ^ pz.j.eb : Nat) : Int) + ((2 ^ pz.j.eb : Nat) : Int) + (D.per d : Int)) ≤ cap := mx_le hpk (by rw [sumB_nil]; omega)
    have hap : pz.ap (pws d x 0 x.w) = rowsU pz.j d x (2 ^ pz.j.ea) := by unfold Pz.ap; rw [if_neg (by rw [ht]; simp), wantL_rows, hxw2]
    rcases hq with ⟨d', hI, rfl, rfl⟩ | ⟨d', hD, hfu, rfl, rfl⟩
    · simp only [HV]
      refine ⟨_, ⟨_, hpk2, _, _, .inr ⟨ht, j, hj, rfl, rfl⟩, .inl ⟨d', hI.pg, ?_, by rw [hap], rfl⟩⟩, hs.re [0, 1, 2, 3, 4] rfl⟩
      rw [hap]
      have hlen := rowsU_len pz.j d x (2 ^ pz.j.ea)
      rw [hyw2, ← hlen]
      have hdv : 2 ^ pz.j.ea / 2 ^ j * 2 ^ j = 2 ^ pz.j.ea := (div_pow hj.le).symm
      have key := pws_map (d := d') (x := y) (n := (rowsU pz.j d x (2 ^ pz.j.ea)).length) (f := fun k => ((rowsU pz.j d x (2 ^ pz.j.ea))[k]?).getD 0) fun k hk => by
        have := hI.dst k (by rw [hdv, ← hlen]; exact hk)
        rw [hdv] at this; exact this
      rw [key]; exact range_get _
    · simp only [HV]
      exact ⟨_, ⟨_, hpk2, _, _, .inr ⟨ht, j, hj, rfl, rfl⟩, .inr ⟨d', hD, hfu, rfl, rfl⟩⟩, hs.re [0, 1, 2, 3, 4] rfl⟩
end
theorem inX_on {d : D} {x : X} (hx : On d x) : ∀ i, inX x i → 0 ≤ i ∧ i < d.sec := fun i hi => by
  have := hx.fit
  unfold inX at hi
  omega
def doP (dp ap : Nat) (d : D) (c : Cn) (most k : Nat) (pz : Pz) (cap : Nat) (TT : As) (v : Value) (M : List As) : Prop :=
  ∃ peak' : Int, peak' ≤ cap ∧ ∃ r w, CostP (D.per d) cap (exX most (D.per d) pz.f k).f (exX most (D.per d) pz.o k).f pz r w ∧
    ((∃ d' c', Went d d' (nS (D.per d) (2 ^ k) + r) w 1 ∧ Clean d' c' ∧ Sam (inX (exX most (D.per d) pz.o k)) c c' ∧ cws c' (D.per d) (exX most (D.per d) pz.o k).f (2 ^ k) = pz.ap (cws c (D.per d) (exX most (D.per d) pz.f k).f (2 ^ k)) ∧
        v = .tuple #[.int .u32 (crcU (pz.ap (cws c (D.per d) (exX most (D.per d) pz.f k).f (2 ^ k))) : Int), .int .i64 0] ∧ M = [Dk dp d', Ar ap cap peak' [], TT]) ∨
     (∃ d', Cut d d' (nS (D.per d) (2 ^ k) + r + w + 1) ∧ Left d' (fun c' => Sam (inX (exX most (D.per d) pz.o k)) c c') ∧ v = .tuple #[.int .u32 0, .int .i64 8] ∧ M = [Dk dp d', Ar ap cap peak' [], TT]))
theorem Do_tr {dp ap : Nat} {d : D} {c : Cn} {most k : Nat} {pz : Pz} {cap : Nat} {peak : Int} {TT : As} (hT : ∀ H, TT H → T64 H) (hc : Clean d c) (hl : LayOk d most) (hk : k ≤ most) (ho : d.rd ≤ 100000000000 ∧ d.wr ≤ 100000000000 ∧ d.sy ≤ 100000000000)
    (hcap : cap ≤ 16777216) (hpk : peak ≤ cap) (hz : PzOk pz k (D.per d) cap) :
    Tr Tryz.prog 13 #[.pointer (some ⟨dp, 0, none⟩), .pointer (some ⟨ap, 0, none⟩), .agg (Lay.layV most (D.per d)), .int .i64 (k : Int), .agg pz.c, .int .u32 (crcU (cws c (D.per d) (exX most (D.per d) pz.f k).f (2 ^ k)) : Int)]
      [Dk dp d, Ar ap cap peak [], TT] (doP dp ap d c most k pz cap TT) := fun H hs => by
  have hok := hc.ok
  have hp := Ok.per_le hok
  have hm := hl.m
  have hx := hl.on hok hz.f hk
  have hy := hl.on hok hz.o hk
  have hcp : D.per d ≤ cap := by
    cases ht : pz.t with
    | true => have := hz.tn ht; have := Nat.two_pow_pos pz.j.ea; omega
    | false => have := hz.rw ht; have := Nat.two_pow_pos pz.j.eb; omega
  apply W_exec_Do.ok
  unfold W_exec_Do
  refine hs.nw fun b1 H hs => ?_
  refine hs.nw fun b2 H hs => ?_
  refine hs.ldw 3 rfl rfl ?_
  refine hs.ldw 4 rfl rfl ?_
  rw [Array.toArray_toList, Array.toArray_toList]
  refine (ends_tr (dp := dp) (ap := ap) hok hl hz.f hz.o hk).use hs [0] rfl rfl ?_
  rintro _ _ H ⟨p, q, rfl, rfl⟩ hs
  simp only [HV]
  refine BIf_bnen rfl ?_
  have hs : Sep [Dk dp d, pts p (pipO dp ap (exX most (D.per d) pz.f k)), pts q (pipO dp ap (exX most (D.per d) pz.o k)), Ar ap cap peak [], TT, pts b1 (.obj (.cells (Lay.layV most (D.per d)) 33)), pts b2 (.obj (.cells pz.c 64))] H := hs
  have j6 : W_exec_Do.j6 (fun v H' => ∃ M, doP dp ap d c most k pz cap TT v M ∧ Sep M H') (some ⟨dp, 0, none⟩) (some ⟨ap, 0, none⟩) (crcU (cws c (D.per d) (exX most (D.per d) pz.f k).f (2 ^ k)) : Int) ⟨b1, 0, none⟩ ⟨b2, 0, none⟩ (some ⟨p, 0, none⟩) (some ⟨q, 0, none⟩) H := by
    have hwx : (exX most (D.per d) pz.f k).w = 2 ^ k := rfl
    have hwy : (exX most (D.per d) pz.o k).w = 2 ^ k := rfl
    have hxy := ext_apart (most := most) (per := D.per d) hk hz.fo
    have hcost : ∃ r w, CostP (D.per d) cap (exX most (D.per d) pz.f k).f (exX most (D.per d) pz.o k).f pz r w := by
      have hkk := hz.k
      cases ht : pz.t with
      | true =>
        have htn := hz.tn ht
        obtain ⟨j, _, hj⟩ := BandIs.ex (ea := pz.j.ea) (eb := pz.j.eb) (per := (D.per d : Int)) (free := (cap : Int)) (by omega) (by omega)
        exact ⟨_, _, .inl ⟨ht, j, hj, rfl, rfl⟩⟩
      | false =>
        obtain ⟨_, _, _, hcp⟩ := hz.rw ht
        obtain ⟨j, hj⟩ := BatIs.ex (ea := pz.j.ea) ((Nat.le_div_iff_mul_le (Nat.two_pow_pos pz.j.eb)).2 (by omega) : 2 ≤ (cap - D.per d) / 2 ^ pz.j.eb)
        exact ⟨_, _, .inr ⟨ht, j, hj, rfl, rfl⟩⟩
    generalize hX : exX most (D.per d) pz.f k = x at *
    generalize hY : exX most (D.per d) pz.o k = y at *
    unfold W_exec_Do.j6
    refine (SumG_tr (p := p) (dp := dp) (ap := ap) (x := x) (cap := cap) (peak := peak) (bufs := []) hok hc.down hx (by omega) (by rw [sumB_nil]; omega)).use hs [1, 0, 3] rfl rfl ?_
    have hw0 := pws_cws hc.now x (2 ^ k)
    have hpk1 : mx peak (sumB [] + (D.per d : Int)) ≤ cap := mx_le hpk (by rw [sumB_nil]; omega)
    rintro _ _ H (⟨hf, rfl, rfl⟩ | ⟨j, hj, hf, rfl, rfl⟩) hs
    · have hsum : ((Go.Crc.sum (form (pws d x 0 x.w))).toNat : Int) = (crcU (cws c (D.per d) x.f (2 ^ k)) : Int) := by rw [hwx, hw0]; rfl
      rw [hsum]
      simp only [HV]
      refine BIf_bnen rfl (BIf_bnen rfl ?_)
      rw [hwx] at hs hf
      generalize hN : nS (D.per d) (2 ^ k) = N at hs hf
      have hcN := hc.rdG N
      have hwN := Went.rdG hf
      have hs : Sep [pts p (pipO dp ap x), Dk dp (D.rdG d N), Ar ap cap (mx peak (sumB [] + (D.per d : Int))) [], pts q (pipO dp ap y), TT, pts b1 (.obj (.cells (Lay.layV most (D.per d)) 33)), pts b2 (.obj (.cells pz.c 64))] H := hs
      refine hs.ldw 6 rfl rfl ?_
      rw [Array.toArray_toList]
      try simp only [NN_some, Addr.add_lit', Addr.add_zero, Nat.zero_add, Nat.add_zero]
      refine hs.ld 5 (v := .int .i64 (D.per d : Int)) rfl rfl ?_
      simp only [HV]
      have hwr : (D.rdG d N).wr = d.wr := rfl
      have hrd : (D.rdG d N).rd = d.rd + N := rfl
      have hNs : N ≤ 4294967296 := by
        rw [← hN]
        have h2k := two_small (k := k) (by omega)
        unfold nS
        exact Nat.le_trans (Nat.div_le_of_le_mul (by
          have : 2 ^ k + D.per d - 1 ≤ 2 ^ k * D.per d := by
            have h1 := Nat.two_pow_pos k
            obtain ⟨a, ha⟩ : ∃ a, 2 ^ k = a + 1 := ⟨2 ^ k - 1, by omega⟩
            obtain ⟨b, hb⟩ : ∃ b, D.per d = b + 1 := ⟨D.per d - 1, by omega⟩
            rw [ha, hb, Nat.mul_add, Nat.add_mul]; omega
          rw [Nat.mul_comm]; exact this)) h2k
      have hpx : pws (D.rdG d N) x 0 x.w = cws c (D.per d) x.f (2 ^ k) := by rw [hwx]; exact pws_cws hcN.now x (2 ^ k)
      refine (run_tr (p := p) (q := q) (dp := dp) (ap := ap) (x := x) (y := y) (cap := cap) (peak := mx peak (sumB [] + (D.per d : Int))) (TT := TT) (k := k) (pz := pz) (d := D.rdG d N) hT hcN.ok hcN.down ⟨hx.w1, hx.s1, hx.fit, hx.room⟩ ⟨hy.w1, hy.s1, hy.fit, hy.room⟩ (by omega) (by omega) hwx hwy hxy hl.p hcap hpk1 hz).use hs [0, 3, 1, 2, 4] rfl rfl ?_
      rintro v M H ⟨peak', hpk', r, w, hcost', hq⟩ hs
      rw [hpx] at hq
      rcases hq with ⟨d', hP, hw', rfl, rfl⟩ | ⟨d', hD, hfu, rfl, rfl⟩
      · have h2 := hP.sy
        simp only [HV]
        refine BIf_bnen rfl ?_
        refine (Sync_tr (p := dp) (d := d') hP.ok (by rw [h2]; show d.sy ≤ _; omega)).use hs [2] rfl rfl ?_
        rintro _ _ H ⟨rfl, rfl⟩ hs
        rcases hcN.sync hP (inX_on (d := D.rdG d N) ⟨hy.w1, hy.s1, hy.fit, hy.room⟩) with ⟨e, hw2, hc2⟩ | ⟨e, hcut, hleft⟩
        · rw [e]
          simp only [HV]
          refine BIf_bnen rfl ?_
          have hgo := hwN.trans hw2
          have hsam : Sam (inX y) c d'.now := fun i hi => (hcN.prog hP i).2 hi
          refine ⟨_, ⟨peak', hpk', r, w, by rw [hX, hY]; exact hcost', .inl ⟨_, _, by rw [hN]; simpa using hgo, hc2, by rw [hY]; exact hsam, ?_, by rw [hX]; rfl, rfl⟩⟩, hs.re [0, 3, 4] rfl⟩
          rw [hX, hY, ← hw', hwy]
          have e2 : D.per d' = D.per d := hP.per
          rw [← e2]
          exact (pws_cws (fun _ => rfl) y (2 ^ k)).symm
        · rw [e]
          simp only [HV]
          refine BIf_bnep (by decide) ?_
          have hgo := hwN.cut hcut
          exact ⟨_, ⟨peak', hpk', r, w, by rw [hX, hY]; exact hcost', .inr ⟨_, by rw [hN]; exact hgo.more (by omega), by rw [hY]; exact hleft.mono fun _ h => h.2, rfl, rfl⟩⟩, hs.re [0, 3, 4] rfl⟩
      · simp only [HV]
        refine BIf_bnep (by decide) ?_
        have hf1 : 1 ≤ (D.rdG d N).fuse := by have h1 := hD.cnt; have h2 := hD.rd; have h3 := hD.wr; omega
        have hcut := hcN.deadCut hD (inX_on (d := D.rdG d N) ⟨hy.w1, hy.s1, hy.fit, hy.room⟩) hfu hf1
        have hgo := hwN.cut hcut
        exact ⟨_, ⟨peak', hpk', r, w, by rw [hX, hY]; exact hcost', .inr ⟨_, by rw [hN]; exact hgo.more (by omega), by rw [hY]; exact hcN.deadLeft hD, rfl, rfl⟩⟩, hs.re [2, 3, 4] rfl⟩
    · simp only [HV]
      refine BIf_bnep (by decide) ?_
      obtain ⟨r, w, hcost⟩ := hcost
      rw [hwx] at hj
      have hcut := Cut.rdG hc hf hj
      refine ⟨_, ⟨_, hpk1, r, w, by rw [hX, hY]; exact hcost, .inr ⟨_, hcut.more (by omega), ?_, rfl, rfl⟩⟩, hs.re [1, 2, 4] rfl⟩
      exact (Left.rdG hc j).mono fun c' e => by rw [e]; exact fun _ _ => rfl
  refine hs.ldf 6 (v := .int .i64 (if pz.t = true then 1 else 2)) rfl rfl ?_
  simp only [HV]
  cases ht : pz.t with
  | true => exact BIf_bnen rfl j6
  | false =>
    refine BIf_bnep (by decide) ?_
    refine hs.ldf 6 (v := .int .i64 (if pz.t = true then 1 else 2)) rfl rfl ?_
    rw [ht]
    simp only [HV]
    exact BIf_bnen rfl j6
end Go.Proofs.YtnknippcbecmeaaGreatDoor.Eng
end
section
/- Formulas of functions, printed by wip/tools/hwp.py. -/
namespace Go.Proofs.YtnknippcbecmeaaGreatDoor.W
open Go Go.Hw
theorem mixWabacistref24 : Tryz.prog.follows .mixedOrders = true := by kernel_rfl
def W_abacistref24_Least (x1 : Int) (x2 : Int) (H : Hp) (K : Value → Hp → Prop) : Prop :=
  ((2 : Int) ≠ 0 ∧ IntKind.i64 = IntKind.i64 ∧ HCalls Tryz.prog 40 #[.int .i64 (IntKind.i64.wrap (Int.tdiv (IntKind.i64.wrap (x1 + (1 : Int))) (2 : Int)))] H fun v1 H1 => DI .i64 v1 fun x3 => K (.int .i64 (IntKind.i64.wrap ((IntKind.i64.wrap ((2 : Int) * x3)) + x2))) H1)
theorem W_abacistref24_Least.ok (x1 : Int) (x2 : Int) (H : Hp) (K : Value → Hp → Prop) (h : W_abacistref24_Least x1 x2 H K) : HCalls Tryz.prog 7 #[.int .i64 x1, .int .i64 x2] H K :=
  hcalls Tryz.func7 rfl (Nat.le_of_ble_eq_true rfl) (hw_safe (Λ := Cuts.none (fun _ => none)) mixWabacistref24 _ _ _ _ _ (Eq.mp (by kernel_rfl) h) (obs_none _ _ _ _ _))
def W_abacistref24_Passes.j6 (K : Value → Hp → Prop) (x13 : Int) (x14 : Int) (x15 : Int) (H : Hp) : Prop :=
  ((2 : Int) ≠ 0 ∧ IntKind.i64 = IntKind.i64 ∧ HCalls Tryz.prog 40 #[.int .i64 (IntKind.i64.wrap (Int.tdiv x13 (2 : Int)))] H fun v4 H5 => DI .i64 v4 fun x16 => ((2 : Int) ≠ 0 ∧ IntKind.i64 = IntKind.i64 ∧ HCalls Tryz.prog 40 #[.int .i64 (IntKind.i64.wrap (x13 - (IntKind.i64.wrap (Int.tdiv x13 (2 : Int)))))] H5 fun v5 H6 => DI .i64 v5 fun x17 => Nw H6 (.obj (.cells #[.int .i64 0, .int .i64 0] 59)) fun b2 H7 => StA H7 (⟨b2, 0, none⟩ : Addr) #[.int .i64 x16, .int .i64 x17] 2 fun H8 => Ld H8 ((⟨b2, 0, none⟩ : Addr).add 1) fun v6 => DI .i64 v6 fun x18 => Ld H8 ((⟨b2, 0, none⟩ : Addr).add 0) fun v7 => DI .i64 v7 fun x19 => Nw H8 (.obj (.cells #[.int .i64 0, .int .i64 0] 59)) fun b3 H9 => StA H9 (⟨b3, 0, none⟩ : Addr) #[.int .i64 x18, .int .i64 x19] 2 fun H10 => LdA H10 (⟨b2, 0, none⟩ : Addr) 2 fun l1 => DCons l1.toArray.toList fun v8 l2 => DI .i64 v8 fun x20 => DCons l2 fun v9 l3 => DI .i64 v9 fun x21 => DNil l3 (LdA H10 (⟨b3, 0, none⟩ : Addr) 2 fun l4 => DCons l4.toArray.toList fun v10 l5 => DI .i64 v10 fun x22 => DCons l5 fun v11 l6 => DI .i64 v11 fun x23 => DNil l6 (LdA H10 (⟨b3, 0, none⟩ : Addr) 2 fun l7 => DCons l7.toArray.toList fun v12 l8 => DI .i64 v12 fun x24 => DCons l8 fun v13 l9 => DI .i64 v13 fun x25 => DNil l9 (LdA H10 (⟨b2, 0, none⟩ : Addr) 2 fun l10 => DCons l10.toArray.toList fun v14 l11 => DI .i64 v14 fun x26 => DCons l11 fun v15 l12 => DI .i64 v15 fun x27 => DNil l12 (LdA H10 (⟨b2, 0, none⟩ : Addr) 2 fun l13 => DCons l13.toArray.toList fun v16 l14 => DI .i64 v16 fun x28 => DCons l14 fun v17 l15 => DI .i64 v17 fun x29 => DNil l15 (Nw H10 (.row [.int .i64 x20, .int .i64 x21, .int .i64 0, .int .i64 (-1), .int .u64 1, .int .i64 1, .int .i64 0, .int .i64 1, .int .i64 x22, .int .i64 x23, .int .i64 x14, .int .i64 x13, .int .u64 1, .int .i64 2, .int .i64 1, .int .i64 2, .int .i64 x24, .int .i64 x25, .int .i64 0, .int .i64 (-1), .int .u64 1, .int .i64 1, .int .i64 2, .int .i64 1, .int .i64 x26, .int .i64 x27, .int .i64 x14, .int .i64 (-1), .int .u64 x15, .int .i64 2, .int .i64 1, .int .i64 2, .int .i64 x28, .int .i64 x29, .int .i64 0, .int .i64 (-1), .int .u64 1, .int .i64 1, .int .i64 2, .int .i64 3] 64 40) fun b4 H11 => K (.slice (some ⟨b4, 0, none⟩) 5 5) H11)))))))
def W_abacistref24_Passes.j4 (K : Value → Hp → Prop) (x6 : Int) (x7 : Int) (x8 : Int) (x9 : Int) (x10 : Int) (H : Hp) : Prop :=
  BIf (decide (x6 ≤ (20 : Int))) (HCalls Tryz.prog 40 #[.int .i64 x6] H fun v2 H2 => DI .i64 v2 fun x11 => BIf (decide ((IntKind.i64.wrap ((IntKind.i64.wrap ((2 : Int) * x11)) + x8)) ≤ x9)) (HCalls Tryz.prog 40 #[.int .i64 x6] H2 fun v3 H3 => DI .i64 v3 fun x12 => Nw H3 (.row [.int .i64 1, .int .i64 x12, .int .i64 x7, .int .i64 (-1), .int .u64 x10, .int .i64 2, .int .i64 0, .int .i64 3] 64 8) fun b1 H4 => K (.slice (some ⟨b1, 0, none⟩) 1 1) H4) (W_abacistref24_Passes.j6 K x6 x7 x10 H2)) (W_abacistref24_Passes.j6 K x6 x7 x10 H)
def W_abacistref24_Passes (x1 : Int) (x2 : Int) (x3 : Int) (x4 : Int) (H : Hp) (K : Value → Hp → Prop) : Prop :=
  BIf (x2 == (1 : Int)) (HCalls Tryz.prog 48 #[.int .i64 x1] H fun v1 H1 => DI .u64 v1 fun x5 => W_abacistref24_Passes.j4 K x1 x2 x3 x4 x5 H1) (W_abacistref24_Passes.j4 K x1 x2 x3 x4 (1 : Int) H)
def W_abacistref24_Passes.Λ (K : Value → Hp → Prop) : Cuts := ⟨fun i => match Nat.beq i 6 with | true => some (fun E D H => eI E 0 .i64 fun x13 => eI E 1 .i64 fun x14 => eI E 9 .u64 fun x15 => DNilD D (W_abacistref24_Passes.j6 K x13 x14 x15 H)) | false => match Nat.beq i 4 with | true => some (fun E D H => eI E 0 .i64 fun x6 => eI E 1 .i64 fun x7 => eI E 2 .i64 fun x8 => eI E 3 .i64 fun x9 => eI E 9 .u64 fun x10 => DNilD D (W_abacistref24_Passes.j4 K x6 x7 x8 x9 x10 H)) | false => none, fun i => none, (fun _ => none)⟩
theorem W_abacistref24_Passes.ok (x1 : Int) (x2 : Int) (x3 : Int) (x4 : Int) (H : Hp) (K : Value → Hp → Prop) (h : W_abacistref24_Passes x1 x2 x3 x4 H K) : HCalls Tryz.prog 9 #[.int .i64 x1, .int .i64 x2, .int .i64 x3, .int .i64 x4] H K :=
  hcalls Tryz.func9 rfl (Nat.le_of_ble_eq_true rfl) (hw_safe (Λ := (W_abacistref24_Passes.Λ K)) mixWabacistref24 _ _ _ _ _ (Eq.mp (by kernel_rfl) h) (obs_seq obs_region rfl (obs_seq obs_region rfl (obs_seqc (obs_seq obs_region rfl (obs_cond obs_region obs_skip)) rfl (fun E D H h => by
      obtain ⟨x6, e0, g2⟩ := GI h; obtain ⟨x7, e1, g4⟩ := GI g2; obtain ⟨x8, e2, g6⟩ := GI g4; obtain ⟨x9, e3, g8⟩ := GI g6; obtain ⟨x10, e9, g10⟩ := GI g8; obtain ⟨rfl, h'⟩ := DNilD.out g10
      exact (hw_safe (Λ := (W_abacistref24_Passes.Λ K)) mixWabacistref24 _ _ [(0, .int .i64 x6), (1, .int .i64 x7), (2, .int .i64 x8), (3, .int .i64 x9), (9, .int .u64 x10)] [] H (Eq.mp (by kernel_rfl) h') (obs_seqc (obs_seq obs_region rfl (obs_cond (obs_seq obs_region rfl obs_ret) obs_skip)) rfl (fun E D H h => by
          obtain ⟨x13, e0, g2⟩ := GI h; obtain ⟨x14, e1, g4⟩ := GI g2; obtain ⟨x15, e9, g6⟩ := GI g4; obtain ⟨rfl, h'⟩ := DNilD.out g6
          exact (hw_safe (Λ := (W_abacistref24_Passes.Λ K)) mixWabacistref24 _ _ [(0, .int .i64 x13), (1, .int .i64 x14), (9, .int .u64 x15)] [] H (Eq.mp (by kernel_rfl) h') (obs_seq obs_region rfl (obs_seq obs_region rfl (obs_seq obs_region rfl obs_ret)))).weaken (EnvLe.cons e0 (EnvLe.cons e1 (EnvLe.cons e9 (EnvLe.nil _)))) (Hp.le_refl _)))).weaken (EnvLe.cons e0 (EnvLe.cons e1 (EnvLe.cons e2 (EnvLe.cons e3 (EnvLe.cons e9 (EnvLe.nil _)))))) (Hp.le_refl _))))))
def W_abacistref24_power.l3 (K : Value → Hp → Prop) : Nat → Int → Int → Int → Hp → Prop
  | 0, _, _, _, _ => False
  | k + 1, x2, x3, x4, H =>
    let R3 := W_abacistref24_power.l3 K k
    BIf (decide (x4 < x2)) (R3 x2 (IntKind.i64.wrap ((2 : Int) * x3)) (IntKind.i64.wrap (x4 + (1 : Int))) H) (K (.int .i64 x3) H)
def W_abacistref24_power (x1 : Int) (H : Hp) (K : Value → Hp → Prop) : Prop :=
  (∃ k, W_abacistref24_power.l3 K k x1 (1 : Int) (0 : Int) H)
def W_abacistref24_power.l3.L (K : Value → Hp → Prop) (k : Nat) : Mid := fun E D H =>
  eI E 0 .i64 fun x2 => eI E 3 .i64 fun x3 => eI E 4 .i64 fun x4 => DNilD D (W_abacistref24_power.l3 K k x2 x3 x4 H)
def W_abacistref24_power.Λ3 (_ : Value → Hp → Prop) (_R3 : Int → Int → Int → Hp → Prop) : Cuts := Cuts.none (fun _ => none)
def W_abacistref24_power.Λ (K : Value → Hp → Prop) : Cuts := ⟨fun i => none, fun i => match Nat.beq i 3 with | true => some (fun E D H => ∃ k, W_abacistref24_power.l3.L K k E D H) | false => none, (fun _ => none)⟩
theorem W_abacistref24_power.ok (x1 : Int) (H : Hp) (K : Value → Hp → Prop) (h : W_abacistref24_power x1 H K) : HCalls Tryz.prog 40 #[.int .i64 x1] H K :=
  hcalls Tryz.func40 rfl (Nat.le_of_ble_eq_true rfl) (hw_safe (Λ := (W_abacistref24_power.Λ K)) mixWabacistref24 _ _ _ _ _ (Eq.mp (by kernel_rfl) h) (obs_seq obs_region rfl (obs_seq obs_region rfl (obs_seq (obs_seq obs_region rfl (obs_block (obs_loop rfl (fun E D H h => by
      refine Safe.loop' (W_abacistref24_power.l3.L K) (fun E D H h => ?_) (fun k E D H h => ?_) E D H h
      · obtain ⟨w0, e0, g1⟩ := DG.out h; obtain ⟨x2, rfl, g2⟩ := DI.out g1; obtain ⟨w3, e3, g3⟩ := DG.out g2; obtain ⟨x3, rfl, g4⟩ := DI.out g3; obtain ⟨w4, e4, g5⟩ := DG.out g4; obtain ⟨x4, rfl, g6⟩ := DI.out g5; obtain ⟨rfl, h'⟩ := DNilD.out g6; exact h'
      · obtain ⟨x2, e0, g2⟩ := GI h
        obtain ⟨x3, e3, g4⟩ := GI g2; obtain ⟨x4, e4, g6⟩ := GI g4; obtain ⟨rfl, h'⟩ := DNilD.out g6
        exact (hw_safe (Λ := (W_abacistref24_power.Λ3 K (W_abacistref24_power.l3 K k))) mixWabacistref24 _ _ [(0, .int .i64 x2), (3, .int .i64 x3), (4, .int .i64 x4)] [] H (Eq.mp (by kernel_rfl) h') (obs_seq (obs_seq obs_region rfl (obs_cond obs_skip obs_exit)) rfl (obs_seq (obs_block obs_region) rfl obs_region))).weaken (EnvLe.cons e0 (EnvLe.cons e3 (EnvLe.cons e4 (EnvLe.nil _)))) (Hp.le_refl _))))) rfl (obs_seq obs_region rfl obs_ret)))))
end Go.Proofs.YtnknippcbecmeaaGreatDoor.W
end
section
/- Words alike, powers, the least room: the documents' functions; rows that are one's own. -/
namespace Go.Proofs.YtnknippcbecmeaaGreatDoor.Eng
open Go Go.Hw Go.Form W Shp Dsk Str Are Trn Pas Pln
theorem SameU_loop (H : Hp) (A B : Option Addr) (n m m' : Nat) (ws : List UInt64) (hn : n = ws.length) (hl : n ≤ 1000000000) (ha : Cells H A (wordVals ws)) (hb : Cells H B (wordVals ws)) :
    ∀ (t i : Nat), i + t = n → W_abacistref04_Same.l4 (RetE (.bool true) H) (t + 1) A n m B n m' (i : Int) H
  | 0, i, h => by
    unfold W_abacistref04_Same.l4
    exact BIf_dneg (by omega) (RetE.mk _ _)
  | t + 1, i, h => by
    unfold W_abacistref04_Same.l4
    refine BIf_dpos (by omega) ?_
    have hg : (wordVals ws)[i]? = some (.int .u64 ((ws[i]'(by omega)).toNat : Int)) := by
      rw [wordVals_get, List.getElem?_eq_getElem (by omega)]; rfl
    refine ha.read hg rfl (by rw [wordVals_length]; omega) ?_
    simp only [HV]
    refine hb.read hg rfl (by rw [wordVals_length]; omega) ?_
    simp only [HV]
    refine BIf_bnen rfl ?_
    rw [i64w (x := (i : Int) + 1) (by omega) (by omega)]
    exact SameU_loop H A B n m m' ws hn hl ha hb t (i + 1) (by omega)
theorem SameU_ok (A B : Option Addr) (n n' m m' : Nat) (ws : List UInt64) (hn : n = ws.length) (hn' : n' = ws.length) (hl : n ≤ 1000000000) (H : Hp) (ha : Cells H A (wordVals ws)) (hb : Cells H B (wordVals ws)) :
    HCalls Tryz.prog 17 #[.slice A n m, .slice B n' m'] H (RetE (.bool true) H) := by
  obtain rfl : n' = n := by omega
  apply W_abacistref04_Same.ok
  unfold W_abacistref04_Same
  refine BIf_bnen rfl ⟨n' + 1, ?_⟩
  exact SameU_loop H A B n' m m' ws hn hl ha hb n' 0 (by omega)
theorem power_loop (H : Hp) (k : Nat) (hk : k ≤ 40) : ∀ (t i : Nat), i + t = k → W_abacistref24_power.l3 (RetE (.int .i64 ((2 ^ k : Nat) : Int)) H) (t + 1) (k : Int) ((2 ^ i : Nat) : Int) (i : Int) H
  | 0, i, h => by
    unfold W_abacistref24_power.l3
    obtain rfl : i = k := by omega
    exact BIf_dneg (by omega) (RetE.mk _ _)
  | t + 1, i, h => by
    unfold W_abacistref24_power.l3
    refine BIf_dpos (by omega) ?_
    have h2 : 2 ^ i ≤ 2 ^ 40 := Nat.pow_le_pow_right (by omega) (by omega)
    have h0 := Int.natCast_nonneg (2 ^ i)
    have e : IntKind.i64.wrap ((2 : Int) * ((2 ^ i : Nat) : Int)) = ((2 ^ (i + 1) : Nat) : Int) := by
      rw [i64w (by omega) (by omega), Nat.pow_succ]; omega
    rw [e, i64w (x := (i : Int) + 1) (by omega) (by omega)]
    exact power_loop H k hk t (i + 1) (by omega)
theorem power_ok (k : Nat) (hk : k ≤ 40) (H : Hp) : HCalls Tryz.prog 40 #[.int .i64 (k : Int)] H (RetE (.int .i64 ((2 ^ k : Nat) : Int)) H) := by
  apply W_abacistref24_power.ok
  unfold W_abacistref24_power
  exact ⟨k + 1, power_loop H k hk k 0 (by omega)⟩
theorem rLeast_ok (k per : Nat) (hk : k ≤ 32) (hp : per ≤ 512) (H : Hp) : HCalls Tryz.prog 7 #[.int .i64 (k : Int), .int .i64 (per : Int)] H (RetE (.int .i64 (leastN k per : Int)) H) := by
  have h1 := two_small (k := (k + 1) / 2) (by omega)
  have h0 := Int.natCast_nonneg (2 ^ ((k + 1) / 2))
  apply W_abacistref24_Least.ok
  unfold W_abacistref24_Least
  rw [i64w (x := (k : Int) + 1) (by omega) (by omega), show Int.tdiv ((k : Int) + 1) 2 = (((k + 1) / 2 : Nat) : Int) from rfl, i64n (by omega)]
  refine ⟨by decide, by simp, ?_⟩
  refine HCalls.use (power_ok ((k + 1) / 2) (by omega) H) ?_
  simp only [HV]
  rw [i64w (x := (2 : Int) * _) (by omega) (by omega), i64w (by omega) (by omega)]
  exact RetE.of (by unfold leastN; rw [Int.natCast_add]; rfl)
theorem two6 {k : Nat} (h : k ≤ 6) : 2 ^ k ≤ 64 := Nat.pow_le_pow_right (n := 2) (by omega) h
theorem planL_ok {d : Bool} {k per words : Nat} (hk : k ≤ 32) (hw : leastN k per ≤ words) : ∀ p ∈ planL d k per words, PzOk p k per words := by
  intro p hp
  unfold planL at hp
  unfold leastN at hw
  split at hp
  · rename_i hb
    have hb := of_decide_eq_true hb
    rw [List.mem_singleton.1 hp]
    exact ⟨by show 0 < 4; omega, by show 3 < 4; omega, by show (0 : Nat) ≠ 3; omega, by show 0 + k = k; omega, fun h => (by cases h), fun _ => ⟨hb.1, by show (-1 : Int) ≤ -1; omega, by show (-1 : Int) ≤ 32; omega, by show per + 2 * 2 ^ k ≤ _; omega⟩⟩
  · have ha : k - k / 2 = (k + 1) / 2 := by omega
    have h1 : 2 ^ (k / 2) ≤ 2 ^ ((k + 1) / 2) := Nat.pow_le_pow_right (by omega) (by omega)
    have hz : ∀ (ea eb f o : Nat) (t d : Bool) (tw : Int) (sh : UInt64), f < 4 → o < 4 → f ≠ o → ea + eb = k → ea ≤ (k + 1) / 2 → eb ≤ (k + 1) / 2 → -1 ≤ tw → tw ≤ 32 → PzOk ⟨t, ⟨ea, eb, d, tw, sh⟩, f, o⟩ k per words := fun ea eb f o t d tw sh h1 h2 h3 h4 h5 h6 h7 h8 => by
      have q1 : 2 ^ ea ≤ 2 ^ ((k + 1) / 2) := Nat.pow_le_pow_right (by omega) h5
      have q2 : 2 ^ eb ≤ 2 ^ ((k + 1) / 2) := Nat.pow_le_pow_right (by omega) h6
      exact ⟨h1, h2, h3, h4, fun _ => by show 2 ^ ea + per ≤ words; omega, fun _ => ⟨by show eb ≤ 20; omega, h7, h8, by show per + 2 * 2 ^ eb ≤ words; omega⟩⟩
    unfold longP at hp
    simp only [List.mem_cons, List.not_mem_nil, or_false] at hp
    rcases hp with e | e | e | e | e <;> rw [e] <;> exact hz _ _ _ _ _ _ _ _ (by omega) (by omega) (by omega) (by omega) (by omega) (by omega) (by omega) (by omega)
theorem div_mul_le (a b : Nat) : a / b * b ≤ a := Nat.div_mul_le_self a b
theorem CostP_le {per cap f o k : Nat} {pz : Pz} {r w : Nat} (h : CostP per cap f o pz r w) (hk : pz.j.ea + pz.j.eb = k) : r ≤ 2 * 2 ^ k ∧ w ≤ 2 ^ k := by
  have hpow : 2 ^ pz.j.ea * 2 ^ pz.j.eb = 2 ^ k := by rw [← Nat.pow_add, hk]
  rcases h with ⟨_, j, hj, rfl, rfl⟩ | ⟨_, j, hj, rfl, rfl⟩
  · have h1 := rT_le per f o (2 ^ pz.j.ea) (2 ^ pz.j.eb) (2 ^ j) (2 ^ pz.j.eb / 2 ^ j)
    have h2 := wT_le per o (2 ^ pz.j.ea) (2 ^ j) (2 ^ pz.j.eb / 2 ^ j)
    have h3 : 2 ^ pz.j.eb / 2 ^ j * (2 ^ j * 2 ^ pz.j.ea) ≤ 2 ^ k := by
      rw [← Nat.mul_assoc, ← hpow, Nat.mul_comm (2 ^ pz.j.ea)]
      exact Nat.mul_le_mul_right _ (div_mul_le _ _)
    have h4 : 2 ^ pz.j.eb / 2 ^ j * (2 * (2 ^ j * 2 ^ pz.j.ea)) = 2 * (2 ^ pz.j.eb / 2 ^ j * (2 ^ j * 2 ^ pz.j.ea)) := by rw [Nat.mul_left_comm]
    exact ⟨by omega, by omega⟩
  · have h1 := rP_le per f o (2 ^ j * 2 ^ pz.j.eb) (2 ^ pz.j.ea / 2 ^ j)
    have h2 := wP_le per o (2 ^ j * 2 ^ pz.j.eb) (2 ^ pz.j.ea / 2 ^ j)
    have h3 : 2 ^ pz.j.ea / 2 ^ j * (2 ^ j * 2 ^ pz.j.eb) ≤ 2 ^ k := by
      rw [← Nat.mul_assoc, ← hpow]
      exact Nat.mul_le_mul_right _ (div_mul_le _ _)
    have h4 : 2 ^ pz.j.ea / 2 ^ j * (2 * (2 ^ j * 2 ^ pz.j.eb)) = 2 * (2 ^ pz.j.ea / 2 ^ j * (2 ^ j * 2 ^ pz.j.eb)) := by rw [Nat.mul_left_comm]
    exact ⟨by omega, by omega⟩
theorem wrs_all (x : X) {d : D} (hok : Ok d) (src : List UInt64) : pws (wrsG d x src.length 0 src) x 0 src.length = src := by
  apply List.ext_getElem?
  intro i
  unfold pws
  rw [List.getElem?_map]
  by_cases h : i < src.length
  · rw [List.getElem?_range h]
    show some (pw _ x (0 + i)) = _
    rw [Nat.zero_add, wrsG_pw x hok 0 src i, if_pos ⟨by omega, by omega⟩, Nat.sub_zero, List.getElem?_eq_getElem h]; rfl
  · rw [List.getElem?_eq_none (by rw [List.length_range]; omega), List.getElem?_eq_none (by omega)]; rfl
theorem own_of_row {L : List As} {H : Hp} (hs : Sep L H) (i : Nat) {b n m : Nat} {xs : List Value} {e : TypeId} {s : Nat} (hi : L[i]? = some (pts b (.row xs e m))) (hx : xs.length = n * s) (hm : m = n * s) : Sep (L.set i (Own e s (some ⟨b, 0, none⟩) n n xs)) H :=
  hs.turn i hi fun H1 hH => ⟨hx, .inr ⟨b, m, rfl, hH, by first | omega | exact hm | exact hm.symm | exact ⟨hm, Nat.le_refl _⟩⟩⟩
end Go.Proofs.YtnknippcbecmeaaGreatDoor.Eng
end
section
/- abacistref24.Passes: the plan, by the table. -/
namespace Go.Proofs.YtnknippcbecmeaaGreatDoor.Eng
open Go Go.Hw Go.Form W Shp Dsk Str Are Trn Ker Fft Pas Pln
theorem rPasses_tr {k per words : Nat} (hk : k ≤ 32) (hp : per ≤ 512) (hw : words ≤ 16777216) (d : Bool) :
    Tr Tryz.prog 9 #[.int .i64 (k : Int), .int .i64 (if d = true then 1 else 0), .int .i64 (per : Int), .int .i64 (words : Int)] [] fun v M => ∃ b, v = .slice (some ⟨b, 0, none⟩) (planL d k per words).length (planL d k per words).length ∧ M = [pts b (.row (passV (planL d k per words)) 64 ((planL d k per words).length * 8))] := fun H hs => by
  have h2 := two_small hk
  have h0 := Int.natCast_nonneg (2 ^ k)
  apply W_abacistref24_Passes.ok
  unfold W_abacistref24_Passes
  have j6 : shortB k per words = false → W_abacistref24_Passes.j6 (fun v H' => ∃ M, (∃ b, v = .slice (some ⟨b, 0, none⟩) (planL d k per words).length (planL d k per words).length ∧ M = [pts b (.row (passV (planL d k per words)) 64 ((planL d k per words).length * 8))]) ∧ Sep M H') (k : Int) (if d = true then 1 else 0) ((shrU d k).toNat : Int) H := fun hb => by
    have hpl : planL d k per words = longP d k := by unfold planL; rw [if_neg (by rw [hb]; decide)]
    unfold W_abacistref24_Passes.j6
    rw [show Int.tdiv (k : Int) 2 = ((k / 2 : Nat) : Int) from rfl, i64n (n := k / 2) (by omega), show (k : Int) - ((k / 2 : Nat) : Int) = ((k - k / 2 : Nat) : Int) by omega, i64n (n := k - k / 2) (by omega)]
    refine ⟨by decide, by simp, ?_⟩
    refine HCalls.use (power_ok (k / 2) (by omega) H) ?_
    simp only [HV]
    refine ⟨by decide, by simp, ?_⟩
    refine HCalls.use (power_ok (k - k / 2) (by omega) H) ?_
    simp only [HV]
    refine hs.nw fun b2 H hs => ?_
    refine hs.stw 0 rfl rfl rfl rfl fun H hs => ?_
    try simp only [NN_some, Addr.add_lit', Addr.add_zero, Nat.zero_add, Nat.add_zero]
    refine hs.ld 0 (v := .int .i64 ((2 ^ (k - k / 2) : Nat) : Int)) rfl rfl ?_
    simp only [HV]
    refine hs.ld 0 (v := .int .i64 ((2 ^ (k / 2) : Nat) : Int)) rfl rfl ?_
    simp only [HV]
    refine hs.nw fun b3 H hs => ?_
    refine hs.stw 1 rfl rfl rfl rfl fun H hs => ?_
    refine hs.ldw 0 rfl rfl ?_
    simp only [HV]
    refine hs.ldw 1 rfl rfl ?_
    simp only [HV]
    refine hs.ldw 1 rfl rfl ?_
    simp only [HV]
    refine hs.ldw 0 rfl rfl ?_
    simp only [HV]
    refine hs.ldw 0 rfl rfl ?_
    simp only [HV]
    refine hs.nw fun b4 H hs => ?_
    rw [hpl]
    exact ⟨_, ⟨b4, rfl, rfl⟩, hs.re [2] rfl⟩
  have j4 : W_abacistref24_Passes.j4 (fun v H' => ∃ M, (∃ b, v = .slice (some ⟨b, 0, none⟩) (planL d k per words).length (planL d k per words).length ∧ M = [pts b (.row (passV (planL d k per words)) 64 ((planL d k per words).length * 8))]) ∧ Sep M H') (k : Int) (if d = true then 1 else 0) (per : Int) (words : Int) ((shrU d k).toNat : Int) H := by
    unfold W_abacistref24_Passes.j4
    by_cases h20 : (k : Int) ≤ 20
    · refine BIf_dpos h20 ?_
      refine HCalls.use (power_ok k (by omega) H) ?_
      simp only [HV]
      rw [i64w (x := (2 : Int) * ((2 ^ k : Nat) : Int)) (by omega) (by omega), i64w (x := (2 : Int) * ((2 ^ k : Nat) : Int) + (per : Int)) (by omega) (by omega)]
      by_cases hle : (2 : Int) * ((2 ^ k : Nat) : Int) + (per : Int) ≤ (words : Int)
      · refine BIf_dpos hle ?_
        refine HCalls.use (power_ok k (by omega) H) ?_
        simp only [HV]
        refine hs.nw fun b4 H hs => ?_
        have hpl : planL d k per words = [shortP d k] := if_pos (show shortB k per words = true from decide_eq_true ⟨by omega, by omega⟩)
        rw [hpl]
        exact ⟨_, ⟨b4, rfl, rfl⟩, hs.re [0] rfl⟩
      · refine BIf_dneg hle (j6 (decide_eq_false (by omega)))
    · exact BIf_dneg h20 (j6 (decide_eq_false (by omega)))
  cases d with
  | false => exact BIf_beqn (by decide) j4
  | true =>
    refine BIf_beqp rfl ?_
    refine HCalls.use (rShare_ok k hk H) ?_
    simp only [HV]
    have e : ((Fft.pw half k).val : Int) = ((shrU true k).toNat : Int) := by show _ = ((uw (Fft.pw half k)).toNat : Int); rw [uw_nat]
    rw [e]
    exact j4
end Go.Proofs.YtnknippcbecmeaaGreatDoor.Eng
end
section
/- exec: total; a pass's cost. -/
namespace Go.Proofs.YtnknippcbecmeaaGreatDoor.Eng
open Go Go.Hw Go.Form W Shp Dsk Str Are Trn Pas Pln
theorem CostP.unique {per cap f o : Nat} {pz : Pz} {r w r' w' : Nat} (h : CostP per cap f o pz r w) (h' : CostP per cap f o pz r' w') : r = r' ∧ w = w' := by
  rcases h with ⟨t, j, hj, rfl, rfl⟩ | ⟨t, j, hj, rfl, rfl⟩ <;> rcases h' with ⟨t', j', hj', rfl, rfl⟩ | ⟨t', j', hj', rfl, rfl⟩
  · obtain rfl := hj.unique (by have := Int.natCast_pos.2 (Nat.two_pow_pos pz.j.ea); omega) hj'; exact ⟨rfl, rfl⟩
  · rw [t] at t'; cases t'
  · rw [t] at t'; cases t'
  · obtain rfl := hj.unique hj'; exact ⟨rfl, rfl⟩
abbrev O3 := Nat × Nat × Nat
def opRow (o : O3) : List Value := [.int .i64 (o.1 : Int), .int .i64 (o.2.1 : Int), .int .i64 (o.2.2 : Int)]
def addO (a o : O3) : O3 := (a.1 + o.1, a.2.1 + o.2.1, a.2.2 + o.2.2)
def sumO (l : List O3) : O3 := l.foldl addO (0, 0, 0)
def smO (B : Nat) (o : O3) : Prop := o.1 ≤ B ∧ o.2.1 ≤ B ∧ o.2.2 ≤ B
theorem total_loop (H0 : Hp) {b1 : Nat} (A : Option Addr) (n m : Nat) (l : List O3) (hn : l.length = n) (hl : n ≤ 1000) (hB : ∀ o ∈ l, smO 1000000000 o) (hc : CellsS 3 H0 A (l.map opRow)) :
    ∀ (t j : Nat) (a : O3) (H : Hp), j + t = n → smO (1000000000 * j) a → (l.drop j).foldl addO a = sumO l → Sep [own H0, pts b1 (.obj (.cells (opRow a).toArray 43))] H →
      W_exec_total.l2 (Ret (.agg (opRow (sumO l)).toArray) H0) (t + 1) ⟨b1, 0, none⟩ A n m (n : Int) (j : Int) H
  | 0, j, a, H, hj, ha, hs1, hs => by
    unfold W_exec_total.l2
    refine BIf_dneg (by omega) ?_
    rw [List.drop_eq_nil_of_le (by omega)] at hs1
    have e : a = sumO l := hs1
    rw [e] at hs
    refine hs.ldw 1 rfl rfl ?_
    refine hs.stw 1 (y := (opRow (sumO l)).toArray) rfl rfl rfl rfl fun H hs => ?_
    refine hs.ldw 1 rfl rfl ?_
    exact hs.fin 0 rfl _
  | t + 1, j, a, H, hj, ha, hs1, hs => by
    have hjl : j < l.length := by omega
    have hrow : (l.map opRow)[j]? = some (opRow (l[j]'hjl)) := by rw [List.getElem?_map, List.getElem?_eq_getElem hjl]; rfl
    have hBj := hB _ (List.getElem_mem hjl)
    rw [List.drop_eq_getElem_cons hjl, List.foldl_cons] at hs1
    unfold W_exec_total.l2
    refine BIf_dpos (by omega) ?_
    refine CellsS.rdA (hc.le (hs.ow 0 rfl)) hrow rfl rfl (by rw [List.length_map]; omega) ?_
    generalize l[j]'hjl = o at hBj hs1
    obtain ⟨o1, o2, o3⟩ := o
    obtain ⟨a1, a2, a3⟩ := a
    obtain ⟨q1, q2, q3⟩ := hBj
    obtain ⟨p1, p2, p3⟩ := ha
    simp only at q1 q2 q3 p1 p2 p3
    refine hs.nw fun b2 H hs => ?_
    refine hs.stw 2 (y := (opRow (o1, o2, o3)).toArray) rfl rfl rfl rfl fun H hs => ?_
    try simp only [NN_some, Addr.add_lit', Addr.add_zero, Nat.zero_add, Nat.add_zero]
    refine hs.ld 1 (v := .int .i64 (a1 : Int)) rfl rfl ?_
    simp only [HV]
    refine hs.ld 2 (v := .int .i64 (o1 : Int)) rfl rfl ?_
    simp only [HV]
    refine hs.ld 1 (v := .int .i64 (a2 : Int)) rfl rfl ?_
    simp only [HV]
    refine hs.ld 2 (v := .int .i64 (o2 : Int)) rfl rfl ?_
    simp only [HV]
    refine hs.ld 1 (v := .int .i64 (a3 : Int)) rfl rfl ?_
    simp only [HV]
    refine hs.ld 2 (v := .int .i64 (o3 : Int)) rfl rfl ?_
    simp only [HV]
    rw [i64w (x := (a1 : Int) + o1) (by omega) (by omega), i64w (x := (a2 : Int) + o2) (by omega) (by omega), i64w (x := (a3 : Int) + o3) (by omega) (by omega), i64w (x := (j : Int) + 1) (by omega) (by omega)]
    refine hs.stw 1 rfl rfl rfl rfl fun H hs => ?_
    refine total_loop H0 A n m l hn hl hB hc t (j + 1) (addO (a1, a2, a3) (o1, o2, o3)) H (by omega) ⟨by show a1 + o1 ≤ _; omega, by show a2 + o2 ≤ _; omega, by show a3 + o3 ≤ _; omega⟩ hs1 ?_
    have hs := hs.re [0, 1] rfl
    exact hs
theorem total_ok (A : Option Addr) (n m : Nat) (l : List O3) (hn : l.length = n) (hl : n ≤ 1000) (hB : ∀ o ∈ l, smO 1000000000 o) (H : Hp) (hc : CellsS 3 H A (l.map opRow)) :
    HCalls Tryz.prog 54 #[.slice A n m] H (RetE (.agg (opRow (sumO l)).toArray) H) := by
  apply HCalls.ret
  apply W_exec_total.ok
  unfold W_exec_total
  refine (Sep.start H).nw fun b1 H1 hs => ⟨n + 1, ?_⟩
  exact total_loop H A n m l hn hl hB hc n 0 (0, 0, 0) H1 (by omega) ⟨by show 0 ≤ _; omega, by show 0 ≤ _; omega, by show 0 ≤ _; omega⟩ rfl hs
theorem eCost_ok {most k words : Nat} {pz : Pz} (hm : most ≤ 32) (hk : k ≤ most) (hk6 : k ≤ 6) (hz : PzOk pz k 4 words) (hw : words ≤ 1000) (H : Hp) (hT : T64 H) :
    ∃ r w, CostP 4 words (exX most 4 pz.f k).f (exX most 4 pz.o k).f pz r w ∧ HCalls Tryz.prog 12 #[.agg (Lay.layV most 4), .int .i64 (k : Int), .agg pz.c, .int .i64 (words : Int)] H (RetE (.tuple #[.agg (opRow (r + Lay.roomN k 4, w, 1)).toArray, .int .i64 0]) H) := by
  have hp4 : perB ((4 : Nat) : Int) = true := by decide
  have hkk := hz.k
  have hroom : Lay.roomN k 4 ≤ 64 := by
    have h1 := two6 hk6
    have h2 : (2 ^ k - 1) / 4 ≤ 2 ^ k - 1 := Nat.div_le_self _ _
    unfold Lay.roomN; omega
  have e1 := fun H => Extent_ok (most := most) (per := 4) hm hp4 (i := pz.f) (k := k) hz.f hk H
  have e2 := fun H => Extent_ok (most := most) (per := 4) hm hp4 (i := pz.o) (k := k) hz.o hk H
  obtain ⟨r, w, hc, hb, hcall⟩ : ∃ r w, CostP 4 words (exX most 4 pz.f k).f (exX most 4 pz.o k).f pz r w ∧ (r ≤ 1000000 ∧ w ≤ 1000000) ∧ ∀ H, T64 H → HCalls Tryz.prog (if pz.t = true then 52 else 53) #[.agg #[.int .i64 ((2 ^ pz.j.ea : Nat) : Int), .int .i64 ((2 ^ pz.j.eb : Nat) : Int)], .int .i64 4, .int .i64 (words : Int)] H (RetE (.tuple #[.agg (opRow (r, w, 0)).toArray, .int .i64 0]) H) := by
    cases ht : pz.t with
    | true =>
      have htn := hz.tn ht
      obtain ⟨j, hje, hj⟩ := BandIs.ex (ea := pz.j.ea) (eb := pz.j.eb) (per := 4) (free := (words : Int)) (by omega) (by omega)
      have hP : CostP 4 words (exX most 4 pz.f k).f (exX most 4 pz.o k).f pz _ _ := .inl ⟨ht, j, hj, rfl, rfl⟩
      have hle := CostP_le hP hkk
      have h6 := two6 hk6
      refine ⟨_, _, hP, by omega, fun H hT => ?_⟩
      rw [if_pos rfl, Trn.rT_is _ _ _ _ _ hje, Trn.wT_is]
      exact Trn.Cost_is (by omega) hj (by omega) (by omega) H hT
    | false =>
      obtain ⟨h20, h3, h4, h5⟩ := hz.rw ht
      obtain ⟨j, hj⟩ := BatIs.ex (ea := pz.j.ea) (q := (words - 4) / 2 ^ pz.j.eb) ((Nat.le_div_iff_mul_le (Nat.two_pow_pos _)).2 (by omega))
      have hP : CostP 4 words (exX most 4 pz.f k).f (exX most 4 pz.o k).f pz _ _ := .inr ⟨ht, j, hj, rfl, rfl⟩
      have hle := CostP_le hP hkk
      have h6 := two6 hk6
      refine ⟨_, _, hP, by omega, fun H hT => ?_⟩
      rw [if_neg (by decide)]
      have hcost := Pas.Cost_is (ea := pz.j.ea) (eb := pz.j.eb) (jb := j) (per := 4) (free := (words : Int)) (by omega) (by omega) (by omega) ⟨by rw [goodS_pow (by omega)], by have := Nat.pow_le_pow_right (n := 2) (by omega) h20; omega, by decide, by omega, by omega⟩ (by rw [show ((words : Int) - ((4 : Nat) : Int)).toNat = words - 4 by omega]; exact hj) H hT
      have er : rP 4 (exX most 4 pz.f k).f (exX most 4 pz.o k).f (2 ^ j * 2 ^ pz.j.eb) (2 ^ pz.j.ea / 2 ^ j) = cR 4 (2 ^ j * 2 ^ pz.j.eb) (2 ^ pz.j.ea / 2 ^ j) := by
        rw [← Nat.pow_add]; exact rP_is 2 _ _ _ _
      have ew : wP 4 (exX most 4 pz.o k).f (2 ^ j * 2 ^ pz.j.eb) (2 ^ pz.j.ea / 2 ^ j) = cW 4 (2 ^ j * 2 ^ pz.j.eb) (2 ^ pz.j.ea / 2 ^ j) := by
        rw [← Nat.pow_add]; exact wP_is 2 _ _ _
      rw [er, ew]
      exact hcost
  refine ⟨r, w, hc, HCalls.ret ?_⟩
  apply W_exec_Cost.ok
  unfold W_exec_Cost
  refine (Sep.start H).nw fun b1 H1 hs => ?_
  refine hs.nw fun b2 H1 hs => ?_
  refine hs.nw fun b3 H1 hs => ?_
  have hs : Sep [own H, pts b1 (.obj (.cells (Lay.layV most 4) 33)), pts b2 (.obj (.cells pz.c 64)), pts b3 (.obj (.cells (opRow (0, 0, 0)).toArray 43))] H1 := hs
  refine hs.ldw 1 rfl rfl ?_
  try simp only [Array.toArray_toList]
  try simp only [NN_some, Addr.add_lit', Addr.add_zero, Nat.zero_add, Nat.add_zero]
  refine hs.ld 2 (v := .int .i64 (pz.f : Int)) rfl rfl ?_
  simp only [HV]
  refine HCalls.use (e1 H1) ?_
  simp only [HV]
  refine hs.nw fun b4 H1 hs => ?_
  refine hs.stw 4 rfl rfl rfl rfl fun H1 hs => ?_
  refine BIf_beqp rfl ?_
  refine hs.ldw 1 rfl rfl ?_
  try simp only [Array.toArray_toList]
  try simp only [NN_some, Addr.add_lit', Addr.add_zero, Nat.zero_add, Nat.add_zero]
  refine hs.ld 2 (v := .int .i64 (pz.o : Int)) rfl rfl ?_
  simp only [HV]
  refine HCalls.use (e2 H1) ?_
  simp only [HV]
  unfold W_exec_Cost.j4
  refine BIf_bnen rfl ?_
  refine hs.nw fun b5 H1 hs => ?_
  try simp only [NN_some, Addr.add_lit', Addr.add_zero, Nat.zero_add, Nat.add_zero]
  refine hs.ld 2 (v := .int .i64 (if pz.t = true then 1 else 2)) rfl rfl ?_
  simp only [HV]
  have hs : Sep [own H, pts b1 (.obj (.cells (Lay.layV most 4) 33)), pts b2 (.obj (.cells pz.c 64)), pts b3 (.obj (.cells (opRow (0, 0, 0)).toArray 43)), pts b4 (.obj (.cells #[.int .i64 (((exX most 4 pz.f k).f : Nat) : Int), .int .i64 (((exX most 4 pz.f k).s : Nat) : Int), .int .i64 (((exX most 4 pz.f k).w : Nat) : Int)] 30)), pts b5 (.obj (.cells (opRow (0, 0, 0)).toArray 43))] H1 := hs
  have j13 : ∀ H1, Sep [own H, pts b1 (.obj (.cells (Lay.layV most 4) 33)), pts b2 (.obj (.cells pz.c 64)), pts b3 (.obj (.cells (opRow (0, 0, 0)).toArray 43)), pts b4 (.obj (.cells #[.int .i64 (((exX most 4 pz.f k).f : Nat) : Int), .int .i64 (((exX most 4 pz.f k).s : Nat) : Int), .int .i64 (((exX most 4 pz.f k).w : Nat) : Int)] 30)), pts b5 (.obj (.cells (opRow (r, w, 0)).toArray 43))] H1 →
      W_exec_Cost.j13 (Ret (.tuple #[.agg (opRow (r + Lay.roomN k 4, w, 1)).toArray, .int .i64 0]) H) ⟨b3, 0, none⟩ ⟨b4, 0, none⟩ 0 ⟨b5, 0, none⟩ H1 := fun H1 hs => by
    unfold W_exec_Cost.j13
    refine BIf_bnen rfl ?_
    refine hs.ldw 5 rfl rfl ?_
    try simp only [NN_some, Addr.add_lit', Addr.add_zero, Nat.zero_add, Nat.add_zero]
    refine hs.ld 4 (v := .int .i64 ((Lay.roomN k 4 : Nat) : Int)) rfl rfl ?_
    simp only [HV]
    unfold opRow
    simp only [HV]
    refine hs.nw fun b6 H1 hs => ?_
    have hcell : CellsS 3 H1 (some ⟨b6, 0, none⟩) ([(r, w, 0), (Lay.roomN k 4, 0, 1)].map opRow) := fun i x hi => by
      have hrow : Cells H1 (some ⟨b6, 0, none⟩) [.int .i64 (r : Int), .int .i64 (w : Int), .int .i64 0, .int .i64 ((Lay.roomN k 4 : Nat) : Int), .int .i64 0, .int .i64 1] := by
        have := Cells.row (hs.get 6 (b := b6) rfl) 0 6
        rwa [List.drop_zero, List.take_of_length_le (show 6 ≤ 6 by omega)] at this
      have get : ∀ q v, ([.int .i64 (r : Int), .int .i64 (w : Int), .int .i64 0, .int .i64 ((Lay.roomN k 4 : Nat) : Int), .int .i64 0, .int .i64 1] : List Value)[q]? = some v → H1.cell? ((⟨b6, 0, none⟩ : Addr).add q) = some v := fun q v h => by
        obtain ⟨a, ha, hc⟩ := hrow q v h
        cases ha; exact hc
      rcases i with _ | _ | i
      · cases hi
        refine ⟨_, rfl, fun j v hj => ?_⟩
        rcases j with _ | _ | _ | j
        · cases hj; exact get 0 _ rfl
        · cases hj; exact get 1 _ rfl
        · cases hj; exact get 2 _ rfl
        · cases hj
      · cases hi
        refine ⟨_, rfl, fun j v hj => ?_⟩
        rcases j with _ | _ | _ | j
        · cases hj; exact get 3 _ rfl
        · cases hj; exact get 4 _ rfl
        · cases hj; exact get 5 _ rfl
        · cases hj
      · cases hi
    refine HCalls.use (total_ok (some ⟨b6, 0, none⟩) 2 2 [(r, w, 0), (Lay.roomN k 4, 0, 1)] rfl (by omega) (fun o ho => ?_) H1 hcell) ?_
    · simp only [List.mem_cons, List.not_mem_nil, or_false] at ho
      rcases ho with rfl | rfl
      · exact ⟨by show r ≤ _; omega, by show w ≤ _; omega, by show 0 ≤ _; omega⟩
      · exact ⟨by show Lay.roomN k 4 ≤ _; omega, by show 0 ≤ _; omega, by show 1 ≤ _; omega⟩
    simp only [HV]
    refine hs.stw 3 rfl rfl rfl rfl fun H1 hs => ?_
    refine hs.ldw 3 rfl rfl ?_
    have e : sumO [(r, w, 0), (Lay.roomN k 4, 0, 1)] = (r + Lay.roomN k 4, w, 1) := by
      show (0 + r + Lay.roomN k 4, 0 + w + 0, 0 + 0 + 1) = _
      simp
    rw [e]
    exact hs.fin 0 rfl _
  cases ht : pz.t with
  | true =>
    rw [ht] at hcall
    refine BIf_beqp rfl ?_
    try simp only [NN_some, Addr.add_lit', Addr.add_zero, Nat.zero_add, Nat.add_zero]
    refine hs.lda 2 (off := 0) (n := 2) rfl (by show 0 + 2 ≤ 8; omega) ?_
    try simp only [NN_some, Addr.add_lit', Addr.add_zero, Nat.zero_add, Nat.add_zero]
    refine hs.ld 1 (v := .int .i64 ((4 : Nat) : Int)) rfl rfl ?_
    simp only [HV]
    refine HCalls.use (hcall H1 (hT.le (hs.ow 0 rfl))) ?_
    simp only [HV]
    refine hs.stw 5 rfl rfl rfl rfl fun H1 hs => ?_
    exact j13 H1 hs
  | false =>
    rw [ht] at hcall
    refine BIf_beqn (by decide) (BIf_beqp rfl ?_)
    try simp only [NN_some, Addr.add_lit', Addr.add_zero, Nat.zero_add, Nat.add_zero]
    refine hs.lda 2 (off := 0) (n := 2) rfl (by show 0 + 2 ≤ 8; omega) ?_
    try simp only [NN_some, Addr.add_lit', Addr.add_zero, Nat.zero_add, Nat.add_zero]
    refine hs.ld 1 (v := .int .i64 ((4 : Nat) : Int)) rfl rfl ?_
    simp only [HV]
    refine HCalls.use (hcall H1 (hT.le (hs.ow 0 rfl))) ?_
    simp only [HV]
    refine hs.stw 5 rfl rfl rfl rfl fun H1 hs => ?_
    exact j13 H1 hs
theorem flat_get {s : Nat} : ∀ (rows : List (List Value)) (i j : Nat) (r : List Value) (v : Value), (∀ r ∈ rows, r.length = s) → rows[i]? = some r → r[j]? = some v → rows.flatten[i * s + j]? = some v
  | [], i, j, r, v, _, hi, _ => by simp at hi
  | x :: rows, 0, j, r, v, hl, hi, hj => by
    have e : x = r := by simpa using hi
    have hlt := (List.getElem?_eq_some_iff.1 hj).1
    rw [List.flatten_cons, Nat.zero_mul, Nat.zero_add, e, List.getElem?_append_left hlt]; exact hj
  | x :: rows, i + 1, j, r, v, hl, hi, hj => by
    have hx := hl x (by simp)
    rw [List.flatten_cons, List.getElem?_append_right (by rw [hx, Nat.succ_mul]; omega), hx, show (i + 1) * s + j - s = i * s + j by rw [Nat.succ_mul]; omega]
    exact flat_get rows i j r v (fun r hr => hl r (List.mem_cons_of_mem _ hr)) (by simpa using hi) hj
theorem cellsS_of {s : Nat} (hs : 0 < s) {H : Hp} {A : Option Addr} {rows : List (List Value)} (hl : ∀ r ∈ rows, r.length = s) (hc : Cells H A rows.flatten) : CellsS s H A rows := fun i r hi => by
  have hr := hl r (List.mem_of_getElem? hi)
  have h0 : r[0]? = some (r[0]'(by omega)) := List.getElem?_eq_getElem (by omega)
  obtain ⟨a, ha, _⟩ := hc _ _ (flat_get rows i 0 r _ hl hi h0)
  refine ⟨a, ha, fun j v hj => ?_⟩
  obtain ⟨a', ha', h⟩ := hc _ _ (flat_get rows i j r v hl hi hj)
  rw [ha] at ha'
  cases ha'
  exact h
end Go.Proofs.YtnknippcbecmeaaGreatDoor.Eng
end
section
/- exec: All. -/
namespace Go.Proofs.YtnknippcbecmeaaGreatDoor.Eng
open Go Go.Hw Go.Form W Shp Dsk Str Are Trn Pas Pln
def CostL (most k words : Nat) (ps : List Pz) (cs : List O3) : Prop := cs.length = ps.length ∧ ∀ (i : Nat) (pz : Pz) (o : O3), ps[i]? = some pz → cs[i]? = some o → ∃ r w, CostP 4 words (exX most 4 pz.f k).f (exX most 4 pz.o k).f pz r w ∧ o = (r + Lay.roomN k 4, w, 1) ∧ smO 1000000000 o
theorem CostL.snoc {most k words : Nat} {ps : List Pz} {cs : List O3} {pz : Pz} {o : O3} {r w : Nat} (h : CostL most k words ps cs) (hc : CostP 4 words (exX most 4 pz.f k).f (exX most 4 pz.o k).f pz r w) (ho : o = (r + Lay.roomN k 4, w, 1)) (hs : smO 1000000000 o) : CostL most k words (ps ++ [pz]) (cs ++ [o]) := by
  refine ⟨by simp [h.1], fun i q x hi hx => ?_⟩
  by_cases hlt : i < ps.length
  · rw [List.getElem?_append_left hlt] at hi
    rw [List.getElem?_append_left (by rw [h.1]; exact hlt)] at hx
    exact h.2 i q x hi hx
  · have hl := (List.getElem?_eq_some_iff.1 hi).1
    rw [List.length_append, List.length_singleton] at hl
    rw [List.getElem?_append_right (by omega), show i - ps.length = 0 by omega] at hi
    rw [List.getElem?_append_right (by rw [h.1]; omega), show i - cs.length = 0 by rw [h.1]; omega] at hx
    cases hi; cases hx
    exact ⟨r, w, hc, ho, hs⟩
theorem CostL.small {most k words : Nat} {ps : List Pz} {cs : List O3} (h : CostL most k words ps cs) : ∀ o ∈ cs, smO 1000000000 o := fun o ho => by
  obtain ⟨i, hi, rfl⟩ := List.getElem_of_mem ho
  have hp : i < ps.length := by rw [← h.1]; exact hi
  obtain ⟨_, _, _, _, hs⟩ := h.2 i _ _ (List.getElem?_eq_getElem hp) (List.getElem?_eq_getElem hi)
  exact hs
theorem ownS_cells {e : TypeId} {s : Nat} {A : Option Addr} {n m : Nat} {xs : List Value} {H : Hp} (h : Own e s A n m xs H) : Cells H A xs := by
  obtain ⟨h1, ⟨rfl, rfl, rfl⟩ | ⟨b, mm, rfl, h4, _⟩⟩ := h
  · rw [Nat.zero_mul] at h1
    rw [List.length_eq_zero_iff.1 h1]
    exact Cells.nil _ _
  · have := Cells.row h4 0 xs.length
    rwa [List.drop_zero, List.take_length] at this
theorem cell_ops : cellInfo Tryz.prog 43 = some (3, 24, some #[.int .i64 0, .int .i64 0, .int .i64 0]) := by kernel_rfl
section
variable {most k words : Nat} (hm : most ≤ 32) (hk : k ≤ most) (hk6 : k ≤ 6) (hw : words ≤ 1000) {H0 : Hp} (hT : T64 H0)
include hm hk hk6 hw hT
theorem eAll_loop {ps : List Pz} (hps : ∀ p ∈ ps, PzOk p k 4 words) (hp5 : ps.length ≤ 5) {A3 : Option Addr} {m3 b1 b2 : Nat} : ∀ (t j : Nat) (A2 : Option Addr) (m2 : Nat) (cs : List O3) (H : Hp), j + t = ps.length → CostL most k words (ps.take j) cs →
    Sep [own H0, pts b1 (.obj (.cells (Lay.layV most 4) 33)), pts b2 (.obj (.cells (opRow (0, 0, 0)).toArray 43)), Own 64 8 A3 ps.length m3 (passV ps), Own 43 3 A2 j m2 (cs.map opRow).flatten] H →
      W_exec_All.l9 (fun v H => ∃ cs, CostL most k words ps cs ∧ Ret (.tuple #[.agg (opRow (sumO cs)).toArray, .int .i64 0]) H0 v H) (t + 1) (k : Int) (words : Int) ⟨b1, 0, none⟩ ⟨b2, 0, none⟩ A2 j m2 A3 ps.length m3 (ps.length : Int) (j : Int) H
  | 0, j, A2, m2, cs, H, hj, hC, hs => by
    have ej : j = ps.length := by omega
    rw [ej, List.take_length] at hC
    unfold W_exec_All.l9
    refine BIf_dneg (by omega) ?_
    have hcs : CellsS 3 H A2 (cs.map opRow) := cellsS_of (by omega) (fun r hr => by obtain ⟨o, _, rfl⟩ := List.mem_map.1 hr; rfl) (ownS_cells (hs.own 4 rfl))
    refine HCalls.use (total_ok A2 j m2 cs (by rw [hC.1, ej]) (by omega) hC.small H hcs) ?_
    simp only [HV]
    refine hs.stw 2 rfl rfl rfl rfl fun H hs => ?_
    refine hs.ldw 2 rfl rfl ?_
    exact ⟨cs, hC, hs.fin 0 rfl _⟩
  | t + 1, j, A2, m2, cs, H, hj, hC, hs => by
    have hjl : j < ps.length := by omega
    have hg : ps[j]? = some (ps[j]'hjl) := List.getElem?_eq_getElem hjl
    have hz := hps _ (List.getElem_mem hjl)
    unfold W_exec_All.l9
    refine BIf_dpos (by omega) ?_
    refine (hs.own 3 rfl).rdA (x := (j : Int)) (j := j) rfl hjl (passV_get _ _ _ hg) ?_
    have htk : ps.take (j + 1) = ps.take j ++ [ps[j]'hjl] := List.take_succ_eq_append_getElem hjl
    generalize ps[j]'hjl = pz at hz htk
    refine hs.nw fun b4 H hs => ?_
    refine hs.stw 5 (y := pz.c) rfl rfl rfl rfl fun H hs => ?_
    refine hs.ldw 1 rfl rfl ?_
    refine hs.ldw 5 rfl rfl ?_
    try simp only [Array.toArray_toList]
    obtain ⟨r, w, hc, hcall⟩ := eCost_ok hm hk hk6 hz hw H (hT.le (hs.ow 0 rfl))
    refine HCalls.use hcall ?_
    simp only [HV]
    refine hs.nw fun b5 H hs => ?_
    refine hs.stw 6 rfl rfl rfl rfl fun H hs => ?_
    refine BIf_bnen rfl ?_
    refine hs.ldw 6 rfl rfl ?_
    unfold opRow
    simp only [HV]
    have hcp := CostP_le hc hz.k
    have h6 := two6 hk6
    have hroom : Lay.roomN k 4 ≤ 64 := by
      have h2 : (2 ^ k - 1) / 4 ≤ 2 ^ k - 1 := Nat.div_le_self _ _
      unfold Lay.roomN; omega
    have hs : Sep [own H0, pts b1 (.obj (.cells (Lay.layV most 4) 33)), pts b2 (.obj (.cells (opRow (0, 0, 0)).toArray 43)), Own 64 8 A3 ps.length m3 (passV ps), Own 43 3 A2 j m2 (cs.map opRow).flatten] H := hs.re [0, 1, 2, 3, 4] rfl
    refine hs.appS 4 rfl cell_ops rfl (by omega) (by omega) rfl rfl (by omega) (by omega) fun A' m' H hs => ?_
    simp only [HV]
    rw [i64w (x := (j : Int) + 1) (by omega) (by omega)]
    refine eAll_loop hps hp5 t (j + 1) A' m' (cs ++ [(r + Lay.roomN k 4, w, 1)]) H (by omega) ?_ ?_
    · rw [htk]
      exact hC.snoc hc rfl ⟨by show r + Lay.roomN k 4 ≤ _; omega, by show w ≤ _; omega, by show 1 ≤ _; omega⟩
    · rw [List.map_append, List.flatten_append]
      exact hs
end
theorem eAll_ok {most k words : Nat} (hm : most ≤ 32) (hk : k ≤ most) (hk6 : k ≤ 6) (hw : leastN k 4 ≤ words ∧ words ≤ 1000) (d : Bool) (H : Hp) (hT : T64 H) :
    HCalls Tryz.prog 14 #[.agg (Lay.layV most 4), .int .i64 (k : Int), .int .i64 (if d = true then 1 else 0), .int .i64 (words : Int)] H fun v H' => ∃ cs, CostL most k words (planL d k 4 words) cs ∧ Ret (.tuple #[.agg (opRow (sumO cs)).toArray, .int .i64 0]) H v H' := by
  have hp4 : perB ((4 : Nat) : Int) = true := by decide
  have e1 := fun H => Extent_ok (most := most) (per := 4) hm hp4 (i := 0) (k := k) (by omega) hk H
  apply W_exec_All.ok
  unfold W_exec_All
  refine (Sep.start H).nw fun b1 H1 hs => ?_
  refine hs.nw fun b2 H1 hs => ?_
  refine hs.ldw 1 rfl rfl ?_
  try simp only [Array.toArray_toList]
  refine HCalls.use (e1 H1) ?_
  simp only [HV]
  refine hs.nw fun b3 H1 hs => ?_
  refine hs.stw 3 rfl rfl rfl rfl fun H1 hs => ?_
  refine BIf_bnen rfl ?_
  try simp only [NN_some, Addr.add_lit', Addr.add_zero, Nat.zero_add, Nat.add_zero]
  refine hs.ld 1 (v := .int .i64 ((4 : Nat) : Int)) rfl rfl ?_
  simp only [HV]
  refine (Passes_tr (k := k) (per := 4) (words := words) (by omega) hp4 ⟨hw.1, by omega⟩ d).use hs [] rfl rfl ?_
  rintro _ _ H1 ⟨bp, rfl, rfl⟩ hs
  simp only [HV]
  refine BIf_bnen rfl ⟨(planL d k 4 words).length + 1, ?_⟩
  have hs : Sep [pts bp (.row (passV (planL d k 4 words)) 64 ((planL d k 4 words).length * 8)), own H, pts b1 (.obj (.cells (Lay.layV most 4) 33)), pts b2 (.obj (.cells (opRow (0, 0, 0)).toArray 43))] H1 := hs.re [0, 1, 2, 3] rfl
  have hs := own_of_row hs 0 (n := (planL d k 4 words).length) (s := 8) rfl (passV_len _) rfl
  have hs : Sep (Own 43 3 .none 0 0 [] :: [Own 64 8 (some ⟨bp, 0, none⟩) (planL d k 4 words).length (planL d k 4 words).length (passV (planL d k 4 words)), own H, pts b1 (.obj (.cells (Lay.layV most 4) 33)), pts b2 (.obj (.cells (opRow (0, 0, 0)).toArray 43))]) H1 := ⟨fun _ => none, H1, fun _ _ h => (nomatch h), Hp.le_refl _, fun _ => .inl rfl, Own.none _ _ _, hs⟩
  exact eAll_loop hm hk hk6 hw.2 hT (ps := planL d k 4 words) (planL_ok (by omega) hw.1) (planL_len d k 4 words).2 (planL d k 4 words).length 0 .none 0 [] H1 (by omega) ⟨rfl, fun i pz o hi _ => by simp at hi⟩ (hs.re [2, 3, 4, 1, 0] rfl)
end Go.Proofs.YtnknippcbecmeaaGreatDoor.Eng
end
section
/- abacistref08.Transform: the transform, by definition. -/
namespace Go.Proofs.YtnknippcbecmeaaGreatDoor.Eng
open Go Go.Hw Go.Form W Shp Dsk Str Are Trn Ker Fft Pas Pln
theorem sclL_one (d : Bool) (k : Nat) (l : List UInt64) : sclL (zw 1) (dftL d k l) = dftL d k l := by
  have e1 : zw 1 = 1 := by decide
  apply List.ext_getElem?
  intro i
  by_cases hi : i < 2 ^ k
  · rw [sclL_get _ (dftL_get d k l hi), dftL_get d k l hi, zw_uw, e1]
    congr 2
    grind
  · rw [List.getElem?_eq_none (by rw [sclL_len, dftL_len]; omega), List.getElem?_eq_none (by rw [dftL_len]; omega)]
theorem tfL_false (k : Nat) (l : List UInt64) : tfL false k l = dftL false k l := sclL_one false k l
theorem tfL_true (k : Nat) (l : List UInt64) : tfL true k l = sclL (Fft.pw half k) (dftL true k l) := by
  show sclL (zw (uw (Fft.pw half k))) _ = _
  rw [zw_uw]
theorem Transform_tr {R : As} {A : Option Addr} {n m k : Nat} {l : List UInt64} (hR : ∀ H, R H → Cells H A (wordVals l)) (hl : l.length = n) (hn : n = 2 ^ k) (hk : k ≤ 20) (d : Bool) :
    Tr Tryz.prog 18 #[.slice A n m, .int .i64 (k : Int), .int .i64 (if d = true then 1 else 0)] [R] fun v M => ∃ A2 m2, v = .slice A2 n m2 ∧ M = [Own 60 1 A2 n m2 (wordVals (tfL d k l)), R] := fun H hs => by
  have h20 := pow_le hk
  apply W_abacistref08_Transform.ok
  unfold W_abacistref08_Transform
  refine (rDft_tr hR hl hn hk d).use hs [0] rfl rfl ?_
  rintro _ _ H ⟨A2, m2, rfl, rfl⟩ hs
  simp only [HV]
  cases d with
  | false =>
    refine BIf_beqn (by decide) ?_
    rw [tfL_false]
    exact ⟨_, ⟨A2, m2, rfl, rfl⟩, hs.re [0, 1] rfl⟩
  | true =>
    refine BIf_beqp rfl ?_
    refine HCalls.use (rShare_ok k (by omega) H) ?_
    simp only [HV]
    refine (rScale_tr (R := Own 60 1 A2 n m2 (wordVals (dftL true k l))) (l := dftL true k l) (Fft.pw half k).val (by have := (Fft.pw half k).isLt; omega) (fun H h => ?_) (by rw [dftL_len, hn]) (by omega)).use hs [0] rfl rfl ?_
    · exact ownS_cells h
    rintro _ _ H ⟨A3, m3, rfl, rfl⟩ hs
    simp only [HV]
    rw [zp_of_val, ← tfL_true] at hs
    exact ⟨_, ⟨A3, m3, rfl, rfl⟩, hs.re [0, 2] rfl⟩
end Go.Proofs.YtnknippcbecmeaaGreatDoor.Eng
end
section
/- Formulas of functions, printed by wip/tools/hwp.py. -/
namespace Go.Proofs.YtnknippcbecmeaaGreatDoor.W
open Go Go.Hw
theorem mixWabacistlaw25 : Tryz.prog.follows .mixedOrders = true := by kernel_rfl
def W_abacistlaw25_ExecAll.j18 (K : Value → Hp → Prop) (R15 : Option Addr → Nat → Nat → Int → Int → Int → Addr → Option Addr → Nat → Nat → Int → Addr → Addr → Int → Hp → Prop) (A6 : Option Addr) (n6 : Nat) (m6 : Nat) (x23 : Int) (x24 : Int) (x25 : Int) (a6 : Addr) (A7 : Option Addr) (n7 : Nat) (m7 : Nat) (x26 : Int) (a7 : Addr) (a8 : Addr) (x27 : Int) (a9 : Addr) (x28 : Int) (H : Hp) : Prop :=
  Ld H (a6.add 0) fun v32 => DP v32 fun p2 => Ld H (a6.add 1) fun v33 => DP v33 fun p3 => LdA H (a6.add 2) 17 fun l33 => ixI x27 n7 (NN A7 fun a10 => LdA H (a10.add (x27.toNat * 8)) 8 fun l34 => HCalls Tryz.prog 13 #[.pointer p2, .pointer p3, .agg l33.toArray, .int .i64 x24, .agg l34.toArray, .int .u32 x26] H fun v34 H28 => DTup v34 fun l35 => DCons l35 fun v35 l36 => DI .u32 v35 fun x29 => DCons l36 fun v36 l37 => DI .i64 v36 fun x30 => DNil l37 (BIf (x28 != (0 : Int)) (K (.bool false) H28) (BIf (x30 != (0 : Int)) (K (.bool false) H28) (Ld H28 (a8.add 0) fun v37 => DI .i64 v37 fun x31 => Ld H28 (a9.add 0) fun v38 => DI .i64 v38 fun x32 => St H28 ((a8.add 0).add 0) (.int .i64 (IntKind.i64.wrap (x31 + x32))) fun H29 => Ld H29 (a8.add 1) fun v39 => DI .i64 v39 fun x33 => Ld H29 (a9.add 1) fun v40 => DI .i64 v40 fun x34 => St H29 ((a8.add 1).add 0) (.int .i64 (IntKind.i64.wrap (x33 + x34))) fun H30 => Ld H30 (a8.add 2) fun v41 => DI .i64 v41 fun x35 => Ld H30 (a9.add 2) fun v42 => DI .i64 v42 fun x36 => St H30 ((a8.add 2).add 0) (.int .i64 (IntKind.i64.wrap (x35 + x36))) fun H31 => R15 A6 n6 m6 x23 x24 x25 a6 A7 n7 m7 x29 a7 a8 (IntKind.i64.wrap (x27 + (1 : Int))) H31))))
def W_abacistlaw25_ExecAll.l15 (K : Value → Hp → Prop) : Nat → Option Addr → Nat → Nat → Int → Int → Int → Addr → Option Addr → Nat → Nat → Int → Addr → Addr → Int → Hp → Prop
  | 0, _, _, _, _, _, _, _, _, _, _, _, _, _, _, _ => False
  | k + 1, A4, n4, m4, x11, x12, x13, a2, A5, n5, m5, x14, a3, a4, x15, H =>
    let R15 := W_abacistlaw25_ExecAll.l15 K k
    BIf (decide (x15 < ((n5 : Nat) : Int))) (ixI x15 n5 (NN A5 fun a5 => (LdA H (a2.add 2) 17 fun l4 => (LdA H (a5.add (x15.toNat * 8)) 8 fun l5 => (QCall Tryz.prog 12 #[.agg l4.toArray, .int .i64 x12, .agg l5.toArray, .int .i64 x13] H fun v11 => DTup v11 fun l6 => DCons l6 fun v12 l7 => DA v12 fun y3 => DCons l7 fun v13 l8 => DI .i64 v13 fun x16 => DNil l8 (Nw H (.obj (.cells #[.int .i64 0, .int .i64 0, .int .i64 0] 43)) fun b4 H14 => StA H14 (⟨b4, 0, none⟩ : Addr) y3 3 fun H15 => W_abacistlaw25_ExecAll.j18 K R15 A4 n4 m4 x11 x12 x13 a2 A5 n5 m5 x14 a3 a4 x15 (⟨b4, 0, none⟩ : Addr) x16 H15)) ∧ (Nw H (.obj (.cells #[.int .i64 0, .int .i64 0, .int .i64 0] 43)) fun b5 H16 => QCall Tryz.prog 12 #[.agg l4.toArray, .int .i64 x12, .agg l5.toArray, .int .i64 x13] H16 fun v14 => DTup v14 fun l9 => DCons l9 fun v15 l10 => DA v15 fun y4 => DCons l10 fun v16 l11 => DI .i64 v16 fun x17 => DNil l11 (StA H16 (⟨b5, 0, none⟩ : Addr) y4 3 fun H17 => W_abacistlaw25_ExecAll.j18 K R15 A4 n4 m4 x11 x12 x13 a2 A5 n5 m5 x14 a3 a4 x15 (⟨b5, 0, none⟩ : Addr) x17 H17))) ∧ (Nw H (.obj (.cells #[.int .i64 0, .int .i64 0, .int .i64 0] 43)) fun b6 H18 => LdA H18 (a5.add (x15.toNat * 8)) 8 fun l12 => QCall Tryz.prog 12 #[.agg l4.toArray, .int .i64 x12, .agg l12.toArray, .int .i64 x13] H18 fun v17 => DTup v17 fun l13 => DCons l13 fun v18 l14 => DA v18 fun y5 => DCons l14 fun v19 l15 => DI .i64 v19 fun x18 => DNil l15 (StA H18 (⟨b6, 0, none⟩ : Addr) y5 3 fun H19 => W_abacistlaw25_ExecAll.j18 K R15 A4 n4 m4 x11 x12 x13 a2 A5 n5 m5 x14 a3 a4 x15 (⟨b6, 0, none⟩ : Addr) x18 H19))) ∧ (LdA H (a5.add (x15.toNat * 8)) 8 fun l16 => (LdA H (a2.add 2) 17 fun l17 => (QCall Tryz.prog 12 #[.agg l17.toArray, .int .i64 x12, .agg l16.toArray, .int .i64 x13] H fun v20 => DTup v20 fun l18 => DCons l18 fun v21 l19 => DA v21 fun y6 => DCons l19 fun v22 l20 => DI .i64 v22 fun x19 => DNil l20 (Nw H (.obj (.cells #[.int .i64 0, .int .i64 0, .int .i64 0] 43)) fun b7 H20 => StA H20 (⟨b7, 0, none⟩ : Addr) y6 3 fun H21 => W_abacistlaw25_ExecAll.j18 K R15 A4 n4 m4 x11 x12 x13 a2 A5 n5 m5 x14 a3 a4 x15 (⟨b7, 0, none⟩ : Addr) x19 H21)) ∧ (Nw H (.obj (.cells #[.int .i64 0, .int .i64 0, .int .i64 0] 43)) fun b8 H22 => QCall Tryz.prog 12 #[.agg l17.toArray, .int .i64 x12, .agg l16.toArray, .int .i64 x13] H22 fun v23 => DTup v23 fun l21 => DCons l21 fun v24 l22 => DA v24 fun y7 => DCons l22 fun v25 l23 => DI .i64 v25 fun x20 => DNil l23 (StA H22 (⟨b8, 0, none⟩ : Addr) y7 3 fun H23 => W_abacistlaw25_ExecAll.j18 K R15 A4 n4 m4 x11 x12 x13 a2 A5 n5 m5 x14 a3 a4 x15 (⟨b8, 0, none⟩ : Addr) x20 H23))) ∧ (Nw H (.obj (.cells #[.int .i64 0, .int .i64 0, .int .i64 0] 43)) fun b9 H24 => LdA H24 (a2.add 2) 17 fun l24 => QCall Tryz.prog 12 #[.agg l24.toArray, .int .i64 x12, .agg l16.toArray, .int .i64 x13] H24 fun v26 => DTup v26 fun l25 => DCons l25 fun v27 l26 => DA v27 fun y8 => DCons l26 fun v28 l27 => DI .i64 v28 fun x21 => DNil l27 (StA H24 (⟨b9, 0, none⟩ : Addr) y8 3 fun H25 => W_abacistlaw25_ExecAll.j18 K R15 A4 n4 m4 x11 x12 x13 a2 A5 n5 m5 x14 a3 a4 x15 (⟨b9, 0, none⟩ : Addr) x21 H25))) ∧ (Nw H (.obj (.cells #[.int .i64 0, .int .i64 0, .int .i64 0] 43)) fun b10 H26 => LdA H26 (a2.add 2) 17 fun l28 => LdA H26 (a5.add (x15.toNat * 8)) 8 fun l29 => QCall Tryz.prog 12 #[.agg l28.toArray, .int .i64 x12, .agg l29.toArray, .int .i64 x13] H26 fun v29 => DTup v29 fun l30 => DCons l30 fun v30 l31 => DA v30 fun y9 => DCons l31 fun v31 l32 => DI .i64 v31 fun x22 => DNil l32 (StA H26 (⟨b10, 0, none⟩ : Addr) y9 3 fun H27 => W_abacistlaw25_ExecAll.j18 K R15 A4 n4 m4 x11 x12 x13 a2 A5 n5 m5 x14 a3 a4 x15 (⟨b10, 0, none⟩ : Addr) x22 H27)))) (Ld H (a2.add 0) fun v43 => DP v43 fun p4 => NN p4 fun a11 => HCalls Tryz.prog 11 #[.pointer (some (a11.add 3))] H fun v44 H32 => DA v44 fun y10 => Nw H32 (.obj (.cells #[.int .i64 0, .int .i64 0, .int .i64 0] 43)) fun b11 H33 => StA H33 (⟨b11, 0, none⟩ : Addr) y10 3 fun H34 => LdA H34 (a2.add 2) 17 fun l38 => HCalls Tryz.prog 14 #[.agg l38.toArray, .int .i64 x12, .int .i64 x11, .int .i64 x13] H34 fun v45 H35 => DTup v45 fun l39 => DCons l39 fun v46 l40 => DA v46 fun y11 => DCons l40 fun v47 l41 => DI .i64 v47 fun x37 => DNil l41 (Nw H35 (.obj (.cells #[.int .i64 0, .int .i64 0, .int .i64 0] 43)) fun b12 H36 => StA H36 (⟨b12, 0, none⟩ : Addr) y11 3 fun H37 => BIf (x37 != (0 : Int)) (K (.bool false) H37) (LdA H37 (⟨b12, 0, none⟩ : Addr) 3 fun l42 => LdA H37 a4 3 fun l43 => EqV Tryz.prog .neq 43 (.agg l42.toArray) (.agg l43.toArray) fun c3 => BIf c3 (K (.bool false) H37) (Ld H37 ((⟨b11, 0, none⟩ : Addr).add 0) fun v48 => DI .i64 v48 fun x38 => Ld H37 (a3.add 0) fun v49 => DI .i64 v49 fun x39 => Ld H37 ((⟨b12, 0, none⟩ : Addr).add 0) fun v50 => DI .i64 v50 fun x40 => BIf ((IntKind.i64.wrap (x38 - x39)) != x40) (K (.bool false) H37) (Ld H37 ((⟨b11, 0, none⟩ : Addr).add 1) fun v51 => DI .i64 v51 fun x41 => Ld H37 (a3.add 1) fun v52 => DI .i64 v52 fun x42 => Ld H37 ((⟨b12, 0, none⟩ : Addr).add 1) fun v53 => DI .i64 v53 fun x43 => BIf ((IntKind.i64.wrap (x41 - x42)) != x43) (K (.bool false) H37) (Ld H37 ((⟨b11, 0, none⟩ : Addr).add 2) fun v54 => DI .i64 v54 fun x44 => Ld H37 (a3.add 2) fun v55 => DI .i64 v55 fun x45 => Ld H37 ((⟨b12, 0, none⟩ : Addr).add 2) fun v56 => DI .i64 v56 fun x46 => BIf ((IntKind.i64.wrap (x44 - x45)) != x46) (K (.bool false) H37) (Ld H37 (a2.add 1) fun v57 => DP v57 fun p5 => NN p5 fun a12 => HCalls Tryz.prog 15 #[.pointer (some (a12.add 0))] H37 fun v58 H38 => DI .i64 v58 fun x47 => BIf (decide (x47 > x13)) (K (.bool false) H38) (LdA H38 a2 19 fun l44 => HCalls Tryz.prog 16 #[.agg l44.toArray, .int .i64 3, .int .i64 x12] H38 fun v59 H39 => DTup v59 fun l45 => DCons l45 fun v60 l46 => DSl v60 fun A8 n8 m8 => DCons l46 fun v61 l47 => DB v61 fun c4 => DNil l47 (BIf c4 (HCalls Tryz.prog 18 #[.slice A4 n4 m4, .int .i64 x12, .int .i64 x11] H39 fun v62 H40 => DSl v62 fun A9 n9 m9 => HCalls Tryz.prog 17 #[.slice A8 n8 m8, .slice A9 n9 m9] H40 fun v63 H41 => DB v63 fun c5 => K (.bool c5) H41) (K (.bool false) H39))))))))))
def W_abacistlaw25_ExecAll.j6 (K : Value → Hp → Prop) (A2 : Option Addr) (n2 : Nat) (m2 : Nat) (x5 : Int) (x6 : Int) (x7 : Int) (x8 : Int) (H : Hp) : Prop :=
  HCalls Tryz.prog 7 #[.int .i64 x8, .int .i64 4] H fun v3 H3 => DI .i64 v3 fun x9 => ((200 : Int) ≠ 0 ∧ IntKind.i64 = IntKind.i64 ∧ ((3 : Int) ≠ 0 ∧ IntKind.i64 = IntKind.i64 ∧ HCalls Tryz.prog 8 #[.int .i64 (if (7 : Int) < (IntKind.i64.wrap (x8 + (Int.tmod (IntKind.i64.wrap x5) (3 : Int)))) then (7 : Int) else (IntKind.i64.wrap (x8 + (Int.tmod (IntKind.i64.wrap x5) (3 : Int))))), .slice A2 n2 m2, .int .i64 (IntKind.i64.wrap (x9 + (Int.tmod (IntKind.i64.wrap x7) (200 : Int))))] H3 fun v4 H4 => DTup v4 fun l1 => DCons l1 fun v5 l2 => DA v5 fun y1 => DCons l2 fun v6 l3 => DB v6 fun c2 => DNil l3 (Nw H4 (.obj (.cells #[.pointer none, .pointer none, .int .i64 0, .int .i64 0, .int .i64 0, .int .i64 0, .int .i64 0, .int .i64 0, .int .i64 0, .int .i64 0, .int .i64 0, .int .i64 0, .int .i64 0, .int .i64 0, .int .i64 0, .int .i64 0, .int .i64 0, .int .i64 0, .int .i64 0] 35)) fun b1 H5 => StA H5 (⟨b1, 0, none⟩ : Addr) y1 19 fun H6 => BIf (!c2) (K (.bool false) H6) (HCalls Tryz.prog 9 #[.int .i64 x8, .int .i64 x6, .int .i64 4, .int .i64 (IntKind.i64.wrap (x9 + (Int.tmod (IntKind.i64.wrap x7) (200 : Int))))] H6 fun v7 H7 => DSl v7 fun A3 n3 m3 => HCalls Tryz.prog 10 #[.slice A2 n2 m2] H7 fun v8 H8 => DI .u32 v8 fun x10 => Ld H8 ((⟨b1, 0, none⟩ : Addr).add 0) fun v9 => DP v9 fun p1 => NN p1 fun a1 => HCalls Tryz.prog 11 #[.pointer (some (a1.add 3))] H8 fun v10 H9 => DA v10 fun y2 => Nw H9 (.obj (.cells #[.int .i64 0, .int .i64 0, .int .i64 0] 43)) fun b2 H10 => StA H10 (⟨b2, 0, none⟩ : Addr) y2 3 fun H11 => Nw H11 (.obj (.cells #[.int .i64 0, .int .i64 0, .int .i64 0] 43)) fun b3 H12 => StA H12 (⟨b3, 0, none⟩ : Addr) #[.int .i64 0, .int .i64 0, .int .i64 0] 3 fun H13 => (∃ k, W_abacistlaw25_ExecAll.l15 K k A2 n2 m2 x6 x8 (IntKind.i64.wrap (x9 + (Int.tmod (IntKind.i64.wrap x7) (200 : Int)))) (⟨b1, 0, none⟩ : Addr) A3 n3 m3 x10 (⟨b2, 0, none⟩ : Addr) (⟨b3, 0, none⟩ : Addr) (0 : Int) H13)))))
def W_abacistlaw25_ExecAll (A1 : Option Addr) (n1 : Nat) (m1 : Nat) (x1 : Int) (x2 : Int) (x3 : Int) (H : Hp) (K : Value → Hp → Prop) : Prop :=
  HCalls Tryz.prog 5 #[] H fun v1 H1 => DB v1 fun c1 => BIf (!c1) (K (.bool false) H1) (HCalls Tryz.prog 6 #[.int .i64 ((n1 : Nat) : Int)] H1 fun v2 H2 => DI .i64 v2 fun x4 => BIf (decide (((n1 : Nat) : Int) > (64 : Int))) (K (.bool true) H2) (BIf (decide (x4 < (0 : Int))) (K (.bool true) H2) (BIf (x2 != (0 : Int)) (BIf (x2 != (1 : Int)) (K (.bool true) H2) (W_abacistlaw25_ExecAll.j6 K A1 n1 m1 x1 x2 x3 x4 H2)) (W_abacistlaw25_ExecAll.j6 K A1 n1 m1 x1 x2 x3 x4 H2))))
def W_abacistlaw25_ExecAll.l15.L (K : Value → Hp → Prop) (k : Nat) : Mid := fun E D H =>
  DG (E.get? 0) fun w0 => DSl w0 fun A4 n4 m4 => eI E 2 .i64 fun x11 => eI E 9 .i64 fun x12 => eI E 10 .i64 fun x13 => eN E 11 fun a2 => DG (E.get? 13) fun w13 => DSl w13 fun A5 n5 m5 => eI E 14 .u32 fun x14 => eN E 15 fun a3 => eN E 16 fun a4 => eI E 17 .i64 fun x15 => DNilD D (W_abacistlaw25_ExecAll.l15 K k A4 n4 m4 x11 x12 x13 a2 A5 n5 m5 x14 a3 a4 x15 H)
def W_abacistlaw25_ExecAll.Λ15 (K : Value → Hp → Prop) (R15 : Option Addr → Nat → Nat → Int → Int → Int → Addr → Option Addr → Nat → Nat → Int → Addr → Addr → Int → Hp → Prop) : Cuts := ⟨fun i => match Nat.beq i 18 with | true => some (fun E D H => DG (E.get? 0) fun w0 => DSl w0 fun A6 n6 m6 => eI E 2 .i64 fun x23 => eI E 9 .i64 fun x24 => eI E 10 .i64 fun x25 => eN E 11 fun a6 => DG (E.get? 13) fun w13 => DSl w13 fun A7 n7 m7 => eI E 14 .u32 fun x26 => eN E 15 fun a7 => eN E 16 fun a8 => eI E 17 .i64 fun x27 => eN E 18 fun a9 => eI E 19 .i64 fun x28 => DNilD D (W_abacistlaw25_ExecAll.j18 K R15 A6 n6 m6 x23 x24 x25 a6 A7 n7 m7 x26 a7 a8 x27 a9 x28 H)) | false => none, fun i => none, (fun i => match Nat.beq i 18 with | true => some ([1, 3, 5, 10], [0, 1, 0, 4, 0, 16, 0, 0, 0, 384, 896, 0, 4095, 8191, 16383, 16383, 32767, 131071], 0) | false => match Nat.beq i 17 with | true => some ([1, 6, 8], [0, 1, 0, 0, 0, 24, 56, 0, 255, 511, 1023, 1023, 0, 6143, 16383], 0) | false => none)⟩
def W_abacistlaw25_ExecAll.Λ (K : Value → Hp → Prop) : Cuts := ⟨fun i => match Nat.beq i 6 with | true => some (fun E D H => DG (E.get? 0) fun w0 => DSl w0 fun A2 n2 m2 => eI E 1 .u8 fun x5 => eI E 2 .i64 fun x6 => eI E 3 .u16 fun x7 => eI E 9 .i64 fun x8 => DNilD D (W_abacistlaw25_ExecAll.j6 K A2 n2 m2 x5 x6 x7 x8 H)) | false => none, fun i => match Nat.beq i 15 with | true => some (fun E D H => ∃ k, W_abacistlaw25_ExecAll.l15.L K k E D H) | false => none, (fun i => match Nat.beq i 18 with | true => some ([1, 3, 5, 10], [0, 1, 0, 4, 0, 16, 0, 0, 0, 384, 896, 0, 4095, 8191, 16383, 16383, 32767, 131071], 0) | false => match Nat.beq i 17 with | true => some ([1, 6, 8], [0, 1, 0, 0, 0, 24, 56, 0, 255, 511, 1023, 1023, 0, 6143, 16383], 0) | false => none)⟩
theorem W_abacistlaw25_ExecAll.ok (A1 : Option Addr) (n1 : Nat) (m1 : Nat) (x1 : Int) (x2 : Int) (x3 : Int) (H : Hp) (K : Value → Hp → Prop) (h : W_abacistlaw25_ExecAll A1 n1 m1 x1 x2 x3 H K) : HCalls Tryz.prog 3 #[.slice A1 n1 m1, .int .u8 x1, .int .i64 x2, .int .u16 x3] H K :=
  hcalls Tryz.func3 rfl (Nat.le_of_ble_eq_true rfl) (hw_safe (Λ := (W_abacistlaw25_ExecAll.Λ K)) mixWabacistlaw25 _ _ _ _ _ (Eq.mp (by kernel_rfl) h) (obs_seq obs_region rfl (obs_seq (obs_seq obs_region rfl (obs_cond (obs_seq obs_region rfl obs_ret) obs_skip)) rfl (obs_seq obs_region rfl (obs_seqc (obs_seq obs_region rfl (obs_cond (obs_seq obs_region rfl obs_ret) obs_skip)) rfl (fun E D H h => by
      obtain ⟨w0, e0, g1⟩ := DG.out h
      obtain ⟨A2, n2, m2, rfl, g2⟩ := DSl.out g1
      obtain ⟨x5, e1, g4⟩ := GI g2; obtain ⟨x6, e2, g6⟩ := GI g4; obtain ⟨x7, e3, g8⟩ := GI g6; obtain ⟨x8, e9, g10⟩ := GI g8; obtain ⟨rfl, h'⟩ := DNilD.out g10
      exact (hw_safe (Λ := (W_abacistlaw25_ExecAll.Λ K)) mixWabacistlaw25 _ _ [(0, .slice A2 n2 m2), (1, .int .u8 x5), (2, .int .i64 x6), (3, .int .u16 x7), (9, .int .i64 x8)] [] H (Eq.mp (by kernel_rfl) h') (obs_seq obs_region rfl (obs_seq obs_region rfl (obs_seq (obs_seq obs_region rfl (obs_cond (obs_seq obs_region rfl obs_ret) obs_skip)) rfl (obs_seq obs_region rfl (obs_seq obs_region rfl (obs_seq obs_region rfl (obs_seq obs_region rfl (obs_seq (obs_seq obs_region rfl (obs_block (obs_loop rfl (fun E D H h => by
          refine Safe.loop' (W_abacistlaw25_ExecAll.l15.L K) (fun E D H h => ?_) (fun k E D H h => ?_) E D H h
          · obtain ⟨w0, e0, g1⟩ := DG.out h; obtain ⟨A4, n4, m4, rfl, g2⟩ := DSl.out g1; obtain ⟨w2, e2, g3⟩ := DG.out g2; obtain ⟨x11, rfl, g4⟩ := DI.out g3; obtain ⟨w9, e9, g5⟩ := DG.out g4; obtain ⟨x12, rfl, g6⟩ := DI.out g5; obtain ⟨w10, e10, g7⟩ := DG.out g6; obtain ⟨x13, rfl, g8⟩ := DI.out g7; obtain ⟨w11, e11, g9⟩ := DG.out g8; obtain ⟨pw11, rfl, g10⟩ := DP.out g9; obtain ⟨a2, rfl, g11⟩ := NN.out g10; obtain ⟨w13, e13, g12⟩ := DG.out g11; obtain ⟨A5, n5, m5, rfl, g13⟩ := DSl.out g12; obtain ⟨w14, e14, g14⟩ := DG.out g13; obtain ⟨x14, rfl, g15⟩ := DI.out g14; obtain ⟨w15, e15, g16⟩ := DG.out g15; obtain ⟨pw15, rfl, g17⟩ := DP.out g16; obtain ⟨a3, rfl, g18⟩ := NN.out g17; obtain ⟨w16, e16, g19⟩ := DG.out g18; obtain ⟨pw16, rfl, g20⟩ := DP.out g19; obtain ⟨a4, rfl, g21⟩ := NN.out g20; obtain ⟨w17, e17, g22⟩ := DG.out g21; obtain ⟨x15, rfl, g23⟩ := DI.out g22; obtain ⟨rfl, h'⟩ := DNilD.out g23; exact h'
          · obtain ⟨w0, e0, g1⟩ := DG.out h
            obtain ⟨A4, n4, m4, rfl, g2⟩ := DSl.out g1
            obtain ⟨x11, e2, g4⟩ := GI g2; obtain ⟨x12, e9, g6⟩ := GI g4; obtain ⟨x13, e10, g8⟩ := GI g6; obtain ⟨a2, e11, g11⟩ := GN g8; obtain ⟨w13, e13, g12⟩ := DG.out g11
            obtain ⟨A5, n5, m5, rfl, g13⟩ := DSl.out g12
            obtain ⟨x14, e14, g15⟩ := GI g13; obtain ⟨a3, e15, g18⟩ := GN g15; obtain ⟨a4, e16, g21⟩ := GN g18; obtain ⟨x15, e17, g23⟩ := GI g21; obtain ⟨rfl, h'⟩ := DNilD.out g23
            exact (hw_safe (Λ := (W_abacistlaw25_ExecAll.Λ15 K (W_abacistlaw25_ExecAll.l15 K k))) mixWabacistlaw25 _ _ [(0, .slice A4 n4 m4), (2, .int .i64 x11), (9, .int .i64 x12), (10, .int .i64 x13), (11, .pointer (some a2)), (13, .slice A5 n5 m5), (14, .int .u32 x14), (15, .pointer (some a3)), (16, .pointer (some a4)), (17, .int .i64 x15)] [] H (Eq.mp (by kernel_rfl) h') (obs_seq (obs_seq obs_region rfl (obs_cond obs_skip obs_exit)) rfl (obs_seq (obs_block (obs_seqc obs_region rfl (fun E D H h => by
                obtain ⟨w0, e0, g1⟩ := DG.out h
                obtain ⟨A6, n6, m6, rfl, g2⟩ := DSl.out g1
                obtain ⟨x23, e2, g4⟩ := GI g2; obtain ⟨x24, e9, g6⟩ := GI g4; obtain ⟨x25, e10, g8⟩ := GI g6; obtain ⟨a6, e11, g11⟩ := GN g8; obtain ⟨w13, e13, g12⟩ := DG.out g11
                obtain ⟨A7, n7, m7, rfl, g13⟩ := DSl.out g12
                obtain ⟨x26, e14, g15⟩ := GI g13; obtain ⟨a7, e15, g18⟩ := GN g15; obtain ⟨a8, e16, g21⟩ := GN g18; obtain ⟨x27, e17, g23⟩ := GI g21; obtain ⟨a9, e18, g26⟩ := GN g23; obtain ⟨x28, e19, g28⟩ := GI g26; obtain ⟨rfl, h'⟩ := DNilD.out g28
                exact (hw_safe (Λ := (W_abacistlaw25_ExecAll.Λ15 K (W_abacistlaw25_ExecAll.l15 K k))) mixWabacistlaw25 _ _ [(0, .slice A6 n6 m6), (2, .int .i64 x23), (9, .int .i64 x24), (10, .int .i64 x25), (11, .pointer (some a6)), (13, .slice A7 n7 m7), (14, .int .u32 x26), (15, .pointer (some a7)), (16, .pointer (some a8)), (17, .int .i64 x27), (18, .pointer (some a9)), (19, .int .i64 x28)] [] H (Eq.mp (by kernel_rfl) h') (obs_seq obs_region rfl (obs_seq (obs_seq obs_region rfl (obs_cond (obs_seq obs_region rfl obs_ret) obs_skip)) rfl (obs_seq obs_region rfl (obs_seq obs_region rfl (obs_seq obs_region rfl obs_region)))))).weaken (EnvLe.cons e0 (EnvLe.cons e2 (EnvLe.cons e9 (EnvLe.cons e10 (EnvLe.cons e11 (EnvLe.cons e13 (EnvLe.cons e14 (EnvLe.cons e15 (EnvLe.cons e16 (EnvLe.cons e17 (EnvLe.cons e18 (EnvLe.cons e19 (EnvLe.nil _))))))))))))) (Hp.le_refl _)))) rfl obs_region))).weaken (EnvLe.cons e0 (EnvLe.cons e2 (EnvLe.cons e9 (EnvLe.cons e10 (EnvLe.cons e11 (EnvLe.cons e13 (EnvLe.cons e14 (EnvLe.cons e15 (EnvLe.cons e16 (EnvLe.cons e17 (EnvLe.nil _))))))))))) (Hp.le_refl _))))) rfl (obs_seq obs_region rfl (obs_seq obs_region rfl (obs_seq (obs_seq obs_region rfl (obs_cond (obs_seq obs_region rfl obs_ret) obs_skip)) rfl (obs_seq obs_region rfl (obs_seq obs_region rfl obs_ret)))))))))))))).weaken (EnvLe.cons e0 (EnvLe.cons e1 (EnvLe.cons e2 (EnvLe.cons e3 (EnvLe.cons e9 (EnvLe.nil _)))))) (Hp.le_refl _)))))))
def W_abacistlaw25_awake (H : Hp) (K : Value → Hp → Prop) : Prop :=
  Nw H (.row [.int .u64 1, .int .u64 2, .int .u64 3, .int .u64 4] 60 4) fun b1 H1 => HCalls Tryz.prog 8 #[.int .i64 2, .slice (some ⟨b1, 0, none⟩) 4 4, .int .i64 30] H1 fun v1 H2 => DTup v1 fun l1 => DCons l1 fun v2 l2 => DA v2 fun y1 => DCons l2 fun v3 l3 => DB v3 fun c1 => DNil l3 (Nw H2 (.obj (.cells #[.pointer none, .pointer none, .int .i64 0, .int .i64 0, .int .i64 0, .int .i64 0, .int .i64 0, .int .i64 0, .int .i64 0, .int .i64 0, .int .i64 0, .int .i64 0, .int .i64 0, .int .i64 0, .int .i64 0, .int .i64 0, .int .i64 0, .int .i64 0, .int .i64 0] 35)) fun b2 H3 => StA H3 (⟨b2, 0, none⟩ : Addr) y1 19 fun H4 => BIf (!c1) (K (.bool false) H4) (Ld H4 ((⟨b2, 0, none⟩ : Addr).add 0) fun v4 => DP v4 fun p1 => Ld H4 ((⟨b2, 0, none⟩ : Addr).add 1) fun v5 => DP v5 fun p2 => LdA H4 ((⟨b2, 0, none⟩ : Addr).add 2) 17 fun l4 => QCall Tryz.prog 10 #[.slice (some ⟨b1, 0, none⟩) 4 4] H4 fun v6 => DI .u32 v6 fun x1 => HCalls Tryz.prog 13 #[.pointer p1, .pointer p2, .agg l4.toArray, .int .i64 2, .agg #[.int .i64 2, .int .i64 2, .int .i64 0, .int .i64 0, .int .u64 0, .int .i64 1, .int .i64 0, .int .i64 3], .int .u32 x1] H4 fun v7 H5 => DTup v7 fun l5 => DCons l5 fun v8 l6 => DI .u32 v8 fun x2 => DCons l6 fun v9 l7 => DI .i64 v9 fun x3 => DNil l7 (LdA H5 (⟨b2, 0, none⟩ : Addr) 19 fun l8 => HCalls Tryz.prog 16 #[.agg l8.toArray, .int .i64 3, .int .i64 2] H5 fun v10 H6 => DTup v10 fun l9 => DCons l9 fun v11 l10 => DSl v11 fun A1 n1 m1 => DCons l10 fun v12 l11 => DB v12 fun c2 => DNil l11 (BIf (x3 == (0 : Int)) (BIf c2 (Nw H6 (.row [.int .u64 1, .int .u64 3, .int .u64 2, .int .u64 4] 60 4) fun b3 H7 => HCalls Tryz.prog 17 #[.slice A1 n1 m1, .slice (some ⟨b3, 0, none⟩) 4 4] H7 fun v13 H8 => DB v13 fun c3 => K (.bool c3) H8) (K (.bool false) H6)) (K (.bool false) H6)))))
theorem W_abacistlaw25_awake.ok (H : Hp) (K : Value → Hp → Prop) (h : W_abacistlaw25_awake H K) : HCalls Tryz.prog 5 #[] H K :=
  hcalls Tryz.func5 rfl (Nat.le_of_ble_eq_true rfl) (hw_safe (Λ := Cuts.none (fun i => match Nat.beq i 5 with | true => some ([1, 3, 5, 10], [0, 1, 0, 4, 0, 16, 0, 64, 192, 0, 512, 2047, 4095, 8191, 8191, 16383, 65535], 0) | false => none)) mixWabacistlaw25 _ _ _ _ _ (Eq.mp (by kernel_rfl) h) (obs_none _ _ _ _ _))
def W_abacistlaw25_Make.j10 (K : Value → Hp → Prop) (A2 : Option Addr) (n2 : Nat) (m2 : Nat) (a2 : Addr) (a3 : Addr) (p20 : Option Addr) (x17 : Int) (H : Hp) : Prop :=
  BIf (x17 == (0 : Int)) (BIf (!p20.isNone) ((LdA H a3 19 fun l32 => HCalls Tryz.prog 46 #[.pointer p20, .int .i64 0, .slice A2 n2 m2] H fun v42 H28 => DI .i64 v42 fun x18 => BIf (x18 == (0 : Int)) (Ld H28 (a3.add 0) fun v43 => DP v43 fun p21 => HCalls Tryz.prog 47 #[.pointer p21] H28 fun v44 H29 => DI .i64 v44 fun x19 => StA H29 a2 l32.toArray 19 fun H30 => LdA H30 a2 19 fun l53 => K (.tuple #[.agg l53.toArray, .bool (x19 == (0 : Int))]) H30) (StA H28 a2 l32.toArray 19 fun H31 => LdA H31 a2 19 fun l54 => K (.tuple #[.agg l54.toArray, .bool false]) H31)) ∧ (HCalls Tryz.prog 46 #[.pointer p20, .int .i64 0, .slice A2 n2 m2] H fun v45 H32 => DI .i64 v45 fun x20 => BIf (x20 == (0 : Int)) ((LdA H32 a3 19 fun l33 => Ld H32 (a3.add 0) fun v46 => DP v46 fun p22 => HCalls Tryz.prog 47 #[.pointer p22] H32 fun v47 H33 => DI .i64 v47 fun x21 => StA H33 a2 l33.toArray 19 fun H34 => LdA H34 a2 19 fun l55 => K (.tuple #[.agg l55.toArray, .bool (x21 == (0 : Int))]) H34) ∧ (Ld H32 (a3.add 0) fun v48 => DP v48 fun p23 => (LdA H32 a3 19 fun l34 => HCalls Tryz.prog 47 #[.pointer p23] H32 fun v49 H35 => DI .i64 v49 fun x22 => StA H35 a2 l34.toArray 19 fun H36 => LdA H36 a2 19 fun l56 => K (.tuple #[.agg l56.toArray, .bool (x22 == (0 : Int))]) H36) ∧ (HCalls Tryz.prog 47 #[.pointer p23] H32 fun v50 H37 => DI .i64 v50 fun x23 => LdA H37 a3 19 fun l35 => StA H37 a2 l35.toArray 19 fun H38 => LdA H38 a2 19 fun l57 => K (.tuple #[.agg l57.toArray, .bool (x23 == (0 : Int))]) H38))) ((LdA H32 a3 19 fun l36 => StA H32 a2 l36.toArray 19 fun H39 => LdA H39 a2 19 fun l58 => K (.tuple #[.agg l58.toArray, .bool false]) H39) ∧ ((LdA H32 a3 19 fun l37 => StA H32 a2 l37.toArray 19 fun H40 => LdA H40 a2 19 fun l59 => K (.tuple #[.agg l59.toArray, .bool false]) H40) ∧ (LdA H32 a3 19 fun l38 => StA H32 a2 l38.toArray 19 fun H41 => LdA H41 a2 19 fun l60 => K (.tuple #[.agg l60.toArray, .bool false]) H41))))) ((LdA H a3 19 fun l39 => StA H a2 l39.toArray 19 fun H42 => LdA H42 a2 19 fun l61 => K (.tuple #[.agg l61.toArray, .bool false]) H42) ∧ ((LdA H a3 19 fun l40 => StA H a2 l40.toArray 19 fun H43 => LdA H43 a2 19 fun l62 => K (.tuple #[.agg l62.toArray, .bool false]) H43) ∧ ((LdA H a3 19 fun l41 => StA H a2 l41.toArray 19 fun H44 => LdA H44 a2 19 fun l63 => K (.tuple #[.agg l63.toArray, .bool false]) H44) ∧ (LdA H a3 19 fun l42 => StA H a2 l42.toArray 19 fun H45 => LdA H45 a2 19 fun l64 => K (.tuple #[.agg l64.toArray, .bool false]) H45))))) ((LdA H a3 19 fun l43 => StA H a2 l43.toArray 19 fun H46 => LdA H46 a2 19 fun l65 => K (.tuple #[.agg l65.toArray, .bool false]) H46) ∧ ((LdA H a3 19 fun l44 => StA H a2 l44.toArray 19 fun H47 => LdA H47 a2 19 fun l66 => K (.tuple #[.agg l66.toArray, .bool false]) H47) ∧ ((LdA H a3 19 fun l45 => StA H a2 l45.toArray 19 fun H48 => LdA H48 a2 19 fun l67 => K (.tuple #[.agg l67.toArray, .bool false]) H48) ∧ (LdA H a3 19 fun l46 => StA H a2 l46.toArray 19 fun H49 => LdA H49 a2 19 fun l68 => K (.tuple #[.agg l68.toArray, .bool false]) H49))))
def W_abacistlaw25_Make (x1 : Int) (A1 : Option Addr) (n1 : Nat) (m1 : Nat) (x2 : Int) (H : Hp) (K : Value → Hp → Prop) : Prop :=
  Nw H (.obj (.cells #[.pointer none, .pointer none, .int .i64 0, .int .i64 0, .int .i64 0, .int .i64 0, .int .i64 0, .int .i64 0, .int .i64 0, .int .i64 0, .int .i64 0, .int .i64 0, .int .i64 0, .int .i64 0, .int .i64 0, .int .i64 0, .int .i64 0, .int .i64 0, .int .i64 0] 35)) fun b1 H1 => HCalls Tryz.prog 41 #[.int .i64 x1, .int .i64 32] H1 fun v1 H2 => DTup v1 fun l1 => DCons l1 fun v2 l2 => DI .i64 v2 fun x3 => DCons l2 fun v3 l3 => DI .i64 v3 fun x4 => DNil l3 (BIf (decide (x3 < (13 : Int))) (StA H2 (⟨b1, 0, none⟩ : Addr) #[.pointer none, .pointer none, .int .i64 0, .int .i64 0, .int .i64 0, .int .i64 0, .int .i64 0, .int .i64 0, .int .i64 0, .int .i64 0, .int .i64 0, .int .i64 0, .int .i64 0, .int .i64 0, .int .i64 0, .int .i64 0, .int .i64 0, .int .i64 0, .int .i64 0] 19 fun H3 => LdA H3 (⟨b1, 0, none⟩ : Addr) 19 fun l47 => K (.tuple #[.agg l47.toArray, .bool false]) H3) (HCalls Tryz.prog 21 #[.int .i64 x3, .int .i64 32] H2 fun v4 H4 => DP v4 fun p1 => HCalls Tryz.prog 42 #[.int .i64 x2] H4 fun v5 H5 => DP v5 fun p2 => Nw H5 (.obj (.cells #[.pointer none, .pointer none, .int .i64 0, .int .i64 0, .int .i64 0, .int .i64 0, .int .i64 0, .int .i64 0, .int .i64 0, .int .i64 0, .int .i64 0, .int .i64 0, .int .i64 0, .int .i64 0, .int .i64 0, .int .i64 0, .int .i64 0, .int .i64 0, .int .i64 0] 35)) fun b2 H6 => StA H6 (⟨b2, 0, none⟩ : Addr) #[.pointer p1, .pointer p2, .int .i64 0, .int .i64 0, .int .i64 0, .int .i64 0, .int .i64 0, .int .i64 0, .int .i64 0, .int .i64 0, .int .i64 0, .int .i64 0, .int .i64 0, .int .i64 0, .int .i64 0, .int .i64 0, .int .i64 0, .int .i64 0, .int .i64 0] 19 fun H7 => HCalls Tryz.prog 43 #[.int .i64 x1, .int .i64 x3, .int .i64 32] H7 fun v6 H8 => DTup v6 fun l4 => DCons l4 fun v7 l5 => DA v7 fun y1 => DCons l5 fun v8 l6 => DI .i64 v8 fun x5 => DNil l6 (Nw H8 (.obj (.cells #[.int .i64 0, .int .i64 0, .int .i64 0, .int .i64 0, .int .i64 0, .int .i64 0, .int .i64 0, .int .i64 0, .int .i64 0, .int .i64 0, .int .i64 0, .int .i64 0, .int .i64 0, .int .i64 0, .int .i64 0, .int .i64 0, .int .i64 0] 33)) fun b3 H9 => StA H9 (⟨b3, 0, none⟩ : Addr) y1 17 fun H10 => LdA H10 (⟨b3, 0, none⟩ : Addr) 17 fun l7 => StA H10 ((⟨b2, 0, none⟩ : Addr).add 2) l7.toArray 17 fun H11 => BIf (x4 != (0 : Int)) (LdA H11 (⟨b2, 0, none⟩ : Addr) 19 fun l8 => StA H11 (⟨b1, 0, none⟩ : Addr) l8.toArray 19 fun H13 => LdA H13 (⟨b1, 0, none⟩ : Addr) 19 fun l48 => K (.tuple #[.agg l48.toArray, .bool false]) H13) (BIf (x5 != (0 : Int)) (LdA H11 (⟨b2, 0, none⟩ : Addr) 19 fun l9 => StA H11 (⟨b1, 0, none⟩ : Addr) l9.toArray 19 fun H14 => LdA H14 (⟨b1, 0, none⟩ : Addr) 19 fun l49 => K (.tuple #[.agg l49.toArray, .bool false]) H14) (Ld H11 ((⟨b2, 0, none⟩ : Addr).add 0) fun v9 => DP v9 fun p3 => BIf p3.isNone (LdA H11 (⟨b2, 0, none⟩ : Addr) 19 fun l10 => StA H11 (⟨b1, 0, none⟩ : Addr) l10.toArray 19 fun H15 => LdA H15 (⟨b1, 0, none⟩ : Addr) 19 fun l50 => K (.tuple #[.agg l50.toArray, .bool false]) H15) (Ld H11 ((⟨b2, 0, none⟩ : Addr).add 1) fun v10 => DP v10 fun p4 => BIf p4.isNone (LdA H11 (⟨b2, 0, none⟩ : Addr) 19 fun l11 => StA H11 (⟨b1, 0, none⟩ : Addr) l11.toArray 19 fun H16 => LdA H16 (⟨b1, 0, none⟩ : Addr) 19 fun l51 => K (.tuple #[.agg l51.toArray, .bool false]) H16) (Ld H11 ((⟨b2, 0, none⟩ : Addr).add 0) fun v11 => DP v11 fun p5 => NN p5 fun a1 => HCalls Tryz.prog 44 #[.pointer (some (a1.add 0))] H11 fun v12 H12 => DI .i64 v12 fun x6 => BIf (x6 != x3) (LdA H12 (⟨b2, 0, none⟩ : Addr) 19 fun l12 => StA H12 (⟨b1, 0, none⟩ : Addr) l12.toArray 19 fun H17 => LdA H17 (⟨b1, 0, none⟩ : Addr) 19 fun l52 => K (.tuple #[.agg l52.toArray, .bool false]) H17) ((Ld H12 ((⟨b2, 0, none⟩ : Addr).add 0) fun v13 => DP v13 fun p6 => (HCalls Tryz.prog 42 #[.int .i64 4] H12 fun v14 H18 => DP v14 fun p7 => LdA H18 (⟨b3, 0, none⟩ : Addr) 17 fun l13 => QCall Tryz.prog 6 #[.int .i64 ((n1 : Nat) : Int)] H18 fun v15 => DI .i64 v15 fun x7 => HCalls Tryz.prog 45 #[.pointer p6, .pointer p7, .agg l13.toArray, .int .i64 0, .int .i64 x7] H18 fun v16 H19 => DTup v16 fun l14 => DCons l14 fun v17 l15 => DP v17 fun p8 => DCons l15 fun v18 l16 => DI .i64 v18 fun x8 => DNil l16 (W_abacistlaw25_Make.j10 K A1 n1 m1 (⟨b1, 0, none⟩ : Addr) (⟨b2, 0, none⟩ : Addr) p8 x8 H19)) ∧ (LdA H12 (⟨b3, 0, none⟩ : Addr) 17 fun l17 => HCalls Tryz.prog 42 #[.int .i64 4] H12 fun v19 H20 => DP v19 fun p9 => QCall Tryz.prog 6 #[.int .i64 ((n1 : Nat) : Int)] H20 fun v20 => DI .i64 v20 fun x9 => HCalls Tryz.prog 45 #[.pointer p6, .pointer p9, .agg l17.toArray, .int .i64 0, .int .i64 x9] H20 fun v21 H21 => DTup v21 fun l18 => DCons l18 fun v22 l19 => DP v22 fun p10 => DCons l19 fun v23 l20 => DI .i64 v23 fun x10 => DNil l20 (W_abacistlaw25_Make.j10 K A1 n1 m1 (⟨b1, 0, none⟩ : Addr) (⟨b2, 0, none⟩ : Addr) p10 x10 H21))) ∧ (HCalls Tryz.prog 42 #[.int .i64 4] H12 fun v24 H22 => DP v24 fun p11 => Ld H22 ((⟨b2, 0, none⟩ : Addr).add 0) fun v25 => DP v25 fun p12 => LdA H22 (⟨b3, 0, none⟩ : Addr) 17 fun l21 => QCall Tryz.prog 6 #[.int .i64 ((n1 : Nat) : Int)] H22 fun v26 => DI .i64 v26 fun x11 => HCalls Tryz.prog 45 #[.pointer p12, .pointer p11, .agg l21.toArray, .int .i64 0, .int .i64 x11] H22 fun v27 H23 => DTup v27 fun l22 => DCons l22 fun v28 l23 => DP v28 fun p13 => DCons l23 fun v29 l24 => DI .i64 v29 fun x12 => DNil l24 (W_abacistlaw25_Make.j10 K A1 n1 m1 (⟨b1, 0, none⟩ : Addr) (⟨b2, 0, none⟩ : Addr) p13 x12 H23)) ∧ (LdA H12 (⟨b3, 0, none⟩ : Addr) 17 fun l25 => (Ld H12 ((⟨b2, 0, none⟩ : Addr).add 0) fun v30 => DP v30 fun p14 => HCalls Tryz.prog 42 #[.int .i64 4] H12 fun v31 H24 => DP v31 fun p15 => QCall Tryz.prog 6 #[.int .i64 ((n1 : Nat) : Int)] H24 fun v32 => DI .i64 v32 fun x13 => HCalls Tryz.prog 45 #[.pointer p14, .pointer p15, .agg l25.toArray, .int .i64 0, .int .i64 x13] H24 fun v33 H25 => DTup v33 fun l26 => DCons l26 fun v34 l27 => DP v34 fun p16 => DCons l27 fun v35 l28 => DI .i64 v35 fun x14 => DNil l28 (W_abacistlaw25_Make.j10 K A1 n1 m1 (⟨b1, 0, none⟩ : Addr) (⟨b2, 0, none⟩ : Addr) p16 x14 H25)) ∧ (HCalls Tryz.prog 42 #[.int .i64 4] H12 fun v36 H26 => DP v36 fun p17 => Ld H26 ((⟨b2, 0, none⟩ : Addr).add 0) fun v37 => DP v37 fun p18 => QCall Tryz.prog 6 #[.int .i64 ((n1 : Nat) : Int)] H26 fun v38 => DI .i64 v38 fun x15 => HCalls Tryz.prog 45 #[.pointer p18, .pointer p17, .agg l25.toArray, .int .i64 0, .int .i64 x15] H26 fun v39 H27 => DTup v39 fun l29 => DCons l29 fun v40 l30 => DP v40 fun p19 => DCons l30 fun v41 l31 => DI .i64 v41 fun x16 => DNil l31 (W_abacistlaw25_Make.j10 K A1 n1 m1 (⟨b1, 0, none⟩ : Addr) (⟨b2, 0, none⟩ : Addr) p19 x16 H27)))))))))))
def W_abacistlaw25_Make.Λ (K : Value → Hp → Prop) : Cuts := ⟨fun i => match Nat.beq i 10 with | true => some (fun E D H => DG (E.get? 1) fun w1 => DSl w1 fun A2 n2 m2 => eN E 6 fun a2 => eN E 10 fun a3 => eP E 13 fun p20 => eI E 14 .i64 fun x17 => DNilD D (W_abacistlaw25_Make.j10 K A2 n2 m2 a2 a3 p20 x17 H)) | false => none, fun i => none, (fun i => match Nat.beq i 10 with | true => some ([], [0, 0, 2, 6, 14, 30, 62, 126, 254, 254, 1022, 2046, 4094, 8190, 16382, 32766, 65534, 131070, 262142, 131071, 1048575], 0) | false => match Nat.beq i 9 with | true => some ([1, 3, 6], [0, 1, 0, 0, 0, 16, 52, 127, 255, 511, 511, 1023, 4095], 0) | false => none)⟩
theorem W_abacistlaw25_Make.ok (x1 : Int) (A1 : Option Addr) (n1 : Nat) (m1 : Nat) (x2 : Int) (H : Hp) (K : Value → Hp → Prop) (h : W_abacistlaw25_Make x1 A1 n1 m1 x2 H K) : HCalls Tryz.prog 8 #[.int .i64 x1, .slice A1 n1 m1, .int .i64 x2] H K :=
  hcalls Tryz.func8 rfl (Nat.le_of_ble_eq_true rfl) (hw_safe (Λ := (W_abacistlaw25_Make.Λ K)) mixWabacistlaw25 _ _ _ _ _ (Eq.mp (by kernel_rfl) h) (obs_seq obs_region rfl (obs_seq obs_region rfl (obs_seq (obs_seq obs_region rfl (obs_cond (obs_seq obs_region rfl obs_ret) obs_skip)) rfl (obs_seq obs_region rfl (obs_seq obs_region rfl (obs_seq obs_region rfl (obs_seq (obs_seq obs_region rfl (obs_cond (obs_seq obs_region rfl obs_ret) obs_skip)) rfl (obs_seqc obs_region rfl (fun E D H h => by
      obtain ⟨w1, e1, g1⟩ := DG.out h
      obtain ⟨A2, n2, m2, rfl, g2⟩ := DSl.out g1
      obtain ⟨a2, e6, g5⟩ := GN g2; obtain ⟨a3, e10, g8⟩ := GN g5; obtain ⟨p20, e13, g10⟩ := GP g8; obtain ⟨x17, e14, g12⟩ := GI g10; obtain ⟨rfl, h'⟩ := DNilD.out g12
      exact (hw_safe (Λ := (W_abacistlaw25_Make.Λ K)) mixWabacistlaw25 _ _ [(1, .slice A2 n2 m2), (6, .pointer (some a2)), (10, .pointer (some a3)), (13, .pointer p20), (14, .int .i64 x17)] [] H (Eq.mp (by kernel_rfl) h') (obs_seq obs_region rfl obs_ret)).weaken (EnvLe.cons e1 (EnvLe.cons e6 (EnvLe.cons e10 (EnvLe.cons e13 (EnvLe.cons e14 (EnvLe.nil _)))))) (Hp.le_refl _)))))))))))
def W_abacistlaw25_Words.j2 (K : Value → Hp → Prop) (x9 : Int) (p17 : Option Addr) (x10 : Int) (H : Hp) : Prop :=
  (0 ≤ (IntKind.u64.wrap x9) ∧ MkS Tryz.prog 60 (shlI .i64 (1 : Int) (IntKind.u64.wrap x9)) (shlI .i64 (1 : Int) (IntKind.u64.wrap x9)) H fun v29 H13 => DSl v29 fun A1 n1 m1 => BIf (x10 != (0 : Int)) (K (.tuple #[.slice none 0 0, .bool false]) H13) (BIf p17.isNone (K (.tuple #[.slice none 0 0, .bool false]) H13) (HCalls Tryz.prog 59 #[.pointer p17, .int .i64 0, .slice A1 n1 m1] H13 fun v30 H14 => DI .i64 v30 fun x11 => BIf (x11 != (0 : Int)) (K (.tuple #[.slice none 0 0, .bool false]) H14) (K (.tuple #[.slice A1 n1 m1, .bool true]) H14))))
def W_abacistlaw25_Words (y1 : Array Value) (x1 : Int) (x2 : Int) (H : Hp) (K : Value → Hp → Prop) : Prop :=
  Nw H (.obj (.cells y1 35)) fun b1 H1 => (Ld H1 ((⟨b1, 0, none⟩ : Addr).add 0) fun v1 => DP v1 fun p1 => (HCalls Tryz.prog 42 #[.int .i64 4] H1 fun v2 H2 => DP v2 fun p2 => LdA H2 ((⟨b1, 0, none⟩ : Addr).add 2) 17 fun l1 => HCalls Tryz.prog 45 #[.pointer p1, .pointer p2, .agg l1.toArray, .int .i64 x1, .int .i64 x2] H2 fun v3 H3 => DTup v3 fun l2 => DCons l2 fun v4 l3 => DP v4 fun p3 => DCons l3 fun v5 l4 => DI .i64 v5 fun x3 => DNil l4 (W_abacistlaw25_Words.j2 K x2 p3 x3 H3)) ∧ (LdA H1 ((⟨b1, 0, none⟩ : Addr).add 2) 17 fun l5 => HCalls Tryz.prog 42 #[.int .i64 4] H1 fun v6 H4 => DP v6 fun p4 => HCalls Tryz.prog 45 #[.pointer p1, .pointer p4, .agg l5.toArray, .int .i64 x1, .int .i64 x2] H4 fun v7 H5 => DTup v7 fun l6 => DCons l6 fun v8 l7 => DP v8 fun p5 => DCons l7 fun v9 l8 => DI .i64 v9 fun x4 => DNil l8 (W_abacistlaw25_Words.j2 K x2 p5 x4 H5))) ∧ (HCalls Tryz.prog 42 #[.int .i64 4] H1 fun v10 H6 => DP v10 fun p6 => (Ld H6 ((⟨b1, 0, none⟩ : Addr).add 0) fun v11 => DP v11 fun p7 => LdA H6 ((⟨b1, 0, none⟩ : Addr).add 2) 17 fun l9 => HCalls Tryz.prog 45 #[.pointer p7, .pointer p6, .agg l9.toArray, .int .i64 x1, .int .i64 x2] H6 fun v12 H7 => DTup v12 fun l10 => DCons l10 fun v13 l11 => DP v13 fun p8 => DCons l11 fun v14 l12 => DI .i64 v14 fun x5 => DNil l12 (W_abacistlaw25_Words.j2 K x2 p8 x5 H7)) ∧ (LdA H6 ((⟨b1, 0, none⟩ : Addr).add 2) 17 fun l13 => Ld H6 ((⟨b1, 0, none⟩ : Addr).add 0) fun v15 => DP v15 fun p9 => HCalls Tryz.prog 45 #[.pointer p9, .pointer p6, .agg l13.toArray, .int .i64 x1, .int .i64 x2] H6 fun v16 H8 => DTup v16 fun l14 => DCons l14 fun v17 l15 => DP v17 fun p10 => DCons l15 fun v18 l16 => DI .i64 v18 fun x6 => DNil l16 (W_abacistlaw25_Words.j2 K x2 p10 x6 H8))) ∧ (LdA H1 ((⟨b1, 0, none⟩ : Addr).add 2) 17 fun l17 => (Ld H1 ((⟨b1, 0, none⟩ : Addr).add 0) fun v19 => DP v19 fun p11 => HCalls Tryz.prog 42 #[.int .i64 4] H1 fun v20 H9 => DP v20 fun p12 => HCalls Tryz.prog 45 #[.pointer p11, .pointer p12, .agg l17.toArray, .int .i64 x1, .int .i64 x2] H9 fun v21 H10 => DTup v21 fun l18 => DCons l18 fun v22 l19 => DP v22 fun p13 => DCons l19 fun v23 l20 => DI .i64 v23 fun x7 => DNil l20 (W_abacistlaw25_Words.j2 K x2 p13 x7 H10)) ∧ (HCalls Tryz.prog 42 #[.int .i64 4] H1 fun v24 H11 => DP v24 fun p14 => Ld H11 ((⟨b1, 0, none⟩ : Addr).add 0) fun v25 => DP v25 fun p15 => HCalls Tryz.prog 45 #[.pointer p15, .pointer p14, .agg l17.toArray, .int .i64 x1, .int .i64 x2] H11 fun v26 H12 => DTup v26 fun l21 => DCons l21 fun v27 l22 => DP v27 fun p16 => DCons l22 fun v28 l23 => DI .i64 v28 fun x8 => DNil l23 (W_abacistlaw25_Words.j2 K x2 p16 x8 H12)))
def W_abacistlaw25_Words.Λ (K : Value → Hp → Prop) : Cuts := ⟨fun i => match Nat.beq i 2 with | true => some (fun E D H => eI E 2 .i64 fun x9 => eP E 8 fun p17 => eI E 9 .i64 fun x10 => DNilD D (W_abacistlaw25_Words.j2 K x9 p17 x10 H)) | false => none, fun i => none, (fun i => match Nat.beq i 1 with | true => some ([], [0, 1, 0, 0, 8, 0, 0, 127, 255, 511, 511, 1023, 4095], 0) | false => none)⟩
theorem W_abacistlaw25_Words.ok (y1 : Array Value) (x1 : Int) (x2 : Int) (H : Hp) (K : Value → Hp → Prop) (h : W_abacistlaw25_Words y1 x1 x2 H K) : HCalls Tryz.prog 16 #[.agg y1, .int .i64 x1, .int .i64 x2] H K :=
  hcalls Tryz.func16 rfl (Nat.le_of_ble_eq_true rfl) (hw_safe (Λ := (W_abacistlaw25_Words.Λ K)) mixWabacistlaw25 _ _ _ _ _ (Eq.mp (by kernel_rfl) h) (obs_seq obs_region rfl (obs_seqc obs_region rfl (fun E D H h => by
      obtain ⟨x9, e2, g2⟩ := GI h; obtain ⟨p17, e8, g4⟩ := GP g2; obtain ⟨x10, e9, g6⟩ := GI g4; obtain ⟨rfl, h'⟩ := DNilD.out g6
      exact (hw_safe (Λ := (W_abacistlaw25_Words.Λ K)) mixWabacistlaw25 _ _ [(2, .int .i64 x9), (8, .pointer p17), (9, .int .i64 x10)] [] H (Eq.mp (by kernel_rfl) h') (obs_seq obs_region rfl (obs_seq (obs_seq obs_region rfl (obs_cond (obs_seq obs_region rfl obs_ret) obs_skip)) rfl (obs_seq obs_region rfl obs_ret)))).weaken (EnvLe.cons e2 (EnvLe.cons e8 (EnvLe.cons e9 (EnvLe.nil _)))) (Hp.le_refl _)))))
end Go.Proofs.YtnknippcbecmeaaGreatDoor.W
end
section
/- law 25: a rig; an extent's words. -/
namespace Go.Proofs.YtnknippcbecmeaaGreatDoor.Eng
open Go Go.Hw Go.Form W Shp Dsk Str Are Trn Ker Fft Pas Pln
structure Rg (d : D) (c : Cn) (kk : Nat) : Prop where
  cl : Clean d c
  fz : d.fuse = 0
  sec : d.sec = Lay.needN kk 4
  size : d.size = 32
theorem Rg.per {d : D} {c : Cn} {kk : Nat} (h : Rg d c kk) : D.per d = 4 := by unfold D.per; rw [h.size]
theorem room8 {kk : Nat} (h : kk ≤ 8) : 1 ≤ Lay.roomN kk 4 ∧ Lay.roomN kk 4 ≤ 64 := by
  have h1 : 2 ^ kk ≤ 2 ^ 8 := Nat.pow_le_pow_right (by omega) h
  unfold Lay.roomN; omega
theorem Rg.lay {d : D} {c : Cn} {kk : Nat} (h : Rg d c kk) (hk : kk ≤ 8) : LayOk d kk := by
  refine ⟨by omega, ?_, ?_⟩
  · rw [h.per]; decide
  · rw [h.per, h.sec]; exact Nat.le_refl _
section
variable {p dp ap : Nat} {d : D} {c : Cn} {x : X} {cap : Nat} {peak : Int} (hc : Clean d c) (hf : d.fuse = 0) (hx : On d x) (ho : d.rd ≤ 1000000000 ∧ d.wr ≤ 1000000000) (hcap : D.per d ≤ cap) (hpk : peak ≤ cap)
include hc hf hx ho hcap
theorem write_calm {R : As} {A : Option Addr} {n m : Nat} {src : List UInt64} (hn : n = src.length) (hw : src.length = x.w) (hm : n ≤ m) (hR : ∀ H, R H → Cells H A (wordVals src)) :
    Tr Tryz.prog 46 #[.pointer (some ⟨p, 0, none⟩), .int .i64 0, .slice A n m] [pts p (pipO dp ap x), Dk dp d, Ar ap cap peak [], R] fun v M =>
      ∃ d1 r w peak', Prog (inX x) d d1 r w ∧ r ≤ n ∧ w ≤ n ∧ pws d1 x 0 x.w = src ∧ v = .int .i64 0 ∧ M = [pts p (pipO dp ap x), Dk dp d1, Ar ap cap peak' [], R] := fun H hs => by
  subst hn
  have h1 := hx.w1
  refine (WriteG_tr (p := p) (dp := dp) (ap := ap) (cap := cap) (peak := peak) (bufs := []) hc.ok hc.down hx (by omega) 0 rfl (by omega) (by omega) hm (by rw [sumB_nil]; omega) hR H hs).mono ?_
  rintro v H1 ⟨M, ⟨hP, rfl, rfl⟩ | ⟨d', hD, hfu, _, _⟩, hs⟩
  · have hpl := pcs_len (D.per d) x.f src.length 0 src.length
    have hpr : pcsR (D.per d) x.f src.length 0 src.length ≤ (pcs (D.per d) x.f src.length 0 src.length).length := List.length_filter_le _ _
    exact ⟨_, ⟨_, _, _, _, hP, by omega, hpl, by rw [← hw]; exact wrs_all x hc.ok src, rfl, rfl⟩, hs⟩
  · have h1 := hD.cnt
    have h2 := hD.rd
    have h3 := hD.wr
    omega
theorem read_calm {b n : Nat} (hn : n = x.w) :
    Tr Tryz.prog 59 #[.pointer (some ⟨p, 0, none⟩), .int .i64 0, .slice (some ⟨b, 0, none⟩) n n] [pts p (pipO dp ap x), Dk dp d, Ar ap cap peak [], pts b (.row (wordVals (List.replicate n 0)) 60 n)] fun v M =>
      ∃ t peak', t ≤ n ∧ v = .int .i64 0 ∧ M = [pts p (pipO dp ap x), Dk dp (D.rdG d t), Ar ap cap peak' [], pts b (.row (wordVals (cws c (D.per d) x.f n)) 60 n)] := fun H hs => by
  have h1 := hx.w1
  refine (ReadG_tr (p := p) (dp := dp) (ap := ap) (cap := cap) (peak := peak) (bufs := []) (rl := b) (off := 0) (mm := n) hc.ok hc.down hx (by omega) 0 n n (by omega) (by omega) (Nat.le_refl _) (by rw [wordVals_length, List.length_replicate]; omega) (by rw [sumB_nil]; omega) H hs).mono ?_
  rintro v H1 ⟨M, ⟨_, rfl, rfl⟩ | ⟨j, xs', hj, hf2, _, _, _⟩, hs⟩
  · rw [pws_cws hc.now x n, zeros_set n _ (cws_len _ _ _ _)] at hs
    exact ⟨_, ⟨_, _, pcs_len _ _ _ _ _, rfl, rfl⟩, hs⟩
  · omega
end
theorem sync_calm {dp : Nat} {d0 d : D} {c : Cn} {x : X} {r w : Nat} (hc : Clean d0 c) (hf : d0.fuse = 0) (hx : On d0 x) (hP : Prog (inX x) d0 d r w) (ho : d0.sy ≤ 1000000000) :
    Tr Tryz.prog 47 #[.pointer (some ⟨dp, 0, none⟩)] [Dk dp d] fun v M => Went d0 d.syncD r w 1 ∧ Clean d.syncD d.now ∧ v = .int .i64 0 ∧ M = [Dk dp d.syncD] := fun H hs => by
  refine (Sync_tr (p := dp) hP.ok (by rw [hP.sy]; omega) H hs).mono ?_
  rintro v H1 ⟨M, ⟨rfl, rfl⟩, hs⟩
  rcases hc.sync hP (inX_on hx) with ⟨e0, hw2, hc2⟩ | ⟨_, hcut, _⟩
  · rw [e0]; exact ⟨_, ⟨hw2, hc2, rfl, rfl⟩, hs⟩
  · exact (hcut.calm hf).elim
def rigV (dp ap kk : Nat) : Array Value := (Value.pointer (some ⟨dp, 0, none⟩) :: Value.pointer (some ⟨ap, 0, none⟩) :: (Lay.layV kk 4).toList).toArray
theorem rfits_pow {k : Nat} (hk : k ≤ 32) : rfitsN ((2 ^ k : Nat) : Int) = k := by unfold rfitsN; rw [lg_pow hk]
theorem Words_tr {dp ap : Nat} {d : D} {c : Cn} {kk i k : Nat} (hg : Rg d c kk) (hkk : kk ≤ 8) (hk : k ≤ kk) (hi : i < 4) (ho : d.rd ≤ 100000000 ∧ d.wr ≤ 100000000) :
    Tr Tryz.prog 16 #[.agg (rigV dp ap kk), .int .i64 (i : Int), .int .i64 (k : Int)] [Dk dp d] fun v M =>
      ∃ b t, t ≤ 2 ^ k ∧ v = .tuple #[.slice (some ⟨b, 0, none⟩) (2 ^ k) (2 ^ k), .bool true] ∧ M = [Dk dp (D.rdG d t), pts b (.row (wordVals (cws c 4 (exX kk 4 i k).f (2 ^ k))) 60 (2 ^ k))] := fun H hs => by
  have hlay := hg.lay hkk
  have hper := hg.per
  have h2k : 2 ^ k ≤ 2 ^ 8 := Nat.pow_le_pow_right (by omega) (by omega)
  have hx := hlay.on hg.cl.ok hi hk
  rw [hper] at hx
  apply W_abacistlaw25_Words.ok
  unfold W_abacistlaw25_Words
  refine hs.nw fun b1 H hs => ?_
  have j2 : ∀ q a4 H, Sep [Dk dp d, pts q (pipO dp a4 (exX kk 4 i k)), Ar a4 4 0 []] H → W_abacistlaw25_Words.j2 (fun v H' => ∃ M, (∃ b t, t ≤ 2 ^ k ∧ v = .tuple #[.slice (some ⟨b, 0, none⟩) (2 ^ k) (2 ^ k), .bool true] ∧ M = [Dk dp (D.rdG d t), pts b (.row (wordVals (cws c 4 (exX kk 4 i k).f (2 ^ k))) 60 (2 ^ k))]) ∧ Sep M H') (k : Int) (some ⟨q, 0, none⟩) 0 H := fun q a4 H hs => by
    unfold W_abacistlaw25_Words.j2
    rw [u64n (n := k) (by omega), Lay.shl_one (by omega)]
    refine ⟨Int.natCast_nonneg k, ?_⟩
    refine hs.mks Ker.cell_u64 rfl (n := 2 ^ k) (m := 2 ^ k) rfl rfl (Nat.le_refl _) (by omega) (by omega) fun b H hs => ?_
    simp only [HV]
    rw [show zeroRow (#[Value.int .u64 0] : Array Value).toList (2 ^ k) = wordVals (List.replicate (2 ^ k) 0) from zeros_u64 _, Nat.mul_one] at hs
    refine BIf_bnen rfl (BIf_neg rfl ?_)
    refine (read_calm (p := q) (dp := dp) (ap := a4) (x := exX kk 4 i k) (cap := 4) (peak := 0) (b := b) (n := 2 ^ k) hg.cl hg.fz hx (by omega) (by omega) rfl).use hs [1, 0, 2, 3] rfl rfl ?_
    rintro _ _ H ⟨t, pk, ht, rfl, rfl⟩ hs
    simp only [HV]
    refine BIf_bnen rfl ?_
    rw [hper] at hs
    exact ⟨_, ⟨b, t, ht, rfl, rfl⟩, hs.re [1, 3] rfl⟩
  have eb : (((rigV dp ap kk).toList.drop 2).take 17).toArray = Lay.layV kk 4 := rfl
  try simp only [NN_some, Addr.add_lit', Addr.add_zero, Nat.zero_add, Nat.add_zero]
  have hS : (rigV dp ap kk).size = 19 := rfl
  have hpt := fun a => Pipe_tr (dp := dp) (ap := a) hg.cl.ok hlay hi hk
  simp only [hper] at hpt
  repeat' first
    | exact j2 _ _ _ (hs.re [0, 1, 2] rfl)
    | refine ⟨?_, ?_⟩
    | refine hs.ld 1 (v := .pointer (some ⟨dp, 0, none⟩)) rfl rfl ?_
    | refine hs.ld 2 (v := .pointer (some ⟨dp, 0, none⟩)) rfl rfl ?_
    | (refine hs.lda 1 (off := 2) (n := 17) rfl (by rw [hS]; omega) ?_; rw [eb])
    | (refine hs.lda 2 (off := 2) (n := 17) rfl (by rw [hS]; omega) ?_; rw [eb])
    | (refine (Are.New_tr ((4 : Nat) : Int) (by omega)).use hs [] rfl rfl ?_; rintro _ _ H ⟨a4, rfl, rfl⟩ hs)
    | (refine (hpt _).use hs [1] rfl rfl ?_; rintro _ _ H ⟨q, rfl, rfl⟩ hs)
    | (simp only [HV]; try simp only [NN_some, Addr.add_lit', Addr.add_zero, Nat.zero_add, Nat.add_zero])
end Go.Proofs.YtnknippcbecmeaaGreatDoor.Eng
end
section
/- law 25: Make. -/
namespace Go.Proofs.YtnknippcbecmeaaGreatDoor.Eng
open Go Go.Hw Go.Form W Shp Dsk Str Are Trn Ker Fft Pas Pln
structure Rig (d : D) (c : Cn) (kk k : Nat) (l : List UInt64) : Prop where
  rg : Rg d c kk
  cw : cws c 4 9 (2 ^ k) = l
  rd : d.rd ≤ 1000
  wr : d.wr ≤ 1000
  sy : d.sy ≤ 1000
def rigZ : Array Value := (Value.pointer none :: Value.pointer none :: List.replicate 17 (.int .i64 0)).toArray
theorem Make_tr {kk k words : Nat} {A : Option Addr} {n m : Nat} {l : List UInt64} {R : As} (hkk : kk ≤ 8) (hk : k ≤ kk) (hl : l.length = 2 ^ k) (hn : n = l.length) (hm : n ≤ m) (hw : 1 ≤ words ∧ words ≤ 1000) (hR : ∀ H, R H → Cells H A (wordVals l)) :
    Tr Tryz.prog 8 #[.int .i64 (kk : Int), .slice A n m, .int .i64 (words : Int)] [R] fun v M =>
      ∃ dp ap d c, v = .tuple #[.agg (rigV dp ap kk), .bool true] ∧ Rig d c kk k l ∧ M = [Dk dp d, Ar ap words 0 [], R] := fun H hs => by
  have hroom := room8 hkk
  have h2k : 2 ^ k ≤ 2 ^ 8 := Nat.pow_le_pow_right (by omega) (by omega)
  have hp32 : Lay.perN (32 : Int) = 4 := by decide
  have hneed : Lay.needN kk 4 = 9 + 4 * Lay.roomN kk 4 := rfl
  have eN : Lay.NeedV (kk : Int) 32 = (((Lay.needN kk 4 : Nat) : Int), 0) := by unfold Lay.NeedV; rw [if_pos ⟨by omega, by omega, by decide⟩, Int.toNat_natCast, hp32]
  have eO : Lay.OfV (kk : Int) ((Lay.needN kk 4 : Nat) : Int) 32 = (Lay.layV kk 4, 0) := by
    unfold Lay.OfV; rw [if_pos ⟨by omega, by omega, by decide⟩, Int.toNat_natCast, hp32, if_neg (by omega)]
  have hcl := Clean.fresh (sec := Lay.needN kk 4) (size := 32) (by omega) (by decide) (by omega)
  have hg0 : Rg (D.fresh (Lay.needN kk 4) 32) (fun _ => List.replicate 32 0) kk := ⟨hcl, rfl, rfl, rfl⟩
  have hlay := hg0.lay hkk
  have hper := hg0.per
  have hx := hlay.on hcl.ok (i := 0) (k := k) (by omega) hk
  rw [hper] at hx
  have hxf : (exX kk 4 0 k).f = 9 := by show 9 + 0 * _ = 9; omega
  have hxw : (exX kk 4 0 k).w = 2 ^ k := rfl
  have hsize : (rigV 0 0 kk).size = 19 := rfl
  apply W_abacistlaw25_Make.ok
  unfold W_abacistlaw25_Make
  refine hs.nw fun b1 H hs => ?_
  refine HCalls.use (Lay.Need_ok (kk : Int) 32 H) ?_
  rw [eN]
  simp only [HV]
  refine BIf_dneg (by omega) ?_
  refine (Dsk.New_tr (Lay.needN kk 4) 32 (by omega) (by decide) (by omega)).use hs [] rfl rfl ?_
  rintro _ _ H ⟨dp, rfl, rfl⟩ hs
  simp only [HV]
  refine (Are.New_tr (words : Int) (by omega)).use hs [] rfl rfl ?_
  rintro _ _ H ⟨ap, rfl, rfl⟩ hs
  simp only [HV]
  generalize hd0 : D.fresh (Lay.needN kk 4) 32 = d0 at *
  refine hs.nw fun b2 H hs => ?_
  refine hs.stw 4 rfl rfl rfl rfl fun H hs => ?_
  refine HCalls.use (Lay.Of_ok (kk : Int) ((Lay.needN kk 4 : Nat) : Int) 32 H) ?_
  rw [eO]
  simp only [HV]
  refine hs.nw fun b3 H hs => ?_
  refine hs.stw 5 rfl rfl rfl rfl fun H hs => ?_
  refine hs.ldw 5 rfl rfl ?_
  try simp only [NN_some, Addr.add_lit', Addr.add_zero, Nat.zero_add, Nat.add_zero]
  refine hs.sta 4 (off := 2) (n := 17) rfl (by show 2 + 17 ≤ 19; omega) rfl rfl fun H hs => ?_
  have hs : Sep [Ar ap words 0 [], Dk dp d0, R, pts b1 (.obj (.cells (rigZ) 35)), pts b2 (.obj (.cells (rigV dp ap kk) 35)), pts b3 (.obj (.cells (Lay.layV kk 4) 33))] H := hs
  refine BIf_bnen rfl (BIf_bnen rfl ?_)
  have hS : (rigV dp ap kk).size = 19 := rfl
  have hwr : ∀ q a4, Tr Tryz.prog 46 #[.pointer (some ⟨q, 0, none⟩), .int .i64 0, .slice A n m] [pts q (pipO dp a4 (exX kk 4 0 k)), Dk dp d0, Ar a4 ((4 : Nat) : Int) 0 [], R] _ := fun q a4 => write_calm (p := q) (dp := dp) (ap := a4) (x := exX kk 4 0 k) (cap := 4) (peak := 0) hcl hg0.fz hx (by rw [← hd0]; exact ⟨Nat.zero_le _, Nat.zero_le _⟩) (by rw [hper]; omega) hn (by rw [hl]; rfl) hm hR
  have hpt := fun a => Pipe_tr (dp := dp) (ap := a) hcl.ok hlay (i := 0) (by omega) hk
  simp only [hper] at hpt
  have hfit : rfitsN (n : Int) = (k : Int) := by rw [hn, hl]; exact rfits_pow (by omega)
  have fin : ∀ d1 r w b2' T H, Prog (inX (exX kk 4 0 k)) d0 d1 r w → Went d0 d1.syncD r w 1 → Clean d1.syncD d1.now → r ≤ n → w ≤ n → pws d1 (exX kk 4 0 k) 0 (exX kk 4 0 k).w = l → b2' = rigV dp ap kk → Sep ([Dk dp d1.syncD, Ar ap words 0 [], R] ++ T) H →
      ∃ M, (∃ dp' ap' d c, (Value.tuple #[.agg b2', .bool true]) = .tuple #[.agg (rigV dp' ap' kk), .bool true] ∧ Rig d c kk k l ∧ M = [Dk dp' d, Ar ap' words 0 [], R]) ∧ Sep M H := fun d1 r w b2' T H hP hW hC hr hw hpw hb hs => by
    have h1 := hW.rd
    have h2 := hW.wr
    have h3 := hW.sy
    have h4 := hW.fuse
    have h5 := hg0.fz
    have h6 : d0.rd = 0 ∧ d0.wr = 0 ∧ d0.sy = 0 := by rw [← hd0]; exact ⟨rfl, rfl, rfl⟩
    refine ⟨_, ⟨dp, ap, _, _, by rw [hb], ⟨⟨hC, by omega, hW.sec.trans hg0.sec, hW.size.trans hg0.size⟩, ?_, by omega, by omega, by omega⟩, rfl⟩, Sep.take hs⟩
    rw [← hpw, hxw, ← hxf]
    have e2 : D.per d1 = 4 := hP.per.trans hper
    rw [← e2]
    exact (pws_cws (fun _ => rfl) (exX kk (D.per d1) 0 k) (2 ^ k)).symm
  have j10 : ∀ q a4 H, Sep [Dk dp d0, pts q (pipO dp a4 (exX kk 4 0 k)), Ar a4 4 0 [], Ar ap words 0 [], R, pts b1 (.obj (.cells rigZ 35)), pts b2 (.obj (.cells (rigV dp ap kk) 35)), pts b3 (.obj (.cells (Lay.layV kk 4) 33))] H →
      W_abacistlaw25_Make.j10 (fun v H' => ∃ M, (∃ dp ap d c, v = .tuple #[.agg (rigV dp ap kk), .bool true] ∧ Rig d c kk k l ∧ M = [Dk dp d, Ar ap words 0 [], R]) ∧ Sep M H') A n m ⟨b1, 0, none⟩ ⟨b2, 0, none⟩ (some ⟨q, 0, none⟩) 0 H := fun q a4 H hs => by
    unfold W_abacistlaw25_Make.j10
    refine BIf_beqp rfl (BIf_pos rfl ?_)
    repeat' first
      | exact fin _ _ _ _ [] _ hP hW hC hr hw hpw rfl (hs.re [0, 4, 3] rfl)
      | (refine (hwr _ _).use hs [1, 0, 2, 4] rfl rfl ?_; rintro _ _ H ⟨d1, r, w, pk, hP, hr, hw, hpw, rfl, rfl⟩ hs)
      | refine BIf_beqp rfl ?_
      | (refine (sync_calm (dp := dp) hcl hg0.fz hx hP (by rw [← hd0]; exact Nat.zero_le _)).use hs [1] rfl rfl ?_; rintro _ _ H ⟨hW, hC, rfl, rfl⟩ hs)
      | (refine hs.ldw 6 rfl hS ?_; try rw [Array.toArray_toList])
      | (refine hs.ldw 5 rfl hS ?_; try rw [Array.toArray_toList])
      | refine hs.ld 6 (v := .pointer (some ⟨dp, 0, none⟩)) rfl rfl ?_
      | refine hs.stw 5 (y := rigV dp ap kk) rfl rfl rfl rfl fun H hs => ?_
      | (simp only [HV]; try simp only [NN_some, Addr.add_lit', Addr.add_zero, Nat.zero_add, Nat.add_zero])
      | refine ⟨?_, ?_⟩
  try simp only [NN_some, Addr.add_lit', Addr.add_zero, Nat.zero_add, Nat.add_zero]
  refine hs.ld 4 (v := .pointer (some ⟨dp, 0, none⟩)) rfl rfl ?_
  simp only [HV]
  refine BIf_neg rfl ?_
  refine hs.ld 4 (v := .pointer (some ⟨ap, 0, none⟩)) rfl rfl ?_
  simp only [HV]
  refine BIf_neg rfl ?_
  refine hs.ld 4 (v := .pointer (some ⟨dp, 0, none⟩)) rfl rfl ?_
  simp only [HV]
  try simp only [NN_some, Addr.add_lit', Addr.add_zero, Nat.zero_add, Nat.add_zero]
  refine HCalls.use (Sectors_s hs 1 rfl) ?_
  simp only [HV]
  refine BIf_bnen (by rw [← hd0]; rfl) ?_
  have hq : ∀ (H : Hp) (K : Value → Prop), K (.int .i64 (k : Int)) → QCall Tryz.prog 6 #[.int .i64 (n : Int)] H K := fun H K h => by
    refine QCall.use (rFits_ok (n : Int) H) ?_
    rw [hfit]; exact h
  repeat' first
    | exact j10 _ _ _ (hs.re [0, 1, 2, 3, 4, 5, 6, 7] rfl)
    | refine hs.ld 4 (v := .pointer (some ⟨dp, 0, none⟩)) rfl rfl ?_
    | refine hs.ld 5 (v := .pointer (some ⟨dp, 0, none⟩)) rfl rfl ?_
    | (refine hs.ldw 5 rfl rfl ?_; try rw [Array.toArray_toList])
    | (refine hs.ldw 6 rfl rfl ?_; try rw [Array.toArray_toList])
    | (refine (Are.New_tr ((4 : Nat) : Int) (by omega)).use hs [] rfl rfl ?_; rintro _ _ H ⟨a4, rfl, rfl⟩ hs)
    | refine hq _ _ ?_
    | (refine (hpt _).use hs [2] rfl rfl ?_; rintro _ _ H ⟨q, rfl, rfl⟩ hs)
    | (simp only [HV]; try simp only [NN_some, Addr.add_lit', Addr.add_zero, Nat.zero_add, Nat.add_zero])
    | refine ⟨?_, ?_⟩
end Go.Proofs.YtnknippcbecmeaaGreatDoor.Eng
end
section
/- law 25: its first look; the plan's chain. -/
namespace Go.Proofs.YtnknippcbecmeaaGreatDoor.Eng
open Go Go.Hw Go.Form W Shp Dsk Str Are Trn Ker Fft Pas Pln
theorem ldr {L : List As} {H : Hp} (h : Sep L H) (i : Nat) {b m : Nat} {xs : List Value} {e : TypeId} (hi : L[i]? = some (pts b (.row xs e m))) {j s : Nat} (hj : j * s + s ≤ xs.length) {ys : List Value} (hy : (xs.drop (j * s)).take s = ys) {K : List Value → Prop} (k : K ys) : LdA H ⟨b, j * s, none⟩ s K := by
  unfold LdA
  rw [cells_row (h.get i hi) (j * s) s 0 (by omega), Nat.add_zero, hy]
  exact k
theorem CostL.uniq {most k words : Nat} {ps : List Pz} {cs cs' : List O3} (h : CostL most k words ps cs) (h' : CostL most k words ps cs') : cs = cs' := List.ext_getElem? fun i => by
  by_cases hi : i < ps.length
  · have h1 : i < cs.length := by rw [h.1]; exact hi
    have h2 : i < cs'.length := by rw [h'.1]; exact hi
    obtain ⟨r, w, hc, ho, _⟩ := h.2 i _ _ (List.getElem?_eq_getElem hi) (List.getElem?_eq_getElem h1)
    obtain ⟨r', w', hc', ho', _⟩ := h'.2 i _ _ (List.getElem?_eq_getElem hi) (List.getElem?_eq_getElem h2)
    obtain ⟨rfl, rfl⟩ := hc.unique hc'
    rw [List.getElem?_eq_getElem h1, List.getElem?_eq_getElem h2, ho, ho']
  · rw [List.getElem?_eq_none (by rw [h.1]; omega), List.getElem?_eq_none (by rw [h'.1]; omega)]
def chn : List Pz → Nat → Prop
  | [], e => e = 3
  | p :: ps, e => p.f = e ∧ chn ps p.o
theorem chn_plan (d : Bool) (k per words : Nat) : chn (planL d k per words) 0 := by
  unfold planL
  split
  · exact ⟨rfl, rfl⟩
  · exact ⟨rfl, rfl, rfl, rfl, rfl, rfl⟩
theorem Rg.went {d d' : D} {c c' : Cn} {kk : Nat} {r w s : Nat} (h : Rg d c kk) (hw : Went d d' r w s) (hc : Clean d' c') : Rg d' c' kk := ⟨hc, hw.calm h.fz, hw.sec.trans h.sec, hw.size.trans h.size⟩
theorem nS_room (k : Nat) : nS 4 (2 ^ k) = Lay.roomN k 4 := by
  have := Nat.two_pow_pos k
  unfold nS Lay.roomN; omega
def pz0 : Pz := ⟨true, ⟨1, 1, false, 0, 0⟩, 0, 3⟩
theorem pz0_ok : PzOk pz0 2 4 30 := ⟨by decide, by decide, by decide, by decide, fun _ => by decide, fun h => (by cases h)⟩
theorem pz0_ap : pz0.ap [1, 2, 3, 4] = [1, 3, 2, 4] := by decide
theorem awake25_ok (H : Hp) (hT : T64 H) : HCalls Tryz.prog 5 #[] H (RetE (.bool true) H) := HCalls.ret (by
  apply W_abacistlaw25_awake.ok
  unfold W_abacistlaw25_awake
  refine (Sep.start H).nw fun b1 H1 hs => ?_
  have hs : Sep [own H, pts b1 (.row (wordVals [1, 2, 3, 4]) 60 4)] H1 := hs
  have hR : ∀ H, pts b1 (.row (wordVals [1, 2, 3, 4]) 60 4) H → Cells H (some ⟨b1, 0, none⟩) (wordVals [1, 2, 3, 4]) := fun H h => Cells.row h 0 4
  refine (Make_tr (kk := 2) (k := 2) (words := 30) (A := some ⟨b1, 0, none⟩) (n := 4) (m := 4) (l := [1, 2, 3, 4]) (by omega) (by omega) rfl rfl (by omega) (by omega) hR).use hs [1] rfl rfl ?_
  rintro _ _ H1 ⟨dp, ap, d, c, rfl, hg, rfl⟩ hs
  simp only [HV]
  have hper := hg.rg.per
  have hlay := hg.rg.lay (by omega)
  refine hs.nw fun b2 H1 hs => ?_
  refine hs.stw 4 (y := rigV dp ap 2) rfl rfl rfl rfl fun H1 hs => ?_
  have hs : Sep [Dk dp d, Ar ap ((30 : Nat) : Int) 0 [], pts b1 (.row (wordVals [1, 2, 3, 4]) 60 4), own H, pts b2 (.obj (.cells (rigV dp ap 2) 35))] H1 := hs
  try simp only [NN_some, Addr.add_lit', Addr.add_zero, Nat.zero_add, Nat.add_zero]
  refine hs.ld 4 (v := .pointer (some ⟨dp, 0, none⟩)) rfl rfl ?_
  simp only [HV]
  refine hs.ld 4 (v := .pointer (some ⟨ap, 0, none⟩)) rfl rfl ?_
  simp only [HV]
  refine hs.lda 4 (off := 2) (n := 17) rfl (by show 2 + 17 ≤ 19; omega) ?_
  have eb : (((rigV dp ap 2).toList.drop 2).take 17).toArray = Lay.layV 2 4 := rfl
  rw [eb]
  refine QCall.use (CrcP.rOfWords_ok (some ⟨b1, 0, none⟩) 4 4 [1, 2, 3, 4] rfl (by omega) H1 (Cells.row (hs.get 2 rfl) 0 4)) ?_
  simp only [HV]
  have hdo := Do_tr (dp := dp) (ap := ap) (d := d) (c := c) (most := 2) (k := 2) (pz := pz0) (cap := 30) (peak := 0) (TT := own H) (fun H1 h => hT.le h) hg.rg.cl hlay (by omega) (by have h1 := hg.rd; have h2 := hg.wr; have h3 := hg.sy; omega) (by omega) (by omega) (by rw [hper]; exact pz0_ok)
  have hcw : cws c 4 (exX 2 4 pz0.f 2).f (2 ^ 2) = [1, 2, 3, 4] := hg.cw
  unfold doP at hdo
  simp only [hper, hcw, pz0_ap] at hdo
  refine hdo.use hs [0, 1, 3] rfl rfl ?_
  rintro _ _ H1 ⟨peak', hpk', r, w, hcost, ⟨d', c', hgo, hcl', hsam, hcw', rfl, rfl⟩ | ⟨d', hcut, _⟩⟩ hs
  · simp only [HV]
    refine hs.ldw 4 rfl rfl ?_
    try simp only [Array.toArray_toList]
    have hle := CostP_le hcost pz0_ok.k
    have h1 := hgo.rd
    have h2 := hgo.wr
    have h3 := hg.rd
    have h4 := hg.wr
    have h5 : nS 4 (2 ^ 2) = 1 := by decide
    have h6 : 2 ^ 2 = 4 := rfl
    refine (Words_tr (dp := dp) (ap := ap) (kk := 2) (i := 3) (k := 2) (hg.rg.went hgo hcl') (by omega) (by omega) (by omega) (by omega)).use hs [0] rfl rfl ?_
    rintro _ _ H1 ⟨b, t, ht, rfl, rfl⟩ hs
    simp only [HV]
    refine BIf_beqp rfl ?_
    refine hs.nw fun b3 H1 hs => ?_
    have hcw2 : cws c' 4 (exX 2 4 3 2).f (2 ^ 2) = [1, 3, 2, 4] := hcw'
    rw [hcw2] at hs
    refine HCalls.use (SameU_ok (some ⟨b, 0, none⟩) (some ⟨b3, 0, none⟩) 4 4 4 4 [1, 3, 2, 4] rfl rfl (by omega) H1 (Cells.row (hs.get 1 rfl) 0 4) (Cells.row (hs.get 6 (o := .row (wordVals [1, 3, 2, 4]) 60 4) rfl) 0 4)) ?_
    simp only [HV]
    exact hs.fin 3 rfl _
  · exact (hcut.calm hg.rg.fz).elim)
end Go.Proofs.YtnknippcbecmeaaGreatDoor.Eng
end
