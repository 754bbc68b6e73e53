/- The frame of the proofs, third part: operations that turn memory, calls. -/
import Derived.Test.YtbnhfcdagoigkaaHwB
import Derived.Deep.AppendSrc
set_option maxRecDepth 100000
set_option linter.unusedSimpArgs false
set_option linter.unusedVariables false
set_option linter.unnecessarySimpa false
set_option linter.unusedSectionVars false
namespace Go.Hw
open Go

def zeroRow (z : List Value) : Nat → List Value
  | 0 => []
  | n + 1 => z ++ zeroRow z n

theorem zeroRow_length (z : List Value) : ∀ n, (zeroRow z n).length = n * z.length
  | 0 => by simp [zeroRow]
  | n + 1 => by simp [zeroRow, zeroRow_length z n, Nat.succ_mul]; omega

theorem zeroRow_add (z : List Value) : ∀ a b, zeroRow z (a + b) = zeroRow z a ++ zeroRow z b
  | 0, b => by simp [zeroRow]
  | a + 1, b => by rw [Nat.add_right_comm]; simp [zeroRow, zeroRow_add z a b]

theorem zeroRow_one (v : Value) : ∀ n, zeroRow [v] n = List.replicate n v
  | 0 => rfl
  | n + 1 => by simp [zeroRow, zeroRow_one v n, List.replicate_succ]

theorem range_zeros (z : Array Value) : ∀ n : Nat, (List.range (n * z.size)).map (fun x => z[x % z.size]!) = zeroRow z.toList n
  | 0 => by simp [zeroRow]
  | n + 1 => by
    rw [Nat.succ_mul, Nat.add_comm (n * z.size) z.size, List.range_add, List.map_append]
    congr 1
    · apply List.ext_getElem
      · simp
      · intro i h1 h2
        simp at h1 h2
        simp [Nat.mod_eq_of_lt h2, h2]
    · rw [List.map_map, ← range_zeros z n]
      apply List.map_congr_left
      intro x _
      simp

theorem range_cells (z : Array Value) (m n : Nat) (h : z.size = m) : ((Array.range (n * m)).map (fun x => z[x % z.size]!)) = (zeroRow z.toList n).toArray := by
  subst h
  rw [← range_zeros]
  apply Array.ext'
  simp

theorem size_newRow {P : Program} (e : TypeId) (c : Array Value) (w : World) : (newRow e c).run P w = .ok ⟨w.heap.size, 0, none⟩ (w.alloc (.cells c e)) := by
  simp [newRow]

def MkS (P : Program) (e : TypeId) (l c : Int) (H : Hp) (K : Value → Hp → Prop) : Prop :=
  match P.info? e with
  | some i => match i.zero with
    | some z => match Nat.beq z.cells.size i.size with
      | true => 0 ≤ l ∧ l ≤ c ∧ (i.bytes : Int) * c ≤ 140737488355328 ∧ c ≤ 9223372036854775807 ∧ Nw H (.row (zeroRow z.cells.toList l.toNat) e (c.toNat * i.size)) fun b H' => K (.slice (some ⟨b, 0, none⟩) l.toNat c.toNat) H'
      | false => False
    | none => False
  | none => False

theorem wrap_i64_id {x : Int} (h0 : -9223372036854775808 ≤ x) (h1 : x ≤ 9223372036854775807) : IntKind.i64.wrap x = x := by
  exact IntWalk.i64_in x ⟨h0, h1⟩

theorem MkS_sound {P : Program} {t e : TypeId} {l c : Int} {k k' : IntKind} {H0 H : Hp} {w0 w : World} {K : Value → Hp → Prop} (hu : P.underlying t = some (.slice e)) (h : MkS P e l c H K) (hA : At H0 w0 H w) :
    ∃ v H' w', (Instr.makeSlice t (.int k l) (.int k' c)).run P w = .ok v w' ∧ K v H' ∧ At H0 w0 H' w' := by
  unfold MkS at h
  cases hi : P.info? e with
  | none => rw [hi] at h; exact h.elim
  | some i =>
  rw [hi] at h
  simp only at h
  cases hz : i.zero with
  | none => rw [hz] at h; exact h.elim
  | some z =>
  rw [hz] at h
  simp only at h
  cases hb : Nat.beq z.cells.size i.size with
  | false => rw [hb] at h; exact h.elim
  | true =>
  rw [hb] at h
  simp only at h
  obtain ⟨h0, h1, h2, h3, h⟩ := h
  have hzs : z.cells.size = i.size := Nat.eq_of_beq_eq_true hb
  have hwl := wrap_i64_id (x := l) (by omega) (by omega)
  have hwc := wrap_i64_id (x := c) (by omega) (by omega)
  have hc : l.toNat + (c.toNat - l.toNat) = c.toNat := by omega
  have hrow : (AO.row (zeroRow z.cells.toList l.toNat) e (c.toNat * i.size)).holds (.cells (zeroRow z.cells.toList c.toNat).toArray e) := by
    refine ⟨zeroRow z.cells.toList (c.toNat - l.toNat), 0, 0, by rw [← zeroRow_add, hc], ?_, .inl rfl⟩
    rw [← zeroRow_add, hc, zeroRow_length]; simp [hzs]
  obtain ⟨hn, hA'⟩ := hA.new hrow
  refine ⟨_, _, _, ?_, h _ hn, hA'⟩
  have hbig : ¬ ((i.bytes : Int) * c > 281474976710656) := by omega
  have hlt : ¬ (c < 0) := by omega
  have hll : ¬ (l < 0) := by omega
  have hlc : ¬ (l > c) := by omega
  have hcond : (((decide (c < 0) || decide ((i.bytes : Int) * c > 281474976710656)) || decide (l < 0) || decide (l > c)) = true) = False := by simp [hlt, hll]; omega
  simp only [Instr.makeSlice, Sem.run_bind, underlying_run hu, Result.andThen_ok, asInt, asIntOf, Sem.run_pure, typeInfo_run hi, hwl, hwc]
  simp only [show (2 : Int) ^ 48 = 281474976710656 from rfl]
  rw [if_neg (by rw [hcond]; exact id)]
  simp only [run_askRoom, Result.andThen_ok, Sem.run_bind, sizeOf_run hi]
  by_cases hz0 : c.toNat * i.size = 0
  · rw [if_pos hz0]
    simp only [Sem.run_bind, Sem.run_pure, Result.andThen_ok, size_newRow]
    have : (Array.map (fun x => (#[] : Array Value)[x % (#[] : Array Value).size]!) (Array.range (c.toNat * i.size))) = (zeroRow z.cells.toList c.toNat).toArray := by
      rw [hz0]
      have : (zeroRow z.cells.toList c.toNat) = [] := by
        apply List.eq_nil_of_length_eq_zero; rw [zeroRow_length]; simp [hzs, hz0]
      rw [this]; simp
    rw [this]
  · rw [if_neg hz0]
    simp only [Sem.run_bind, zeroValue, typeInfo_run hi, hz, Sem.run_pure, Result.andThen_ok, size_newRow, range_cells _ _ _ hzs]

/-! ## Cells in a row -/

def Hp.puts? (H : Hp) (a : Addr) : (i : Nat) → List Value → Option Hp
  | _, [] => some H
  | i, v :: l => match H.put? (a.add i) v with | some H' => H'.puts? a (i + 1) l | none => none

theorem puts_run {P : Program} {H0 : Hp} {w0 : World} (a : Addr) : ∀ (l : List Value) (i : Nat) (H H' : Hp) (w : World), At H0 w0 H w → H.puts? a i l = some H' → ∃ w', (storeCells a l i).run P w = .ok () w' ∧ At H0 w0 H' w'
  | [], i, H, H', w, hA, h => by simp [Hp.puts?] at h; subst h; exact ⟨w, by simp [storeCells], hA⟩
  | v :: l, i, H, H', w, hA, h => by
    unfold Hp.puts? at h
    split at h
    · rename_i H1 h1
      obtain ⟨⟨u, hu⟩, hf, hv, hA'⟩ := hA.put h1
      obtain ⟨w', hr, hA''⟩ := puts_run a l (i + 1) H1 H' _ hA' h
      refine ⟨w', ?_, hA''⟩
      simp only [storeCells, Sem.run_bind, run_store P w _ v _ hv, hu, hf, Bool.false_eq_true, if_false, Result.andThen_ok]
      exact hr
    · cases h

def lenV : Value → Option Nat
  | .slice _ n _ => some n
  | .string s => some s.size
  | _ => none

def byteVals (l : List UInt8) : List Value := l.map fun b => .int .u8 (b.toNat : Int)

def srcCells (H : Hp) (size n : Nat) : Value → Option (List Value)
  | .slice (some a) _ _ => H.cells? a 0 (n * size)
  | .slice none _ _ => some []
  | .string s => some (byteVals (s.extract 0 n).data.toList)
  | _ => none

theorem lenV_run {P : Program} {x : Value} {n : Nat} (h : lenV x = some n) (w : World) : (Builtin.lenOf x).run P w = .ok n w := by
  cases x <;> simp_all [lenV, Builtin.lenOf]

theorem src_run {P : Program} {H : Hp} {w : World} (hw : Fits H w) {size n : Nat} {x : Value} {ys : List Value} (h : srcCells H size n x = some ys) : (Builtin.firstCells size n x).run P w = .ok ys.toArray w := by
  unfold srcCells at h
  split at h
  · simp only [Builtin.firstCells, loadCells]
    rw [cells_run hw _ _ _ _ _ h]; simp
  · cases h; simp [Builtin.firstCells]
  · cases h
    simp only [Builtin.firstCells, Sem.run_pure, byteVals]
    congr 1
    apply Array.ext'
    simp
  · cases h

/-- A copy. -/
def CpK (P : Program) (e : TypeId) (d x : Value) (H : Hp) (K : Value → Hp → Prop) : Prop :=
  match d with
  | .slice base dLen _ =>
    match P.info? e with
    | some i => ∃ m ys H', lenV x = some m ∧ srcCells H i.size (Nat.min m dLen) x = some ys ∧ (match base with | some a => H.puts? a 0 ys = some H' | none => H' = H) ∧ K (.int .i64 (Nat.min m dLen : Nat)) H'
    | none => False
  | _ => False

theorem CpK_sound {P : Program} {t t' ty e : TypeId} {d x : Value} {H0 H : Hp} {w0 w : World} {K : Value → Hp → Prop} (hu : P.underlying t = some (.slice e)) (h : CpK P e d x H K) (hA : At H0 w0 H w) :
    ∃ v H' w', (Builtin.copy_ #[t, t'] ty #[d, x]).run P w = .ok v w' ∧ K v H' ∧ At H0 w0 H' w' := by
  unfold CpK at h
  cases d <;> try exact h.elim
  rename_i base dLen cap
  simp only at h
  cases hi : P.info? e with
  | none => rw [hi] at h; exact h.elim
  | some i =>
  rw [hi] at h
  obtain ⟨m, ys, H', hm, hs, hb, hk⟩ := h
  have hrun : ∀ w', (Builtin.copy_ #[t, t'] ty #[.slice base dLen cap, x]).run P w = .ok (goInt (Nat.min m dLen : Nat)) w' ↔ ((match base with | some a => storeCells a ys | none => pure () : Sem Unit) >>= fun _ => pure (goInt (Nat.min m dLen : Nat))).run P w = .ok (goInt (Nat.min m dLen : Nat)) w' := by
    intro w'
    have hs' := src_run (P := P) hA.fits hs
    cases base <;> simp [Builtin.copy_, underlying_run hu, lenV_run hm, sizeOf_run hi, hs']
  cases base with
  | none =>
    simp only at hb; subst hb
    exact ⟨_, _, w, (hrun w).2 (by simp), hk, hA⟩
  | some a =>
    simp only at hb
    obtain ⟨w', hr, hA'⟩ := puts_run (P := P) a ys 0 H H' w hA hb
    exact ⟨_, _, w', (hrun w').2 (by simp [hr]), hk, hA'⟩

/-- The bytes of a string, as a slice. -/
def StB (e : TypeId) (s : ByteArray) (H : Hp) (K : Value → Hp → Prop) : Prop :=
  s.size ≤ 4611686018427387904 ∧ ∀ c, s.size ≤ c → Nw H (.row (byteVals s.data.toList) e c) fun b H' => K (.slice (some ⟨b, 0, none⟩) s.size c) H'

theorem StB_sound {P : Program} {e : TypeId} {s : ByteArray} {H0 H : Hp} {w0 w : World} {K : Value → Hp → Prop} (h : StB e s H K) (hA : At H0 w0 H w) :
    ∃ v H' w', (Conv.stringToBytes e s).run P w = .ok v w' ∧ K v H' ∧ At H0 w0 H' w' := by
  obtain ⟨hs, h⟩ := h
  have hq : (Question.appendCap s.size 0 e).forced = false := rfl
  let c := (Question.appendCap s.size 0 e).cut (w.tape w.drawn (Question.appendCap s.size 0 e))
  have hc : s.size ≤ c := by simp only [c, Question.cut]; omega
  have hA1 := hA.drew
  let row := byteVals s.data.toList ++ List.replicate (c - s.size) (Value.int .u8 0)
  have hlen : row.length = c := by simp only [row, byteVals, List.length_append, List.length_map, Array.length_toList, List.length_replicate]; have : s.data.size = s.size := rfl; omega
  have hrow : (AO.row (byteVals s.data.toList) e c).holds (.cells row.toArray e) := ⟨_, 0, 0, rfl, hlen, .inl rfl⟩
  obtain ⟨hn, hA2⟩ := hA1.new hrow
  obtain ⟨u, H', w', hr, hk, hA3⟩ := ef_sound (P := P) (markStringish ⟨w.heap.size, 0, none⟩) (K := fun _ H' => H' = H.set w.heap.size (.row (byteVals s.data.toList) e c)) (by
    simp only [markStringish, shape, bind, Sem.bind, ef, Sh, Hp.set_same, freeze, Fz, pure, and_self]) hA2
  subst hk
  refine ⟨_, _, w', ?_, h c hc _ hn, hA3⟩
  have hcells : (Array.map (fun b => Value.int IntKind.u8 (b.toNat : Int)) s.data ++ Array.replicate (c - s.size) (Value.int IntKind.u8 0)) = row.toArray := by
    apply Array.ext'; simp [row, byteVals]
  simp only [Conv.stringToBytes, Sem.run_bind, run_choose, hq, Bool.false_eq_true, if_false, Result.andThen_ok]
  rw [show (Question.appendCap s.size 0 e).cut (w.tape w.drawn (Question.appendCap s.size 0 e)) = c from rfl, hcells]
  simp only [size_newRow, Result.andThen_ok]
  rw [hr]
  rfl

/-- An append onto a row of the call's own, or onto nil. -/
def AppK (P : Program) (e : TypeId) (s x : Value) (H : Hp) (K : Value → Hp → Prop) : Prop :=
  match s with
  | .slice base len cap =>
    match P.info? e with
    | some i => ∃ n ys, lenV x = some n ∧ srcCells H i.size n x = some ys ∧ ys.length = n * i.size ∧ ys.all (·.oneCell') = true ∧ i.bytes ≤ 1073741824 ∧ (len + n) * i.bytes ≤ 35184372088832 ∧ (len + n) ≤ 35184372088832 ∧ (∃ z, i.zero = some z ∧ z.cells.size = i.size) ∧
      ((base = none ∧ len = 0 ∧ cap = 0 ∧ (n = 0 → K (.slice none 0 0) H) ∧ (0 < n → ∀ c, n ≤ c → Nw H (.row ys e (c * i.size)) fun b H' => K (.slice (some ⟨b, 0, none⟩) n c) H')) ∨
       ∃ b0 xs m, base = some ⟨b0, 0, none⟩ ∧ H b0 = some (.row xs e m) ∧ xs.length = len * i.size ∧ cap * i.size ≤ m ∧
         ∀ c m', c * i.size ≤ m' → len + n ≤ c → Nw (H.erase b0) (.row (xs ++ ys) e m') fun b H' => K (.slice (some ⟨b, 0, none⟩) (len + n) c) H')
    | none => False
  | _ => False

theorem next_le (need cap : Nat) (h : cap < need) : Builtin.nextslicecap need cap ≤ 2 * need + 1024 := by
  have hg : ∀ r c, c < need → Builtin.growBy need r c ≤ 2 * need + 1024 := by
    intro r
    induction r with
    | zero => intro c hc; simp only [Builtin.growBy]; omega
    | succ r ih =>
      intro c hc
      simp only [Builtin.growBy]
      rw [if_neg (by omega)]
      by_cases h2 : c + (c + 768) / 4 < need
      · exact ih _ h2
      · have : Builtin.growBy need r (c + (c + 768) / 4) = c + (c + 768) / 4 := by
          cases r with
          | zero => rfl
          | succ r => simp only [Builtin.growBy]; rw [if_pos (by omega)]
        rw [this]; omega
  have := hg 4 cap h
  unfold Builtin.nextslicecap
  split
  · omega
  · split <;> omega

theorem setCells_row (b : Nat) (e : TypeId) (fr : Nat × Nat) : ∀ (vs xs sp : List Value) (w : World), w.heap[b]? = some (.cells (xs ++ sp).toArray e fr) → vs.length ≤ sp.length →
    (w.setCells b xs.length vs).heap[b]? = some (.cells (xs ++ vs ++ sp.drop vs.length).toArray e fr) ∧ (w.setCells b xs.length vs).heap.size = w.heap.size ∧ (w.setCells b xs.length vs).os = w.os ∧ (w.setCells b xs.length vs).tape = w.tape ∧
    (w.setCells b xs.length vs).output = w.output ∧ ∀ c, c ≠ b → (w.setCells b xs.length vs).heap[c]? = w.heap[c]?
  | [], xs, sp, w, h, _ => ⟨by simpa [World.setCells] using h, rfl, rfl, rfl, rfl, fun _ _ => rfl⟩
  | v :: vs, xs, [], w, h, hl => by simp at hl
  | v :: vs, xs, s :: sp, w, h, hl => by
    have h1 : (w.setCell ⟨b, xs.length, none⟩ v).heap[b]? = some (.cells ((xs ++ [v]) ++ sp).toArray e fr) := by
      unfold World.setCell
      refine (getElem?_modify_self h).trans ?_
      simp
    have h2 := setCells_row b e fr vs (xs ++ [v]) sp (w.setCell ⟨b, xs.length, none⟩ v) h1 (by simpa using hl)
    simp only [List.length_append, List.length_singleton] at h2
    simp only [World.setCells]
    obtain ⟨q1, q2, q3, q4, q5, q6⟩ := h2
    refine ⟨by rw [q1]; simp, by rw [q2]; simp, q3, q4, q5, fun c hc => (q6 c hc).trans (heap_setCell_other _ _ _ _ hc)⟩

theorem erase_le (H : Hp) (b : Nat) : (H.erase b).le H := fun c o h => by
  unfold Hp.erase at h; split at h
  · cases h
  · exact h

theorem erase_set (H : Hp) (b : Nat) (o : AO) : (H.erase b).set b o = H.set b o := by
  funext c; unfold Hp.set Hp.erase; split <;> simp_all

theorem cells_row {H : Hp} {b : Nat} {xs : List Value} {e : TypeId} {m : Nat} (h : H b = some (.row xs e m)) (off : Nat) : ∀ (n i : Nat), off + i + n ≤ xs.length → H.cells? ⟨b, off, none⟩ i n = some ((xs.drop (off + i)).take n)
  | 0, i, _ => by simp [Hp.cells?]
  | n + 1, i, hl => by
    have hc : H.cell? (Addr.add ⟨b, off, none⟩ i) = some (xs[off + i]'(by omega)) := by
      have hb : (Addr.add ⟨b, off, none⟩ i) = ⟨b, off + i, none⟩ := by unfold Addr.add; split <;> simp_all
      rw [hb]; unfold Hp.cell?; simp [h]
    unfold Hp.cells?
    rw [hc]
    simp only
    rw [cells_row h off n (i + 1) (by omega)]
    simp only [Option.some.injEq]
    rw [List.drop_eq_getElem_cons (i := off + i) (by omega), List.take_succ_cons]
    rfl

theorem zeroCells_eq (z : Array Value) (n : Nat) : (Builtin.zeroCells z n).toList = zeroRow z.toList n := by
  rw [← range_zeros]; simp [Builtin.zeroCells]

theorem AppK_sound {P : Program} {t t' ty e : TypeId} {s x : Value} {H0 H : Hp} {w0 w : World} {K : Value → Hp → Prop} (hu : P.underlying t = some (.slice e))
    (hu' : (∃ e', P.underlying t' = some (.slice e')) ∨ P.underlying t' = some .string) (h : AppK P e s x H K) (hA : At H0 w0 H w) :
    ∃ v H' w', (Builtin.append_ #[t, t'] ty #[s, x]).run P w = .ok v w' ∧ K v H' ∧ At H0 w0 H' w' := by
  unfold AppK at h
  cases s <;> try exact h.elim
  rename_i base len cap
  simp only at h
  cases hi : P.info? e with
  | none => rw [hi] at h; exact h.elim
  | some i =>
  rw [hi] at h
  obtain ⟨n, ys, hn, hs, hyl, hone, hby, hbd, hbd2, ⟨z, hz, hzs⟩, h⟩ := h
  have hSrc : Src P i.size t' x n ys w := ⟨hu', fun w' => lenV_run hn w', src_run hA.fits hs, src_run (w := w.drew) hA.fits hs, hyl, fun u hu => (List.all_eq_true.1 hone) u hu⟩
  have grow : ∀ olds, cap < len + n → (Builtin.firstCells i.size len (.slice base len cap)).run P w.drew = .ok olds.toArray w.drew → ∃ c, len + n ≤ c ∧
      (Builtin.append_ #[t, t'] ty #[.slice base len cap, x]).run P w = .ok (.slice (some ⟨w.heap.size, 0, none⟩) (len + n) c) (w.drew.alloc (.cells ((olds ++ ys).toArray ++ Builtin.zeroCells z.cells (c - (len + n))) e)) := by
    intro olds hlt hold
    refine ⟨_, grownCap_ge w (len + n) cap e, run_append_grow_src w t t' ty e i z hu hi hz base len cap olds hold x n ys hSrc hlt (by omega) ?_⟩
    have h1 := next_le (len + n) cap hlt
    have h2 : Builtin.nextslicecap (len + n) cap * i.bytes ≤ (2 * (len + n) + 1024) * i.bytes := Nat.mul_le_mul_right _ h1
    have h4 : (2 * (len + n) + 1024) * i.bytes = 2 * ((len + n) * i.bytes) + 1024 * i.bytes := by rw [Nat.add_mul, Nat.mul_assoc]
    omega
  rcases h with ⟨rfl, rfl, rfl, h1, h2⟩ | ⟨b0, xs, m, rfl, hb, hxl, hcm, h⟩
  · by_cases h0 : n = 0
    · subst h0
      refine ⟨.slice none 0 0, H, w, ?_, h1 rfl, hA⟩
      rcases hSrc.kind with ⟨e', hk⟩ | hk <;> simp [Builtin.append_, run_underlying hu, run_underlying hk, sizeOf, typeInfo, hi, hSrc.len, hSrc.cells]
    · obtain ⟨c, hc, hr⟩ := grow [] (by omega) (by simp [Builtin.firstCells])
      have hrow : (AO.row ys e (c * i.size)).holds (.cells (([] ++ ys).toArray ++ Builtin.zeroCells z.cells (c - (0 + n))) e) := by
        refine ⟨zeroRow z.cells.toList (c - (0 + n)), 0, 0, ?_, ?_, .inl rfl⟩
        · congr 1; apply Array.ext'; simp [zeroCells_eq]
        · rw [List.length_append, zeroRow_length, hyl]; simp only [Array.length_toList, hzs]
          rw [← Nat.add_mul]; congr 1; omega
      obtain ⟨hn', hA'⟩ := hA.drew.new hrow
      refine ⟨_, _, _, hr, ?_, hA'⟩
      have := h2 (by omega) c (by omega) _ hn'
      rw [Nat.zero_add]; exact this
  · have hbl : H.cells? ⟨b0, 0, none⟩ 0 (len * i.size) = some xs := by
      rw [cells_row hb 0 (len * i.size) 0 (by omega), ← hxl]; simp
    by_cases hlt : cap < len + n
    · obtain ⟨c, hc, hr⟩ := grow xs hlt (by simp only [Builtin.firstCells, loadCells]; rw [cells_run (P := P) (w := w.drew) (H := H) hA.fits _ _ _ _ _ hbl]; simp)
      have hrow : (AO.row (xs ++ ys) e (c * i.size)).holds (.cells ((xs ++ ys).toArray ++ Builtin.zeroCells z.cells (c - (len + n))) e) := by
        refine ⟨zeroRow z.cells.toList (c - (len + n)), 0, 0, ?_, ?_, .inl rfl⟩
        · congr 1; apply Array.ext'; simp [zeroCells_eq]
        · rw [List.length_append, List.length_append, zeroRow_length, hyl, hxl]; simp only [Array.length_toList, hzs]
          rw [← Nat.add_mul, ← Nat.add_mul]; congr 1; omega
      obtain ⟨hn', hA'⟩ := (hA.drew.weaken (erase_le H b0)).new hrow
      exact ⟨_, _, _, hr, h c _ (Nat.le_refl _) hc _ hn', hA'⟩
    · obtain ⟨o', ho, sp, lo, hi', rfl, hl, hf⟩ := hA.fits _ _ hb
      have hroom : len + n ≤ cap := by omega
      have hsz : (len + n) * i.size ≤ cap * i.size := Nat.mul_le_mul_right _ hroom
      rw [Nat.add_mul] at hsz
      have hspl : ys.length ≤ sp.length := by rw [List.length_append] at hl; omega
      have hr := run_append_room_src w t t' ty e i hu hi b0 0 len cap x n ys hSrc hroom (fun j hj => by
          unfold World.cell?; rw [ho]
          have : 0 + len * i.size + j < (xs ++ sp).length := by omega
          simp; rw [List.length_append] at this; omega) (fun j hj => by
          unfold World.frozen?; rw [ho]; simp; omega)
      have hset := setCells_row b0 e (lo, hi') ys xs sp w ho hspl
      rw [Nat.zero_add, ← hxl] at hr
      have hA' := hA.turn (w' := w.setCells b0 xs.length ys) hb (o' := .row (xs ++ ys) e m) hset.1 ⟨sp.drop ys.length, lo, hi', rfl, by
        rw [List.length_append] at hl ⊢; rw [List.length_append, List.length_drop]; omega, hf⟩ hset.2.1 hset.2.2.1 hset.2.2.2.1 hset.2.2.2.2.1 hset.2.2.2.2.2
      have hk := h cap m hcm hroom b0 (by simp [Hp.erase])
      rw [erase_set] at hk
      exact ⟨_, _, _, hr, hk, hA'⟩

end Go.Hw
