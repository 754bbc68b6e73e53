/- The frame of the proofs: numbers of fixed width, cells in a row, arrays. -/
import Derived.Test.YtbnhfcdagoigkaaHwL
set_option maxRecDepth 100000
set_option linter.unusedSimpArgs false
set_option linter.unusedVariables false
set_option linter.unnecessarySimpa false
set_option linter.unusedSectionVars false
namespace Go.Hw
open Go

/-! ## Unsigned numbers as bit vectors -/

theorem ofInt32 (x : BitVec 32) : BitVec.ofInt 32 (x.toNat : Int) = x := by rw [BitVec.ofInt_natCast, BitVec.ofNat_toNat, BitVec.setWidth_eq]
theorem ofInt64 (x : BitVec 64) : BitVec.ofInt 64 (x.toNat : Int) = x := by rw [BitVec.ofInt_natCast, BitVec.ofNat_toNat, BitVec.setWidth_eq]
theorem ofInt8 (x : BitVec 8) : BitVec.ofInt 8 (x.toNat : Int) = x := by rw [BitVec.ofInt_natCast, BitVec.ofNat_toNat, BitVec.setWidth_eq]
theorem wrap32 (x : BitVec 32) : IntKind.u32.wrap (x.toNat : Int) = x.toNat := u32n (by have := x.isLt; omega)
theorem wrap64 (x : BitVec 64) : IntKind.u64.wrap (x.toNat : Int) = x.toNat := u64n (by have := x.isLt; omega)
theorem wrap8 (x : BitVec 8) : IntKind.u8.wrap (x.toNat : Int) = x.toNat := u8n (by have := x.isLt; omega)
theorem xor32 (x y : BitVec 32) : bXor .u32 (x.toNat : Int) (y.toNat : Int) = ((x ^^^ y).toNat : Int) := by
  unfold bXor; rw [show IntKind.u32.bits = 32 from rfl, ofInt32, ofInt32]; exact wrap32 _
theorem and32 (x y : BitVec 32) : bAnd .u32 (x.toNat : Int) (y.toNat : Int) = ((x &&& y).toNat : Int) := by
  unfold bAnd; rw [show IntKind.u32.bits = 32 from rfl, ofInt32, ofInt32]; exact wrap32 _
theorem or32 (x y : BitVec 32) : bOr .u32 (x.toNat : Int) (y.toNat : Int) = ((x ||| y).toNat : Int) := by
  unfold bOr; rw [show IntKind.u32.bits = 32 from rfl, ofInt32, ofInt32]; exact wrap32 _
theorem xor64 (x y : BitVec 64) : bXor .u64 (x.toNat : Int) (y.toNat : Int) = ((x ^^^ y).toNat : Int) := by
  unfold bXor; rw [show IntKind.u64.bits = 64 from rfl, ofInt64, ofInt64]; exact wrap64 _
theorem and64 (x y : BitVec 64) : bAnd .u64 (x.toNat : Int) (y.toNat : Int) = ((x &&& y).toNat : Int) := by
  unfold bAnd; rw [show IntKind.u64.bits = 64 from rfl, ofInt64, ofInt64]; exact wrap64 _
theorem or64 (x y : BitVec 64) : bOr .u64 (x.toNat : Int) (y.toNat : Int) = ((x ||| y).toNat : Int) := by
  unfold bOr; rw [show IntKind.u64.bits = 64 from rfl, ofInt64, ofInt64]; exact wrap64 _
theorem xor8 (x y : BitVec 8) : bXor .u8 (x.toNat : Int) (y.toNat : Int) = ((x ^^^ y).toNat : Int) := by
  unfold bXor; rw [show IntKind.u8.bits = 8 from rfl, ofInt8, ofInt8]; exact wrap8 _

theorem fdiv_pow (a : Nat) (n : Nat) : Int.fdiv (a : Int) (2 ^ n) = ((a >>> n : Nat) : Int) := by
  rw [show ((2 : Int) ^ n) = ((2 ^ n : Nat) : Int) by simp, Nat.shiftRight_eq_div_pow]
  exact (Int.ofNat_fdiv a (2 ^ n)).symm

theorem shr32 (x : BitVec 32) {i : Int} {n : Nat} (h : i = n) (hn : n ≤ 32) : shrI .u32 (x.toNat : Int) i = ((x >>> n).toNat : Int) := by
  subst h
  unfold shrI
  rw [Int.toNat_natCast, show IntKind.u32.bits = 32 from rfl, Nat.min_eq_left hn, fdiv_pow, BitVec.toNat_ushiftRight]
theorem shr64 (x : BitVec 64) {i : Int} {n : Nat} (h : i = n) (hn : n ≤ 64) : shrI .u64 (x.toNat : Int) i = ((x >>> n).toNat : Int) := by
  subst h
  unfold shrI
  rw [Int.toNat_natCast, show IntKind.u64.bits = 64 from rfl, Nat.min_eq_left hn, fdiv_pow, BitVec.toNat_ushiftRight]
theorem shrNat {k : IntKind} (a : Nat) {i : Int} {n : Nat} (h : i = n) (hn : n ≤ k.bits) : shrI k (a : Int) i = ((a >>> n : Nat) : Int) := by
  subst h
  unfold shrI
  rw [Int.toNat_natCast, Nat.min_eq_left hn, fdiv_pow]
theorem shl32 (x : BitVec 32) {i : Int} {n : Nat} (h : i = n) (hn : n ≤ 32) : shlI .u32 (x.toNat : Int) i = ((x <<< n).toNat : Int) := by
  subst h
  unfold shlI
  rw [Int.toNat_natCast, show IntKind.u32.bits = 32 from rfl, Nat.min_eq_left hn, u32mod, BitVec.toNat_shiftLeft, Nat.shiftLeft_eq, show ((2 : Int) ^ n) = ((2 ^ n : Nat) : Int) by simp]
  rfl
theorem shl64 (x : BitVec 64) {i : Int} {n : Nat} (h : i = n) (hn : n ≤ 64) : shlI .u64 (x.toNat : Int) i = ((x <<< n).toNat : Int) := by
  subst h
  unfold shlI
  rw [Int.toNat_natCast, show IntKind.u64.bits = 64 from rfl, Nat.min_eq_left hn, u64mod, BitVec.toNat_shiftLeft, Nat.shiftLeft_eq, show ((2 : Int) ^ n) = ((2 ^ n : Nat) : Int) by simp]
  rfl
theorem and64n {x y : Nat} (hx : x < 2 ^ 63) (hy : y < 2 ^ 63) : bAnd .i64 (x : Int) (y : Int) = ((x &&& y : Nat) : Int) := by
  have hle : x &&& y ≤ x := Nat.and_le_left
  have h1 : (BitVec.ofInt 64 (x : Int) &&& BitVec.ofInt 64 (y : Int)).toNat = x &&& y := by
    simp only [BitVec.toNat_and, BitVec.ofInt_natCast, BitVec.toNat_ofNat]
    rw [Nat.mod_eq_of_lt (by omega), Nat.mod_eq_of_lt (by omega)]
  unfold bAnd
  rw [show IntKind.i64.bits = 64 from rfl, h1]
  exact i64w (by omega) (by omega)
theorem odd32 (v : BitVec 32) : (bAnd .u32 (v.toNat : Int) 1 == 1) = v.getLsbD 0 := by
  rw [show (1 : Int) = ((1#32 : BitVec 32).toNat : Int) from rfl, and32, BitVec.toNat_and, show (1#32 : BitVec 32).toNat = 1 from rfl, Nat.and_one_is_mod, BitVec.getLsbD, Nat.testBit_zero]
  rcases Nat.mod_two_eq_zero_or_one v.toNat with h | h <;> rw [h] <;> rfl
theorem div32 (x : BitVec 32) : IntKind.u32.wrap (Int.tdiv (x.toNat : Int) 2) = ((x >>> 1).toNat : Int) := by
  rw [show Int.tdiv (x.toNat : Int) 2 = ((x.toNat / 2 : Nat) : Int) from rfl, BitVec.toNat_ushiftRight, Nat.shiftRight_eq_div_pow]
  exact u32n (by have := x.isLt; omega)
theorem div8 (x : BitVec 8) : IntKind.u8.wrap (Int.tdiv (x.toNat : Int) 2) = ((x >>> 1).toNat : Int) := by
  rw [show Int.tdiv (x.toNat : Int) 2 = ((x.toNat / 2 : Nat) : Int) from rfl, BitVec.toNat_ushiftRight, Nat.shiftRight_eq_div_pow]
  exact u8n (by have := x.isLt; omega)
theorem mod32 (x : BitVec 32) : (Int.tmod (x.toNat : Int) 2 == 1) = x.getLsbD 0 := by
  rw [show Int.tmod (x.toNat : Int) 2 = ((x.toNat % 2 : Nat) : Int) from rfl, BitVec.getLsbD, Nat.testBit_zero]
  rcases Nat.mod_two_eq_zero_or_one x.toNat with h | h <;> rw [h] <;> rfl
theorem low8 (x : BitVec 8) : IntKind.u32.wrap (x.toNat : Int) = ((x.setWidth 32).toNat : Int) := by
  have := x.isLt
  rw [BitVec.toNat_setWidth, Nat.mod_eq_of_lt (by omega)]
  exact u32n (by omega)

/-! ## Cells -/

theorem Hp.le.cell {H H' : Hp} (h : H.le H') {a : Addr} {v : Value} (hc : H.cell? a = some v) : H'.cell? a = some v := by
  unfold Hp.cell? at hc ⊢
  cases hb : H a.block with
  | none => rw [hb] at hc; cases hc
  | some o => rw [h _ _ hb]; rw [hb] at hc; exact hc

/-- The first cells behind an address, if there are any. -/
def Cells (H : Hp) (A : Option Addr) (vs : List Value) : Prop := ∀ i v, vs[i]? = some v → ∃ a, A = some a ∧ H.cell? (a.add i) = some v

theorem Cells.le {H H' : Hp} {A : Option Addr} {vs : List Value} (h : Cells H A vs) (k : H.le H') : Cells H' A vs := fun i v hi => by
  obtain ⟨a, ha, hc⟩ := h i v hi
  exact ⟨a, ha, k.cell hc⟩

theorem Cells.nil (H : Hp) (A : Option Addr) : Cells H A [] := fun i v hi => by simp at hi

theorem Cells.row {H : Hp} {b : Nat} {xs : List Value} {e : TypeId} {m : Nat} (h : H b = some (.row xs e m)) (off n : Nat) : Cells H (some ⟨b, off, none⟩) ((xs.drop off).take n) := fun i v hi => by
  refine ⟨_, rfl, ?_⟩
  rw [Addr.add_lit', cell_row h]
  rw [List.getElem?_take] at hi
  split at hi
  · rw [List.getElem?_drop] at hi; exact hi
  · cases hi

theorem Cells.get {H : Hp} {a : Addr} {vs : List Value} (h : Cells H (some a) vs) {i : Nat} {v : Value} (hi : vs[i]? = some v) : H.cell? (a.add i) = some v := by
  obtain ⟨a', ha, hc⟩ := h i v hi
  cases ha; exact hc

/-- One cell of a slice is read. -/
theorem Cells.read {H : Hp} {A : Option Addr} {vs : List Value} (h : Cells H A vs) {i : Nat} {v : Value} (hi : vs[i]? = some v) {x : Int} (hx : x = i) {n : Nat} (hn : vs.length ≤ n) {K : Value → Prop} (k : K v) :
    ixI x n (NN A fun a => Ld H (a.add (x.toNat * 1)) K) := by
  obtain ⟨a, rfl, hc⟩ := h i v hi
  subst hx
  have := (List.getElem?_eq_some_iff.1 hi).1
  refine ⟨by omega, by omega, ?_⟩
  rw [Int.toNat_natCast, Nat.mul_one]
  exact Ld_of hc k

/-! ## Arrays -/

theorem LdA_obj {H : Hp} {b : Nat} {c : Array Value} {e : TypeId} (h : H b = some (.obj (.cells c e))) {n : Nat} (hn : c.size = n) {K : List Value → Prop} (k : K c.toList) : LdA H ⟨b, 0, none⟩ n K := by
  have key : ∀ m i : Nat, i + m = c.size → H.cells? ⟨b, 0, none⟩ i m = some (c.toList.drop i) := by
    intro m
    induction m with
    | zero => intro i hi; rw [List.drop_eq_nil_of_le (by simp; omega)]; rfl
    | succ m ih =>
      intro i hi
      unfold Hp.cells?
      rw [Addr.add_lit', Nat.zero_add, cell_obj h, Array.getElem?_eq_getElem (by omega)]
      simp only
      rw [ih (i + 1) (by omega)]
      simp only [Option.some.injEq]
      rw [List.drop_eq_getElem_cons (i := i) (by simp; omega)]
      simp
  unfold LdA
  rw [key n 0 (by omega)]
  simpa using k

theorem puts_obj {e : TypeId} {b : Nat} : ∀ (l : List Value) (i : Nat) (H : Hp) (c : Array Value), H b = some (.obj (.cells c e)) → i + l.length ≤ c.size → (∀ v ∈ l, v.oneCell' = true) →
    H.puts? ⟨b, 0, none⟩ i l = some (H.set b (.obj (.cells (c.toList.take i ++ l ++ c.toList.drop (i + l.length)).toArray e)))
  | [], i, H, c, h, hi, _ => by simp [Hp.puts?, Hp.set_id h]
  | v :: l, i, H, c, h, hi, hv => by
    unfold Hp.puts?
    simp only [List.length_cons] at hi
    rw [Addr.add_lit', Nat.zero_add, put_obj h (by omega) (hv v (by simp))]
    simp only
    rw [puts_obj l (i + 1) _ _ (Hp.set_same _ _ _) (by simp; omega) (fun u hu => hv u (by simp [hu])), Hp.set_set]
    congr 5
    simp only [Array.toList_setIfInBounds, List.length_cons]
    rw [List.take_set, List.drop_set_of_lt (by omega)]
    rw [show c.toList.take (i + 1) = c.toList.take i ++ [c.toList[i]'(by simp; omega)] from by rw [List.take_succ_eq_append_getElem]]
    rw [List.set_append_right _ _ (by simp; omega)]
    simp [Nat.min_eq_left (show i ≤ c.size by omega)]
    rw [show i + 1 + l.length = i + (l.length + 1) by omega]

theorem StA_obj {H : Hp} {b : Nat} {c y : Array Value} {e : TypeId} (h : H b = some (.obj (.cells c e))) {n : Nat} (hn : c.size = n) (hy : y.size = n) (hv : ∀ v ∈ y, v.oneCell' = true) {K : Hp → Prop} (k : K (H.set b (.obj (.cells y e)))) :
    StA H ⟨b, 0, none⟩ y n K := by
  refine ⟨hy, ?_⟩
  rw [puts_obj y.toList 0 H c h (by simp; omega) (by simpa using hv)]
  simp only [List.take_zero, List.nil_append, Nat.zero_add]
  rw [List.drop_eq_nil_of_le (by simp; omega)]
  simpa using k

/-- An array that is filled from its beginning on. -/
def filled (f : Nat → Value) (z : Value) (n i : Nat) : Array Value := ((List.range n).map fun j => if j < i then f j else z).toArray

theorem filled_size (f : Nat → Value) (z : Value) (n i : Nat) : (filled f z n i).size = n := by simp [filled]
theorem filled_set (f : Nat → Value) (z : Value) {n i : Nat} (h : i < n) : (filled f z n i).setIfInBounds i (f i) = filled f z n (i + 1) := by
  unfold filled
  rw [List.setIfInBounds_toArray]
  congr 1
  apply List.ext_getElem
  · simp
  · intro j h1 h2
    simp only [List.length_set, List.length_map, List.length_range] at h1
    rw [List.getElem_set]
    simp only [List.getElem_map, List.getElem_range]
    by_cases e : i = j
    · subst e; simp
    · simp only [e, if_false]
      by_cases h3 : j < i
      · simp [h3, show j < i + 1 by omega]
      · simp [h3, show ¬ j < i + 1 by omega]
theorem filled_all (f : Nat → Value) (z : Value) (n : Nat) : filled f z n n = ((List.range n).map f).toArray := by
  unfold filled
  congr 1
  apply List.map_congr_left
  intro j hj
  simp at hj; simp [hj]
theorem filled_get (f : Nat → Value) (z : Value) {n i j : Nat} (h : j < n) : (filled f z n i)[j]? = some (if j < i then f j else z) := by
  simp [filled, h]

/-! ## Rows -/

/-- Cells in a row are written over. -/
def setAt (xs : List Value) (off : Nat) (vs : List Value) : List Value := xs.take off ++ vs ++ xs.drop (off + vs.length)

theorem setAt_length {xs vs : List Value} {off : Nat} (h : off + vs.length ≤ xs.length) : (setAt xs off vs).length = xs.length := by
  unfold setAt; simp; omega

theorem setAt_nil (xs : List Value) (off : Nat) : setAt xs off [] = xs := by simp [setAt]

theorem setAt_get {xs vs : List Value} {off : Nat} (h : off + vs.length ≤ xs.length) (i : Nat) : (setAt xs off vs)[i]? = if i < off then xs[i]? else if i < off + vs.length then vs[i - off]? else xs[i]? := by
  unfold setAt
  have ht : (xs.take off).length = off := by simp; omega
  rw [List.append_assoc, List.getElem?_append, ht]
  by_cases h1 : i < off
  · simp only [h1, if_true]; rw [List.getElem?_take, if_pos h1]
  · simp only [h1, if_false]
    rw [List.getElem?_append]
    by_cases h2 : i < off + vs.length
    · rw [if_pos (by omega), if_pos h2]
    · rw [if_neg (by omega), if_neg h2, List.getElem?_drop]; congr 1; omega

theorem setAt_step {xs vs : List Value} {off k : Nat} (h : off + vs.length ≤ xs.length) (hk : k < vs.length) : (setAt xs off (vs.take k)).set (off + k) vs[k] = setAt xs off (vs.take (k + 1)) := by
  apply List.ext_getElem?
  intro i
  have h1 : (vs.take k).length = k := by simp; omega
  have h2 : (vs.take (k + 1)).length = k + 1 := by simp; omega
  have hl : (setAt xs off (vs.take k)).length = xs.length := setAt_length (by omega)
  rw [List.getElem?_set, setAt_get (by omega), setAt_get (by omega), h1, h2, hl]
  by_cases e : off + k = i
  · subst e
    rw [if_pos rfl, if_pos (by omega), if_neg (by omega), if_pos (by omega)]
    simp [hk]
  · rw [if_neg e]
    by_cases h3 : i < off
    · rw [if_pos h3, if_pos h3]
    · rw [if_neg h3, if_neg h3]
      by_cases h4 : i < off + k
      · rw [if_pos h4, if_pos (by omega)]
        rw [List.getElem?_take, List.getElem?_take, if_pos (by omega), if_pos (by omega)]
      · rw [if_neg h4, if_neg (by omega)]

theorem setAt_setAt {xs as bs : List Value} (h : as.length + bs.length ≤ xs.length) : setAt (setAt xs 0 as) as.length bs = setAt xs 0 (as ++ bs) := by
  unfold setAt
  simp [List.drop_append, Nat.add_comm]

theorem setAt_all {xs vs : List Value} (h : vs.length = xs.length) : setAt xs 0 vs = vs := by
  unfold setAt; simp [h]

theorem St_row {H : Hp} {b : Nat} {xs : List Value} {e : TypeId} {m : Nat} (h : H b = some (.row xs e m)) {i : Nat} (hi : i < xs.length) {v : Value} (hv : v.oneCell' = true) {K : Hp → Prop} (k : K (H.set b (.row (xs.set i v) e m))) : St H ⟨b, i, none⟩ v K :=
  St_of (put_row h hi hv) k
theorem St_obj {H : Hp} {b : Nat} {c : Array Value} {e : TypeId} (h : H b = some (.obj (.cells c e))) {i : Nat} (hi : i < c.size) {v : Value} (hv : v.oneCell' = true) {K : Hp → Prop} (k : K (H.set b (.obj (.cells (c.setIfInBounds i v) e)))) : St H ⟨b, i, none⟩ v K :=
  St_of (put_obj h hi hv) k
theorem Ld_row {H : Hp} {b : Nat} {xs : List Value} {e : TypeId} {m : Nat} (h : H b = some (.row xs e m)) {i : Nat} {v : Value} (hi : xs[i]? = some v) {K : Value → Prop} (k : K v) : Ld H ⟨b, i, none⟩ K := Ld_of ((cell_row h i).trans hi) k
theorem Ld_obj {H : Hp} {b : Nat} {c : Array Value} {e : TypeId} (h : H b = some (.obj (.cells c e))) {i : Nat} {v : Value} (hi : c[i]? = some v) {K : Value → Prop} (k : K v) : Ld H ⟨b, i, none⟩ K := Ld_of ((cell_obj h i).trans hi) k

theorem Hp.le_set_of {H0 H : Hp} {c : Nat} {o : AO} (h : H0.le H) (hc : H0 c = none) : H0.le (H.set c o) := fun b q hq => by
  by_cases e : b = c
  · subst e; rw [hc] at hq; cases hq
  · rw [Hp.set_other _ _ e]; exact h b q hq
theorem Hp.set_le {H H' : Hp} (h : H.le H') (c : Nat) (o : AO) : (H.set c o).le (H'.set c o) := fun b q hq => by
  by_cases e : b = c
  · subst e; rw [Hp.set_same] at hq ⊢; exact hq
  · rw [Hp.set_other _ _ e] at hq ⊢; exact h b q hq

theorem Cells.cells? {H : Hp} {a : Addr} {vs : List Value} (h : Cells H (some a) vs) : H.cells? a 0 vs.length = some vs := by
  have key : ∀ m i : Nat, i + m = vs.length → H.cells? a i m = some (vs.drop i) := by
    intro m
    induction m with
    | zero => intro i hi; rw [List.drop_eq_nil_of_le (by omega)]; rfl
    | succ m ih =>
      intro i hi
      unfold Hp.cells?
      rw [h.get (List.getElem?_eq_getElem (by omega))]
      simp only
      rw [ih (i + 1) (by omega)]
      simp only [Option.some.injEq]
      rw [List.drop_eq_getElem_cons (i := i) (by omega)]
  simpa using key vs.length 0 (by omega)

theorem src_of {H : Hp} {A : Option Addr} {vs : List Value} {n c : Nat} (h : Cells H A vs) (hn : n = vs.length) : srcCells H 1 n (.slice A n c) = some vs := by
  subst hn
  cases A with
  | none =>
    cases vs with
    | nil => rfl
    | cons v vs => obtain ⟨a, ha, _⟩ := h 0 v rfl; cases ha
  | some a => unfold srcCells; rw [Nat.mul_one]; exact h.cells?

theorem puts_at {e : TypeId} {b off : Nat} : ∀ (l : List Value) (i : Nat) (H : Hp) (c : Array Value), H b = some (.obj (.cells c e)) → off + i + l.length ≤ c.size → (∀ v ∈ l, v.oneCell' = true) →
    H.puts? ⟨b, off, none⟩ i l = some (H.set b (.obj (.cells (setAt c.toList (off + i) l).toArray e)))
  | [], i, H, c, h, hi, _ => by simp [Hp.puts?, setAt_nil, Hp.set_id h]
  | v :: l, i, H, c, h, hi, hv => by
    unfold Hp.puts?
    simp only [List.length_cons] at hi
    rw [Addr.add_lit', put_obj h (by omega) (hv v (by simp))]
    simp only
    rw [puts_at l (i + 1) _ _ (Hp.set_same _ _ _) (by simp; omega) (fun u hu => hv u (by simp [hu])), Hp.set_set]
    congr 5
    apply List.ext_getElem?
    intro j
    have hs : (c.setIfInBounds (off + i) v).toList.length = c.size := by simp
    rw [setAt_get (by rw [hs]; omega), setAt_get (by simp; omega), Array.toList_setIfInBounds, List.getElem?_set]
    simp only [List.length_cons, Array.length_toList]
    by_cases h1 : j < off + i
    · rw [if_pos (by omega), if_neg (by omega), if_pos h1]
    · rw [if_neg h1]
      by_cases h2 : j = off + i
      · subst h2; rw [if_pos (by omega), if_pos rfl, if_pos (by omega), if_pos (by omega)]; simp
      · rw [if_neg (by omega)]
        by_cases h3 : j < off + (i + 1) + l.length
        · rw [if_pos h3, if_pos (by omega), show j - (off + i) = (j - (off + (i + 1))) + 1 by omega, List.getElem?_cons_succ]
        · rw [if_neg h3, if_neg (by omega), if_neg (by omega)]

theorem StA_at {H : Hp} {b off : Nat} {c y : Array Value} {e : TypeId} (h : H b = some (.obj (.cells c e))) {n : Nat} (hn : off + n ≤ c.size) (hy : y.size = n) (hv : ∀ v ∈ y, v.oneCell' = true) {K : Hp → Prop} (k : K (H.set b (.obj (.cells (setAt c.toList off y.toList).toArray e)))) :
    StA H ⟨b, off, none⟩ y n K := by
  refine ⟨hy, ?_⟩
  rw [puts_at y.toList 0 H c h (by simp; omega) (by simpa using hv)]
  simpa using k

theorem LdA_at {H : Hp} {b off : Nat} {c : Array Value} {e : TypeId} (h : H b = some (.obj (.cells c e))) {n : Nat} (hn : off + n ≤ c.size) {K : List Value → Prop} (k : K ((c.toList.drop off).take n)) : LdA H ⟨b, off, none⟩ n K := by
  have key : ∀ m i : Nat, off + i + m ≤ c.size → H.cells? ⟨b, off, none⟩ i m = some ((c.toList.drop (off + i)).take m) := by
    intro m
    induction m with
    | zero => intro i hi; simp [Hp.cells?]
    | succ m ih =>
      intro i hi
      unfold Hp.cells?
      rw [Addr.add_lit', cell_obj h, Array.getElem?_eq_getElem (by omega)]
      simp only
      rw [ih (i + 1) (by omega)]
      simp only [Option.some.injEq]
      rw [List.drop_eq_getElem_cons (i := off + i) (by simp; omega), List.take_succ_cons]
      simp [Nat.add_assoc]
  unfold LdA
  rw [key n 0 (by omega)]
  simpa using k

theorem StA_lit {H : Hp} {b off : Nat} {c y : Array Value} {e : TypeId} (h : H b = some (.obj (.cells c e))) {n : Nat} (hn : off + n ≤ c.size) (hy : y.size = n) (hv : y.toList.all (fun v => v.oneCell') = true) {K : Hp → Prop} (k : K (H.set b (.obj (.cells (setAt c.toList off y.toList).toArray e)))) :
    StA H ⟨b, off, none⟩ y n K := StA_at h hn hy (fun v hv' => List.all_eq_true.1 hv v (by simpa using hv')) k
theorem StA_all {H : Hp} {b : Nat} {c y : Array Value} {e : TypeId} (h : H b = some (.obj (.cells c e))) {n : Nat} (hn : c.size = n) (hy : y.size = n) (hv : y.toList.all (fun v => v.oneCell') = true) {K : Hp → Prop} (k : K (H.set b (.obj (.cells y e)))) :
    StA H ⟨b, 0, none⟩ y n K := StA_obj h hn hy (fun v hv' => List.all_eq_true.1 hv v (by simpa using hv')) k

theorem Hp.set_none {H : Hp} {b c : Nat} {o : AO} (h : H.set b o c = none) : c ≠ b ∧ H c = none := by
  unfold Hp.set at h
  split at h
  · cases h
  · exact ⟨by assumption, h⟩
theorem Hp.set_comm (H : Hp) {b c : Nat} (o q : AO) (h : b ≠ c) : (H.set b o).set c q = (H.set c q).set b o := by
  funext i
  unfold Hp.set
  by_cases h1 : i = c
  · by_cases h2 : i = b
    · exact absurd (h2.symm.trans h1) h
    · simp [h1, show ¬ c = b from fun e => h e.symm]
  · simp [h1]

/-- A type of one cell: its bytes, and its nought. -/
def cellInfo (P : Program) (e : TypeId) : Option (Nat × Nat × Option (Array Value)) := (P.info? e).map fun i => (i.size, i.bytes, i.zero.map (·.cells))

theorem cellInfo_out {P : Program} {e : TypeId} {s b : Nat} {z : Array Value} (h : cellInfo P e = some (s, b, some z)) : ∃ i zz, P.info? e = some i ∧ i.size = s ∧ i.bytes = b ∧ i.zero = some zz ∧ zz.cells = z := by
  unfold cellInfo at h
  obtain ⟨i, hi, h⟩ := Option.map_eq_some_iff.1 h
  simp only [Prod.mk.injEq, Option.map_eq_some_iff] at h
  obtain ⟨rfl, rfl, zz, hz, rfl⟩ := h
  exact ⟨i, zz, hi, rfl, rfl, hz, rfl⟩

theorem MkS_of {P : Program} {e : TypeId} {s bs : Nat} {z : Array Value} (hi : cellInfo P e = some (s, bs, some z)) (hs : z.size = s) {l c : Int} {n m : Nat} (hl : l = n) (hc : c = m) (hnm : n ≤ m) (hm : bs * m ≤ 140737488355328) (hm2 : m ≤ 9223372036854775807) {H : Hp} {K : Value → Hp → Prop}
    (k : ∀ b, H b = none → K (.slice (some ⟨b, 0, none⟩) n m) (H.set b (.row (zeroRow z.toList n) e (m * s)))) : MkS P e l c H K := by
  obtain ⟨i, zz, h1, rfl, rfl, h4, rfl⟩ := cellInfo_out hi
  subst hl; subst hc
  unfold MkS
  rw [h1]
  simp only
  rw [h4]
  simp only
  rw [show Nat.beq zz.cells.size i.size = true by rw [hs]; exact Nat.beq_refl _]
  simp only
  refine ⟨by omega, by omega, ?_, by omega, fun b hb => ?_⟩
  · rw [← Int.natCast_mul]
    exact Int.ofNat_le.2 hm
  · exact k b hb

/-- An append onto a row of the call's own. -/
theorem AppK_own {P : Program} {e : TypeId} {s bs : Nat} {z : Array Value} (hi : cellInfo P e = some (s, bs, some z)) (hs : z.size = s) (hbs : bs ≤ 1073741824) {H : Hp} {b0 m len cap n : Nat} {xs ys : List Value} {x : Value} (hb : H b0 = some (.row xs e m)) (hx : xs.length = len * s) (hc : cap * s ≤ m)
    (hn : lenV x = some n) (hsrc : srcCells H s n x = some ys) (hy : ys.length = n * s) (hone : ∀ y ∈ ys, y.oneCell' = true) (h1 : (len + n) * bs ≤ 35184372088832) (h2 : len + n ≤ 35184372088832) {K : Value → Hp → Prop}
    (k : ∀ b c m', len + n ≤ c → c * s ≤ m' → (H.erase b0) b = none → K (.slice (some ⟨b, 0, none⟩) (len + n) c) ((H.erase b0).set b (.row (xs ++ ys) e m'))) : AppK P e (.slice (some ⟨b0, 0, none⟩) len cap) x H K := by
  obtain ⟨i, zz, h3, rfl, rfl, h4, rfl⟩ := cellInfo_out hi
  unfold AppK
  simp only [h3]
  exact ⟨n, ys, hn, hsrc, hy, List.all_eq_true.2 hone, hbs, h1, h2, ⟨zz, h4, hs⟩, .inr ⟨b0, xs, m, rfl, hb, hx, hc, fun c m' hcm hlc b hbn => k b c m' hlc hcm hbn⟩⟩

/-- An append onto nil. -/
theorem AppK_nil {P : Program} {e : TypeId} {s bs : Nat} {z : Array Value} (hi : cellInfo P e = some (s, bs, some z)) (hs : z.size = s) (hbs : bs ≤ 1073741824) {H : Hp} {n : Nat} {ys : List Value} {x : Value}
    (hn : lenV x = some n) (hsrc : srcCells H s n x = some ys) (hy : ys.length = n * s) (hone : ∀ y ∈ ys, y.oneCell' = true) (h1 : n * bs ≤ 35184372088832) (h2 : n ≤ 35184372088832) {K : Value → Hp → Prop}
    (k0 : n = 0 → K (.slice none 0 0) H) (k : 0 < n → ∀ b c, n ≤ c → H b = none → K (.slice (some ⟨b, 0, none⟩) n c) (H.set b (.row ys e (c * s)))) : AppK P e (.slice none 0 0) x H K := by
  obtain ⟨i, zz, h3, rfl, rfl, h4, rfl⟩ := cellInfo_out hi
  unfold AppK
  rw [h3]
  exact ⟨n, ys, hn, hsrc, hy, List.all_eq_true.2 hone, hbs, by rw [Nat.zero_add]; exact h1, by rw [Nat.zero_add]; exact h2, ⟨zz, h4, hs⟩, .inl ⟨rfl, rfl, rfl, k0, fun h0 c hc b hb => k h0 b c hc hb⟩⟩

theorem BsK_of {H : Hp} {A : Option Addr} {bs : List UInt8} {n : Nat} (h : Cells H A (byteVals bs)) (hn : n = bs.length) {K : ByteArray → Prop} (k : K ⟨bs.toArray⟩) : BsK H A n K := by
  subst hn
  refine ⟨⟨bs.toArray⟩, k, by simp [ByteArray.size], ?_⟩
  cases A with
  | none =>
    cases bs with
    | nil => rfl
    | cons b bs => obtain ⟨a, ha, _⟩ := h 0 _ rfl; cases ha
  | some ad =>
    have key : ∀ (l : List UInt8) (i : Nat), (∀ j v, (byteVals l)[j]? = some v → H.cell? (ad.add (i + j)) = some v) → bytesAt H ad l i := by
      intro l
      induction l with
      | nil => intro i _; trivial
      | cons b l ih =>
        intro i hl
        refine ⟨hl 0 _ rfl, ih (i + 1) (fun j v hj => ?_)⟩
        have := hl (j + 1) v hj
        rwa [show i + (j + 1) = i + 1 + j by omega] at this
    simpa using key bs 0 (fun j v hj => by rw [Nat.zero_add]; exact h.get hj)

/-- Bytes that a string's literal is turned to. -/
theorem conv_mark {P : Program} {d e e' : TypeId} (hd : P.underlying d = some (.slice e)) (he : P.underlying e = some (.int .u8)) {b n c m : Nat} {xs : List Value} {H : Hp} (hb : H b = some (.row xs e' m)) {K : Value → Hp → Prop} (k : K (.slice (some ⟨b, 0, none⟩) n c) H) :
    SemK P (convert d d (.slice (some ⟨b, 0, none⟩) n c)) H K := fun H0 w0 w hA => by
  obtain ⟨u, H', w', hr, hk, hA'⟩ := ef_sound (P := P) (markStringish ⟨b, 0, none⟩) (K := fun _ H' => H' = H) (by
    simp only [markStringish, shape, bind, Sem.bind, ef, Sh, hb, freeze, Fz, pure, and_self]) hA
  subst hk
  refine ⟨_, _, w', ?_, k, hA'⟩
  simp only [convert, Sem.run_bind, underlying_run hd, Result.andThen_ok, underlying_run he, beq_self_eq_true]
  simp only [Functor.map, Sem.run_bind, hr, Result.andThen_ok]
  rfl

theorem byteVals_get (bs : List UInt8) (i : Nat) : (byteVals bs)[i]? = (bs[i]?).map fun b => Value.int .u8 (b.toNat : Int) := by simp [byteVals]
theorem byteVals_length (bs : List UInt8) : (byteVals bs).length = bs.length := by simp [byteVals]
theorem byteVals_append (a b : List UInt8) : byteVals (a ++ b) = byteVals a ++ byteVals b := by simp [byteVals]

def wordVals (l : List UInt64) : List Value := l.map fun w => .int .u64 (w.toNat : Int)
theorem wordVals_get (l : List UInt64) (i : Nat) : (wordVals l)[i]? = (l[i]?).map fun w => Value.int .u64 (w.toNat : Int) := by simp [wordVals]
theorem wordVals_length (l : List UInt64) : (wordVals l).length = l.length := by simp [wordVals]

end Go.Hw
