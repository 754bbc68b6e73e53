/- Sums of bits: the plain laws. -/
import Derived.Test.YtbnhfcdagoigkaaHwN
set_option maxRecDepth 100000
set_option linter.unusedSimpArgs false
set_option linter.unusedVariables false
set_option linter.unnecessarySimpa false
set_option linter.unusedSectionVars false
namespace Go.Crc
open Go

abbrev W32 := BitVec 32
def poly : W32 := 0x82f63b78#32

/-- What a nought bit makes. -/
def bit1 (v : W32) : W32 := (v >>> 1) ^^^ (if v.getLsbD 0 then poly else 0#32)

def it (f : W32 → W32) : Nat → W32 → W32
  | 0, v => v
  | n + 1, v => it f n (f v)

theorem it_add (f : W32 → W32) : ∀ a b v, it f (a + b) v = it f b (it f a v)
  | 0, b, v => by simp [it]
  | a + 1, b, v => by rw [Nat.add_right_comm]; simp only [it]; exact it_add f a b (f v)
theorem it_succ' (f : W32 → W32) (n : Nat) (v : W32) : it f (n + 1) v = f (it f n v) := it_add f n 1 v
theorem it_mul (f : W32 → W32) (a : Nat) : ∀ b v, it f (a * b) v = it (it f a) b v
  | 0, v => rfl
  | b + 1, v => by rw [Nat.mul_succ, Nat.add_comm, it_add, it_mul f a b]; rfl

def Lin (f : W32 → W32) : Prop := ∀ x y, f (x ^^^ y) = f x ^^^ f y

theorem Lin.zero {f : W32 → W32} (h : Lin f) : f 0#32 = 0#32 := by
  have := h 0#32 0#32
  simp only [BitVec.xor_self] at this
  exact this
theorem Lin.it {f : W32 → W32} (h : Lin f) : ∀ n, Lin (it f n)
  | 0 => fun _ _ => rfl
  | n + 1 => fun x y => by simp only [Crc.it]; rw [h, Lin.it h n]

theorem xor4 (a b c d : W32) : (a ^^^ b) ^^^ (c ^^^ d) = (a ^^^ c) ^^^ (b ^^^ d) := by
  rw [BitVec.xor_assoc, ← BitVec.xor_assoc b, BitVec.xor_comm b c, BitVec.xor_assoc c, ← BitVec.xor_assoc]

theorem lin_bit1 : Lin bit1 := fun x y => by
  unfold bit1
  rw [BitVec.ushiftRight_xor_distrib, BitVec.getLsbD_xor, xor4]
  congr 1
  cases x.getLsbD 0 <;> cases y.getLsbD 0 <;> simp

theorem bit1_inj {x : W32} (h : bit1 x = 0#32) : x = 0#32 := by
  unfold bit1 at h
  have hp : poly.getLsbD 31 = true := by decide
  have h31 := congrArg (fun v => v.getLsbD 31) h
  simp only [BitVec.getLsbD_xor, BitVec.getLsbD_ushiftRight] at h31
  have h0 : x.getLsbD 0 = false := by
    cases hx : x.getLsbD 0 with
    | false => rfl
    | true =>
      rw [hx] at h31
      simp only [if_true, hp] at h31
      simp at h31
  rw [h0] at h
  simp only [Bool.false_eq_true, if_false, BitVec.xor_zero] at h
  apply BitVec.eq_of_getLsbD_eq
  intro i hi
  cases i with
  | zero => rw [h0]; simp
  | succ i =>
    have := congrArg (fun v => v.getLsbD i) h
    simp only [BitVec.getLsbD_ushiftRight] at this
    rw [Nat.add_comm, this]; simp

theorem it_inj {x : W32} : ∀ n, it bit1 n x = 0#32 → x = 0#32
  | 0, h => h
  | n + 1, h => bit1_inj (it_inj n h)

theorem bit1_shift {v : W32} (h : v.getLsbD 0 = false) : bit1 v = v >>> 1 := by unfold bit1; rw [h]; simp

theorem it_shift : ∀ (n : Nat) {v : W32}, (∀ i, i < n → v.getLsbD i = false) → it bit1 n v = v >>> n
  | 0, v, _ => by simp [it]
  | n + 1, v, h => by
    simp only [it]
    rw [bit1_shift (h 0 (by omega)), it_shift n (fun i hi => by rw [BitVec.getLsbD_ushiftRight]; exact h _ (by omega))]
    rw [← BitVec.shiftRight_add, Nat.add_comm]

/-- Four bits at once: by the table of half bytes. -/
theorem nibble (v : W32) : it bit1 4 v = (v >>> 4) ^^^ it bit1 4 (v &&& 15#32) := by
  have h1 : v = (v &&& ~~~15#32) ^^^ (v &&& 15#32) := by
    apply BitVec.eq_of_getLsbD_eq
    intro i hi
    simp only [BitVec.getLsbD_xor, BitVec.getLsbD_and, BitVec.getLsbD_not, hi, decide_true, Bool.true_and]
    cases v.getLsbD i <;> cases (15#32).getLsbD i <;> rfl
  have h2 : it bit1 4 (v &&& ~~~15#32) = (v &&& ~~~15#32) >>> 4 := it_shift 4 (fun i hi => by
    rw [BitVec.getLsbD_and]
    have : (~~~15#32).getLsbD i = false := by
      rcases (by omega : i = 0 ∨ i = 1 ∨ i = 2 ∨ i = 3) with rfl | rfl | rfl | rfl <;> decide
    rw [this, Bool.and_false])
  have h3 : (v &&& ~~~15#32) >>> 4 = v >>> 4 := by
    apply BitVec.eq_of_getLsbD_eq
    intro i hi
    simp only [BitVec.getLsbD_ushiftRight, BitVec.getLsbD_and, BitVec.getLsbD_not]
    by_cases h : 4 + i < 32
    · have : (15#32).getLsbD (4 + i) = false := by
        rw [show (15#32 : W32) = BitVec.ofNat 32 15 from rfl, BitVec.getLsbD_ofNat]
        have : Nat.testBit 15 (4 + i) = false := Nat.testBit_lt_two_pow (Nat.lt_of_lt_of_le (by decide : 15 < 2 ^ 4) (Nat.pow_le_pow_right (by decide) (by omega)))
        rw [this, Bool.and_false]
      simp only [this, h, decide_true, Bool.true_and, Bool.not_false, Bool.and_true]
    · have := BitVec.getLsbD_of_ge v (4 + i) (by omega)
      rw [this]; simp
  conv => lhs; rw [h1]
  rw [Lin.it lin_bit1 4, h2, h3]

def low (c : UInt8) : W32 := c.toBitVec.setWidth 32
/-- A byte more. -/
def byte (v : W32) (c : UInt8) : W32 := it bit1 8 (v ^^^ low c)
def run (v : W32) (bs : List UInt8) : W32 := bs.foldl byte v
/-- The sum of bytes behind others. -/
def more (s : W32) (bs : List UInt8) : W32 := ~~~ run (~~~ s) bs
def sum (bs : List UInt8) : W32 := more 0#32 bs

theorem run_append (v : W32) (a b : List UInt8) : run v (a ++ b) = run (run v a) b := List.foldl_append
theorem more_append (s : W32) (a b : List UInt8) : more s (a ++ b) = more (more s a) b := by
  unfold more; rw [run_append, BitVec.not_not]

theorem byte_lin (x y : W32) (c : UInt8) : byte (x ^^^ y) c = it bit1 8 x ^^^ byte y c := by
  unfold byte; rw [BitVec.xor_assoc, Lin.it lin_bit1 8]

theorem run_lin : ∀ (bs : List UInt8) (x y : W32), run (x ^^^ y) bs = it bit1 (8 * bs.length) x ^^^ run y bs
  | [], x, y => rfl
  | c :: bs, x, y => by
    simp only [run, List.foldl_cons, List.length_cons]
    rw [byte_lin]
    have := run_lin bs (it bit1 8 x) (byte y c)
    unfold run at this
    rw [this, Nat.mul_succ, Nat.add_comm, it_add]

/-- The sum of bytes behind others, by both sums. -/
theorem more_join (s : W32) (bs : List UInt8) : more s bs = it bit1 (8 * bs.length) s ^^^ sum bs := by
  unfold sum more
  have h : ~~~ s = s ^^^ ~~~ 0#32 := by
    apply BitVec.eq_of_getLsbD_eq
    intro i hi
    simp only [BitVec.getLsbD_not, BitVec.getLsbD_xor, BitVec.getLsbD_zero, hi, decide_true, Bool.true_and, Bool.not_false]
    cases s.getLsbD i <;> rfl
  rw [h, run_lin]
  apply BitVec.eq_of_getLsbD_eq
  intro i hi
  simp only [BitVec.getLsbD_not, BitVec.getLsbD_xor, hi, decide_true, Bool.true_and]
  cases (it bit1 (8 * bs.length) s).getLsbD i <;> cases (run (~~~0#32) bs).getLsbD i <;> rfl

/-! ## Matrices -/

/-- What a matrix makes of a sum: the entries of its bits, from the i-th on. -/
def app (m : Nat → W32) : Nat → Nat → W32 → W32 → W32
  | 0, _, _, out => out
  | k + 1, i, v, out => app m k (i + 1) (v >>> 1) (if v.getLsbD 0 then out ^^^ m i else out)

theorem app_lin {f : W32 → W32} (hf : Lin f) {m : Nat → W32} (hm : ∀ i, i < 32 → m i = f (1#32 <<< i)) :
    ∀ k i (v out : W32), i + k = 32 → app m k i v out = out ^^^ f (v <<< i)
  | 0, i, v, out, h => by
    obtain rfl : i = 32 := by omega
    have : v <<< 32 = 0#32 := by rw [BitVec.shiftLeft_eq_zero (by omega)]
    rw [this, hf.zero, BitVec.xor_zero]; rfl
  | k + 1, i, v, out, h => by
    simp only [app]
    rw [app_lin hf hm k (i + 1) _ _ (by omega)]
    have hv : v <<< i = (if v.getLsbD 0 then 1#32 <<< i else 0#32) ^^^ ((v >>> 1) <<< (i + 1)) := by
      apply BitVec.eq_of_getLsbD_eq
      intro j hj
      rw [BitVec.getLsbD_xor, BitVec.getLsbD_shiftLeft, BitVec.getLsbD_shiftLeft, BitVec.getLsbD_ushiftRight]
      by_cases h1 : j < i
      · have h2 : j < i + 1 := by omega
        cases v.getLsbD 0 <;> simp [h1, h2, BitVec.getLsbD_shiftLeft]
      · by_cases h2 : j = i
        · subst h2
          have h4 : j < j + 1 := by omega
          cases h3 : v.getLsbD 0
          · simp only [Nat.lt_irrefl, Nat.sub_self, h3, h4, Bool.false_eq_true, if_false, BitVec.getLsbD_zero, decide_true, Bool.not_true, Bool.and_false, Bool.false_and, Bool.xor_false]
          · simp only [Nat.lt_irrefl, Nat.sub_self, h3, h4, if_true, hj, BitVec.getLsbD_shiftLeft, decide_true, decide_false, Bool.not_true, Bool.not_false, Bool.and_false, Bool.and_true, Bool.false_and, Bool.xor_false]
            decide
        · have h3 : ¬ j < i + 1 := by omega
          have h4 : 1 + (j - (i + 1)) = j - i := by omega
          have h5 : (1#32).getLsbD (j - i) = false := by
            rw [show (1#32 : W32) = BitVec.ofNat 32 1 from rfl, BitVec.getLsbD_ofNat]
            have : Nat.testBit 1 (j - i) = false := Nat.testBit_lt_two_pow (Nat.lt_of_lt_of_le (by decide : 1 < 2 ^ 1) (Nat.pow_le_pow_right (by decide) (by omega)))
            rw [this, Bool.and_false]
          have h6 : j - i ≠ 0 := by omega
          cases v.getLsbD 0 <;> simp [h1, h3, h4, hj, h6, BitVec.getLsbD_shiftLeft]
    rw [hv, hf]
    cases v.getLsbD 0
    · simp [hf.zero]
    · simp only [if_true]
      rw [hm i (by omega), BitVec.xor_assoc]

/-- What a matrix makes of a sum. -/
def mul (m : Nat → W32) (v : W32) : W32 := app m 32 0 v 0#32

theorem mul_lin {f : W32 → W32} (hf : Lin f) {m : Nat → W32} (hm : ∀ i, i < 32 → m i = f (1#32 <<< i)) (v : W32) : mul m v = f v := by
  unfold mul; rw [app_lin hf hm 32 0 v 0#32 rfl]; simp

end Go.Crc
