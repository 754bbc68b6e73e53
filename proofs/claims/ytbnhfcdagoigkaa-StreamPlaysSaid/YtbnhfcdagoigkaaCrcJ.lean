/- crc.Join, crc.Sum; the law CrcJoins. -/
import Derived.Test.YtbnhfcdagoigkaaCrcB
set_option maxRecDepth 100000
set_option linter.unusedSimpArgs false
set_option linter.unusedVariables false
set_option linter.unnecessarySimpa false
set_option linter.unusedSectionVars false
namespace Go.Proofs.Ytbnhfcdagoigkaa.CrcP
open Go Go.Hw Go.Crc Go.Form Go.Proofs.Ytbnhfcdagoigkaa.W

def matF (m : Nat → W32) (i : Nat) : Value := .int .u32 ((m i).toNat : Int)
def matV (m : Nat → W32) : Array Value := ((List.range 32).map (matF m)).toArray

theorem matV_size (m : Nat → W32) : (matV m).size = 32 := by simp [matV]
theorem matV_get (m : Nat → W32) {i : Nat} (h : i < 32) : (matV m)[i]? = some (.int .u32 ((m i).toNat : Int)) := by simp [matV, matF, h]
theorem matV_one (m : Nat → W32) : ∀ v ∈ matV m, v.oneCell' = true := by intro v hv; simp [matV, matF] at hv; obtain ⟨a, _, rfl⟩ := hv; rfl

theorem app_zero (m : Nat → W32) : ∀ k i out, app m k i 0#32 out = out
  | 0, _, _ => rfl
  | k + 1, i, out => by simp only [app]; rw [show (0#32 : W32) >>> 1 = 0#32 from rfl, app_zero m k]; rfl

def bitM (i : Nat) : W32 := if i = 0 then poly else 1#32 <<< (i - 1)

theorem shl_bit {i : Nat} (h0 : 1 ≤ i) (h : i < 32) : shlI .u32 1 (IntKind.u64.wrap (IntKind.i64.wrap ((i : Int) - 1))) = ((1#32 <<< (i - 1)).toNat : Int) := by
  rw [i64w (by omega) (by omega), u64w (by omega) (by omega)]
  exact shl32 1#32 (i := (i : Int) - 1) (n := i - 1) (by omega) (by omega)

/-- A matrix is what a law makes of each bit. -/
def Rep (m : Nat → W32) (f : W32 → W32) : Prop := Lin f ∧ ∀ i, i < 32 → m i = f (1#32 <<< i)

theorem Rep.mul {m : Nat → W32} {f : W32 → W32} (h : Rep m f) (v : W32) : mul m v = f v := mul_lin h.1 h.2 v
theorem Rep.twice {m : Nat → W32} {f : W32 → W32} (h : Rep m f) : Rep (fun i => Crc.mul m (m i)) (fun v => f (f v)) :=
  ⟨fun x y => by show f (f (x ^^^ y)) = _; rw [h.1, h.1], fun i hi => by show Crc.mul m (m i) = _; rw [h.mul, h.2 i hi]⟩
theorem Rep.bit : Rep bitM bit1 := ⟨lin_bit1, by
  have : (List.range 32).all (fun i => bitM i == bit1 (1#32 <<< i)) = true := by decide +kernel
  intro i hi
  have := List.all_eq_true.1 this i (by simpa using hi)
  simpa using this⟩

theorem it_two (f : W32 → W32) : ∀ (k : Nat) (a : W32), it f (2 * k) a = it (fun v => f (f v)) k a
  | 0, a => rfl
  | k + 1, a => by rw [Nat.mul_succ, show 2 * k + 2 = (2 * k + 1) + 1 from rfl]; simp only [it]; exact it_two f k _

/-! ## Sum -/

end Go.Proofs.Ytbnhfcdagoigkaa.CrcP
