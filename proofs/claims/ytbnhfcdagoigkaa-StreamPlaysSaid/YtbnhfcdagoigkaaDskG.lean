/- disk: an act of the law DiskSafe. -/
import Derived.Test.YtbnhfcdagoigkaaDskF
set_option maxRecDepth 100000
set_option linter.unusedSimpArgs false
set_option linter.unusedVariables false
set_option linter.unnecessarySimpa false
set_option linter.unusedSectionVars false
namespace Go.Proofs.Ytbnhfcdagoigkaa.Dsk
open Go Go.Hw Go.Form Go.Proofs.Ytbnhfcdagoigkaa.W

structure Calm (d : D) : Prop where
  down : d.down = false
  fuse : d.fuse = 0

/-- A disk goes on. -/
structure Next (d d' : D) : Prop where
  ok : Ok d'
  dom : Dom d'
  sec : d'.sec = d.sec
  size : d'.size = d.size
  rd : d'.rd ≤ d.rd + 1
  wr : d'.wr ≤ d.wr + 1
  sy : d'.sy ≤ d.sy + 1

section
variable {d : D} (h : Ok d) (hd : Dom d)
include h hd
theorem Next.refl : Next d d := ⟨h, hd, rfl, rfl, by omega, by omega, by omega⟩
theorem Next.burnt : Next d d.burnt := by
  have hb := burnt_rd d
  refine ⟨Ok.burnt h, fun k hk => ?_, hb.2.2.2.2.1, hb.2.2.2.1, by rw [hb.1]; omega, by rw [hb.2.1]; omega, by rw [hb.2.2.1]; omega⟩
  rw [hb.2.2.2.2.2.2.1] at hk
  rw [hb.2.2.2.2.1]; exact hd k hk
theorem Next.read : Next d { d.burnt with rd := d.rd + 1 } := by
  have hb := Next.burnt h hd
  exact ⟨⟨hb.ok.sec, hb.ok.size, hb.ok.big, hb.ok.per, hb.ok.safe, hb.ok.cache, hb.ok.fz⟩, hb.dom, hb.sec, hb.size, Nat.le_refl _, hb.wr, hb.sy⟩
theorem Next.write (i : Int) (bs : List UInt8) : Next d (d.writeD i bs) := by
  have hb := burnt_rd d
  have h1 := Ok.writeD h i bs
  have h2 := Dom.writeD hd i bs
  have hn := Next.burnt h hd
  unfold D.writeD at h1 h2 ⊢
  split
  · exact Next.refl h hd
  · rename_i c1
    rw [if_neg c1] at h1 h2
    split
    · exact Next.refl h hd
    · rename_i c2
      rw [if_neg c2] at h1 h2
      split
      · exact hn
      · rename_i c3
        rw [if_neg c3] at h1 h2
        exact ⟨h1, h2, hn.sec, hn.size, hn.rd, Nat.le_refl _, hn.sy⟩
theorem Next.sync : Next d d.syncD := by
  have hn := Next.burnt h hd
  have hb := burnt_rd d
  unfold D.syncD
  split
  · exact Next.refl h hd
  · split
    · exact hn
    · refine ⟨⟨hn.ok.sec, hn.ok.size, hn.ok.big, hn.ok.per, fun k b hk => ?_, fun k b hk => (by cases hk), hn.ok.fz⟩, fun k hk => (by cases hk), hn.sec, hn.size, hn.rd, hn.wr, Nat.le_refl _⟩
      have hk' : mergeB d.safe d.cache k = some b := hk
      show b.length = d.burnt.size
      rw [hb.2.2.2.1]
      unfold mergeB at hk'
      split at hk'
      · rename_i b' hc; cases hk'; exact h.cache k b hc
      · exact h.safe k b hk'
theorem Next.crash : Next d { d with down := true, fuse := 0 } := ⟨Ok.crash h, hd, rfl, rfl, Nat.le_succ _, Nat.le_succ _, Nat.le_succ _⟩
theorem Next.fused (n : Nat) (hn : n ≤ 9223372036854775807) : Next d { d with fuse := n } := ⟨Ok.fused h n hn, hd, rfl, rfl, Nat.le_succ _, Nat.le_succ _, Nat.le_succ _⟩
theorem Next.boot {ks : List Int} (hk : KeysOf (strM d.cache) ks) (keep : List Bool) : Next d (D.boot d ks keep) := ⟨Ok.boot h hk keep, Dom.boot d ks keep, rfl, rfl, Nat.le_succ _, Nat.le_succ _, Nat.le_succ _⟩
end

/-- What an act does to a disk whose power stays. -/
def Eff (d d' : D) (a : Act) (e : Int) : Prop := Calm d → a.k ≤ 2 → Calm d' ∧ d'.safe = d.safe ∧
  ((0 ≤ a.k ∧ a.k ≤ 1 ∧ e = 0) → (0 ≤ a.i ∧ a.i < d.sec) ∧ d'.cache = updB d.cache a.i (laidB a.b)) ∧ (¬ (0 ≤ a.k ∧ a.k ≤ 1 ∧ e = 0) → d'.cache = d.cache)

theorem Calm.burns {d : D} (h : Calm d) : d.burns = false := by unfold D.burns; rw [h.fuse]; rfl
theorem Calm.burnt {d : D} (h : Calm d) : d.burnt = d := by unfold D.burnt; rw [if_pos h.fuse]

theorem Eff.same {d : D} {a : Act} {e : Int} (h : ¬ (0 ≤ a.k ∧ a.k ≤ 1 ∧ e = 0)) : Eff d d a e := fun hc _ => ⟨hc, rfl, fun h' => absurd h' h, fun _ => rfl⟩
theorem Eff.late {d d' : D} {a : Act} {e : Int} (h : a.k > 2) : Eff d d' a e := fun _ h' => by omega
theorem Eff.write {d : D} {a : Act} (hz : d.size = 32) (hk : 0 ≤ a.k ∧ a.k ≤ 1) : Eff d (d.writeD a.i (laidB a.b)) a (d.writeE a.i 32) := fun hc _ => by
  have hl := laidB_len a.b
  by_cases h0 : d.chk a.i = 0
  · have e1 : d.writeE a.i 32 = 0 := by
      unfold D.writeE
      rw [if_neg (by rw [h0]; simp), if_neg (by omega), hc.burns]; rfl
    have e2 : d.writeD a.i (laidB a.b) = d.wrote a.i (laidB a.b) := by
      unfold D.writeD
      rw [if_neg (by rw [h0]; simp), if_neg (by omega), hc.burns]; rfl
    rw [e1, e2]
    have hb := hc.burnt
    have hr := chk_in h0
    unfold D.wrote
    rw [hb]
    exact ⟨⟨hc.down, hc.fuse⟩, rfl, fun _ => ⟨⟨hr.1, hr.2.1⟩, rfl⟩, fun h => absurd ⟨hk.1, hk.2, rfl⟩ h⟩
  · have e1 : d.writeE a.i 32 = d.chk a.i := by unfold D.writeE; rw [if_pos h0]
    have e2 : d.writeD a.i (laidB a.b) = d := by unfold D.writeD; rw [if_pos h0]
    rw [e1, e2]
    exact ⟨hc, rfl, fun h => absurd h.2.2 h0, fun _ => rfl⟩
theorem Eff.read {d : D} {a : Act} {e : Int} (hk : a.k = 2) : Eff d { d.burnt with rd := d.rd + 1 } a e := fun hc _ => by
  rw [hc.burnt]
  exact ⟨⟨hc.down, hc.fuse⟩, rfl, fun h => by omega, fun _ => rfl⟩
theorem Eff.burnt {d : D} {a : Act} {e : Int} (hk : a.k = 2) : Eff d d.burnt a e := fun hc _ => by
  rw [hc.burnt]
  exact ⟨hc, rfl, fun h => by omega, fun _ => rfl⟩



end Go.Proofs.Ytbnhfcdagoigkaa.Dsk
