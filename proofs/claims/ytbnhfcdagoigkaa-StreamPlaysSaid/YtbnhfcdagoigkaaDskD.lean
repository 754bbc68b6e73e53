/- disk: what stays; the law DiskMakes. -/
import Derived.Test.YtbnhfcdagoigkaaDskC
import Derived.Test.YtbnhfcdagoigkaaHwV
set_option maxRecDepth 100000
set_option linter.unusedSimpArgs false
set_option linter.unusedVariables false
set_option linter.unnecessarySimpa false
set_option linter.unusedSectionVars false

namespace Go.Proofs.Ytbnhfcdagoigkaa.Dsk
open Go Go.Hw Go.Form Go.Proofs.Ytbnhfcdagoigkaa.W

theorem p_ops : plain64 Try.prog 36 3 := ⟨by kernel_rfl, by kernel_rfl, by kernel_rfl, by kernel_rfl⟩

theorem bootS_or {c : Int → Option (List UInt8)} : ∀ (ks : List Int) (bs : List Bool) (s : Int → Option (List UInt8)), (∀ k ∈ ks, (c k).isSome = true) → ∀ i, bootS c s ks bs i = s i ∨ ((c i).isSome = true ∧ bootS c s ks bs i = c i)
  | [], bs, s, _, i => .inl rfl
  | k :: ks, [], s, _, i => .inl rfl
  | k :: ks, b :: bs, s, hk, i => by
    have ih := bootS_or ks bs (if b then updB s k ((c k).getD []) else s) (fun k hm => hk k (by simp [hm])) i
    show bootS c (if b then updB s k ((c k).getD []) else s) ks bs i = s i ∨ _ ∧ bootS c (if b then updB s k ((c k).getD []) else s) ks bs i = c i
    rcases ih with h | h
    · rw [h]
      cases b with
      | false => exact .inl rfl
      | true =>
        by_cases e : i = k
        · subst e
          refine .inr ⟨hk i (by simp), ?_⟩
          have := hk i (by simp)
          cases hc : c i with
          | none => rw [hc] at this; cases this
          | some x => simp [updB]
        · exact .inl (by simp [updB, e])
    · exact .inr h

theorem Ok.writeD {d : D} (h : Ok d) (i : Int) (bs : List UInt8) : Ok (d.writeD i bs) := by
  unfold D.writeD
  split
  · exact h
  · split
    · exact h
    · rename_i hl
      have hb := Ok.burnt h
      split
      · exact hb
      · unfold D.wrote
        refine ⟨hb.sec, hb.size, hb.big, hb.per, hb.safe, fun k b hk => ?_, hb.fz⟩
        have hk' : (if k = i then some bs else d.cache k) = some b := hk
        have hsz : d.burnt.size = d.size := (burnt_rd d).2.2.2.1
        split at hk'
        · cases hk'; show bs.length = d.burnt.size; rw [hsz]; omega
        · show b.length = d.burnt.size; rw [hsz]; exact h.cache k b hk'
theorem Dom.writeD {d : D} (h : Dom d) (i : Int) (bs : List UInt8) : Dom (d.writeD i bs) := by
  have hbr := burnt_rd d
  unfold D.writeD
  split
  · exact h
  · rename_i hc
    split
    · exact h
    · split
      · intro k hk
        rw [hbr.2.2.2.2.2.2.1] at hk
        rw [hbr.2.2.2.2.1]
        exact h k hk
      · intro k hk
        have hk' : (if k = i then some bs else d.cache k).isSome = true := hk
        show 0 ≤ k ∧ k < (d.burnt.sec : Int)
        rw [hbr.2.2.2.2.1]
        split at hk'
        · rename_i e; subst e
          have := chk_in (d := d) (i := k) (by simpa using hc)
          omega
        · exact h k hk'
theorem Ok.crash {d : D} (h : Ok d) : Ok { d with down := true, fuse := 0 } := ⟨h.sec, h.size, h.big, h.per, h.safe, h.cache, Nat.zero_le _⟩
theorem Ok.fused {d : D} (h : Ok d) (n : Nat) (hn : n ≤ 9223372036854775807) : Ok { d with fuse := n } := ⟨h.sec, h.size, h.big, h.per, h.safe, h.cache, hn⟩
theorem Ok.boot {d : D} (h : Ok d) {ks : List Int} (hk : KeysOf (strM d.cache) ks) (keep : List Bool) : Ok (D.boot d ks keep) := by
  refine ⟨h.sec, h.size, h.big, h.per, fun k b hb => ?_, fun k b hb => (by cases hb), h.fz⟩
  have hb' : bootS d.cache d.safe ks keep k = some b := hb
  rcases bootS_or ks keep d.safe (fun k hm => by have := (hk.mem k).1 hm; rw [strM_some] at this; exact this) k with e | ⟨_, e⟩
  · rw [e] at hb'; exact h.safe k b hb'
  · rw [e] at hb'; exact h.cache k b hb'
theorem Dom.boot (d : D) (ks : List Int) (keep : List Bool) : Dom (D.boot d ks keep) := fun k hk => by cases hk
theorem Dom.fresh (sec size : Nat) : Dom (D.fresh sec size) := fun k hk => by cases hk

def b32 : List UInt8 := 7 :: List.replicate 31 0

end Go.Proofs.Ytbnhfcdagoigkaa.Dsk
