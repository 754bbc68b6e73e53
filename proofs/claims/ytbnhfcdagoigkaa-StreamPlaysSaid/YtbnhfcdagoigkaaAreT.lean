/- arena: Give and Reset, as contracts over parts of memory. -/
import Derived.Test.YtbnhfcdagoigkaaAreS
set_option maxRecDepth 100000
set_option linter.unusedSimpArgs false
set_option linter.unusedVariables false
set_option linter.unnecessarySimpa false
set_option linter.unusedSectionVars false
namespace Go.Proofs.Ytbnhfcdagoigkaa.Are
open Go Go.Hw Go.Proofs.Ytbnhfcdagoigkaa.W

theorem ArI.cut {H : Hp} {a mp cl : Nat} {tk : List (Nat × Int × Nat)} {cap used peak : Int} {bufs : List (Nat × Nat × Option Addr)} (h : ArI H a mp cl tk cap used peak bufs) (D : Nat → Bool) (h1 : D a = true) (h2 : D mp = true) (h3 : ∀ y ∈ bufs, D y.1 = true) :
    ArI (fun q => if D q = true then H q else none) a mp cl tk cap used peak bufs := by
  have g : ∀ q o, D q = true → H q = some o → (fun q => if D q = true then H q else none) q = some o := fun q o e1 e2 => by
    show (if D q = true then H q else none) = some o
    rw [if_pos e1]; exact e2
  refine ⟨⟨h.ai.ne, g _ _ h1 h.ai.ha, g _ _ h2 h.ai.hm, h.ai.nd, fun x hx => ?_, h.ai.hu, h.ai.bn⟩, h.up, fun y hy => g _ _ (h3 y hy) (h.hd y hy), h.tb, h.bt, h.bn, h.hz⟩
  obtain ⟨k1, A, n, m, k2⟩ := h.ai.hb x hx
  obtain ⟨A', hA'⟩ := h.tb x hx
  exact ⟨k1, A, n, m, g _ _ (h3 _ hA') k2⟩

theorem Sep.head {A : As} {L : List As} {H : Hp} : Sep (A :: L) H → ∃ H1 H2, H1.le H ∧ H2.le H ∧ Apart H1 H2 ∧ A H1 ∧ Sep L H2 := id

/-- What is left behind a change inside an arena. -/
theorem ArI.back {H H1 H2 H' : Hp} {a mp cl cl' : Nat} {tk tk' : List (Nat × Int × Nat)} {cap used used' peak peak' : Int} {bufs : List (Nat × Nat × Option Addr)} {g : Nat → Bool} {L : List As}
    (hle : H1.le H) (hap : Apart H1 H2) (h1 : ArI H1 a mp cl tk cap used peak bufs) (h' : ArI H' a mp cl' tk' cap used' peak' (gaveB g bufs)) (h2 : H2.le H') (hs : Sep L H2) (hu : used' = sumB (gaveB g bufs)) : Sep (Ar a cap peak' (gaveB g bufs) :: L) H' := by
  have hd : ∀ q o, H1 q = some o → (H1 q).isSome = true := fun q o h => by rw [h]; rfl
  refine ⟨fun q => if (H1 q).isSome = true then H' q else none, H2, fun q o hq => ?_, h2, fun q => ?_, ⟨mp, cl', tk', ?_⟩, hs⟩
  · simp only at hq
    split at hq
    · exact hq
    · cases hq
  · rcases hap q with e | e
    · left; simp [e]
    · exact .inr e
  · rw [← hu]
    refine h'.cut (fun q => (H1 q).isSome) (hd _ _ h1.ai.ha) (hd _ _ h1.ai.hm) (fun y hy => ?_)
    obtain ⟨z, hz, e⟩ := List.mem_map.1 (show y.1 ∈ bufs.map (·.1) by rw [← gaveB_fst g]; exact List.mem_map_of_mem hy)
    have := hd _ _ (h1.hd z hz)
    rw [e] at this; exact this

theorem give_core {a : Nat} {cap peak : Int} {bufs : List (Nat × Nat × Option Addr)} (vb n mm : Nat) (xs : List Value) (ps : List (Option Nat)) (hn : n = ps.length) (hn2 : n ≤ 9000000000000000000) (hx : xs.take n = ps.map optP) (hps : ∀ b, some b ∈ ps → ∃ n A, (b, n, A) ∈ bufs)
    {H : Hp} (hs : Sep [Ar a cap peak bufs, pts vb (.row xs 105 mm)] H) : ∃ mp cl tk, AI H a mp cl tk cap (sumB bufs) peak ∧ sumB bufs ≤ peak ∧ (∀ H', (∀ q xs e m, H q = some (.row xs e m) → H' q = some (.row xs e m)) → Cells H' (some ⟨vb, 0, none⟩) (ps.map optP)) ∧ (∀ b, some b ∈ ps → ∃ A n m, H b = some (bufO a A n m)) ∧
      ∀ H' tk', Gave H H' a mp cl tk tk' cap peak (fun q => some q ∈ ps) → Sep [Ar a cap peak (gaveB (fun q => decide (some q ∈ ps)) bufs), pts vb (.row xs 105 mm)] H' := by
  have hv := Sep.get hs 1 rfl
  obtain ⟨H1, H2, k1, k2, k3, ⟨mp, cl, tk, h1⟩, k5⟩ := hs
  have h := h1.upw k1
  refine ⟨mp, cl, tk, h.ai, h.up, fun H' hH' => ?_, fun b hb => ?_, fun H' tk' hg => ?_⟩
  · have := Cells.row (hH' vb xs _ _ hv) 0 n
    rw [List.drop_zero, hx] at this; exact this
  · obtain ⟨n, A, hb⟩ := hps b hb
    exact ⟨_, _, _, h.hd _ hb⟩
  have h' := h.gave hg (gb := fun q => decide (some q ∈ ps)) (fun q => by simp)
  have hvb : ∀ q, q ≠ vb ∨ H1 q = none := fun q => by
    by_cases e : q = vb
    · right; rw [e]
      have h2 : H2 vb = some (.row xs 105 mm) := Sep.get k5 0 rfl
      exact (k3 vb).resolve_right (by rw [h2]; simp)
    · exact .inl e
  refine ArI.back (H2 := fun q => if q = vb then some (.row xs 105 mm) else none) k1 (fun q => ?_) h1 h' (fun q o hq => ?_) ⟨_, fun _ => none, Hp.le_refl _, fun b o h => (by cases h), fun b => .inr rfl, (if_pos rfl : (if vb = vb then some _ else none) = _), trivial⟩ rfl
  · rcases hvb q with e | e
    · right; simp only [e, if_false]
    · exact .inl e
  · simp only at hq
    split at hq
    · rename_i e; subst e; cases hq
      refine hg.keep q _ hv (fun e => ?_) (fun e => ?_) (fun _ x hx' e => ?_)
      · rw [e, h.ai.ha] at hv; unfold arenaO at hv; cases hv
      · rw [e, h.ai.hm] at hv; unfold mapO at hv; cases hv
      · obtain ⟨_, A, n, m, k⟩ := h.ai.hb x hx'
        rw [e, hv] at k; unfold bufO at k; cases k
    · cases hq

theorem Give_tr {a : Nat} {cap peak : Int} {bufs : List (Nat × Nat × Option Addr)} (vb n m mm : Nat) (xs : List Value) (ps : List (Option Nat)) (hn : n = ps.length) (hn2 : n ≤ 9000000000000000000) (hx : xs.take n = ps.map optP) (hps : ∀ b, some b ∈ ps → ∃ n A, (b, n, A) ∈ bufs) :
    Tr Try.prog 44 #[.pointer (some ⟨a, 0, none⟩), .slice (some ⟨vb, 0, none⟩) n m] [Ar a cap peak bufs, pts vb (.row xs 105 mm)] fun v M =>
      v = .tuple #[] ∧ M = [Ar a cap peak (gaveB (fun q => decide (some q ∈ ps)) bufs), pts vb (.row xs 105 mm)] := fun H hs => by
  obtain ⟨mp, cl, tk, h1, h2, h3, h4, h5⟩ := give_core vb n mm xs ps hn hn2 hx hps hs
  refine (Give_ok a mp cl cap (sumB bufs) peak h2 tk H h1 (some ⟨vb, 0, none⟩) n m ps hn hn2 h3 h4).mono ?_
  rintro v H' ⟨rfl, tk', hg⟩
  exact ⟨_, ⟨rfl, rfl⟩, h5 H' tk' hg⟩

theorem Give_trD {a : Nat} {cap peak : Int} {bufs : List (Nat × Nat × Option Addr)} (vb n m mm : Nat) (xs : List Value) (ps : List (Option Nat)) (hn : n = ps.length) (hn2 : n ≤ 9000000000000000000) (hx : xs.take n = ps.map optP) (hps : ∀ b, some b ∈ ps → ∃ n A, (b, n, A) ∈ bufs) :
    TrD Try.prog 44 #[.pointer (some ⟨a, 0, none⟩), .slice (some ⟨vb, 0, none⟩) n m] [Ar a cap peak bufs, pts vb (.row xs 105 mm)] fun v M =>
      v = .tuple #[] ∧ M = [Ar a cap peak (gaveB (fun q => decide (some q ∈ ps)) bufs), pts vb (.row xs 105 mm)] := fun H hs => by
  obtain ⟨mp, cl, tk, h1, h2, h3, h4, h5⟩ := give_core vb n mm xs ps hn hn2 hx hps hs
  refine HCallsD.mono (W_arena_Arena_Give.okD _ _ _ _ _ _ (Give_W a mp cl cap (sumB bufs) peak h2 tk H h1 (some ⟨vb, 0, none⟩) n m ps hn hn2 h3 h4)) ?_
  rintro v H' ⟨rfl, tk', hg⟩
  exact ⟨_, ⟨rfl, rfl⟩, h5 H' tk' hg⟩

/-- One buffer is given back, and forgotten. -/
theorem Give_oneD {a : Nat} {cap peak : Int} {bufs : List (Nat × Nat × Option Addr)} (vb b n : Nat) (A : Option Addr) (hnew : ∀ y ∈ bufs, y.1 ≠ b) :
    TrD Try.prog 44 #[.pointer (some ⟨a, 0, none⟩), .slice (some ⟨vb, 0, none⟩) 1 1] [Ar a cap peak (bufs ++ [(b, n, A)]), pts vb (.row [.pointer (some ⟨b, 0, none⟩)] 105 1)] fun v M =>
      v = .tuple #[] ∧ M = [Ar a cap peak bufs] := fun H hs => by
  refine (Give_trD vb 1 1 1 _ [some b] rfl (by omega) rfl (fun q hq => ?_) H hs).mono ?_
  · simp at hq; subst hq
    exact ⟨n, A, by simp⟩
  · rintro v H' ⟨M, ⟨rfl, rfl⟩, hs⟩
    refine ⟨_, ⟨rfl, rfl⟩, ?_⟩
    have hs := hs.re [0] rfl
    have e : gaveB (fun q => decide (some q ∈ [some b])) (bufs ++ [(b, n, A)]) = bufs ++ [(b, 0, none)] := by
      unfold gaveB
      rw [List.map_append]
      congr 1
      · refine (List.map_congr_left (g := id) fun y hy => ?_).trans (List.map_id _)
        have := hnew y hy
        simp [this]
      · simp
    rw [e] at hs
    obtain ⟨H1, H2, k1, k2, k3, ⟨mp, cl, tk, h1⟩, k5⟩ := hs
    refine ⟨H1, H2, k1, k2, k3, ⟨mp, cl, tk, ?_⟩, k5⟩
    have h2 := h1.less (fun y => decide (y.1 ≠ b)) (fun y hy hp => by
      rcases List.mem_append.1 hy with hy | hy
      · simp at hp; exact absurd hp (hnew y hy)
      · simp at hy; subst hy; rfl)
    have e2 : (bufs ++ [(b, 0, none)]).filter (fun y => decide (y.1 ≠ b)) = bufs := by
      rw [List.filter_append]
      have h3 : bufs.filter (fun y => decide (y.1 ≠ b)) = bufs := by
        rw [List.filter_eq_self]
        intro y hy; simpa using hnew y hy
      rw [h3]; simp
    rw [e2] at h2
    have e3 : sumB (bufs ++ [(b, 0, none)]) = sumB bufs := by rw [sumB_append]; simp [sumB]
    rw [e3] at h2
    exact h2

/-- Give of none. -/
theorem Give_none {a : Nat} {H : Hp} {L : List As} {cap peak : Int} {bufs : List (Nat × Nat × Option Addr)} (h : Sep L H) (i : Nat) (hi : L[i]? = some (Ar a cap peak bufs)) :
    HCalls Try.prog 44 #[.pointer (some ⟨a, 0, none⟩), .slice none 0 0] H (RetE (.tuple #[]) H) := by
  apply W_arena_Arena_Give.ok
  refine ⟨1, ?_⟩
  unfold W_arena_Arena_Give.l1
  exact BIf_dneg (by omega) (RetE.mk _ _)

theorem unseen_lt {tk : List (Nat × Int × Nat)} {seen : Array Nat} {x : Nat × Int × Nat} (hx : x ∈ unseen tk seen) : (unseen tk (seen.push x.2.2)).length < (unseen tk seen).length := by
  have e : unseen tk (seen.push x.2.2) = (unseen tk seen).filter fun y => y.2.2 != x.2.2 := by
    unfold unseen
    rw [List.filter_filter]
    congr 1
    funext y
    rw [Array.contains_push]
    cases seen.contains y.2.2 <;> simp [bne]
  rw [e]
  have : ∀ l : List (Nat × Int × Nat), x ∈ l → (l.filter fun y => y.2.2 != x.2.2).length < l.length := by
    intro l hl
    induction l with
    | nil => simp at hl
    | cons y l ih =>
      rcases List.mem_cons.1 hl with rfl | hl
      · rw [List.filter_cons_of_neg (by simp)]
        have := List.length_filter_le (fun y : Nat × Int × Nat => y.2.2 != x.2.2) l
        simp only [List.length_cons]; omega
      · have := ih hl
        have := List.length_filter_le (fun y : Nat × Int × Nat => y.2.2 != x.2.2) l
        rw [List.filter_cons]
        split <;> simp only [List.length_cons] <;> omega
  exact this _ hx

theorem nodup_inj {α β : Type} {f : α → β} : ∀ {l : List α}, (l.map f).Nodup → ∀ {x y : α}, x ∈ l → y ∈ l → f x = f y → x = y
  | [], _, _, _, h, _, _ => by simp at h
  | z :: l, hn, x, y, hx, hy, e => by
    simp only [List.map_cons, List.nodup_cons] at hn
    rcases List.mem_cons.1 hx with e1 | hx2
    · rcases List.mem_cons.1 hy with e2 | hy2
      · rw [e1, e2]
      · exact absurd (by rw [← e1, e]; exact List.mem_map_of_mem hy2) hn.1
    · rcases List.mem_cons.1 hy with e2 | hy2
      · exact absurd (by rw [← e2, ← e]; exact List.mem_map_of_mem hx2) hn.1
      · exact nodup_inj hn.2 hx2 hy2 e

theorem gaveB_all_sum (l : List (Nat × Nat × Option Addr)) : sumB (gaveB (fun _ => true) l) = 0 := by
  induction l with
  | nil => rfl
  | cons y l ih =>
    show sumB ((y.1, 0, none) :: gaveB (fun _ => true) l) = 0
    rw [sumB_cons, ih]; rfl

end Go.Proofs.Ytbnhfcdagoigkaa.Are
