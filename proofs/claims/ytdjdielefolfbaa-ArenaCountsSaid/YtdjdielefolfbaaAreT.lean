/- arena: Give and Reset, as contracts over parts of memory. -/
import Derived.Test.YtdjdielefolfbaaAreS
set_option linter.unusedSimpArgs false
set_option linter.unusedVariables false
set_option linter.unnecessarySimpa false
set_option linter.unusedSectionVars false
namespace Go.Proofs.Ytdjdielefolfbaa.Are
open Go Go.Hw Go.Proofs.Ytdjdielefolfbaa.W

theorem ArI.cut {H : Hp} {a mp cl : Nat} {tk : List (Nat × Int × Nat)} {cap used peak : Int} {bufs : List (Nat × Nat × Option Addr)} (h : ArI H a mp cl tk cap used peak bufs) (D : Nat → Bool) (h1 : D a = true) (h2 : D mp = true) (h3 : ∀ y ∈ bufs, D y.1 = true) :
    ArI (fun q => if D q = true then H q else none) a mp cl tk cap used peak bufs := by
  have g : ∀ q o, D q = true → H q = some o → (fun q => if D q = true then H q else none) q = some o := fun q o e1 e2 => by
    show (if D q = true then H q else none) = some o
    rw [if_pos e1]; exact e2
  refine ⟨⟨h.ai.ne, g _ _ h1 h.ai.ha, g _ _ h2 h.ai.hm, h.ai.nd, fun x hx => ?_, h.ai.hu, h.ai.bn⟩, h.up, fun y hy => g _ _ (h3 y hy) (h.hd y hy), h.tb, h.bt, h.bn, h.hz⟩
  obtain ⟨k1, A, n, m, k2⟩ := h.ai.hb x hx
  obtain ⟨A', hA'⟩ := h.tb x hx
  exact ⟨k1, A, n, m, g _ _ (h3 _ hA') k2⟩

theorem Sep.head {A : As} {L : List As} {H : Hp} : Sep (A :: L) H → ∃ H1 H2, H1.le H ∧ H2.le H ∧ Apart H1 H2 ∧ A H1 ∧ Sep L H2 := id

/-- What is left behind a change inside an arena. -/
theorem ArI.back {H H1 H2 H' : Hp} {a mp cl cl' : Nat} {tk tk' : List (Nat × Int × Nat)} {cap used used' peak peak' : Int} {bufs : List (Nat × Nat × Option Addr)} {g : Nat → Bool} {L : List As}
    (hle : H1.le H) (hap : Apart H1 H2) (h1 : ArI H1 a mp cl tk cap used peak bufs) (h' : ArI H' a mp cl' tk' cap used' peak' (gaveB g bufs)) (h2 : H2.le H') (hs : Sep L H2) (hu : used' = sumB (gaveB g bufs)) : Sep (Ar a cap peak' (gaveB g bufs) :: L) H' := by
  have hd : ∀ q o, H1 q = some o → (H1 q).isSome = true := fun q o h => by rw [h]; rfl
  refine ⟨fun q => if (H1 q).isSome = true then H' q else none, H2, fun q o hq => ?_, h2, fun q => ?_, ⟨mp, cl', tk', ?_⟩, hs⟩
  · simp only at hq
    split at hq
    · exact hq
    · cases hq
  · rcases hap q with e | e
    · left; simp [e]
    · exact .inr e
  · rw [← hu]
    refine h'.cut (fun q => (H1 q).isSome) (hd _ _ h1.ai.ha) (hd _ _ h1.ai.hm) (fun y hy => ?_)
    obtain ⟨z, hz, e⟩ := List.mem_map.1 (show y.1 ∈ bufs.map (·.1) by rw [← gaveB_fst g]; exact List.mem_map_of_mem hy)
    have := hd _ _ (h1.hd z hz)
    rw [e] at this; exact this

theorem Give_tr {a : Nat} {cap peak : Int} {bufs : List (Nat × Nat × Option Addr)} (vb n m mm : Nat) (xs : List Value) (ps : List (Option Nat)) (hn : n = ps.length) (hn2 : n ≤ 9000000000000000000) (hx : xs.take n = ps.map optP) (hps : ∀ b, some b ∈ ps → ∃ n A, (b, n, A) ∈ bufs) :
    Tr Try.prog 31 #[.pointer (some ⟨a, 0, none⟩), .slice (some ⟨vb, 0, none⟩) n m] [Ar a cap peak bufs, pts vb (.row xs 32 mm)] fun v M =>
      v = .tuple #[] ∧ M = [Ar a cap peak (gaveB (fun q => decide (some q ∈ ps)) bufs), pts vb (.row xs 32 mm)] := fun H hs => by
  have hv := Sep.get hs 1 rfl
  obtain ⟨H1, H2, k1, k2, k3, ⟨mp, cl, tk, h1⟩, k5⟩ := hs
  have h := h1.upw k1
  refine (Give_ok a mp cl cap (sumB bufs) peak h.up tk H h.ai (some ⟨vb, 0, none⟩) n m ps hn hn2 (fun H' hH' => ?_) (fun b hb => ?_)).mono ?_
  · have := Cells.row (hH' vb xs _ _ hv) 0 n
    rw [List.drop_zero, hx] at this; exact this
  · obtain ⟨n, A, hb⟩ := hps b hb
    exact ⟨_, _, _, h.hd _ hb⟩
  rintro v H' ⟨rfl, tk', hg⟩
  refine ⟨_, ⟨rfl, rfl⟩, ?_⟩
  have h' := h.gave hg (gb := fun q => decide (some q ∈ ps)) (fun q => by simp)
  have hvb : ∀ q, q ≠ vb ∨ H1 q = none := fun q => by
    by_cases e : q = vb
    · right; rw [e]
      have h2 : H2 vb = some (.row xs 32 mm) := Sep.get k5 0 rfl
      exact (k3 vb).resolve_right (by rw [h2]; simp)
    · exact .inl e
  refine ArI.back (H2 := fun q => if q = vb then some (.row xs 32 mm) else none) k1 (fun q => ?_) h1 h' (fun q o hq => ?_) ⟨_, fun _ => none, Hp.le_refl _, fun b o h => (by cases h), fun b => .inr rfl, (if_pos rfl : (if vb = vb then some _ else none) = _), trivial⟩ rfl
  · rcases hvb q with e | e
    · right; simp only [e, if_false]
    · exact .inl e
  · simp only at hq
    split at hq
    · rename_i e; subst e; cases hq
      refine hg.keep q _ hv (fun e => ?_) (fun e => ?_) (fun _ x hx' e => ?_)
      · rw [e, h.ai.ha] at hv; unfold arenaO at hv; cases hv
      · rw [e, h.ai.hm] at hv; unfold mapO at hv; cases hv
      · obtain ⟨_, A, n, m, k⟩ := h.ai.hb x hx'
        rw [e, hv] at k; unfold bufO at k; cases k
    · cases hq

/-- Give of none. -/
theorem Give_none {a : Nat} {H : Hp} {L : List As} {cap peak : Int} {bufs : List (Nat × Nat × Option Addr)} (h : Sep L H) (i : Nat) (hi : L[i]? = some (Ar a cap peak bufs)) :
    HCalls Try.prog 31 #[.pointer (some ⟨a, 0, none⟩), .slice none 0 0] H (RetE (.tuple #[]) H) := by
  apply W_arena_Arena_Give.ok
  refine ⟨1, ?_⟩
  unfold W_arena_Arena_Give.l1
  exact BIf_dneg (by omega) (RetE.mk _ _)

theorem unseen_lt {tk : List (Nat × Int × Nat)} {seen : Array Nat} {x : Nat × Int × Nat} (hx : x ∈ unseen tk seen) : (unseen tk (seen.push x.2.2)).length < (unseen tk seen).length := by
  have e : unseen tk (seen.push x.2.2) = (unseen tk seen).filter fun y => y.2.2 != x.2.2 := by
    unfold unseen
    rw [List.filter_filter]
    congr 1
    funext y
    rw [Array.contains_push]
    cases seen.contains y.2.2 <;> simp [bne]
  rw [e]
  have : ∀ l : List (Nat × Int × Nat), x ∈ l → (l.filter fun y => y.2.2 != x.2.2).length < l.length := by
    intro l hl
    induction l with
    | nil => simp at hl
    | cons y l ih =>
      rcases List.mem_cons.1 hl with rfl | hl
      · rw [List.filter_cons_of_neg (by simp)]
        have := List.length_filter_le (fun y : Nat × Int × Nat => y.2.2 != x.2.2) l
        simp only [List.length_cons]; omega
      · have := ih hl
        have := List.length_filter_le (fun y : Nat × Int × Nat => y.2.2 != x.2.2) l
        rw [List.filter_cons]
        split <;> simp only [List.length_cons] <;> omega
  exact this _ hx

theorem nodup_inj {α β : Type} {f : α → β} : ∀ {l : List α}, (l.map f).Nodup → ∀ {x y : α}, x ∈ l → y ∈ l → f x = f y → x = y
  | [], _, _, _, h, _, _ => by simp at h
  | z :: l, hn, x, y, hx, hy, e => by
    simp only [List.map_cons, List.nodup_cons] at hn
    rcases List.mem_cons.1 hx with e1 | hx2
    · rcases List.mem_cons.1 hy with e2 | hy2
      · rw [e1, e2]
      · exact absurd (by rw [← e1, e]; exact List.mem_map_of_mem hy2) hn.1
    · rcases List.mem_cons.1 hy with e2 | hy2
      · exact absurd (by rw [← e2, ← e]; exact List.mem_map_of_mem hx2) hn.1
      · exact nodup_inj hn.2 hx2 hy2 e

theorem reset_loop (K : Value → Hp → Prop) (a mp cl it : Nat) (cap used peak : Int) (tk : List (Nat × Int × Nat)) (H0 : Hp) (h0 : AI H0 a mp cl tk cap used peak) (hit : H0 it = none)
    (k : ∀ H', (∀ q o, H0 q = some o → q ≠ a → q ≠ mp → (∀ x ∈ tk, x.1 ≠ q) → H' q = some o) → (∀ x ∈ tk, H' x.1 = some (bufO a none 0 0)) → H' a = some (arenaO cap 0 0 mp) → H' mp = some (mapO [] cl) → K (.tuple #[]) H') :
    ∀ (d : Nat) (H : Hp) (seen : Array Nat), (unseen tk seen).length < d → (∀ q o, H0 q = some o → (∀ x ∈ tk, x.1 = q → x.2.2 ∉ seen) → H q = some o) → (∀ x ∈ tk, x.2.2 ∈ seen → H x.1 = some (bufO a none 0 0)) →
      (∃ last, H it = some (iterO mp cl seen last) ∧ ∀ x ∈ tk, x.2.2 < last) → W_arena_Arena_Reset.l1 K d (some ⟨a, 0, none⟩) (.pointer (some ⟨it, 0, none⟩)) H
  | 0, _, _, h, _, _, _ => by omega
  | d + 1, H, seen, hd, hold, hnew, ⟨last, hi, hlast⟩ => by
    have hxa : ∀ x ∈ tk, x.1 ≠ a ∧ x.1 ≠ mp := fun x hx => by
      obtain ⟨_, A, n, m, g⟩ := h0.hb x hx
      refine ⟨fun e => ?_, fun e => ?_⟩
      · rw [e, h0.ha] at g; unfold arenaO bufO at g; cases g
      · rw [e, h0.hm] at g; unfold mapO bufO at g; cases g
    have ha : H a = some (arenaO cap used peak mp) := hold a _ h0.ha (fun x hx e => absurd e (hxa x hx).1)
    have hm : H mp = some (mapO tk cl) := hold mp _ h0.hm (fun x hx e => absurd e (hxa x hx).2)
    unfold W_arena_Arena_Reset.l1
    refine next_map hi hm h0.bn.2 hlast (fun x hx => ?_) (fun hU => ?_)
    · obtain ⟨hxt, hxs⟩ := List.mem_filter.1 hx
      have hxi : x.1 ≠ it := fun e => by
        obtain ⟨_, A, n, m, g⟩ := h0.hb x hxt
        rw [e, hit] at g; cases g
      have hmi : mp ≠ it := fun e => by have := h0.hm; rw [e, hit] at this; cases this
      obtain ⟨_, Ax, nx, mx, hxb⟩ := h0.hb x hxt
      have hxH := hold x.1 _ hxb (fun z hz e => by
        have : z = x := nodup_inj h0.nd hz hxt e
        rw [this]
        intro h; simp at hxs; exact hxs h)
      unfold ptrV
      simp only [Ex, List.getElem?_toArray, List.getElem?_cons_zero, DB_bool, BIf_true]
      refine entry_map (Hp.set_same _ _ _) (by rw [Hp.set_other _ _ hmi]; exact hm) hxt (by simp) h0.bn.1 ?_
      unfold ptrV
      simp only [Ex, List.getElem?_toArray, List.getElem?_cons_zero, DP_pointer, NN_some, Addr.add_lit', Nat.zero_add, Nat.add_zero]
      refine St_obj (c := #[ptrV a, .slice Ax nx mx]) (e := 92) (by rw [Hp.set_other _ _ hxi]; exact hxH) (by simp) rfl ?_
      have := unseen_lt hx
      refine reset_loop K a mp cl it cap used peak tk H0 h0 hit k d _ (seen.push x.2.2) (by omega) (fun q o hq h2 => ?_) (fun z hz h2 => ?_) ⟨cl, by rw [Hp.set_other _ _ (Ne.symm hxi)]; exact Hp.set_same _ _ _, h0.bn.2⟩
      · have e1 : q ≠ x.1 := fun e => h2 x hxt e.symm (by simp)
        have e2 : q ≠ it := fun e => by rw [e, hit] at hq; cases hq
        rw [Hp.set_other _ _ e1, Hp.set_other _ _ e2]
        exact hold q o hq (fun z hz e3 e4 => h2 z hz e3 (by simp [e4]))
      · by_cases e : z.1 = x.1
        · rw [e]; exact Hp.set_same _ _ _
        · have e2 : z.1 ≠ it := fun e => by
            obtain ⟨_, A, n, m, g⟩ := h0.hb z hz
            rw [e, hit] at g; cases g
          rw [Hp.set_other _ _ e, Hp.set_other _ _ e2]
          refine hnew z hz ?_
          rcases Array.mem_push.1 h2 with h3 | h3
          · exact h3
          · exact absurd (congrArg (·.1) (nodup_inj h0.bn.1 hz hxt h3)) e
    · obtain ⟨jb, hjb, hsb⟩ := t_buf
      simp only [Ex, List.getElem?_toArray, List.getElem?_cons_zero, DB_bool, BIf_false, NN_some, Addr.add_lit', Nat.zero_add, Nat.add_zero]
      refine Ld_obj ha (v := .map (some mp)) rfl ?_
      simp only [DI_int', DB_bool, DS_string, DP_pointer, DSl_slice, DM_map, DA_agg, DTup_tuple, DCons_cons, DNil_nil, NN_some, BIf_true, BIf_false, BIf_same, List.toList_toArray, Bool.not_true, Bool.not_false]
      refine clear_ptr t_ptr hjb hsb t_map hm ?_
      refine St_obj (c := #[.int .i64 cap, .int .i64 used, .int .i64 peak, .map (some mp)]) (e := 65) (by rw [Hp.set_other _ _ h0.ne]; exact ha) (by simp) rfl ?_
      refine St_obj (Hp.set_same _ _ _) (by simp) rfl ?_
      rw [Hp.set_set]
      have hall : ∀ x ∈ tk, x.2.2 ∈ seen := fun x hx => by
        by_cases e : seen.contains x.2.2 = true
        · exact Array.contains_iff_mem.1 e
        · have : x ∈ unseen tk seen := List.mem_filter.2 ⟨hx, by simpa using e⟩
          rw [hU] at this; simp at this
      refine k _ (fun q o hq h1 h2 h3 => ?_) (fun x hx => ?_) (Hp.set_same _ _ _) (by rw [Hp.set_other _ _ (Ne.symm h0.ne)]; exact Hp.set_same _ _ _)
      · rw [Hp.set_other _ _ h1, Hp.set_other _ _ h2]
        exact hold q o hq (fun x hx e => absurd e (h3 x hx))
      · rw [Hp.set_other _ _ (hxa x hx).1, Hp.set_other _ _ (hxa x hx).2]
        exact hnew x hx (hall x hx)

theorem gaveB_all_sum (l : List (Nat × Nat × Option Addr)) : sumB (gaveB (fun _ => true) l) = 0 := by
  induction l with
  | nil => rfl
  | cons y l ih =>
    show sumB ((y.1, 0, none) :: gaveB (fun _ => true) l) = 0
    rw [sumB_cons, ih]; rfl

theorem Reset_tr {a : Nat} {cap peak : Int} {bufs : List (Nat × Nat × Option Addr)} :
    Tr Try.prog 32 #[.pointer (some ⟨a, 0, none⟩)] [Ar a cap peak bufs] fun v M => v = .tuple #[] ∧ M = [Ar a cap 0 (gaveB (fun _ => true) bufs)] := fun H hs => by
  obtain ⟨H1, H2, k1, k2, k3, ⟨mp, cl, tk, h1⟩, k5⟩ := hs
  have h := h1.upw k1
  apply W_arena_Arena_Reset.ok
  unfold W_arena_Arena_Reset
  simp only [NN_some, Addr.add_lit', Nat.zero_add, Nat.add_zero]
  refine Ld_obj h.ai.ha (v := .map (some mp)) rfl ?_
  simp only [DI_int', DB_bool, DS_string, DP_pointer, DSl_slice, DM_map, DA_agg, DTup_tuple, DCons_cons, DNil_nil, NN_some, BIf_true, BIf_false, BIf_same, List.toList_toArray, Bool.not_true, Bool.not_false]
  refine range_map t_map h.ai.hm fun it hit => ?_
  refine ⟨_, reset_loop _ a mp cl it cap (sumB bufs) peak tk H h.ai hit (fun H' g1 g2 g3 g4 => ?_) ((unseen tk #[]).length + 1) _ #[] (by omega) (fun q o hq _ => ?_) (fun x _ hx => by simp at hx) ⟨cl, Hp.set_same _ _ _, h.ai.bn.2⟩⟩
  · refine ⟨_, ⟨rfl, rfl⟩, ?_⟩
    have hnn := h.nn
    have hs0 := gaveB_all_sum bufs
    refine ArI.back (H2 := fun _ => none) (used' := 0) k1 (fun q => .inr rfl) h1 (cl' := cl) (tk' := []) ⟨⟨h.ai.ne, g3, g4, by simp, fun x hx => by simp at hx, ⟨rfl, by omega, by omega⟩, by simp⟩, Int.le_refl _, fun y hy => ?_, fun x hx => by simp at hx, fun y hy hy1 => ?_, by rw [gaveB_fst]; exact h.bn, fun y hy h0 => ?_⟩ (fun _ _ h => nomatch h) trivial hs0.symm
    · obtain ⟨z, hz, rfl⟩ := List.mem_map.1 hy
      have hz1 := h.hd z hz
      rw [if_pos rfl]
      by_cases hx : ∃ x ∈ tk, x.1 = z.1
      · obtain ⟨x, hx, hxe⟩ := hx
        have := g2 x hx
        rw [hxe] at this; exact this
      · have h0 : z.2.1 = 0 := by
          by_cases h1 : 1 ≤ z.2.1
          · obtain ⟨n, hn⟩ := h.bt z hz h1
            exact absurd ⟨_, hn, rfl⟩ hx
          · omega
        have e1 : z.1 ≠ a := fun e => by rw [e, h.ai.ha] at hz1; unfold arenaO bufO at hz1; cases hz1
        have e2 : z.1 ≠ mp := fun e => by rw [e, h.ai.hm] at hz1; unfold mapO bufO at hz1; cases hz1
        have := g1 z.1 _ hz1 e1 e2 (fun x hx' e3 => hx ⟨x, hx', e3⟩)
        rw [h0, h.hz z hz h0] at this
        exact this
    · obtain ⟨z, hz, rfl⟩ := List.mem_map.1 hy
      simp at hy1
    · obtain ⟨z, hz, rfl⟩ := List.mem_map.1 hy
      rfl
  · rw [Hp.set_other _ _ (fun e => by rw [e, hit] at hq; cases hq)]; exact hq

end Go.Proofs.Ytdjdielefolfbaa.Are
