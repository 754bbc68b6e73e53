/- arena.Give. -/
import Derived.Test.YtbnhfcdagoigkaaAreC
set_option maxRecDepth 100000
set_option linter.unusedSimpArgs false
set_option linter.unusedVariables false
set_option linter.unnecessarySimpa false
set_option linter.unusedSectionVars false
namespace Go.Proofs.Ytbnhfcdagoigkaa.Are
open Go Go.Hw Go.Proofs.Ytbnhfcdagoigkaa.W

def optP (p : Option Nat) : Value := match p with | some b => ptrV b | none => .pointer none

def sumTk (tk : List (Nat × Int × Nat)) : Int := (tk.map fun x => x.2.1).sum

/-- An arena in memory. -/
structure AI (H : Hp) (a mp cl : Nat) (tk : List (Nat × Int × Nat)) (cap used peak : Int) : Prop where
  ne : a ≠ mp
  ha : H a = some (arenaO cap used peak mp)
  hm : H mp = some (mapO tk cl)
  nd : (tk.map (·.1)).Nodup
  hb : ∀ x ∈ tk, 1 ≤ x.2.1 ∧ ∃ A n m, H x.1 = some (bufO a A n m)
  hu : used = sumTk tk ∧ used ≤ cap ∧ cap ≤ 16777216
  bn : (tk.map (·.2.2)).Nodup ∧ ∀ x ∈ tk, x.2.2 < cl

theorem sum_nonneg : ∀ (tk : List (Nat × Int × Nat)), (∀ x ∈ tk, 1 ≤ x.2.1) → 0 ≤ sumTk tk
  | [], _ => by simp [sumTk]
  | x :: l, h => by
    have h1 := h x (by simp)
    have h2 := sum_nonneg l (fun y hy => h y (by simp [hy]))
    unfold sumTk at h2 ⊢
    simp only [List.map_cons, List.sum_cons]; omega

theorem sum_filter : ∀ (tk : List (Nat × Int × Nat)) (x : Nat × Int × Nat), (tk.map (·.1)).Nodup → x ∈ tk → sumTk (tk.filter fun y => y.1 ≠ x.1) = sumTk tk - x.2.1
  | [], x, _, h => by simp at h
  | y :: l, x, hn, h => by
    simp only [List.map_cons, List.nodup_cons] at hn
    rcases List.mem_cons.1 h with rfl | h
    · rw [List.filter_cons_of_neg (by simp)]
      have : l.filter (fun y => decide (y.1 ≠ x.1)) = l := by
        rw [List.filter_eq_self]
        intro z hz
        have : z.1 ≠ x.1 := fun e => hn.1 (by rw [← e]; exact List.mem_map_of_mem hz)
        simpa using this
      rw [this]
      unfold sumTk
      simp only [List.map_cons, List.sum_cons]; omega
    · have hne : y.1 ≠ x.1 := fun e => hn.1 (by rw [e]; exact List.mem_map_of_mem h)
      rw [List.filter_cons_of_pos (by simpa using hne)]
      have := sum_filter l x hn.2 h
      unfold sumTk at this ⊢
      simp only [List.map_cons, List.sum_cons, this]; omega

theorem findR_some (a : Nat) : ∀ (l : List (Nat × Int × Nat)) (i k : Nat) (v : Value), findR a l i = some (k, v) → ∃ x ∈ l, x.1 = a ∧ v = .int .i64 x.2.1
  | [], i, k, v, h => by cases h
  | x :: l, i, k, v, h => by
    unfold findR at h
    split at h
    · rename_i e; cases h; exact ⟨x, by simp, e.symm, rfl⟩
    · obtain ⟨y, hy, h2⟩ := findR_some a l (i + 1) k v h
      exact ⟨y, by simp [hy], h2⟩
theorem findR_nil (a : Nat) : ∀ (l : List (Nat × Int × Nat)) (i : Nat), findR a l i = none → ∀ x ∈ l, x.1 ≠ a
  | [], i, _ => by simp
  | x :: l, i, h => by
    unfold findR at h
    split at h
    · cases h
    · rename_i e
      intro y hy
      rcases List.mem_cons.1 hy with rfl | hy
      · exact fun e2 => e e2.symm
      · exact findR_nil a l (i + 1) h y hy

theorem AI.plain {H : Hp} {a mp cl : Nat} {tk : List (Nat × Int × Nat)} {cap used peak : Int} (h : AI H a mp cl tk cap used peak) : ∀ x ∈ tk, PlainB H x.1 := fun x hx => by
  obtain ⟨_, A, n, m, g⟩ := h.hb x hx
  exact ⟨_, _, g⟩

/-- What Give leaves: the arena without the buffers; these have no words; all else stands. -/
structure Gave (H H' : Hp) (a mp cl : Nat) (tk tk' : List (Nat × Int × Nat)) (cap peak : Int) (gone : Nat → Prop) : Prop where
  ai : AI H' a mp cl tk' cap (sumTk tk') peak
  mem : ∀ x, x ∈ tk' ↔ x ∈ tk ∧ ¬ gone x.1
  keep : ∀ q o, H q = some o → q ≠ a → q ≠ mp → (gone q → ∀ x ∈ tk, x.1 ≠ q) → H' q = some o
  nil : ∀ x ∈ tk, gone x.1 → H' x.1 = some (bufO a none 0 0)
  sle : sumTk tk' ≤ sumTk tk

theorem Gave.same {H H' : Hp} {a mp cl : Nat} {tk tk' : List (Nat × Int × Nat)} {cap peak : Int} {g g' : Nat → Prop} (h : Gave H H' a mp cl tk tk' cap peak g) (h1 : ∀ q, g q → g' q) (h2 : ∀ q, g' q → g q ∨ ∀ x ∈ tk', x.1 ≠ q) : Gave H H' a mp cl tk tk' cap peak g' where
  ai := h.ai
  mem := fun x => by
    rw [h.mem]
    constructor
    · intro ⟨h3, h4⟩
      refine ⟨h3, fun h5 => ?_⟩
      rcases h2 _ h5 with h6 | h6
      · exact h4 h6
      · exact h6 x ((h.mem x).2 ⟨h3, h4⟩) rfl
    · intro ⟨h3, h4⟩
      exact ⟨h3, fun h5 => h4 (h1 _ h5)⟩
  keep := fun q o hq h3 h4 h5 => h.keep q o hq h3 h4 (fun h6 => h5 (h1 _ h6))
  nil := fun x hx h3 => by
    by_cases h4 : g x.1
    · exact h.nil x hx h4
    · rcases h2 _ h3 with h6 | h6
      · exact absurd h6 h4
      · exact absurd rfl (h6 x ((h.mem x).2 ⟨hx, h4⟩))
  sle := h.sle

theorem Gave.one {H H' : Hp} {a mp cl : Nat} {tk tk' : List (Nat × Int × Nat)} {cap used peak : Int} {g g' : Nat → Prop} (h0 : AI H a mp cl tk cap used peak) (h : Gave H H' a mp cl tk tk' cap peak g) {x : Nat × Int × Nat} (hx : x ∈ tk') (hg : ∀ q, g' q ↔ g q ∨ q = x.1) :
    Gave H (((H'.set mp (mapO (tk'.filter fun y => y.1 ≠ x.1) cl)).set a (arenaO cap (sumTk tk' - x.2.1) peak mp)).set x.1 (bufO a none 0 0)) a mp cl tk (tk'.filter fun y => y.1 ≠ x.1) cap peak g' := by
  obtain ⟨g1, A, n, m, g2⟩ := h.ai.hb x hx
  have hxa : x.1 ≠ a := fun e => by rw [e, h.ai.ha] at g2; unfold arenaO bufO at g2; cases g2
  have hxm : x.1 ≠ mp := fun e => by rw [e, h.ai.hm] at g2; unfold mapO bufO at g2; cases g2
  have hne := h.ai.ne
  have hsum := sum_filter tk' x h.ai.nd hx
  have hsub : ∀ y, y ∈ (tk'.filter fun y => decide (y.1 ≠ x.1)) ↔ y ∈ tk' ∧ y.1 ≠ x.1 := fun y => by rw [List.mem_filter]; simp
  have hkeep : ∀ q o, H' q = some o → q ≠ a → q ≠ mp → q ≠ x.1 → (((H'.set mp (mapO (tk'.filter fun y => y.1 ≠ x.1) cl)).set a (arenaO cap (sumTk tk' - x.2.1) peak mp)).set x.1 (bufO a none 0 0)) q = some o := fun q o hq h1 h2 h3 => by
    rw [Hp.set_other _ _ h3, Hp.set_other _ _ h1, Hp.set_other _ _ h2]; exact hq
  refine ⟨⟨hne, ?_, ?_, ?_, ?_, ?_, List.Nodup.sublist (List.Sublist.map _ (List.filter_sublist)) h.ai.bn.1, fun y hy => h.ai.bn.2 y (List.mem_filter.1 hy).1⟩, fun y => ?_, fun q o hq h1 h2 h3 => ?_, fun y hy h1 => ?_, by rw [hsum]; have := h.sle; omega⟩
  · rw [Hp.set_other _ _ (Ne.symm hxa), hsum]; exact Hp.set_same _ _ _
  · rw [Hp.set_other _ _ (Ne.symm hxm), Hp.set_other _ _ (Ne.symm hne)]; exact Hp.set_same _ _ _
  · exact List.Nodup.sublist (List.Sublist.map _ (List.filter_sublist)) h.ai.nd
  · intro y hy
    obtain ⟨h1, h2⟩ := (hsub y).1 hy
    obtain ⟨h3, A', n', m', h4⟩ := h.ai.hb y h1
    refine ⟨h3, A', n', m', hkeep _ _ h4 (fun e => ?_) (fun e => ?_) h2⟩
    · rw [e, h.ai.ha] at h4; unfold arenaO bufO at h4; cases h4
    · rw [e, h.ai.hm] at h4; unfold mapO bufO at h4; cases h4
  · have := h.ai.hu
    exact ⟨rfl, by rw [hsum]; omega, this.2.2⟩
  · rw [hsub, h.mem, hg]
    constructor
    · rintro ⟨⟨h1, h2⟩, h3⟩; exact ⟨h1, fun h4 => h4.elim h2 h3⟩
    · rintro ⟨h1, h2⟩; exact ⟨⟨h1, fun h3 => h2 (.inl h3)⟩, fun h3 => h2 (.inr h3)⟩
  · have h4 := h.keep q o hq h1 h2 (fun h5 => h3 ((hg q).2 (.inl h5)))
    refine hkeep q o h4 h1 h2 (fun e => ?_)
    exact h3 ((hg q).2 (.inr e)) x ((h.mem x).1 hx).1 e.symm
  · by_cases e : y.1 = x.1
    · rw [e]; exact Hp.set_same _ _ _
    · have h2 : g y.1 := ((hg _).1 h1).resolve_right e
      have h3 := h.nil y hy h2
      refine hkeep _ _ h3 (fun e2 => ?_) (fun e2 => ?_) e
      · rw [e2, h.ai.ha] at h3; unfold arenaO bufO at h3; cases h3
      · rw [e2, h.ai.hm] at h3; unfold mapO bufO at h3; cases h3

theorem give_loop (K : Value → Hp → Prop) (a mp cl : Nat) (cap used peak : Int) (hpk : used ≤ peak) (tk : List (Nat × Int × Nat)) (H : Hp) (h0 : AI H a mp cl tk cap used peak) (A : Option Addr) (n m : Nat) (ps : List (Option Nat)) (hn : n = ps.length) (hn2 : n ≤ 9000000000000000000)
    (hcells : ∀ H', (∀ q xs e m, H q = some (.row xs e m) → H' q = some (.row xs e m)) → Cells H' A (ps.map optP)) (hps : ∀ b, some b ∈ ps → ∃ A n m, H b = some (bufO a A n m))
    (k : ∀ H' tk', Gave H H' a mp cl tk tk' cap peak (fun q => some q ∈ ps) → K (.tuple #[]) H') :
    ∀ (d j : Nat) (H' : Hp) (tk' : List (Nat × Int × Nat)), j + d = n → Gave H H' a mp cl tk tk' cap peak (fun q => some q ∈ ps.take j) → W_arena_Arena_Give.l1 K (d + 1) (some ⟨a, 0, none⟩) A n m (n : Int) (j : Int) H'
  | 0, j, H', tk', hj, hg => by
    unfold W_arena_Arena_Give.l1
    refine BIf_dneg (by omega) (k H' tk' ?_)
    rw [List.take_of_length_le (by omega)] at hg
    exact hg
  | d + 1, j, H', tk', hj, hg => by
    obtain ⟨jb, hjb, hsb⟩ := t_buf
    obtain ⟨ji, hji, hzi⟩ := t_int
    unfold W_arena_Arena_Give.l1
    refine BIf_dpos (by omega) ?_
    have hlt : j < ps.length := by omega
    have hrows : ∀ q xs e m, H q = some (.row xs e m) → H' q = some (.row xs e m) := fun q xs e m hq =>
      hg.keep q _ hq (fun e2 => by rw [e2, h0.ha] at hq; unfold arenaO at hq; cases hq) (fun e2 => by rw [e2, h0.hm] at hq; unfold mapO at hq; cases hq) (fun _ x hx e2 => by
        obtain ⟨_, A, n, m, g⟩ := h0.hb x hx
        rw [e2, hq] at g; unfold bufO at g; cases g)
    refine (hcells H' hrows).read (i := j) (v := optP ps[j]) (by rw [List.getElem?_map, List.getElem?_eq_getElem hlt]; rfl) rfl (by rw [List.length_map]; omega) ?_
    have htk : ps.take (j + 1) = ps.take j ++ [ps[j]] := List.take_succ_eq_append_getElem hlt
    have next := fun H'' tk'' hg' => give_loop K a mp cl cap used peak hpk tk H h0 A n m ps hn hn2 hcells hps k d (j + 1) H'' tk'' (by omega) hg'
    cases hp : ps[j] with
    | none =>
      unfold optP
      simp only [DI_int', DB_bool, DS_string, DP_pointer, DSl_slice, DM_map, DA_agg, DTup_tuple, DCons_cons, DNil_nil, NN_some, BIf_true, BIf_false, BIf_same, List.toList_toArray, Bool.not_true, Bool.not_false]
      simp only [Addr.add_lit', Nat.zero_add]
      refine Ld_obj hg.ai.ha (v := .map (some mp)) rfl ?_
      simp only [DI_int', DB_bool, DS_string, DP_pointer, DSl_slice, DM_map, DA_agg, DTup_tuple, DCons_cons, DNil_nil, NN_some, BIf_true, BIf_false, BIf_same, List.toList_toArray, Bool.not_true, Bool.not_false]
      refine lookup_nilptr t_ptr hjb hsb t_map hji hzi hg.ai.hm ?_
      simp only [DI_int', DB_bool, DS_string, DP_pointer, DSl_slice, DM_map, DA_agg, DTup_tuple, DCons_cons, DNil_nil, NN_some, BIf_true, BIf_false, BIf_same, List.toList_toArray, Bool.not_true, Bool.not_false]
      rw [i64w (x := (j : Int) + 1) (by omega) (by omega)]
      refine next H' tk' (hg.same (fun q hq => by show some q ∈ ps.take (j + 1); rw [htk]; exact List.mem_append_left _ hq) (fun q hq => ?_))
      rw [htk, hp] at hq
      simp at hq
      exact .inl hq
    | some b =>
      unfold optP ptrV
      simp only [DI_int', DB_bool, DS_string, DP_pointer, DSl_slice, DM_map, DA_agg, DTup_tuple, DCons_cons, DNil_nil, NN_some, BIf_true, BIf_false, BIf_same, List.toList_toArray, Bool.not_true, Bool.not_false]
      simp only [Addr.add_lit', Nat.zero_add, Nat.add_zero]
      refine Ld_obj hg.ai.ha (v := .map (some mp)) rfl ?_
      simp only [DI_int', DB_bool, DS_string, DP_pointer, DSl_slice, DM_map, DA_agg, DTup_tuple, DCons_cons, DNil_nil, NN_some, BIf_true, BIf_false, BIf_same, List.toList_toArray, Bool.not_true, Bool.not_false]
      have hpb : some b ∈ ps := by rw [← hp]; exact List.getElem_mem hlt
      obtain ⟨Ab, nb, mb, hb⟩ := hps b hpb
      have hba : b ≠ a := fun e => by rw [e, h0.ha] at hb; unfold arenaO bufO at hb; cases hb
      have hbm : b ≠ mp := fun e => by rw [e, h0.hm] at hb; unfold mapO bufO at hb; cases hb
      have hpl : PlainB H' b := by
        by_cases h1 : (some b ∈ ps.take j) ∧ ∃ x ∈ tk, x.1 = b
        · obtain ⟨h1, x, hx, rfl⟩ := h1
          exact ⟨_, _, hg.nil x hx h1⟩
        · exact ⟨_, _, hg.keep b _ hb hba hbm (fun h2 x hx e => h1 ⟨h2, x, hx, e⟩)⟩
      rw [show (Value.pointer (some ⟨b, 0, none⟩)) = ptrV b from rfl]
      refine lookup_ptr t_ptr hjb hsb t_map hji hzi hg.ai.hm hpl hg.ai.plain (fun k' v hf => ?_) (fun hf => ?_)
      · obtain ⟨x, hx, rfl, rfl⟩ := findR_some b tk' 0 k' v hf
        simp only [DI_int', DB_bool, DS_string, DP_pointer, DSl_slice, DM_map, DA_agg, DTup_tuple, DCons_cons, DNil_nil, NN_some, BIf_true, BIf_false, BIf_same, List.toList_toArray, Bool.not_true, Bool.not_false]
        refine Ld_obj hg.ai.ha (v := .map (some mp)) rfl ?_
        simp only [DI_int', DB_bool, DS_string, DP_pointer, DSl_slice, DM_map, DA_agg, DTup_tuple, DCons_cons, DNil_nil, NN_some, BIf_true, BIf_false, BIf_same, List.toList_toArray, Bool.not_true, Bool.not_false]
        refine delete_ptr t_ptr hjb hsb t_map hg.ai.hm hpl hg.ai.plain hg.ai.nd hf ?_
        have hx1 := (hg.ai.hb x hx).1
        have hs0 := sum_nonneg tk' (fun y hy => (hg.ai.hb y hy).1)
        have hsf := sum_filter tk' x hg.ai.nd hx
        have hs1 := sum_nonneg (tk'.filter fun y => y.1 ≠ x.1) (fun y hy => (hg.ai.hb y (List.mem_filter.1 hy).1).1)
        have hu := hg.ai.hu
        have hle := hg.sle
        have hu0 := h0.hu
        rw [i64w (x := 0 - x.2.1) (by omega) (by omega)]
        refine HCalls.use (add_ok _ a mp cap (sumTk tk') peak (0 - x.2.1) (by omega) (by omega) (by rw [Hp.set_other _ _ hg.ai.ne]; exact hg.ai.ha)) ?_
        rw [if_neg (by omega), show sumTk tk' + (0 - x.2.1) = sumTk tk' - x.2.1 by omega]
        obtain ⟨_, Ac, nc, mc, hbx⟩ := hg.ai.hb x hx
        refine St_obj (c := #[ptrV a, .slice Ac nc mc]) (e := 141) (by rw [Hp.set_other _ _ hba, Hp.set_other _ _ hbm]; exact hbx) (by simp) rfl ?_
        rw [i64w (x := (j : Int) + 1) (by omega) (by omega)]
        refine next _ _ (Gave.one h0 hg hx (fun q => ?_))
        show some q ∈ ps.take (j + 1) ↔ _
        rw [htk, hp, List.mem_append]
        simp
      · simp only [DI_int', DB_bool, DS_string, DP_pointer, DSl_slice, DM_map, DA_agg, DTup_tuple, DCons_cons, DNil_nil, NN_some, BIf_true, BIf_false, BIf_same, List.toList_toArray, Bool.not_true, Bool.not_false]
        rw [i64w (x := (j : Int) + 1) (by omega) (by omega)]
        refine next H' tk' (hg.same (fun q hq => by show some q ∈ ps.take (j + 1); rw [htk]; exact List.mem_append_left _ hq) (fun q hq => ?_))
        rw [htk, hp] at hq
        simp at hq
        rcases hq with hq | rfl
        · exact .inl hq
        · exact .inr (findR_nil q tk' 0 hf)

theorem Give_W (a mp cl : Nat) (cap used peak : Int) (hpk : used ≤ peak) (tk : List (Nat × Int × Nat)) (H : Hp) (h0 : AI H a mp cl tk cap used peak) (A : Option Addr) (n m : Nat) (ps : List (Option Nat)) (hn : n = ps.length) (hn2 : n ≤ 9000000000000000000)
    (hcells : ∀ H', (∀ q xs e m, H q = some (.row xs e m) → H' q = some (.row xs e m)) → Cells H' A (ps.map optP)) (hps : ∀ b, some b ∈ ps → ∃ A n m, H b = some (bufO a A n m)) :
    W_arena_Arena_Give (some ⟨a, 0, none⟩) A n m H (fun v H' => v = .tuple #[] ∧ ∃ tk', Gave H H' a mp cl tk tk' cap peak (fun q => some q ∈ ps)) := by
  refine ⟨n + 1, give_loop _ a mp cl cap used peak hpk tk H h0 A n m ps hn hn2 hcells hps (fun H' tk' hg => ⟨rfl, tk', hg⟩) n 0 H tk (by omega) ?_⟩
  refine ⟨by rw [← h0.hu.1]; exact h0, fun x => by simp, fun q o hq _ _ _ => hq, fun x _ h => by simp at h, Int.le_refl _⟩
theorem Give_ok (a mp cl : Nat) (cap used peak : Int) (hpk : used ≤ peak) (tk : List (Nat × Int × Nat)) (H : Hp) (h0 : AI H a mp cl tk cap used peak) (A : Option Addr) (n m : Nat) (ps : List (Option Nat)) (hn : n = ps.length) (hn2 : n ≤ 9000000000000000000)
    (hcells : ∀ H', (∀ q xs e m, H q = some (.row xs e m) → H' q = some (.row xs e m)) → Cells H' A (ps.map optP)) (hps : ∀ b, some b ∈ ps → ∃ A n m, H b = some (bufO a A n m)) :
    HCalls Try.prog 44 #[ptrV a, .slice A n m] H (fun v H' => v = .tuple #[] ∧ ∃ tk', Gave H H' a mp cl tk tk' cap peak (fun q => some q ∈ ps)) :=
  W_arena_Arena_Give.ok _ _ _ _ _ _ (Give_W a mp cl cap used peak hpk tk H h0 A n m ps hn hn2 hcells hps)

end Go.Proofs.Ytbnhfcdagoigkaa.Are
