/- An arena as a part of memory: contracts of its functions. -/
import Derived.Test.YtbnhfcdagoigkaaAreG
import Derived.Test.YtbnhfcdagoigkaaHwS
import Derived.Test.YtbnhfcdagoigkaaHwI
set_option maxRecDepth 100000
set_option linter.unusedSimpArgs false
set_option linter.unusedVariables false
set_option linter.unnecessarySimpa false
set_option linter.unusedSectionVars false
namespace Go.Proofs.Ytbnhfcdagoigkaa.Are
open Go Go.Hw Go.Proofs.Ytbnhfcdagoigkaa.W

theorem sum_nil (tk : List (Nat × Int × Nat)) (h : ∀ x ∈ tk, False) : sumTk tk = 0 := by
  cases tk with
  | nil => rfl
  | cons x l => exact (h x (by simp)).elim

/-- How many words are taken. -/
def sumB (l : List (Nat × Nat × Option Addr)) : Int := (l.map fun y => (y.2.1 : Int)).sum

/-- What is given back has no words. -/
def gaveB (g : Nat → Bool) (l : List (Nat × Nat × Option Addr)) : List (Nat × Nat × Option Addr) := l.map fun y => if g y.1 then (y.1, 0, none) else y

theorem gaveB_fst (g : Nat → Bool) (l : List (Nat × Nat × Option Addr)) : (gaveB g l).map (·.1) = l.map (·.1) := by
  unfold gaveB
  rw [List.map_map]
  apply List.map_congr_left
  intro y _
  simp only [Function.comp]
  split <;> rfl

theorem sumB_append (l l' : List (Nat × Nat × Option Addr)) : sumB (l ++ l') = sumB l + sumB l' := by simp [sumB]
theorem sumB_cons (y : Nat × Nat × Option Addr) (l : List (Nat × Nat × Option Addr)) : sumB (y :: l) = y.2.1 + sumB l := by simp [sumB]
theorem sumB_nil : sumB [] = 0 := rfl
theorem sumB_less (p : Nat × Nat × Option Addr → Bool) : ∀ (l : List (Nat × Nat × Option Addr)), (∀ y ∈ l, p y = false → y.2.1 = 0) → sumB (l.filter p) = sumB l
  | [], _ => rfl
  | y :: l, h => by
    have ih := sumB_less p l (fun z hz => h z (by simp [hz]))
    cases e : p y with
    | true => rw [List.filter_cons_of_pos e, sumB_cons, sumB_cons, ih]
    | false => rw [List.filter_cons_of_neg (by simp [e]), sumB_cons, ih, h y (by simp) e]; simp

theorem sum_eq : ∀ (bufs : List (Nat × Nat × Option Addr)) (tk : List (Nat × Int × Nat)), (tk.map (·.1)).Nodup → (bufs.map (·.1)).Nodup → (∀ x ∈ tk, 1 ≤ x.2.1) → (∀ x ∈ tk, ∃ A, (x.1, x.2.1.toNat, A) ∈ bufs) →
    (∀ y ∈ bufs, 1 ≤ y.2.1 → ∃ n, (y.1, (y.2.1 : Int), n) ∈ tk) → sumTk tk = sumB bufs
  | [], tk, _, _, _, h2, _ => by
    cases tk with
    | nil => rfl
    | cons x l => obtain ⟨A, hA⟩ := h2 x (by simp); simp at hA
  | y :: bs, tk, hn, hb, h1, h2, h3 => by
    simp only [List.map_cons, List.nodup_cons] at hb
    by_cases hy : 1 ≤ y.2.1
    · obtain ⟨k, hk⟩ := h3 y (by simp) hy
      have hs := sum_filter tk _ hn hk
      have ih := sum_eq bs (tk.filter fun z => z.1 ≠ y.1) (List.Nodup.sublist (List.Sublist.map _ List.filter_sublist) hn) hb.2 (fun x hx => h1 x (List.mem_filter.1 hx).1) (fun x hx => by
        obtain ⟨g1, g2⟩ := List.mem_filter.1 hx
        obtain ⟨A, hA⟩ := h2 x g1
        rcases List.mem_cons.1 hA with e | hA
        · have : x.1 = y.1 := by rw [← e]
          simp [this] at g2
        · exact ⟨A, hA⟩) (fun z hz hz1 => by
        obtain ⟨n, hn'⟩ := h3 z (by simp [hz]) hz1
        refine ⟨n, List.mem_filter.2 ⟨hn', ?_⟩⟩
        have : z.1 ≠ y.1 := fun e => hb.1 (by rw [← e]; exact List.mem_map_of_mem hz)
        simpa using this)
      rw [sumB_cons, ← ih]
      simp only at hs
      omega
    · have hy0 : y.2.1 = 0 := by omega
      have ih := sum_eq bs tk hn hb.2 h1 (fun x hx => by
        obtain ⟨A, hA⟩ := h2 x hx
        rcases List.mem_cons.1 hA with e | hA
        · have : x.2.1.toNat = y.2.1 := by rw [← e]
          have := h1 x hx; omega
        · exact ⟨A, hA⟩) (fun z hz hz1 => h3 z (by simp [hz]) hz1)
      rw [sumB_cons, hy0, ih]; simp

/-- An arena, and its buffers: of each its words' place, and how many there are (0: given back). -/
structure ArI (H : Hp) (a mp cl : Nat) (tk : List (Nat × Int × Nat)) (cap used peak : Int) (bufs : List (Nat × Nat × Option Addr)) : Prop where
  ai : AI H a mp cl tk cap used peak
  up : used ≤ peak
  hd : ∀ y ∈ bufs, H y.1 = some (bufO a y.2.2 y.2.1 y.2.1)
  tb : ∀ x ∈ tk, ∃ A, (x.1, x.2.1.toNat, A) ∈ bufs
  bt : ∀ y ∈ bufs, 1 ≤ y.2.1 → ∃ n, (y.1, (y.2.1 : Int), n) ∈ tk
  bn : (bufs.map (·.1)).Nodup
  hz : ∀ y ∈ bufs, y.2.1 = 0 → y.2.2 = none

def Ar (a : Nat) (cap peak : Int) (bufs : List (Nat × Nat × Option Addr)) : As := fun H => ∃ mp cl tk, ArI H a mp cl tk cap (sumB bufs) peak bufs

theorem AI.up {H H' : Hp} {a mp cl : Nat} {tk : List (Nat × Int × Nat)} {cap used peak : Int} (h : AI H a mp cl tk cap used peak) (k : H.le H') : AI H' a mp cl tk cap used peak :=
  ⟨h.ne, k _ _ h.ha, k _ _ h.hm, h.nd, fun x hx => by obtain ⟨h1, A, n, m, h2⟩ := h.hb x hx; exact ⟨h1, A, n, m, k _ _ h2⟩, h.hu, h.bn⟩

theorem ArI.upw {H H' : Hp} {a mp cl : Nat} {tk : List (Nat × Int × Nat)} {cap used peak : Int} {bufs : List (Nat × Nat × Option Addr)} (h : ArI H a mp cl tk cap used peak bufs) (k : H.le H') : ArI H' a mp cl tk cap used peak bufs :=
  ⟨AI.up h.ai k, h.up, fun y hy => k _ _ (h.hd y hy), h.tb, h.bt, h.bn, h.hz⟩

/-- What of the buffers isn't asked any more. -/
theorem ArI.less {H : Hp} {a mp cl : Nat} {tk : List (Nat × Int × Nat)} {cap used peak : Int} {bufs : List (Nat × Nat × Option Addr)} (h : ArI H a mp cl tk cap used peak bufs) (p : Nat × Nat × Option Addr → Bool) (hp : ∀ y ∈ bufs, p y = false → y.2.1 = 0) :
    ArI H a mp cl tk cap used peak (bufs.filter p) :=
  ⟨h.ai, h.up, fun y hy => h.hd y (List.mem_filter.1 hy).1, fun x hx => by
    obtain ⟨A, hA⟩ := h.tb x hx
    refine ⟨A, List.mem_filter.2 ⟨hA, ?_⟩⟩
    cases e : p (x.1, x.2.1.toNat, A) with
    | true => rfl
    | false => have := hp _ hA e; have := (h.ai.hb x hx).1; simp at *; omega, fun y hy => h.bt y (List.mem_filter.1 hy).1, List.Nodup.sublist (List.Sublist.map _ List.filter_sublist) h.bn, fun y hy => h.hz y (List.mem_filter.1 hy).1⟩

theorem Sep.ar {L : List As} {H : Hp} (h : Sep L H) (i : Nat) {a : Nat} {cap peak : Int} {bufs : List (Nat × Nat × Option Addr)} (hi : L[i]? = some (Ar a cap peak bufs)) : ∃ mp cl tk, ArI H a mp cl tk cap (sumB bufs) peak bufs := by
  obtain ⟨H1, ⟨mp, cl, tk, h1⟩, h2⟩ := h.see i hi
  exact ⟨mp, cl, tk, h1.upw h2⟩

section
variable {L : List As} {H : Hp} {a : Nat} {cap peak : Int} {bufs : List (Nat × Nat × Option Addr)}

theorem used_s (h : Sep L H) (i : Nat) (hi : L[i]? = some (Ar a cap peak bufs)) : HCalls Try.prog 26 #[.pointer (some ⟨a, 0, none⟩)] H (RetE (.int .i64 (sumB bufs)) H) := by
  obtain ⟨mp, cl, tk, h⟩ := Sep.ar h i hi; exact used_ok H a mp cap _ peak h.ai.ha
theorem peak_s (h : Sep L H) (i : Nat) (hi : L[i]? = some (Ar a cap peak bufs)) : HCalls Try.prog 27 #[.pointer (some ⟨a, 0, none⟩)] H (RetE (.int .i64 peak) H) := by
  obtain ⟨mp, cl, tk, h⟩ := Sep.ar h i hi; exact peak_ok H a mp cap _ peak h.ai.ha
theorem ArI.nn {used : Int} {mp cl : Nat} {tk : List (Nat × Int × Nat)} (h : ArI H a mp cl tk cap used peak bufs) : 0 ≤ used ∧ used ≤ cap ∧ cap ≤ 16777216 ∧ used ≤ peak := by
  have h1 := sum_nonneg tk (fun x hx => (h.ai.hb x hx).1)
  have h2 := h.ai.hu
  exact ⟨by omega, h2.2.1, h2.2.2, h.up⟩
theorem Sep.arn (h : Sep L H) (i : Nat) (hi : L[i]? = some (Ar a cap peak bufs)) : 0 ≤ sumB bufs ∧ sumB bufs ≤ cap ∧ cap ≤ 16777216 ∧ sumB bufs ≤ peak := by
  obtain ⟨mp, cl, tk, h⟩ := Sep.ar h i hi; exact h.nn
theorem free_s (h : Sep L H) (i : Nat) (hi : L[i]? = some (Ar a cap peak bufs)) : HCalls Try.prog 73 #[.pointer (some ⟨a, 0, none⟩)] H (RetE (.int .i64 (cap - sumB bufs)) H) := by
  obtain ⟨mp, cl, tk, h⟩ := Sep.ar h i hi
  have := h.nn
  exact free_ok H a mp cap _ peak (by omega) h.ai.ha
theorem Words_s (h : Sep L H) (i : Nat) (hi : L[i]? = some (Ar a cap peak bufs)) {b n : Nat} {A : Option Addr} (hb : (b, n, A) ∈ bufs) : HCalls Try.prog 46 #[.pointer (some ⟨b, 0, none⟩)] H (RetE (.slice A n n) H) := by
  obtain ⟨mp, cl, tk, h⟩ := Sep.ar h i hi; exact Words_ok H b a A n n (h.hd _ hb)
end

theorem New_tr (x : Int) (h : 1 ≤ x ∧ x ≤ 16777216) : Tr Try.prog 39 #[.int .i64 x] [] fun v M => ∃ a, v = .pointer (some ⟨a, 0, none⟩) ∧ M = [Ar a x 0 []] := fun H _ => by
  refine (New_ok H x h).mono ?_
  rintro v H' ⟨mp, a, hmp, ha, hne, rfl, rfl⟩
  refine ⟨_, ⟨a, rfl, rfl⟩, Sep.up (H := Hp.set (Hp.set (fun _ => none) mp (mapO [] 0)) a (arenaO x 0 0 mp)) ?_ (Hp.set_le (Hp.set_le (H := fun _ => none) (fun _ _ h => nomatch h) _ _) _ _)⟩
  refine ⟨_, fun _ => none, Hp.le_refl _, fun b o h => (by cases h), fun b => .inr rfl, ⟨mp, 0, [], ⟨⟨hne, Hp.set_same _ _ _, by rw [Hp.set_other _ _ (Ne.symm hne)]; exact Hp.set_same _ _ _, by simp, fun x hx => by simp at hx, ⟨rfl, by rw [sumB_nil]; omega, by omega⟩, by simp⟩, Int.le_refl _, fun y hy => by simp at hy, fun x hx => by simp at hx, fun y hy => by simp at hy, by simp, fun y hy => by simp at hy⟩⟩, trivial⟩

theorem sum_append (l l' : List (Nat × Int × Nat)) : sumTk (l ++ l') = sumTk l + sumTk l' := by simp [sumTk]

theorem Take_tr {a : Nat} {cap peak : Int} {bufs : List (Nat × Nat × Option Addr)} {n : Nat} (hn : 1 ≤ n) (hc : (n : Int) ≤ cap - sumB bufs) :
    Tr Try.prog 42 #[.pointer (some ⟨a, 0, none⟩), .int .i64 n] [Ar a cap peak bufs] fun v M => ∃ b rb, v = .tuple #[.pointer (some ⟨b, 0, none⟩), .int .i64 0] ∧
      M = [Ar a cap (if sumB bufs + n > peak then sumB bufs + n else peak) (bufs ++ [(b, n, some ⟨rb, 0, none⟩)]), pts rb (.row (zerosU64 n) 62 n)] := fun H hs => by
  obtain ⟨mp, cl, tk, h⟩ := Sep.ar hs 0 rfl
  have hnn := h.nn
  refine (Take_ok H a mp cap (sumB bufs) peak n tk cl (by omega) (by omega) h.ai.ne h.ai.ha h.ai.hm h.ai.plain).mono ?_
  rintro v H' ⟨rb, b, hrb, hb, hbr, rfl, rfl⟩
  rw [Int.toNat_natCast]
  have har : a ≠ rb := fun e => by have := h.ai.ha; rw [e, hrb] at this; cases this
  have hab : a ≠ b := fun e => by have := h.ai.ha; rw [e, hb] at this; cases this
  have hmr : mp ≠ rb := fun e => by have := h.ai.hm; rw [e, hrb] at this; cases this
  have hmb : mp ≠ b := fun e => by have := h.ai.hm; rw [e, hb] at this; cases this
  have hne := h.ai.ne
  have keep : ∀ q o, H q = some o → q ≠ a → q ≠ mp → ((((H.set rb (.row (zerosU64 n) 62 n)).set b (bufO a (some ⟨rb, 0, none⟩) n n)).set mp (mapO (tk ++ [(b, (n : Int), cl)]) (cl + 1))).set a (arenaO cap (sumB bufs + n) (if sumB bufs + n > peak then sumB bufs + n else peak) mp)) q = some o := fun q o hq h1 h2 => by
    have h7 : q ≠ rb := fun e => by rw [e, hrb] at hq; cases hq
    have h8 : q ≠ b := fun e => by rw [e, hb] at hq; cases hq
    rw [Hp.set_other _ _ h1, Hp.set_other _ _ h2, Hp.set_other _ _ h8, Hp.set_other _ _ h7]; exact hq
  refine ⟨_, ⟨b, rb, rfl, rfl⟩, ?_⟩
  -- the arena's own part
  have hfr : ∀ y ∈ bufs, y.1 ≠ a ∧ y.1 ≠ mp ∧ y.1 ≠ b := fun y hy => by
    have h1 := h.hd y hy
    refine ⟨fun e => ?_, fun e => ?_, fun e => ?_⟩
    · rw [e, h.ai.ha] at h1; unfold arenaO bufO at h1; cases h1
    · rw [e, h.ai.hm] at h1; unfold mapO bufO at h1; cases h1
    · rw [e, hb] at h1; cases h1
  have hxf : ∀ x ∈ tk, x.1 ≠ a ∧ x.1 ≠ mp ∧ x.1 ≠ b := fun x hx => by
    obtain ⟨A, hA⟩ := h.tb x hx
    exact hfr _ hA
  let G : Hp := fun q => if q = rb then none else ((((H.set rb (.row (zerosU64 n) 62 n)).set b (bufO a (some ⟨rb, 0, none⟩) n n)).set mp (mapO (tk ++ [(b, (n : Int), cl)]) (cl + 1))).set a (arenaO cap (sumB bufs + n) (if sumB bufs + n > peak then sumB bufs + n else peak) mp)) q
  have hG : ∀ q o, q ≠ rb → ((((H.set rb (.row (zerosU64 n) 62 n)).set b (bufO a (some ⟨rb, 0, none⟩) n n)).set mp (mapO (tk ++ [(b, (n : Int), cl)]) (cl + 1))).set a (arenaO cap (sumB bufs + n) (if sumB bufs + n > peak then sumB bufs + n else peak) mp)) q = some o → G q = some o := fun q o h1 h2 => by
    show (if q = rb then none else _) = _
    rw [if_neg h1]; exact h2
  have gb := hG b (bufO a (some ⟨rb, 0, none⟩) n n) hbr (by rw [Hp.set_other _ _ (Ne.symm hab), Hp.set_other _ _ (Ne.symm hmb)]; exact Hp.set_same _ _ _)
  have nrb : ∀ q o, H q = some o → q ≠ rb := fun q o hq e => by rw [e, hrb] at hq; cases hq
  refine ⟨G, fun q => if q = rb then some (.row (zerosU64 n) 62 n) else none, fun q o hq => ?_, fun q o hq => ?_, fun q => ?_, ⟨mp, cl + 1, tk ++ [(b, (n : Int), cl)], ?_⟩, ⟨_, fun _ => none, Hp.le_refl _, fun b o h => (by cases h), fun b => .inr rfl, (if_pos rfl : (if rb = rb then some _ else none) = _), trivial⟩⟩
  · have hq' : (if q = rb then none else _) = some o := hq
    split at hq'
    · cases hq'
    · exact hq'
  · simp only at hq
    split at hq
    · rename_i e; subst e
      rw [Hp.set_other _ _ (Ne.symm har), Hp.set_other _ _ (Ne.symm hmr), Hp.set_other _ _ (Ne.symm hbr), Hp.set_same]; exact hq
    · cases hq
  · by_cases e : q = rb
    · left; show (if q = rb then none else _) = none; rw [if_pos e]
    · right; simp only [e, if_false]
  rw [show sumB (bufs ++ [(b, n, some ⟨rb, 0, none⟩)]) = sumB bufs + n by rw [sumB_append]; simp [sumB]]
  refine ⟨⟨hne, hG a _ har (Hp.set_same _ _ _), hG mp _ hmr (by rw [Hp.set_other _ _ (Ne.symm hne)]; exact Hp.set_same _ _ _), ?_, fun x hx => ?_, ⟨?_, by omega, by omega⟩, ?_, fun x hx => ?_⟩, by split <;> omega, fun y hy => ?_, fun x hx => ?_, fun y hy hy1 => ?_, ?_, fun y hy h0 => ?_⟩
  · rw [List.map_append, List.nodup_append]
    refine ⟨h.ai.nd, by simp, fun x hx y hy e => ?_⟩
    simp at hy; subst hy
    obtain ⟨z, hz, rfl⟩ := List.mem_map.1 hx
    exact (hxf z hz).2.2 e
  · rcases List.mem_append.1 hx with hx | hx
    · obtain ⟨h1, A, n', m', h2⟩ := h.ai.hb x hx
      exact ⟨h1, A, n', m', hG _ _ (nrb _ _ h2) (keep _ _ h2 (hxf x hx).1 (hxf x hx).2.1)⟩
    · simp at hx; subst hx
      exact ⟨by show (1 : Int) ≤ n; omega, _, _, _, gb⟩
  · rw [sum_append, ← h.ai.hu.1]; simp [sumTk]
  · rw [List.map_append, List.nodup_append]
    refine ⟨h.ai.bn.1, by simp, fun x hx y hy e => ?_⟩
    simp at hy; subst hy
    obtain ⟨z, hz, rfl⟩ := List.mem_map.1 hx
    have := h.ai.bn.2 z hz
    omega
  · rcases List.mem_append.1 hx with hx | hx
    · have := h.ai.bn.2 x hx; omega
    · simp at hx; subst hx; show cl < cl + 1; omega
  · rcases List.mem_append.1 hy with hy | hy
    · exact hG _ _ (nrb _ _ (h.hd y hy)) (keep _ _ (h.hd y hy) (hfr y hy).1 (hfr y hy).2.1)
    · simp at hy; subst hy; exact gb
  · rcases List.mem_append.1 hx with hx | hx
    · obtain ⟨A, hA⟩ := h.tb x hx
      exact ⟨A, List.mem_append_left _ hA⟩
    · simp at hx; subst hx
      exact ⟨some ⟨rb, 0, none⟩, by simp⟩
  · rcases List.mem_append.1 hy with hy | hy
    · obtain ⟨m, hm⟩ := h.bt y hy hy1
      exact ⟨m, List.mem_append_left _ hm⟩
    · simp at hy; subst hy
      exact ⟨cl, by simp⟩
  · rw [List.map_append, List.nodup_append]
    refine ⟨h.bn, by simp, fun x hx y hy e => ?_⟩
    simp at hy; subst hy
    obtain ⟨z, hz, rfl⟩ := List.mem_map.1 hx
    exact (hfr z hz).2.2 e
  · rcases List.mem_append.1 hy with hy | hy
    · exact h.hz y hy h0
    · simp at hy; subst hy; simp at h0; omega

theorem ArI.gave {H H' : Hp} {a mp cl : Nat} {tk tk' : List (Nat × Int × Nat)} {cap used peak : Int} {bufs : List (Nat × Nat × Option Addr)} {g : Nat → Prop} {gb : Nat → Bool} (h : ArI H a mp cl tk cap used peak bufs) (hg : Gave H H' a mp cl tk tk' cap peak g) (hgb : ∀ q, gb q = true ↔ g q) :
    ArI H' a mp cl tk' cap (sumB (gaveB gb bufs)) peak (gaveB gb bufs) := by
  have hu := h.ai.hu
  have hnd : ((gaveB gb bufs).map (·.1)).Nodup := by rw [gaveB_fst]; exact h.bn
  have hmem : ∀ y ∈ gaveB gb bufs, ∃ z ∈ bufs, y = if gb z.1 then (z.1, 0, none) else z := fun y hy => by
    obtain ⟨z, hz, rfl⟩ := List.mem_map.1 hy
    exact ⟨z, hz, rfl⟩
  have htb : ∀ x ∈ tk', ∃ A, (x.1, x.2.1.toNat, A) ∈ gaveB gb bufs := fun x hx => by
    obtain ⟨h1, h2⟩ := (hg.mem x).1 hx
    obtain ⟨A, hA⟩ := h.tb x h1
    refine ⟨A, List.mem_map.2 ⟨_, hA, ?_⟩⟩
    rw [if_neg (fun e => h2 ((hgb _).1 e))]
  have hbt : ∀ y ∈ gaveB gb bufs, 1 ≤ y.2.1 → ∃ n, (y.1, (y.2.1 : Int), n) ∈ tk' := fun y hy hy1 => by
    obtain ⟨z, hz, rfl⟩ := hmem y hy
    by_cases e : gb z.1 = true
    · rw [if_pos e] at hy1; simp at hy1
    · rw [if_neg e] at hy1 ⊢
      obtain ⟨n, hn⟩ := h.bt z hz hy1
      exact ⟨n, (hg.mem _).2 ⟨hn, fun e2 => e ((hgb _).2 e2)⟩⟩
  have hsum := sum_eq (gaveB gb bufs) tk' hg.ai.nd hnd (fun x hx => (hg.ai.hb x hx).1) htb hbt
  refine ⟨by rw [← hsum]; exact hg.ai, by rw [← hsum]; have := h.up; have := hg.sle; omega, fun y hy => ?_, htb, hbt, hnd, fun y hy h0 => ?_⟩
  rotate_left
  · obtain ⟨z, hz, rfl⟩ := hmem y hy
    by_cases e : gb z.1 = true
    · rw [if_pos e]
    · rw [if_neg e] at h0 ⊢; exact h.hz z hz h0
  obtain ⟨z, hz, rfl⟩ := hmem y hy
  have hz1 := h.hd z hz
  have e1 : z.1 ≠ a := fun e => by rw [e, h.ai.ha] at hz1; unfold arenaO bufO at hz1; cases hz1
  have e2 : z.1 ≠ mp := fun e => by rw [e, h.ai.hm] at hz1; unfold mapO bufO at hz1; cases hz1
  by_cases e : gb z.1 = true
  · rw [if_pos e]
    have hgz := (hgb _).1 e
    by_cases hx : ∃ x ∈ tk, x.1 = z.1
    · obtain ⟨x, hx, hxe⟩ := hx
      have := hg.nil x hx (by rw [hxe]; exact hgz)
      rw [hxe] at this; exact this
    · have h0 : z.2.1 = 0 := by
        by_cases h1 : 1 ≤ z.2.1
        · obtain ⟨n, hn⟩ := h.bt z hz h1
          exact absurd ⟨_, hn, rfl⟩ hx
        · omega
      have := hg.keep z.1 _ hz1 e1 e2 (fun _ x hx' e3 => hx ⟨x, hx', e3⟩)
      rw [h0, h.hz z hz h0] at this
      exact this
  · rw [if_neg e]
    exact hg.keep z.1 _ hz1 e1 e2 (fun e3 => absurd ((hgb _).2 e3) e)

end Go.Proofs.Ytbnhfcdagoigkaa.Are

