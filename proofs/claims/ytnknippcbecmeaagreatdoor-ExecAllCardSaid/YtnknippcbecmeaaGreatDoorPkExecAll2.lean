import Derived.Lib.LaidTab
import Derived.Stop.LaidErr
import Derived.Test.YtnknippcbecmeaaGreatDoorProg
import Derived.Laws.Externs
import Derived.Test.YtnknippcbecmeaaGreatDoorPkExecAll1
set_option maxRecDepth 100000
set_option linter.unusedSimpArgs false
set_option linter.unusedVariables false
set_option linter.unnecessarySimpa false
set_option linter.unusedSectionVars false
section
/- The frame of the proofs: parts of memory side by side; a call over a part of what is known leaves the rest. -/
namespace Go.Hw
open Go
def Hp.patch (H H1 H1' : Hp) : Hp := fun b => match H1' b with | some o => some o | none => match H1 b with | some _ => none | none => H b
theorem At.patch {H H1 H1' : Hp} {w w' : World} (hH : Fits H w) (hle : H1.le H) (h : At H1 w H1' w') : At H w (H.patch H1 H1') w' := by
  refine ⟨fun b o hb => ?_, h.size, h.os, h.tape, h.output, fun b hb h0 => ?_⟩
  · unfold Hp.patch at hb
    split at hb
    · rename_i o' ho'
      cases hb
      exact h.fits b _ ho'
    · rename_i hn
      split at hb
      · cases hb
      · rename_i h1
        obtain ⟨x, hx, hh⟩ := hH b o hb
        refine ⟨x, ?_, hh⟩
        rw [(h.old b (Array.getElem?_eq_some_iff.1 hx).1 h1).2]; exact hx
  · have h1 : H1 b = none := by
      cases e : H1 b with
      | none => rfl
      | some o => rw [hle b o e] at h0; cases h0
    obtain ⟨h2, h3⟩ := h.old b hb h1
    refine ⟨?_, h3⟩
    unfold Hp.patch
    rw [h2, h1]; exact h0
theorem HCalls.frame {P : Program} {f : FuncId} {args : Array Value} {H H1 : Hp} {R : Value → Hp → Prop} (h : HCalls P f args H1 R) (hle : H1.le H) :
    HCalls P f args H fun v H' => ∃ H1', R v H1' ∧ H' = H.patch H1 H1' ∧ ∀ b, H b ≠ none → H1 b = none → H1' b = none := fun w hw => by
  have hw1 : Fits H1 w := fun b o hb => hw b o (hle b o hb)
  refine (h w hw1).mono ?_
  rintro e w' ⟨v, H1', rfl, hr, hA⟩
  refine ⟨v, _, rfl, ⟨H1', hr, rfl, fun b hb h1 => ?_⟩, hA.patch hw hle⟩
  cases hq : H b with
  | none => exact absurd hq hb
  | some o =>
    obtain ⟨x, hx, _⟩ := hw b o hq
    exact (hA.old b (Array.getElem?_eq_some_iff.1 hx).1 h1).1
abbrev As := Hp → Prop
def Apart (H1 H2 : Hp) : Prop := ∀ b, H1 b = none ∨ H2 b = none
def Hp.or (H1 H2 : Hp) : Hp := fun b => match H1 b with | some o => some o | none => H2 b
theorem Hp.le_none {H H' : Hp} {b : Nat} (h : H.le H') (hn : H' b = none) : H b = none := by
  cases e : H b with
  | none => rfl
  | some o => rw [h b o e] at hn; cases hn
theorem Apart.symm {H1 H2 : Hp} (h : Apart H1 H2) : Apart H2 H1 := fun b => (h b).symm
theorem Apart.le {H1 H2 H1' H2' : Hp} (h : Apart H1 H2) (h1 : H1'.le H1) (h2 : H2'.le H2) : Apart H1' H2' := fun b =>
  (h b).elim (fun e => .inl (Hp.le_none h1 e)) (fun e => .inr (Hp.le_none h2 e))
theorem Apart.or {H1 H2 H3 : Hp} (h : Apart H1 H3) (k : Apart H2 H3) : Apart (H1.or H2) H3 := fun b => by
  unfold Hp.or
  rcases h b with e | e
  · rw [e]; exact k b
  · exact .inr e
theorem Hp.or_le {H1 H2 H : Hp} (h1 : H1.le H) (h2 : H2.le H) : (H1.or H2).le H := fun b o ho => by
  unfold Hp.or at ho
  split at ho
  · rename_i o' e; cases ho; exact h1 b _ e
  · exact h2 b o ho
theorem Hp.le_or_left (H1 H2 : Hp) : H1.le (H1.or H2) := fun b o ho => by unfold Hp.or; rw [ho]
theorem Hp.le_or_right {H1 H2 : Hp} (h : Apart H1 H2) : H2.le (H1.or H2) := fun b o ho => by
  unfold Hp.or
  rcases h b with e | e
  · rw [e]; exact ho
  · rw [e] at ho; cases ho
def Sep : List As → Hp → Prop
  | [], _ => True
  | A :: L, H => ∃ H1 H2, H1.le H ∧ H2.le H ∧ Apart H1 H2 ∧ A H1 ∧ Sep L H2
theorem Sep.up : ∀ {L : List As} {H H' : Hp}, Sep L H → H.le H' → Sep L H'
  | [], _, _, _, _ => trivial
  | _ :: _, _, _, ⟨H1, H2, h1, h2, h3, h4, h5⟩, k => ⟨H1, H2, Hp.le_trans h1 k, Hp.le_trans h2 k, h3, h4, h5⟩
theorem Sep.swap {A B : As} {L : List As} {H : Hp} : Sep (A :: B :: L) H → Sep (B :: A :: L) H
  | ⟨H1, H2, h1, h2, h3, h4, H3, H4, k1, k2, k3, k4, k5⟩ =>
    ⟨H3, H1.or H4, Hp.le_trans k1 h2, Hp.or_le h1 (Hp.le_trans k2 h2), (Apart.or (h3.le (Hp.le_refl _) k1) k3.symm).symm, k4, H1, H4, Hp.le_or_left _ _, Hp.le_or_right (h3.le (Hp.le_refl _) k2), h3.le (Hp.le_refl _) k2, h4, k5⟩
theorem Sep.perm {L L' : List As} (p : L.Perm L') : ∀ {H : Hp}, Sep L H → Sep L' H := by
  induction p with
  | nil => exact fun h => h
  | cons A _ ih => exact fun ⟨H1, H2, h1, h2, h3, h4, h5⟩ => ⟨H1, H2, h1, h2, h3, h4, ih h5⟩
  | swap A B L => exact fun h => h.swap
  | trans _ _ ih1 ih2 => exact fun h => ih2 (ih1 h)
theorem Sep.tail {A : As} {L : List As} {H : Hp} : Sep (A :: L) H → Sep L H
  | ⟨_, _, _, h2, _, _, h5⟩ => h5.up h2
theorem Sep.drop : ∀ {M L : List As} {H : Hp}, Sep (M ++ L) H → Sep L H
  | [], _, _, h => h
  | _ :: _, _, _, h => Sep.drop h.tail
theorem Sep.take {M L : List As} {H : Hp} (h : Sep (M ++ L) H) : Sep M H := Sep.drop (Sep.perm List.perm_append_comm h)
theorem Sep.map {A : As} {L M : List As} {H : Hp} (h : Sep (A :: L) H) (k : ∀ H1, A H1 → Sep M H1) : Sep (M ++ L) H := by
  obtain ⟨H1, H2, h1, h2, h3, h4, h5⟩ := h
  have hM := k H1 h4
  clear h4 k
  induction M generalizing H1 H with
  | nil => exact h5.up h2
  | cons B M ih =>
    obtain ⟨H3, H4, k1, k2, k3, k4, k5⟩ := hM
    exact ⟨H3, H4.or H2, Hp.le_trans k1 h1, Hp.or_le (Hp.le_trans k2 h1) h2, (Apart.or k3.symm (h3.le k1 (Hp.le_refl _)).symm).symm, k4, ih (H4) (Hp.le_or_left _ _) (Hp.le_or_right (h3.le k2 (Hp.le_refl _))) (h3.le k2 (Hp.le_refl _)) k5⟩
theorem Sep.append {M L : List As} {H : Hp} (h : Sep (M ++ L) H) : ∃ H1 H2, H1.le H ∧ H2.le H ∧ Apart H1 H2 ∧ Sep M H1 ∧ Sep L H2 := by
  induction M generalizing H with
  | nil => exact ⟨fun _ => none, H, fun b o h => (by cases h), Hp.le_refl _, fun b => Or.inl rfl, trivial, h⟩
  | cons A M ih =>
    obtain ⟨H1, H2, h1, h2, h3, h4, h5⟩ := h
    obtain ⟨H3, H4, k1, k2, k3, k4, k5⟩ := ih h5
    exact ⟨H1.or H3, H4, Hp.or_le h1 (Hp.le_trans k1 h2), Hp.le_trans k2 h2, Apart.or (h3.le (Hp.le_refl _) k2) k3, ⟨H1, H3, Hp.le_or_left _ _, Hp.le_or_right (h3.le (Hp.le_refl _) k1), h3.le (Hp.le_refl _) k1, h4, k4⟩, k5⟩
theorem Sep.join {M L : List As} {H1 H2 H : Hp} (h1 : H1.le H) (h2 : H2.le H) (h3 : Apart H1 H2) (hM : Sep M H1) (hL : Sep L H2) : Sep (M ++ L) H := by
  have : Sep (Sep M :: L) H := ⟨H1, H2, h1, h2, h3, hM, hL⟩
  exact this.map (fun _ h => h)
def sel (L : List As) : List Nat → List As
  | [] => []
  | i :: is => match L[i]? with | some A => A :: sel L is | none => sel L is
def rest (L : List As) (is : List Nat) : List As := go 0 L
where go (k : Nat) : List As → List As
  | [] => []
  | A :: L => match is.contains k with | true => go (k + 1) L | false => A :: go (k + 1) L
theorem rest_nil (L : List As) : rest L [] = L := by
  have key : ∀ (L : List As) k, rest.go [] k L = L := by
    intro L
    induction L with
    | nil => intro k; rfl
    | cons A L ih => intro k; unfold rest.go; simp only [List.contains_nil]; rw [ih]
  exact key L 0
theorem perm_skip {o : Option As} {c : Prop} [Decidable c] {X : As → List As} {Y Z : List As} (hc : ¬ c) (h : Y.Perm Z) : (match o with | some A => if c then X A else Y | none => Y).Perm Z := by
  cases o with
  | none => exact h
  | some A => simp only [hc, if_false]; exact h
theorem perm_skip' {o : Option As} {c : Prop} [Decidable c] {X : As → List As} {Y Z : List As} (hc : ¬ c) (h : (match o with | some A => if c then X A else Y | none => Y).Perm Z) : Y.Perm Z := by
  cases o with
  | none => exact h
  | some A => simp only [hc, if_false] at h; exact h
theorem rest_cons (i : Nat) (is : List Nat) (hi : is.contains i = false) (L : List As) : (match L[i]? with | some A => (A :: rest L (i :: is)) | none => rest L (i :: is)).Perm (rest L is) := by
  have key : ∀ (L : List As) (k : Nat), (match L[i - k]? with | some A => if k ≤ i then (A :: rest.go (i :: is) k L) else rest.go (i :: is) k L | none => rest.go (i :: is) k L).Perm (rest.go is k L) := by
    intro L
    induction L with
    | nil => intro k; simp [rest.go]
    | cons A L ih =>
      intro k
      have ih := ih (k + 1)
      by_cases hk : k ≤ i
      · by_cases e : i = k
        · subst e
          have ih := perm_skip' (by omega) ih
          unfold rest.go
          simp only [Nat.sub_self, List.getElem?_cons_zero, Nat.le_refl, if_true]
          rw [show (i :: is).contains i = true by simp, hi]
          exact List.Perm.cons A ih
        · have hc : (i :: is).contains k = is.contains k := by
            rw [List.contains_cons, show (k == i) = false by simp; omega]; simp
          have h1 : i - k = (i - (k + 1)) + 1 := by omega
          rw [h1, List.getElem?_cons_succ]
          have hk' : k + 1 ≤ i := by omega
          simp only [hk', if_true] at ih
          simp only [hk, if_true]
          unfold rest.go
          rw [hc]
          cases hb : is.contains k with
          | true => exact ih
          | false =>
            simp only
            cases h : L[i - (k + 1)]? with
            | none => rw [h] at ih; exact List.Perm.cons A ih
            | some B => rw [h] at ih; exact (List.Perm.swap A B _).trans (List.Perm.cons A ih)
      · have ih := perm_skip' (by omega) ih
        refine perm_skip hk ?_
        have hc : (i :: is).contains k = is.contains k := by
          rw [List.contains_cons, show (k == i) = false by simp; omega]; simp
        unfold rest.go
        rw [hc]
        cases is.contains k
        · exact List.Perm.cons A ih
        · exact ih
  have := key L 0
  simpa [rest] using this
def nodupB : List Nat → Bool
  | [] => true
  | i :: is => !is.contains i && nodupB is
theorem sel_rest (L : List As) : ∀ (is : List Nat), nodupB is = true → (sel L is ++ rest L is).Perm L
  | [], _ => by rw [rest_nil]; exact .refl _
  | i :: is, h => by
    unfold nodupB at h
    simp only [Bool.and_eq_true, Bool.not_eq_true'] at h
    have ih := sel_rest L is h.2
    have hr := rest_cons i is h.1 L
    unfold sel
    cases e : L[i]? with
    | none => rw [e] at hr; exact (List.Perm.append_left _ hr).trans ih
    | some A =>
      rw [e] at hr
      refine List.Perm.trans ?_ ((List.Perm.append_left _ hr).trans ih)
      exact List.perm_middle.symm
theorem Sep.re {L : List As} {H : Hp} (h : Sep L H) (is : List Nat) (hn : nodupB is = true) : Sep (sel L is) H :=
  Sep.take (Sep.perm (sel_rest L is hn).symm h)
theorem Sep.split {L : List As} {H : Hp} (h : Sep L H) (is : List Nat) (hn : nodupB is = true) : Sep (sel L is ++ rest L is) H := Sep.perm (sel_rest L is hn).symm h
theorem Sep.see {L : List As} {H : Hp} (h : Sep L H) (i : Nat) {A : As} (hi : L[i]? = some A) : ∃ H1, A H1 ∧ H1.le H := by
  have h1 : Sep [A] H := by
    have := h.re [i] rfl
    unfold sel at this
    rw [hi] at this
    exact this
  obtain ⟨H1, _, k1, _, _, k4, _⟩ := h1
  exact ⟨H1, k4, k1⟩
def pts (b : Nat) (o : AO) : As := fun H => H b = some o
def own (H0 : Hp) : As := fun H => H0.le H
theorem Sep.get {L : List As} {H : Hp} (h : Sep L H) (i : Nat) {b : Nat} {o : AO} (hi : L[i]? = some (pts b o)) : H b = some o := by
  obtain ⟨H1, h1, h2⟩ := h.see i hi
  exact h2 _ _ h1
theorem Sep.ow {L : List As} {H H0 : Hp} (h : Sep L H) (i : Nat) (hi : L[i]? = some (own H0)) : H0.le H := by
  obtain ⟨H1, h1, h2⟩ := h.see i hi
  exact Hp.le_trans h1 h2
theorem Sep.start (H : Hp) : Sep [own H] H := ⟨H, fun _ => none, Hp.le_refl _, fun b o h => (by cases h), fun b => Or.inr rfl, Hp.le_refl _, trivial⟩
theorem Sep.new {L : List As} {H : Hp} (h : Sep L H) {b : Nat} (hb : H b = none) (o : AO) : Sep (L ++ [pts b o]) (H.set b o) := by
  refine Sep.join (H1 := H) (H2 := fun c => if c = b then some o else none) (Hp.le_set hb) ?_ ?_ h ⟨_, fun _ => none, Hp.le_refl _, fun b o h => (by cases h), fun b => .inr rfl, (if_pos rfl : (if b = b then some o else none) = some o), trivial⟩
  · intro c q hq
    simp only at hq
    split at hq
    · rename_i e; subst e; rw [Hp.set_same]; exact hq
    · cases hq
  · intro c
    by_cases e : c = b
    · left; rw [e]; exact hb
    · right; simp only [e, if_false]
theorem Sep.put {L : List As} {H : Hp} (h : Sep L H) (i : Nat) {b : Nat} {o : AO} (o' : AO) (hi : L[i]? = some (pts b o)) : Sep (L.set i (pts b o')) (H.set b o') := by
  have key : ∀ (L : List As) (i : Nat) (H : Hp), Sep L H → L[i]? = some (pts b o) → Sep (L.set i (pts b o')) (H.set b o') := by
    intro L
    induction L with
    | nil => intro i H _ hi; simp at hi
    | cons A L ih =>
      intro i H h hi
      obtain ⟨H1, H2, h1, h2, h3, h4, h5⟩ := h
      cases i with
      | zero =>
        simp only [List.getElem?_cons_zero, Option.some.injEq] at hi
        subst hi
        have h4' : H1 b = some o := h4
        have hn : H2 b = none := (h3 b).resolve_left (by rw [h4']; simp)
        refine ⟨H1.set b o', H2, Hp.set_le h1 b o', fun c q hq => ?_, fun c => ?_, Hp.set_same _ _ _, h5⟩
        · rw [Hp.set_other _ _ (fun e => by rw [e, hn] at hq; cases hq)]; exact h2 c q hq
        · by_cases e : c = b
          · right; rw [e]; exact hn
          · rw [Hp.set_other _ _ e]; exact h3 c
      | succ i =>
        rw [List.getElem?_cons_succ] at hi
        have hb : H2 b = some o := Sep.get h5 i hi
        have hn : H1 b = none := (h3 b).resolve_right (by rw [hb]; simp)
        refine ⟨H1, H2.set b o', fun c q hq => ?_, Hp.set_le h2 b o', fun c => ?_, h4, ih i H2 h5 hi⟩
        · rw [Hp.set_other _ _ (fun e => by rw [e, hn] at hq; cases hq)]; exact h1 c q hq
        · by_cases e : c = b
          · left; rw [e]; exact hn
          · rw [Hp.set_other _ _ e]; exact h3 c
  exact key L i H h hi
def nthV : List Value → Nat → Option Value
  | [], _ => none
  | v :: _, 0 => some v
  | _ :: l, n + 1 => nthV l n
theorem nthV_eq : ∀ (l : List Value) (i : Nat), nthV l i = l[i]?
  | [], _ => by simp [nthV]
  | v :: _, 0 => rfl
  | _ :: l, n + 1 => by simp [nthV, nthV_eq l n]
section
variable {L : List As} {H : Hp}
theorem Sep.nw (h : Sep L H) {o : AO} {K : Nat → Hp → Prop} (k : ∀ b H', Sep (L ++ [pts b o]) H' → K b H') : Nw H o K := fun b hb => k b _ (h.new hb o)
theorem Sep.ld (h : Sep L H) (i : Nat) {b j : Nat} {c : Array Value} {e : TypeId} {v : Value} {K : Value → Prop} (hi : L[i]? = some (pts b (.obj (.cells c e)))) (hv : nthV c.toList j = some v) (k : K v) : Ld H ⟨b, j, none⟩ K :=
  Ld_obj (h.get i hi) (by rw [nthV_eq, Array.getElem?_toList] at hv; exact hv) k
theorem Sep.ldr (h : Sep L H) (i : Nat) {b j : Nat} {xs : List Value} {e : TypeId} {m : Nat} {v : Value} {K : Value → Prop} (hi : L[i]? = some (pts b (.row xs e m))) (hv : xs[j]? = some v) (k : K v) : Ld H ⟨b, j, none⟩ K :=
  Ld_row (h.get i hi) hv k
theorem Sep.st (h : Sep L H) (i : Nat) {b j : Nat} {c : Array Value} {e : TypeId} {v : Value} {K : Hp → Prop} (hi : L[i]? = some (pts b (.obj (.cells c e)))) (hj : j < c.size) (hv : v.oneCell' = true)
    (k : ∀ H', Sep (L.set i (pts b (.obj (.cells (c.setIfInBounds j v) e)))) H' → K H') : St H ⟨b, j, none⟩ v K :=
  St_obj (h.get i hi) hj hv (k _ (h.put i _ hi))
theorem Sep.str (h : Sep L H) (i : Nat) {b j : Nat} {xs : List Value} {e : TypeId} {m : Nat} {v : Value} {K : Hp → Prop} (hi : L[i]? = some (pts b (.row xs e m))) (hj : j < xs.length) (hv : v.oneCell' = true)
    (k : ∀ H', Sep (L.set i (pts b (.row (xs.set j v) e m))) H' → K H') : St H ⟨b, j, none⟩ v K :=
  St_row (h.get i hi) hj hv (k _ (h.put i _ hi))
theorem Sep.lda (h : Sep L H) (i : Nat) {b off n : Nat} {c : Array Value} {e : TypeId} {K : List Value → Prop} (hi : L[i]? = some (pts b (.obj (.cells c e)))) (hn : off + n ≤ c.size) (k : K ((c.toList.drop off).take n)) : LdA H ⟨b, off, none⟩ n K :=
  LdA_at (h.get i hi) hn k
theorem Sep.sta (h : Sep L H) (i : Nat) {b off n : Nat} {c y : Array Value} {e : TypeId} {K : Hp → Prop} (hi : L[i]? = some (pts b (.obj (.cells c e)))) (hn : off + n ≤ c.size) (hy : y.size = n) (hv : y.toList.all (fun v => v.oneCell') = true)
    (k : ∀ H', Sep (L.set i (pts b (.obj (.cells (setAt c.toList off y.toList).toArray e)))) H' → K H') : StA H ⟨b, off, none⟩ y n K :=
  StA_lit (h.get i hi) hn hy hv (k _ (h.put i _ hi))
theorem Sep.mks (h : Sep L H) {P : Program} {e : TypeId} {s bs : Nat} {z : Array Value} (hi : cellInfo P e = some (s, bs, some z)) (hs : z.size = s) {l c : Int} {n m : Nat} (hl : l = n) (hc : c = m) (hnm : n ≤ m) (hm : bs * m ≤ 140737488355328) (hm2 : m ≤ 9223372036854775807) {K : Value → Hp → Prop}
    (k : ∀ b H', Sep (L ++ [pts b (.row (zeroRow z.toList n) e (m * s))]) H' → K (.slice (some ⟨b, 0, none⟩) n m) H') : MkS P e l c H K :=
  MkS_of hi hs hl hc hnm hm hm2 fun b hb => k b _ (h.new hb _)
end
def Tr (P : Program) (f : FuncId) (args : Array Value) (Pre : List As) (Q : Value → List As → Prop) : Prop :=
  ∀ H, Sep Pre H → HCalls P f args H fun v H' => ∃ M, Q v M ∧ Sep M H'
theorem Tr.use {P : Program} {f : FuncId} {args : Array Value} {Pre : List As} {Q : Value → List As → Prop} (t : Tr P f args Pre Q) {L : List As} {H : Hp} (h : Sep L H) (is : List Nat) (hs : sel L is = Pre) (hn : nodupB is = true) {K : Value → Hp → Prop}
    (k : ∀ v M H', Q v M → Sep (M ++ rest L is) H' → K v H') : HCalls P f args H K := by
  have h1 := h.split is hn
  rw [hs] at h1
  obtain ⟨H1, H2, k1, k2, k3, k4, k5⟩ := h1.append
  refine ((t H1 k4).frame k1).mono ?_
  rintro v H' ⟨H1', ⟨M, hq, hM⟩, rfl, hfr⟩
  refine k v M _ hq (Sep.join (H1 := H1') (H2 := H2) (fun b o hb => ?_) (fun b o hb => ?_) (fun b => ?_) hM k5)
  · unfold Hp.patch; rw [hb]
  · have e1 : H1 b = none := (k3 b).resolve_right (by rw [hb]; simp)
    have e2 : H1' b = none := hfr b (by rw [k2 b o hb]; simp) e1
    unfold Hp.patch; rw [e2, e1]; exact k2 b o hb
  · cases e : H2 b with
    | none => exact .inr rfl
    | some o =>
      left
      exact hfr b (by rw [k2 b o e]; simp) ((k3 b).resolve_right (by rw [e]; simp))
theorem HCallsD.mono {P : Program} {f : FuncId} {args : Array Value} {H : Hp} {R R' : Value → Hp → Prop} (h : HCallsD P f args H R) (k : ∀ v H', R v H' → R' v H') : HCallsD P f args H R' := fun w hw c cs hc => by
  obtain ⟨e, u', w', fr, ⟨hu, v, H', rfl, hr, hA⟩, hx⟩ := h w hw c cs hc
  exact ⟨_, _, w', fr, ⟨hu, v, H', rfl, k v H' hr, hA⟩, hx⟩
theorem HCallsD.frame {P : Program} {f : FuncId} {args : Array Value} {H H1 : Hp} {R : Value → Hp → Prop} (h : HCallsD P f args H1 R) (hle : H1.le H) :
    HCallsD P f args H fun v H' => ∃ H1', R v H1' ∧ H' = H.patch H1 H1' ∧ ∀ b, H b ≠ none → H1 b = none → H1' b = none := fun w hw c cs hc => by
  have hw1 : Fits H1 w := fun b o hb => hw b o (hle b o hb)
  obtain ⟨e, u', w', fr, ⟨hu, v, H1', rfl, hr, hA⟩, hx⟩ := h w hw1 c cs hc
  refine ⟨_, _, w', fr, ⟨hu, v, _, rfl, ⟨H1', hr, rfl, fun b hb h1 => ?_⟩, hA.patch hw hle⟩, hx⟩
  cases hq : H b with
  | none => exact absurd hq hb
  | some o =>
    obtain ⟨x, hx, _⟩ := hw b o hq
    exact (hA.old b (Array.getElem?_eq_some_iff.1 hx).1 h1).1
def TrD (P : Program) (f : FuncId) (args : Array Value) (Pre : List As) (Q : Value → List As → Prop) : Prop :=
  ∀ H, Sep Pre H → HCallsD P f args H fun v H' => ∃ M, Q v M ∧ Sep M H'
theorem TrD.use {P : Program} {f : FuncId} {args : Array Value} {Pre : List As} {Q : Value → List As → Prop} (t : TrD P f args Pre Q) {L : List As} {H : Hp} (h : Sep L H) (is : List Nat) (hs : sel L is = Pre) (hn : nodupB is = true) {K : Value → Hp → Prop}
    (k : ∀ v M H', Q v M → Sep (M ++ rest L is) H' → K v H') : HCallsD P f args H K := by
  have h1 := h.split is hn
  rw [hs] at h1
  obtain ⟨H1, H2, k1, k2, k3, k4, k5⟩ := h1.append
  refine ((t H1 k4).frame k1).mono ?_
  rintro v H' ⟨H1', ⟨M, hq, hM⟩, rfl, hfr⟩
  refine k v M _ hq (Sep.join (H1 := H1') (H2 := H2) (fun b o hb => ?_) (fun b o hb => ?_) (fun b => ?_) hM k5)
  · unfold Hp.patch; rw [hb]
  · have e1 : H1 b = none := (k3 b).resolve_right (by rw [hb]; simp)
    have e2 : H1' b = none := hfr b (by rw [k2 b o hb]; simp) e1
    unfold Hp.patch; rw [e2, e1]; exact k2 b o hb
  · cases e : H2 b with
    | none => exact .inr rfl
    | some o =>
      left
      exact hfr b (by rw [k2 b o e]; simp) ((k3 b).resolve_right (by rw [e]; simp))
theorem Sep.fin {L : List As} {H H0 : Hp} (h : Sep L H) (i : Nat) (hi : L[i]? = some (own H0)) (v : Value) : Ret v H0 v H := ⟨rfl, h.ow i hi⟩
end Go.Hw
end
section
/- The frame of the proofs: slices of one's own, as parts of memory; elements of several cells. -/
namespace Go.Hw
open Go
theorem erase_none {G : Hp} {q : Nat} (b : Nat) (h : G q = none) : G.erase b q = none := by
  unfold Hp.erase; split
  · rfl
  · exact h
def Own (e : TypeId) (s : Nat) (A : Option Addr) (n m : Nat) (xs : List Value) : As := fun H =>
  xs.length = n * s ∧ ((A = none ∧ n = 0 ∧ m = 0) ∨ ∃ b mm, A = some ⟨b, 0, none⟩ ∧ H b = some (.row xs e mm) ∧ m * s ≤ mm)
theorem Own.up {e : TypeId} {s : Nat} {A : Option Addr} {n m : Nat} {xs : List Value} {H H' : Hp} (h : Own e s A n m xs H) (k : H.le H') : Own e s A n m xs H' := by
  obtain ⟨h1, h2⟩ := h
  refine ⟨h1, h2.imp id ?_⟩
  rintro ⟨b, mm, h3, h4, h5⟩
  exact ⟨b, mm, h3, k _ _ h4, h5⟩
theorem Own.none (e : TypeId) (s : Nat) (H : Hp) : Own e s .none 0 0 [] H := ⟨by simp, .inl ⟨rfl, rfl, rfl⟩⟩
section
variable {L : List As} {H : Hp}
theorem Sep.own (h : Sep L H) (i : Nat) {e : TypeId} {s : Nat} {A : Option Addr} {n m : Nat} {xs : List Value} (hi : L[i]? = some (Own e s A n m xs)) : Own e s A n m xs H := by
  obtain ⟨H1, h1, h2⟩ := h.see i hi
  exact h1.up h2
theorem Sep.turn (h : Sep L H) (i : Nat) {A : As} (hi : L[i]? = some A) {B : As} (k : ∀ H1, A H1 → B H1) : Sep (L.set i B) H := by
  induction L generalizing i H with
  | nil => simp at hi
  | cons C L ih =>
    obtain ⟨H1, H2, h1, h2, h3, h4, h5⟩ := h
    cases i with
    | zero =>
      simp only [List.getElem?_cons_zero, Option.some.injEq] at hi
      subst hi
      exact ⟨H1, H2, h1, h2, h3, k _ h4, h5⟩
    | succ i => exact ⟨H1, H2, h1, h2, h3, h4, ih h5 i hi⟩
theorem Sep.turn' (h : Sep L H) (i : Nat) {A : As} (hi : L[i]? = some A) {B : As} (k : ∀ H1, H1.le H → A H1 → B H1) : Sep (L.set i B) H := by
  induction L generalizing i H with
  | nil => simp at hi
  | cons C L ih =>
    obtain ⟨H1, H2, h1, h2, h3, h4, h5⟩ := h
    cases i with
    | zero =>
      simp only [List.getElem?_cons_zero, Option.some.injEq] at hi
      subst hi
      exact ⟨H1, H2, h1, h2, h3, k _ h1 h4, h5⟩
    | succ i => exact ⟨H1, H2, h1, h2, h3, h4, ih h5 i hi fun G hG hA => k G (Hp.le_trans hG h2) hA⟩
theorem Sep.putIn (h : Sep L H) (i : Nat) {A : As} (hi : L[i]? = some A) {b : Nat} {o' : AO} {B : As} (k : ∀ H1, H1.le H → A H1 → ∃ o, H1 b = some o ∧ B (H1.set b o')) : Sep (L.set i B) (H.set b o') := by
  induction L generalizing i H with
  | nil => simp at hi
  | cons C L ih =>
    obtain ⟨H1, H2, h1, h2, h3, h4, h5⟩ := h
    cases i with
    | zero =>
      simp only [List.getElem?_cons_zero, Option.some.injEq] at hi
      subst hi
      obtain ⟨o, ho, hB⟩ := k H1 h1 h4
      have hn : H2 b = none := (h3 b).resolve_left (by rw [ho]; simp)
      refine ⟨H1.set b o', H2, Hp.set_le h1 b o', fun c q hq => ?_, fun c => ?_, hB, h5⟩
      · rw [Hp.set_other _ _ (fun e => by rw [e, hn] at hq; cases hq)]; exact h2 c q hq
      · by_cases e : c = b
        · right; rw [e]; exact hn
        · rw [Hp.set_other _ _ e]; exact h3 c
    | succ i =>
      rw [List.getElem?_cons_succ] at hi
      have ih' := ih h5 i hi (fun G hG hA => k G (Hp.le_trans hG h2) hA)
      have hb : ∃ o, H2 b = some o := by
        obtain ⟨G, hG, hle⟩ := h5.see i hi
        obtain ⟨o, ho, _⟩ := k G (Hp.le_trans hle h2) hG
        exact ⟨o, hle _ _ ho⟩
      obtain ⟨o, hb⟩ := hb
      have hn : H1 b = none := (h3 b).resolve_right (by rw [hb]; simp)
      refine ⟨H1, H2.set b o', fun c q hq => ?_, Hp.set_le h2 b o', fun c => ?_, h4, ih'⟩
      · rw [Hp.set_other _ _ (fun e => by rw [e, hn] at hq; cases hq)]; exact h1 c q hq
      · by_cases e : c = b
        · left; rw [e]; exact hn
        · rw [Hp.set_other _ _ e]; exact h3 c
theorem Own.rd {e : TypeId} {s : Nat} {A : Option Addr} {n m : Nat} {xs : List Value} (h : Own e s A n m xs H) {x : Int} {j : Nat} (hx : x = j) (k : Nat) (hk : k < s) {v : Value} (hv : xs[j * s + k]? = some v) {K : Value → Prop} (kk : K v) :
    ixI x n (NN A fun a => Ld H ((a.add (x.toNat * s)).add k) K) := by
  subst hx
  obtain ⟨h1, h2⟩ := h
  have hlt := (List.getElem?_eq_some_iff.1 hv).1
  have hj : j < n := by
    rw [h1] at hlt
    have h3 : j * s < n * s := by omega
    exact Nat.lt_of_mul_lt_mul_right h3
  refine ⟨by omega, by omega, ?_⟩
  rcases h2 with ⟨_, h3, _⟩ | ⟨b, mm, rfl, h4, _⟩
  · omega
  · refine Ld_of ?_ kk
    rw [Int.toNat_natCast, Addr.add_lit', Addr.add_lit', Nat.zero_add, cell_row h4]; exact hv
theorem Own.rdA {e : TypeId} {s : Nat} {A : Option Addr} {n m : Nat} {xs : List Value} (h : Own e s A n m xs H) {x : Int} {j : Nat} (hx : x = j) (hj : j < n) {ys : List Value} (hy : (xs.drop (j * s)).take s = ys) {K : List Value → Prop} (k : K ys) :
    ixI x n (NN A fun a => LdA H (a.add (x.toNat * s)) s K) := by
  subst hx
  obtain ⟨h1, h2⟩ := h
  refine ⟨by omega, by omega, ?_⟩
  rcases h2 with ⟨_, h3, _⟩ | ⟨b, mm, rfl, h4, _⟩
  · omega
  · have hle : j * s + s ≤ xs.length := by
      rw [h1]
      have : (j + 1) * s ≤ n * s := Nat.mul_le_mul_right s hj
      rw [Nat.succ_mul] at this; omega
    show LdA H _ s K
    unfold LdA
    rw [Int.toNat_natCast, Addr.add_lit', Nat.zero_add, cells_row h4 (j * s) s 0 (by omega), Nat.add_zero, hy]
    exact k
theorem Sep.wr (h : Sep L H) (i : Nat) {e : TypeId} {s : Nat} {A : Option Addr} {n m : Nat} {xs : List Value} (hi : L[i]? = some (Own e s A n m xs)) {x : Int} {j : Nat} (hx : x = j) (k : Nat) (hk : k < s) (hj : j < n) {v : Value} (hv : v.oneCell' = true) {K : Hp → Prop}
    (kk : ∀ H', Sep (L.set i (Own e s A n m (xs.set (j * s + k) v))) H' → K H') : ixI x n (NN A fun a => St H ((a.add (x.toNat * s)).add k) v K) := by
  subst hx
  refine ⟨by omega, by omega, ?_⟩
  obtain ⟨h1, h2⟩ := h.own i hi
  have hlt : j * s + k < xs.length := by
    rw [h1]
    have : (j + 1) * s ≤ n * s := Nat.mul_le_mul_right s hj
    rw [Nat.succ_mul] at this; omega
  rcases h2 with ⟨_, h3, _⟩ | ⟨b, mm, rfl, h4, h5⟩
  · omega
  · rw [Int.toNat_natCast]
    show St H _ v K
    rw [Addr.add_lit', Addr.add_lit', Nat.zero_add]
    refine St_row h4 hlt hv (kk _ (h.putIn i hi fun H1 hle hA => ?_))
    obtain ⟨g1, g2⟩ := hA
    rcases g2 with ⟨_, g3, _⟩ | ⟨b', mm', g3, g4, g5⟩
    · omega
    · cases g3
      have : mm = mm' := by
        have := hle _ _ g4
        rw [h4] at this; cases this; rfl
      subst this
      exact ⟨_, g4, by rw [List.length_set]; exact g1, .inr ⟨b, mm, rfl, Hp.set_same _ _ _, g5⟩⟩
theorem Sep.app (h : Sep L H) (i : Nat) {P : Program} {e : TypeId} {s bs : Nat} {z : Array Value} {A : Option Addr} {n m k : Nat} {xs ys : List Value} {x : Value} (hi : L[i]? = some (Own e s A n m xs)) (hc : cellInfo P e = some (s, bs, some z)) (hz : z.size = s) (hbs : bs ≤ 1073741824) (hs : 0 < s)
    (hn : lenV x = some k) (hsrc : srcCells H s k x = some ys) (hy : ys.length = k * s) (hone : ys.all (fun y => y.oneCell') = true) (h1 : (n + k) * bs ≤ 35184372088832) (h2 : n + k ≤ 35184372088832) {K : Value → Hp → Prop}
    (kk : ∀ A' m' H', Sep (L.set i (Own e s A' (n + k) m' (xs ++ ys))) H' → K (.slice A' (n + k) m') H') : AppK P e (.slice A n m) x H K := by
  have hO := h.own i hi
  have hone' : ∀ y ∈ ys, y.oneCell' = true := fun y hy' => List.all_eq_true.1 hone y hy'
  obtain ⟨g1, g2⟩ := hO
  rcases g2 with ⟨rfl, rfl, rfl⟩ | ⟨b, mm, rfl, g4, g5⟩
  · rw [Nat.zero_add] at h1 h2
    obtain rfl : xs = [] := by cases xs <;> simp_all
    refine AppK_nil hc hz hbs hn hsrc hy hone' h1 h2 (fun h0 => ?_) (fun _ b c hbc hb => ?_)
    · have hys : ys = [] := by
        subst h0
        cases ys with
        | nil => rfl
        | cons y ys => simp at hy
      subst hys
      subst h0
      refine kk .none 0 H ?_
      have := h.turn i hi (B := Own e s .none (0 + 0) 0 ([] ++ [])) (fun H1 _ => Own.none e s H1)
      exact this
    · have : Sep (L.set i (pts b (.row ys e (c * s)))) (H.set b (.row ys e (c * s))) := by
        have h3 := (h.new hb (.row ys e (c * s)))
        have h4 : Sep ((L ++ [pts b (.row ys e (c * s))]).set i (fun _ => True)) (H.set b (.row ys e (c * s))) := Sep.turn h3 i (A := Own e s .none 0 0 []) (by rw [List.getElem?_append_left (List.getElem?_eq_some_iff.1 hi).1]; exact hi) (fun _ _ => trivial)
        have hlt := (List.getElem?_eq_some_iff.1 hi).1
        rw [List.set_append_left _ _ hlt] at h4
        have hp : (L.set i (fun _ => True) ++ [pts b (.row ys e (c * s))]).Perm (L.set i (pts b (.row ys e (c * s))) ++ [fun _ => True]) := by
          rw [List.set_eq_take_append_cons_drop, List.set_eq_take_append_cons_drop]
          simp only [hlt, if_true, List.append_assoc, List.cons_append]
          refine List.Perm.append_left _ ?_
          have a1 : ∀ (X : As) (l : List As) (Y : As), (X :: (l ++ [Y])).Perm (Y :: (l ++ [X])) := fun X l Y => by
            have b1 : (X :: (l ++ [Y])).Perm (X :: Y :: l) := List.Perm.cons X (List.perm_append_comm (l₁ := l) (l₂ := [Y]))
            have b2 : (Y :: (l ++ [X])).Perm (Y :: X :: l) := List.Perm.cons Y (List.perm_append_comm (l₁ := l) (l₂ := [X]))
            exact b1.trans ((List.Perm.swap Y X l).trans b2.symm)
          exact a1 _ _ _
        exact Sep.take (Sep.perm hp h4)
      rw [show (k : Nat) = 0 + k by omega]
      refine kk _ c _ (this.turn i (A := pts b (.row ys e (c * s))) (by rw [List.getElem?_set]; simp [(List.getElem?_eq_some_iff.1 hi).1]) (B := Own e s (some ⟨b, 0, .none⟩) (0 + k) c ([] ++ ys)) (fun H1 hH1 => ⟨by simpa using hy, .inr ⟨b, _, rfl, (by rw [List.nil_append]; exact hH1 : H1 b = some (.row ([] ++ ys) e (c * s))), Nat.le_refl _⟩⟩) |> fun q => ?_)
      rw [List.set_set] at q
      exact q
  · refine AppK_own hc hz hbs g4 g1 g5 hn hsrc hy hone' h1 h2 fun b' c m' hc1 hc2 hb' => ?_
    refine kk _ c _ ?_
    -- the old row is given up, the new one made
    have hlt := (List.getElem?_eq_some_iff.1 hi).1
    have key : ∀ (L : List As) (i : Nat) (H : Hp), Sep L H → L[i]? = some (Own e s (some ⟨b, 0, .none⟩) n m xs) → 0 < s → (H.erase b) b' = none → Sep (L.set i (Own e s (some ⟨b', 0, .none⟩) (n + k) c (xs ++ ys))) ((H.erase b).set b' (.row (xs ++ ys) e m')) := by
      intro L
      induction L with
      | nil => intro i H _ hi; simp at hi
      | cons C L ih =>
        intro i H hS hi hs hb'
        obtain ⟨H1, H2, k1, k2, k3, k4, k5⟩ := hS
        have el : ∀ {G G' : Hp}, G.le G' → (G.erase b).le (G'.erase b) := fun hle c q hq => by
          unfold Hp.erase at hq ⊢
          split at hq
          · cases hq
          · rename_i hc; rw [if_neg hc]; exact hle c q hq
        have en : ∀ {G : Hp}, G b = .none → G.erase b = G := fun hG => by
          funext q; unfold Hp.erase; split
          · rename_i e; rw [e, hG]
          · rfl
        cases i with
        | zero =>
          simp only [List.getElem?_cons_zero, Option.some.injEq] at hi
          subst hi
          have hbs : ∃ o, H1 b = some o := by
            obtain ⟨_, q⟩ := k4
            rcases q with ⟨q, _⟩ | ⟨b2, mm2, q1, q2, _⟩
            · cases q
            · cases q1; exact ⟨_, q2⟩
          obtain ⟨o, hbs⟩ := hbs
          have hn2 : H2 b = .none := (k3 b).resolve_left (by rw [hbs]; simp)
          have hle2 : H2.le (H.erase b) := by have := el k2; rw [en hn2] at this; exact this
          refine ⟨(H1.erase b).set b' (.row (xs ++ ys) e m'), H2, Hp.set_le (el k1) _ _, Hp.le_trans hle2 (Hp.le_set hb'), fun q => ?_, ⟨by rw [List.length_append, g1, hy, Nat.add_mul], .inr ⟨b', m', rfl, Hp.set_same _ _ _, hc2⟩⟩, k5⟩
          by_cases e : q = b'
          · right; rw [e]; exact Hp.le_none hle2 hb'
          · rw [Hp.set_other _ _ e]
            rcases k3 q with e2 | e2
            · exact .inl (erase_none b e2)
            · exact .inr e2
        | succ i =>
          rw [List.getElem?_cons_succ] at hi
          have hbs : ∃ o, H2 b = some o := by
            obtain ⟨G, ⟨_, q⟩, hle⟩ := k5.see i hi
            rcases q with ⟨q, _⟩ | ⟨b2, mm2, q1, q2, _⟩
            · cases q
            · cases q1; exact ⟨_, hle _ _ q2⟩
          obtain ⟨o, hbs⟩ := hbs
          have hn1 : H1 b = .none := (k3 b).resolve_right (by rw [hbs]; simp)
          have hle1 : H1.le (H.erase b) := by have := el k1; rw [en hn1] at this; exact this
          refine ⟨H1, (H2.erase b).set b' (.row (xs ++ ys) e m'), Hp.le_trans hle1 (Hp.le_set hb'), Hp.set_le (el k2) _ _, fun q => ?_, k4, ih i H2 k5 hi hs (Hp.le_none (el k2) hb')⟩
          by_cases e : q = b'
          · left; rw [e]; exact Hp.le_none hle1 hb'
          · rw [Hp.set_other _ _ e]
            rcases k3 q with e2 | e2
            · exact .inl e2
            · exact .inr (erase_none b e2)
    exact key L i H h hi hs hb'
theorem Sep.appS (h : Sep L H) (i : Nat) {P : Program} {e e' : TypeId} {s bs : Nat} {z : Array Value} {A : Option Addr} {n m : Nat} {xs ys : List Value} (hi : L[i]? = some (Own e s A n m xs)) (hc : cellInfo P e = some (s, bs, some z)) (hz : z.size = s) (hbs : bs ≤ 1073741824) (hs : 0 < s) (hy : ys.length = s) (hv : ys.all (fun y => y.oneCell') = true) (h2 : (n + 1) * bs ≤ 35184372088832) (h3 : n + 1 ≤ 35184372088832) {K : Value → Hp → Prop}
    (kk : ∀ A' m' H', Sep (L.set i (Own e s A' (n + 1) m' (xs ++ ys))) H' → K (.slice A' (n + 1) m') H') : Nw H (.row ys e' s) fun b H' => AppK P e (.slice A n m) (.slice (some ⟨b, 0, none⟩) 1 1) H' K := by
  refine h.nw fun b H' h' => ?_
  have hlt := (List.getElem?_eq_some_iff.1 hi).1
  refine h'.app i (k := 1) (ys := ys) (by rw [List.getElem?_append_left hlt]; exact hi) hc hz hbs hs rfl ?_ (by rw [hy, Nat.one_mul]) hv h2 h3 fun A' m' H'' h'' => ?_
  · show H'.cells? ⟨b, 0, none⟩ 0 (1 * s) = some ys
    rw [Nat.one_mul, cells_row (h'.get L.length (b := b) (o := .row ys e' s) (by simp)) 0 s 0 (by omega)]
    simp [← hy]
  · rw [List.set_append_left _ _ hlt] at h''
    exact kk A' m' H'' (Sep.take h'')
theorem Sep.app1 (h : Sep L H) (i : Nat) {P : Program} {e e' : TypeId} {bs : Nat} {v0 : Value} {A : Option Addr} {n m : Nat} {xs : List Value} {v : Value} (hi : L[i]? = some (Own e 1 A n m xs)) (hc : cellInfo P e = some (1, bs, some #[v0])) (hbs : bs ≤ 1073741824) (hv : v.oneCell' = true) (h2 : (n + 1) * bs ≤ 35184372088832) (h3 : n + 1 ≤ 35184372088832) {K : Value → Hp → Prop}
    (kk : ∀ A' m' H', Sep (L.set i (Own e 1 A' (n + 1) m' (xs ++ [v]))) H' → K (.slice A' (n + 1) m') H') : Nw H (.row [v] e' 1) fun b H' => AppK P e (.slice A n m) (.slice (some ⟨b, 0, none⟩) 1 1) H' K := by
  refine h.nw fun b H' h' => ?_
  have hlt := (List.getElem?_eq_some_iff.1 hi).1
  refine h'.app i (k := 1) (ys := [v]) (by rw [List.getElem?_append_left hlt]; exact hi) hc rfl hbs (by omega) rfl (src_of (Cells.row (h'.get L.length (b := b) (o := .row [v] e' 1) (by simp)) 0 1) rfl) rfl (by simp [hv]) h2 h3 fun A' m' H'' h'' => ?_
  rw [List.set_append_left _ _ hlt] at h''
  exact kk A' m' H'' (Sep.take h'')
end
section
variable {L : List As} {H : Hp}
theorem Sep.ldw (h : Sep L H) (i : Nat) {b n : Nat} {c : Array Value} {e : TypeId} {K : List Value → Prop} (hi : L[i]? = some (pts b (.obj (.cells c e)))) (hn : c.size = n) (k : K c.toList) : LdA H ⟨b, 0, none⟩ n K := LdA_obj (h.get i hi) hn k
theorem Sep.stw (h : Sep L H) (i : Nat) {b n : Nat} {c y : Array Value} {e : TypeId} {K : Hp → Prop} (hi : L[i]? = some (pts b (.obj (.cells c e)))) (hn : c.size = n) (hy : y.size = n) (hv : y.toList.all (fun v => v.oneCell') = true)
    (k : ∀ H', Sep (L.set i (pts b (.obj (.cells y e)))) H' → K H') : StA H ⟨b, 0, none⟩ y n K := StA_all (h.get i hi) hn hy hv (k _ (h.put i _ hi))
end
section
variable {L : List As} {H : Hp}
end
theorem Cells.obj {H : Hp} {b : Nat} {c : Array Value} {e : TypeId} (h : H b = some (.obj (.cells c e))) (n : Nat) : Cells H (some ⟨b, 0, none⟩) (c.toList.take n) := fun i v hi => by
  refine ⟨_, rfl, ?_⟩
  rw [Addr.add_lit', Nat.zero_add, cell_obj h]
  rw [List.getElem?_take] at hi
  split at hi
  · rw [Array.getElem?_toList] at hi; exact hi
  · cases hi
theorem puts_row {e : TypeId} {b off m : Nat} : ∀ (l : List Value) (i : Nat) (H : Hp) (xs : List Value), H b = some (.row xs e m) → off + i + l.length ≤ xs.length → (∀ v ∈ l, v.oneCell' = true) →
    H.puts? ⟨b, off, none⟩ i l = some (H.set b (.row (setAt xs (off + i) l) e m))
  | [], i, H, xs, h, hi, _ => by simp [Hp.puts?, setAt_nil, Hp.set_id h]
  | v :: l, i, H, xs, h, hi, hv => by
    unfold Hp.puts?
    simp only [List.length_cons] at hi
    rw [Addr.add_lit', put_row h (by omega) (hv v (by simp))]
    simp only
    rw [puts_row l (i + 1) _ _ (Hp.set_same _ _ _) (by simp; omega) (fun u hu => hv u (by simp [hu])), Hp.set_set]
    congr 3
    apply List.ext_getElem?
    intro j
    rw [setAt_get (by simp; omega), setAt_get (by simp; omega), List.getElem?_set]
    simp only [List.length_cons]
    by_cases h1 : j < off + i
    · rw [if_pos (by omega), if_neg (by omega), if_pos h1]
    · rw [if_neg h1]
      by_cases h2 : j = off + i
      · subst h2; rw [if_pos (by omega), if_pos rfl, if_pos (by omega), if_pos (by omega)]; simp
      · rw [if_neg (by omega)]
        by_cases h3 : j < off + (i + 1) + l.length
        · rw [if_pos h3, if_pos (by omega), show j - (off + i) = (j - (off + (i + 1))) + 1 by omega, List.getElem?_cons_succ]
        · rw [if_neg h3, if_neg (by omega), if_neg (by omega)]
theorem Sep.cp {L : List As} {H : Hp} (h : Sep L H) (i : Nat) {P : Program} {e e' : TypeId} {bs : Nat} {z : Array Value} {b off n c m k : Nat} {xs ys : List Value} {x : Value} (hi : L[i]? = some (pts b (.row xs e' m))) (hc : cellInfo P e = some (1, bs, some z))
    (hn : lenV x = some k) (hsrc : srcCells H 1 (Nat.min k n) x = some ys) (ho : off + ys.length ≤ xs.length) (hone : ∀ y ∈ ys, y.oneCell' = true) {K : Value → Hp → Prop}
    (kk : ∀ H', Sep (L.set i (pts b (.row (setAt xs off ys) e' m))) H' → K (.int .i64 (Nat.min k n : Nat)) H') : CpK P e (.slice (some ⟨b, off, none⟩) n c) x H K := by
  obtain ⟨j, zz, h3, h4, rfl, h5, rfl⟩ := cellInfo_out hc
  unfold CpK
  simp only [h3]
  rw [h4]
  exact ⟨k, ys, _, hn, hsrc, by simpa using puts_row ys 0 H xs (h.get i hi) (by omega) hone, kk _ (by simpa using h.put i _ hi)⟩
theorem slB_from {n m l : Nat} {x : Int} {K : Nat → Nat → Prop} (hx : x = l) (hl : l ≤ n) (k : K l n) : slB n m (some x) none K := by
  subst hx
  refine ⟨by omega, by omega, ?_⟩
  rw [Int.toNat_natCast]; exact k
theorem slB_to {n m r : Nat} {x : Int} {K : Nat → Nat → Prop} (hx : x = r) (hr : r ≤ m) (k : K 0 r) : slB n m none (some x) K := by
  subst hx
  refine ⟨by omega, by omega, ?_⟩
  rw [Int.toNat_natCast]; exact k
theorem slA_zero (b off m : Nat) : slA (some ⟨b, off, none⟩) m 0 1 = some ⟨b, off, none⟩ := by
  unfold slA; split
  · rfl
  · rfl
theorem slA_at {b off m l : Nat} (h : l < m) : slA (some ⟨b, off, none⟩) m l 1 = some ⟨b, off + l, none⟩ := by
  unfold slA; rw [if_neg (by omega)]
  show some ((⟨b, off, none⟩ : Addr).add (l * 1)) = _
  rw [Nat.mul_one, Addr.add_lit']
theorem setAt_append {xs us bs : List Value} {off : Nat} (h : off + us.length + bs.length ≤ xs.length) : setAt (setAt xs off us) (off + us.length) bs = setAt xs off (us ++ bs) := by
  apply List.ext_getElem?
  intro i
  have hl : (setAt xs off us).length = xs.length := setAt_length (by omega)
  rw [setAt_get (by omega), setAt_get (by omega), setAt_get (by rw [List.length_append]; omega), List.length_append]
  by_cases h1 : i < off
  · rw [if_pos (by omega), if_pos h1, if_pos h1]
  · rw [if_neg h1, if_neg h1]
    by_cases h2 : i < off + us.length
    · rw [if_pos h2, if_pos h2, if_pos (by omega), List.getElem?_append_left (by omega)]
    · rw [if_neg h2]
      by_cases h3 : i < off + us.length + bs.length
      · rw [if_pos h3, if_pos (by omega), List.getElem?_append_right (by omega)]
        congr 1; omega
      · rw [if_neg h3, if_neg h2, if_neg (by omega)]
def CellsS (s : Nat) (H : Hp) (A : Option Addr) (rows : List (List Value)) : Prop := ∀ i r, rows[i]? = some r → ∃ a, A = some a ∧ ∀ j v, r[j]? = some v → H.cell? (a.add (i * s + j)) = some v
theorem CellsS.le {s : Nat} {H H' : Hp} {A : Option Addr} {rows : List (List Value)} (h : CellsS s H A rows) (k : H.le H') : CellsS s H' A rows := fun i r hi => by
  obtain ⟨a, ha, hc⟩ := h i r hi
  exact ⟨a, ha, fun j v hj => k.cell (hc j v hj)⟩
theorem add_add (a : Addr) (i j : Nat) : (a.add i).add j = a.add (i + j) := by
  unfold Addr.add
  by_cases h1 : i = 0 <;> by_cases h2 : j = 0 <;> simp_all [Nat.add_assoc]
theorem CellsS.rd {s : Nat} {H : Hp} {A : Option Addr} {rows : List (List Value)} (h : CellsS s H A rows) {i : Nat} {r : List Value} (hi : rows[i]? = some r) {x : Int} (hx : x = i) {n : Nat} (hn : rows.length ≤ n) {j : Nat} {v : Value} (hj : r[j]? = some v) {K : Value → Prop} (k : K v) :
    ixI x n (NN A fun a => Ld H ((a.add (x.toNat * s)).add j) K) := by
  obtain ⟨a, rfl, hc⟩ := h i r hi
  subst hx
  have := (List.getElem?_eq_some_iff.1 hi).1
  refine ⟨by omega, by omega, ?_⟩
  rw [Int.toNat_natCast]
  refine Ld_of ?_ k
  rw [add_add]; exact hc j v hj
end Go.Hw
end
section
/- The frame of the proofs: structs that came in, opened. -/
namespace Go.Hw
open Go Go.RowKit Go.ChangeShapes Go.WideShapes Go.ChangeAt
section
variable {H : Type} {enc : TypeId × Value → H} {P : Program} {W : World} {t e : TypeId} {cs : List Value} {d : DataW H} {ps : List MemPlace} {fuel : Nat}
end
def EqAll (cs : List Value) : Nat → List Value → Prop
  | _, [] => True
  | i, v :: l => cs[i]? = some v ∧ EqAll cs (i + 1) l
theorem EqAll.out {cs l : List Value} (h : EqAll cs 0 l) (hl : cs.length = l.length) : cs = l := by
  have key : ∀ (l : List Value) (i : Nat), EqAll cs i l → ∀ j, j < l.length → cs[i + j]? = l[j]? := by
    intro l
    induction l with
    | nil => intro i _ j hj; simp at hj
    | cons v l ih =>
      intro i ⟨h1, h2⟩ j hj
      cases j with
      | zero => simpa using h1
      | succ j =>
        rw [show i + (j + 1) = i + 1 + j by omega, ih (i + 1) h2 j (by simpa using hj)]
        simp
  apply List.ext_getElem?
  intro j
  by_cases hj : j < l.length
  · simpa using key l 0 h j hj
  · rw [List.getElem?_eq_none (by omega), List.getElem?_eq_none (by omega)]
section
variable {H : Type} {enc : TypeId × Value → H} {P : Program} {W : World} {t e : TypeId} {v : Value} {d : DataW H} {ps : List MemPlace} {r : Reach} {base : Nat}
end
end Go.Hw
end
section
/- The frame of the proofs: words as natural numbers. -/
namespace Go.Hw
open Go
theorem ofNat64 {x : Nat} (h : x < 2 ^ 64) : (BitVec.ofInt 64 (x : Int)).toNat = x := by
  rw [BitVec.ofInt_natCast, BitVec.toNat_ofNat, Nat.mod_eq_of_lt h]
theorem or_lt {x y n : Nat} (hx : x < 2 ^ n) (hy : y < 2 ^ n) : x ||| y < 2 ^ n := Nat.or_lt_two_pow hx hy
theorem orN {x y : Nat} (hx : x < 2 ^ 64) (hy : y < 2 ^ 64) : bOr .u64 (x : Int) (y : Int) = ((x ||| y : Nat) : Int) := by
  unfold bOr
  rw [show IntKind.u64.bits = 64 from rfl, BitVec.toNat_or, ofNat64 hx, ofNat64 hy]
  have := or_lt hx hy
  exact u64n (by omega)
theorem andN {x y : Nat} (hx : x < 2 ^ 64) (hy : y < 2 ^ 64) : bAnd .u64 (x : Int) (y : Int) = ((x &&& y : Nat) : Int) := by
  unfold bAnd
  rw [show IntKind.u64.bits = 64 from rfl, BitVec.toNat_and, ofNat64 hx, ofNat64 hy]
  have : x &&& y ≤ x := Nat.and_le_left
  exact u64n (by omega)
theorem shlN {x : Nat} {i : Int} {n : Nat} (h : i = n) (hn : n ≤ 64) : shlI .u64 (x : Int) i = ((x * 2 ^ n % 2 ^ 64 : Nat) : Int) := by
  subst h
  unfold shlI
  rw [Int.toNat_natCast, show IntKind.u64.bits = 64 from rfl, Nat.min_eq_left hn, u64mod, show ((2 : Int) ^ n) = ((2 ^ n : Nat) : Int) by simp, ← Int.natCast_mul]
  rfl
theorem shrN {k : IntKind} {a : Nat} {i : Int} {n : Nat} (h : i = n) (hn : n ≤ k.bits) : shrI k (a : Int) i = ((a / 2 ^ n : Nat) : Int) := by
  rw [shrNat a h hn, Nat.shiftRight_eq_div_pow]
theorem u64a {x : Nat} (y : Nat) : IntKind.u64.wrap ((x : Int) + (y : Int)) = (((x + y) % 2 ^ 64 : Nat) : Int) := by
  rw [u64mod, ← Int.natCast_add]; rfl
theorem u64m (x y : Nat) : IntKind.u64.wrap ((x : Int) * (y : Int)) = (((x * y) % 2 ^ 64 : Nat) : Int) := by
  rw [u64mod, ← Int.natCast_mul]; rfl
theorem Cells.shift {H : Hp} {A : Option Addr} {vs : List Value} (h : Cells H A vs) {m l : Nat} (hm : vs.length ≤ m) : Cells H (slA A m l 1) (vs.drop l) := fun i v hi => by
  rw [List.getElem?_drop] at hi
  have hlt := (List.getElem?_eq_some_iff.1 hi).1
  unfold slA
  rw [if_neg (by omega)]
  obtain ⟨a, rfl, hc⟩ := h _ _ hi
  exact ⟨_, rfl, by rw [add_add, Nat.mul_one]; exact hc⟩
theorem Cells.take {H : Hp} {A : Option Addr} {vs : List Value} (h : Cells H A vs) (n : Nat) : Cells H A (vs.take n) := fun i v hi => by
  rw [List.getElem?_take] at hi
  split at hi
  · exact h i v hi
  · cases hi
def leN : List UInt8 → Nat
  | [] => 0
  | b :: l => b.toNat + 256 * leN l
theorem leN_lt : ∀ l : List UInt8, leN l < 256 ^ l.length
  | [] => by simp [leN]
  | b :: l => by
    have h1 := leN_lt l
    have h2 : b.toNat < 256 := b.toNat_lt
    unfold leN
    rw [List.length_cons, Nat.pow_succ]
    have : 256 * leN l + 256 ≤ 256 ^ l.length * 256 := by
      have : leN l + 1 ≤ 256 ^ l.length := h1
      omega
    omega
theorem leN_drop {l : List UInt8} {j : Nat} (h : j < l.length) : leN (l.drop j) = l[j].toNat + 256 * leN (l.drop (j + 1)) := by
  rw [List.drop_eq_getElem_cons h]; rfl
theorem leN_lt8 {l : List UInt8} (h : l.length ≤ 8) : leN l < 2 ^ 64 := by
  have h1 := leN_lt l
  have h2 : 256 ^ l.length ≤ 256 ^ 8 := Nat.pow_le_pow_right (by omega) h
  rw [show (2 : Nat) ^ 64 = 256 ^ 8 by decide]
  omega
def bytesN : Nat → Nat → List UInt8
  | 0, _ => []
  | n + 1, x => UInt8.ofNat x :: bytesN n (x / 256)
theorem leN_bytesN : ∀ n x, leN (bytesN n x) = x % 256 ^ n
  | 0, x => by simp [bytesN, leN, Nat.mod_one]
  | n + 1, x => by
    unfold bytesN leN
    rw [leN_bytesN n, UInt8.toNat_ofNat', show (256 : Nat) ^ (n + 1) = 256 * 256 ^ n by rw [Nat.pow_succ, Nat.mul_comm], Nat.mod_mul]
theorem range_bytes (n : Nat) : ∀ x, (List.range n).map (fun k => UInt8.ofNat (x / 256 ^ k)) = bytesN n x := by
  induction n with
  | zero => intro x; rfl
  | succ n ih =>
    intro x
    rw [List.range_succ_eq_map]
    simp only [List.map_cons, List.map_map, Nat.pow_zero, Nat.div_one]
    unfold bytesN
    rw [← ih (x / 256)]
    congr 1
    apply List.map_congr_left
    intro k _
    simp only [Function.comp]
    rw [Nat.div_div_eq_div_mul, Nat.pow_succ, Nat.mul_comm]
end Go.Hw
end
section
/- The transform's sums, in the field of P elements: a stage, back again, by rows and columns. -/
namespace Go.Proofs.YtnknippcbecmeaaGreatDoor.Fft
abbrev Zp := Fin 18446744069414584321
def pw (x : Zp) : Nat → Zp
  | 0 => 1
  | n + 1 => pw x n * x
theorem pw_add (x : Zp) (a : Nat) : ∀ b, pw x (a + b) = pw x a * pw x b
  | 0 => by show pw x a = pw x a * 1; grind
  | b + 1 => by
    have ih := pw_add x a b
    show pw x (a + b) * x = pw x a * (pw x b * x)
    grind
theorem pw_one : ∀ n, pw 1 n = 1
  | 0 => rfl
  | n + 1 => by show pw 1 n * 1 = 1; rw [pw_one n]; grind
theorem pw_1 (x : Zp) : pw x 1 = x := by show 1 * x = x; grind
theorem pw_mul (x : Zp) (a : Nat) : ∀ b, pw x (a * b) = pw (pw x a) b
  | 0 => rfl
  | b + 1 => by
    rw [Nat.mul_succ, pw_add, pw_mul x a b]; rfl
theorem mul_pw (x y : Zp) : ∀ n, pw (x * y) n = pw x n * pw y n
  | 0 => by show (1 : Zp) = 1 * 1; grind
  | n + 1 => by
    have ih := mul_pw x y n
    show pw (x * y) n * (x * y) = pw x n * x * (pw y n * y)
    grind
def sm (f : Nat → Zp) : Nat → Zp
  | 0 => 0
  | n + 1 => sm f n + f n
theorem sm_congr {f g : Nat → Zp} : ∀ (n : Nat), (∀ i, i < n → f i = g i) → sm f n = sm g n
  | 0, _ => rfl
  | n + 1, h => by
    show sm f n + f n = sm g n + g n
    rw [sm_congr n fun i hi => h i (by omega), h n (by omega)]
theorem sm_mul (a : Zp) (f : Nat → Zp) : ∀ n, sm (fun i => a * f i) n = a * sm f n
  | 0 => by show (0 : Zp) = a * 0; grind
  | n + 1 => by
    have ih := sm_mul a f n
    show sm (fun i => a * f i) n + a * f n = a * (sm f n + f n)
    grind
theorem sm_addf (f g : Nat → Zp) : ∀ n, sm (fun i => f i + g i) n = sm f n + sm g n
  | 0 => by show (0 : Zp) = 0 + 0; grind
  | n + 1 => by
    have ih := sm_addf f g n
    show sm (fun i => f i + g i) n + (f n + g n) = (sm f n + f n) + (sm g n + g n)
    grind
theorem sm_zero : ∀ n, sm (fun _ => 0) n = 0
  | 0 => rfl
  | n + 1 => by show sm (fun _ => 0) n + 0 = 0; rw [sm_zero n]; grind
theorem sm_app (f : Nat → Zp) (a : Nat) : ∀ b, sm f (a + b) = sm f a + sm (fun i => f (a + i)) b
  | 0 => by show sm f a = sm f a + 0; grind
  | b + 1 => by
    have ih := sm_app f a b
    show sm f (a + b) + f (a + b) = sm f a + (sm (fun i => f (a + i)) b + f (a + b))
    grind
theorem sm_rows (f : Nat → Zp) (c : Nat) : ∀ r, sm f (r * c) = sm (fun i => sm (fun j => f (i * c + j)) c) r
  | 0 => by rw [Nat.zero_mul]; rfl
  | r + 1 => by
    rw [Nat.succ_mul, sm_app, sm_rows f c r]; rfl
theorem sm_swap (f : Nat → Nat → Zp) (m : Nat) : ∀ n, sm (fun i => sm (fun j => f i j) m) n = sm (fun j => sm (fun i => f i j) n) m
  | 0 => by
    show (0 : Zp) = sm (fun j => 0) m
    rw [sm_zero]
  | n + 1 => by
    show sm (fun i => sm (fun j => f i j) m) n + sm (fun j => f n j) m = sm (fun j => sm (fun i => f i j) n + f n j) m
    rw [sm_addf, sm_swap f m n]
theorem sm_even (f : Nat → Zp) : ∀ n, sm f (2 * n) = sm (fun i => f (2 * i)) n + sm (fun i => f (2 * i + 1)) n
  | 0 => by show (0 : Zp) = 0 + 0; grind
  | n + 1 => by
    have ih := sm_even f n
    show sm f (2 * n) + f (2 * n) + f (2 * n + 1) = (sm (fun i => f (2 * i)) n + f (2 * n)) + (sm (fun i => f (2 * i + 1)) n + f (2 * n + 1))
    grind
def dft (w : Zp) (n : Nat) (l : Nat → Zp) (j : Nat) : Zp := sm (fun i => l i * pw w (i * j)) n
theorem dft_congr {w : Zp} {n : Nat} {l l' : Nat → Zp} (h : ∀ i, i < n → l i = l' i) (j : Nat) : dft w n l j = dft w n l' j :=
  sm_congr n fun i hi => by rw [h i hi]
theorem dft_split (w : Zp) (m : Nat) (l : Nat → Zp) (j : Nat) : dft w (2 * m) l j = dft (w * w) m (fun i => l (2 * i)) j + pw w j * dft (w * w) m (fun i => l (2 * i + 1)) j := by
  have hww : w * w = pw w 2 := by show w * w = 1 * w * w; grind
  have hp : ∀ i, pw w (2 * i * j) = pw (w * w) (i * j) := fun i => by rw [hww, ← pw_mul, Nat.mul_assoc]
  unfold dft
  rw [sm_even, ← sm_mul]
  congr 1
  · exact sm_congr m fun i _ => by rw [hp]
  · refine sm_congr m fun i _ => ?_
    rw [show (2 * i + 1) * j = 2 * i * j + j by rw [Nat.succ_mul], pw_add, hp]
    grind
theorem dft_period {w : Zp} {m : Nat} (h : pw w m = 1) (n : Nat) (l : Nat → Zp) (j : Nat) : dft w n l (j + m) = dft w n l j :=
  sm_congr n fun i _ => by
    have e : pw w (i * m) = 1 := by rw [Nat.mul_comm, pw_mul, h, pw_one]
    rw [Nat.mul_add, pw_add, e]; grind
theorem dft_lo (w : Zp) (m : Nat) (l : Nat → Zp) (j : Nat) : dft w (2 * m) l j = dft (w * w) m (fun i => l (2 * i)) j + dft (w * w) m (fun i => l (2 * i + 1)) j * pw w j := by
  rw [dft_split]; grind
theorem dft_hi {w : Zp} {m : Nat} (h : pw w m = -1) (l : Nat → Zp) (j : Nat) : dft w (2 * m) l (j + m) = dft (w * w) m (fun i => l (2 * i)) j - dft (w * w) m (fun i => l (2 * i + 1)) j * pw w j := by
  have h2 : pw (w * w) m = 1 := by rw [mul_pw, h]; grind
  rw [dft_split, dft_period h2, dft_period h2, pw_add, h]; grind
def rv : Nat → Nat → Nat
  | 0, _ => 0
  | k + 1, x => x % 2 * 2 ^ k + rv k (x / 2)
theorem rv_lt : ∀ k x, rv k x < 2 ^ k
  | 0, _ => Nat.one_pos
  | k + 1, x => by
    have h1 := rv_lt k (x / 2)
    have h2 : x % 2 < 2 := Nat.mod_lt _ (by omega)
    show x % 2 * 2 ^ k + rv k (x / 2) < 2 ^ (k + 1)
    rw [Nat.pow_succ]
    rcases (by omega : x % 2 = 0 ∨ x % 2 = 1) with e | e <;> rw [e] <;> omega
def stg (w : Zp) (k : Nat) (l : Nat → Zp) (s : Nat) (p : Nat) : Zp :=
  dft (pw w (2 ^ (k - s))) (2 ^ s) (fun t => l (rv (k - s) (p / 2 ^ s) + t * 2 ^ (k - s))) (p % 2 ^ s)
theorem stg_zero (w : Zp) (k : Nat) (l : Nat → Zp) (p : Nat) : stg w k l 0 p = l (rv k p) := by
  unfold stg dft
  rw [Nat.pow_zero, Nat.div_one, Nat.mod_one, Nat.sub_zero]
  show 0 + l (rv k p + 0 * 2 ^ k) * pw _ (0 * 0) = _
  rw [Nat.zero_mul, Nat.add_zero, Nat.mul_zero]
  show 0 + l (rv k p) * 1 = _
  grind
theorem stg_all (w : Zp) (k : Nat) (l : Nat → Zp) {p : Nat} (h : p < 2 ^ k) : stg w k l k p = dft w (2 ^ k) l p := by
  unfold stg
  rw [Nat.sub_self, Nat.pow_zero, pw_1, Nat.mod_eq_of_lt h]
  refine dft_congr (fun i _ => ?_) p
  show l (0 + i * 1) = l i
  rw [Nat.zero_add, Nat.mul_one]
theorem stg_step (w : Zp) (k : Nat) (l : Nat → Zp) {s : Nat} (hs : s < k) (hw : pw w (2 ^ (k - 1)) = -1) (b i : Nat) (hi : i < 2 ^ s) :
    stg w k l (s + 1) (b * (2 * 2 ^ s) + i) = stg w k l s (b * (2 * 2 ^ s) + i) + stg w k l s (b * (2 * 2 ^ s) + i + 2 ^ s) * pw w (i * 2 ^ (k - s - 1)) ∧
    stg w k l (s + 1) (b * (2 * 2 ^ s) + i + 2 ^ s) = stg w k l s (b * (2 * 2 ^ s) + i) - stg w k l s (b * (2 * 2 ^ s) + i + 2 ^ s) * pw w (i * 2 ^ (k - s - 1)) := by
  have hp : 0 < 2 ^ s := Nat.pos_of_ne_zero (by have := Nat.two_pow_pos s; omega)
  obtain ⟨m, hm⟩ : ∃ m, k = s + 1 + m := ⟨k - s - 1, by omega⟩
  have e1 : k - (s + 1) = m := by omega
  have e2 : k - s = m + 1 := by omega
  have e3 : k - s - 1 = m := by omega
  -- the words of both classes
  have a1 : (b * (2 * 2 ^ s) + i) / 2 ^ (s + 1) = b := by
    rw [Nat.pow_succ, Nat.mul_comm (2 ^ s) 2, Nat.add_comm, Nat.add_mul_div_right _ _ (by omega), Nat.div_eq_of_lt (by omega), Nat.zero_add]
  have a2 : (b * (2 * 2 ^ s) + i) % 2 ^ (s + 1) = i := by
    rw [Nat.pow_succ, Nat.mul_comm (2 ^ s) 2, Nat.add_comm, Nat.add_mul_mod_self_right, Nat.mod_eq_of_lt (by omega)]
  have a3 : (b * (2 * 2 ^ s) + i + 2 ^ s) / 2 ^ (s + 1) = b := by
    rw [Nat.pow_succ, Nat.mul_comm (2 ^ s) 2, Nat.add_assoc, Nat.add_comm, Nat.add_mul_div_right _ _ (by omega), Nat.div_eq_of_lt (by omega), Nat.zero_add]
  have a4 : (b * (2 * 2 ^ s) + i + 2 ^ s) % 2 ^ (s + 1) = i + 2 ^ s := by
    rw [Nat.pow_succ, Nat.mul_comm (2 ^ s) 2, Nat.add_assoc, Nat.add_comm, Nat.add_mul_mod_self_right, Nat.mod_eq_of_lt (by omega)]
  have hb : b * (2 * 2 ^ s) = (2 * b) * 2 ^ s := by rw [Nat.mul_comm 2 b, Nat.mul_assoc]
  have b1 : (b * (2 * 2 ^ s) + i) / 2 ^ s = 2 * b := by
    rw [hb, Nat.add_comm, Nat.add_mul_div_right _ _ hp, Nat.div_eq_of_lt hi, Nat.zero_add]
  have b2 : (b * (2 * 2 ^ s) + i) % 2 ^ s = i := by
    rw [hb, Nat.add_comm, Nat.add_mul_mod_self_right, Nat.mod_eq_of_lt hi]
  have hb' : b * (2 * 2 ^ s) + i + 2 ^ s = i + (2 * b + 1) * 2 ^ s := by rw [hb, Nat.add_mul (2 * b) 1, Nat.one_mul]; omega
  have b3 : (b * (2 * 2 ^ s) + i + 2 ^ s) / 2 ^ s = 2 * b + 1 := by
    rw [hb', Nat.add_mul_div_right _ _ hp, Nat.div_eq_of_lt hi, Nat.zero_add]
  have b4 : (b * (2 * 2 ^ s) + i + 2 ^ s) % 2 ^ s = i := by
    rw [hb', Nat.add_mul_mod_self_right, Nat.mod_eq_of_lt hi]
  have r1 : rv (m + 1) (2 * b) = rv m b := by
    show (2 * b) % 2 * 2 ^ m + rv m ((2 * b) / 2) = _
    rw [show (2 * b) % 2 = 0 by omega, show (2 * b) / 2 = b by omega]; omega
  have r2 : rv (m + 1) (2 * b + 1) = rv m b + 2 ^ m := by
    show (2 * b + 1) % 2 * 2 ^ m + rv m ((2 * b + 1) / 2) = _
    rw [show (2 * b + 1) % 2 = 1 by omega, show (2 * b + 1) / 2 = b by omega]; omega
  have hww : pw w (2 ^ m) * pw w (2 ^ m) = pw w (2 ^ (m + 1)) := by
    rw [← pw_add]; congr 1; rw [Nat.pow_succ]; omega
  have hneg : pw (pw w (2 ^ m)) (2 ^ s) = -1 := by
    rw [← pw_mul, ← Nat.pow_add, show m + s = k - 1 by omega, hw]
  have hpow : pw (pw w (2 ^ m)) i = pw w (i * 2 ^ m) := by rw [← pw_mul, Nat.mul_comm]
  have c1 : ∀ t, rv m b + 2 * t * 2 ^ m = rv m b + t * 2 ^ (m + 1) := fun t => by rw [Nat.pow_succ, Nat.mul_comm (2 ^ m) 2, ← Nat.mul_assoc, Nat.mul_comm t 2]
  have c2 : ∀ t, rv m b + (2 * t + 1) * 2 ^ m = rv m b + 2 ^ m + t * 2 ^ (m + 1) := fun t => by rw [Nat.succ_mul, Nat.pow_succ, Nat.mul_comm (2 ^ m) 2, ← Nat.mul_assoc, Nat.mul_comm t 2]; omega
  unfold stg
  rw [a1, a2, a3, a4, b1, b2, b3, b4, e1, e3, e2, r1, r2, ← hww]
  rw [show 2 ^ (s + 1) = 2 * 2 ^ s by rw [Nat.pow_succ]; omega]
  constructor
  · rw [dft_lo, hpow]
    simp only [c1, c2]
  · rw [dft_hi hneg, hpow]
    simp only [c1, c2]
theorem pw_neg : ∀ n, pw (-1) (2 * n) = 1 ∧ pw (-1) (2 * n + 1) = -1
  | 0 => ⟨rfl, by show (1 : Zp) * -1 = -1; grind⟩
  | n + 1 => by
    obtain ⟨h1, h2⟩ := pw_neg n
    have e : pw (-1) (2 * (n + 1)) = 1 := by
      show pw (-1) (2 * n + 1) * -1 = 1
      rw [h2]; grind
    exact ⟨e, by show pw (-1) (2 * (n + 1)) * -1 = -1; rw [e]; grind⟩
theorem dft_rows {w : Zp} {R C : Nat} (hw : pw w (R * C) = 1) (l : Nat → Zp) (m j : Nat) :
    dft w (R * C) l (m * R + j) = dft (pw w R) C (fun c => dft (pw w C) R (fun r => l (r * C + c)) j * pw w (c * j)) m := by
  have e1 : ∀ r c, pw w ((r * C + c) * (m * R + j)) = pw (pw w C) (r * j) * pw w (c * j) * pw (pw w R) (c * m) := fun r c => by
    rw [← pw_mul, ← pw_mul, show (r * C + c) * (m * R + j) = (R * C) * (r * m) + (C * (r * j) + c * j + R * (c * m)) by grind, pw_add, pw_mul w (R * C), hw, pw_one, pw_add, pw_add]
    grind
  unfold dft
  rw [sm_rows, sm_swap]
  refine sm_congr C fun c _ => ?_
  have e2 : ∀ r, l (r * C + c) * pw w ((r * C + c) * (m * R + j)) = (pw w (c * j) * pw (pw w R) (c * m)) * (l (r * C + c) * pw (pw w C) (r * j)) := fun r => by rw [e1]; grind
  simp only [e2]
  rw [sm_mul]; grind
def pwB : Nat → Zp → Nat → Zp
  | 0, _, _ => 1
  | f + 1, x, n => if n = 0 then 1 else if n % 2 = 1 then pwB f (x * x) (n / 2) * x else pwB f (x * x) (n / 2)
theorem pwB_eq : ∀ (f : Nat) (x : Zp) (n : Nat), n < 2 ^ f → pwB f x n = pw x n
  | 0, x, n, h => by
    obtain rfl : n = 0 := by simpa using h
    rfl
  | f + 1, x, n, h => by
    have hx : x * x = pw x 2 := by show x * x = 1 * x * x; grind
    unfold pwB
    by_cases h0 : n = 0
    · rw [if_pos h0, h0]; rfl
    · rw [if_neg h0, pwB_eq f (x * x) (n / 2) (by rw [Nat.pow_succ] at h; omega), hx, ← pw_mul]
      by_cases h1 : n % 2 = 1
      · rw [if_pos h1]
        have e : n = 2 * (n / 2) + 1 := by omega
        show pw x (2 * (n / 2) + 1) = pw x n
        rw [← e]
      · rw [if_neg h1]
        have e : n = 2 * (n / 2) := by omega
        rw [← e]
theorem half_neg : pw 7 9223372034707292160 = -1 := by
  rw [← pwB_eq 64 7 9223372034707292160 (by decide)]
  decide +kernel
def rt (k : Nat) : Zp := pw 7 (18446744069414584320 / 2 ^ k)
theorem ord_div {k : Nat} (h : k ≤ 32) : 18446744069414584320 / 2 ^ k * 2 ^ k = 18446744069414584320 := by
  refine Nat.div_mul_cancel ?_
  refine Nat.dvd_trans (Nat.pow_dvd_pow 2 h) ?_
  decide
theorem rt_one {k : Nat} (h : k ≤ 32) : pw (rt k) (2 ^ k) = 1 := by
  unfold rt
  rw [← pw_mul, ord_div h]
  refine (congrArg (pw 7) (by decide : 18446744069414584320 = 9223372034707292160 * 2)).trans ?_
  rw [pw_mul, half_neg]
  show (1 : Zp) * -1 * -1 = 1
  grind
theorem rt_neg {k : Nat} (h : k ≤ 32) (h0 : 0 < k) : pw (rt k) (2 ^ (k - 1)) = -1 := by
  unfold rt
  have e := ord_div h
  obtain ⟨m, rfl⟩ : ∃ m, k = m + 1 := ⟨k - 1, by omega⟩
  rw [Nat.add_sub_cancel, ← pw_mul]
  have : 18446744069414584320 / 2 ^ (m + 1) * 2 ^ m = 9223372034707292160 := by
    rw [Nat.pow_succ, ← Nat.mul_assoc] at e
    rw [Nat.pow_succ]
    omega
  rw [this, half_neg]
theorem rt_sub {k a : Nat} (h : k ≤ 32) (ha : a ≤ k) : pw (rt k) (2 ^ (k - a)) = rt a := by
  unfold rt
  rw [← pw_mul]
  congr 1
  have e1 := ord_div h
  have e2 := ord_div (k := a) (by omega)
  have e3 : 2 ^ k = 2 ^ (k - a) * 2 ^ a := by rw [← Nat.pow_add]; congr 1; omega
  rw [e3, ← Nat.mul_assoc] at e1
  have hp := Nat.two_pow_pos a
  rw [← e3] at e1
  exact Nat.eq_of_mul_eq_mul_right hp (e1.trans e2.symm)
def rtd (d : Bool) (k : Nat) : Zp := match d with | false => rt k | true => pw (rt k) (2 ^ k - 1)
theorem rt_inv {k : Nat} (h : k ≤ 32) : rt k * pw (rt k) (2 ^ k - 1) = 1 := by
  have e : pw (rt k) (2 ^ k - 1 + 1) = pw (rt k) (2 ^ k - 1) * rt k := rfl
  have hp := Nat.two_pow_pos k
  rw [show 2 ^ k - 1 + 1 = 2 ^ k by omega, rt_one h] at e
  grind
theorem rtd_one (d : Bool) {k : Nat} (h : k ≤ 32) : pw (rtd d k) (2 ^ k) = 1 := by
  cases d
  · exact rt_one h
  · show pw (pw (rt k) (2 ^ k - 1)) (2 ^ k) = 1
    rw [← pw_mul, Nat.mul_comm, pw_mul, rt_one h, pw_one]
theorem rtd_neg (d : Bool) {k : Nat} (h : k ≤ 32) (h0 : 0 < k) : pw (rtd d k) (2 ^ (k - 1)) = -1 := by
  cases d
  · exact rt_neg h h0
  · show pw (pw (rt k) (2 ^ k - 1)) (2 ^ (k - 1)) = -1
    rw [← pw_mul, Nat.mul_comm, pw_mul, rt_neg h h0]
    obtain ⟨m, rfl⟩ : ∃ m, k = m + 1 := ⟨k - 1, by omega⟩
    have hp := Nat.two_pow_pos m
    rw [show 2 ^ (m + 1) - 1 = 2 * (2 ^ m - 1) + 1 by rw [Nat.pow_succ]; omega, (pw_neg _).2]
theorem rtd_sub (d : Bool) {k a : Nat} (h : k ≤ 32) (ha : a ≤ k) : pw (rtd d k) (2 ^ (k - a)) = rtd d a := by
  cases d
  · exact rt_sub h ha
  · show pw (pw (rt k) (2 ^ k - 1)) (2 ^ (k - a)) = pw (rt a) (2 ^ a - 1)
    rw [← pw_mul, Nat.mul_comm, pw_mul, rt_sub h ha]
    have e : 2 ^ k - 1 = (2 ^ a) * (2 ^ (k - a) - 1) + (2 ^ a - 1) := by
      have hp := Nat.two_pow_pos a
      have hq := Nat.two_pow_pos (k - a)
      have e3 : 2 ^ k = 2 ^ a * 2 ^ (k - a) := by rw [← Nat.pow_add]; congr 1; omega
      rw [e3, Nat.mul_sub_one]
      have : 2 ^ a * 1 ≤ 2 ^ a * 2 ^ (k - a) := Nat.mul_le_mul_left _ hq
      omega
    rw [e, pw_add, pw_mul, rt_one (by omega), pw_one]; grind
def zp (a : Nat) : Zp := Fin.ofNat _ a
theorem zp_val (a : Nat) : (zp a).val = a % 18446744069414584321 := rfl
theorem zp_of_val (z : Zp) : zp z.val = z := Fin.ext (Nat.mod_eq_of_lt z.isLt)
theorem zp_mul (a b : Nat) : zp (a * b) = zp a * zp b := Fin.ext (by
  rw [Fin.val_mul, zp_val, zp_val, zp_val, ← Nat.mul_mod])
theorem zp_pow (a : Nat) : ∀ n, zp (a ^ n) = pw (zp a) n
  | 0 => rfl
  | n + 1 => by rw [Nat.pow_succ, zp_mul, zp_pow a n]; rfl
def zw (w : UInt64) : Zp := zp w.toNat
def uw (z : Zp) : UInt64 := UInt64.ofNat z.val
theorem uw_nat (z : Zp) : (uw z).toNat = z.val := UInt64.toNat_ofNat_of_lt' (by have := z.isLt; show z.val < 18446744073709551616; omega)
theorem zw_uw (z : Zp) : zw (uw z) = z := by unfold zw; rw [uw_nat, zp_of_val]
theorem uw_int (z : Zp) : ((uw z).toNat : Int) = (z.val : Int) := by rw [uw_nat]
def at' (l : List UInt64) (i : Nat) : Zp := zw (l.getD i 0)
theorem at_get {l : List UInt64} {i : Nat} (h : i < l.length) : at' l i = zw l[i] := by unfold at'; rw [List.getD_eq_getElem?_getD, List.getElem?_eq_getElem h]; rfl
end Go.Proofs.YtnknippcbecmeaaGreatDoor.Fft
end
section
/- Places turned about; a stage, place by place. -/
namespace Go.Proofs.YtnknippcbecmeaaGreatDoor.Fft
def swp (m : BitVec 64) (d : Nat) (x : BitVec 64) : BitVec 64 := ((x >>> d) &&& m) ||| ((x &&& m) <<< d)
def swpP (m : BitVec 64) (d i : Nat) : Nat := if m.getLsbD i then i + d else i - d
def swpOk (m : BitVec 64) (d : Nat) : Bool := (List.range 64).all fun i => if m.getLsbD i then decide (i + d < 64) && (decide (i < d) || !m.getLsbD (i - d)) else decide (d ≤ i) && m.getLsbD (i - d)
theorem swp_get {m : BitVec 64} {d : Nat} (h : swpOk m d = true) (x : BitVec 64) {i : Nat} (hi : i < 64) : (swp m d x).getLsbD i = x.getLsbD (swpP m d i) := by
  have h1 := List.all_eq_true.1 h i (List.mem_range.2 hi)
  unfold swp swpP
  simp only [BitVec.getLsbD_or, BitVec.getLsbD_and, BitVec.getLsbD_ushiftRight, BitVec.getLsbD_shiftLeft]
  by_cases hm : m.getLsbD i = true
  · simp only [hm, if_true] at h1 ⊢
    simp only [Bool.and_eq_true, decide_eq_true_eq, Bool.or_eq_true, Bool.not_eq_true'] at h1
    rcases h1.2 with h2 | h2
    · rw [Nat.add_comm d i]; simp [h2]
    · rw [Nat.add_comm d i, h2]; simp
  · have hm' : m.getLsbD i = false := by simpa using hm
    simp only [hm', Bool.false_eq_true, if_false] at h1 ⊢
    simp only [Bool.and_eq_true, decide_eq_true_eq] at h1
    rw [h1.2]
    have : ¬ i < d := by omega
    simp [hi, this]
def rev64 (x : BitVec 64) : BitVec 64 :=
  let x := swp 0x5555555555555555#64 1 x
  let x := swp 0x3333333333333333#64 2 x
  let x := swp 0x0f0f0f0f0f0f0f0f#64 4 x
  let x := swp 0x00ff00ff00ff00ff#64 8 x
  let x := swp 0x0000ffff0000ffff#64 16 x
  (x >>> 32) ||| (x <<< 32)
theorem rev64_get (x : BitVec 64) {i : Nat} (hi : i < 64) : (rev64 x).getLsbD i = x.getLsbD (63 - i) := by
  unfold rev64
  simp only [BitVec.getLsbD_or, BitVec.getLsbD_ushiftRight, BitVec.getLsbD_shiftLeft]
  have hb : (List.range 64).all (fun i => decide (swpP 0x0000ffff0000ffff#64 16 i < 64) && decide (swpP 0x00ff00ff00ff00ff#64 8 (swpP 0x0000ffff0000ffff#64 16 i) < 64) && decide (swpP 0x0f0f0f0f0f0f0f0f#64 4 (swpP 0x00ff00ff00ff00ff#64 8 (swpP 0x0000ffff0000ffff#64 16 i)) < 64) && decide (swpP 0x3333333333333333#64 2 (swpP 0x0f0f0f0f0f0f0f0f#64 4 (swpP 0x00ff00ff00ff00ff#64 8 (swpP 0x0000ffff0000ffff#64 16 i))) < 64) &&
      decide (swpP 0x5555555555555555#64 1 (swpP 0x3333333333333333#64 2 (swpP 0x0f0f0f0f0f0f0f0f#64 4 (swpP 0x00ff00ff00ff00ff#64 8 (swpP 0x0000ffff0000ffff#64 16 i)))) = (if i < 32 then 31 - i else 95 - i))) = true := by decide +kernel
  have key : ∀ j, j < 64 → (swp 0x0000ffff0000ffff#64 16 (swp 0x00ff00ff00ff00ff#64 8 (swp 0x0f0f0f0f0f0f0f0f#64 4 (swp 0x3333333333333333#64 2 (swp 0x5555555555555555#64 1 x))))).getLsbD j = x.getLsbD (if j < 32 then 31 - j else 95 - j) := fun j hj => by
    have := List.all_eq_true.1 hb j (List.mem_range.2 hj)
    simp only [Bool.and_eq_true, decide_eq_true_eq] at this
    obtain ⟨⟨⟨⟨h1, h2⟩, h3⟩, h4⟩, h5⟩ := this
    rw [swp_get (by decide +kernel) _ hj, swp_get (by decide +kernel) _ h1, swp_get (by decide +kernel) _ h2, swp_get (by decide +kernel) _ h3, swp_get (by decide +kernel) _ h4, h5]
  by_cases h : i < 32
  · rw [key (32 + i) (by omega), if_neg (by omega), show 95 - (32 + i) = 63 - i by omega]
    simp [h]
  · have hge : ¬ 32 + i < 64 := by omega
    rw [BitVec.getLsbD_of_ge _ (32 + i) (by omega), key (i - 32) (by omega), if_pos (by omega), show 31 - (i - 32) = 63 - i by omega]
    simp [h, hi]
theorem rv_bit : ∀ (k x j : Nat), (rv k x).testBit j = (decide (j < k) && x.testBit (k - 1 - j))
  | 0, x, j => by simp [rv]
  | k + 1, x, j => by
    show (x % 2 * 2 ^ k + rv k (x / 2)).testBit j = _
    have hlt := rv_lt k (x / 2)
    rw [Nat.mul_comm, Nat.testBit_two_pow_mul_add _ hlt]
    by_cases h : j < k
    · rw [if_pos h, rv_bit k (x / 2) j, Nat.testBit_div_two]
      have : k - 1 - j + 1 = k + 1 - 1 - j := by omega
      rw [this]
      have h2 : j < k + 1 := by omega
      simp [h, h2]
    · rw [if_neg h]
      by_cases e : j = k
      · subst e
        rw [Nat.sub_self, Nat.testBit_zero, Nat.mod_mod]
        have : x.testBit (j + 1 - 1 - j) = x.testBit 0 := by rw [show j + 1 - 1 - j = 0 by omega]
        rw [this, Nat.testBit_zero]
        simp
      · have : ¬ j < k + 1 := by omega
        simp [this]
        have h3 : j - k = (j - k - 1) + 1 := by omega
        rw [h3, Nat.testBit_succ]
        have : x % 2 / 2 = 0 := by omega
        rw [this]; simp
theorem rev_rv {k x : Nat} (hk : k ≤ 32) (hx : x < 2 ^ k) : (rev64 (BitVec.ofNat 64 x)).toNat >>> (64 - k) = rv k x := by
  apply Nat.eq_of_testBit_eq
  intro j
  rw [Nat.testBit_shiftRight, BitVec.testBit_toNat, rv_bit]
  by_cases h : j < k
  · rw [rev64_get _ (by omega), BitVec.getLsbD_ofNat]
    have h1 : 63 - (64 - k + j) < 64 := by omega
    have h2 : 63 - (64 - k + j) = k - 1 - j := by omega
    simp [h, h2]
    intro _; omega
  · rw [BitVec.getLsbD_of_ge _ _ (by omega)]
    simp [h]
theorem rv_rv (k x : Nat) (hx : x < 2 ^ k) : rv k (rv k x) = x := by
  apply Nat.eq_of_testBit_eq
  intro j
  rw [rv_bit, rv_bit]
  by_cases h : j < k
  · have h1 : k - 1 - j < k := by omega
    have h2 : k - 1 - (k - 1 - j) = j := by omega
    simp [h, h1, h2]
  · simp [h]
    exact Nat.testBit_lt_two_pow (Nat.lt_of_lt_of_le hx (Nat.pow_le_pow_right (by omega) (by omega)))
def dn (h b i p : Nat) : Bool := decide (p < b * (2 * h) + i ∨ (b * (2 * h) + h ≤ p ∧ p < b * (2 * h) + h + i))
def stL (w : Zp) (k : Nat) (l : Nat → Zp) (s : Nat) (f : Nat → Bool) : List UInt64 := (List.range (2 ^ k)).map fun p => uw (if f p = true then stg w k l (s + 1) p else stg w k l s p)
theorem stL_len (w : Zp) (k : Nat) (l : Nat → Zp) (s : Nat) (f : Nat → Bool) : (stL w k l s f).length = 2 ^ k := by simp [stL]
theorem stL_get (w : Zp) (k : Nat) (l : Nat → Zp) (s : Nat) (f : Nat → Bool) {p : Nat} (hp : p < 2 ^ k) : (stL w k l s f)[p]? = some (uw (if f p = true then stg w k l (s + 1) p else stg w k l s p)) := by
  unfold stL
  rw [List.getElem?_map, List.getElem?_range hp]; rfl
theorem stL_congr {w : Zp} {k : Nat} {l : Nat → Zp} {s : Nat} {f g : Nat → Bool} (h : ∀ p, p < 2 ^ k → f p = g p) : stL w k l s f = stL w k l s g := by
  unfold stL
  apply List.map_congr_left
  intro p hp
  rw [h p (List.mem_range.1 hp)]
theorem dn_here (h b i : Nat) (hi : i < h) : dn h b i (b * (2 * h) + i) = false ∧ dn h b i (b * (2 * h) + i + h) = false := by
  unfold dn
  exact ⟨decide_eq_false (by omega), decide_eq_false (by omega)⟩
theorem stL_step {w : Zp} {k : Nat} {l : Nat → Zp} {s b i : Nat} (h : Nat) (hi : i < h) (hp : b * (2 * h) + i + h < 2 ^ k) :
    ((stL w k l s (dn h b i)).set (b * (2 * h) + i) (uw (stg w k l (s + 1) (b * (2 * h) + i)))).set (b * (2 * h) + i + h) (uw (stg w k l (s + 1) (b * (2 * h) + i + h))) = stL w k l s (dn h b (i + 1)) := by
  apply List.ext_getElem?
  intro p
  rw [List.getElem?_set, List.getElem?_set]
  simp only [List.length_set, stL_len]
  by_cases hlt : p < 2 ^ k
  · by_cases e1 : b * (2 * h) + i + h = p
    · subst e1
      rw [if_pos rfl, if_pos hp, stL_get _ _ _ _ _ hlt, if_pos (show dn h b (i + 1) _ = true from decide_eq_true (by omega))]
    · rw [if_neg e1]
      by_cases e2 : b * (2 * h) + i = p
      · subst e2
        rw [if_pos rfl, if_pos hlt, stL_get _ _ _ _ _ hlt, if_pos (show dn h b (i + 1) _ = true from decide_eq_true (by omega))]
      · rw [if_neg e2, stL_get _ _ _ _ _ hlt, stL_get _ _ _ _ _ hlt]
        have : dn h b i p = dn h b (i + 1) p := by
          unfold dn
          rw [decide_eq_decide]
          omega
        rw [this]
  · rw [if_neg (by omega), if_neg (by omega), List.getElem?_eq_none (by rw [stL_len]; omega), List.getElem?_eq_none (by rw [stL_len]; omega)]
theorem stL_next {w : Zp} {k : Nat} {l : Nat → Zp} {s b : Nat} (h : Nat) : stL w k l s (dn h b h) = stL w k l s (dn h (b + 1) 0) :=
  stL_congr fun p _ => by
    unfold dn
    rw [decide_eq_decide, Nat.add_mul b 1, Nat.one_mul]
    omega
theorem stL_end {w : Zp} {k : Nat} {l : Nat → Zp} {s b : Nat} (h h' : Nat) (hb : 2 ^ k ≤ b * (2 * h)) : stL w k l s (dn h b 0) = stL w k l (s + 1) (dn h' 0 0) := by
  unfold stL
  apply List.map_congr_left
  intro p hp
  have := List.mem_range.1 hp
  rw [if_pos (show dn h b 0 p = true from decide_eq_true (by omega)), if_neg (show ¬ dn h' 0 0 p = true by unfold dn; simp)]
def dftL (d : Bool) (k : Nat) (l : List UInt64) : List UInt64 := (List.range (2 ^ k)).map fun j => uw (dft (rtd d k) (2 ^ k) (at' l) j)
theorem dftL_len (d : Bool) (k : Nat) (l : List UInt64) : (dftL d k l).length = 2 ^ k := by simp [dftL]
theorem stL_dft (d : Bool) (k : Nat) (l : List UInt64) (h : Nat) : stL (rtd d k) k (at' l) k (dn h 0 0) = dftL d k l := by
  unfold stL dftL
  apply List.map_congr_left
  intro p hp
  have := List.mem_range.1 hp
  rw [if_neg (show ¬ dn h 0 0 p = true by unfold dn; simp), stg_all _ _ _ this]
def turnL (k : Nat) (l : List UInt64) : List UInt64 := (List.range (2 ^ k)).map fun p => l.getD (rv k p) 0
theorem stL_zero (w : Zp) (k : Nat) (l : List UInt64) (h : Nat) : (turnL k l).map (fun x => uw (zw x)) = stL w k (at' l) 0 (dn h 0 0) := by
  unfold turnL stL
  rw [List.map_map]
  apply List.map_congr_left
  intro p hp
  have := List.mem_range.1 hp
  rw [if_neg (show ¬ dn h 0 0 p = true by unfold dn; simp), stg_zero]; rfl
end Go.Proofs.YtnknippcbecmeaaGreatDoor.Fft
end
section
/- The frame of the proofs: package variables that are laid: what their cells hold. -/
namespace Go.Hw
open Go Go.RowKit
def flatF : Nat → DataW Unit → List Value
  | 0, _ => []
  | _ + 1, .lit (.int k n) => [.int k n]
  | _ + 1, .lit (.string bs) => [.string ⟨bs.toArray⟩]
  | _ + 1, .lit (.bool b) => [.bool b]
  | f + 1, .agg ds => (ds.map (flatF f)).flatten
  | _ + 1, _ => []
def conts (P : Program) : List Field → Nat → Option Nat
  | [], o => some o
  | f :: l, o => if f.offset = o then conts P l (o + P.cellsOf f.type) else none
def flatOK (P : Program) : Nat → TypeId → Bool
  | 0, _ => false
  | f + 1, t =>
    match P.underlying t with
    | some (.int _) => true
    | some .string => true
    | some .bool => true
    | some (.array n e) => flatOK P f e && (P.cellsOf t == n * P.cellsOf e)
    | some (.struct fs) => fs.toList.all (fun x => flatOK P f x.type) && (conts P fs.toList 0 == some (P.cellsOf t))
    | _ => false
theorem chunks {α : Type} (k : Nat) : ∀ (n : Nat) (cs : List α) (ys : List (List α)), cs.length = n * k → ys.length = n → (∀ i, (h : i < ys.length) → (cs.drop (i * k)).take k = ys[i]) → cs = ys.flatten
  | 0, cs, ys, hl, hy, _ => by
    rw [Nat.zero_mul] at hl
    rw [List.length_eq_zero_iff.1 hl, List.length_eq_zero_iff.1 hy]; rfl
  | n + 1, cs, [], _, hy, _ => by simp at hy
  | n + 1, cs, y :: ys, hl, hy, h => by
    have h0 := h 0 (by simp)
    rw [Nat.zero_mul, List.drop_zero, List.getElem_cons_zero] at h0
    have ih := chunks k n (cs.drop k) ys (by rw [List.length_drop, hl, Nat.succ_mul]; omega) (by simpa using hy) fun i hi => by
      have := h (i + 1) (by simpa using hi)
      rw [List.getElem_cons_succ] at this
      rw [List.drop_drop, ← this, Nat.succ_mul, Nat.add_comm]
    rw [List.flatten_cons, ← ih, ← h0, List.take_append_drop]
theorem conts_flat {P : Program} : ∀ (l : List Field) (ys : List (List Value)) (o e : Nat) (cs : List Value), conts P l o = some e → cs.length = e → ys.length = l.length →
    (∀ (i : Nat) (f : Field), l[i]? = some f → ∃ y, ys[i]? = some y ∧ (cs.drop f.offset).take (P.cellsOf f.type) = y) → cs.drop o = ys.flatten
  | [], ys, o, e, cs, h, hl, hy, _ => by
    unfold conts at h
    cases h
    rw [List.drop_eq_nil_of_le (by omega), List.length_eq_zero_iff.1 hy]; rfl
  | f :: l, [], o, e, cs, h, hl, hy, _ => by simp at hy
  | f :: l, y :: ys, o, e, cs, h, hl, hy, hh => by
    unfold conts at h
    split at h
    · rename_i ho
      obtain ⟨y', e1, e2⟩ := hh 0 f (by simp)
      simp only [List.getElem?_cons_zero, Option.some.injEq] at e1
      subst e1
      have ih := conts_flat l ys _ e cs h hl (by simpa using hy) fun i f' hf => by
        have := hh (i + 1) f' (by simpa using hf)
        simpa using this
      rw [List.flatten_cons, ← ih, ← e2, ho, ← List.drop_drop, List.take_append_drop]
    · cases h
theorem flat_of_trod {enc : TypeId × Value → Unit} {P : Program} {w : World} {base : Nat} {sp : Nat → Bool} {held : Bool} : ∀ (f : Nat) {fuel : Nat} {t : TypeId} {cs : List Value} {d : DataW Unit} {p : List MemPlace},
    flatOK P f t = true → DataW.trod enc P w base sp held fuel t cs = some (d, p) → cs = flatF f d
  | 0, _, _, _, _, _, h, _ => by cases h
  | f + 1, fuel, t, cs, d, p, h, ht => by
    unfold flatOK at h
    split at h
    · rename_i k hu
      obtain ⟨n, rfl, e, _⟩ := DataW.trod_int hu ht
      cases e; rfl
    · rename_i hu
      obtain ⟨s, rfl, e, _⟩ := DataW.trod_string hu ht
      cases e; simp [flatF]
    · rename_i hu
      obtain ⟨b, rfl, e⟩ := DataW.trod_bool hu ht
      cases e; rfl
    · rename_i n e hu
      simp only [Bool.and_eq_true, beq_iff_eq] at h
      obtain ⟨xs, m, _, ex, hl, hn, hel⟩ := DataW.trod_array hu ht
      cases ex
      show cs = (((xs.map (·.1))).map (flatF f)).flatten
      refine chunks (P.cellsOf e) n cs _ (by rw [hl, h.2]) (by simpa using hn) fun i hi => ?_
      have hi' : i < xs.length := by simpa using hi
      have h1 := hel i (by omega)
      rw [List.getElem?_eq_getElem hi'] at h1
      have := flat_of_trod f (d := xs[i].1) (p := xs[i].2) h.1 h1
      rw [this]
      simp
    · rename_i fs hu
      simp only [Bool.and_eq_true, beq_iff_eq] at h
      obtain ⟨xs, m, _, ex, hl, hn, hel⟩ := DataW.trod_struct hu ht
      cases ex
      show cs = (((xs.map (·.1))).map (flatF f)).flatten
      have := conts_flat fs.toList (((xs.map (·.1))).map (flatF f)) 0 _ cs h.2 hl (by simpa using hn) fun i fd hi => by
        have hi2 : fs[i]? = some fd := by simpa using hi
        have h1 := hel i fd hi2
        have hi' : i < xs.length := by
          rw [hn]; exact (Array.getElem?_eq_some_iff.1 hi2).1
        rw [List.getElem?_eq_getElem hi'] at h1
        have hall := List.all_eq_true.1 h.1 fd (List.mem_of_getElem? hi)
        exact ⟨flatF f xs[i].1, by simp [hi'], flat_of_trod f (d := xs[i].1) (p := xs[i].2) hall h1⟩
      rw [List.drop_zero] at this
      exact this
    · cases h
theorem laid_at {P : Program} {W : World} {name : String} {d : DataW Unit} {g : Nat} {t : TypeId} (hg : P.globalNamed name = some g) (hty : (P.globals[g]?).map (·.type) = some t) (ho : flatOK P 9 t = true) :
    ∀ {l : List (String × DataW Unit)} (i : Nat), laidMet P l W → l[i]? = some (name, d) → Cells (Full W) (some ⟨g, 0, none⟩) (flatF 9 d)
  | [], i, _, h => by simp at h
  | x :: l, 0, hL, h => by
    simp only [List.getElem?_cons_zero, Option.some.injEq] at h
    subst h
    obtain ⟨ps, ⟨g', t', cs, fuel, p, q, hg', ht', hvar, hd, _, _⟩, _⟩ := hL
    obtain rfl := Option.some.inj (hg.symm.trans hg')
    obtain rfl := Option.some.inj (hty.symm.trans ht')
    have e := flat_of_trod 9 ho hd
    intro j v hj
    refine ⟨_, rfl, ?_⟩
    rw [← e] at hj
    have := World.var?_cell hg hvar j
    rw [Addr.add_lit', Nat.zero_add]
    refine Full.cell ?_
    rw [this]
    simpa using hj
  | x :: l, i + 1, hL, h => laid_at hg hty ho i hL.tail (by simpa using h)
theorem Cells.block {H : Hp} {g : Nat} {v : Value} {vs : List Value} (h : Cells H (some ⟨g, 0, none⟩) (v :: vs)) : ∃ o, H g = some o := by
  obtain ⟨a, ha, hc⟩ := h 0 v rfl
  cases ha
  unfold Hp.cell? at hc
  rw [Addr.add_lit'] at hc
  cases e : H g with
  | none => simp only [e] at hc; cases hc
  | some o => exact ⟨o, rfl⟩
section
variable {L : List As} {H : Hp}
theorem Sep.ldf (h : Sep L H) (i : Nat) {b j : Nat} {c : Array Value} {e : TypeId} {v : Value} {K : Value → Prop} (hi : L[i]? = some (pts b (.obj (.cells c e)))) (hv : nthV c.toList j = some v) (k : K v) : Ld H ((⟨b, 0, none⟩ : Addr).add j) K := by
  rw [Addr.add_lit', Nat.zero_add]; exact h.ld i hi hv k
theorem Sep.ldg (h : Sep L H) (i : Nat) {b j k : Nat} {c : Array Value} {e : TypeId} {v : Value} {K : Value → Prop} (hi : L[i]? = some (pts b (.obj (.cells c e)))) (hv : nthV c.toList (j + k) = some v) (kk : K v) : Ld H (((⟨b, 0, none⟩ : Addr).add j).add k) K := by
  rw [Addr.add_lit', Addr.add_lit', Nat.zero_add]; exact h.ld i hi hv kk
theorem Sep.stf (h : Sep L H) (i : Nat) {b j : Nat} {c : Array Value} {e : TypeId} {v : Value} {K : Hp → Prop} (hi : L[i]? = some (pts b (.obj (.cells c e)))) (hj : j < c.size) (hv : v.oneCell' = true)
    (k : ∀ H', Sep (L.set i (pts b (.obj (.cells (c.setIfInBounds j v) e)))) H' → K H') : St H (((⟨b, 0, none⟩ : Addr).add j).add 0) v K := by
  rw [Addr.add_lit', Addr.add_lit', Nat.zero_add, Nat.add_zero]; exact h.st i hi hj hv k
end
end Go.Hw
end
section
/- Formulas of functions, printed by wip/tools/hwp.py. -/
namespace Go.Proofs.YtnknippcbecmeaaGreatDoor.W
open Go Go.Hw
theorem mixWlayout : Tryz.prog.follows .mixedOrders = true := by kernel_rfl
def W_layout_Need (x1 : Int) (x2 : Int) (H : Hp) (K : Value → Hp → Prop) : Prop :=
  HCalls Tryz.prog 77 #[.int .i64 x2] H fun v1 H1 => DI .i64 v1 fun x3 => HCalls Tryz.prog 76 #[.int .i64 x1, .int .i64 x3] H1 fun v2 H2 => DB v2 fun c1 => BIf (!c1) (K (.tuple #[.int .i64 0, .int .i64 1]) H2) (HCalls Tryz.prog 77 #[.int .i64 x2] H2 fun v3 H3 => DI .i64 v3 fun x4 => HCalls Tryz.prog 78 #[.int .i64 x1, .int .i64 x4] H3 fun v4 H4 => DI .i64 v4 fun x5 => K (.tuple #[.int .i64 x5, .int .i64 0]) H4)
theorem W_layout_Need.ok (x1 : Int) (x2 : Int) (H : Hp) (K : Value → Hp → Prop) (h : W_layout_Need x1 x2 H K) : HCalls Tryz.prog 41 #[.int .i64 x1, .int .i64 x2] H K :=
  hcalls Tryz.func41 rfl (Nat.le_of_ble_eq_true rfl) (hw_safe (Λ := Cuts.none (fun _ => none)) mixWlayout _ _ _ _ _ (Eq.mp (by kernel_rfl) h) (obs_none _ _ _ _ _))
def W_layout_Of (x1 : Int) (x2 : Int) (x3 : Int) (H : Hp) (K : Value → Hp → Prop) : Prop :=
  Nw H (.obj (.cells #[.int .i64 0, .int .i64 0, .int .i64 0, .int .i64 0, .int .i64 0, .int .i64 0, .int .i64 0, .int .i64 0, .int .i64 0, .int .i64 0, .int .i64 0, .int .i64 0, .int .i64 0, .int .i64 0, .int .i64 0, .int .i64 0, .int .i64 0] 33)) fun b1 H1 => HCalls Tryz.prog 41 #[.int .i64 x1, .int .i64 x3] H1 fun v1 H2 => DTup v1 fun l1 => DCons l1 fun v2 l2 => DI .i64 v2 fun x4 => DCons l2 fun v3 l3 => DI .i64 v3 fun x5 => DNil l3 (BIf (x5 != (0 : Int)) (StA H2 (⟨b1, 0, none⟩ : Addr) #[.int .i64 0, .int .i64 0, .int .i64 0, .int .i64 0, .int .i64 0, .int .i64 0, .int .i64 0, .int .i64 0, .int .i64 0, .int .i64 0, .int .i64 0, .int .i64 0, .int .i64 0, .int .i64 0, .int .i64 0, .int .i64 0, .int .i64 0] 17 fun H3 => LdA H3 (⟨b1, 0, none⟩ : Addr) 17 fun l4 => K (.tuple #[.agg l4.toArray, .int .i64 x5]) H3) (BIf (decide (x2 < x4)) (StA H2 (⟨b1, 0, none⟩ : Addr) #[.int .i64 0, .int .i64 0, .int .i64 0, .int .i64 0, .int .i64 0, .int .i64 0, .int .i64 0, .int .i64 0, .int .i64 0, .int .i64 0, .int .i64 0, .int .i64 0, .int .i64 0, .int .i64 0, .int .i64 0, .int .i64 0, .int .i64 0] 17 fun H4 => LdA H4 (⟨b1, 0, none⟩ : Addr) 17 fun l5 => K (.tuple #[.agg l5.toArray, .int .i64 7]) H4) (HCalls Tryz.prog 77 #[.int .i64 x3] H2 fun v4 H5 => DI .i64 v4 fun x6 => HCalls Tryz.prog 79 #[.int .i64 x1, .int .i64 x6] H5 fun v5 H6 => DA v5 fun y1 => StA H6 (⟨b1, 0, none⟩ : Addr) y1 17 fun H7 => LdA H7 (⟨b1, 0, none⟩ : Addr) 17 fun l6 => K (.tuple #[.agg l6.toArray, .int .i64 0]) H7)))
theorem W_layout_Of.ok (x1 : Int) (x2 : Int) (x3 : Int) (H : Hp) (K : Value → Hp → Prop) (h : W_layout_Of x1 x2 x3 H K) : HCalls Tryz.prog 43 #[.int .i64 x1, .int .i64 x2, .int .i64 x3] H K :=
  hcalls Tryz.func43 rfl (Nat.le_of_ble_eq_true rfl) (hw_safe (Λ := Cuts.none (fun _ => none)) mixWlayout _ _ _ _ _ (Eq.mp (by kernel_rfl) h) (obs_none _ _ _ _ _))
def W_layout_good (x1 : Int) (x2 : Int) (H : Hp) (K : Value → Hp → Prop) : Prop :=
  BIf (decide (x1 ≥ (0 : Int))) (BIf (decide (x1 ≤ (32 : Int))) (K (.bool (decide (x2 > (0 : Int)))) H) (K (.bool false) H)) (K (.bool false) H)
theorem W_layout_good.ok (x1 : Int) (x2 : Int) (H : Hp) (K : Value → Hp → Prop) (h : W_layout_good x1 x2 H K) : HCalls Tryz.prog 76 #[.int .i64 x1, .int .i64 x2] H K :=
  hcalls Tryz.func76 rfl (Nat.le_of_ble_eq_true rfl) (hw_safe (Λ := Cuts.none (fun _ => none)) mixWlayout _ _ _ _ _ (Eq.mp (by kernel_rfl) h) (obs_none _ _ _ _ _))
def W_layout_per (x1 : Int) (H : Hp) (K : Value → Hp → Prop) : Prop :=
  BIf (decide (x1 < (32 : Int))) (K (.int .i64 0) H) (BIf (decide (x1 > (4096 : Int))) (K (.int .i64 0) H) (BIf ((bAnd .i64 x1 (IntKind.i64.wrap (x1 - (1 : Int)))) != (0 : Int)) (K (.int .i64 0) H) (((8 : Int) ≠ 0 ∧ IntKind.i64 = IntKind.i64 ∧ K (.int .i64 (IntKind.i64.wrap (Int.tdiv x1 (8 : Int)))) H))))
theorem W_layout_per.ok (x1 : Int) (H : Hp) (K : Value → Hp → Prop) (h : W_layout_per x1 H K) : HCalls Tryz.prog 77 #[.int .i64 x1] H K :=
  hcalls Tryz.func77 rfl (Nat.le_of_ble_eq_true rfl) (hw_safe (Λ := Cuts.none (fun _ => none)) mixWlayout _ _ _ _ _ (Eq.mp (by kernel_rfl) h) (obs_none _ _ _ _ _))
def W_layout_need (x1 : Int) (x2 : Int) (H : Hp) (K : Value → Hp → Prop) : Prop :=
  HCalls Tryz.prog 125 #[.int .i64 x1, .int .i64 x2] H fun v1 H1 => DI .i64 v1 fun x3 => K (.int .i64 (IntKind.i64.wrap ((9 : Int) + (IntKind.i64.wrap ((4 : Int) * x3))))) H1
theorem W_layout_need.ok (x1 : Int) (x2 : Int) (H : Hp) (K : Value → Hp → Prop) (h : W_layout_need x1 x2 H K) : HCalls Tryz.prog 78 #[.int .i64 x1, .int .i64 x2] H K :=
  hcalls Tryz.func78 rfl (Nat.le_of_ble_eq_true rfl) (hw_safe (Λ := Cuts.none (fun _ => none)) mixWlayout _ _ _ _ _ (Eq.mp (by kernel_rfl) h) (obs_none _ _ _ _ _))
def W_layout_lay.l4 (K : Value → Hp → Prop) : Nat → Int → Addr → Addr → Int → Int → Int → Hp → Prop
  | 0, _, _, _, _, _, _, _ => False
  | k + 1, x4, a1, a2, x5, x6, x7, H =>
    let R4 := W_layout_lay.l4 K k
    BIf (decide (x7 < (4 : Int))) ((0 ≤ (IntKind.u64.wrap x4) ∧ ixI x7 4 (StA H ((a2.add 5).add (x7.toNat * 3)) #[.int .i64 x5, .int .i64 x6, .int .i64 (shlI .i64 (1 : Int) (IntKind.u64.wrap x4))] 3 fun H5 => R4 x4 a1 a2 (IntKind.i64.wrap (x5 + x6)) x6 (IntKind.i64.wrap (x7 + (1 : Int))) H5))) (LdA H a2 17 fun l1 => StA H a1 l1.toArray 17 fun H6 => LdA H6 a1 17 fun l2 => K (.agg l2.toArray) H6)
def W_layout_lay (x1 : Int) (x2 : Int) (H : Hp) (K : Value → Hp → Prop) : Prop :=
  Nw H (.obj (.cells #[.int .i64 0, .int .i64 0, .int .i64 0, .int .i64 0, .int .i64 0, .int .i64 0, .int .i64 0, .int .i64 0, .int .i64 0, .int .i64 0, .int .i64 0, .int .i64 0, .int .i64 0, .int .i64 0, .int .i64 0, .int .i64 0, .int .i64 0] 33)) fun b1 H1 => Nw H1 (.obj (.cells #[.int .i64 0, .int .i64 0, .int .i64 0, .int .i64 0, .int .i64 0, .int .i64 0, .int .i64 0, .int .i64 0, .int .i64 0, .int .i64 0, .int .i64 0, .int .i64 0, .int .i64 0, .int .i64 0, .int .i64 0, .int .i64 0, .int .i64 0] 33)) fun b2 H2 => StA H2 (⟨b2, 0, none⟩ : Addr) #[.int .i64 x1, .int .i64 x2, .int .i64 1, .int .i64 8, .int .i64 (IntKind.i64.wrap ((8 : Int) * x2)), .int .i64 0, .int .i64 0, .int .i64 0, .int .i64 0, .int .i64 0, .int .i64 0, .int .i64 0, .int .i64 0, .int .i64 0, .int .i64 0, .int .i64 0, .int .i64 0] 17 fun H3 => HCalls Tryz.prog 125 #[.int .i64 x1, .int .i64 x2] H3 fun v1 H4 => DI .i64 v1 fun x3 => (∃ k, W_layout_lay.l4 K k x1 (⟨b1, 0, none⟩ : Addr) (⟨b2, 0, none⟩ : Addr) (9 : Int) x3 (0 : Int) H4)
def W_layout_lay.l4.L (K : Value → Hp → Prop) (k : Nat) : Mid := fun E D H =>
  eI E 0 .i64 fun x4 => eN E 4 fun a1 => eN E 5 fun a2 => eI E 6 .i64 fun x5 => eI E 7 .i64 fun x6 => eI E 18 .i64 fun x7 => DNilD D (W_layout_lay.l4 K k x4 a1 a2 x5 x6 x7 H)
def W_layout_lay.Λ4 (_ : Value → Hp → Prop) (_R4 : Int → Addr → Addr → Int → Int → Int → Hp → Prop) : Cuts := Cuts.none (fun _ => none)
def W_layout_lay.Λ (K : Value → Hp → Prop) : Cuts := ⟨fun i => none, fun i => match Nat.beq i 4 with | true => some (fun E D H => ∃ k, W_layout_lay.l4.L K k E D H) | false => none, (fun _ => none)⟩
theorem W_layout_lay.ok (x1 : Int) (x2 : Int) (H : Hp) (K : Value → Hp → Prop) (h : W_layout_lay x1 x2 H K) : HCalls Tryz.prog 79 #[.int .i64 x1, .int .i64 x2] H K :=
  hcalls Tryz.func79 rfl (Nat.le_of_ble_eq_true rfl) (hw_safe (Λ := (W_layout_lay.Λ K)) mixWlayout _ _ _ _ _ (Eq.mp (by kernel_rfl) h) (obs_seq obs_region rfl (obs_seq obs_region rfl (obs_seq obs_region rfl (obs_seq (obs_seq obs_region rfl (obs_block (obs_loop rfl (fun E D H h => by
      refine Safe.loop' (W_layout_lay.l4.L K) (fun E D H h => ?_) (fun k E D H h => ?_) E D H h
      · obtain ⟨w0, e0, g1⟩ := DG.out h; obtain ⟨x4, rfl, g2⟩ := DI.out g1; obtain ⟨w4, e4, g3⟩ := DG.out g2; obtain ⟨pw4, rfl, g4⟩ := DP.out g3; obtain ⟨a1, rfl, g5⟩ := NN.out g4; obtain ⟨w5, e5, g6⟩ := DG.out g5; obtain ⟨pw5, rfl, g7⟩ := DP.out g6; obtain ⟨a2, rfl, g8⟩ := NN.out g7; obtain ⟨w6, e6, g9⟩ := DG.out g8; obtain ⟨x5, rfl, g10⟩ := DI.out g9; obtain ⟨w7, e7, g11⟩ := DG.out g10; obtain ⟨x6, rfl, g12⟩ := DI.out g11; obtain ⟨w18, e18, g13⟩ := DG.out g12; obtain ⟨x7, rfl, g14⟩ := DI.out g13; obtain ⟨rfl, h'⟩ := DNilD.out g14; exact h'
      · obtain ⟨x4, e0, g2⟩ := GI h
        obtain ⟨a1, e4, g5⟩ := GN g2; obtain ⟨a2, e5, g8⟩ := GN g5; obtain ⟨x5, e6, g10⟩ := GI g8; obtain ⟨x6, e7, g12⟩ := GI g10; obtain ⟨x7, e18, g14⟩ := GI g12; obtain ⟨rfl, h'⟩ := DNilD.out g14
        exact (hw_safe (Λ := (W_layout_lay.Λ4 K (W_layout_lay.l4 K k))) mixWlayout _ _ [(0, .int .i64 x4), (4, .pointer (some a1)), (5, .pointer (some a2)), (6, .int .i64 x5), (7, .int .i64 x6), (18, .int .i64 x7)] [] H (Eq.mp (by kernel_rfl) h') (obs_seq obs_region rfl (obs_seq (obs_cond obs_skip obs_exit) rfl (obs_seq (obs_block (obs_seq obs_region rfl (obs_seq obs_region rfl obs_region))) rfl obs_region)))).weaken (EnvLe.cons e0 (EnvLe.cons e4 (EnvLe.cons e5 (EnvLe.cons e6 (EnvLe.cons e7 (EnvLe.cons e18 (EnvLe.nil _))))))) (Hp.le_refl _))))) rfl (obs_seq obs_region rfl obs_ret))))))
def W_layout_Good (y1 : Array Value) (H : Hp) (K : Value → Hp → Prop) : Prop :=
  Nw H (.obj (.cells y1 33)) fun b1 H1 => Ld H1 ((⟨b1, 0, none⟩ : Addr).add 0) fun v1 => DI .i64 v1 fun x1 => Ld H1 ((⟨b1, 0, none⟩ : Addr).add 1) fun v2 => DI .i64 v2 fun x2 => QCall Tryz.prog 77 #[.int .i64 (IntKind.i64.wrap ((if (4096 : Int) < x2 then (4096 : Int) else x2) * (8 : Int)))] H1 fun v3 => DI .i64 v3 fun x3 => QCall Tryz.prog 76 #[.int .i64 x1, .int .i64 x3] H1 fun v4 => DB v4 fun c1 => BIf c1 (LdA H1 (⟨b1, 0, none⟩ : Addr) 17 fun l1 => Ld H1 ((⟨b1, 0, none⟩ : Addr).add 0) fun v5 => DI .i64 v5 fun x4 => Ld H1 ((⟨b1, 0, none⟩ : Addr).add 1) fun v6 => DI .i64 v6 fun x5 => QCall Tryz.prog 79 #[.int .i64 x4, .int .i64 x5] H1 fun v7 => DA v7 fun y2 => EqV Tryz.prog .eql 33 (.agg l1.toArray) (.agg y2) fun c2 => K (.bool c2) H1) (K (.bool false) H1)
theorem W_layout_Good.ok (y1 : Array Value) (H : Hp) (K : Value → Hp → Prop) (h : W_layout_Good y1 H K) : HCalls Tryz.prog 90 #[.agg y1] H K :=
  hcalls Tryz.func90 rfl (Nat.le_of_ble_eq_true rfl) (hw_safe (Λ := Cuts.none (fun _ => none)) mixWlayout _ _ _ _ _ (Eq.mp (by kernel_rfl) h) (obs_none _ _ _ _ _))
def W_layout_room (x1 : Int) (x2 : Int) (H : Hp) (K : Value → Hp → Prop) : Prop :=
  (0 ≤ (IntKind.u64.wrap x1) ∧ (x2 ≠ 0 ∧ IntKind.i64 = IntKind.i64 ∧ K (.int .i64 (IntKind.i64.wrap ((IntKind.i64.wrap (Int.tdiv (IntKind.i64.wrap ((shlI .i64 (1 : Int) (IntKind.u64.wrap x1)) - (1 : Int))) x2)) + (1 : Int)))) H))
theorem W_layout_room.ok (x1 : Int) (x2 : Int) (H : Hp) (K : Value → Hp → Prop) (h : W_layout_room x1 x2 H K) : HCalls Tryz.prog 125 #[.int .i64 x1, .int .i64 x2] H K :=
  hcalls Tryz.func125 rfl (Nat.le_of_ble_eq_true rfl) (hw_safe (Λ := Cuts.none (fun _ => none)) mixWlayout _ _ _ _ _ (Eq.mp (by kernel_rfl) h) (obs_none _ _ _ _ _))
def W_layout_Sector (x1 : Int) (x2 : Int) (x3 : Int) (x4 : Int) (x5 : Int) (H : Hp) (K : Value → Hp → Prop) : Prop :=
  Nw H (.obj (.cells #[.int .i64 x1, .int .i64 x2, .int .i64 x3] 30)) fun b1 H1 => BIf (decide (x4 < (1 : Int))) (K (.tuple #[.int .i64 0, .int .i64 0, .int .i64 2]) H1) (BIf (decide (x5 < (0 : Int))) (K (.tuple #[.int .i64 0, .int .i64 0, .int .i64 2]) H1) (Ld H1 ((⟨b1, 0, none⟩ : Addr).add 2) fun v1 => DI .i64 v1 fun x6 => BIf (decide (x5 ≥ x6)) (K (.tuple #[.int .i64 0, .int .i64 0, .int .i64 2]) H1) ((x4 ≠ 0 ∧ IntKind.i64 = IntKind.i64 ∧ Ld H1 ((⟨b1, 0, none⟩ : Addr).add 1) fun v2 => DI .i64 v2 fun x7 => BIf (decide ((IntKind.i64.wrap (Int.tdiv x5 x4)) ≥ x7)) (K (.tuple #[.int .i64 0, .int .i64 0, .int .i64 2]) H1) (Ld H1 ((⟨b1, 0, none⟩ : Addr).add 0) fun v3 => DI .i64 v3 fun x8 => (x4 ≠ 0 ∧ IntKind.i64 = IntKind.i64 ∧ (x4 ≠ 0 ∧ IntKind.i64 = IntKind.i64 ∧ K (.tuple #[.int .i64 (IntKind.i64.wrap (x8 + (IntKind.i64.wrap (Int.tdiv x5 x4)))), .int .i64 (Int.tmod x5 x4), .int .i64 0]) H1)))))))
theorem W_layout_Sector.ok (x1 : Int) (x2 : Int) (x3 : Int) (x4 : Int) (x5 : Int) (H : Hp) (K : Value → Hp → Prop) (h : W_layout_Sector x1 x2 x3 x4 x5 H K) : HCalls Tryz.prog 127 #[.agg #[.int .i64 x1, .int .i64 x2, .int .i64 x3], .int .i64 x4, .int .i64 x5] H K :=
  hcalls Tryz.func127 rfl (Nat.le_of_ble_eq_true rfl) (hw_safe (Λ := Cuts.none (fun _ => none)) mixWlayout _ _ _ _ _ (Eq.mp (by kernel_rfl) h) (obs_none _ _ _ _ _))
end Go.Proofs.YtnknippcbecmeaaGreatDoor.W
end
section
/- layout, and its law's helpers: what they answer. -/
namespace Go.Proofs.YtnknippcbecmeaaGreatDoor.Lay
open Go Go.Hw W
def perN (s : Int) : Nat := if s = 32 then 4 else if s = 64 then 8 else if s = 128 then 16 else if s = 256 then 32 else if s = 512 then 64 else if s = 1024 then 128 else if s = 2048 then 256 else if s = 4096 then 512 else 0
theorem bAnd_nat {x y : Nat} (hx : x < 2 ^ 63) (hy : y < 2 ^ 63) : bAnd .i64 (x : Int) (y : Int) = ((x &&& y : Nat) : Int) := by
  have hle : x &&& y ≤ x := Nat.and_le_left
  have h1 : (BitVec.ofInt 64 (x : Int) &&& BitVec.ofInt 64 (y : Int)).toNat = x &&& y := by
    simp only [BitVec.toNat_and, BitVec.ofInt_natCast, BitVec.toNat_ofNat]
    rw [Nat.mod_eq_of_lt (by omega), Nat.mod_eq_of_lt (by omega)]
  unfold bAnd
  rw [show IntKind.i64.bits = 64 from rfl, h1]
  exact i64w (by omega) (by omega)
theorem pow_table : (List.range 4097).all (fun n => if 32 ≤ n then (if n &&& (n - 1) == 0 then perN n != 0 && n / 8 == perN n else perN n == 0) else true) = true := by kernel_rfl
theorem perN_small {s : Int} (h : s < 32) : perN s = 0 := by
  unfold perN
  repeat (rw [if_neg (by omega)])
theorem perN_great {s : Int} (h : 4096 < s) : perN s = 0 := by
  unfold perN
  repeat (rw [if_neg (by omega)])
theorem per_ok (s : Int) (H : Hp) : HCalls Tryz.prog 77 #[.int .i64 s] H (RetE (.int .i64 (perN s)) H) := by
  apply W_layout_per.ok
  unfold W_layout_per
  rw [BIf_decide, BIf_decide, BIf_if]
  by_cases h1 : s < 32
  · rw [if_pos h1, perN_small h1]; exact RetE.mk _ _
  rw [if_neg h1]
  by_cases h2 : s > 4096
  · rw [if_pos h2, perN_great h2]; exact RetE.mk _ _
  rw [if_neg h2]
  obtain ⟨n, rfl⟩ := Int.eq_ofNat_of_zero_le (show 0 ≤ s by omega)
  have ht := List.all_eq_true.1 pow_table n (by simp; omega)
  rw [if_pos (by omega)] at ht
  rw [show ((n : Int) - 1) = ((n - 1 : Nat) : Int) by omega, i64w (by omega) (by omega), bAnd_nat (by omega) (by omega)]
  split at ht
  · rename_i h3
    simp only [Bool.and_eq_true, bne_iff_ne, beq_iff_eq] at ht h3
    rw [h3, if_neg (by simp)]
    refine ⟨by omega, rfl, RetE.of ?_⟩
    rw [show Int.tdiv (n : Int) 8 = ((n / 8 : Nat) : Int) from rfl, ht.2, i64w (by omega) (by have := ht.2; omega)]
  · rename_i h3
    simp only [beq_iff_eq] at ht h3
    rw [if_pos (by simp; omega), ht]
    exact RetE.mk _ _
def roomN (k p : Nat) : Nat := (2 ^ k - 1) / p + 1
theorem roomN_le {k p : Nat} (hk : k ≤ 33) : roomN k p ≤ 8589934592 := by
  unfold roomN
  have h1 : 2 ^ k ≤ 2 ^ 33 := Nat.pow_le_pow_right (by omega) hk
  have h2 : (2 ^ k - 1) / p ≤ 2 ^ k - 1 := Nat.div_le_self _ _
  have h3 : 1 ≤ 2 ^ k := Nat.one_le_two_pow
  omega
theorem pow_i64 {k : Nat} (h : k ≤ 62) : (2 : Nat) ^ k ≤ 4611686018427387904 := Nat.pow_le_pow_right (n := 2) (by omega) h
theorem shl_one {k : Nat} (h : k ≤ 62) : shlI .i64 1 (k : Int) = ((2 ^ k : Nat) : Int) := by
  unfold shlI
  rw [Int.toNat_natCast, show IntKind.i64.bits = 64 from rfl, Nat.min_eq_left (by omega), Int.one_mul]
  have := pow_i64 h
  rw [show ((2 : Int) ^ k) = ((2 ^ k : Nat) : Int) by simp]
  exact i64n (by omega)
theorem room_ok {k p : Nat} (hk : k ≤ 62) (hp : 0 < p) (hp2 : p < 2 ^ 62) (H : Hp) : HCalls Tryz.prog 125 #[.int .i64 k, .int .i64 p] H (RetE (.int .i64 (roomN k p)) H) := by
  apply W_layout_room.ok
  unfold W_layout_room
  have h1 := pow_i64 hk
  have h2 : 1 ≤ 2 ^ k := Nat.one_le_two_pow
  have h3 : (2 ^ k - 1) / p ≤ 2 ^ k - 1 := Nat.div_le_self _ _
  rw [u64w (by omega) (by omega), shl_one hk, i64w (x := ((2 ^ k : Nat) : Int) - 1) (by omega) (by omega)]
  rw [show (((2 ^ k : Nat) : Int) - 1) = ((2 ^ k - 1 : Nat) : Int) by omega, show Int.tdiv ((2 ^ k - 1 : Nat) : Int) (p : Int) = (((2 ^ k - 1) / p : Nat) : Int) from rfl]
  refine ⟨by omega, by omega, rfl, RetE.of ?_⟩
  rw [i64n (by omega), show ((((2 ^ k - 1) / p : Nat) : Int) + 1) = (((2 ^ k - 1) / p + 1 : Nat) : Int) by rfl, i64n (by omega)]
  rfl
theorem good_ok (k : Int) (p : Int) (H : Hp) : HCalls Tryz.prog 76 #[.int .i64 k, .int .i64 p] H (RetE (.bool (decide (0 ≤ k ∧ k ≤ 32 ∧ 0 < p))) H) := by
  apply W_layout_good.ok
  unfold W_layout_good
  rw [BIf_decide, BIf_decide]
  by_cases h1 : k ≥ 0
  · rw [if_pos h1]
    by_cases h2 : k ≤ 32
    · rw [if_pos h2]; refine RetE.of ?_; congr 2; simp; omega
    · rw [if_neg h2]; refine RetE.of ?_; congr 1; simp; omega
  · rw [if_neg h1]; refine RetE.of ?_; congr 1; simp; omega
def needN (k p : Nat) : Nat := 9 + 4 * roomN k p
theorem need_ok {k p : Nat} (hk : k ≤ 32) (hp : 0 < p) (hp2 : p < 2 ^ 62) (H : Hp) : HCalls Tryz.prog 78 #[.int .i64 k, .int .i64 p] H (RetE (.int .i64 (needN k p)) H) := by
  apply W_layout_need.ok
  unfold W_layout_need
  refine HCalls.use (room_ok (by omega) hp hp2 H) ?_
  try simp only [HV]
  have := roomN_le (k := k) (p := p) (by omega)
  refine RetE.of ?_
  rw [i64w (x := 4 * (roomN k p : Int)) (by omega) (by omega), i64w (by omega) (by omega)]
  unfold needN; simp
theorem perN_le (s : Int) : perN s ≤ 512 := by
  unfold perN
  repeat' split
  all_goals omega
def NeedV (k s : Int) : Int × Int := if 0 ≤ k ∧ k ≤ 32 ∧ 0 < perN s then (needN k.toNat (perN s), 0) else (0, 1)
theorem Need_ok (k s : Int) (H : Hp) : HCalls Tryz.prog 41 #[.int .i64 k, .int .i64 s] H (RetE (.tuple #[.int .i64 (NeedV k s).1, .int .i64 (NeedV k s).2]) H) := by
  apply W_layout_Need.ok
  unfold W_layout_Need
  refine HCalls.use (per_ok s H) ?_
  try simp only [HV]
  refine HCalls.use (good_ok k _ H) ?_
  try simp only [HV]
  unfold NeedV
  have hle := perN_le s
  by_cases h : 0 ≤ k ∧ k ≤ 32 ∧ 0 < perN s
  · rw [if_pos h]
    refine BIf_neg (by simp; omega) ?_
    refine HCalls.use (per_ok s H) ?_
    try simp only [HV]
    obtain ⟨n, rfl⟩ := Int.eq_ofNat_of_zero_le h.1
    refine HCalls.use (need_ok (by omega) h.2.2 (by omega) H) ?_
    try simp only [HV]
    exact RetE.mk _ _
  · rw [if_neg h]
    exact BIf_pos (by simp; omega) (RetE.mk _ _)
end Go.Proofs.YtnknippcbecmeaaGreatDoor.Lay
end
section
/- Formulas of functions, printed by wip/tools/hwp.py. -/
namespace Go.Proofs.YtnknippcbecmeaaGreatDoor.W
open Go Go.Hw
theorem mixWlbits : Tryz.prog.follows .mixedOrders = true := by kernel_rfl
def W_math_bits_TrailingZeros (x1 : Int) (H : Hp) (K : Value → Hp → Prop) : Prop :=
  HCalls Tryz.prog 169 #[.int .u64 x1] H fun v1 H1 => DI .i64 v1 fun x2 => K (.int .i64 x2) H1
theorem W_math_bits_TrailingZeros.ok (x1 : Int) (H : Hp) (K : Value → Hp → Prop) (h : W_math_bits_TrailingZeros x1 H K) : HCalls Tryz.prog 139 #[.int .u64 x1] H K :=
  hcalls Tryz.func139 rfl (Nat.le_of_ble_eq_true rfl) (hw_safe (Λ := Cuts.none (fun _ => none)) mixWlbits _ _ _ _ _ (Eq.mp (by kernel_rfl) h) (obs_none _ _ _ _ _))
def W_math_bits_TrailingZeros64 (x1 : Int) (H : Hp) (K : Value → Hp → Prop) : Prop :=
  BIf (x1 == (0 : Int)) (K (.int .i64 64) H) ((0 ≤ (58 : Int) ∧ ixI (shrI .u64 (IntKind.u64.wrap ((bAnd .u64 x1 (IntKind.u64.wrap (0 - x1))) * (285870213051353865 : Int))) (58 : Int)) 64 (Ld H ((⟨1, 0, none⟩ : Addr).add ((shrI .u64 (IntKind.u64.wrap ((bAnd .u64 x1 (IntKind.u64.wrap (0 - x1))) * (285870213051353865 : Int))) (58 : Int)).toNat * 1)) fun v1 => DI .u8 v1 fun x2 => K (.int .i64 (IntKind.i64.wrap x2)) H)))
theorem W_math_bits_TrailingZeros64.ok (x1 : Int) (H : Hp) (K : Value → Hp → Prop) (h : W_math_bits_TrailingZeros64 x1 H K) : HCalls Tryz.prog 169 #[.int .u64 x1] H K :=
  hcalls Tryz.func169 rfl (Nat.le_of_ble_eq_true rfl) (hw_safe (Λ := Cuts.none (fun _ => none)) mixWlbits _ _ _ _ _ (Eq.mp (by kernel_rfl) h) (obs_none _ _ _ _ _))
def W_math_bits_Mul64 (x1 : Int) (x2 : Int) (H : Hp) (K : Value → Hp → Prop) : Prop :=
  (0 ≤ (32 : Int) ∧ (0 ≤ (32 : Int) ∧ (0 ≤ (32 : Int) ∧ (0 ≤ (32 : Int) ∧ (0 ≤ (32 : Int) ∧ K (.tuple #[.int .u64 (IntKind.u64.wrap ((IntKind.u64.wrap ((IntKind.u64.wrap ((shrI .u64 x1 (32 : Int)) * (shrI .u64 x2 (32 : Int)))) + (shrI .u64 (IntKind.u64.wrap ((IntKind.u64.wrap ((shrI .u64 x1 (32 : Int)) * (bAnd .u64 x2 (4294967295 : Int)))) + (shrI .u64 (IntKind.u64.wrap ((bAnd .u64 x1 (4294967295 : Int)) * (bAnd .u64 x2 (4294967295 : Int)))) (32 : Int)))) (32 : Int)))) + (shrI .u64 (IntKind.u64.wrap ((bAnd .u64 (IntKind.u64.wrap ((IntKind.u64.wrap ((shrI .u64 x1 (32 : Int)) * (bAnd .u64 x2 (4294967295 : Int)))) + (shrI .u64 (IntKind.u64.wrap ((bAnd .u64 x1 (4294967295 : Int)) * (bAnd .u64 x2 (4294967295 : Int)))) (32 : Int)))) (4294967295 : Int)) + (IntKind.u64.wrap ((bAnd .u64 x1 (4294967295 : Int)) * (shrI .u64 x2 (32 : Int)))))) (32 : Int)))), .int .u64 (IntKind.u64.wrap (x1 * x2))]) H)))))
theorem W_math_bits_Mul64.ok (x1 : Int) (x2 : Int) (H : Hp) (K : Value → Hp → Prop) (h : W_math_bits_Mul64 x1 x2 H K) : HCalls Tryz.prog 237 #[.int .u64 x1, .int .u64 x2] H K :=
  hcalls Tryz.func237 rfl (Nat.le_of_ble_eq_true rfl) (hw_safe (Λ := Cuts.none (fun _ => none)) mixWlbits _ _ _ _ _ (Eq.mp (by kernel_rfl) h) (obs_none _ _ _ _ _))
def W_math_bits_Reverse64 (x1 : Int) (H : Hp) (K : Value → Hp → Prop) : Prop :=
  (0 ≤ (1 : Int) ∧ (0 ≤ (1 : Int) ∧ (0 ≤ (2 : Int) ∧ (0 ≤ (2 : Int) ∧ (0 ≤ (4 : Int) ∧ (0 ≤ (4 : Int) ∧ HCalls Tryz.prog 242 #[.int .u64 (bOr .u64 (bAnd .u64 (shrI .u64 (bOr .u64 (bAnd .u64 (shrI .u64 (bOr .u64 (bAnd .u64 (shrI .u64 x1 (1 : Int)) (6148914691236517205 : Int)) (shlI .u64 (bAnd .u64 x1 (6148914691236517205 : Int)) (1 : Int))) (2 : Int)) (3689348814741910323 : Int)) (shlI .u64 (bAnd .u64 (bOr .u64 (bAnd .u64 (shrI .u64 x1 (1 : Int)) (6148914691236517205 : Int)) (shlI .u64 (bAnd .u64 x1 (6148914691236517205 : Int)) (1 : Int))) (3689348814741910323 : Int)) (2 : Int))) (4 : Int)) (1085102592571150095 : Int)) (shlI .u64 (bAnd .u64 (bOr .u64 (bAnd .u64 (shrI .u64 (bOr .u64 (bAnd .u64 (shrI .u64 x1 (1 : Int)) (6148914691236517205 : Int)) (shlI .u64 (bAnd .u64 x1 (6148914691236517205 : Int)) (1 : Int))) (2 : Int)) (3689348814741910323 : Int)) (shlI .u64 (bAnd .u64 (bOr .u64 (bAnd .u64 (shrI .u64 x1 (1 : Int)) (6148914691236517205 : Int)) (shlI .u64 (bAnd .u64 x1 (6148914691236517205 : Int)) (1 : Int))) (3689348814741910323 : Int)) (2 : Int))) (1085102592571150095 : Int)) (4 : Int)))] H fun v1 H1 => DI .u64 v1 fun x2 => K (.int .u64 x2) H1))))))
theorem W_math_bits_Reverse64.ok (x1 : Int) (H : Hp) (K : Value → Hp → Prop) (h : W_math_bits_Reverse64 x1 H K) : HCalls Tryz.prog 238 #[.int .u64 x1] H K :=
  hcalls Tryz.func238 rfl (Nat.le_of_ble_eq_true rfl) (hw_safe (Λ := Cuts.none (fun _ => none)) mixWlbits _ _ _ _ _ (Eq.mp (by kernel_rfl) h) (obs_none _ _ _ _ _))
def W_math_bits_ReverseBytes64 (x1 : Int) (H : Hp) (K : Value → Hp → Prop) : Prop :=
  (0 ≤ (8 : Int) ∧ (0 ≤ (8 : Int) ∧ (0 ≤ (16 : Int) ∧ (0 ≤ (16 : Int) ∧ (0 ≤ (32 : Int) ∧ (0 ≤ (32 : Int) ∧ K (.int .u64 (bOr .u64 (shrI .u64 (bOr .u64 (bAnd .u64 (shrI .u64 (bOr .u64 (bAnd .u64 (shrI .u64 x1 (8 : Int)) (71777214294589695 : Int)) (shlI .u64 (bAnd .u64 x1 (71777214294589695 : Int)) (8 : Int))) (16 : Int)) (281470681808895 : Int)) (shlI .u64 (bAnd .u64 (bOr .u64 (bAnd .u64 (shrI .u64 x1 (8 : Int)) (71777214294589695 : Int)) (shlI .u64 (bAnd .u64 x1 (71777214294589695 : Int)) (8 : Int))) (281470681808895 : Int)) (16 : Int))) (32 : Int)) (shlI .u64 (bOr .u64 (bAnd .u64 (shrI .u64 (bOr .u64 (bAnd .u64 (shrI .u64 x1 (8 : Int)) (71777214294589695 : Int)) (shlI .u64 (bAnd .u64 x1 (71777214294589695 : Int)) (8 : Int))) (16 : Int)) (281470681808895 : Int)) (shlI .u64 (bAnd .u64 (bOr .u64 (bAnd .u64 (shrI .u64 x1 (8 : Int)) (71777214294589695 : Int)) (shlI .u64 (bAnd .u64 x1 (71777214294589695 : Int)) (8 : Int))) (281470681808895 : Int)) (16 : Int))) (32 : Int)))) H))))))
theorem W_math_bits_ReverseBytes64.ok (x1 : Int) (H : Hp) (K : Value → Hp → Prop) (h : W_math_bits_ReverseBytes64 x1 H K) : HCalls Tryz.prog 242 #[.int .u64 x1] H K :=
  hcalls Tryz.func242 rfl (Nat.le_of_ble_eq_true rfl) (hw_safe (Λ := Cuts.none (fun _ => none)) mixWlbits _ _ _ _ _ (Eq.mp (by kernel_rfl) h) (obs_none _ _ _ _ _))
end Go.Proofs.YtnknippcbecmeaaGreatDoor.W
end
section
/- Formulas of functions, printed by wip/tools/hwp.py. -/
namespace Go.Proofs.YtnknippcbecmeaaGreatDoor.W
open Go Go.Hw
theorem mixWroot : Tryz.prog.follows .mixedOrders = true := by kernel_rfl
def W_root_Fits (x1 : Int) (H : Hp) (K : Value → Hp → Prop) : Prop :=
  BIf (decide (x1 < (1 : Int))) (K (.tuple #[.int .i64 0, .bool false]) H) (BIf (decide (x1 > (4294967296 : Int))) (K (.tuple #[.int .i64 0, .bool false]) H) (BIf ((bAnd .i64 x1 (IntKind.i64.wrap (x1 - (1 : Int)))) != (0 : Int)) (K (.tuple #[.int .i64 0, .bool false]) H) (HCalls Tryz.prog 169 #[.int .u64 (IntKind.u64.wrap x1)] H fun v1 H1 => DI .i64 v1 fun x2 => K (.tuple #[.int .i64 x2, .bool true]) H1)))
theorem W_root_Fits.ok (x1 : Int) (H : Hp) (K : Value → Hp → Prop) (h : W_root_Fits x1 H K) : HCalls Tryz.prog 165 #[.int .i64 x1] H K :=
  hcalls Tryz.func165 rfl (Nat.le_of_ble_eq_true rfl) (hw_safe (Λ := Cuts.none (fun _ => none)) mixWroot _ _ _ _ _ (Eq.mp (by kernel_rfl) h) (obs_none _ _ _ _ _))
def W_root_Powers.l6 (K : Value → Hp → Prop) : Nat → Int → Option Addr → Nat → Nat → Int → Int → Int → Hp → Prop
  | 0, _, _, _, _, _, _, _, _ => False
  | k + 1, x3, A2, n2, m2, x4, x5, x6, H =>
    let R6 := W_root_Powers.l6 K k
    BIf (decide (x6 < x5)) (ixI x6 n2 (NN A2 fun a1 => St H ((a1.add (x6.toNat * 1)).add 0) (.int .u64 x4) fun H2 => HCalls Tryz.prog 215 #[.int .u64 x4, .int .u64 x3] H2 fun v2 H3 => DI .u64 v2 fun x7 => R6 x3 A2 n2 m2 x7 x5 (IntKind.i64.wrap (x6 + (1 : Int))) H3)) (K (.tuple #[.slice A2 n2 m2, .int .i64 0]) H)
def W_root_Powers (x1 : Int) (x2 : Int) (H : Hp) (K : Value → Hp → Prop) : Prop :=
  BIf (decide (x2 < (0 : Int))) (K (.tuple #[.slice none 0 0, .int .i64 1]) H) (BIf (decide (x2 > (1048576 : Int))) (K (.tuple #[.slice none 0 0, .int .i64 1]) H) (MkS Tryz.prog 60 x2 x2 H fun v1 H1 => DSl v1 fun A1 n1 m1 => (∃ k, W_root_Powers.l6 K k x1 A1 n1 m1 (1 : Int) ((n1 : Nat) : Int) (0 : Int) H1)))
def W_root_Powers.l6.L (K : Value → Hp → Prop) (k : Nat) : Mid := fun E D H =>
  eI E 0 .u64 fun x3 => DG (E.get? 6) fun w6 => DSl w6 fun A2 n2 m2 => eI E 7 .u64 fun x4 => eI E 18 .i64 fun x5 => eI E 19 .i64 fun x6 => DNilD D (W_root_Powers.l6 K k x3 A2 n2 m2 x4 x5 x6 H)
def W_root_Powers.Λ6 (_ : Value → Hp → Prop) (_R6 : Int → Option Addr → Nat → Nat → Int → Int → Int → Hp → Prop) : Cuts := Cuts.none (fun _ => none)
def W_root_Powers.Λ (K : Value → Hp → Prop) : Cuts := ⟨fun i => none, fun i => match Nat.beq i 6 with | true => some (fun E D H => ∃ k, W_root_Powers.l6.L K k E D H) | false => none, (fun _ => none)⟩
theorem W_root_Powers.ok (x1 : Int) (x2 : Int) (H : Hp) (K : Value → Hp → Prop) (h : W_root_Powers x1 x2 H K) : HCalls Tryz.prog 198 #[.int .u64 x1, .int .i64 x2] H K :=
  hcalls Tryz.func198 rfl (Nat.le_of_ble_eq_true rfl) (hw_safe (Λ := (W_root_Powers.Λ K)) mixWroot _ _ _ _ _ (Eq.mp (by kernel_rfl) h) (obs_seq obs_region rfl (obs_seq (obs_seq obs_region rfl (obs_cond (obs_seq obs_region rfl obs_ret) obs_skip)) rfl (obs_seq obs_region rfl (obs_seq obs_region rfl (obs_seq (obs_seq obs_region rfl (obs_block (obs_loop rfl (fun E D H h => by
      refine Safe.loop' (W_root_Powers.l6.L K) (fun E D H h => ?_) (fun k E D H h => ?_) E D H h
      · obtain ⟨w0, e0, g1⟩ := DG.out h; obtain ⟨x3, rfl, g2⟩ := DI.out g1; obtain ⟨w6, e6, g3⟩ := DG.out g2; obtain ⟨A2, n2, m2, rfl, g4⟩ := DSl.out g3; obtain ⟨w7, e7, g5⟩ := DG.out g4; obtain ⟨x4, rfl, g6⟩ := DI.out g5; obtain ⟨w18, e18, g7⟩ := DG.out g6; obtain ⟨x5, rfl, g8⟩ := DI.out g7; obtain ⟨w19, e19, g9⟩ := DG.out g8; obtain ⟨x6, rfl, g10⟩ := DI.out g9; obtain ⟨rfl, h'⟩ := DNilD.out g10; exact h'
      · obtain ⟨x3, e0, g2⟩ := GI h
        obtain ⟨w6, e6, g3⟩ := DG.out g2
        obtain ⟨A2, n2, m2, rfl, g4⟩ := DSl.out g3
        obtain ⟨x4, e7, g6⟩ := GI g4; obtain ⟨x5, e18, g8⟩ := GI g6; obtain ⟨x6, e19, g10⟩ := GI g8; obtain ⟨rfl, h'⟩ := DNilD.out g10
        exact (hw_safe (Λ := (W_root_Powers.Λ6 K (W_root_Powers.l6 K k))) mixWroot _ _ [(0, .int .u64 x3), (6, .slice A2 n2 m2), (7, .int .u64 x4), (18, .int .i64 x5), (19, .int .i64 x6)] [] H (Eq.mp (by kernel_rfl) h') (obs_seq obs_region rfl (obs_seq (obs_cond obs_skip obs_exit) rfl (obs_seq (obs_block (obs_seq obs_region rfl (obs_seq obs_region rfl obs_region))) rfl obs_region)))).weaken (EnvLe.cons e0 (EnvLe.cons e6 (EnvLe.cons e7 (EnvLe.cons e18 (EnvLe.cons e19 (EnvLe.nil _)))))) (Hp.le_refl _))))) rfl (obs_seq obs_region rfl obs_ret)))))))
def W_root_Root (x1 : Int) (H : Hp) (K : Value → Hp → Prop) : Prop :=
  HCalls Tryz.prog 224 #[.int .i64 x1] H fun v1 H1 => DB v1 fun c1 => BIf (!c1) (K (.tuple #[.int .u64 0, .int .i64 1]) H1) (HCalls Tryz.prog 225 #[.int .i64 x1] H1 fun v2 H2 => DI .u64 v2 fun x2 => K (.tuple #[.int .u64 x2, .int .i64 0]) H2)
theorem W_root_Root.ok (x1 : Int) (H : Hp) (K : Value → Hp → Prop) (h : W_root_Root x1 H K) : HCalls Tryz.prog 213 #[.int .i64 x1] H K :=
  hcalls Tryz.func213 rfl (Nat.le_of_ble_eq_true rfl) (hw_safe (Λ := Cuts.none (fun _ => none)) mixWroot _ _ _ _ _ (Eq.mp (by kernel_rfl) h) (obs_none _ _ _ _ _))
def W_root_Back (x1 : Int) (H : Hp) (K : Value → Hp → Prop) : Prop :=
  HCalls Tryz.prog 224 #[.int .i64 x1] H fun v1 H1 => DB v1 fun c1 => BIf (!c1) (K (.tuple #[.int .u64 0, .int .i64 1]) H1) (HCalls Tryz.prog 225 #[.int .i64 x1] H1 fun v2 H2 => DI .u64 v2 fun x2 => HCalls Tryz.prog 171 #[.int .u64 x2] H2 fun v3 H3 => DTup v3 fun l1 => DCons l1 fun v4 l2 => DI .u64 v4 fun x3 => DCons l2 fun v5 l3 => DI .i64 v5 fun x4 => DNil l3 (K (.tuple #[.int .u64 x3, .int .i64 x4]) H3))
theorem W_root_Back.ok (x1 : Int) (H : Hp) (K : Value → Hp → Prop) (h : W_root_Back x1 H K) : HCalls Tryz.prog 214 #[.int .i64 x1] H K :=
  hcalls Tryz.func214 rfl (Nat.le_of_ble_eq_true rfl) (hw_safe (Λ := Cuts.none (fun _ => none)) mixWroot _ _ _ _ _ (Eq.mp (by kernel_rfl) h) (obs_none _ _ _ _ _))
def W_root_good (x1 : Int) (H : Hp) (K : Value → Hp → Prop) : Prop :=
  BIf (decide (x1 ≥ (0 : Int))) (K (.bool (decide (x1 ≤ (32 : Int)))) H) (K (.bool false) H)
theorem W_root_good.ok (x1 : Int) (H : Hp) (K : Value → Hp → Prop) (h : W_root_good x1 H K) : HCalls Tryz.prog 224 #[.int .i64 x1] H K :=
  hcalls Tryz.func224 rfl (Nat.le_of_ble_eq_true rfl) (hw_safe (Λ := Cuts.none (fun _ => none)) mixWroot _ _ _ _ _ (Eq.mp (by kernel_rfl) h) (obs_none _ _ _ _ _))
def W_root_root (x1 : Int) (H : Hp) (K : Value → Hp → Prop) : Prop :=
  (0 ≤ (IntKind.u64.wrap x1) ∧ HCalls Tryz.prog 203 #[.int .u64 7, .int .u64 (shrI .u64 (18446744069414584320 : Int) (IntKind.u64.wrap x1))] H fun v1 H1 => DI .u64 v1 fun x2 => K (.int .u64 x2) H1)
theorem W_root_root.ok (x1 : Int) (H : Hp) (K : Value → Hp → Prop) (h : W_root_root x1 H K) : HCalls Tryz.prog 225 #[.int .i64 x1] H K :=
  hcalls Tryz.func225 rfl (Nat.le_of_ble_eq_true rfl) (hw_safe (Λ := Cuts.none (fun _ => none)) mixWroot _ _ _ _ _ (Eq.mp (by kernel_rfl) h) (obs_none _ _ _ _ _))
end Go.Proofs.YtnknippcbecmeaaGreatDoor.W
end
section
/- Formulas of functions, printed by wip/tools/hwp.py. -/
namespace Go.Proofs.YtnknippcbecmeaaGreatDoor.W
open Go Go.Hw
theorem mixWshape : Tryz.prog.follows .mixedOrders = true := by kernel_rfl
def W_shape_Good (x1 : Int) (x2 : Int) (H : Hp) (K : Value → Hp → Prop) : Prop :=
  Nw H (.obj (.cells #[.int .i64 x1, .int .i64 x2] 59)) fun b1 H1 => Ld H1 ((⟨b1, 0, none⟩ : Addr).add 0) fun v1 => DI .i64 v1 fun x3 => HCalls Tryz.prog 165 #[.int .i64 x3] H1 fun v2 H2 => DTup v2 fun l1 => DCons l1 fun v3 l2 => DI .i64 v3 fun x4 => DCons l2 fun v4 l3 => DB v4 fun c1 => DNil l3 (Ld H2 ((⟨b1, 0, none⟩ : Addr).add 1) fun v5 => DI .i64 v5 fun x5 => HCalls Tryz.prog 165 #[.int .i64 x5] H2 fun v6 H3 => DTup v6 fun l4 => DCons l4 fun v7 l5 => DI .i64 v7 fun x6 => DCons l5 fun v8 l6 => DB v8 fun c2 => DNil l6 (BIf c1 (BIf c2 (K (.bool (decide ((IntKind.i64.wrap (x4 + x6)) ≤ (32 : Int)))) H3) (K (.bool false) H3)) (K (.bool false) H3)))
theorem W_shape_Good.ok (x1 : Int) (x2 : Int) (H : Hp) (K : Value → Hp → Prop) (h : W_shape_Good x1 x2 H K) : HCalls Tryz.prog 132 #[.agg #[.int .i64 x1, .int .i64 x2]] H K :=
  hcalls Tryz.func132 rfl (Nat.le_of_ble_eq_true rfl) (hw_safe (Λ := Cuts.none (fun _ => none)) mixWshape _ _ _ _ _ (Eq.mp (by kernel_rfl) h) (obs_none _ _ _ _ _))
def W_shape_Size (x1 : Int) (x2 : Int) (H : Hp) (K : Value → Hp → Prop) : Prop :=
  Nw H (.obj (.cells #[.int .i64 x1, .int .i64 x2] 59)) fun b1 H1 => LdA H1 (⟨b1, 0, none⟩ : Addr) 2 fun l1 => HCalls Tryz.prog 132 #[.agg l1.toArray] H1 fun v1 H2 => DB v1 fun c1 => BIf (!c1) (K (.int .i64 0) H2) (Ld H2 ((⟨b1, 0, none⟩ : Addr).add 0) fun v2 => DI .i64 v2 fun x3 => Ld H2 ((⟨b1, 0, none⟩ : Addr).add 1) fun v3 => DI .i64 v3 fun x4 => K (.int .i64 (IntKind.i64.wrap (x3 * x4))) H2)
theorem W_shape_Size.ok (x1 : Int) (x2 : Int) (H : Hp) (K : Value → Hp → Prop) (h : W_shape_Size x1 x2 H K) : HCalls Tryz.prog 134 #[.agg #[.int .i64 x1, .int .i64 x2]] H K :=
  hcalls Tryz.func134 rfl (Nat.le_of_ble_eq_true rfl) (hw_safe (Λ := Cuts.none (fun _ => none)) mixWshape _ _ _ _ _ (Eq.mp (by kernel_rfl) h) (obs_none _ _ _ _ _))
def W_shape_Even (x1 : Int) (H : Hp) (K : Value → Hp → Prop) : Prop :=
  Nw H (.obj (.cells #[.int .i64 0, .int .i64 0] 59)) fun b1 H1 => HCalls Tryz.prog 172 #[.int .i64 x1] H1 fun v1 H2 => DB v1 fun c1 => BIf (!c1) (StA H2 (⟨b1, 0, none⟩ : Addr) #[.int .i64 0, .int .i64 0] 2 fun H3 => LdA H3 (⟨b1, 0, none⟩ : Addr) 2 fun l1 => K (.tuple #[.agg l1.toArray, .int .i64 1]) H3) (((2 : Int) ≠ 0 ∧ IntKind.i64 = IntKind.i64 ∧ HCalls Tryz.prog 173 #[.int .i64 x1, .int .i64 (IntKind.i64.wrap (Int.tdiv x1 (2 : Int)))] H2 fun v2 H4 => DA v2 fun y1 => StA H4 (⟨b1, 0, none⟩ : Addr) y1 2 fun H5 => LdA H5 (⟨b1, 0, none⟩ : Addr) 2 fun l2 => K (.tuple #[.agg l2.toArray, .int .i64 0]) H5))
theorem W_shape_Even.ok (x1 : Int) (H : Hp) (K : Value → Hp → Prop) (h : W_shape_Even x1 H K) : HCalls Tryz.prog 142 #[.int .i64 x1] H K :=
  hcalls Tryz.func142 rfl (Nat.le_of_ble_eq_true rfl) (hw_safe (Λ := Cuts.none (fun _ => none)) mixWshape _ _ _ _ _ (Eq.mp (by kernel_rfl) h) (obs_none _ _ _ _ _))
def W_shape_Turned (x1 : Int) (x2 : Int) (H : Hp) (K : Value → Hp → Prop) : Prop :=
  Nw H (.obj (.cells #[.int .i64 x1, .int .i64 x2] 59)) fun b1 H1 => Nw H1 (.obj (.cells #[.int .i64 0, .int .i64 0] 59)) fun b2 H2 => Ld H2 ((⟨b1, 0, none⟩ : Addr).add 1) fun v1 => DI .i64 v1 fun x3 => Ld H2 ((⟨b1, 0, none⟩ : Addr).add 0) fun v2 => DI .i64 v2 fun x4 => StA H2 (⟨b2, 0, none⟩ : Addr) #[.int .i64 x3, .int .i64 x4] 2 fun H3 => LdA H3 (⟨b2, 0, none⟩ : Addr) 2 fun l1 => K (.agg l1.toArray) H3
theorem W_shape_Turned.ok (x1 : Int) (x2 : Int) (H : Hp) (K : Value → Hp → Prop) (h : W_shape_Turned x1 x2 H K) : HCalls Tryz.prog 143 #[.agg #[.int .i64 x1, .int .i64 x2]] H K :=
  hcalls Tryz.func143 rfl (Nat.le_of_ble_eq_true rfl) (hw_safe (Λ := Cuts.none (fun _ => none)) mixWshape _ _ _ _ _ (Eq.mp (by kernel_rfl) h) (obs_none _ _ _ _ _))
def W_shape_good (x1 : Int) (H : Hp) (K : Value → Hp → Prop) : Prop :=
  BIf (decide (x1 ≥ (0 : Int))) (K (.bool (decide (x1 ≤ (32 : Int)))) H) (K (.bool false) H)
theorem W_shape_good.ok (x1 : Int) (H : Hp) (K : Value → Hp → Prop) (h : W_shape_good x1 H K) : HCalls Tryz.prog 172 #[.int .i64 x1] H K :=
  hcalls Tryz.func172 rfl (Nat.le_of_ble_eq_true rfl) (hw_safe (Λ := Cuts.none (fun _ => none)) mixWshape _ _ _ _ _ (Eq.mp (by kernel_rfl) h) (obs_none _ _ _ _ _))
def W_shape_split (x1 : Int) (x2 : Int) (H : Hp) (K : Value → Hp → Prop) : Prop :=
  Nw H (.obj (.cells #[.int .i64 0, .int .i64 0] 59)) fun b1 H1 => (0 ≤ (IntKind.u64.wrap x2) ∧ (0 ≤ (IntKind.u64.wrap (IntKind.i64.wrap (x1 - x2))) ∧ StA H1 (⟨b1, 0, none⟩ : Addr) #[.int .i64 (shlI .i64 (1 : Int) (IntKind.u64.wrap x2)), .int .i64 (shlI .i64 (1 : Int) (IntKind.u64.wrap (IntKind.i64.wrap (x1 - x2))))] 2 fun H2 => LdA H2 (⟨b1, 0, none⟩ : Addr) 2 fun l1 => K (.agg l1.toArray) H2))
theorem W_shape_split.ok (x1 : Int) (x2 : Int) (H : Hp) (K : Value → Hp → Prop) (h : W_shape_split x1 x2 H K) : HCalls Tryz.prog 173 #[.int .i64 x1, .int .i64 x2] H K :=
  hcalls Tryz.func173 rfl (Nat.le_of_ble_eq_true rfl) (hw_safe (Λ := Cuts.none (fun _ => none)) mixWshape _ _ _ _ _ (Eq.mp (by kernel_rfl) h) (obs_none _ _ _ _ _))
end Go.Proofs.YtnknippcbecmeaaGreatDoor.W
end
section
/- Formulas of functions, printed by wip/tools/hwp.py. -/
namespace Go.Proofs.YtnknippcbecmeaaGreatDoor.W
open Go Go.Hw
theorem mixWabacistref03 : Tryz.prog.follows .mixedOrders = true := by kernel_rfl
def W_abacistref03_Fits.l3 (K : Value → Hp → Prop) : Nat → Int → Int → Int → Hp → Prop
  | 0, _, _, _, _ => False
  | k + 1, x2, x3, x4, H =>
    let R3 := W_abacistref03_Fits.l3 K k
    BIf (decide (x4 ≤ (32 : Int))) (BIf (x2 == x3) (K (.int .i64 x4) H) (R3 x2 (IntKind.i64.wrap ((2 : Int) * x3)) (IntKind.i64.wrap (x4 + (1 : Int))) H)) (K (.int .i64 (-1)) H)
def W_abacistref03_Fits (x1 : Int) (H : Hp) (K : Value → Hp → Prop) : Prop :=
  (∃ k, W_abacistref03_Fits.l3 K k x1 (1 : Int) (0 : Int) H)
def W_abacistref03_Fits.l3.L (K : Value → Hp → Prop) (k : Nat) : Mid := fun E D H =>
  eI E 0 .i64 fun x2 => eI E 3 .i64 fun x3 => eI E 4 .i64 fun x4 => DNilD D (W_abacistref03_Fits.l3 K k x2 x3 x4 H)
def W_abacistref03_Fits.Λ3 (_ : Value → Hp → Prop) (_R3 : Int → Int → Int → Hp → Prop) : Cuts := Cuts.none (fun _ => none)
def W_abacistref03_Fits.Λ (K : Value → Hp → Prop) : Cuts := ⟨fun i => none, fun i => match Nat.beq i 3 with | true => some (fun E D H => ∃ k, W_abacistref03_Fits.l3.L K k E D H) | false => none, (fun _ => none)⟩
theorem W_abacistref03_Fits.ok (x1 : Int) (H : Hp) (K : Value → Hp → Prop) (h : W_abacistref03_Fits x1 H K) : HCalls Tryz.prog 6 #[.int .i64 x1] H K :=
  hcalls Tryz.func6 rfl (Nat.le_of_ble_eq_true rfl) (hw_safe (Λ := (W_abacistref03_Fits.Λ K)) mixWabacistref03 _ _ _ _ _ (Eq.mp (by kernel_rfl) h) (obs_seq obs_region rfl (obs_seq obs_region rfl (obs_seq (obs_seq obs_region rfl (obs_block (obs_loop rfl (fun E D H h => by
      refine Safe.loop' (W_abacistref03_Fits.l3.L K) (fun E D H h => ?_) (fun k E D H h => ?_) E D H h
      · obtain ⟨w0, e0, g1⟩ := DG.out h; obtain ⟨x2, rfl, g2⟩ := DI.out g1; obtain ⟨w3, e3, g3⟩ := DG.out g2; obtain ⟨x3, rfl, g4⟩ := DI.out g3; obtain ⟨w4, e4, g5⟩ := DG.out g4; obtain ⟨x4, rfl, g6⟩ := DI.out g5; obtain ⟨rfl, h'⟩ := DNilD.out g6; exact h'
      · obtain ⟨x2, e0, g2⟩ := GI h
        obtain ⟨x3, e3, g4⟩ := GI g2; obtain ⟨x4, e4, g6⟩ := GI g4; obtain ⟨rfl, h'⟩ := DNilD.out g6
        exact (hw_safe (Λ := (W_abacistref03_Fits.Λ3 K (W_abacistref03_Fits.l3 K k))) mixWabacistref03 _ _ [(0, .int .i64 x2), (3, .int .i64 x3), (4, .int .i64 x4)] [] H (Eq.mp (by kernel_rfl) h') (obs_seq (obs_seq obs_region rfl (obs_cond obs_skip obs_exit)) rfl (obs_seq (obs_block (obs_seq (obs_seq obs_region rfl (obs_cond (obs_seq obs_region rfl obs_ret) obs_skip)) rfl obs_region)) rfl obs_region))).weaken (EnvLe.cons e0 (EnvLe.cons e3 (EnvLe.cons e4 (EnvLe.nil _)))) (Hp.le_refl _))))) rfl (obs_seq obs_region rfl obs_ret)))))
def W_abacistref03_Root.l3 (K : Value → Hp → Prop) : Nat → Int → Int → Int → Hp → Prop
  | 0, _, _, _, _ => False
  | k + 1, x2, x3, x4, H =>
    let R3 := W_abacistref03_Root.l3 K k
    BIf (decide (x4 < x2)) (((2 : Int) ≠ 0 ∧ IntKind.u64 = IntKind.u64 ∧ R3 x2 (IntKind.u64.wrap (Int.tdiv x3 (2 : Int))) (IntKind.i64.wrap (x4 + (1 : Int))) H)) (HCalls Tryz.prog 89 #[.int .u64 7, .int .u64 x3] H fun v1 H1 => DI .u64 v1 fun x5 => K (.int .u64 x5) H1)
def W_abacistref03_Root (x1 : Int) (H : Hp) (K : Value → Hp → Prop) : Prop :=
  (∃ k, W_abacistref03_Root.l3 K k x1 (18446744069414584320 : Int) (0 : Int) H)
def W_abacistref03_Root.l3.L (K : Value → Hp → Prop) (k : Nat) : Mid := fun E D H =>
  eI E 0 .i64 fun x2 => eI E 3 .u64 fun x3 => eI E 4 .i64 fun x4 => DNilD D (W_abacistref03_Root.l3 K k x2 x3 x4 H)
def W_abacistref03_Root.Λ3 (_ : Value → Hp → Prop) (_R3 : Int → Int → Int → Hp → Prop) : Cuts := Cuts.none (fun _ => none)
def W_abacistref03_Root.Λ (K : Value → Hp → Prop) : Cuts := ⟨fun i => none, fun i => match Nat.beq i 3 with | true => some (fun E D H => ∃ k, W_abacistref03_Root.l3.L K k E D H) | false => none, (fun _ => none)⟩
theorem W_abacistref03_Root.ok (x1 : Int) (H : Hp) (K : Value → Hp → Prop) (h : W_abacistref03_Root x1 H K) : HCalls Tryz.prog 145 #[.int .i64 x1] H K :=
  hcalls Tryz.func145 rfl (Nat.le_of_ble_eq_true rfl) (hw_safe (Λ := (W_abacistref03_Root.Λ K)) mixWabacistref03 _ _ _ _ _ (Eq.mp (by kernel_rfl) h) (obs_seq obs_region rfl (obs_seq obs_region rfl (obs_seq (obs_seq obs_region rfl (obs_block (obs_loop rfl (fun E D H h => by
      refine Safe.loop' (W_abacistref03_Root.l3.L K) (fun E D H h => ?_) (fun k E D H h => ?_) E D H h
      · obtain ⟨w0, e0, g1⟩ := DG.out h; obtain ⟨x2, rfl, g2⟩ := DI.out g1; obtain ⟨w3, e3, g3⟩ := DG.out g2; obtain ⟨x3, rfl, g4⟩ := DI.out g3; obtain ⟨w4, e4, g5⟩ := DG.out g4; obtain ⟨x4, rfl, g6⟩ := DI.out g5; obtain ⟨rfl, h'⟩ := DNilD.out g6; exact h'
      · obtain ⟨x2, e0, g2⟩ := GI h
        obtain ⟨x3, e3, g4⟩ := GI g2; obtain ⟨x4, e4, g6⟩ := GI g4; obtain ⟨rfl, h'⟩ := DNilD.out g6
        exact (hw_safe (Λ := (W_abacistref03_Root.Λ3 K (W_abacistref03_Root.l3 K k))) mixWabacistref03 _ _ [(0, .int .i64 x2), (3, .int .u64 x3), (4, .int .i64 x4)] [] H (Eq.mp (by kernel_rfl) h') (obs_seq (obs_seq obs_region rfl (obs_cond obs_skip obs_exit)) rfl (obs_seq (obs_block obs_region) rfl obs_region))).weaken (EnvLe.cons e0 (EnvLe.cons e3 (EnvLe.cons e4 (EnvLe.nil _)))) (Hp.le_refl _))))) rfl (obs_seq obs_region rfl obs_ret)))))
end Go.Proofs.YtnknippcbecmeaaGreatDoor.W
end
section
/- Powers of two, shapes: root.Fits, shape.Good, shape.Size, and the document's answers. -/
namespace Go.Proofs.YtnknippcbecmeaaGreatDoor.Shp
open Go Go.Hw W
def db (i : Nat) : Nat := 285870213051353865 * 2 ^ i % 18446744073709551616 / 288230376151711744
def tab64 : List Nat := (List.range 64).map fun j => ((List.range 64).find? fun i => db i == j).getD 0
def tabV : List Value := tab64.map fun (n : Nat) => Value.int .u8 (n : Int)
def T64 (H : Hp) : Prop := Cells H (some ⟨1, 0, none⟩) tabV
theorem T64.le {H H' : Hp} (h : T64 H) (k : H.le H') : T64 H' := Cells.le h k
theorem db_table : (List.range 64).all (fun k => shrI .u64 (IntKind.u64.wrap ((bAnd .u64 ((2 ^ k : Nat) : Int) (IntKind.u64.wrap (0 - ((2 ^ k : Nat) : Int)))) * (285870213051353865 : Int))) (58 : Int) == (db k : Int) && (decide (db k < 64) && (tab64[db k]? == some k))) = true := by decide +kernel
theorem TZ_ok (k : Nat) (hk : k < 64) (H : Hp) (hT : T64 H) : HCalls Tryz.prog 169 #[.int .u64 ((2 ^ k : Nat) : Int)] H (RetE (.int .i64 (k : Int)) H) := by
  apply W_math_bits_TrailingZeros64.ok
  unfold W_math_bits_TrailingZeros64
  have hp : (2 : Nat) ^ k ≠ 0 := Nat.ne_of_gt (Nat.pow_pos (by omega))
  refine BIf_beqn (by omega) ⟨by decide, ?_⟩
  have ht := List.all_eq_true.1 db_table k (by simp; omega)
  simp only [Bool.and_eq_true, beq_iff_eq, decide_eq_true_eq] at ht
  obtain ⟨h1, h2, h3⟩ := ht
  rw [h1]
  have hv : tabV[db k]? = some (.int .u8 (k : Int)) := by
    unfold tabV
    rw [List.getElem?_map, h3]; rfl
  refine Cells.read hT hv rfl (by decide) ?_
  simp only [HV]
  rw [i64n (by omega)]
  exact RetE.mk _ _
def lg (n : Int) : Option Nat := (List.range 33).find? fun k => n == ((2 ^ k : Nat) : Int)
theorem lg_some {n : Int} {k : Nat} (h : lg n = some k) : k ≤ 32 ∧ n = ((2 ^ k : Nat) : Int) := by
  have h1 := List.mem_of_find?_eq_some h
  have h2 := List.find?_some h
  simp only [beq_iff_eq] at h2
  exact ⟨by have := List.mem_range.1 h1; omega, h2⟩
theorem lg_table : (List.range 33).all (fun k => lg ((2 ^ k : Nat) : Int) == some k) = true := by decide +kernel
theorem lg_pow {k : Nat} (hk : k ≤ 32) : lg ((2 ^ k : Nat) : Int) = some k := by
  have := List.all_eq_true.1 lg_table k (List.mem_range.2 (by omega))
  simpa using this
theorem pow_pos (k : Nat) : 1 ≤ 2 ^ k := Nat.pow_pos (by omega)
theorem pow_le {k m : Nat} (h : k ≤ m) : 2 ^ k ≤ 2 ^ m := Nat.pow_le_pow_right (by omega) h
theorem lg_lo {n : Int} (h : n < 1) : lg n = none := by
  cases e : lg n with
  | none => rfl
  | some k => have := (lg_some e).2; have := pow_pos k; omega
theorem lg_hi {n : Int} (h : n > 4294967296) : lg n = none := by
  cases e : lg n with
  | none => rfl
  | some k =>
    obtain ⟨h1, h2⟩ := lg_some e
    have := pow_le h1
    rw [show 2 ^ 32 = 4294967296 by decide] at this
    omega
theorem lg_and {m : Nat} (h1 : 1 ≤ m) (h2 : m ≤ 4294967296) : m &&& (m - 1) = 0 ↔ lg (m : Int) ≠ none := by
  rw [Nat.and_sub_one_eq_zero_iff_isPowerOfTwo (by omega)]
  constructor
  · rintro ⟨k, rfl⟩
    have hk : k ≤ 32 := by
      apply Nat.le_of_not_lt
      intro h
      have := pow_le (show 33 ≤ k from h)
      rw [show 2 ^ 33 = 8589934592 by decide] at this
      omega
    rw [lg_pow hk]; simp
  · intro h
    cases e : lg (m : Int) with
    | none => exact absurd e h
    | some k => exact ⟨k, Int.ofNat_inj.1 (lg_some e).2⟩
def fitsV (n : Int) : Value := match lg n with | some k => .tuple #[.int .i64 (k : Int), .bool true] | none => .tuple #[.int .i64 0, .bool false]
theorem Fits_ok (n : Int) (H : Hp) (hT : T64 H) : HCalls Tryz.prog 165 #[.int .i64 n] H (RetE (fitsV n) H) := by
  apply W_root_Fits.ok
  unfold W_root_Fits
  by_cases h1 : n < 1
  · refine BIf_dpos h1 ?_
    unfold fitsV
    rw [lg_lo h1]
    exact RetE.mk _ _
  refine BIf_dneg h1 ?_
  by_cases h2 : n > 4294967296
  · refine BIf_dpos h2 ?_
    unfold fitsV
    rw [lg_hi h2]
    exact RetE.mk _ _
  refine BIf_dneg h2 ?_
  obtain ⟨m, rfl⟩ := Int.eq_ofNat_of_zero_le (show 0 ≤ n by omega)
  rw [show ((m : Int) - 1) = ((m - 1 : Nat) : Int) by omega, i64w (by omega) (by omega), Lay.bAnd_nat (by omega) (by omega)]
  have hl := lg_and (m := m) (by omega) (by omega)
  unfold fitsV
  cases e : lg (m : Int) with
  | none =>
    refine BIf_bnep (fun h => ?_) (RetE.mk _ _)
    exact (hl.1 (Int.ofNat_inj.1 h)) e
  | some k =>
    refine BIf_bnen (Int.ofNat_inj.2 (hl.2 (by rw [e]; simp))) ?_
    obtain ⟨h3, h4⟩ := lg_some e
    rw [u64n (by omega), h4]
    refine HCalls.use (TZ_ok k (by omega) H hT) ?_
    try simp only [HV]
    exact RetE.mk _ _
def rfitsN (n : Int) : Int := match lg n with | some k => (k : Int) | none => -1
theorem rFits_loop (n : Int) (H : Hp) : ∀ (t k : Nat), k + t = 33 → (∀ j, j < k → n ≠ ((2 ^ j : Nat) : Int)) → W_abacistref03_Fits.l3 (RetE (.int .i64 (rfitsN n)) H) (t + 1) n ((2 ^ k : Nat) : Int) (k : Int) H
  | 0, k, h, hk => by
    unfold W_abacistref03_Fits.l3
    refine BIf_dneg (by omega) ?_
    unfold rfitsN
    cases e : lg n with
    | none => exact RetE.mk _ _
    | some j => exact absurd (lg_some e).2 (hk j (by have := (lg_some e).1; omega))
  | t + 1, k, h, hk => by
    unfold W_abacistref03_Fits.l3
    refine BIf_dpos (by omega) ?_
    by_cases e : n = ((2 ^ k : Nat) : Int)
    · refine BIf_beqp e ?_
      unfold rfitsN
      rw [e, lg_pow (by omega)]
      exact RetE.mk _ _
    · refine BIf_beqn e ?_
      have hp := pow_le (show k ≤ 32 by omega)
      rw [show 2 ^ 32 = 4294967296 by decide] at hp
      rw [show (2 : Int) * ((2 ^ k : Nat) : Int) = ((2 ^ (k + 1) : Nat) : Int) by rw [Nat.pow_succ]; omega, i64n (by rw [Nat.pow_succ]; omega), i64w (x := (k : Int) + 1) (by omega) (by omega)]
      exact rFits_loop n H t (k + 1) (by omega) fun j hj => by
        by_cases ej : j = k
        · rw [ej]; exact e
        · exact hk j (by omega)
theorem rFits_ok (n : Int) (H : Hp) : HCalls Tryz.prog 6 #[.int .i64 n] H (RetE (.int .i64 (rfitsN n)) H) := by
  apply W_abacistref03_Fits.ok
  unfold W_abacistref03_Fits
  exact ⟨34, rFits_loop n H 33 0 rfl fun j hj => absurd hj (by omega)⟩
def goodS (r c : Int) : Bool := match lg r, lg c with | some a, some b => decide (a + b ≤ 32) | _, _ => false
theorem goodS_some {r c : Int} (h : goodS r c = true) : ∃ a b : Nat, r = ((2 ^ a : Nat) : Int) ∧ c = ((2 ^ b : Nat) : Int) ∧ a + b ≤ 32 ∧ lg r = some a ∧ lg c = some b := by
  unfold goodS at h
  split at h
  · rename_i a b ha hb
    exact ⟨a, b, (lg_some ha).2, (lg_some hb).2, by simpa using h, ha, hb⟩
  · cases h
theorem goodS_pow {a b : Nat} (h : a + b ≤ 32) : goodS ((2 ^ a : Nat) : Int) ((2 ^ b : Nat) : Int) = true := by
  unfold goodS
  rw [lg_pow (by omega), lg_pow (by omega)]
  simpa using h
theorem Good_ok (r c : Int) (H : Hp) (hT : T64 H) : HCalls Tryz.prog 132 #[.agg #[.int .i64 r, .int .i64 c]] H (RetE (.bool (goodS r c)) H) := by
  apply HCalls.ret
  apply W_shape_Good.ok
  unfold W_shape_Good
  refine (Sep.start H).nw fun b1 H1 hs => ?_
  first | refine hs.ldf 1 rfl rfl ?_ | refine hs.ldg 1 rfl rfl ?_
  try simp only [HV]
  refine HCalls.use (Fits_ok r H1 (hT.le (hs.ow 0 rfl))) ?_
  unfold goodS fitsV
  cases ea : lg r with
  | none =>
    simp only [HV]
    first | refine hs.ldf 1 rfl rfl ?_ | refine hs.ldg 1 rfl rfl ?_
    try simp only [HV]
    refine HCalls.use (Fits_ok c H1 (hT.le (hs.ow 0 rfl))) ?_
    unfold fitsV
    cases eb : lg c <;> simp only [HV] <;> exact hs.fin 0 rfl _
  | some a =>
    simp only [HV]
    first | refine hs.ldf 1 rfl rfl ?_ | refine hs.ldg 1 rfl rfl ?_
    try simp only [HV]
    refine HCalls.use (Fits_ok c H1 (hT.le (hs.ow 0 rfl))) ?_
    unfold fitsV
    cases eb : lg c with
    | none => simp only [HV]; exact hs.fin 0 rfl _
    | some b =>
      simp only [HV]
      have h1 := (lg_some ea).1
      have h2 := (lg_some eb).1
      rw [i64w (by omega) (by omega)]
      have : decide ((a : Int) + (b : Int) ≤ 32) = decide (a + b ≤ 32) := by
        by_cases h : a + b ≤ 32
        · rw [decide_eq_true h, decide_eq_true (by omega)]
        · rw [decide_eq_false h, decide_eq_false (by omega)]
      rw [this]
      exact hs.fin 0 rfl _
theorem size_le {a b : Nat} (h : a + b ≤ 32) : 2 ^ a * 2 ^ b ≤ 4294967296 := by
  rw [← Nat.pow_add, show 4294967296 = 2 ^ 32 by decide]
  exact pow_le h
def sizeS (r c : Int) : Int := if goodS r c = true then r * c else 0
theorem Size_ok (r c : Int) (H : Hp) (hT : T64 H) : HCalls Tryz.prog 134 #[.agg #[.int .i64 r, .int .i64 c]] H (RetE (.int .i64 (sizeS r c)) H) := by
  apply HCalls.ret
  apply W_shape_Size.ok
  unfold W_shape_Size
  refine (Sep.start H).nw fun b1 H1 hs => ?_
  refine hs.ldw 1 rfl rfl ?_
  refine HCalls.use (Good_ok r c H1 (hT.le (hs.ow 0 rfl))) ?_
  simp only [HV]
  unfold sizeS
  cases e : goodS r c with
  | false => exact BIf_pos rfl (hs.fin 0 rfl _)
  | true =>
    refine BIf_neg rfl ?_
    first | refine hs.ldf 1 rfl rfl ?_ | refine hs.ldg 1 rfl rfl ?_
    try simp only [HV]
    first | refine hs.ldf 1 rfl rfl ?_ | refine hs.ldg 1 rfl rfl ?_
    try simp only [HV]
    obtain ⟨a, b, rfl, rfl, h, _, _⟩ := goodS_some e
    have := size_le h
    rw [← Int.natCast_mul, i64n (by omega), if_pos trivial]
    exact hs.fin 0 rfl _
end Go.Proofs.YtnknippcbecmeaaGreatDoor.Shp
end
section
/- Formulas of functions, printed by wip/tools/hwp.py. -/
namespace Go.Proofs.YtnknippcbecmeaaGreatDoor.W
open Go Go.Hw
theorem mixWgold : Tryz.prog.follows .mixedOrders = true := by kernel_rfl
def W_gold_Inv (x1 : Int) (H : Hp) (K : Value → Hp → Prop) : Prop :=
  HCalls Tryz.prog 202 #[.int .u64 x1] H fun v1 H1 => DI .u64 v1 fun x2 => BIf (x2 == (0 : Int)) (K (.tuple #[.int .u64 0, .int .i64 13]) H1) (HCalls Tryz.prog 203 #[.int .u64 x1, .int .u64 18446744069414584319] H1 fun v2 H2 => DI .u64 v2 fun x3 => K (.tuple #[.int .u64 x3, .int .i64 0]) H2)
theorem W_gold_Inv.ok (x1 : Int) (H : Hp) (K : Value → Hp → Prop) (h : W_gold_Inv x1 H K) : HCalls Tryz.prog 171 #[.int .u64 x1] H K :=
  hcalls Tryz.func171 rfl (Nat.le_of_ble_eq_true rfl) (hw_safe (Λ := Cuts.none (fun _ => none)) mixWgold _ _ _ _ _ (Eq.mp (by kernel_rfl) h) (obs_none _ _ _ _ _))
def W_gold_Of (x1 : Int) (H : Hp) (K : Value → Hp → Prop) : Prop :=
  BIf (decide (x1 ≥ (18446744069414584321 : Int))) (K (.int .u64 (IntKind.u64.wrap (x1 - (18446744069414584321 : Int)))) H) (K (.int .u64 x1) H)
theorem W_gold_Of.ok (x1 : Int) (H : Hp) (K : Value → Hp → Prop) (h : W_gold_Of x1 H K) : HCalls Tryz.prog 202 #[.int .u64 x1] H K :=
  hcalls Tryz.func202 rfl (Nat.le_of_ble_eq_true rfl) (hw_safe (Λ := Cuts.none (fun _ => none)) mixWgold _ _ _ _ _ (Eq.mp (by kernel_rfl) h) (obs_none _ _ _ _ _))
def W_gold_Pow.l2 (K : Value → Hp → Prop) : Nat → Int → Int → Int → Hp → Prop
  | 0, _, _, _, _ => False
  | k + 1, x4, x5, x6, H =>
    let R2 := W_gold_Pow.l2 K k
    BIf (decide (x4 > (0 : Int))) (BIf ((bAnd .u64 x4 (1 : Int)) == (1 : Int)) (HCalls Tryz.prog 215 #[.int .u64 x5, .int .u64 x6] H fun v2 H2 => DI .u64 v2 fun x7 => HCalls Tryz.prog 215 #[.int .u64 x6, .int .u64 x6] H2 fun v3 H3 => DI .u64 v3 fun x8 => (0 ≤ (1 : Int) ∧ R2 (shrI .u64 x4 (1 : Int)) x7 x8 H3)) (HCalls Tryz.prog 215 #[.int .u64 x6, .int .u64 x6] H fun v4 H4 => DI .u64 v4 fun x9 => (0 ≤ (1 : Int) ∧ R2 (shrI .u64 x4 (1 : Int)) x5 x9 H4))) (K (.int .u64 x5) H)
def W_gold_Pow (x1 : Int) (x2 : Int) (H : Hp) (K : Value → Hp → Prop) : Prop :=
  HCalls Tryz.prog 202 #[.int .u64 x1] H fun v1 H1 => DI .u64 v1 fun x3 => (∃ k, W_gold_Pow.l2 K k x2 (1 : Int) x3 H1)
def W_gold_Pow.l2.L (K : Value → Hp → Prop) (k : Nat) : Mid := fun E D H =>
  eI E 1 .u64 fun x4 => eI E 5 .u64 fun x5 => eI E 6 .u64 fun x6 => DNilD D (W_gold_Pow.l2 K k x4 x5 x6 H)
def W_gold_Pow.Λ2 (_ : Value → Hp → Prop) (_R2 : Int → Int → Int → Hp → Prop) : Cuts := Cuts.none (fun _ => none)
def W_gold_Pow.Λ (K : Value → Hp → Prop) : Cuts := ⟨fun i => none, fun i => match Nat.beq i 2 with | true => some (fun E D H => ∃ k, W_gold_Pow.l2.L K k E D H) | false => none, (fun _ => none)⟩
theorem W_gold_Pow.ok (x1 : Int) (x2 : Int) (H : Hp) (K : Value → Hp → Prop) (h : W_gold_Pow x1 x2 H K) : HCalls Tryz.prog 203 #[.int .u64 x1, .int .u64 x2] H K :=
  hcalls Tryz.func203 rfl (Nat.le_of_ble_eq_true rfl) (hw_safe (Λ := (W_gold_Pow.Λ K)) mixWgold _ _ _ _ _ (Eq.mp (by kernel_rfl) h) (obs_seq obs_region rfl (obs_seq obs_region rfl (obs_seq (obs_block (obs_loop rfl (fun E D H h => by
      refine Safe.loop' (W_gold_Pow.l2.L K) (fun E D H h => ?_) (fun k E D H h => ?_) E D H h
      · obtain ⟨w1, e1, g1⟩ := DG.out h; obtain ⟨x4, rfl, g2⟩ := DI.out g1; obtain ⟨w5, e5, g3⟩ := DG.out g2; obtain ⟨x5, rfl, g4⟩ := DI.out g3; obtain ⟨w6, e6, g5⟩ := DG.out g4; obtain ⟨x6, rfl, g6⟩ := DI.out g5; obtain ⟨rfl, h'⟩ := DNilD.out g6; exact h'
      · obtain ⟨x4, e1, g2⟩ := GI h
        obtain ⟨x5, e5, g4⟩ := GI g2; obtain ⟨x6, e6, g6⟩ := GI g4; obtain ⟨rfl, h'⟩ := DNilD.out g6
        exact (hw_safe (Λ := (W_gold_Pow.Λ2 K (W_gold_Pow.l2 K k))) mixWgold _ _ [(1, .int .u64 x4), (5, .int .u64 x5), (6, .int .u64 x6)] [] H (Eq.mp (by kernel_rfl) h') (obs_seq (obs_seq obs_region rfl (obs_cond obs_skip obs_exit)) rfl (obs_seq (obs_block (obs_seq (obs_seq obs_region rfl (obs_cond obs_region obs_skip)) rfl obs_region)) rfl obs_region))).weaken (EnvLe.cons e1 (EnvLe.cons e5 (EnvLe.cons e6 (EnvLe.nil _)))) (Hp.le_refl _)))) rfl (obs_seq obs_region rfl obs_ret)))))
def W_gold_Mul (x1 : Int) (x2 : Int) (H : Hp) (K : Value → Hp → Prop) : Prop :=
  HCalls Tryz.prog 227 #[.int .u64 x1, .int .u64 x2] H fun v1 H1 => DA v1 fun y1 => HCalls Tryz.prog 226 #[.agg y1] H1 fun v2 H2 => DI .u64 v2 fun x3 => K (.int .u64 x3) H2
theorem W_gold_Mul.ok (x1 : Int) (x2 : Int) (H : Hp) (K : Value → Hp → Prop) (h : W_gold_Mul x1 x2 H K) : HCalls Tryz.prog 215 #[.int .u64 x1, .int .u64 x2] H K :=
  hcalls Tryz.func215 rfl (Nat.le_of_ble_eq_true rfl) (hw_safe (Λ := Cuts.none (fun _ => none)) mixWgold _ _ _ _ _ (Eq.mp (by kernel_rfl) h) (obs_none _ _ _ _ _))
def W_gold_Reduce.j5 (K : Value → Hp → Prop) (x7 : Int) (x8 : Int) (H : Hp) : Prop :=
  BIf (decide ((IntKind.u64.wrap (x8 + (IntKind.u64.wrap (x7 * (4294967295 : Int))))) < (IntKind.u64.wrap (x7 * (4294967295 : Int))))) (HCalls Tryz.prog 202 #[.int .u64 (IntKind.u64.wrap ((IntKind.u64.wrap (x8 + (IntKind.u64.wrap (x7 * (4294967295 : Int))))) + (4294967295 : Int)))] H fun v5 H2 => DI .u64 v5 fun x9 => K (.int .u64 x9) H2) (HCalls Tryz.prog 202 #[.int .u64 (IntKind.u64.wrap (x8 + (IntKind.u64.wrap (x7 * (4294967295 : Int)))))] H fun v6 H3 => DI .u64 v6 fun x10 => K (.int .u64 x10) H3)
def W_gold_Reduce (x1 : Int) (x2 : Int) (H : Hp) (K : Value → Hp → Prop) : Prop :=
  Nw H (.obj (.cells #[.int .u64 x1, .int .u64 x2] 315)) fun b1 H1 => Ld H1 ((⟨b1, 0, none⟩ : Addr).add 0) fun v1 => DI .u64 v1 fun x3 => (0 ≤ (32 : Int) ∧ Ld H1 ((⟨b1, 0, none⟩ : Addr).add 0) fun v2 => DI .u64 v2 fun x4 => Ld H1 ((⟨b1, 0, none⟩ : Addr).add 1) fun v3 => DI .u64 v3 fun x5 => Ld H1 ((⟨b1, 0, none⟩ : Addr).add 1) fun v4 => DI .u64 v4 fun x6 => BIf (decide (x6 < (shrI .u64 x3 (32 : Int)))) (W_gold_Reduce.j5 K (bAnd .u64 x4 (4294967295 : Int)) (IntKind.u64.wrap ((IntKind.u64.wrap (x5 - (shrI .u64 x3 (32 : Int)))) - (4294967295 : Int))) H1) (W_gold_Reduce.j5 K (bAnd .u64 x4 (4294967295 : Int)) (IntKind.u64.wrap (x5 - (shrI .u64 x3 (32 : Int)))) H1))
def W_gold_Reduce.Λ (K : Value → Hp → Prop) : Cuts := ⟨fun i => match Nat.beq i 5 with | true => some (fun E D H => eI E 4 .u64 fun x7 => eI E 5 .u64 fun x8 => DNilD D (W_gold_Reduce.j5 K x7 x8 H)) | false => none, fun i => none, (fun _ => none)⟩
theorem W_gold_Reduce.ok (x1 : Int) (x2 : Int) (H : Hp) (K : Value → Hp → Prop) (h : W_gold_Reduce x1 x2 H K) : HCalls Tryz.prog 226 #[.agg #[.int .u64 x1, .int .u64 x2]] H K :=
  hcalls Tryz.func226 rfl (Nat.le_of_ble_eq_true rfl) (hw_safe (Λ := (W_gold_Reduce.Λ K)) mixWgold _ _ _ _ _ (Eq.mp (by kernel_rfl) h) (obs_seq obs_region rfl (obs_seq obs_region rfl (obs_seq obs_region rfl (obs_seqc (obs_seq obs_region rfl (obs_cond obs_region obs_skip)) rfl (fun E D H h => by
      obtain ⟨x7, e4, g2⟩ := GI h; obtain ⟨x8, e5, g4⟩ := GI g2; obtain ⟨rfl, h'⟩ := DNilD.out g4
      exact (hw_safe (Λ := (W_gold_Reduce.Λ K)) mixWgold _ _ [(4, .int .u64 x7), (5, .int .u64 x8)] [] H (Eq.mp (by kernel_rfl) h') (obs_seq obs_region rfl (obs_seq obs_region rfl (obs_seq (obs_seq obs_region rfl (obs_cond obs_region obs_skip)) rfl (obs_seq obs_region rfl obs_ret))))).weaken (EnvLe.cons e4 (EnvLe.cons e5 (EnvLe.nil _))) (Hp.le_refl _)))))))
def W_gold_Add (x1 : Int) (x2 : Int) (H : Hp) (K : Value → Hp → Prop) : Prop :=
  HCalls Tryz.prog 202 #[.int .u64 x1] H fun v1 H1 => DI .u64 v1 fun x3 => HCalls Tryz.prog 202 #[.int .u64 x2] H1 fun v2 H2 => DI .u64 v2 fun x4 => HCalls Tryz.prog 243 #[.agg #[.int .u64 0, .int .u64 x3], .agg #[.int .u64 0, .int .u64 x4]] H2 fun v3 H3 => DTup v3 fun l1 => DCons l1 fun v4 l2 => DA v4 fun y1 => DCons l2 fun v5 l3 => DI .u64 v5 fun x5 => DNil l3 (Nw H3 (.obj (.cells #[.int .u64 0, .int .u64 0] 315)) fun b1 H4 => StA H4 (⟨b1, 0, none⟩ : Addr) y1 2 fun H5 => LdA H5 (⟨b1, 0, none⟩ : Addr) 2 fun l4 => HCalls Tryz.prog 226 #[.agg l4.toArray] H5 fun v6 H6 => DI .u64 v6 fun x6 => K (.int .u64 x6) H6)
theorem W_gold_Add.ok (x1 : Int) (x2 : Int) (H : Hp) (K : Value → Hp → Prop) (h : W_gold_Add x1 x2 H K) : HCalls Tryz.prog 239 #[.int .u64 x1, .int .u64 x2] H K :=
  hcalls Tryz.func239 rfl (Nat.le_of_ble_eq_true rfl) (hw_safe (Λ := Cuts.none (fun _ => none)) mixWgold _ _ _ _ _ (Eq.mp (by kernel_rfl) h) (obs_none _ _ _ _ _))
def W_gold_Sub (x1 : Int) (x2 : Int) (H : Hp) (K : Value → Hp → Prop) : Prop :=
  HCalls Tryz.prog 244 #[.int .u64 x2] H fun v1 H1 => DI .u64 v1 fun x3 => HCalls Tryz.prog 239 #[.int .u64 x1, .int .u64 x3] H1 fun v2 H2 => DI .u64 v2 fun x4 => K (.int .u64 x4) H2
theorem W_gold_Sub.ok (x1 : Int) (x2 : Int) (H : Hp) (K : Value → Hp → Prop) (h : W_gold_Sub x1 x2 H K) : HCalls Tryz.prog 240 #[.int .u64 x1, .int .u64 x2] H K :=
  hcalls Tryz.func240 rfl (Nat.le_of_ble_eq_true rfl) (hw_safe (Λ := Cuts.none (fun _ => none)) mixWgold _ _ _ _ _ (Eq.mp (by kernel_rfl) h) (obs_none _ _ _ _ _))
def W_gold_Neg (x1 : Int) (H : Hp) (K : Value → Hp → Prop) : Prop :=
  HCalls Tryz.prog 202 #[.int .u64 x1] H fun v1 H1 => DI .u64 v1 fun x2 => BIf (x2 == (0 : Int)) (K (.int .u64 0) H1) (K (.int .u64 (IntKind.u64.wrap ((18446744069414584321 : Int) - x2))) H1)
theorem W_gold_Neg.ok (x1 : Int) (H : Hp) (K : Value → Hp → Prop) (h : W_gold_Neg x1 H K) : HCalls Tryz.prog 244 #[.int .u64 x1] H K :=
  hcalls Tryz.func244 rfl (Nat.le_of_ble_eq_true rfl) (hw_safe (Λ := Cuts.none (fun _ => none)) mixWgold _ _ _ _ _ (Eq.mp (by kernel_rfl) h) (obs_none _ _ _ _ _))
end Go.Proofs.YtnknippcbecmeaaGreatDoor.W
end
section
/- Formulas of functions, printed by wip/tools/hwp.py. -/
namespace Go.Proofs.YtnknippcbecmeaaGreatDoor.W
open Go Go.Hw
theorem mixWwide : Tryz.prog.follows .mixedOrders = true := by kernel_rfl
def W_wide_Mul (x1 : Int) (x2 : Int) (H : Hp) (K : Value → Hp → Prop) : Prop :=
  Nw H (.obj (.cells #[.int .u64 0, .int .u64 0] 315)) fun b1 H1 => HCalls Tryz.prog 237 #[.int .u64 x1, .int .u64 x2] H1 fun v1 H2 => DTup v1 fun l1 => DCons l1 fun v2 l2 => DI .u64 v2 fun x3 => DCons l2 fun v3 l3 => DI .u64 v3 fun x4 => DNil l3 (StA H2 (⟨b1, 0, none⟩ : Addr) #[.int .u64 x3, .int .u64 x4] 2 fun H3 => LdA H3 (⟨b1, 0, none⟩ : Addr) 2 fun l4 => K (.agg l4.toArray) H3)
theorem W_wide_Mul.ok (x1 : Int) (x2 : Int) (H : Hp) (K : Value → Hp → Prop) (h : W_wide_Mul x1 x2 H K) : HCalls Tryz.prog 227 #[.int .u64 x1, .int .u64 x2] H K :=
  hcalls Tryz.func227 rfl (Nat.le_of_ble_eq_true rfl) (hw_safe (Λ := Cuts.none (fun _ => none)) mixWwide _ _ _ _ _ (Eq.mp (by kernel_rfl) h) (obs_none _ _ _ _ _))
def W_wide_Add (x1 : Int) (x2 : Int) (x3 : Int) (x4 : Int) (H : Hp) (K : Value → Hp → Prop) : Prop :=
  Nw H (.obj (.cells #[.int .u64 x1, .int .u64 x2] 315)) fun b1 H1 => Nw H1 (.obj (.cells #[.int .u64 x3, .int .u64 x4] 315)) fun b2 H2 => Nw H2 (.obj (.cells #[.int .u64 0, .int .u64 0] 315)) fun b3 H3 => Ld H3 ((⟨b1, 0, none⟩ : Addr).add 1) fun v1 => DI .u64 v1 fun x5 => Ld H3 ((⟨b2, 0, none⟩ : Addr).add 1) fun v2 => DI .u64 v2 fun x6 => ExC Tryz.prog 246 #[.int .u64 x5, .int .u64 x6, .int .u64 0] H3 fun v3 H4 => DTup v3 fun l1 => DCons l1 fun v4 l2 => DI .u64 v4 fun x7 => DCons l2 fun v5 l3 => DI .u64 v5 fun x8 => DNil l3 (St H4 (((⟨b3, 0, none⟩ : Addr).add 1).add 0) (.int .u64 x7) fun H5 => Ld H5 ((⟨b1, 0, none⟩ : Addr).add 0) fun v6 => DI .u64 v6 fun x9 => Ld H5 ((⟨b2, 0, none⟩ : Addr).add 0) fun v7 => DI .u64 v7 fun x10 => ExC Tryz.prog 246 #[.int .u64 x9, .int .u64 x10, .int .u64 x8] H5 fun v8 H6 => DTup v8 fun l4 => DCons l4 fun v9 l5 => DI .u64 v9 fun x11 => DCons l5 fun v10 l6 => DI .u64 v10 fun x12 => DNil l6 (St H6 (((⟨b3, 0, none⟩ : Addr).add 0).add 0) (.int .u64 x11) fun H7 => LdA H7 (⟨b3, 0, none⟩ : Addr) 2 fun l7 => StA H7 (⟨b3, 0, none⟩ : Addr) l7.toArray 2 fun H8 => LdA H8 (⟨b3, 0, none⟩ : Addr) 2 fun l8 => K (.tuple #[.agg l8.toArray, .int .u64 x12]) H8))
theorem W_wide_Add.ok (x1 : Int) (x2 : Int) (x3 : Int) (x4 : Int) (H : Hp) (K : Value → Hp → Prop) (h : W_wide_Add x1 x2 x3 x4 H K) : HCalls Tryz.prog 243 #[.agg #[.int .u64 x1, .int .u64 x2], .agg #[.int .u64 x3, .int .u64 x4]] H K :=
  hcalls Tryz.func243 rfl (Nat.le_of_ble_eq_true rfl) (hw_safe (Λ := Cuts.none (fun _ => none)) mixWwide _ _ _ _ _ (Eq.mp (by kernel_rfl) h) (obs_none _ _ _ _ _))
end Go.Proofs.YtnknippcbecmeaaGreatDoor.W
end
section
/- Formulas of functions, printed by wip/tools/hwp.py. -/
namespace Go.Proofs.YtnknippcbecmeaaGreatDoor.W
open Go Go.Hw
theorem mixWabacistref02 : Tryz.prog.follows .mixedOrders = true := by kernel_rfl
def W_abacistref02_Pow.l3 (K : Value → Hp → Prop) : Nat → Int → Int → Int → Hp → Prop
  | 0, _, _, _, _ => False
  | k + 1, x4, x5, x6, H =>
    let R3 := W_abacistref02_Pow.l3 K k
    BIf (decide (x5 > (0 : Int))) (((2 : Int) ≠ 0 ∧ IntKind.u64 = IntKind.u64 ∧ BIf ((Int.tmod x5 (2 : Int)) == (1 : Int)) (HCalls Tryz.prog 107 #[.int .u64 x6, .int .u64 x4] H fun v2 H2 => DI .u64 v2 fun x7 => HCalls Tryz.prog 107 #[.int .u64 x4, .int .u64 x4] H2 fun v3 H3 => DI .u64 v3 fun x8 => ((2 : Int) ≠ 0 ∧ IntKind.u64 = IntKind.u64 ∧ R3 x8 (IntKind.u64.wrap (Int.tdiv x5 (2 : Int))) x7 H3)) (HCalls Tryz.prog 107 #[.int .u64 x4, .int .u64 x4] H fun v4 H4 => DI .u64 v4 fun x9 => ((2 : Int) ≠ 0 ∧ IntKind.u64 = IntKind.u64 ∧ R3 x9 (IntKind.u64.wrap (Int.tdiv x5 (2 : Int))) x6 H4)))) (K (.int .u64 x6) H)
def W_abacistref02_Pow (x1 : Int) (x2 : Int) (H : Hp) (K : Value → Hp → Prop) : Prop :=
  HCalls Tryz.prog 131 #[.int .u64 x1] H fun v1 H1 => DI .u64 v1 fun x3 => (∃ k, W_abacistref02_Pow.l3 K k x3 x2 (1 : Int) H1)
def W_abacistref02_Pow.l3.L (K : Value → Hp → Prop) (k : Nat) : Mid := fun E D H =>
  eI E 0 .u64 fun x4 => eI E 1 .u64 fun x5 => eI E 5 .u64 fun x6 => DNilD D (W_abacistref02_Pow.l3 K k x4 x5 x6 H)
def W_abacistref02_Pow.Λ3 (_ : Value → Hp → Prop) (_R3 : Int → Int → Int → Hp → Prop) : Cuts := Cuts.none (fun _ => none)
def W_abacistref02_Pow.Λ (K : Value → Hp → Prop) : Cuts := ⟨fun i => none, fun i => match Nat.beq i 3 with | true => some (fun E D H => ∃ k, W_abacistref02_Pow.l3.L K k E D H) | false => none, (fun _ => none)⟩
theorem W_abacistref02_Pow.ok (x1 : Int) (x2 : Int) (H : Hp) (K : Value → Hp → Prop) (h : W_abacistref02_Pow x1 x2 H K) : HCalls Tryz.prog 89 #[.int .u64 x1, .int .u64 x2] H K :=
  hcalls Tryz.func89 rfl (Nat.le_of_ble_eq_true rfl) (hw_safe (Λ := (W_abacistref02_Pow.Λ K)) mixWabacistref02 _ _ _ _ _ (Eq.mp (by kernel_rfl) h) (obs_seq obs_region rfl (obs_seq obs_region rfl (obs_seq obs_region rfl (obs_seq (obs_block (obs_loop rfl (fun E D H h => by
      refine Safe.loop' (W_abacistref02_Pow.l3.L K) (fun E D H h => ?_) (fun k E D H h => ?_) E D H h
      · obtain ⟨w0, e0, g1⟩ := DG.out h; obtain ⟨x4, rfl, g2⟩ := DI.out g1; obtain ⟨w1, e1, g3⟩ := DG.out g2; obtain ⟨x5, rfl, g4⟩ := DI.out g3; obtain ⟨w5, e5, g5⟩ := DG.out g4; obtain ⟨x6, rfl, g6⟩ := DI.out g5; obtain ⟨rfl, h'⟩ := DNilD.out g6; exact h'
      · obtain ⟨x4, e0, g2⟩ := GI h
        obtain ⟨x5, e1, g4⟩ := GI g2; obtain ⟨x6, e5, g6⟩ := GI g4; obtain ⟨rfl, h'⟩ := DNilD.out g6
        exact (hw_safe (Λ := (W_abacistref02_Pow.Λ3 K (W_abacistref02_Pow.l3 K k))) mixWabacistref02 _ _ [(0, .int .u64 x4), (1, .int .u64 x5), (5, .int .u64 x6)] [] H (Eq.mp (by kernel_rfl) h') (obs_seq (obs_seq obs_region rfl (obs_cond obs_skip obs_exit)) rfl (obs_block (obs_seq (obs_seq obs_region rfl (obs_cond obs_region obs_skip)) rfl (obs_seq obs_region rfl obs_region))))).weaken (EnvLe.cons e0 (EnvLe.cons e1 (EnvLe.cons e5 (EnvLe.nil _)))) (Hp.le_refl _)))) rfl (obs_seq obs_region rfl obs_ret))))))
def W_abacistref02_Add (x1 : Int) (x2 : Int) (H : Hp) (K : Value → Hp → Prop) : Prop :=
  HCalls Tryz.prog 131 #[.int .u64 x1] H fun v1 H1 => DI .u64 v1 fun x3 => HCalls Tryz.prog 131 #[.int .u64 x2] H1 fun v2 H2 => DI .u64 v2 fun x4 => BIf (decide (x3 ≥ (IntKind.u64.wrap ((18446744069414584321 : Int) - x4)))) (K (.int .u64 (IntKind.u64.wrap (x3 - (IntKind.u64.wrap ((18446744069414584321 : Int) - x4))))) H2) (K (.int .u64 (IntKind.u64.wrap (x3 + x4))) H2)
theorem W_abacistref02_Add.ok (x1 : Int) (x2 : Int) (H : Hp) (K : Value → Hp → Prop) (h : W_abacistref02_Add x1 x2 H K) : HCalls Tryz.prog 106 #[.int .u64 x1, .int .u64 x2] H K :=
  hcalls Tryz.func106 rfl (Nat.le_of_ble_eq_true rfl) (hw_safe (Λ := Cuts.none (fun _ => none)) mixWabacistref02 _ _ _ _ _ (Eq.mp (by kernel_rfl) h) (obs_none _ _ _ _ _))
def W_abacistref02_Mul.l3 (K : Value → Hp → Prop) : Nat → Int → Int → Int → Hp → Prop
  | 0, _, _, _, _ => False
  | k + 1, x4, x5, x6, H =>
    let R3 := W_abacistref02_Mul.l3 K k
    BIf (decide (x5 > (0 : Int))) (((2 : Int) ≠ 0 ∧ IntKind.u64 = IntKind.u64 ∧ BIf ((Int.tmod x5 (2 : Int)) == (1 : Int)) (HCalls Tryz.prog 106 #[.int .u64 x6, .int .u64 x4] H fun v2 H2 => DI .u64 v2 fun x7 => HCalls Tryz.prog 106 #[.int .u64 x4, .int .u64 x4] H2 fun v3 H3 => DI .u64 v3 fun x8 => ((2 : Int) ≠ 0 ∧ IntKind.u64 = IntKind.u64 ∧ R3 x8 (IntKind.u64.wrap (Int.tdiv x5 (2 : Int))) x7 H3)) (HCalls Tryz.prog 106 #[.int .u64 x4, .int .u64 x4] H fun v4 H4 => DI .u64 v4 fun x9 => ((2 : Int) ≠ 0 ∧ IntKind.u64 = IntKind.u64 ∧ R3 x9 (IntKind.u64.wrap (Int.tdiv x5 (2 : Int))) x6 H4)))) (K (.int .u64 x6) H)
def W_abacistref02_Mul (x1 : Int) (x2 : Int) (H : Hp) (K : Value → Hp → Prop) : Prop :=
  HCalls Tryz.prog 131 #[.int .u64 x1] H fun v1 H1 => DI .u64 v1 fun x3 => (∃ k, W_abacistref02_Mul.l3 K k x3 x2 (0 : Int) H1)
def W_abacistref02_Mul.l3.L (K : Value → Hp → Prop) (k : Nat) : Mid := fun E D H =>
  eI E 0 .u64 fun x4 => eI E 1 .u64 fun x5 => eI E 5 .u64 fun x6 => DNilD D (W_abacistref02_Mul.l3 K k x4 x5 x6 H)
def W_abacistref02_Mul.Λ3 (_ : Value → Hp → Prop) (_R3 : Int → Int → Int → Hp → Prop) : Cuts := Cuts.none (fun _ => none)
def W_abacistref02_Mul.Λ (K : Value → Hp → Prop) : Cuts := ⟨fun i => none, fun i => match Nat.beq i 3 with | true => some (fun E D H => ∃ k, W_abacistref02_Mul.l3.L K k E D H) | false => none, (fun _ => none)⟩
theorem W_abacistref02_Mul.ok (x1 : Int) (x2 : Int) (H : Hp) (K : Value → Hp → Prop) (h : W_abacistref02_Mul x1 x2 H K) : HCalls Tryz.prog 107 #[.int .u64 x1, .int .u64 x2] H K :=
  hcalls Tryz.func107 rfl (Nat.le_of_ble_eq_true rfl) (hw_safe (Λ := (W_abacistref02_Mul.Λ K)) mixWabacistref02 _ _ _ _ _ (Eq.mp (by kernel_rfl) h) (obs_seq obs_region rfl (obs_seq obs_region rfl (obs_seq obs_region rfl (obs_seq (obs_block (obs_loop rfl (fun E D H h => by
      refine Safe.loop' (W_abacistref02_Mul.l3.L K) (fun E D H h => ?_) (fun k E D H h => ?_) E D H h
      · obtain ⟨w0, e0, g1⟩ := DG.out h; obtain ⟨x4, rfl, g2⟩ := DI.out g1; obtain ⟨w1, e1, g3⟩ := DG.out g2; obtain ⟨x5, rfl, g4⟩ := DI.out g3; obtain ⟨w5, e5, g5⟩ := DG.out g4; obtain ⟨x6, rfl, g6⟩ := DI.out g5; obtain ⟨rfl, h'⟩ := DNilD.out g6; exact h'
      · obtain ⟨x4, e0, g2⟩ := GI h
        obtain ⟨x5, e1, g4⟩ := GI g2; obtain ⟨x6, e5, g6⟩ := GI g4; obtain ⟨rfl, h'⟩ := DNilD.out g6
        exact (hw_safe (Λ := (W_abacistref02_Mul.Λ3 K (W_abacistref02_Mul.l3 K k))) mixWabacistref02 _ _ [(0, .int .u64 x4), (1, .int .u64 x5), (5, .int .u64 x6)] [] H (Eq.mp (by kernel_rfl) h') (obs_seq (obs_seq obs_region rfl (obs_cond obs_skip obs_exit)) rfl (obs_block (obs_seq (obs_seq obs_region rfl (obs_cond obs_region obs_skip)) rfl (obs_seq obs_region rfl obs_region))))).weaken (EnvLe.cons e0 (EnvLe.cons e1 (EnvLe.cons e5 (EnvLe.nil _)))) (Hp.le_refl _)))) rfl (obs_seq obs_region rfl obs_ret))))))
def W_abacistref02_Of (x1 : Int) (H : Hp) (K : Value → Hp → Prop) : Prop :=
  ((18446744069414584321 : Int) ≠ 0 ∧ IntKind.u64 = IntKind.u64 ∧ K (.int .u64 (Int.tmod x1 (18446744069414584321 : Int))) H)
theorem W_abacistref02_Of.ok (x1 : Int) (H : Hp) (K : Value → Hp → Prop) (h : W_abacistref02_Of x1 H K) : HCalls Tryz.prog 131 #[.int .u64 x1] H K :=
  hcalls Tryz.func131 rfl (Nat.le_of_ble_eq_true rfl) (hw_safe (Λ := Cuts.none (fun _ => none)) mixWabacistref02 _ _ _ _ _ (Eq.mp (by kernel_rfl) h) (obs_none _ _ _ _ _))
end Go.Proofs.YtnknippcbecmeaaGreatDoor.W
end
section
/- gold: the field's words; the reference's. -/
namespace Go.Proofs.YtnknippcbecmeaaGreatDoor.Gol
open Go Go.Hw W
theorem ExC_add64 (x y c : Nat) (hc : c ≤ 1) {H : Hp} {K : Value → Hp → Prop} (k : K (.tuple #[.int .u64 (((x + y + c) % 18446744073709551616 : Nat) : Int), .int .u64 (((x + y + c) / 18446744073709551616 : Nat) : Int)]) H) :
    ExC Tryz.prog 246 #[.int .u64 (x : Int), .int .u64 (y : Int), .int .u64 (c : Int)] H K := fun H0 w0 w hA => by
  refine ⟨.value _, H, w, ?_, k, hA⟩
  rw [run_callFunc_extern Tryz.func246 (by kernel_rfl) (by kernel_rfl) (by kernel_rfl) (e := add64Entry) (by kernel_rfl), run_add64 (x : Int) (y : Int) (c : Int) (by omega) (by omega) (by omega) (by omega)]
  simp only [Result.andThen]
  congr 5 <;> omega
theorem maskN {x : Nat} (hx : x < 2 ^ 64) : bAnd .u64 (x : Int) 4294967295 = ((x % 4294967296 : Nat) : Int) := by
  rw [show (4294967295 : Int) = ((4294967295 : Nat) : Int) from rfl, andN hx (by omega), show 4294967295 = 2 ^ 32 - 1 from rfl, Nat.and_two_pow_sub_one_eq_mod]
theorem shr32 {x : Nat} : shrI .u64 (x : Int) 32 = ((x / 4294967296 : Nat) : Int) := by
  rw [shrN (k := .u64) (a := x) (i := 32) (n := 32) rfl (by decide)]
theorem mulw {x y : Nat} (hx : x < 4294967296) (hy : y < 4294967296) : IntKind.u64.wrap ((x : Int) * (y : Int)) = ((x * y : Nat) : Int) := by
  have : x * y ≤ 4294967295 * 4294967295 := Nat.mul_le_mul (by omega) (by omega)
  rw [u64m, Nat.mod_eq_of_lt (by omega)]
theorem addw {x y : Nat} (h : x + y < 18446744073709551616) : IntKind.u64.wrap ((x : Int) + (y : Int)) = ((x + y : Nat) : Int) := by
  rw [u64a, Nat.mod_eq_of_lt (by omega)]
theorem Mul64_ok {a b : Nat} (ha : a < 2 ^ 64) (hb : b < 2 ^ 64) (H : Hp) : HCalls Tryz.prog 237 #[.int .u64 (a : Int), .int .u64 (b : Int)] H (RetE (.tuple #[.int .u64 ((a * b / 18446744073709551616 : Nat) : Int), .int .u64 ((a * b % 18446744073709551616 : Nat) : Int)]) H) := by
  apply W_math_bits_Mul64.ok
  unfold W_math_bits_Mul64
  refine ⟨by decide, by decide, by decide, by decide, by decide, ?_⟩
  rw [u64m a b, shr32 (x := a), shr32 (x := b), maskN ha, maskN hb]
  have ea : a = 4294967296 * (a / 4294967296) + a % 4294967296 := by omega
  have eb : b = 4294967296 * (b / 4294967296) + b % 4294967296 := by omega
  have h1 : a / 4294967296 < 4294967296 := by omega
  have h2 : b / 4294967296 < 4294967296 := by omega
  have h3 : a % 4294967296 < 4294967296 := by omega
  have h4 : b % 4294967296 < 4294967296 := by omega
  have hab : a * b = 18446744073709551616 * ((a / 4294967296) * (b / 4294967296)) + 4294967296 * ((a / 4294967296) * (b % 4294967296)) + 4294967296 * ((a % 4294967296) * (b / 4294967296)) + (a % 4294967296) * (b % 4294967296) := by
    conv => lhs; rw [ea, eb]
    rw [Nat.add_mul, Nat.mul_add, Nat.mul_add]
    rw [show 4294967296 * (a / 4294967296) * (4294967296 * (b / 4294967296)) = 18446744073709551616 * ((a / 4294967296) * (b / 4294967296)) by rw [Nat.mul_mul_mul_comm],
      show 4294967296 * (a / 4294967296) * (b % 4294967296) = 4294967296 * ((a / 4294967296) * (b % 4294967296)) by rw [Nat.mul_assoc],
      show a % 4294967296 * (4294967296 * (b / 4294967296)) = 4294967296 * ((a % 4294967296) * (b / 4294967296)) by rw [Nat.mul_left_comm]]
    omega
  rw [mulw h1 h2, mulw h1 h4, mulw h3 h4, mulw h3 h2]
  have k1 : (a / 4294967296) * (b / 4294967296) ≤ 4294967295 * 4294967295 := Nat.mul_le_mul (by omega) (by omega)
  have k2 : (a / 4294967296) * (b % 4294967296) ≤ 4294967295 * 4294967295 := Nat.mul_le_mul (by omega) (by omega)
  have k3 : (a % 4294967296) * (b / 4294967296) ≤ 4294967295 * 4294967295 := Nat.mul_le_mul (by omega) (by omega)
  have k4 : (a % 4294967296) * (b % 4294967296) ≤ 4294967295 * 4294967295 := Nat.mul_le_mul (by omega) (by omega)
  clear ea eb
  generalize (a / 4294967296) * (b / 4294967296) = p11 at *
  generalize (a / 4294967296) * (b % 4294967296) = p10 at *
  generalize (a % 4294967296) * (b / 4294967296) = p01 at *
  generalize (a % 4294967296) * (b % 4294967296) = p00 at *
  rw [shr32 (x := p00), addw (x := p10) (y := p00 / 4294967296) (by omega), maskN (by omega), addw (by omega), shr32, shr32, addw (by omega), addw (by omega)]
  refine ⟨?_, rfl⟩
  rw [hab]
  have : p11 + (p10 + p00 / 4294967296) / 4294967296 + ((p10 + p00 / 4294967296) % 4294967296 + p01) / 4294967296 = (18446744073709551616 * p11 + 4294967296 * p10 + 4294967296 * p01 + p00) / 18446744073709551616 := by omega
  rw [this]
theorem Of_ok {a : Nat} (ha : a < 2 ^ 64) (H : Hp) : HCalls Tryz.prog 202 #[.int .u64 (a : Int)] H (RetE (.int .u64 ((a % 18446744069414584321 : Nat) : Int)) H) := by
  apply W_gold_Of.ok
  unfold W_gold_Of
  by_cases h : a ≥ 18446744069414584321
  · refine BIf_dpos (by omega) ?_
    rw [u64w (by omega) (by omega)]
    refine ⟨?_, rfl⟩
    have : (a : Int) - 18446744069414584321 = ((a % 18446744069414584321 : Nat) : Int) := by omega
    rw [this]
  · refine BIf_dneg (by omega) ⟨?_, rfl⟩
    rw [Nat.mod_eq_of_lt (by omega)]
theorem Reduce_j5 {mid t : Nat} (hm : mid < 4294967296) (ht : t < 18446744073709551616) {H : Hp} {K : Value → Hp → Prop} (k : K (.int .u64 (((t + mid * 4294967295) % 18446744069414584321 : Nat) : Int)) H) : W_gold_Reduce.j5 K (mid : Int) (t : Int) H := by
  unfold W_gold_Reduce.j5
  have em : IntKind.u64.wrap ((mid : Int) * 4294967295) = ((mid * 4294967295 : Nat) : Int) := by
    rw [u64w (by omega) (by omega)]; omega
  rw [em]
  by_cases h : t + mid * 4294967295 < 18446744073709551616
  · rw [addw h]
    refine BIf_dneg (by omega) ?_
    refine HCalls.use (Of_ok (by omega) H) ?_
    simp only [HV]
    exact k
  · have e1 : IntKind.u64.wrap ((t : Int) + ((mid * 4294967295 : Nat) : Int)) = ((t + mid * 4294967295 - 18446744073709551616 : Nat) : Int) := by
      rw [u64a]; omega
    rw [e1]
    refine BIf_dpos (by omega) ?_
    rw [show (4294967295 : Int) = ((4294967295 : Nat) : Int) from rfl, addw (by omega)]
    refine HCalls.use (Of_ok (by omega) H) ?_
    simp only [HV]
    have : (t + mid * 4294967295 - 18446744073709551616 + 4294967295) % 18446744069414584321 = (t + mid * 4294967295) % 18446744069414584321 := by omega
    rw [this]
    exact k
theorem Reduce_ok {hi lo : Nat} (hh : hi < 2 ^ 64) (hl : lo < 2 ^ 64) (H : Hp) : HCalls Tryz.prog 226 #[.agg #[.int .u64 (hi : Int), .int .u64 (lo : Int)]] H (RetE (.int .u64 (((hi * 18446744073709551616 + lo) % 18446744069414584321 : Nat) : Int)) H) := HCalls.ret (by
  apply W_gold_Reduce.ok
  unfold W_gold_Reduce
  refine (Sep.start H).nw fun b1 H1 hs => ?_
  first | refine hs.ldf 1 rfl rfl ?_ | refine hs.ldg 1 rfl rfl ?_
  try simp only [HV]
  refine ⟨by decide, ?_⟩
  first | refine hs.ldf 1 rfl rfl ?_ | refine hs.ldg 1 rfl rfl ?_
  try simp only [HV]
  first | refine hs.ldf 1 rfl rfl ?_ | refine hs.ldg 1 rfl rfl ?_
  try simp only [HV]
  first | refine hs.ldf 1 rfl rfl ?_ | refine hs.ldg 1 rfl rfl ?_
  try simp only [HV]
  rw [shr32, maskN hh]
  by_cases h : lo < hi / 4294967296
  · refine BIf_dpos (by omega) ?_
    have e1 : IntKind.u64.wrap (IntKind.u64.wrap ((lo : Int) - ((hi / 4294967296 : Nat) : Int)) - 4294967295) = ((lo + 18446744069414584321 - hi / 4294967296 : Nat) : Int) := by
      rw [u64mod, u64mod]; omega
    rw [e1]
    refine Reduce_j5 (by omega) (by omega) ?_
    have : (lo + 18446744069414584321 - hi / 4294967296 + hi % 4294967296 * 4294967295) % 18446744069414584321 = (hi * 18446744073709551616 + lo) % 18446744069414584321 := by omega
    rw [this]
    exact hs.fin 0 rfl _
  · refine BIf_dneg (by omega) ?_
    have e1 : IntKind.u64.wrap ((lo : Int) - ((hi / 4294967296 : Nat) : Int)) = ((lo - hi / 4294967296 : Nat) : Int) := by
      rw [u64mod]; omega
    rw [e1]
    refine Reduce_j5 (by omega) (by omega) ?_
    have : (lo - hi / 4294967296 + hi % 4294967296 * 4294967295) % 18446744069414584321 = (hi * 18446744073709551616 + lo) % 18446744069414584321 := by omega
    rw [this]
    exact hs.fin 0 rfl _)
theorem wMul_ok {a b : Nat} (ha : a < 2 ^ 64) (hb : b < 2 ^ 64) (H : Hp) : HCalls Tryz.prog 227 #[.int .u64 (a : Int), .int .u64 (b : Int)] H (RetE (.agg #[.int .u64 ((a * b / 18446744073709551616 : Nat) : Int), .int .u64 ((a * b % 18446744073709551616 : Nat) : Int)]) H) := HCalls.ret (by
  apply W_wide_Mul.ok
  unfold W_wide_Mul
  refine (Sep.start H).nw fun b1 H1 hs => ?_
  refine HCalls.use (Mul64_ok ha hb H1) ?_
  simp only [HV]
  refine hs.stw 1 rfl rfl rfl rfl fun H1 hs => ?_
  refine hs.ldw 1 rfl rfl ?_
  exact hs.fin 0 rfl _)
theorem Mul_ok {a b : Nat} (ha : a < 2 ^ 64) (hb : b < 2 ^ 64) (H : Hp) : HCalls Tryz.prog 215 #[.int .u64 (a : Int), .int .u64 (b : Int)] H (RetE (.int .u64 ((a * b % 18446744069414584321 : Nat) : Int)) H) := by
  apply W_gold_Mul.ok
  unfold W_gold_Mul
  refine HCalls.use (wMul_ok ha hb H) ?_
  simp only [HV]
  have hab : a * b ≤ 18446744073709551615 * 18446744073709551615 := Nat.mul_le_mul (by omega) (by omega)
  generalize a * b = n at *
  refine HCalls.use (Reduce_ok (hi := n / 18446744073709551616) (lo := n % 18446744073709551616) (by omega) (by omega) H) ?_
  simp only [HV]
  have : n / 18446744073709551616 * 18446744073709551616 + n % 18446744073709551616 = n := by omega
  rw [this]
  exact RetE.mk _ _
theorem wAdd_ok {a b : Nat} (ha : a < 2 ^ 64) (hb : b < 2 ^ 64) (H : Hp) : HCalls Tryz.prog 243 #[.agg #[.int .u64 0, .int .u64 (a : Int)], .agg #[.int .u64 0, .int .u64 (b : Int)]] H (RetE (.tuple #[.agg #[.int .u64 (((a + b) / 18446744073709551616 : Nat) : Int), .int .u64 (((a + b) % 18446744073709551616 : Nat) : Int)], .int .u64 0]) H) := HCalls.ret (by
  apply W_wide_Add.ok
  unfold W_wide_Add
  refine (Sep.start H).nw fun b1 H1 hs => ?_
  refine hs.nw fun b2 H1 hs => ?_
  refine hs.nw fun b3 H1 hs => ?_
  first | refine hs.ldf 1 rfl rfl ?_ | refine hs.ldg 1 rfl rfl ?_
  try simp only [HV]
  first | refine hs.ldf 2 rfl rfl ?_ | refine hs.ldg 2 rfl rfl ?_
  try simp only [HV]
  refine ExC_add64 a b 0 (by omega) ?_
  simp only [HV]
  refine hs.stf 3 rfl (Nat.lt_of_sub_eq_succ rfl) rfl fun H1 hs => ?_
  first | refine hs.ldf 1 rfl rfl ?_ | refine hs.ldg 1 rfl rfl ?_
  try simp only [HV]
  first | refine hs.ldf 2 rfl rfl ?_ | refine hs.ldg 2 rfl rfl ?_
  try simp only [HV]
  refine ExC_add64 0 0 ((a + b + 0) / 18446744073709551616) (by omega) ?_
  simp only [HV]
  refine hs.stf 3 rfl (Nat.lt_of_sub_eq_succ rfl) rfl fun H1 hs => ?_
  refine hs.ldw 3 rfl rfl ?_
  refine hs.stw 3 rfl rfl rfl rfl fun H1 hs => ?_
  refine hs.ldw 3 rfl rfl ?_
  have e1 : (0 + 0 + (a + b + 0) / 18446744073709551616) % 18446744073709551616 = (a + b) / 18446744073709551616 := by omega
  have e2 : (0 + 0 + (a + b + 0) / 18446744073709551616) / 18446744073709551616 = 0 := by omega
  rw [e2]
  have hv : Ret (.tuple #[.agg #[.int .u64 (((0 + 0 + (a + b + 0) / 18446744073709551616) % 18446744073709551616 : Nat) : Int), .int .u64 (((a + b + 0) % 18446744073709551616 : Nat) : Int)], .int .u64 ((0 : Nat) : Int)]) H (.tuple #[.agg #[.int .u64 (((0 + 0 + (a + b + 0) / 18446744073709551616) % 18446744073709551616 : Nat) : Int), .int .u64 (((a + b + 0) % 18446744073709551616 : Nat) : Int)], .int .u64 ((0 : Nat) : Int)]) H1 := hs.fin 0 rfl _
  rw [e1] at hv
  rw [e1]
  exact hv)
theorem Add_ok {a b : Nat} (ha : a < 2 ^ 64) (hb : b < 2 ^ 64) (H : Hp) : HCalls Tryz.prog 239 #[.int .u64 (a : Int), .int .u64 (b : Int)] H (RetE (.int .u64 (((a + b) % 18446744069414584321 : Nat) : Int)) H) := HCalls.ret (by
  apply W_gold_Add.ok
  unfold W_gold_Add
  have hs := Sep.start H
  refine HCalls.use (Of_ok ha H) ?_
  simp only [HV]
  refine HCalls.use (Of_ok hb H) ?_
  simp only [HV]
  refine HCalls.use (wAdd_ok (a := a % 18446744069414584321) (b := b % 18446744069414584321) (by omega) (by omega) H) ?_
  simp only [HV]
  refine hs.nw fun b1 H1 hs => ?_
  refine hs.stw 1 rfl rfl rfl rfl fun H1 hs => ?_
  refine hs.ldw 1 rfl rfl ?_
  refine HCalls.use (Reduce_ok (hi := (a % 18446744069414584321 + b % 18446744069414584321) / 18446744073709551616) (lo := (a % 18446744069414584321 + b % 18446744069414584321) % 18446744073709551616) (by omega) (by omega) H1) ?_
  simp only [HV]
  have : ((a % 18446744069414584321 + b % 18446744069414584321) / 18446744073709551616 * 18446744073709551616 + (a % 18446744069414584321 + b % 18446744069414584321) % 18446744073709551616) % 18446744069414584321 = (a + b) % 18446744069414584321 := by omega
  rw [this]
  exact hs.fin 0 rfl _)
end Go.Proofs.YtnknippcbecmeaaGreatDoor.Gol
end
section
/- gold: Pow, Neg, Sub, Inv, Div; the reference's Of, Add, Mul, Pow. -/
namespace Go.Proofs.YtnknippcbecmeaaGreatDoor.Gol
open Go Go.Hw W
theorem mod_add_mul (p x y q : Nat) : (x % p + y % p * q) % p = (x + y * q) % p := by
  rw [Nat.add_mod, Nat.mod_mod, Nat.mul_mod, Nat.mod_mod, ← Nat.mul_mod, ← Nat.add_mod]
theorem mod_mul_pow (p x y q : Nat) : x % p * (y % p) ^ q % p = x * y ^ q % p := by
  rw [Nat.mul_mod, Nat.mod_mod, ← Nat.pow_mod, ← Nat.mul_mod]
theorem mod_mul_pow' (p x y q : Nat) : x * (y % p) ^ q % p = x * y ^ q % p := by
  rw [Nat.mul_mod, ← Nat.pow_mod, ← Nat.mul_mod]
theorem mod_mul_l (p x y : Nat) : x % p * y % p = x * y % p := by rw [Nat.mul_mod, Nat.mod_mod, ← Nat.mul_mod]
theorem Pow_loop (H : Hp) : ∀ (f n out base : Nat), n < 2 ^ f → f ≤ 64 → out < 18446744069414584321 → base < 18446744069414584321 → W_gold_Pow.l2 (RetE (.int .u64 ((out * base ^ n % 18446744069414584321 : Nat) : Int)) H) (f + 1) (n : Int) (out : Int) (base : Int) H := fun f => by
  generalize hp : 18446744069414584321 = p
  induction f with
  | zero =>
    intro n out base hn hf ho hb
    obtain rfl : n = 0 := by omega
    unfold W_gold_Pow.l2
    refine BIf_dneg (by omega) ?_
    rw [Nat.pow_zero, Nat.mul_one, Nat.mod_eq_of_lt ho]
    exact RetE.mk _ _
  | succ f ih =>
    intro n out base hn hf ho hb
    have hp0 : 0 < p := by omega
    have h64 : 2 ^ (f + 1) ≤ 2 ^ 64 := Nat.pow_le_pow_right (by omega) hf
    have hs : 2 ^ (f + 1) = 2 * 2 ^ f := by rw [Nat.pow_succ]; omega
    have hn2 : n / 2 < 2 ^ f := by omega
    unfold W_gold_Pow.l2
    by_cases h0 : n = 0
    · subst h0
      refine BIf_dneg (by omega) ?_
      rw [Nat.pow_zero, Nat.mul_one, Nat.mod_eq_of_lt ho]
      exact RetE.mk _ _
    refine BIf_dpos (by omega) ?_
    have hand : bAnd .u64 (n : Int) 1 = ((n % 2 : Nat) : Int) := by
      rw [show (1 : Int) = ((1 : Nat) : Int) from rfl, andN (by omega) (by omega), Nat.and_one_is_mod]
    have hshr : shrI .u64 (n : Int) 1 = ((n / 2 : Nat) : Int) := by
      rw [shrN (k := .u64) (a := n) (i := 1) (n := 1) rfl (by decide)]
    rw [hand, hshr]
    have hq := Nat.mod_lt (base * base) hp0
    have hq2 := Nat.mod_lt (out * base) hp0
    by_cases h1 : n % 2 = 1
    · refine BIf_beqp (by omega) ?_
      refine HCalls.use (Mul_ok (a := out) (b := base) (by omega) (by omega) H) ?_
      rw [hp]
      simp only [HV]
      refine HCalls.use (Mul_ok (a := base) (b := base) (by omega) (by omega) H) ?_
      rw [hp]
      simp only [HV]
      refine ⟨by decide, ?_⟩
      have := ih (n / 2) (out * base % p) (base * base % p) hn2 (by omega) hq2 hq
      rw [mod_mul_pow, show out * base * (base * base) ^ (n / 2) = out * base ^ n by
        rw [← Nat.pow_two, ← Nat.pow_mul, Nat.mul_assoc, ← Nat.pow_succ', Nat.succ_eq_add_one, show 2 * (n / 2) + 1 = n by omega]] at this
      exact this
    · refine BIf_beqn (by omega) ?_
      refine HCalls.use (Mul_ok (a := base) (b := base) (by omega) (by omega) H) ?_
      rw [hp]
      simp only [HV]
      refine ⟨by decide, ?_⟩
      have := ih (n / 2) out (base * base % p) hn2 (by omega) ho hq
      rw [mod_mul_pow', show out * (base * base) ^ (n / 2) = out * base ^ n by
        rw [← Nat.pow_two, ← Nat.pow_mul, show 2 * (n / 2) = n by omega]] at this
      exact this
theorem Pow_ok {a n : Nat} (ha : a < 2 ^ 64) (hn : n < 2 ^ 64) (H : Hp) : HCalls Tryz.prog 203 #[.int .u64 (a : Int), .int .u64 (n : Int)] H (RetE (.int .u64 ((a ^ n % 18446744069414584321 : Nat) : Int)) H) := by
  apply W_gold_Pow.ok
  unfold W_gold_Pow
  refine HCalls.use (Of_ok ha H) ?_
  simp only [HV]
  refine ⟨65, ?_⟩
  have := Pow_loop H 64 n 1 (a % 18446744069414584321) hn (by omega) (by omega) (by omega)
  rw [Nat.one_mul, ← Nat.pow_mod] at this
  exact this
def neg (a : Nat) : Nat := (18446744069414584321 - a % 18446744069414584321) % 18446744069414584321
theorem Neg_ok {a : Nat} (ha : a < 2 ^ 64) (H : Hp) : HCalls Tryz.prog 244 #[.int .u64 (a : Int)] H (RetE (.int .u64 ((neg a : Nat) : Int)) H) := by
  apply W_gold_Neg.ok
  unfold W_gold_Neg neg
  refine HCalls.use (Of_ok ha H) ?_
  simp only [HV]
  by_cases h : a % 18446744069414584321 = 0
  · rw [h]
    exact BIf_beqp rfl (RetE.mk _ _)
  · refine BIf_beqn (by omega) ?_
    rw [u64w (by omega) (by omega)]
    have : (18446744069414584321 : Int) - ((a % 18446744069414584321 : Nat) : Int) = (((18446744069414584321 - a % 18446744069414584321) % 18446744069414584321 : Nat) : Int) := by omega
    rw [this]
    exact RetE.mk _ _
def sub (a b : Nat) : Nat := (a + neg b) % 18446744069414584321
theorem Sub_ok {a b : Nat} (ha : a < 2 ^ 64) (hb : b < 2 ^ 64) (H : Hp) : HCalls Tryz.prog 240 #[.int .u64 (a : Int), .int .u64 (b : Int)] H (RetE (.int .u64 ((sub a b : Nat) : Int)) H) := by
  apply W_gold_Sub.ok
  unfold W_gold_Sub
  refine HCalls.use (Neg_ok hb H) ?_
  simp only [HV]
  refine HCalls.use (Add_ok (a := a) (b := neg b) ha (by unfold neg; omega) H) ?_
  simp only [HV]
  exact RetE.mk _ _
def eInv : Nat := 18446744069414584319
def ginv (a : Nat) : Nat := a ^ eInv % 18446744069414584321
theorem inv_pow {a : Nat} (ha : a < 2 ^ 64) (e : Nat) (he : e = 18446744069414584319) (H : Hp) : HCalls Tryz.prog 203 #[.int .u64 (a : Int), .int .u64 (e : Int)] H (RetE (.int .u64 ((a ^ e % 18446744069414584321 : Nat) : Int)) H) := Pow_ok ha (by omega) H
theorem Inv_ok {a : Nat} (ha : a < 2 ^ 64) (h0 : a % 18446744069414584321 ≠ 0) (H : Hp) : HCalls Tryz.prog 171 #[.int .u64 (a : Int)] H (RetE (.tuple #[.int .u64 ((ginv a : Nat) : Int), .int .i64 0]) H) := by
  apply W_gold_Inv.ok
  unfold W_gold_Inv
  refine HCalls.use (Of_ok ha H) ?_
  simp only [HV]
  refine BIf_beqn (by omega) ?_
  have hP : HCalls Tryz.prog 203 #[.int .u64 (a : Int), .int .u64 18446744069414584319] H (RetE (.int .u64 ((ginv a : Nat) : Int)) H) := by
    have h := inv_pow ha eInv rfl H
    unfold ginv
    rw [show (18446744069414584319 : Int) = ((eInv : Nat) : Int) from rfl]
    exact h
  refine HCalls.use hP ?_
  simp only [HV]
  exact RetE.mk _ _
theorem rOf_ok {a : Nat} (H : Hp) : HCalls Tryz.prog 131 #[.int .u64 (a : Int)] H (RetE (.int .u64 ((a % 18446744069414584321 : Nat) : Int)) H) := by
  apply W_abacistref02_Of.ok
  unfold W_abacistref02_Of
  exact ⟨by decide, by simp, RetE.mk _ _⟩
theorem rAdd_ok {a b : Nat} (H : Hp) : HCalls Tryz.prog 106 #[.int .u64 (a : Int), .int .u64 (b : Int)] H (RetE (.int .u64 (((a + b) % 18446744069414584321 : Nat) : Int)) H) := by
  apply W_abacistref02_Add.ok
  unfold W_abacistref02_Add
  refine HCalls.use (rOf_ok (a := a) H) ?_
  simp only [HV]
  refine HCalls.use (rOf_ok (a := b) H) ?_
  simp only [HV]
  rw [u64w (x := 18446744069414584321 - ((b % 18446744069414584321 : Nat) : Int)) (by omega) (by omega)]
  by_cases h : ((a % 18446744069414584321 : Nat) : Int) ≥ 18446744069414584321 - ((b % 18446744069414584321 : Nat) : Int)
  · refine BIf_dpos h ?_
    rw [u64w (by omega) (by omega)]
    have : ((a % 18446744069414584321 : Nat) : Int) - (18446744069414584321 - ((b % 18446744069414584321 : Nat) : Int)) = (((a + b) % 18446744069414584321 : Nat) : Int) := by omega
    rw [this]
    exact RetE.mk _ _
  · refine BIf_dneg h ?_
    rw [u64w (by omega) (by omega)]
    have : ((a % 18446744069414584321 : Nat) : Int) + ((b % 18446744069414584321 : Nat) : Int) = (((a + b) % 18446744069414584321 : Nat) : Int) := by omega
    rw [this]
    exact RetE.mk _ _
theorem rMul_loop (H : Hp) : ∀ (f n out base : Nat), n < 2 ^ f → f ≤ 64 → out < 18446744069414584321 → W_abacistref02_Mul.l3 (RetE (.int .u64 (((out + base * n) % 18446744069414584321 : Nat) : Int)) H) (f + 1) (base : Int) (n : Int) (out : Int) H := fun f => by
  generalize hp : 18446744069414584321 = p
  induction f with
  | zero =>
    intro n out base hn hf ho
    obtain rfl : n = 0 := by omega
    unfold W_abacistref02_Mul.l3
    refine BIf_dneg (by omega) ?_
    rw [Nat.mul_zero, Nat.add_zero, Nat.mod_eq_of_lt ho]
    exact RetE.mk _ _
  | succ f ih =>
    intro n out base hn hf ho
    have hp0 : 0 < p := by omega
    have h64 : 2 ^ (f + 1) ≤ 2 ^ 64 := Nat.pow_le_pow_right (by omega) hf
    have hs : 2 ^ (f + 1) = 2 * 2 ^ f := by rw [Nat.pow_succ]; omega
    have hn2 : n / 2 < 2 ^ f := by omega
    unfold W_abacistref02_Mul.l3
    by_cases h0 : n = 0
    · subst h0
      refine BIf_dneg (by omega) ?_
      rw [Nat.mul_zero, Nat.add_zero, Nat.mod_eq_of_lt ho]
      exact RetE.mk _ _
    refine BIf_dpos (by omega) ⟨by decide, by simp, ?_⟩
    have hm : Int.tmod (n : Int) 2 = ((n % 2 : Nat) : Int) := rfl
    have hd : IntKind.u64.wrap (Int.tdiv (n : Int) 2) = ((n / 2 : Nat) : Int) := by
      rw [show Int.tdiv (n : Int) 2 = ((n / 2 : Nat) : Int) from rfl, u64n (by omega)]
    rw [hm, hd]
    have hq2 := Nat.mod_lt (out + base) hp0
    by_cases h1 : n % 2 = 1
    · refine BIf_beqp (by omega) ?_
      refine HCalls.use (rAdd_ok (a := out) (b := base) H) ?_
      rw [hp]
      simp only [HV]
      refine HCalls.use (rAdd_ok (a := base) (b := base) H) ?_
      rw [hp]
      simp only [HV]
      refine ⟨by decide, by simp, ?_⟩
      have := ih (n / 2) ((out + base) % p) ((base + base) % p) hn2 (by omega) hq2
      rw [mod_add_mul, show out + base + (base + base) * (n / 2) = out + base * n by
        rw [← Nat.two_mul, Nat.mul_comm 2, Nat.mul_assoc, Nat.add_assoc, Nat.add_comm base, ← Nat.mul_succ, Nat.succ_eq_add_one, show 2 * (n / 2) + 1 = n by omega]] at this
      exact this
    · refine BIf_beqn (by omega) ?_
      refine HCalls.use (rAdd_ok (a := base) (b := base) H) ?_
      rw [hp]
      simp only [HV]
      refine ⟨by decide, by simp, ?_⟩
      have := ih (n / 2) out ((base + base) % p) hn2 (by omega) ho
      have e := mod_add_mul p out (base + base) (n / 2)
      rw [Nat.mod_eq_of_lt ho] at e
      rw [e, show out + (base + base) * (n / 2) = out + base * n by
        rw [← Nat.two_mul, Nat.mul_comm 2, Nat.mul_assoc, show 2 * (n / 2) = n by omega]] at this
      exact this
theorem rMul_ok {a b : Nat} (hb : b < 2 ^ 64) (H : Hp) : HCalls Tryz.prog 107 #[.int .u64 (a : Int), .int .u64 (b : Int)] H (RetE (.int .u64 ((a * b % 18446744069414584321 : Nat) : Int)) H) := by
  apply W_abacistref02_Mul.ok
  unfold W_abacistref02_Mul
  refine HCalls.use (rOf_ok (a := a) H) ?_
  simp only [HV]
  refine ⟨65, ?_⟩
  have := rMul_loop H 64 b 0 (a % 18446744069414584321) hb (by omega) (by omega)
  rw [Nat.zero_add, mod_mul_l] at this
  exact this
theorem rPow_loop (H : Hp) : ∀ (f n out base : Nat), n < 2 ^ f → f ≤ 64 → out < 18446744069414584321 → base < 18446744069414584321 → W_abacistref02_Pow.l3 (RetE (.int .u64 ((out * base ^ n % 18446744069414584321 : Nat) : Int)) H) (f + 1) (base : Int) (n : Int) (out : Int) H := fun f => by
  generalize hp : 18446744069414584321 = p
  induction f with
  | zero =>
    intro n out base hn hf ho hb
    obtain rfl : n = 0 := by omega
    unfold W_abacistref02_Pow.l3
    refine BIf_dneg (by omega) ?_
    rw [Nat.pow_zero, Nat.mul_one, Nat.mod_eq_of_lt ho]
    exact RetE.mk _ _
  | succ f ih =>
    intro n out base hn hf ho hb
    have hp0 : 0 < p := by omega
    have h64 : 2 ^ (f + 1) ≤ 2 ^ 64 := Nat.pow_le_pow_right (by omega) hf
    have hs : 2 ^ (f + 1) = 2 * 2 ^ f := by rw [Nat.pow_succ]; omega
    have hn2 : n / 2 < 2 ^ f := by omega
    unfold W_abacistref02_Pow.l3
    by_cases h0 : n = 0
    · subst h0
      refine BIf_dneg (by omega) ?_
      rw [Nat.pow_zero, Nat.mul_one, Nat.mod_eq_of_lt ho]
      exact RetE.mk _ _
    refine BIf_dpos (by omega) ⟨by decide, by simp, ?_⟩
    have hm : Int.tmod (n : Int) 2 = ((n % 2 : Nat) : Int) := rfl
    have hd : IntKind.u64.wrap (Int.tdiv (n : Int) 2) = ((n / 2 : Nat) : Int) := by
      rw [show Int.tdiv (n : Int) 2 = ((n / 2 : Nat) : Int) from rfl, u64n (by omega)]
    rw [hm, hd]
    have hq := Nat.mod_lt (base * base) hp0
    have hq2 := Nat.mod_lt (out * base) hp0
    by_cases h1 : n % 2 = 1
    · refine BIf_beqp (by omega) ?_
      refine HCalls.use (rMul_ok (a := out) (b := base) (by omega) H) ?_
      rw [hp]
      simp only [HV]
      refine HCalls.use (rMul_ok (a := base) (b := base) (by omega) H) ?_
      rw [hp]
      simp only [HV]
      refine ⟨by decide, by simp, ?_⟩
      have := ih (n / 2) (out * base % p) (base * base % p) hn2 (by omega) hq2 hq
      rw [mod_mul_pow, show out * base * (base * base) ^ (n / 2) = out * base ^ n by
        rw [← Nat.pow_two, ← Nat.pow_mul, Nat.mul_assoc, ← Nat.pow_succ', Nat.succ_eq_add_one, show 2 * (n / 2) + 1 = n by omega]] at this
      exact this
    · refine BIf_beqn (by omega) ?_
      refine HCalls.use (rMul_ok (a := base) (b := base) (by omega) H) ?_
      rw [hp]
      simp only [HV]
      refine ⟨by decide, by simp, ?_⟩
      have := ih (n / 2) out (base * base % p) hn2 (by omega) ho hq
      rw [mod_mul_pow', show out * (base * base) ^ (n / 2) = out * base ^ n by
        rw [← Nat.pow_two, ← Nat.pow_mul, show 2 * (n / 2) = n by omega]] at this
      exact this
theorem rPow_ok {a n : Nat} (hn : n < 2 ^ 64) (H : Hp) : HCalls Tryz.prog 89 #[.int .u64 (a : Int), .int .u64 (n : Int)] H (RetE (.int .u64 ((a ^ n % 18446744069414584321 : Nat) : Int)) H) := by
  apply W_abacistref02_Pow.ok
  unfold W_abacistref02_Pow
  refine HCalls.use (rOf_ok (a := a) H) ?_
  simp only [HV]
  refine ⟨65, ?_⟩
  have := rPow_loop H 64 n 1 (a % 18446744069414584321) hn (by omega) (by omega) (by omega)
  rw [Nat.one_mul, ← Nat.pow_mod] at this
  exact this
end Go.Proofs.YtnknippcbecmeaaGreatDoor.Gol
end
section
/- Formulas of functions, printed by wip/tools/hwp.py. -/
namespace Go.Proofs.YtnknippcbecmeaaGreatDoor.W
open Go Go.Hw
theorem mixWrev : Tryz.prog.follows .mixedOrders = true := by kernel_rfl
def W_rev_Turn (A1 : Option Addr) (n1 : Nat) (m1 : Nat) (H : Hp) (K : Value → Hp → Prop) : Prop :=
  HCalls Tryz.prog 165 #[.int .i64 ((n1 : Nat) : Int)] H fun v1 H1 => DTup v1 fun l1 => DCons l1 fun v2 l2 => DI .i64 v2 fun x1 => DCons l2 fun v3 l3 => DB v3 fun c1 => DNil l3 (Nw H1 (.obj (.cells #[.int .i64 0] 3)) fun b1 H2 => St H2 ((⟨b1, 0, none⟩ : Addr).add 0) (.int .i64 x1) fun H3 => BIf (!c1) (K (.tuple #[.slice none 0 0, .int .i64 4]) H3) (HCalls Tryz.prog 228 #[.slice A1 n1 m1, .func (.func 229) #[] #[.pointer (some (⟨b1, 0, none⟩ : Addr))]] H3 fun v4 H4 => DSl v4 fun A2 n2 m2 => K (.tuple #[.slice A2 n2 m2, .int .i64 0]) H4))
theorem W_rev_Turn.ok (A1 : Option Addr) (n1 : Nat) (m1 : Nat) (H : Hp) (K : Value → Hp → Prop) (h : W_rev_Turn A1 n1 m1 H K) : HCalls Tryz.prog 217 #[.slice A1 n1 m1] H K :=
  hcalls Tryz.func217 rfl (Nat.le_of_ble_eq_true rfl) (hw_safe (Λ := Cuts.none (fun _ => none)) mixWrev _ _ _ _ _ (Eq.mp (by kernel_rfl) h) (obs_none _ _ _ _ _))
def W_rev_move.l3 (K : Value → Hp → Prop) : Nat → FuncId → Array Value → Array Value → Option Addr → Nat → Nat → Option Addr → Nat → Nat → Int → Int → Hp → Prop
  | 0, _, _, _, _, _, _, _, _, _, _, _, _ => False
  | k + 1, fd2, F2, C2, A3, n3, m3, A4, n4, m4, x1, x2, H =>
    let R3 := W_rev_move.l3 K k
    BIf (decide (x2 < x1)) (ixI x2 n4 (NN A4 fun a1 => Ld H (a1.add (x2.toNat * 1)) fun v2 => DI .u64 v2 fun x3 => CallK Tryz.prog fd2 ((F2 ++ #[.int .i64 x2]) ++ C2) H fun v3 H2 => DR Tryz.prog (resTypes Tryz.prog fd2) v3 fun v4 => DI .i64 v4 fun x4 => ixI x4 n3 (NN A3 fun a2 => St H2 ((a2.add (x4.toNat * 1)).add 0) (.int .u64 x3) fun H3 => R3 fd2 F2 C2 A3 n3 m3 A4 n4 m4 x1 (IntKind.i64.wrap (x2 + (1 : Int))) H3))) (K (.slice A3 n3 m3) H)
def W_rev_move (A1 : Option Addr) (n1 : Nat) (m1 : Nat) (fd1 : FuncId) (F1 : Array Value) (C1 : Array Value) (H : Hp) (K : Value → Hp → Prop) : Prop :=
  MkS Tryz.prog 60 ((n1 : Nat) : Int) ((n1 : Nat) : Int) H fun v1 H1 => DSl v1 fun A2 n2 m2 => (∃ k, W_rev_move.l3 K k fd1 F1 C1 A2 n2 m2 A1 n1 m1 ((n1 : Nat) : Int) (0 : Int) H1)
def W_rev_move.l3.L (K : Value → Hp → Prop) (k : Nat) : Mid := fun E D H =>
  DG (E.get? 1) fun w1 => DFn w1 fun fd2 F2 C2 => DG (E.get? 5) fun w5 => DSl w5 fun A3 n3 m3 => DG (E.get? 11) fun w11 => DSl w11 fun A4 n4 m4 => eI E 12 .i64 fun x1 => eI E 13 .i64 fun x2 => DNilD D (W_rev_move.l3 K k fd2 F2 C2 A3 n3 m3 A4 n4 m4 x1 x2 H)
def W_rev_move.Λ3 (_ : Value → Hp → Prop) (_R3 : FuncId → Array Value → Array Value → Option Addr → Nat → Nat → Option Addr → Nat → Nat → Int → Int → Hp → Prop) : Cuts := Cuts.none (fun _ => none)
def W_rev_move.Λ (K : Value → Hp → Prop) : Cuts := ⟨fun i => none, fun i => match Nat.beq i 3 with | true => some (fun E D H => ∃ k, W_rev_move.l3.L K k E D H) | false => none, (fun _ => none)⟩
theorem W_rev_move.ok (A1 : Option Addr) (n1 : Nat) (m1 : Nat) (fd1 : FuncId) (F1 : Array Value) (C1 : Array Value) (H : Hp) (K : Value → Hp → Prop) (h : W_rev_move A1 n1 m1 fd1 F1 C1 H K) : HCalls Tryz.prog 228 #[.slice A1 n1 m1, .func (.func fd1) F1 C1] H K :=
  hcalls Tryz.func228 rfl (Nat.le_of_ble_eq_true rfl) (hw_safe (Λ := (W_rev_move.Λ K)) mixWrev _ _ _ _ _ (Eq.mp (by kernel_rfl) h) (obs_seq obs_region rfl (obs_seq obs_region rfl (obs_seq (obs_seq obs_region rfl (obs_block (obs_loop rfl (fun E D H h => by
      refine Safe.loop' (W_rev_move.l3.L K) (fun E D H h => ?_) (fun k E D H h => ?_) E D H h
      · obtain ⟨w1, e1, g1⟩ := DG.out h; obtain ⟨fd2, F2, C2, rfl, g2⟩ := DFn.out g1; obtain ⟨w5, e5, g3⟩ := DG.out g2; obtain ⟨A3, n3, m3, rfl, g4⟩ := DSl.out g3; obtain ⟨w11, e11, g5⟩ := DG.out g4; obtain ⟨A4, n4, m4, rfl, g6⟩ := DSl.out g5; obtain ⟨w12, e12, g7⟩ := DG.out g6; obtain ⟨x1, rfl, g8⟩ := DI.out g7; obtain ⟨w13, e13, g9⟩ := DG.out g8; obtain ⟨x2, rfl, g10⟩ := DI.out g9; obtain ⟨rfl, h'⟩ := DNilD.out g10; exact h'
      · obtain ⟨w1, e1, g1⟩ := DG.out h
        obtain ⟨fd2, F2, C2, rfl, g2⟩ := DFn.out g1
        obtain ⟨w5, e5, g3⟩ := DG.out g2
        obtain ⟨A3, n3, m3, rfl, g4⟩ := DSl.out g3
        obtain ⟨w11, e11, g5⟩ := DG.out g4
        obtain ⟨A4, n4, m4, rfl, g6⟩ := DSl.out g5
        obtain ⟨x1, e12, g8⟩ := GI g6; obtain ⟨x2, e13, g10⟩ := GI g8; obtain ⟨rfl, h'⟩ := DNilD.out g10
        exact (hw_safe (Λ := (W_rev_move.Λ3 K (W_rev_move.l3 K k))) mixWrev _ _ [(1, .func (.func fd2) F2 C2), (5, .slice A3 n3 m3), (11, .slice A4 n4 m4), (12, .int .i64 x1), (13, .int .i64 x2)] [] H (Eq.mp (by kernel_rfl) h') (obs_seq obs_region rfl (obs_seq (obs_cond obs_skip obs_exit) rfl (obs_seq (obs_block (obs_seq obs_region rfl obs_region)) rfl obs_region)))).weaken (EnvLe.cons e1 (EnvLe.cons e5 (EnvLe.cons e11 (EnvLe.cons e12 (EnvLe.cons e13 (EnvLe.nil _)))))) (Hp.le_refl _))))) rfl (obs_seq obs_region rfl obs_ret)))))
def W_rev_Turn_1 (x1 : Int) (p1 : Option Addr) (H : Hp) (K : Value → Hp → Prop) : Prop :=
  NN p1 fun a1 => Ld H a1 fun v1 => DI .i64 v1 fun x2 => HCalls Tryz.prog 230 #[.int .i64 x1, .int .i64 x2] H fun v2 H1 => DI .i64 v2 fun x3 => K (.int .i64 x3) H1
theorem W_rev_Turn_1.ok (x1 : Int) (p1 : Option Addr) (H : Hp) (K : Value → Hp → Prop) (h : W_rev_Turn_1 x1 p1 H K) : HCalls Tryz.prog 229 #[.int .i64 x1, .pointer p1] H K :=
  hcalls Tryz.func229 rfl (Nat.le_of_ble_eq_true rfl) (hw_safe (Λ := Cuts.none (fun _ => none)) mixWrev _ _ _ _ _ (Eq.mp (by kernel_rfl) h) (obs_none _ _ _ _ _))
def W_rev_turned (x1 : Int) (x2 : Int) (H : Hp) (K : Value → Hp → Prop) : Prop :=
  HCalls Tryz.prog 238 #[.int .u64 (IntKind.u64.wrap x1)] H fun v1 H1 => DI .u64 v1 fun x3 => (0 ≤ (1 : Int) ∧ (0 ≤ (IntKind.u64.wrap (IntKind.i64.wrap ((63 : Int) - x2))) ∧ K (.int .i64 (IntKind.i64.wrap (shrI .u64 (shrI .u64 x3 (1 : Int)) (IntKind.u64.wrap (IntKind.i64.wrap ((63 : Int) - x2)))))) H1))
theorem W_rev_turned.ok (x1 : Int) (x2 : Int) (H : Hp) (K : Value → Hp → Prop) (h : W_rev_turned x1 x2 H K) : HCalls Tryz.prog 230 #[.int .i64 x1, .int .i64 x2] H K :=
  hcalls Tryz.func230 rfl (Nat.le_of_ble_eq_true rfl) (hw_safe (Λ := Cuts.none (fun _ => none)) mixWrev _ _ _ _ _ (Eq.mp (by kernel_rfl) h) (obs_none _ _ _ _ _))
end Go.Proofs.YtnknippcbecmeaaGreatDoor.W
end
section
/- rev: places turned about; rows turned. -/
namespace Go.Proofs.YtnknippcbecmeaaGreatDoor.Ker
open Go Go.Hw W Shp Gol Fft
theorem cell_u64 : cellInfo Tryz.prog 60 = some (1, 8, some #[.int .u64 0]) := by kernel_rfl
theorem set_vals (ws : List UInt64) (i : Nat) (w : UInt64) : (wordVals ws).set i (.int .u64 (w.toNat : Int)) = wordVals (ws.set i w) := by
  unfold wordVals; rw [List.map_set]
theorem zero_vals (n : Nat) : zeroRow [Value.int .u64 0] n = wordVals (List.replicate n 0) := by
  rw [zeroRow_one]
  unfold wordVals
  rw [List.map_replicate]; rfl
theorem swp_int (m : BitVec 64) (d : Nat) (hd : d ≤ 64) (x : BitVec 64) {mi di : Int} (hm : mi = (m.toNat : Int)) (hdi : di = (d : Nat)) :
    bOr .u64 (bAnd .u64 (shrI .u64 (x.toNat : Int) di) mi) (shlI .u64 (bAnd .u64 (x.toNat : Int) mi) di) = ((swp m d x).toNat : Int) := by
  subst hm
  rw [shr64 x hdi hd, and64, and64, shl64 _ hdi hd, or64]; rfl
def revT (x : BitVec 64) : BitVec 64 :=
  let x := swp 0x00ff00ff00ff00ff#64 8 x
  let x := swp 0x0000ffff0000ffff#64 16 x
  (x >>> 32) ||| (x <<< 32)
theorem RevBytes_ok (x : BitVec 64) (H : Hp) : HCalls Tryz.prog 242 #[.int .u64 (x.toNat : Int)] H (RetE (.int .u64 ((revT x).toNat : Int)) H) := by
  apply W_math_bits_ReverseBytes64.ok
  unfold W_math_bits_ReverseBytes64
  refine ⟨by decide, by decide, by decide, by decide, by decide, by decide, ?_⟩
  rw [swp_int 0x00ff00ff00ff00ff#64 8 (by decide) x (mi := 71777214294589695) (di := 8) (by decide) rfl, swp_int 0x0000ffff0000ffff#64 16 (by decide) _ (mi := 281470681808895) (di := 16) (by decide) rfl, Hw.shr64 _ (i := 32) (n := 32) rfl (by decide), Hw.shl64 _ (i := 32) (n := 32) rfl (by decide), or64]
  exact RetE.mk _ _
theorem Reverse_ok (x : BitVec 64) (H : Hp) : HCalls Tryz.prog 238 #[.int .u64 (x.toNat : Int)] H (RetE (.int .u64 ((rev64 x).toNat : Int)) H) := by
  apply W_math_bits_Reverse64.ok
  unfold W_math_bits_Reverse64
  refine ⟨by decide, by decide, by decide, by decide, by decide, by decide, ?_⟩
  rw [swp_int 0x5555555555555555#64 1 (by decide) x (mi := 6148914691236517205) (di := 1) (by decide) rfl, swp_int 0x3333333333333333#64 2 (by decide) _ (mi := 3689348814741910323) (di := 2) (by decide) rfl, swp_int 0x0f0f0f0f0f0f0f0f#64 4 (by decide) _ (mi := 1085102592571150095) (di := 4) (by decide) rfl]
  refine HCalls.use (RevBytes_ok _ H) ?_
  simp only [HV]
  exact RetE.mk _ _
theorem turned_ok {k i : Nat} (hk : k ≤ 32) (hi : i < 2 ^ k) (H : Hp) : HCalls Tryz.prog 230 #[.int .i64 (i : Int), .int .i64 (k : Int)] H (RetE (.int .i64 ((rv k i : Nat) : Int)) H) := by
  have h32 := pow_le hk
  have hr := rv_lt k i
  apply W_rev_turned.ok
  unfold W_rev_turned
  rw [u64n (by omega)]
  have e : ((i : Nat) : Int) = ((BitVec.ofNat 64 i).toNat : Int) := by rw [BitVec.toNat_ofNat, Nat.mod_eq_of_lt (by omega)]
  rw [e]
  refine HCalls.use (Reverse_ok _ H) ?_
  simp only [HV]
  have e2 : IntKind.u64.wrap (IntKind.i64.wrap (63 - (k : Int))) = ((63 - k : Nat) : Int) := by rw [i64w (by omega) (by omega), u64w (by omega) (by omega)]; omega
  rw [e2, Hw.shr64 _ (i := 1) (n := 1) rfl (by decide), Hw.shr64 _ (n := 63 - k) rfl (by omega), BitVec.toNat_ushiftRight, BitVec.toNat_ushiftRight, ← Nat.shiftRight_add, show 1 + (63 - k) = 64 - k by omega, rev_rv hk hi, i64n (by omega)]
  exact ⟨by decide, by omega, RetE.mk _ _⟩
def turnI (k : Nat) (l : List UInt64) (i : Nat) : List UInt64 := (List.range (2 ^ k)).map fun p => if rv k p < i then l.getD (rv k p) 0 else 0
theorem turnI_len (k : Nat) (l : List UInt64) (i : Nat) : (turnI k l i).length = 2 ^ k := by simp [turnI]
theorem turnI_zero (k : Nat) (l : List UInt64) : List.replicate (2 ^ k) 0 = turnI k l 0 := by
  unfold turnI
  apply List.ext_getElem?
  intro j
  rw [List.getElem?_map]
  by_cases h : j < 2 ^ k
  · rw [List.getElem?_range h, List.getElem?_eq_getElem (by simpa using h)]; simp
  · rw [List.getElem?_eq_none (by simp; omega), List.getElem?_eq_none (by simp; omega)]; rfl
theorem turnI_all (k : Nat) (l : List UInt64) : turnI k l (2 ^ k) = turnL k l := by
  unfold turnI turnL
  apply List.map_congr_left
  intro p _
  rw [if_pos (rv_lt k p)]
theorem turnI_step (k : Nat) (l : List UInt64) {i : Nat} (hi : i < 2 ^ k) : (turnI k l i).set (rv k i) (l.getD i 0) = turnI k l (i + 1) := by
  apply List.ext_getElem?
  intro p
  rw [List.getElem?_set, turnI_len]
  unfold turnI
  rw [List.getElem?_map, List.getElem?_map]
  by_cases hp : p < 2 ^ k
  · rw [List.getElem?_range hp]
    by_cases e : rv k i = p
    · rw [if_pos e, if_pos (by omega), ← e]
      show some _ = some (if rv k (rv k i) < i + 1 then l.getD (rv k (rv k i)) 0 else 0)
      rw [rv_rv k i hi, if_pos (by omega)]
    · rw [if_neg e]
      show some (if rv k p < i then _ else _) = some (if rv k p < i + 1 then _ else _)
      have : rv k p ≠ i := fun h => e (by rw [← h, rv_rv k p hp])
      by_cases h : rv k p < i
      · rw [if_pos h, if_pos (by omega)]
      · rw [if_neg h, if_neg (by omega)]
  · rw [List.getElem?_eq_none (by simp; omega)]
    have := rv_lt k i
    rw [if_neg (by omega)]; rfl
theorem DR_int {t : TypeId} (ht : Tryz.prog.underlying t = some (.int .i64)) (n : Int) (K : Value → Prop) (k : K (.int .i64 n)) : DR Tryz.prog [t] (.int .i64 n) K := by
  show DT Tryz.prog t (.int .i64 n) K
  unfold DT
  rw [ht]
  exact k
section
variable {R : As} {A : Option Addr} {n m k : Nat} {l : List UInt64}
theorem move_loop (K : Value → Hp → Prop) (hR : ∀ H, R H → Cells H A (wordVals l)) (hn : n = 2 ^ k) (hl : l.length = n) (hk : k ≤ 32) {b1 r mr : Nat}
    (hK : ∀ H, Sep [pts r (.row (wordVals (turnL k l)) 60 mr), pts b1 (.obj (.cells #[.int .i64 (k : Int)] 3)), R] H → K (.slice (some ⟨r, 0, none⟩) n n) H) :
    ∀ (t i : Nat) (H : Hp), i + t = n → Sep [pts r (.row (wordVals (turnI k l i)) 60 mr), pts b1 (.obj (.cells #[.int .i64 (k : Int)] 3)), R] H →
      W_rev_move.l3 K (t + 1) 229 #[] #[.pointer (some ⟨b1, 0, none⟩)] (some ⟨r, 0, none⟩) n n A n m (n : Int) (i : Int) H
  | 0, i, H, hi, hs => by
    unfold W_rev_move.l3
    refine BIf_dneg (by omega) (hK H ?_)
    rw [← turnI_all, ← hn, show n = i by omega]
    exact hs
  | t + 1, i, H, hi, hs => by
    have h32 := pow_le hk
    have hr := rv_lt k i
    have hc : Cells H A (wordVals l) := by
      obtain ⟨H1, h1, hle⟩ := hs.see 2 rfl
      exact (hR H1 h1).le hle
    unfold W_rev_move.l3
    refine BIf_dpos (by omega) ?_
    have hg : (wordVals l)[i]? = some (.int .u64 ((l.getD i 0).toNat : Int)) := by
      rw [wordVals_get, List.getD_eq_getElem?_getD, List.getElem?_eq_getElem (by omega)]; rfl
    refine hc.read hg rfl (by rw [wordVals_length]; omega) ?_
    simp only [HV]
    refine BIf_pos (by kernel_rfl) ?_
    have hf : HCalls Tryz.prog 229 #[.int .i64 (i : Int), .pointer (some ⟨b1, 0, none⟩)] H (RetE (.int .i64 ((rv k i : Nat) : Int)) H) := by
      apply W_rev_Turn_1.ok
      unfold W_rev_Turn_1
      simp only [NN_some]
      refine hs.ld 1 rfl rfl ?_
      simp only [HV]
      refine HCalls.use (turned_ok hk (by omega) H) ?_
      simp only [HV]
      exact RetE.mk _ _
    refine HCalls.use hf ?_
    have hrt : resTypes Tryz.prog 229 = [3] := by kernel_rfl
    rw [hrt]
    refine DR_int (by kernel_rfl) _ _ ?_
    simp only [HV]
    refine ⟨by omega, by omega, ?_⟩
    show St H _ _ _
    rw [Int.toNat_natCast, Nat.mul_one, Addr.add_lit', Addr.add_lit', Nat.zero_add, Nat.add_zero]
    refine hs.str 0 rfl (by rw [wordVals_length, turnI_len]; omega) rfl fun H hs => ?_
    rw [set_vals, turnI_step k l (by omega)] at hs
    rw [i64w (x := (i : Int) + 1) (by omega) (by omega), show (i : Int) + 1 = ((i + 1 : Nat) : Int) by omega]
    exact move_loop K hR hn hl hk hK t (i + 1) H (by omega) hs
theorem Turn_tr {TT : As} (hT : ∀ H, TT H → T64 H) (hR : ∀ H, R H → Cells H A (wordVals l)) (hn : n = 2 ^ k) (hl : l.length = n) (hk : k ≤ 20) :
    Tr Tryz.prog 217 #[.slice A n m] [R, TT] fun v M => ∃ r, v = .tuple #[.slice (some ⟨r, 0, none⟩) n n, .int .i64 0] ∧ M = [pts r (.row (wordVals (turnL k l)) 60 (n * 1)), R, TT] := fun H hs => by
  have h20 := pow_le hk
  apply W_rev_Turn.ok
  unfold W_rev_Turn
  have hT0 : T64 H := by
    obtain ⟨H1, h1, hle⟩ := hs.see 1 rfl
    exact (hT H1 h1).le hle
  refine HCalls.use (Fits_ok (n : Int) H hT0) ?_
  rw [show fitsV (n : Int) = .tuple #[.int .i64 (k : Int), .bool true] by unfold fitsV; rw [hn, lg_pow (by omega)]]
  simp only [HV]
  refine hs.nw fun b1 H hs => ?_
  simp only [Addr.add_zero]
  refine hs.st 2 rfl (Nat.lt_of_sub_eq_succ rfl) rfl fun H hs => ?_
  have hs : Sep [R, TT, pts b1 (.obj (.cells #[.int .i64 (k : Int)] 3))] H := hs
  have hm : Tr Tryz.prog 228 #[.slice A n m, .func (.func 229) #[] #[.pointer (some ⟨b1, 0, none⟩)]] [pts b1 (.obj (.cells #[.int .i64 (k : Int)] 3)), R] fun v M =>
      ∃ r, v = .slice (some ⟨r, 0, none⟩) n n ∧ M = [pts r (.row (wordVals (turnL k l)) 60 (n * 1)), R] := fun H hs => by
    apply W_rev_move.ok
    unfold W_rev_move
    refine hs.mks cell_u64 rfl (n := n) (m := n) rfl rfl (Nat.le_refl _) (by omega) (by omega) fun r H hs => ?_
    simp only [HV]
    refine ⟨n + 1, ?_⟩
    have hs : Sep [pts b1 (.obj (.cells #[.int .i64 (k : Int)] 3)), R, pts r (.row (wordVals (turnI k l 0)) 60 (n * 1))] H := by
      rw [← turnI_zero, ← hn, ← zero_vals]; exact hs
    exact move_loop _ hR hn hl (by omega) (fun H hs => ⟨_, ⟨r, rfl, rfl⟩, hs.re [0, 2] rfl⟩) n 0 H (by omega) (hs.re [2, 0, 1] rfl)
  refine hm.use hs [2, 0] rfl rfl ?_
  rintro _ _ H ⟨r, rfl, rfl⟩ hs
  simp only [HV]
  exact ⟨_, ⟨r, rfl, rfl⟩, hs.re [0, 1, 2] rfl⟩
end
end Go.Proofs.YtnknippcbecmeaaGreatDoor.Ker
end
