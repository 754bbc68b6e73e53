/- The frame of the proofs: parts of memory side by side; a call over a part of what is known leaves the rest. -/
import Derived.Test.YtbnhfcdagoigkaaHwN
set_option maxRecDepth 100000
set_option linter.unusedSimpArgs false
set_option linter.unusedVariables false
set_option linter.unnecessarySimpa false
set_option linter.unusedSectionVars false
namespace Go.Hw
open Go

/-- What a call over a part of memory leaves of the whole. -/
def Hp.patch (H H1 H1' : Hp) : Hp := fun b => match H1' b with | some o => some o | none => match H1 b with | some _ => none | none => H b

theorem At.patch {H H1 H1' : Hp} {w w' : World} (hH : Fits H w) (hle : H1.le H) (h : At H1 w H1' w') : At H w (H.patch H1 H1') w' := by
  refine ⟨fun b o hb => ?_, h.size, h.os, h.tape, h.output, fun b hb h0 => ?_⟩
  · unfold Hp.patch at hb
    split at hb
    · rename_i o' ho'
      cases hb
      exact h.fits b _ ho'
    · rename_i hn
      split at hb
      · cases hb
      · rename_i h1
        obtain ⟨x, hx, hh⟩ := hH b o hb
        refine ⟨x, ?_, hh⟩
        rw [(h.old b (Array.getElem?_eq_some_iff.1 hx).1 h1).2]; exact hx
  · have h1 : H1 b = none := by
      cases e : H1 b with
      | none => rfl
      | some o => rw [hle b o e] at h0; cases h0
    obtain ⟨h2, h3⟩ := h.old b hb h1
    refine ⟨?_, h3⟩
    unfold Hp.patch
    rw [h2, h1]; exact h0

/-- A call over a part of what is known. -/
theorem HCalls.frame {P : Program} {f : FuncId} {args : Array Value} {H H1 : Hp} {R : Value → Hp → Prop} (h : HCalls P f args H1 R) (hle : H1.le H) :
    HCalls P f args H fun v H' => ∃ H1', R v H1' ∧ H' = H.patch H1 H1' ∧ ∀ b, H b ≠ none → H1 b = none → H1' b = none := fun w hw => by
  have hw1 : Fits H1 w := fun b o hb => hw b o (hle b o hb)
  refine (h w hw1).mono ?_
  rintro e w' ⟨v, H1', rfl, hr, hA⟩
  refine ⟨v, _, rfl, ⟨H1', hr, rfl, fun b hb h1 => ?_⟩, hA.patch hw hle⟩
  cases hq : H b with
  | none => exact absurd hq hb
  | some o =>
    obtain ⟨x, hx, _⟩ := hw b o hq
    exact (hA.old b (Array.getElem?_eq_some_iff.1 hx).1 h1).1

/-! ## Parts -/

abbrev As := Hp → Prop

def Apart (H1 H2 : Hp) : Prop := ∀ b, H1 b = none ∨ H2 b = none

def Hp.or (H1 H2 : Hp) : Hp := fun b => match H1 b with | some o => some o | none => H2 b

theorem Hp.le_none {H H' : Hp} {b : Nat} (h : H.le H') (hn : H' b = none) : H b = none := by
  cases e : H b with
  | none => rfl
  | some o => rw [h b o e] at hn; cases hn

theorem Apart.symm {H1 H2 : Hp} (h : Apart H1 H2) : Apart H2 H1 := fun b => (h b).symm
theorem Apart.le {H1 H2 H1' H2' : Hp} (h : Apart H1 H2) (h1 : H1'.le H1) (h2 : H2'.le H2) : Apart H1' H2' := fun b =>
  (h b).elim (fun e => .inl (Hp.le_none h1 e)) (fun e => .inr (Hp.le_none h2 e))
theorem Apart.or {H1 H2 H3 : Hp} (h : Apart H1 H3) (k : Apart H2 H3) : Apart (H1.or H2) H3 := fun b => by
  unfold Hp.or
  rcases h b with e | e
  · rw [e]; exact k b
  · exact .inr e
theorem Hp.or_le {H1 H2 H : Hp} (h1 : H1.le H) (h2 : H2.le H) : (H1.or H2).le H := fun b o ho => by
  unfold Hp.or at ho
  split at ho
  · rename_i o' e; cases ho; exact h1 b _ e
  · exact h2 b o ho
theorem Hp.le_or_left (H1 H2 : Hp) : H1.le (H1.or H2) := fun b o ho => by unfold Hp.or; rw [ho]
theorem Hp.le_or_right {H1 H2 : Hp} (h : Apart H1 H2) : H2.le (H1.or H2) := fun b o ho => by
  unfold Hp.or
  rcases h b with e | e
  · rw [e]; exact ho
  · rw [e] at ho; cases ho

/-- Parts of memory, side by side. -/
def Sep : List As → Hp → Prop
  | [], _ => True
  | A :: L, H => ∃ H1 H2, H1.le H ∧ H2.le H ∧ Apart H1 H2 ∧ A H1 ∧ Sep L H2

theorem Sep.up : ∀ {L : List As} {H H' : Hp}, Sep L H → H.le H' → Sep L H'
  | [], _, _, _, _ => trivial
  | _ :: _, _, _, ⟨H1, H2, h1, h2, h3, h4, h5⟩, k => ⟨H1, H2, Hp.le_trans h1 k, Hp.le_trans h2 k, h3, h4, h5⟩

theorem Sep.swap {A B : As} {L : List As} {H : Hp} : Sep (A :: B :: L) H → Sep (B :: A :: L) H
  | ⟨H1, H2, h1, h2, h3, h4, H3, H4, k1, k2, k3, k4, k5⟩ =>
    ⟨H3, H1.or H4, Hp.le_trans k1 h2, Hp.or_le h1 (Hp.le_trans k2 h2), (Apart.or (h3.le (Hp.le_refl _) k1) k3.symm).symm, k4, H1, H4, Hp.le_or_left _ _, Hp.le_or_right (h3.le (Hp.le_refl _) k2), h3.le (Hp.le_refl _) k2, h4, k5⟩

theorem Sep.perm {L L' : List As} (p : L.Perm L') : ∀ {H : Hp}, Sep L H → Sep L' H := by
  induction p with
  | nil => exact fun h => h
  | cons A _ ih => exact fun ⟨H1, H2, h1, h2, h3, h4, h5⟩ => ⟨H1, H2, h1, h2, h3, h4, ih h5⟩
  | swap A B L => exact fun h => h.swap
  | trans _ _ ih1 ih2 => exact fun h => ih2 (ih1 h)

theorem Sep.tail {A : As} {L : List As} {H : Hp} : Sep (A :: L) H → Sep L H
  | ⟨_, _, _, h2, _, _, h5⟩ => h5.up h2

theorem Sep.drop : ∀ {M L : List As} {H : Hp}, Sep (M ++ L) H → Sep L H
  | [], _, _, h => h
  | _ :: _, _, _, h => Sep.drop h.tail

theorem Sep.take {M L : List As} {H : Hp} (h : Sep (M ++ L) H) : Sep M H := Sep.drop (Sep.perm List.perm_append_comm h)

/-- A part is split, or put together, or said in other words. -/
theorem Sep.map {A : As} {L M : List As} {H : Hp} (h : Sep (A :: L) H) (k : ∀ H1, A H1 → Sep M H1) : Sep (M ++ L) H := by
  obtain ⟨H1, H2, h1, h2, h3, h4, h5⟩ := h
  have hM := k H1 h4
  clear h4 k
  induction M generalizing H1 H with
  | nil => exact h5.up h2
  | cons B M ih =>
    obtain ⟨H3, H4, k1, k2, k3, k4, k5⟩ := hM
    exact ⟨H3, H4.or H2, Hp.le_trans k1 h1, Hp.or_le (Hp.le_trans k2 h1) h2, (Apart.or k3.symm (h3.le k1 (Hp.le_refl _)).symm).symm, k4, ih (H4) (Hp.le_or_left _ _) (Hp.le_or_right (h3.le k2 (Hp.le_refl _))) (h3.le k2 (Hp.le_refl _)) k5⟩

theorem Sep.append {M L : List As} {H : Hp} (h : Sep (M ++ L) H) : ∃ H1 H2, H1.le H ∧ H2.le H ∧ Apart H1 H2 ∧ Sep M H1 ∧ Sep L H2 := by
  induction M generalizing H with
  | nil => exact ⟨fun _ => none, H, fun b o h => (by cases h), Hp.le_refl _, fun b => Or.inl rfl, trivial, h⟩
  | cons A M ih =>
    obtain ⟨H1, H2, h1, h2, h3, h4, h5⟩ := h
    obtain ⟨H3, H4, k1, k2, k3, k4, k5⟩ := ih h5
    exact ⟨H1.or H3, H4, Hp.or_le h1 (Hp.le_trans k1 h2), Hp.le_trans k2 h2, Apart.or (h3.le (Hp.le_refl _) k2) k3, ⟨H1, H3, Hp.le_or_left _ _, Hp.le_or_right (h3.le (Hp.le_refl _) k1), h3.le (Hp.le_refl _) k1, h4, k4⟩, k5⟩

theorem Sep.join {M L : List As} {H1 H2 H : Hp} (h1 : H1.le H) (h2 : H2.le H) (h3 : Apart H1 H2) (hM : Sep M H1) (hL : Sep L H2) : Sep (M ++ L) H := by
  have : Sep (Sep M :: L) H := ⟨H1, H2, h1, h2, h3, hM, hL⟩
  exact this.map (fun _ h => h)

def sel (L : List As) : List Nat → List As
  | [] => []
  | i :: is => match L[i]? with | some A => A :: sel L is | none => sel L is

def rest (L : List As) (is : List Nat) : List As := go 0 L
where go (k : Nat) : List As → List As
  | [] => []
  | A :: L => match is.contains k with | true => go (k + 1) L | false => A :: go (k + 1) L

theorem rest_nil (L : List As) : rest L [] = L := by
  have key : ∀ (L : List As) k, rest.go [] k L = L := by
    intro L
    induction L with
    | nil => intro k; rfl
    | cons A L ih => intro k; unfold rest.go; simp only [List.contains_nil]; rw [ih]
  exact key L 0

theorem perm_skip {o : Option As} {c : Prop} [Decidable c] {X : As → List As} {Y Z : List As} (hc : ¬ c) (h : Y.Perm Z) : (match o with | some A => if c then X A else Y | none => Y).Perm Z := by
  cases o with
  | none => exact h
  | some A => simp only [hc, if_false]; exact h
theorem perm_skip' {o : Option As} {c : Prop} [Decidable c] {X : As → List As} {Y Z : List As} (hc : ¬ c) (h : (match o with | some A => if c then X A else Y | none => Y).Perm Z) : Y.Perm Z := by
  cases o with
  | none => exact h
  | some A => simp only [hc, if_false] at h; exact h

theorem rest_cons (i : Nat) (is : List Nat) (hi : is.contains i = false) (L : List As) : (match L[i]? with | some A => (A :: rest L (i :: is)) | none => rest L (i :: is)).Perm (rest L is) := by
  have key : ∀ (L : List As) (k : Nat), (match L[i - k]? with | some A => if k ≤ i then (A :: rest.go (i :: is) k L) else rest.go (i :: is) k L | none => rest.go (i :: is) k L).Perm (rest.go is k L) := by
    intro L
    induction L with
    | nil => intro k; simp [rest.go]
    | cons A L ih =>
      intro k
      have ih := ih (k + 1)
      by_cases hk : k ≤ i
      · by_cases e : i = k
        · subst e
          have ih := perm_skip' (by omega) ih
          unfold rest.go
          simp only [Nat.sub_self, List.getElem?_cons_zero, Nat.le_refl, if_true]
          rw [show (i :: is).contains i = true by simp, hi]
          exact List.Perm.cons A ih
        · have hc : (i :: is).contains k = is.contains k := by
            rw [List.contains_cons, show (k == i) = false by simp; omega]; simp
          have h1 : i - k = (i - (k + 1)) + 1 := by omega
          rw [h1, List.getElem?_cons_succ]
          have hk' : k + 1 ≤ i := by omega
          simp only [hk', if_true] at ih
          simp only [hk, if_true]
          unfold rest.go
          rw [hc]
          cases hb : is.contains k with
          | true => exact ih
          | false =>
            simp only
            cases h : L[i - (k + 1)]? with
            | none => rw [h] at ih; exact List.Perm.cons A ih
            | some B => rw [h] at ih; exact (List.Perm.swap A B _).trans (List.Perm.cons A ih)
      · have ih := perm_skip' (by omega) ih
        refine perm_skip hk ?_
        have hc : (i :: is).contains k = is.contains k := by
          rw [List.contains_cons, show (k == i) = false by simp; omega]; simp
        unfold rest.go
        rw [hc]
        cases is.contains k
        · exact List.Perm.cons A ih
        · exact ih
  have := key L 0
  simpa [rest] using this

def nodupB : List Nat → Bool
  | [] => true
  | i :: is => !is.contains i && nodupB is

theorem sel_rest (L : List As) : ∀ (is : List Nat), nodupB is = true → (sel L is ++ rest L is).Perm L
  | [], _ => by rw [rest_nil]; exact .refl _
  | i :: is, h => by
    unfold nodupB at h
    simp only [Bool.and_eq_true, Bool.not_eq_true'] at h
    have ih := sel_rest L is h.2
    have hr := rest_cons i is h.1 L
    unfold sel
    cases e : L[i]? with
    | none => rw [e] at hr; exact (List.Perm.append_left _ hr).trans ih
    | some A =>
      rw [e] at hr
      refine List.Perm.trans ?_ ((List.Perm.append_left _ hr).trans ih)
      exact List.perm_middle.symm

/-- Parts in another order, or some of them only. -/
theorem Sep.re {L : List As} {H : Hp} (h : Sep L H) (is : List Nat) (hn : nodupB is = true) : Sep (sel L is) H :=
  Sep.take (Sep.perm (sel_rest L is hn).symm h)

theorem Sep.split {L : List As} {H : Hp} (h : Sep L H) (is : List Nat) (hn : nodupB is = true) : Sep (sel L is ++ rest L is) H := Sep.perm (sel_rest L is hn).symm h

theorem Sep.see {L : List As} {H : Hp} (h : Sep L H) (i : Nat) {A : As} (hi : L[i]? = some A) : ∃ H1, A H1 ∧ H1.le H := by
  have h1 : Sep [A] H := by
    have := h.re [i] rfl
    unfold sel at this
    rw [hi] at this
    exact this
  obtain ⟨H1, _, k1, _, _, k4, _⟩ := h1
  exact ⟨H1, k4, k1⟩

/-! ## One block -/

def pts (b : Nat) (o : AO) : As := fun H => H b = some o
/-- All that was known ahead stands. -/
def own (H0 : Hp) : As := fun H => H0.le H
/-- A fact. -/
def pur (p : Prop) : As := fun _ => p

theorem Sep.get {L : List As} {H : Hp} (h : Sep L H) (i : Nat) {b : Nat} {o : AO} (hi : L[i]? = some (pts b o)) : H b = some o := by
  obtain ⟨H1, h1, h2⟩ := h.see i hi
  exact h2 _ _ h1

theorem Sep.ow {L : List As} {H H0 : Hp} (h : Sep L H) (i : Nat) (hi : L[i]? = some (own H0)) : H0.le H := by
  obtain ⟨H1, h1, h2⟩ := h.see i hi
  exact Hp.le_trans h1 h2

theorem Sep.start (H : Hp) : Sep [own H] H := ⟨H, fun _ => none, Hp.le_refl _, fun b o h => (by cases h), fun b => Or.inr rfl, Hp.le_refl _, trivial⟩

theorem Sep.new {L : List As} {H : Hp} (h : Sep L H) {b : Nat} (hb : H b = none) (o : AO) : Sep (L ++ [pts b o]) (H.set b o) := by
  refine Sep.join (H1 := H) (H2 := fun c => if c = b then some o else none) (Hp.le_set hb) ?_ ?_ h ⟨_, fun _ => none, Hp.le_refl _, fun b o h => (by cases h), fun b => .inr rfl, (if_pos rfl : (if b = b then some o else none) = some o), trivial⟩
  · intro c q hq
    simp only at hq
    split at hq
    · rename_i e; subst e; rw [Hp.set_same]; exact hq
    · cases hq
  · intro c
    by_cases e : c = b
    · left; rw [e]; exact hb
    · right; simp only [e, if_false]

theorem Sep.put {L : List As} {H : Hp} (h : Sep L H) (i : Nat) {b : Nat} {o : AO} (o' : AO) (hi : L[i]? = some (pts b o)) : Sep (L.set i (pts b o')) (H.set b o') := by
  have key : ∀ (L : List As) (i : Nat) (H : Hp), Sep L H → L[i]? = some (pts b o) → Sep (L.set i (pts b o')) (H.set b o') := by
    intro L
    induction L with
    | nil => intro i H _ hi; simp at hi
    | cons A L ih =>
      intro i H h hi
      obtain ⟨H1, H2, h1, h2, h3, h4, h5⟩ := h
      cases i with
      | zero =>
        simp only [List.getElem?_cons_zero, Option.some.injEq] at hi
        subst hi
        have h4' : H1 b = some o := h4
        have hn : H2 b = none := (h3 b).resolve_left (by rw [h4']; simp)
        refine ⟨H1.set b o', H2, Hp.set_le h1 b o', fun c q hq => ?_, fun c => ?_, Hp.set_same _ _ _, h5⟩
        · rw [Hp.set_other _ _ (fun e => by rw [e, hn] at hq; cases hq)]; exact h2 c q hq
        · by_cases e : c = b
          · right; rw [e]; exact hn
          · rw [Hp.set_other _ _ e]; exact h3 c
      | succ i =>
        rw [List.getElem?_cons_succ] at hi
        have hb : H2 b = some o := Sep.get h5 i hi
        have hn : H1 b = none := (h3 b).resolve_right (by rw [hb]; simp)
        refine ⟨H1, H2.set b o', fun c q hq => ?_, Hp.set_le h2 b o', fun c => ?_, h4, ih i H2 h5 hi⟩
        · rw [Hp.set_other _ _ (fun e => by rw [e, hn] at hq; cases hq)]; exact h1 c q hq
        · by_cases e : c = b
          · left; rw [e]; exact hn
          · rw [Hp.set_other _ _ e]; exact h3 c
  exact key L i H h hi

theorem Sep.gone {L : List As} {H : Hp} (h : Sep L H) (i : Nat) {b : Nat} {o : AO} (hi : L[i]? = some (pts b o)) : Sep (rest L [i]) (H.erase b) := by
  have h1 := h.split [i] rfl
  unfold sel at h1
  rw [hi] at h1
  obtain ⟨H1, H2, k1, k2, k3, k4, k5⟩ := h1
  refine k5.up fun c q hq => ?_
  have hc : c ≠ b := fun e => by
    have k4' : H1 b = some o := k4
    rcases k3 b with e2 | e2
    · rw [k4'] at e2; cases e2
    · rw [e, e2] at hq; cases hq
  unfold Hp.erase
  rw [if_neg hc]
  exact k2 c q hq

/-! ## Steps of a formula -/

def nthV : List Value → Nat → Option Value
  | [], _ => none
  | v :: _, 0 => some v
  | _ :: l, n + 1 => nthV l n
theorem nthV_eq : ∀ (l : List Value) (i : Nat), nthV l i = l[i]?
  | [], _ => by simp [nthV]
  | v :: _, 0 => rfl
  | _ :: l, n + 1 => by simp [nthV, nthV_eq l n]

section
variable {L : List As} {H : Hp}

theorem Sep.nw (h : Sep L H) {o : AO} {K : Nat → Hp → Prop} (k : ∀ b H', Sep (L ++ [pts b o]) H' → K b H') : Nw H o K := fun b hb => k b _ (h.new hb o)

theorem Sep.ld (h : Sep L H) (i : Nat) {b j : Nat} {c : Array Value} {e : TypeId} {v : Value} {K : Value → Prop} (hi : L[i]? = some (pts b (.obj (.cells c e)))) (hv : nthV c.toList j = some v) (k : K v) : Ld H ⟨b, j, none⟩ K :=
  Ld_obj (h.get i hi) (by rw [nthV_eq, Array.getElem?_toList] at hv; exact hv) k
theorem Sep.ldr (h : Sep L H) (i : Nat) {b j : Nat} {xs : List Value} {e : TypeId} {m : Nat} {v : Value} {K : Value → Prop} (hi : L[i]? = some (pts b (.row xs e m))) (hv : xs[j]? = some v) (k : K v) : Ld H ⟨b, j, none⟩ K :=
  Ld_row (h.get i hi) hv k
theorem Sep.st (h : Sep L H) (i : Nat) {b j : Nat} {c : Array Value} {e : TypeId} {v : Value} {K : Hp → Prop} (hi : L[i]? = some (pts b (.obj (.cells c e)))) (hj : j < c.size) (hv : v.oneCell' = true)
    (k : ∀ H', Sep (L.set i (pts b (.obj (.cells (c.setIfInBounds j v) e)))) H' → K H') : St H ⟨b, j, none⟩ v K :=
  St_obj (h.get i hi) hj hv (k _ (h.put i _ hi))
theorem Sep.str (h : Sep L H) (i : Nat) {b j : Nat} {xs : List Value} {e : TypeId} {m : Nat} {v : Value} {K : Hp → Prop} (hi : L[i]? = some (pts b (.row xs e m))) (hj : j < xs.length) (hv : v.oneCell' = true)
    (k : ∀ H', Sep (L.set i (pts b (.row (xs.set j v) e m))) H' → K H') : St H ⟨b, j, none⟩ v K :=
  St_row (h.get i hi) hj hv (k _ (h.put i _ hi))
theorem Sep.lda (h : Sep L H) (i : Nat) {b off n : Nat} {c : Array Value} {e : TypeId} {K : List Value → Prop} (hi : L[i]? = some (pts b (.obj (.cells c e)))) (hn : off + n ≤ c.size) (k : K ((c.toList.drop off).take n)) : LdA H ⟨b, off, none⟩ n K :=
  LdA_at (h.get i hi) hn k
theorem Sep.sta (h : Sep L H) (i : Nat) {b off n : Nat} {c y : Array Value} {e : TypeId} {K : Hp → Prop} (hi : L[i]? = some (pts b (.obj (.cells c e)))) (hn : off + n ≤ c.size) (hy : y.size = n) (hv : y.toList.all (fun v => v.oneCell') = true)
    (k : ∀ H', Sep (L.set i (pts b (.obj (.cells (setAt c.toList off y.toList).toArray e)))) H' → K H') : StA H ⟨b, off, none⟩ y n K :=
  StA_lit (h.get i hi) hn hy hv (k _ (h.put i _ hi))
theorem Sep.mks (h : Sep L H) {P : Program} {e : TypeId} {s bs : Nat} {z : Array Value} (hi : cellInfo P e = some (s, bs, some z)) (hs : z.size = s) {l c : Int} {n m : Nat} (hl : l = n) (hc : c = m) (hnm : n ≤ m) (hm : bs * m ≤ 140737488355328) (hm2 : m ≤ 9223372036854775807) {K : Value → Hp → Prop}
    (k : ∀ b H', Sep (L ++ [pts b (.row (zeroRow z.toList n) e (m * s))]) H' → K (.slice (some ⟨b, 0, none⟩) n m) H') : MkS P e l c H K :=
  MkS_of hi hs hl hc hnm hm hm2 fun b hb => k b _ (h.new hb _)
end

/-! ## Contracts -/

/-- A call over parts of memory: what it answers, and which parts are left. -/
def Tr (P : Program) (f : FuncId) (args : Array Value) (Pre : List As) (Q : Value → List As → Prop) : Prop :=
  ∀ H, Sep Pre H → HCalls P f args H fun v H' => ∃ M, Q v M ∧ Sep M H'

theorem Tr.use {P : Program} {f : FuncId} {args : Array Value} {Pre : List As} {Q : Value → List As → Prop} (t : Tr P f args Pre Q) {L : List As} {H : Hp} (h : Sep L H) (is : List Nat) (hs : sel L is = Pre) (hn : nodupB is = true) {K : Value → Hp → Prop}
    (k : ∀ v M H', Q v M → Sep (M ++ rest L is) H' → K v H') : HCalls P f args H K := by
  have h1 := h.split is hn
  rw [hs] at h1
  obtain ⟨H1, H2, k1, k2, k3, k4, k5⟩ := h1.append
  refine ((t H1 k4).frame k1).mono ?_
  rintro v H' ⟨H1', ⟨M, hq, hM⟩, rfl, hfr⟩
  refine k v M _ hq (Sep.join (H1 := H1') (H2 := H2) (fun b o hb => ?_) (fun b o hb => ?_) (fun b => ?_) hM k5)
  · unfold Hp.patch; rw [hb]
  · have e1 : H1 b = none := (k3 b).resolve_right (by rw [hb]; simp)
    have e2 : H1' b = none := hfr b (by rw [k2 b o hb]; simp) e1
    unfold Hp.patch; rw [e2, e1]; exact k2 b o hb
  · cases e : H2 b with
    | none => exact .inr rfl
    | some o =>
      left
      exact hfr b (by rw [k2 b o e]; simp) ((k3 b).resolve_right (by rw [e]; simp))

/-! ## Deferred calls -/

theorem HCallsD.mono {P : Program} {f : FuncId} {args : Array Value} {H : Hp} {R R' : Value → Hp → Prop} (h : HCallsD P f args H R) (k : ∀ v H', R v H' → R' v H') : HCallsD P f args H R' := fun w hw c cs hc => by
  obtain ⟨e, u', w', fr, ⟨hu, v, H', rfl, hr, hA⟩, hx⟩ := h w hw c cs hc
  exact ⟨_, _, w', fr, ⟨hu, v, H', rfl, k v H' hr, hA⟩, hx⟩

theorem HCallsD.frame {P : Program} {f : FuncId} {args : Array Value} {H H1 : Hp} {R : Value → Hp → Prop} (h : HCallsD P f args H1 R) (hle : H1.le H) :
    HCallsD P f args H fun v H' => ∃ H1', R v H1' ∧ H' = H.patch H1 H1' ∧ ∀ b, H b ≠ none → H1 b = none → H1' b = none := fun w hw c cs hc => by
  have hw1 : Fits H1 w := fun b o hb => hw b o (hle b o hb)
  obtain ⟨e, u', w', fr, ⟨hu, v, H1', rfl, hr, hA⟩, hx⟩ := h w hw1 c cs hc
  refine ⟨_, _, w', fr, ⟨hu, v, _, rfl, ⟨H1', hr, rfl, fun b hb h1 => ?_⟩, hA.patch hw hle⟩, hx⟩
  cases hq : H b with
  | none => exact absurd hq hb
  | some o =>
    obtain ⟨x, hx, _⟩ := hw b o hq
    exact (hA.old b (Array.getElem?_eq_some_iff.1 hx).1 h1).1

def TrD (P : Program) (f : FuncId) (args : Array Value) (Pre : List As) (Q : Value → List As → Prop) : Prop :=
  ∀ H, Sep Pre H → HCallsD P f args H fun v H' => ∃ M, Q v M ∧ Sep M H'

theorem TrD.use {P : Program} {f : FuncId} {args : Array Value} {Pre : List As} {Q : Value → List As → Prop} (t : TrD P f args Pre Q) {L : List As} {H : Hp} (h : Sep L H) (is : List Nat) (hs : sel L is = Pre) (hn : nodupB is = true) {K : Value → Hp → Prop}
    (k : ∀ v M H', Q v M → Sep (M ++ rest L is) H' → K v H') : HCallsD P f args H K := by
  have h1 := h.split is hn
  rw [hs] at h1
  obtain ⟨H1, H2, k1, k2, k3, k4, k5⟩ := h1.append
  refine ((t H1 k4).frame k1).mono ?_
  rintro v H' ⟨H1', ⟨M, hq, hM⟩, rfl, hfr⟩
  refine k v M _ hq (Sep.join (H1 := H1') (H2 := H2) (fun b o hb => ?_) (fun b o hb => ?_) (fun b => ?_) hM k5)
  · unfold Hp.patch; rw [hb]
  · have e1 : H1 b = none := (k3 b).resolve_right (by rw [hb]; simp)
    have e2 : H1' b = none := hfr b (by rw [k2 b o hb]; simp) e1
    unfold Hp.patch; rw [e2, e1]; exact k2 b o hb
  · cases e : H2 b with
    | none => exact .inr rfl
    | some o =>
      left
      exact hfr b (by rw [k2 b o e]; simp) ((k3 b).resolve_right (by rw [e]; simp))

/-- A contract over memory that is left as it was. -/
theorem Tr.of_ret {P : Program} {f : FuncId} {args : Array Value} {Pre : List As} {v : Value} (h : ∀ H, Sep Pre H → HCalls P f args H (RetE v H)) : Tr P f args Pre fun v' M => v' = v ∧ M = Pre := fun H hs =>
  (h H hs).mono fun _ _ ⟨e1, e2⟩ => ⟨Pre, ⟨e1, rfl⟩, by rw [e2]; exact hs⟩

theorem Sep.fin {L : List As} {H H0 : Hp} (h : Sep L H) (i : Nat) (hi : L[i]? = some (own H0)) (v : Value) : Ret v H0 v H := ⟨rfl, h.ow i hi⟩

end Go.Hw
