import Derived.LaidEql
import Derived.MapKept
import Derived.Test.YtnknippcbecmeaaGreatDoorProg
import Derived.DeepKeys
import Derived.Shelf.SlIterI.Nil
import Derived.Shelf.SortM.Plain
import Derived.Shelf.SortM.SortNone
import Derived.Ground.GgzProg
import Derived.Ground.SlgmProg
import Derived.Test.YtnknippcbecmeaaGreatDoorPkRingPlays1
set_option maxRecDepth 100000
set_option linter.unusedSimpArgs false
set_option linter.unusedVariables false
set_option linter.unnecessarySimpa false
set_option linter.unusedSectionVars false
section
/- The frame of the proofs: parts of memory side by side; a call over a part of what is known leaves the rest. -/
namespace Go.Hw
open Go
def Hp.patch (H H1 H1' : Hp) : Hp := fun b => match H1' b with | some o => some o | none => match H1 b with | some _ => none | none => H b
theorem At.patch {H H1 H1' : Hp} {w w' : World} (hH : Fits H w) (hle : H1.le H) (h : At H1 w H1' w') : At H w (H.patch H1 H1') w' := by
  refine ⟨fun b o hb => ?_, h.size, h.os, h.tape, h.output, fun b hb h0 => ?_⟩
  · unfold Hp.patch at hb
    split at hb
    · rename_i o' ho'
      cases hb
      exact h.fits b _ ho'
    · rename_i hn
      split at hb
      · cases hb
      · rename_i h1
        obtain ⟨x, hx, hh⟩ := hH b o hb
        refine ⟨x, ?_, hh⟩
        rw [(h.old b (Array.getElem?_eq_some_iff.1 hx).1 h1).2]; exact hx
  · have h1 : H1 b = none := by
      cases e : H1 b with
      | none => rfl
      | some o => rw [hle b o e] at h0; cases h0
    obtain ⟨h2, h3⟩ := h.old b hb h1
    refine ⟨?_, h3⟩
    unfold Hp.patch
    rw [h2, h1]; exact h0
theorem HCalls.frame {P : Program} {f : FuncId} {args : Array Value} {H H1 : Hp} {R : Value → Hp → Prop} (h : HCalls P f args H1 R) (hle : H1.le H) :
    HCalls P f args H fun v H' => ∃ H1', R v H1' ∧ H' = H.patch H1 H1' ∧ ∀ b, H b ≠ none → H1 b = none → H1' b = none := fun w hw => by
  have hw1 : Fits H1 w := fun b o hb => hw b o (hle b o hb)
  refine (h w hw1).mono ?_
  rintro e w' ⟨v, H1', rfl, hr, hA⟩
  refine ⟨v, _, rfl, ⟨H1', hr, rfl, fun b hb h1 => ?_⟩, hA.patch hw hle⟩
  cases hq : H b with
  | none => exact absurd hq hb
  | some o =>
    obtain ⟨x, hx, _⟩ := hw b o hq
    exact (hA.old b (Array.getElem?_eq_some_iff.1 hx).1 h1).1
abbrev As := Hp → Prop
def Apart (H1 H2 : Hp) : Prop := ∀ b, H1 b = none ∨ H2 b = none
def Hp.or (H1 H2 : Hp) : Hp := fun b => match H1 b with | some o => some o | none => H2 b
theorem Hp.le_none {H H' : Hp} {b : Nat} (h : H.le H') (hn : H' b = none) : H b = none := by
  cases e : H b with
  | none => rfl
  | some o => rw [h b o e] at hn; cases hn
theorem Apart.symm {H1 H2 : Hp} (h : Apart H1 H2) : Apart H2 H1 := fun b => (h b).symm
theorem Apart.le {H1 H2 H1' H2' : Hp} (h : Apart H1 H2) (h1 : H1'.le H1) (h2 : H2'.le H2) : Apart H1' H2' := fun b =>
  (h b).elim (fun e => .inl (Hp.le_none h1 e)) (fun e => .inr (Hp.le_none h2 e))
theorem Apart.or {H1 H2 H3 : Hp} (h : Apart H1 H3) (k : Apart H2 H3) : Apart (H1.or H2) H3 := fun b => by
  unfold Hp.or
  rcases h b with e | e
  · rw [e]; exact k b
  · exact .inr e
theorem Hp.or_le {H1 H2 H : Hp} (h1 : H1.le H) (h2 : H2.le H) : (H1.or H2).le H := fun b o ho => by
  unfold Hp.or at ho
  split at ho
  · rename_i o' e; cases ho; exact h1 b _ e
  · exact h2 b o ho
theorem Hp.le_or_left (H1 H2 : Hp) : H1.le (H1.or H2) := fun b o ho => by unfold Hp.or; rw [ho]
theorem Hp.le_or_right {H1 H2 : Hp} (h : Apart H1 H2) : H2.le (H1.or H2) := fun b o ho => by
  unfold Hp.or
  rcases h b with e | e
  · rw [e]; exact ho
  · rw [e] at ho; cases ho
def Sep : List As → Hp → Prop
  | [], _ => True
  | A :: L, H => ∃ H1 H2, H1.le H ∧ H2.le H ∧ Apart H1 H2 ∧ A H1 ∧ Sep L H2
theorem Sep.up : ∀ {L : List As} {H H' : Hp}, Sep L H → H.le H' → Sep L H'
  | [], _, _, _, _ => trivial
  | _ :: _, _, _, ⟨H1, H2, h1, h2, h3, h4, h5⟩, k => ⟨H1, H2, Hp.le_trans h1 k, Hp.le_trans h2 k, h3, h4, h5⟩
theorem Sep.swap {A B : As} {L : List As} {H : Hp} : Sep (A :: B :: L) H → Sep (B :: A :: L) H
  | ⟨H1, H2, h1, h2, h3, h4, H3, H4, k1, k2, k3, k4, k5⟩ =>
    ⟨H3, H1.or H4, Hp.le_trans k1 h2, Hp.or_le h1 (Hp.le_trans k2 h2), (Apart.or (h3.le (Hp.le_refl _) k1) k3.symm).symm, k4, H1, H4, Hp.le_or_left _ _, Hp.le_or_right (h3.le (Hp.le_refl _) k2), h3.le (Hp.le_refl _) k2, h4, k5⟩
theorem Sep.perm {L L' : List As} (p : L.Perm L') : ∀ {H : Hp}, Sep L H → Sep L' H := by
  induction p with
  | nil => exact fun h => h
  | cons A _ ih => exact fun ⟨H1, H2, h1, h2, h3, h4, h5⟩ => ⟨H1, H2, h1, h2, h3, h4, ih h5⟩
  | swap A B L => exact fun h => h.swap
  | trans _ _ ih1 ih2 => exact fun h => ih2 (ih1 h)
theorem Sep.tail {A : As} {L : List As} {H : Hp} : Sep (A :: L) H → Sep L H
  | ⟨_, _, _, h2, _, _, h5⟩ => h5.up h2
theorem Sep.drop : ∀ {M L : List As} {H : Hp}, Sep (M ++ L) H → Sep L H
  | [], _, _, h => h
  | _ :: _, _, _, h => Sep.drop h.tail
theorem Sep.take {M L : List As} {H : Hp} (h : Sep (M ++ L) H) : Sep M H := Sep.drop (Sep.perm List.perm_append_comm h)
theorem Sep.map {A : As} {L M : List As} {H : Hp} (h : Sep (A :: L) H) (k : ∀ H1, A H1 → Sep M H1) : Sep (M ++ L) H := by
  obtain ⟨H1, H2, h1, h2, h3, h4, h5⟩ := h
  have hM := k H1 h4
  clear h4 k
  induction M generalizing H1 H with
  | nil => exact h5.up h2
  | cons B M ih =>
    obtain ⟨H3, H4, k1, k2, k3, k4, k5⟩ := hM
    exact ⟨H3, H4.or H2, Hp.le_trans k1 h1, Hp.or_le (Hp.le_trans k2 h1) h2, (Apart.or k3.symm (h3.le k1 (Hp.le_refl _)).symm).symm, k4, ih (H4) (Hp.le_or_left _ _) (Hp.le_or_right (h3.le k2 (Hp.le_refl _))) (h3.le k2 (Hp.le_refl _)) k5⟩
theorem Sep.append {M L : List As} {H : Hp} (h : Sep (M ++ L) H) : ∃ H1 H2, H1.le H ∧ H2.le H ∧ Apart H1 H2 ∧ Sep M H1 ∧ Sep L H2 := by
  induction M generalizing H with
  | nil => exact ⟨fun _ => none, H, fun b o h => (by cases h), Hp.le_refl _, fun b => Or.inl rfl, trivial, h⟩
  | cons A M ih =>
    obtain ⟨H1, H2, h1, h2, h3, h4, h5⟩ := h
    obtain ⟨H3, H4, k1, k2, k3, k4, k5⟩ := ih h5
    exact ⟨H1.or H3, H4, Hp.or_le h1 (Hp.le_trans k1 h2), Hp.le_trans k2 h2, Apart.or (h3.le (Hp.le_refl _) k2) k3, ⟨H1, H3, Hp.le_or_left _ _, Hp.le_or_right (h3.le (Hp.le_refl _) k1), h3.le (Hp.le_refl _) k1, h4, k4⟩, k5⟩
theorem Sep.join {M L : List As} {H1 H2 H : Hp} (h1 : H1.le H) (h2 : H2.le H) (h3 : Apart H1 H2) (hM : Sep M H1) (hL : Sep L H2) : Sep (M ++ L) H := by
  have : Sep (Sep M :: L) H := ⟨H1, H2, h1, h2, h3, hM, hL⟩
  exact this.map (fun _ h => h)
def sel (L : List As) : List Nat → List As
  | [] => []
  | i :: is => match L[i]? with | some A => A :: sel L is | none => sel L is
def rest (L : List As) (is : List Nat) : List As := go 0 L
where go (k : Nat) : List As → List As
  | [] => []
  | A :: L => match is.contains k with | true => go (k + 1) L | false => A :: go (k + 1) L
theorem rest_nil (L : List As) : rest L [] = L := by
  have key : ∀ (L : List As) k, rest.go [] k L = L := by
    intro L
    induction L with
    | nil => intro k; rfl
    | cons A L ih => intro k; unfold rest.go; simp only [List.contains_nil]; rw [ih]
  exact key L 0
theorem perm_skip {o : Option As} {c : Prop} [Decidable c] {X : As → List As} {Y Z : List As} (hc : ¬ c) (h : Y.Perm Z) : (match o with | some A => if c then X A else Y | none => Y).Perm Z := by
  cases o with
  | none => exact h
  | some A => simp only [hc, if_false]; exact h
theorem perm_skip' {o : Option As} {c : Prop} [Decidable c] {X : As → List As} {Y Z : List As} (hc : ¬ c) (h : (match o with | some A => if c then X A else Y | none => Y).Perm Z) : Y.Perm Z := by
  cases o with
  | none => exact h
  | some A => simp only [hc, if_false] at h; exact h
theorem rest_cons (i : Nat) (is : List Nat) (hi : is.contains i = false) (L : List As) : (match L[i]? with | some A => (A :: rest L (i :: is)) | none => rest L (i :: is)).Perm (rest L is) := by
  have key : ∀ (L : List As) (k : Nat), (match L[i - k]? with | some A => if k ≤ i then (A :: rest.go (i :: is) k L) else rest.go (i :: is) k L | none => rest.go (i :: is) k L).Perm (rest.go is k L) := by
    intro L
    induction L with
    | nil => intro k; simp [rest.go]
    | cons A L ih =>
      intro k
      have ih := ih (k + 1)
      by_cases hk : k ≤ i
      · by_cases e : i = k
        · subst e
          have ih := perm_skip' (by omega) ih
          unfold rest.go
          simp only [Nat.sub_self, List.getElem?_cons_zero, Nat.le_refl, if_true]
          rw [show (i :: is).contains i = true by simp, hi]
          exact List.Perm.cons A ih
        · have hc : (i :: is).contains k = is.contains k := by
            rw [List.contains_cons, show (k == i) = false by simp; omega]; simp
          have h1 : i - k = (i - (k + 1)) + 1 := by omega
          rw [h1, List.getElem?_cons_succ]
          have hk' : k + 1 ≤ i := by omega
          simp only [hk', if_true] at ih
          simp only [hk, if_true]
          unfold rest.go
          rw [hc]
          cases hb : is.contains k with
          | true => exact ih
          | false =>
            simp only
            cases h : L[i - (k + 1)]? with
            | none => rw [h] at ih; exact List.Perm.cons A ih
            | some B => rw [h] at ih; exact (List.Perm.swap A B _).trans (List.Perm.cons A ih)
      · have ih := perm_skip' (by omega) ih
        refine perm_skip hk ?_
        have hc : (i :: is).contains k = is.contains k := by
          rw [List.contains_cons, show (k == i) = false by simp; omega]; simp
        unfold rest.go
        rw [hc]
        cases is.contains k
        · exact List.Perm.cons A ih
        · exact ih
  have := key L 0
  simpa [rest] using this
def nodupB : List Nat → Bool
  | [] => true
  | i :: is => !is.contains i && nodupB is
theorem sel_rest (L : List As) : ∀ (is : List Nat), nodupB is = true → (sel L is ++ rest L is).Perm L
  | [], _ => by rw [rest_nil]; exact .refl _
  | i :: is, h => by
    unfold nodupB at h
    simp only [Bool.and_eq_true, Bool.not_eq_true'] at h
    have ih := sel_rest L is h.2
    have hr := rest_cons i is h.1 L
    unfold sel
    cases e : L[i]? with
    | none => rw [e] at hr; exact (List.Perm.append_left _ hr).trans ih
    | some A =>
      rw [e] at hr
      refine List.Perm.trans ?_ ((List.Perm.append_left _ hr).trans ih)
      exact List.perm_middle.symm
theorem Sep.re {L : List As} {H : Hp} (h : Sep L H) (is : List Nat) (hn : nodupB is = true) : Sep (sel L is) H :=
  Sep.take (Sep.perm (sel_rest L is hn).symm h)
theorem Sep.split {L : List As} {H : Hp} (h : Sep L H) (is : List Nat) (hn : nodupB is = true) : Sep (sel L is ++ rest L is) H := Sep.perm (sel_rest L is hn).symm h
theorem Sep.see {L : List As} {H : Hp} (h : Sep L H) (i : Nat) {A : As} (hi : L[i]? = some A) : ∃ H1, A H1 ∧ H1.le H := by
  have h1 : Sep [A] H := by
    have := h.re [i] rfl
    unfold sel at this
    rw [hi] at this
    exact this
  obtain ⟨H1, _, k1, _, _, k4, _⟩ := h1
  exact ⟨H1, k4, k1⟩
def pts (b : Nat) (o : AO) : As := fun H => H b = some o
def own (H0 : Hp) : As := fun H => H0.le H
theorem Sep.get {L : List As} {H : Hp} (h : Sep L H) (i : Nat) {b : Nat} {o : AO} (hi : L[i]? = some (pts b o)) : H b = some o := by
  obtain ⟨H1, h1, h2⟩ := h.see i hi
  exact h2 _ _ h1
theorem Sep.ow {L : List As} {H H0 : Hp} (h : Sep L H) (i : Nat) (hi : L[i]? = some (own H0)) : H0.le H := by
  obtain ⟨H1, h1, h2⟩ := h.see i hi
  exact Hp.le_trans h1 h2
theorem Sep.start (H : Hp) : Sep [own H] H := ⟨H, fun _ => none, Hp.le_refl _, fun b o h => (by cases h), fun b => Or.inr rfl, Hp.le_refl _, trivial⟩
theorem Sep.new {L : List As} {H : Hp} (h : Sep L H) {b : Nat} (hb : H b = none) (o : AO) : Sep (L ++ [pts b o]) (H.set b o) := by
  refine Sep.join (H1 := H) (H2 := fun c => if c = b then some o else none) (Hp.le_set hb) ?_ ?_ h ⟨_, fun _ => none, Hp.le_refl _, fun b o h => (by cases h), fun b => .inr rfl, (if_pos rfl : (if b = b then some o else none) = some o), trivial⟩
  · intro c q hq
    simp only at hq
    split at hq
    · rename_i e; subst e; rw [Hp.set_same]; exact hq
    · cases hq
  · intro c
    by_cases e : c = b
    · left; rw [e]; exact hb
    · right; simp only [e, if_false]
theorem Sep.put {L : List As} {H : Hp} (h : Sep L H) (i : Nat) {b : Nat} {o : AO} (o' : AO) (hi : L[i]? = some (pts b o)) : Sep (L.set i (pts b o')) (H.set b o') := by
  have key : ∀ (L : List As) (i : Nat) (H : Hp), Sep L H → L[i]? = some (pts b o) → Sep (L.set i (pts b o')) (H.set b o') := by
    intro L
    induction L with
    | nil => intro i H _ hi; simp at hi
    | cons A L ih =>
      intro i H h hi
      obtain ⟨H1, H2, h1, h2, h3, h4, h5⟩ := h
      cases i with
      | zero =>
        simp only [List.getElem?_cons_zero, Option.some.injEq] at hi
        subst hi
        have h4' : H1 b = some o := h4
        have hn : H2 b = none := (h3 b).resolve_left (by rw [h4']; simp)
        refine ⟨H1.set b o', H2, Hp.set_le h1 b o', fun c q hq => ?_, fun c => ?_, Hp.set_same _ _ _, h5⟩
        · rw [Hp.set_other _ _ (fun e => by rw [e, hn] at hq; cases hq)]; exact h2 c q hq
        · by_cases e : c = b
          · right; rw [e]; exact hn
          · rw [Hp.set_other _ _ e]; exact h3 c
      | succ i =>
        rw [List.getElem?_cons_succ] at hi
        have hb : H2 b = some o := Sep.get h5 i hi
        have hn : H1 b = none := (h3 b).resolve_right (by rw [hb]; simp)
        refine ⟨H1, H2.set b o', fun c q hq => ?_, Hp.set_le h2 b o', fun c => ?_, h4, ih i H2 h5 hi⟩
        · rw [Hp.set_other _ _ (fun e => by rw [e, hn] at hq; cases hq)]; exact h1 c q hq
        · by_cases e : c = b
          · left; rw [e]; exact hn
          · rw [Hp.set_other _ _ e]; exact h3 c
  exact key L i H h hi
def nthV : List Value → Nat → Option Value
  | [], _ => none
  | v :: _, 0 => some v
  | _ :: l, n + 1 => nthV l n
theorem nthV_eq : ∀ (l : List Value) (i : Nat), nthV l i = l[i]?
  | [], _ => by simp [nthV]
  | v :: _, 0 => rfl
  | _ :: l, n + 1 => by simp [nthV, nthV_eq l n]
section
variable {L : List As} {H : Hp}
theorem Sep.nw (h : Sep L H) {o : AO} {K : Nat → Hp → Prop} (k : ∀ b H', Sep (L ++ [pts b o]) H' → K b H') : Nw H o K := fun b hb => k b _ (h.new hb o)
theorem Sep.ld (h : Sep L H) (i : Nat) {b j : Nat} {c : Array Value} {e : TypeId} {v : Value} {K : Value → Prop} (hi : L[i]? = some (pts b (.obj (.cells c e)))) (hv : nthV c.toList j = some v) (k : K v) : Ld H ⟨b, j, none⟩ K :=
  Ld_obj (h.get i hi) (by rw [nthV_eq, Array.getElem?_toList] at hv; exact hv) k
theorem Sep.st (h : Sep L H) (i : Nat) {b j : Nat} {c : Array Value} {e : TypeId} {v : Value} {K : Hp → Prop} (hi : L[i]? = some (pts b (.obj (.cells c e)))) (hj : j < c.size) (hv : v.oneCell' = true)
    (k : ∀ H', Sep (L.set i (pts b (.obj (.cells (c.setIfInBounds j v) e)))) H' → K H') : St H ⟨b, j, none⟩ v K :=
  St_obj (h.get i hi) hj hv (k _ (h.put i _ hi))
theorem Sep.lda (h : Sep L H) (i : Nat) {b off n : Nat} {c : Array Value} {e : TypeId} {K : List Value → Prop} (hi : L[i]? = some (pts b (.obj (.cells c e)))) (hn : off + n ≤ c.size) (k : K ((c.toList.drop off).take n)) : LdA H ⟨b, off, none⟩ n K :=
  LdA_at (h.get i hi) hn k
theorem Sep.mks (h : Sep L H) {P : Program} {e : TypeId} {s bs : Nat} {z : Array Value} (hi : cellInfo P e = some (s, bs, some z)) (hs : z.size = s) {l c : Int} {n m : Nat} (hl : l = n) (hc : c = m) (hnm : n ≤ m) (hm : bs * m ≤ 140737488355328) (hm2 : m ≤ 9223372036854775807) {K : Value → Hp → Prop}
    (k : ∀ b H', Sep (L ++ [pts b (.row (zeroRow z.toList n) e (m * s))]) H' → K (.slice (some ⟨b, 0, none⟩) n m) H') : MkS P e l c H K :=
  MkS_of hi hs hl hc hnm hm hm2 fun b hb => k b _ (h.new hb _)
end
def Tr (P : Program) (f : FuncId) (args : Array Value) (Pre : List As) (Q : Value → List As → Prop) : Prop :=
  ∀ H, Sep Pre H → HCalls P f args H fun v H' => ∃ M, Q v M ∧ Sep M H'
theorem Tr.use {P : Program} {f : FuncId} {args : Array Value} {Pre : List As} {Q : Value → List As → Prop} (t : Tr P f args Pre Q) {L : List As} {H : Hp} (h : Sep L H) (is : List Nat) (hs : sel L is = Pre) (hn : nodupB is = true) {K : Value → Hp → Prop}
    (k : ∀ v M H', Q v M → Sep (M ++ rest L is) H' → K v H') : HCalls P f args H K := by
  have h1 := h.split is hn
  rw [hs] at h1
  obtain ⟨H1, H2, k1, k2, k3, k4, k5⟩ := h1.append
  refine ((t H1 k4).frame k1).mono ?_
  rintro v H' ⟨H1', ⟨M, hq, hM⟩, rfl, hfr⟩
  refine k v M _ hq (Sep.join (H1 := H1') (H2 := H2) (fun b o hb => ?_) (fun b o hb => ?_) (fun b => ?_) hM k5)
  · unfold Hp.patch; rw [hb]
  · have e1 : H1 b = none := (k3 b).resolve_right (by rw [hb]; simp)
    have e2 : H1' b = none := hfr b (by rw [k2 b o hb]; simp) e1
    unfold Hp.patch; rw [e2, e1]; exact k2 b o hb
  · cases e : H2 b with
    | none => exact .inr rfl
    | some o =>
      left
      exact hfr b (by rw [k2 b o e]; simp) ((k3 b).resolve_right (by rw [e]; simp))
theorem HCallsD.frame {P : Program} {f : FuncId} {args : Array Value} {H H1 : Hp} {R : Value → Hp → Prop} (h : HCallsD P f args H1 R) (hle : H1.le H) :
    HCallsD P f args H fun v H' => ∃ H1', R v H1' ∧ H' = H.patch H1 H1' ∧ ∀ b, H b ≠ none → H1 b = none → H1' b = none := fun w hw c cs hc => by
  have hw1 : Fits H1 w := fun b o hb => hw b o (hle b o hb)
  obtain ⟨e, u', w', fr, ⟨hu, v, H1', rfl, hr, hA⟩, hx⟩ := h w hw1 c cs hc
  refine ⟨_, _, w', fr, ⟨hu, v, _, rfl, ⟨H1', hr, rfl, fun b hb h1 => ?_⟩, hA.patch hw hle⟩, hx⟩
  cases hq : H b with
  | none => exact absurd hq hb
  | some o =>
    obtain ⟨x, hx, _⟩ := hw b o hq
    exact (hA.old b (Array.getElem?_eq_some_iff.1 hx).1 h1).1
theorem Sep.fin {L : List As} {H H0 : Hp} (h : Sep L H) (i : Nat) (hi : L[i]? = some (own H0)) (v : Value) : Ret v H0 v H := ⟨rfl, h.ow i hi⟩
end Go.Hw
end
section
/- The frame of the proofs: slices of one's own, as parts of memory; elements of several cells. -/
namespace Go.Hw
open Go
theorem erase_none {G : Hp} {q : Nat} (b : Nat) (h : G q = none) : G.erase b q = none := by
  unfold Hp.erase; split
  · rfl
  · exact h
def Own (e : TypeId) (s : Nat) (A : Option Addr) (n m : Nat) (xs : List Value) : As := fun H =>
  xs.length = n * s ∧ ((A = none ∧ n = 0 ∧ m = 0) ∨ ∃ b mm, A = some ⟨b, 0, none⟩ ∧ H b = some (.row xs e mm) ∧ m * s ≤ mm)
theorem Own.up {e : TypeId} {s : Nat} {A : Option Addr} {n m : Nat} {xs : List Value} {H H' : Hp} (h : Own e s A n m xs H) (k : H.le H') : Own e s A n m xs H' := by
  obtain ⟨h1, h2⟩ := h
  refine ⟨h1, h2.imp id ?_⟩
  rintro ⟨b, mm, h3, h4, h5⟩
  exact ⟨b, mm, h3, k _ _ h4, h5⟩
theorem Own.none (e : TypeId) (s : Nat) (H : Hp) : Own e s .none 0 0 [] H := ⟨by simp, .inl ⟨rfl, rfl, rfl⟩⟩
section
variable {L : List As} {H : Hp}
theorem Sep.own (h : Sep L H) (i : Nat) {e : TypeId} {s : Nat} {A : Option Addr} {n m : Nat} {xs : List Value} (hi : L[i]? = some (Own e s A n m xs)) : Own e s A n m xs H := by
  obtain ⟨H1, h1, h2⟩ := h.see i hi
  exact h1.up h2
theorem Sep.turn (h : Sep L H) (i : Nat) {A : As} (hi : L[i]? = some A) {B : As} (k : ∀ H1, A H1 → B H1) : Sep (L.set i B) H := by
  induction L generalizing i H with
  | nil => simp at hi
  | cons C L ih =>
    obtain ⟨H1, H2, h1, h2, h3, h4, h5⟩ := h
    cases i with
    | zero =>
      simp only [List.getElem?_cons_zero, Option.some.injEq] at hi
      subst hi
      exact ⟨H1, H2, h1, h2, h3, k _ h4, h5⟩
    | succ i => exact ⟨H1, H2, h1, h2, h3, h4, ih h5 i hi⟩
theorem Sep.turn' (h : Sep L H) (i : Nat) {A : As} (hi : L[i]? = some A) {B : As} (k : ∀ H1, H1.le H → A H1 → B H1) : Sep (L.set i B) H := by
  induction L generalizing i H with
  | nil => simp at hi
  | cons C L ih =>
    obtain ⟨H1, H2, h1, h2, h3, h4, h5⟩ := h
    cases i with
    | zero =>
      simp only [List.getElem?_cons_zero, Option.some.injEq] at hi
      subst hi
      exact ⟨H1, H2, h1, h2, h3, k _ h1 h4, h5⟩
    | succ i => exact ⟨H1, H2, h1, h2, h3, h4, ih h5 i hi fun G hG hA => k G (Hp.le_trans hG h2) hA⟩
theorem Sep.unown (h : Sep L H) (i : Nat) {e : TypeId} {s : Nat} {A : Option Addr} {n m : Nat} {xs : List Value} (hi : L[i]? = some (Own e s A n m xs)) :
    (A = none ∧ n = 0 ∧ m = 0 ∧ xs = []) ∨ ∃ b mm, A = some ⟨b, 0, .none⟩ ∧ m * s ≤ mm ∧ xs.length = n * s ∧ Sep (L.set i (pts b (.row xs e mm))) H := by
  obtain ⟨h1, h2⟩ := h.own i hi
  rcases h2 with ⟨h2, h3, h4⟩ | ⟨b, mm, rfl, h4, h5⟩
  · refine .inl ⟨h2, h3, h4, ?_⟩
    rw [h3] at h1
    cases xs with
    | nil => rfl
    | cons x l => simp at h1
  · refine .inr ⟨b, mm, rfl, h5, h1, h.turn' i hi fun H1 hle hO => ?_⟩
    obtain ⟨_, k2⟩ := hO
    rcases k2 with ⟨k2, _⟩ | ⟨b', mm', k2, k3, _⟩
    · cases k2
    · cases k2
      have := hle _ _ k3
      rw [h4] at this; cases this
      exact k3
theorem Sep.putIn (h : Sep L H) (i : Nat) {A : As} (hi : L[i]? = some A) {b : Nat} {o' : AO} {B : As} (k : ∀ H1, H1.le H → A H1 → ∃ o, H1 b = some o ∧ B (H1.set b o')) : Sep (L.set i B) (H.set b o') := by
  induction L generalizing i H with
  | nil => simp at hi
  | cons C L ih =>
    obtain ⟨H1, H2, h1, h2, h3, h4, h5⟩ := h
    cases i with
    | zero =>
      simp only [List.getElem?_cons_zero, Option.some.injEq] at hi
      subst hi
      obtain ⟨o, ho, hB⟩ := k H1 h1 h4
      have hn : H2 b = none := (h3 b).resolve_left (by rw [ho]; simp)
      refine ⟨H1.set b o', H2, Hp.set_le h1 b o', fun c q hq => ?_, fun c => ?_, hB, h5⟩
      · rw [Hp.set_other _ _ (fun e => by rw [e, hn] at hq; cases hq)]; exact h2 c q hq
      · by_cases e : c = b
        · right; rw [e]; exact hn
        · rw [Hp.set_other _ _ e]; exact h3 c
    | succ i =>
      rw [List.getElem?_cons_succ] at hi
      have ih' := ih h5 i hi (fun G hG hA => k G (Hp.le_trans hG h2) hA)
      have hb : ∃ o, H2 b = some o := by
        obtain ⟨G, hG, hle⟩ := h5.see i hi
        obtain ⟨o, ho, _⟩ := k G (Hp.le_trans hle h2) hG
        exact ⟨o, hle _ _ ho⟩
      obtain ⟨o, hb⟩ := hb
      have hn : H1 b = none := (h3 b).resolve_right (by rw [hb]; simp)
      refine ⟨H1, H2.set b o', fun c q hq => ?_, Hp.set_le h2 b o', fun c => ?_, h4, ih'⟩
      · rw [Hp.set_other _ _ (fun e => by rw [e, hn] at hq; cases hq)]; exact h1 c q hq
      · by_cases e : c = b
        · left; rw [e]; exact hn
        · rw [Hp.set_other _ _ e]; exact h3 c
theorem Own.rd {e : TypeId} {s : Nat} {A : Option Addr} {n m : Nat} {xs : List Value} (h : Own e s A n m xs H) {x : Int} {j : Nat} (hx : x = j) (k : Nat) (hk : k < s) {v : Value} (hv : xs[j * s + k]? = some v) {K : Value → Prop} (kk : K v) :
    ixI x n (NN A fun a => Ld H ((a.add (x.toNat * s)).add k) K) := by
  subst hx
  obtain ⟨h1, h2⟩ := h
  have hlt := (List.getElem?_eq_some_iff.1 hv).1
  have hj : j < n := by
    rw [h1] at hlt
    have h3 : j * s < n * s := by omega
    exact Nat.lt_of_mul_lt_mul_right h3
  refine ⟨by omega, by omega, ?_⟩
  rcases h2 with ⟨_, h3, _⟩ | ⟨b, mm, rfl, h4, _⟩
  · omega
  · refine Ld_of ?_ kk
    rw [Int.toNat_natCast, Addr.add_lit', Addr.add_lit', Nat.zero_add, cell_row h4]; exact hv
theorem Own.rd0 {e : TypeId} {s : Nat} {A : Option Addr} {n m : Nat} {xs : List Value} (h : Own e s A n m xs H) {x : Int} {j : Nat} (hx : x = j) (hs : 0 < s) {v : Value} (hv : xs[j * s]? = some v) {K : Value → Prop} (kk : K v) :
    ixI x n (NN A fun a => Ld H (a.add (x.toNat * s)) K) := h.rd hx 0 hs hv kk
theorem Own.rd1 {e : TypeId} {A : Option Addr} {n m : Nat} {xs : List Value} (h : Own e 1 A n m xs H) {x : Int} {j : Nat} (hx : x = j) {v : Value} (hv : xs[j]? = some v) {K : Value → Prop} (kk : K v) :
    ixI x n (NN A fun a => Ld H (a.add (x.toNat * 1)) K) := h.rd0 hx (by omega) (by rw [Nat.mul_one]; exact hv) kk
theorem Own.rdA {e : TypeId} {s : Nat} {A : Option Addr} {n m : Nat} {xs : List Value} (h : Own e s A n m xs H) {x : Int} {j : Nat} (hx : x = j) (hj : j < n) {ys : List Value} (hy : (xs.drop (j * s)).take s = ys) {K : List Value → Prop} (k : K ys) :
    ixI x n (NN A fun a => LdA H (a.add (x.toNat * s)) s K) := by
  subst hx
  obtain ⟨h1, h2⟩ := h
  refine ⟨by omega, by omega, ?_⟩
  rcases h2 with ⟨_, h3, _⟩ | ⟨b, mm, rfl, h4, _⟩
  · omega
  · have hle : j * s + s ≤ xs.length := by
      rw [h1]
      have : (j + 1) * s ≤ n * s := Nat.mul_le_mul_right s hj
      rw [Nat.succ_mul] at this; omega
    show LdA H _ s K
    unfold LdA
    rw [Int.toNat_natCast, Addr.add_lit', Nat.zero_add, cells_row h4 (j * s) s 0 (by omega), Nat.add_zero, hy]
    exact k
theorem Sep.app (h : Sep L H) (i : Nat) {P : Program} {e : TypeId} {s bs : Nat} {z : Array Value} {A : Option Addr} {n m k : Nat} {xs ys : List Value} {x : Value} (hi : L[i]? = some (Own e s A n m xs)) (hc : cellInfo P e = some (s, bs, some z)) (hz : z.size = s) (hbs : bs ≤ 1073741824) (hs : 0 < s)
    (hn : lenV x = some k) (hsrc : srcCells H s k x = some ys) (hy : ys.length = k * s) (hone : ys.all (fun y => y.oneCell') = true) (h1 : (n + k) * bs ≤ 35184372088832) (h2 : n + k ≤ 35184372088832) {K : Value → Hp → Prop}
    (kk : ∀ A' m' H', Sep (L.set i (Own e s A' (n + k) m' (xs ++ ys))) H' → K (.slice A' (n + k) m') H') : AppK P e (.slice A n m) x H K := by
  have hO := h.own i hi
  have hone' : ∀ y ∈ ys, y.oneCell' = true := fun y hy' => List.all_eq_true.1 hone y hy'
  obtain ⟨g1, g2⟩ := hO
  rcases g2 with ⟨rfl, rfl, rfl⟩ | ⟨b, mm, rfl, g4, g5⟩
  · rw [Nat.zero_add] at h1 h2
    obtain rfl : xs = [] := by cases xs <;> simp_all
    refine AppK_nil hc hz hbs hn hsrc hy hone' h1 h2 (fun h0 => ?_) (fun _ b c hbc hb => ?_)
    · have hys : ys = [] := by
        subst h0
        cases ys with
        | nil => rfl
        | cons y ys => simp at hy
      subst hys
      subst h0
      refine kk .none 0 H ?_
      have := h.turn i hi (B := Own e s .none (0 + 0) 0 ([] ++ [])) (fun H1 _ => Own.none e s H1)
      exact this
    · have : Sep (L.set i (pts b (.row ys e (c * s)))) (H.set b (.row ys e (c * s))) := by
        have h3 := (h.new hb (.row ys e (c * s)))
        have h4 : Sep ((L ++ [pts b (.row ys e (c * s))]).set i (fun _ => True)) (H.set b (.row ys e (c * s))) := Sep.turn h3 i (A := Own e s .none 0 0 []) (by rw [List.getElem?_append_left (List.getElem?_eq_some_iff.1 hi).1]; exact hi) (fun _ _ => trivial)
        have hlt := (List.getElem?_eq_some_iff.1 hi).1
        rw [List.set_append_left _ _ hlt] at h4
        have hp : (L.set i (fun _ => True) ++ [pts b (.row ys e (c * s))]).Perm (L.set i (pts b (.row ys e (c * s))) ++ [fun _ => True]) := by
          rw [List.set_eq_take_append_cons_drop, List.set_eq_take_append_cons_drop]
          simp only [hlt, if_true, List.append_assoc, List.cons_append]
          refine List.Perm.append_left _ ?_
          have a1 : ∀ (X : As) (l : List As) (Y : As), (X :: (l ++ [Y])).Perm (Y :: (l ++ [X])) := fun X l Y => by
            have b1 : (X :: (l ++ [Y])).Perm (X :: Y :: l) := List.Perm.cons X (List.perm_append_comm (l₁ := l) (l₂ := [Y]))
            have b2 : (Y :: (l ++ [X])).Perm (Y :: X :: l) := List.Perm.cons Y (List.perm_append_comm (l₁ := l) (l₂ := [X]))
            exact b1.trans ((List.Perm.swap Y X l).trans b2.symm)
          exact a1 _ _ _
        exact Sep.take (Sep.perm hp h4)
      rw [show (k : Nat) = 0 + k by omega]
      refine kk _ c _ (this.turn i (A := pts b (.row ys e (c * s))) (by rw [List.getElem?_set]; simp [(List.getElem?_eq_some_iff.1 hi).1]) (B := Own e s (some ⟨b, 0, .none⟩) (0 + k) c ([] ++ ys)) (fun H1 hH1 => ⟨by simpa using hy, .inr ⟨b, _, rfl, (by rw [List.nil_append]; exact hH1 : H1 b = some (.row ([] ++ ys) e (c * s))), Nat.le_refl _⟩⟩) |> fun q => ?_)
      rw [List.set_set] at q
      exact q
  · refine AppK_own hc hz hbs g4 g1 g5 hn hsrc hy hone' h1 h2 fun b' c m' hc1 hc2 hb' => ?_
    refine kk _ c _ ?_
    -- the old row is given up, the new one made
    have hlt := (List.getElem?_eq_some_iff.1 hi).1
    have key : ∀ (L : List As) (i : Nat) (H : Hp), Sep L H → L[i]? = some (Own e s (some ⟨b, 0, .none⟩) n m xs) → 0 < s → (H.erase b) b' = none → Sep (L.set i (Own e s (some ⟨b', 0, .none⟩) (n + k) c (xs ++ ys))) ((H.erase b).set b' (.row (xs ++ ys) e m')) := by
      intro L
      induction L with
      | nil => intro i H _ hi; simp at hi
      | cons C L ih =>
        intro i H hS hi hs hb'
        obtain ⟨H1, H2, k1, k2, k3, k4, k5⟩ := hS
        have el : ∀ {G G' : Hp}, G.le G' → (G.erase b).le (G'.erase b) := fun hle c q hq => by
          unfold Hp.erase at hq ⊢
          split at hq
          · cases hq
          · rename_i hc; rw [if_neg hc]; exact hle c q hq
        have en : ∀ {G : Hp}, G b = .none → G.erase b = G := fun hG => by
          funext q; unfold Hp.erase; split
          · rename_i e; rw [e, hG]
          · rfl
        cases i with
        | zero =>
          simp only [List.getElem?_cons_zero, Option.some.injEq] at hi
          subst hi
          have hbs : ∃ o, H1 b = some o := by
            obtain ⟨_, q⟩ := k4
            rcases q with ⟨q, _⟩ | ⟨b2, mm2, q1, q2, _⟩
            · cases q
            · cases q1; exact ⟨_, q2⟩
          obtain ⟨o, hbs⟩ := hbs
          have hn2 : H2 b = .none := (k3 b).resolve_left (by rw [hbs]; simp)
          have hle2 : H2.le (H.erase b) := by have := el k2; rw [en hn2] at this; exact this
          refine ⟨(H1.erase b).set b' (.row (xs ++ ys) e m'), H2, Hp.set_le (el k1) _ _, Hp.le_trans hle2 (Hp.le_set hb'), fun q => ?_, ⟨by rw [List.length_append, g1, hy, Nat.add_mul], .inr ⟨b', m', rfl, Hp.set_same _ _ _, hc2⟩⟩, k5⟩
          by_cases e : q = b'
          · right; rw [e]; exact Hp.le_none hle2 hb'
          · rw [Hp.set_other _ _ e]
            rcases k3 q with e2 | e2
            · exact .inl (erase_none b e2)
            · exact .inr e2
        | succ i =>
          rw [List.getElem?_cons_succ] at hi
          have hbs : ∃ o, H2 b = some o := by
            obtain ⟨G, ⟨_, q⟩, hle⟩ := k5.see i hi
            rcases q with ⟨q, _⟩ | ⟨b2, mm2, q1, q2, _⟩
            · cases q
            · cases q1; exact ⟨_, hle _ _ q2⟩
          obtain ⟨o, hbs⟩ := hbs
          have hn1 : H1 b = .none := (k3 b).resolve_right (by rw [hbs]; simp)
          have hle1 : H1.le (H.erase b) := by have := el k1; rw [en hn1] at this; exact this
          refine ⟨H1, (H2.erase b).set b' (.row (xs ++ ys) e m'), Hp.le_trans hle1 (Hp.le_set hb'), Hp.set_le (el k2) _ _, fun q => ?_, k4, ih i H2 k5 hi hs (Hp.le_none (el k2) hb')⟩
          by_cases e : q = b'
          · left; rw [e]; exact Hp.le_none hle1 hb'
          · rw [Hp.set_other _ _ e]
            rcases k3 q with e2 | e2
            · exact .inl e2
            · exact .inr (erase_none b e2)
    exact key L i H h hi hs hb'
theorem Sep.appS (h : Sep L H) (i : Nat) {P : Program} {e e' : TypeId} {s bs : Nat} {z : Array Value} {A : Option Addr} {n m : Nat} {xs ys : List Value} (hi : L[i]? = some (Own e s A n m xs)) (hc : cellInfo P e = some (s, bs, some z)) (hz : z.size = s) (hbs : bs ≤ 1073741824) (hs : 0 < s) (hy : ys.length = s) (hv : ys.all (fun y => y.oneCell') = true) (h2 : (n + 1) * bs ≤ 35184372088832) (h3 : n + 1 ≤ 35184372088832) {K : Value → Hp → Prop}
    (kk : ∀ A' m' H', Sep (L.set i (Own e s A' (n + 1) m' (xs ++ ys))) H' → K (.slice A' (n + 1) m') H') : Nw H (.row ys e' s) fun b H' => AppK P e (.slice A n m) (.slice (some ⟨b, 0, none⟩) 1 1) H' K := by
  refine h.nw fun b H' h' => ?_
  have hlt := (List.getElem?_eq_some_iff.1 hi).1
  refine h'.app i (k := 1) (ys := ys) (by rw [List.getElem?_append_left hlt]; exact hi) hc hz hbs hs rfl ?_ (by rw [hy, Nat.one_mul]) hv h2 h3 fun A' m' H'' h'' => ?_
  · show H'.cells? ⟨b, 0, none⟩ 0 (1 * s) = some ys
    rw [Nat.one_mul, cells_row (h'.get L.length (b := b) (o := .row ys e' s) (by simp)) 0 s 0 (by omega)]
    simp [← hy]
  · rw [List.set_append_left _ _ hlt] at h''
    exact kk A' m' H'' (Sep.take h'')
theorem Sep.app1 (h : Sep L H) (i : Nat) {P : Program} {e e' : TypeId} {bs : Nat} {v0 : Value} {A : Option Addr} {n m : Nat} {xs : List Value} {v : Value} (hi : L[i]? = some (Own e 1 A n m xs)) (hc : cellInfo P e = some (1, bs, some #[v0])) (hbs : bs ≤ 1073741824) (hv : v.oneCell' = true) (h2 : (n + 1) * bs ≤ 35184372088832) (h3 : n + 1 ≤ 35184372088832) {K : Value → Hp → Prop}
    (kk : ∀ A' m' H', Sep (L.set i (Own e 1 A' (n + 1) m' (xs ++ [v]))) H' → K (.slice A' (n + 1) m') H') : Nw H (.row [v] e' 1) fun b H' => AppK P e (.slice A n m) (.slice (some ⟨b, 0, none⟩) 1 1) H' K := by
  refine h.nw fun b H' h' => ?_
  have hlt := (List.getElem?_eq_some_iff.1 hi).1
  refine h'.app i (k := 1) (ys := [v]) (by rw [List.getElem?_append_left hlt]; exact hi) hc rfl hbs (by omega) rfl (src_of (Cells.row (h'.get L.length (b := b) (o := .row [v] e' 1) (by simp)) 0 1) rfl) rfl (by simp [hv]) h2 h3 fun A' m' H'' h'' => ?_
  rw [List.set_append_left _ _ hlt] at h''
  exact kk A' m' H'' (Sep.take h'')
end
section
variable {L : List As} {H : Hp}
theorem Sep.ldw (h : Sep L H) (i : Nat) {b n : Nat} {c : Array Value} {e : TypeId} {K : List Value → Prop} (hi : L[i]? = some (pts b (.obj (.cells c e)))) (hn : c.size = n) (k : K c.toList) : LdA H ⟨b, 0, none⟩ n K := LdA_obj (h.get i hi) hn k
theorem Sep.stw (h : Sep L H) (i : Nat) {b n : Nat} {c y : Array Value} {e : TypeId} {K : Hp → Prop} (hi : L[i]? = some (pts b (.obj (.cells c e)))) (hn : c.size = n) (hy : y.size = n) (hv : y.toList.all (fun v => v.oneCell') = true)
    (k : ∀ H', Sep (L.set i (pts b (.obj (.cells y e)))) H' → K H') : StA H ⟨b, 0, none⟩ y n K := StA_all (h.get i hi) hn hy hv (k _ (h.put i _ hi))
end
section
variable {L : List As} {H : Hp}
end
theorem Cells.obj {H : Hp} {b : Nat} {c : Array Value} {e : TypeId} (h : H b = some (.obj (.cells c e))) (n : Nat) : Cells H (some ⟨b, 0, none⟩) (c.toList.take n) := fun i v hi => by
  refine ⟨_, rfl, ?_⟩
  rw [Addr.add_lit', Nat.zero_add, cell_obj h]
  rw [List.getElem?_take] at hi
  split at hi
  · rw [Array.getElem?_toList] at hi; exact hi
  · cases hi
theorem puts_row {e : TypeId} {b off m : Nat} : ∀ (l : List Value) (i : Nat) (H : Hp) (xs : List Value), H b = some (.row xs e m) → off + i + l.length ≤ xs.length → (∀ v ∈ l, v.oneCell' = true) →
    H.puts? ⟨b, off, none⟩ i l = some (H.set b (.row (setAt xs (off + i) l) e m))
  | [], i, H, xs, h, hi, _ => by simp [Hp.puts?, setAt_nil, Hp.set_id h]
  | v :: l, i, H, xs, h, hi, hv => by
    unfold Hp.puts?
    simp only [List.length_cons] at hi
    rw [Addr.add_lit', put_row h (by omega) (hv v (by simp))]
    simp only
    rw [puts_row l (i + 1) _ _ (Hp.set_same _ _ _) (by simp; omega) (fun u hu => hv u (by simp [hu])), Hp.set_set]
    congr 3
    apply List.ext_getElem?
    intro j
    rw [setAt_get (by simp; omega), setAt_get (by simp; omega), List.getElem?_set]
    simp only [List.length_cons]
    by_cases h1 : j < off + i
    · rw [if_pos (by omega), if_neg (by omega), if_pos h1]
    · rw [if_neg h1]
      by_cases h2 : j = off + i
      · subst h2; rw [if_pos (by omega), if_pos rfl, if_pos (by omega), if_pos (by omega)]; simp
      · rw [if_neg (by omega)]
        by_cases h3 : j < off + (i + 1) + l.length
        · rw [if_pos h3, if_pos (by omega), show j - (off + i) = (j - (off + (i + 1))) + 1 by omega, List.getElem?_cons_succ]
        · rw [if_neg h3, if_neg (by omega), if_neg (by omega)]
theorem Sep.cp {L : List As} {H : Hp} (h : Sep L H) (i : Nat) {P : Program} {e e' : TypeId} {bs : Nat} {z : Array Value} {b off n c m k : Nat} {xs ys : List Value} {x : Value} (hi : L[i]? = some (pts b (.row xs e' m))) (hc : cellInfo P e = some (1, bs, some z))
    (hn : lenV x = some k) (hsrc : srcCells H 1 (Nat.min k n) x = some ys) (ho : off + ys.length ≤ xs.length) (hone : ∀ y ∈ ys, y.oneCell' = true) {K : Value → Hp → Prop}
    (kk : ∀ H', Sep (L.set i (pts b (.row (setAt xs off ys) e' m))) H' → K (.int .i64 (Nat.min k n : Nat)) H') : CpK P e (.slice (some ⟨b, off, none⟩) n c) x H K := by
  obtain ⟨j, zz, h3, h4, rfl, h5, rfl⟩ := cellInfo_out hc
  unfold CpK
  simp only [h3]
  rw [h4]
  exact ⟨k, ys, _, hn, hsrc, by simpa using puts_row ys 0 H xs (h.get i hi) (by omega) hone, kk _ (by simpa using h.put i _ hi)⟩
theorem slB_from {n m l : Nat} {x : Int} {K : Nat → Nat → Prop} (hx : x = l) (hl : l ≤ n) (k : K l n) : slB n m (some x) none K := by
  subst hx
  refine ⟨by omega, by omega, ?_⟩
  rw [Int.toNat_natCast]; exact k
theorem slB_to {n m r : Nat} {x : Int} {K : Nat → Nat → Prop} (hx : x = r) (hr : r ≤ m) (k : K 0 r) : slB n m none (some x) K := by
  subst hx
  refine ⟨by omega, by omega, ?_⟩
  rw [Int.toNat_natCast]; exact k
def CellsS (s : Nat) (H : Hp) (A : Option Addr) (rows : List (List Value)) : Prop := ∀ i r, rows[i]? = some r → ∃ a, A = some a ∧ ∀ j v, r[j]? = some v → H.cell? (a.add (i * s + j)) = some v
theorem CellsS.le {s : Nat} {H H' : Hp} {A : Option Addr} {rows : List (List Value)} (h : CellsS s H A rows) (k : H.le H') : CellsS s H' A rows := fun i r hi => by
  obtain ⟨a, ha, hc⟩ := h i r hi
  exact ⟨a, ha, fun j v hj => k.cell (hc j v hj)⟩
theorem add_add (a : Addr) (i j : Nat) : (a.add i).add j = a.add (i + j) := by
  unfold Addr.add
  by_cases h1 : i = 0 <;> by_cases h2 : j = 0 <;> simp_all [Nat.add_assoc]
theorem CellsS.rd {s : Nat} {H : Hp} {A : Option Addr} {rows : List (List Value)} (h : CellsS s H A rows) {i : Nat} {r : List Value} (hi : rows[i]? = some r) {x : Int} (hx : x = i) {n : Nat} (hn : rows.length ≤ n) {j : Nat} {v : Value} (hj : r[j]? = some v) {K : Value → Prop} (k : K v) :
    ixI x n (NN A fun a => Ld H ((a.add (x.toNat * s)).add j) K) := by
  obtain ⟨a, rfl, hc⟩ := h i r hi
  subst hx
  have := (List.getElem?_eq_some_iff.1 hi).1
  refine ⟨by omega, by omega, ?_⟩
  rw [Int.toNat_natCast]
  refine Ld_of ?_ k
  rw [add_add]; exact hc j v hj
end Go.Hw
end
section
/- The frame of the proofs: structs that came in, opened. -/
namespace Go.Hw
open Go Go.RowKit Go.ChangeShapes Go.WideShapes Go.ChangeAt
theorem rows_st {s : Nat} {H : Hp} {A : Option Addr} {n : Nat} {α : Type} {g : α → List Value} {q : α → Prop} {rows : List (List Value)} (hl : rows.length = n)
    (h : ∀ (i : Nat) (r : List Value), rows[i]? = some r → ∃ a, A = some a ∧ (∀ j v, r[j]? = some v → H.cell? (a.add (i * s + j)) = some v) ∧ ∃ x, r = g x ∧ q x) : ∃ l : List α, l.length = n ∧ CellsS s H A (l.map g) ∧ ∀ x ∈ l, q x := by
  have hx : ∀ i : Fin rows.length, ∃ x, rows[i] = g x ∧ q x := fun i => by
    obtain ⟨_, _, _, x, hx, hq⟩ := h i rows[i] (by simp)
    exact ⟨x, hx, hq⟩
  let f : Fin rows.length → α := fun i => Classical.choose (hx i)
  have hf : ∀ i : Fin rows.length, rows[i] = g (f i) ∧ q (f i) := fun i => Classical.choose_spec (hx i)
  refine ⟨List.ofFn f, by simp [hl], fun i r hr => ?_, fun x hx => ?_⟩
  · rw [List.getElem?_map] at hr
    obtain ⟨y, hy, rfl⟩ := Option.map_eq_some_iff.1 hr
    have hi : i < rows.length := by
      have := (List.getElem?_eq_some_iff.1 hy).1
      simpa using this
    have hy' : y = f ⟨i, hi⟩ := by
      rw [List.getElem?_ofFn] at hy
      simp only [hi, dif_pos, Option.some.injEq] at hy
      exact hy.symm
    subst hy'
    obtain ⟨a, ha, hc, _⟩ := h i rows[i] (by simp)
    refine ⟨a, ha, fun j v hj => hc j v ?_⟩
    rw [show rows[i] = g (f ⟨i, hi⟩) from (hf ⟨i, hi⟩).1]; exact hj
  · obtain ⟨i, rfl⟩ := List.mem_ofFn.1 hx
    exact (hf i).2
section
variable {H : Type} {enc : TypeId × Value → H} {P : Program} {W : World} {t e : TypeId} {cs : List Value} {d : DataW H} {ps : List MemPlace} {fuel : Nat}
theorem trod_st {fs : Array Field} (hu : P.underlying t = some (.struct fs)) (h : DataW.trod enc P W 0 (fun _ => true) true fuel t cs = some (d, ps)) :
    cs.length = P.cellsOf t ∧ ∃ f, ∀ (i : Nat) (fd : Field), fs[i]? = some fd → ∃ d' p', DataW.trod enc P W 0 (fun _ => true) true f fd.type ((cs.drop fd.offset).take (P.cellsOf fd.type)) = some (d', p') := by
  obtain ⟨xs, n, _, _, hl, hlen, hf⟩ := DataW.trod_struct hu h
  refine ⟨hl, n, fun i fd hi => ?_⟩
  have h1 := hf i fd hi
  have hlt : i < xs.length := by rw [hlen]; exact (Array.getElem?_eq_some_iff.1 hi).1
  rw [List.getElem?_eq_getElem hlt] at h1
  exact ⟨xs[i].1, xs[i].2, h1⟩
theorem take1 {cs : List Value} {o : Nat} {v : Value} (h : (cs.drop o).take 1 = [v]) : cs[o]? = some v := by
  have : ((cs.drop o).take 1)[0]? = some v := by rw [h]; rfl
  rw [List.getElem?_take, if_pos (by omega), List.getElem?_drop, Nat.add_zero] at this
  exact this
theorem trod_fint {o : Nat} {k : IntKind} (he : P.underlying e = some (.int k)) (h1 : P.cellsOf e = 1) (h : ∃ d' p', DataW.trod enc P W 0 (fun _ => true) true fuel e ((cs.drop o).take (P.cellsOf e)) = some (d', p')) : ∃ x, cs[o]? = some (.int k x) ∧ (Lit.int k x).wf = true := by
  obtain ⟨d', p', h⟩ := h
  rw [h1] at h
  obtain ⟨x, hx, _, hw⟩ := DataW.trod_int he h
  exact ⟨x, take1 hx, hw⟩
theorem trod_fsl {o : Nat} {e' : TypeId} (he : P.underlying e = some (.slice e')) (h1 : P.cellsOf e = 1) (h : ∃ d' p', DataW.trod enc P W 0 (fun _ => true) true fuel e ((cs.drop o).take (P.cellsOf e)) = some (d', p')) :
    ∃ A n c d' p', cs[o]? = some (.slice A n c) ∧ DataW.trod enc P W 0 (fun _ => true) true fuel e [.slice A n c] = some (d', p') := by
  obtain ⟨d', p', h⟩ := h
  rw [h1] at h
  obtain ⟨A, n, c, hx, _⟩ := trod_sl he h
  rw [hx] at h
  exact ⟨A, n, c, d', p', take1 hx, h⟩
end
def EqAll (cs : List Value) : Nat → List Value → Prop
  | _, [] => True
  | i, v :: l => cs[i]? = some v ∧ EqAll cs (i + 1) l
theorem EqAll.out {cs l : List Value} (h : EqAll cs 0 l) (hl : cs.length = l.length) : cs = l := by
  have key : ∀ (l : List Value) (i : Nat), EqAll cs i l → ∀ j, j < l.length → cs[i + j]? = l[j]? := by
    intro l
    induction l with
    | nil => intro i _ j hj; simp at hj
    | cons v l ih =>
      intro i ⟨h1, h2⟩ j hj
      cases j with
      | zero => simpa using h1
      | succ j =>
        rw [show i + (j + 1) = i + 1 + j by omega, ih (i + 1) h2 j (by simpa using hj)]
        simp
  apply List.ext_getElem?
  intro j
  by_cases hj : j < l.length
  · simpa using key l 0 h j hj
  · rw [List.getElem?_eq_none (by omega), List.getElem?_eq_none (by omega)]
section
variable {H : Type} {enc : TypeId × Value → H} {P : Program} {W : World} {t e : TypeId} {v : Value} {d : DataW H} {ps : List MemPlace} {r : Reach} {base : Nat}
theorem sub_get {cs : List Value} {o n i : Nat} {v : Value} (h : ((cs.drop o).take n)[i]? = some v) : cs[o + i]? = some v := by
  rw [List.getElem?_take] at h
  split at h
  · rw [List.getElem?_drop] at h; exact h
  · cases h
end
end Go.Hw
end
section
/- The frame of the proofs: maps from pointers to whole blocks, with int values. -/
namespace Go.Hw
open Go
def ptrV (b : Nat) : Value := .pointer (some ⟨b, 0, none⟩)
def ent (x : Nat × Int × Nat) : MapEntry := { key := ptrV x.1, val := .int .i64 x.2.1, born := x.2.2 }
def mapO (l : List (Nat × Int × Nat)) (clock : Nat) : AO := .obj (.map (l.map ent).toArray clock)
def PlainB (H : Hp) (b : Nat) : Prop := ∃ c e, H b = some (.obj (.cells c e))
theorem PlainB.le {H H' : Hp} {b : Nat} (h : PlainB H b) (k : H.le H') : PlainB H' b := by
  obtain ⟨c, e, h⟩ := h; exact ⟨c, e, k _ _ h⟩
section
variable {P : Program} {t te : TypeId} {j : TypeInfo} (ht : P.underlying t = some (.pointer te)) (hj : P.info? te = some j) (hs : j.size ≠ 0)
include ht hj hs
variable {tm tv : TypeId} (hm : P.underlying tm = some (.map t tv))
include hm
end
section
variable {P : Program} {t te : TypeId} {j : TypeInfo} (ht : P.underlying t = some (.pointer te)) (hj : P.info? te = some j) (hs : j.size ≠ 0)
variable {tm tv : TypeId} (hm : P.underlying tm = some (.map t tv))
include ht hj hs hm
end
end Go.Hw
end
section
/- Formulas of functions, printed by wip/tools/hwp.py. -/
namespace Go.Proofs.YtnknippcbecmeaaGreatDoor.W
open Go Go.Hw
theorem mixWarena : Tryz.prog.follows .mixedOrders = true := by kernel_rfl
end Go.Proofs.YtnknippcbecmeaaGreatDoor.W
end
section
/- arena: what its functions answer. -/
namespace Go.Proofs.YtnknippcbecmeaaGreatDoor.Are
open Go Go.Hw W
def arenaO (cap used peak : Int) (mp : Nat) : AO := .obj (.cells #[.int .i64 cap, .int .i64 used, .int .i64 peak, .map (some mp)] 73)
def bufO (a : Nat) (A : Option Addr) (n m : Nat) : AO := .obj (.cells #[ptrV a, .slice A n m] 211)
end Go.Proofs.YtnknippcbecmeaaGreatDoor.Are
end
section
/- arena's law: awake, ArenaApart. -/
namespace Go.Proofs.YtnknippcbecmeaaGreatDoor.Are
open Go Go.Hw W
def valF (i k : Nat) : Value := .int .u64 ((100 * i + k + 1 : Nat) : Int)
def vals (i n : Nat) : List Value := (List.range n).map (valF i)
structure Inv (H0 H : Hp) (a mp cl : Nat) (tk : List (Nat × Int × Nat)) (used peak : Int) (bs : List (Nat × Nat × Nat)) (A : Option Addr) (n m : Nat) : Prop where
  le : H0.le H
  ne : a ≠ mp
  ha : H a = some (arenaO 1000 used peak mp)
  ha0 : H0 a = none
  hm : H mp = some (mapO tk cl)
  hm0 : H0 mp = none
  hl : ∀ x ∈ tk, PlainB H x.1
  hb : ∀ (j : Nat) (x : Nat × Nat × Nat), bs[j]? = some x → H x.1 = some (bufO a (some ⟨x.2.1, 0, none⟩) x.2.2 x.2.2) ∧ H x.2.1 = some (.row (vals j x.2.2) 60 x.2.2) ∧ x.2.2 ≤ 64
  hn : n = bs.length
  all : (A = none ∧ bs = [] ∧ m = 0) ∨ ∃ ab mm, A = some ⟨ab, 0, none⟩ ∧ H0 ab = none ∧ H ab = some (.row (bs.map fun x => ptrV x.1) 164 mm) ∧ m ≤ mm
theorem Inv.cells {H0 H : Hp} {a mp cl : Nat} {tk : List (Nat × Int × Nat)} {used peak : Int} {bs : List (Nat × Nat × Nat)} {A : Option Addr} {n m : Nat} (h : Inv H0 H a mp cl tk used peak bs A n m) : Cells H A (bs.map fun x => ptrV x.1) := by
  rcases h.all with ⟨rfl, rfl, _⟩ | ⟨ab, mm, rfl, _, hab, _⟩
  · exact Cells.nil _ _
  · have := Cells.row hab 0 bs.length
    rwa [List.drop_zero, List.take_of_length_le (by simp)] at this
end Go.Proofs.YtnknippcbecmeaaGreatDoor.Are
end
section
/- The law ArenaApart. -/
namespace Go.Proofs.YtnknippcbecmeaaGreatDoor.Are
open Go Go.Hw W
end Go.Proofs.YtnknippcbecmeaaGreatDoor.Are
end
section
/- arena.Give. -/
namespace Go.Proofs.YtnknippcbecmeaaGreatDoor.Are
open Go Go.Hw W
def sumTk (tk : List (Nat × Int × Nat)) : Int := (tk.map fun x => x.2.1).sum
structure AI (H : Hp) (a mp cl : Nat) (tk : List (Nat × Int × Nat)) (cap used peak : Int) : Prop where
  ne : a ≠ mp
  ha : H a = some (arenaO cap used peak mp)
  hm : H mp = some (mapO tk cl)
  nd : (tk.map (·.1)).Nodup
  hb : ∀ x ∈ tk, 1 ≤ x.2.1 ∧ ∃ A n m, H x.1 = some (bufO a A n m)
  hu : used = sumTk tk ∧ used ≤ cap ∧ cap ≤ 16777216
  bn : (tk.map (·.2.2)).Nodup ∧ ∀ x ∈ tk, x.2.2 < cl
theorem sum_nonneg : ∀ (tk : List (Nat × Int × Nat)), (∀ x ∈ tk, 1 ≤ x.2.1) → 0 ≤ sumTk tk
  | [], _ => by simp [sumTk]
  | x :: l, h => by
    have h1 := h x (by simp)
    have h2 := sum_nonneg l (fun y hy => h y (by simp [hy]))
    unfold sumTk at h2 ⊢
    simp only [List.map_cons, List.sum_cons]; omega
theorem sum_filter : ∀ (tk : List (Nat × Int × Nat)) (x : Nat × Int × Nat), (tk.map (·.1)).Nodup → x ∈ tk → sumTk (tk.filter fun y => y.1 ≠ x.1) = sumTk tk - x.2.1
  | [], x, _, h => by simp at h
  | y :: l, x, hn, h => by
    simp only [List.map_cons, List.nodup_cons] at hn
    rcases List.mem_cons.1 h with rfl | h
    · rw [List.filter_cons_of_neg (by simp)]
      have : l.filter (fun y => decide (y.1 ≠ x.1)) = l := by
        rw [List.filter_eq_self]
        intro z hz
        have : z.1 ≠ x.1 := fun e => hn.1 (by rw [← e]; exact List.mem_map_of_mem hz)
        simpa using this
      rw [this]
      unfold sumTk
      simp only [List.map_cons, List.sum_cons]; omega
    · have hne : y.1 ≠ x.1 := fun e => hn.1 (by rw [e]; exact List.mem_map_of_mem h)
      rw [List.filter_cons_of_pos (by simpa using hne)]
      have := sum_filter l x hn.2 h
      unfold sumTk at this ⊢
      simp only [List.map_cons, List.sum_cons, this]; omega
theorem AI.plain {H : Hp} {a mp cl : Nat} {tk : List (Nat × Int × Nat)} {cap used peak : Int} (h : AI H a mp cl tk cap used peak) : ∀ x ∈ tk, PlainB H x.1 := fun x hx => by
  obtain ⟨_, A, n, m, g⟩ := h.hb x hx
  exact ⟨_, _, g⟩
structure Gave (H H' : Hp) (a mp cl : Nat) (tk tk' : List (Nat × Int × Nat)) (cap peak : Int) (gone : Nat → Prop) : Prop where
  ai : AI H' a mp cl tk' cap (sumTk tk') peak
  mem : ∀ x, x ∈ tk' ↔ x ∈ tk ∧ ¬ gone x.1
  keep : ∀ q o, H q = some o → q ≠ a → q ≠ mp → (gone q → ∀ x ∈ tk, x.1 ≠ q) → H' q = some o
  nil : ∀ x ∈ tk, gone x.1 → H' x.1 = some (bufO a none 0 0)
  sle : sumTk tk' ≤ sumTk tk
theorem Gave.same {H H' : Hp} {a mp cl : Nat} {tk tk' : List (Nat × Int × Nat)} {cap peak : Int} {g g' : Nat → Prop} (h : Gave H H' a mp cl tk tk' cap peak g) (h1 : ∀ q, g q → g' q) (h2 : ∀ q, g' q → g q ∨ ∀ x ∈ tk', x.1 ≠ q) : Gave H H' a mp cl tk tk' cap peak g' where
  ai := h.ai
  mem := fun x => by
    rw [h.mem]
    constructor
    · intro ⟨h3, h4⟩
      refine ⟨h3, fun h5 => ?_⟩
      rcases h2 _ h5 with h6 | h6
      · exact h4 h6
      · exact h6 x ((h.mem x).2 ⟨h3, h4⟩) rfl
    · intro ⟨h3, h4⟩
      exact ⟨h3, fun h5 => h4 (h1 _ h5)⟩
  keep := fun q o hq h3 h4 h5 => h.keep q o hq h3 h4 (fun h6 => h5 (h1 _ h6))
  nil := fun x hx h3 => by
    by_cases h4 : g x.1
    · exact h.nil x hx h4
    · rcases h2 _ h3 with h6 | h6
      · exact absurd h6 h4
      · exact absurd rfl (h6 x ((h.mem x).2 ⟨hx, h4⟩))
  sle := h.sle
theorem Gave.one {H H' : Hp} {a mp cl : Nat} {tk tk' : List (Nat × Int × Nat)} {cap used peak : Int} {g g' : Nat → Prop} (h0 : AI H a mp cl tk cap used peak) (h : Gave H H' a mp cl tk tk' cap peak g) {x : Nat × Int × Nat} (hx : x ∈ tk') (hg : ∀ q, g' q ↔ g q ∨ q = x.1) :
    Gave H (((H'.set mp (mapO (tk'.filter fun y => y.1 ≠ x.1) cl)).set a (arenaO cap (sumTk tk' - x.2.1) peak mp)).set x.1 (bufO a none 0 0)) a mp cl tk (tk'.filter fun y => y.1 ≠ x.1) cap peak g' := by
  obtain ⟨g1, A, n, m, g2⟩ := h.ai.hb x hx
  have hxa : x.1 ≠ a := fun e => by rw [e, h.ai.ha] at g2; unfold arenaO bufO at g2; cases g2
  have hxm : x.1 ≠ mp := fun e => by rw [e, h.ai.hm] at g2; unfold mapO bufO at g2; cases g2
  have hne := h.ai.ne
  have hsum := sum_filter tk' x h.ai.nd hx
  have hsub : ∀ y, y ∈ (tk'.filter fun y => decide (y.1 ≠ x.1)) ↔ y ∈ tk' ∧ y.1 ≠ x.1 := fun y => by rw [List.mem_filter]; simp
  have hkeep : ∀ q o, H' q = some o → q ≠ a → q ≠ mp → q ≠ x.1 → (((H'.set mp (mapO (tk'.filter fun y => y.1 ≠ x.1) cl)).set a (arenaO cap (sumTk tk' - x.2.1) peak mp)).set x.1 (bufO a none 0 0)) q = some o := fun q o hq h1 h2 h3 => by
    rw [Hp.set_other _ _ h3, Hp.set_other _ _ h1, Hp.set_other _ _ h2]; exact hq
  refine ⟨⟨hne, ?_, ?_, ?_, ?_, ?_, List.Nodup.sublist (List.Sublist.map _ (List.filter_sublist)) h.ai.bn.1, fun y hy => h.ai.bn.2 y (List.mem_filter.1 hy).1⟩, fun y => ?_, fun q o hq h1 h2 h3 => ?_, fun y hy h1 => ?_, by rw [hsum]; have := h.sle; omega⟩
  · rw [Hp.set_other _ _ (Ne.symm hxa), hsum]; exact Hp.set_same _ _ _
  · rw [Hp.set_other _ _ (Ne.symm hxm), Hp.set_other _ _ (Ne.symm hne)]; exact Hp.set_same _ _ _
  · exact List.Nodup.sublist (List.Sublist.map _ (List.filter_sublist)) h.ai.nd
  · intro y hy
    obtain ⟨h1, h2⟩ := (hsub y).1 hy
    obtain ⟨h3, A', n', m', h4⟩ := h.ai.hb y h1
    refine ⟨h3, A', n', m', hkeep _ _ h4 (fun e => ?_) (fun e => ?_) h2⟩
    · rw [e, h.ai.ha] at h4; unfold arenaO bufO at h4; cases h4
    · rw [e, h.ai.hm] at h4; unfold mapO bufO at h4; cases h4
  · have := h.ai.hu
    exact ⟨rfl, by rw [hsum]; omega, this.2.2⟩
  · rw [hsub, h.mem, hg]
    constructor
    · rintro ⟨⟨h1, h2⟩, h3⟩; exact ⟨h1, fun h4 => h4.elim h2 h3⟩
    · rintro ⟨h1, h2⟩; exact ⟨⟨h1, fun h3 => h2 (.inl h3)⟩, fun h3 => h2 (.inr h3)⟩
  · have h4 := h.keep q o hq h1 h2 (fun h5 => h3 ((hg q).2 (.inl h5)))
    refine hkeep q o h4 h1 h2 (fun e => ?_)
    exact h3 ((hg q).2 (.inr e)) x ((h.mem x).1 hx).1 e.symm
  · by_cases e : y.1 = x.1
    · rw [e]; exact Hp.set_same _ _ _
    · have h2 : g y.1 := ((hg _).1 h1).resolve_right e
      have h3 := h.nil y hy h2
      refine hkeep _ _ h3 (fun e2 => ?_) (fun e2 => ?_) e
      · rw [e2, h.ai.ha] at h3; unfold arenaO bufO at h3; cases h3
      · rw [e2, h.ai.hm] at h3; unfold mapO bufO at h3; cases h3
end Go.Proofs.YtnknippcbecmeaaGreatDoor.Are
end
section
/- The frame of the proofs: a map's entries, one after the other. -/
namespace Go.Hw
open Go
def iterO (mp since : Nat) (seen : Array Nat) (last : Nat) : AO := .obj (.mapIter (some mp) since seen last)
theorem iterO.heap {H : Hp} {w : World} {it mp since last : Nat} {seen : Array Nat} (h : H it = some (iterO mp since seen last)) (hw : Fits H w) : w.heap[it]? = some (.mapIter (some mp) since seen last) := by
  obtain ⟨o, ho, hh⟩ := hw _ _ h
  cases hh
  exact ho
theorem At.setIter {H0 H : Hp} {w0 w : World} {it mp since last : Nat} {seen : Array Nat} (hA : At H0 w0 H w) (hr : H it = some (iterO mp since seen last)) (o : Obj) : At H0 w0 (H.set it (.obj o)) { w with heap := w.heap.setIfInBounds it o } := by
  have hh := iterO.heap hr hA.fits
  have hlt : it < w.heap.size := (Array.getElem?_eq_some_iff.1 hh).1
  refine hA.turn hr (x' := o) ?_ rfl ?_ rfl rfl rfl (fun c hc => ?_)
  · show (w.heap.setIfInBounds it o)[it]? = some o
    simp [hlt]
  · show (w.heap.setIfInBounds it o).size = w.heap.size
    simp
  · show (w.heap.setIfInBounds it o)[c]? = w.heap[c]?
    rw [Array.getElem?_setIfInBounds_ne (Ne.symm hc)]
theorem choose_next {P : Program} {H0 H : Hp} {w0 w : World} (hA : At H0 w0 H w) (n : Nat) (hn : 0 < n) : ∃ i w', i < n ∧ (choose (.mapNext n)).run P w = .ok i w' ∧ At H0 w0 H w' := by
  by_cases h : n ≤ 1
  · exact ⟨0, w, hn, by simp [Question.forced, h], hA⟩
  · exact ⟨_, _, Nat.mod_lt _ hn, by simp [Question.forced, h, Question.cut]; rfl, hA.drew⟩
end Go.Hw
end
section
/- An arena as a part of memory: contracts of its functions. -/
namespace Go.Proofs.YtnknippcbecmeaaGreatDoor.Are
open Go Go.Hw W
def sumB (l : List (Nat × Nat × Option Addr)) : Int := (l.map fun y => (y.2.1 : Int)).sum
def gaveB (g : Nat → Bool) (l : List (Nat × Nat × Option Addr)) : List (Nat × Nat × Option Addr) := l.map fun y => if g y.1 then (y.1, 0, none) else y
theorem gaveB_fst (g : Nat → Bool) (l : List (Nat × Nat × Option Addr)) : (gaveB g l).map (·.1) = l.map (·.1) := by
  unfold gaveB
  rw [List.map_map]
  apply List.map_congr_left
  intro y _
  simp only [Function.comp]
  split <;> rfl
structure ArI (H : Hp) (a mp cl : Nat) (tk : List (Nat × Int × Nat)) (cap used peak : Int) (bufs : List (Nat × Nat × Option Addr)) : Prop where
  ai : AI H a mp cl tk cap used peak
  up : used ≤ peak
  hd : ∀ y ∈ bufs, H y.1 = some (bufO a y.2.2 y.2.1 y.2.1)
  tb : ∀ x ∈ tk, ∃ A, (x.1, x.2.1.toNat, A) ∈ bufs
  bt : ∀ y ∈ bufs, 1 ≤ y.2.1 → ∃ n, (y.1, (y.2.1 : Int), n) ∈ tk
  bn : (bufs.map (·.1)).Nodup
  hz : ∀ y ∈ bufs, y.2.1 = 0 → y.2.2 = none
def Ar (a : Nat) (cap peak : Int) (bufs : List (Nat × Nat × Option Addr)) : As := fun H => ∃ mp cl tk, ArI H a mp cl tk cap (sumB bufs) peak bufs
section
variable {L : List As} {H : Hp} {a : Nat} {cap peak : Int} {bufs : List (Nat × Nat × Option Addr)}
theorem ArI.nn {used : Int} {mp cl : Nat} {tk : List (Nat × Int × Nat)} (h : ArI H a mp cl tk cap used peak bufs) : 0 ≤ used ∧ used ≤ cap ∧ cap ≤ 16777216 ∧ used ≤ peak := by
  have h1 := sum_nonneg tk (fun x hx => (h.ai.hb x hx).1)
  have h2 := h.ai.hu
  exact ⟨by omega, h2.2.1, h2.2.2, h.up⟩
end
end Go.Proofs.YtnknippcbecmeaaGreatDoor.Are
end
section
/- arena: Give and Reset, as contracts over parts of memory. -/
namespace Go.Proofs.YtnknippcbecmeaaGreatDoor.Are
open Go Go.Hw W
theorem ArI.cut {H : Hp} {a mp cl : Nat} {tk : List (Nat × Int × Nat)} {cap used peak : Int} {bufs : List (Nat × Nat × Option Addr)} (h : ArI H a mp cl tk cap used peak bufs) (D : Nat → Bool) (h1 : D a = true) (h2 : D mp = true) (h3 : ∀ y ∈ bufs, D y.1 = true) :
    ArI (fun q => if D q = true then H q else none) a mp cl tk cap used peak bufs := by
  have g : ∀ q o, D q = true → H q = some o → (fun q => if D q = true then H q else none) q = some o := fun q o e1 e2 => by
    show (if D q = true then H q else none) = some o
    rw [if_pos e1]; exact e2
  refine ⟨⟨h.ai.ne, g _ _ h1 h.ai.ha, g _ _ h2 h.ai.hm, h.ai.nd, fun x hx => ?_, h.ai.hu, h.ai.bn⟩, h.up, fun y hy => g _ _ (h3 y hy) (h.hd y hy), h.tb, h.bt, h.bn, h.hz⟩
  obtain ⟨k1, A, n, m, k2⟩ := h.ai.hb x hx
  obtain ⟨A', hA'⟩ := h.tb x hx
  exact ⟨k1, A, n, m, g _ _ (h3 _ hA') k2⟩
theorem ArI.back {H H1 H2 H' : Hp} {a mp cl cl' : Nat} {tk tk' : List (Nat × Int × Nat)} {cap used used' peak peak' : Int} {bufs : List (Nat × Nat × Option Addr)} {g : Nat → Bool} {L : List As}
    (hle : H1.le H) (hap : Apart H1 H2) (h1 : ArI H1 a mp cl tk cap used peak bufs) (h' : ArI H' a mp cl' tk' cap used' peak' (gaveB g bufs)) (h2 : H2.le H') (hs : Sep L H2) (hu : used' = sumB (gaveB g bufs)) : Sep (Ar a cap peak' (gaveB g bufs) :: L) H' := by
  have hd : ∀ q o, H1 q = some o → (H1 q).isSome = true := fun q o h => by rw [h]; rfl
  refine ⟨fun q => if (H1 q).isSome = true then H' q else none, H2, fun q o hq => ?_, h2, fun q => ?_, ⟨mp, cl', tk', ?_⟩, hs⟩
  · simp only at hq
    split at hq
    · exact hq
    · cases hq
  · rcases hap q with e | e
    · left; simp [e]
    · exact .inr e
  · rw [← hu]
    refine h'.cut (fun q => (H1 q).isSome) (hd _ _ h1.ai.ha) (hd _ _ h1.ai.hm) (fun y hy => ?_)
    obtain ⟨z, hz, e⟩ := List.mem_map.1 (show y.1 ∈ bufs.map (·.1) by rw [← gaveB_fst g]; exact List.mem_map_of_mem hy)
    have := hd _ _ (h1.hd z hz)
    rw [e] at this; exact this
end Go.Proofs.YtnknippcbecmeaaGreatDoor.Are
end
section
/- The frame of the proofs: maps whose keys are ints, as parts of memory. -/
namespace Go.Hw
open Go
def entK (x : Int × Value × Nat) : MapEntry := { key := .int .i64 x.1, val := x.2.1, born := x.2.2 }
def kmap (l : List (Int × Value × Nat)) (clock : Nat) : AO := .obj (.map (l.map entK).toArray clock)
def getK : List (Int × Value × Nat) → Int → Option Value
  | [], _ => none
  | x :: l, k => if k = x.1 then some x.2.1 else getK l k
def ixK (k : Int) : List (Int × Value × Nat) → Nat → Option (Nat × Value)
  | [], _ => none
  | x :: l, i => if k = x.1 then some (i, x.2.1) else ixK k l (i + 1)
structure OkK (l : List (Int × Value × Nat)) (clock : Nat) (m : Int → Option Value) : Prop where
  nd : (l.map (·.1)).Nodup
  bn : (l.map (·.2.2)).Nodup
  bl : ∀ x ∈ l, x.2.2 < clock
  get : ∀ k, getK l k = m k
def Mp (r : Nat) (m : Int → Option Value) : As := fun H => ∃ l clock, H r = some (kmap l clock) ∧ OkK l clock m
theorem ixK_get (k : Int) : ∀ (l : List (Int × Value × Nat)) (i : Nat), (ixK k l i).map (·.2) = getK l k
  | [], _ => rfl
  | x :: l, i => by
    unfold ixK getK
    split
    · rfl
    · exact ixK_get k l (i + 1)
theorem getK_none {l : List (Int × Value × Nat)} {k : Int} : getK l k = none ↔ ∀ x ∈ l, x.1 ≠ k := by
  induction l with
  | nil => simp [getK]
  | cons x l ih =>
    unfold getK
    split
    · rename_i h; simp [h]
    · rename_i h
      rw [ih]
      constructor
      · intro h2 y hy
        rcases List.mem_cons.1 hy with rfl | hy
        · exact fun e => h e.symm
        · exact h2 y hy
      · intro h2 y hy; exact h2 y (by simp [hy])
theorem getK_mem {l : List (Int × Value × Nat)} (hn : (l.map (·.1)).Nodup) {x : Int × Value × Nat} (hx : x ∈ l) : getK l x.1 = some x.2.1 := by
  induction l with
  | nil => simp at hx
  | cons y l ih =>
    simp only [List.map_cons, List.nodup_cons] at hn
    unfold getK
    rcases List.mem_cons.1 hx with rfl | hx
    · simp
    · rw [if_neg (fun e => hn.1 (by rw [← e]; exact List.mem_map_of_mem hx))]
      exact ih hn.2 hx
theorem getK_some {l : List (Int × Value × Nat)} {k : Int} {v : Value} (h : getK l k = some v) : ∃ b, (k, v, b) ∈ l := by
  induction l with
  | nil => simp [getK] at h
  | cons y l ih =>
    unfold getK at h
    split at h
    · rename_i e; cases h; exact ⟨y.2.2, by rw [e]; simp⟩
    · obtain ⟨b, hb⟩ := ih h; exact ⟨b, by simp [hb]⟩
theorem kmap.heap {H : Hp} {w : World} {r clock : Nat} {l : List (Int × Value × Nat)} (h : H r = some (kmap l clock)) (hw : Fits H w) : w.heap[r]? = some (.map (l.map entK).toArray clock) := by
  obtain ⟨o, ho, hh⟩ := hw _ _ h
  cases hh
  exact ho
theorem At.setK {H0 H : Hp} {w0 w : World} {r clock : Nat} {l : List (Int × Value × Nat)} (hA : At H0 w0 H w) (hr : H r = some (kmap l clock)) (o : Obj) : At H0 w0 (H.set r (.obj o)) { w with heap := w.heap.setIfInBounds r o } := by
  have hh := kmap.heap hr hA.fits
  have hlt : r < w.heap.size := (Array.getElem?_eq_some_iff.1 hh).1
  refine hA.turn hr (x' := o) ?_ rfl ?_ rfl rfl rfl (fun c hc => ?_)
  · show (w.heap.setIfInBounds r o)[r]? = some o
    simp [hlt]
  · show (w.heap.setIfInBounds r o).size = w.heap.size
    simp
  · show (w.heap.setIfInBounds r o)[c]? = w.heap[c]?
    rw [Array.getElem?_setIfInBounds_ne (Ne.symm hc)]
section
variable {P : Program} {t : TypeId} (ht : P.underlying t = some (.int .i64))
include ht
theorem findNowK (k : Int) : ∀ (l : List (Int × Value × Nat)) (i : Nat), Instr.findNow (.int .i64) (.int .i64 k) (l.map entK) i = some (ixK k l i)
  | [], _ => rfl
  | x :: l, i => by
    simp only [List.map_cons, Instr.findNow]
    rw [show Instr.sameNow (.int .i64) (.int .i64 k) (entK x).key = some (k == x.1) by simp [Instr.sameNow, entK]]
    unfold ixK
    by_cases h : k = x.1
    · simp [h, entK]
    · rw [show (k == x.1) = false by simpa using h]
      simp only [h, if_false]
      exact findNowK k l (i + 1)
theorem findKeyK {w : World} (k : Int) (l : List (Int × Value × Nat)) : (Instr.findKey t (.int .i64 k) (l.map entK)).run P w = .ok (ixK k l 0) w := by
  unfold Instr.findKey
  simp [underlying_run ht, findNowK ht k l 0]
theorem checkKeyK {w : World} (e : Bool) (k : Int) : (Instr.checkKey e 10000 t (.int .i64 k)).run P w = .ok () w := by
  unfold Instr.checkKey
  simp [underlying_run ht]
variable {tm tv : TypeId} (hm : P.underlying tm = some (.map t tv))
include hm
theorem lookupK {jv : TypeInfo} {z : Value} (hv : P.info? tv = some jv) (hz : jv.zero = some z) {H : Hp} {r clock : Nat} {l : List (Int × Value × Nat)} {k : Int} (hr : H r = some (kmap l clock)) (ok : Bool) {K : Value → Prop}
    (kk : K (match getK l k with | some v => if ok then .tuple #[v, .bool true] else v | none => if ok then .tuple #[z, .bool false] else z)) : SemV P (Instr.lookup tm (.map (some r)) (.int .i64 k) ok) H K := by
  refine ⟨_, kk, fun w hw => ?_⟩
  have hh := kmap.heap hr hw
  simp only [Instr.lookup, Sem.run_bind, underlying_run hm, Result.andThen_ok, MapKept.run_getObj_map hh, Sem.run_pure]
  rw [checkKeyK ht]
  simp only [Result.andThen_ok]
  rw [findKeyK ht]
  simp only [Result.andThen_ok]
  rw [← ixK_get k l 0]
  cases ixK k l 0 with
  | some x => cases ok <;> simp
  | none => cases ok <;> simp [zeroValue, typeInfo_run hv, hz]
theorem ixK_lt (k : Int) : ∀ (l : List (Int × Value × Nat)) (i j : Nat) (v : Value), ixK k l i = some (j, v) → i ≤ j ∧ ∃ x, l[j - i]? = some x ∧ x.1 = k ∧ x.2.1 = v
  | [], _, _, _, h => by cases h
  | x :: l, i, j, v, h => by
    unfold ixK at h
    split at h
    · rename_i e; cases h; exact ⟨Nat.le_refl _, x, by simp, e.symm, rfl⟩
    · obtain ⟨h1, y, h2, h3⟩ := ixK_lt k l (i + 1) j v h
      exact ⟨by omega, y, by rw [show j - i = (j - (i + 1)) + 1 by omega, List.getElem?_cons_succ]; exact h2, h3⟩
def updM (m : Int → Option Value) (k : Int) (v : Value) : Int → Option Value := fun j => if j = k then some v else m j
theorem getK_append (l : List (Int × Value × Nat)) (x : Int × Value × Nat) (h : getK l x.1 = none) (j : Int) : getK (l ++ [x]) j = updM (getK l) x.1 x.2.1 j := by
  induction l with
  | nil => simp [getK, updM]
  | cons y l ih =>
    unfold getK at h
    split at h
    · cases h
    · rename_i hne
      rw [List.cons_append]
      unfold getK updM
      have := ih h
      unfold updM at this
      by_cases e : j = x.1
      · rw [if_pos e, e, if_neg hne]
        rw [e, if_pos rfl] at this; exact this
      · rw [if_neg e]
        rw [if_neg e] at this
        rw [this]
        rfl
theorem getK_set : ∀ (l : List (Int × Value × Nat)) (i : Nat) (x : Int × Value × Nat) (v : Value), (l.map (·.1)).Nodup → l[i]? = some x → ∀ j, getK (l.set i (x.1, v, x.2.2)) j = updM (getK l) x.1 v j
  | [], i, x, v, _, h, j => by simp at h
  | y :: l, 0, x, v, hn, h, j => by
    simp at h; subst h
    simp only [List.set_cons_zero]
    unfold getK updM
    by_cases e : j = y.1
    · simp [e]
    · simp only [e, if_false, getK]
  | y :: l, i + 1, x, v, hn, h, j => by
    simp only [List.map_cons, List.nodup_cons] at hn
    rw [List.getElem?_cons_succ] at h
    have ih := getK_set l i x v hn.2 h j
    have hne : y.1 ≠ x.1 := fun e => hn.1 (by rw [e]; exact List.mem_map_of_mem (List.mem_of_getElem? h))
    simp only [List.set_cons_succ]
    unfold getK updM
    unfold updM at ih
    by_cases e : j = x.1
    · rw [if_pos e, e, if_neg (Ne.symm hne)]
      rw [e, if_pos rfl] at ih; exact ih
    · rw [if_neg e]
      rw [if_neg e] at ih
      rw [ih]
      rfl
theorem map_set_same {α β : Type} (f : α → β) : ∀ (l : List α) (i : Nat) (x y : α), l[i]? = some x → f y = f x → (l.set i y).map f = l.map f
  | [], _, _, _, h, _ => by simp at h
  | z :: l, 0, x, y, h, e => by simp at h; subst h; simp [e]
  | z :: l, i + 1, x, y, h, e => by
    simp only [List.set_cons_succ, List.map_cons]
    rw [map_set_same f l i x y (by simpa using h) e]
theorem Sep.upd {L : List As} {H : Hp} (h : Sep L H) (i : Nat) {r : Nat} {m : Int → Option Value} (hi : L[i]? = some (Mp r m)) {k : Int} {v : Value} {K : Unit → Hp → Prop} (kk : ∀ H', Sep (L.set i (Mp r (updM m k v))) H' → K () H') :
    SemK P (Instr.mapUpdate tm (.map (some r)) (.int .i64 k) v) H K := fun H0 w0 w hA => by
  obtain ⟨H1, ⟨l, clock, hr1, hok⟩, hle⟩ := h.see i hi
  have hr := hle _ _ hr1
  have hh := kmap.heap hr hA.fits
  cases hx : ixK k l 0 with
  | none =>
    have hg : getK l k = none := by rw [← ixK_get k l 0, hx]; rfl
    refine ⟨(), _, _, ?_, kk _ (h.putIn i hi (b := r) (o' := kmap (l ++ [(k, v, clock)]) (clock + 1)) fun H1' hle' hA' => ?_), hA.setK hr _⟩
    · simp only [Instr.mapUpdate, Sem.run_bind, underlying_run hm, Result.andThen_ok, MapKept.run_getObj_map hh]
      rw [checkKeyK ht]
      simp only [Result.andThen_ok]
      rw [findKeyK ht, hx]
      simp only [Result.andThen_ok]
      rw [MapKept.run_setObj_map _ hh]
      simp [entK]
    · obtain ⟨l', clock', hr', _⟩ := hA'
      refine ⟨_, hr', l ++ [(k, v, clock)], clock + 1, Hp.set_same _ _ _, ?_, ?_, fun x hx => ?_, fun j => ?_⟩
      · rw [List.map_append, List.nodup_append]
        refine ⟨hok.nd, by simp, fun a ha b hb e => ?_⟩
        simp at hb; subst hb
        obtain ⟨z, hz, rfl⟩ := List.mem_map.1 ha
        exact getK_none.1 hg z hz e
      · rw [List.map_append, List.nodup_append]
        refine ⟨hok.bn, by simp, fun a ha b hb e => ?_⟩
        simp at hb; subst hb
        obtain ⟨z, hz, rfl⟩ := List.mem_map.1 ha
        have := hok.bl z hz
        omega
      · rcases List.mem_append.1 hx with hx | hx
        · have := hok.bl x hx; omega
        · simp at hx; subst hx; show clock < clock + 1; omega
      · rw [getK_append ht hm l (k, v, clock) hg j]
        unfold updM
        simp only [hok.get]
  | some q =>
    obtain ⟨ix, u⟩ := q
    obtain ⟨_, x, hxl, hxk, hxv⟩ := ixK_lt ht hm k l 0 ix u hx
    rw [Nat.sub_zero] at hxl
    have hlt := (List.getElem?_eq_some_iff.1 hxl).1
    refine ⟨(), _, _, ?_, kk _ (h.putIn i hi (b := r) (o' := kmap (l.set ix (x.1, v, x.2.2)) clock) fun H1' hle' hA' => ?_), hA.setK hr _⟩
    · simp only [Instr.mapUpdate, Sem.run_bind, underlying_run hm, Result.andThen_ok, MapKept.run_getObj_map hh]
      rw [checkKeyK ht]
      simp only [Result.andThen_ok]
      rw [findKeyK ht, hx]
      simp only [Result.andThen_ok]
      have hkey : ((((l.map entK).toArray)[ix]?).map (·.key)).getD (Value.int .i64 k) = .int .i64 k := by
        simp [hxl, entK, hxk]
      rw [hkey]
      simp only [Instr.keyThatStays, Instr.sameBits, beq_self_eq_true, Bool.and_self, if_true, pure_bind]
      rw [MapKept.run_setObj_map _ hh]
      congr 3
      have e : ((l.map entK).toArray.modify ix fun e => { e with key := .int .i64 k, val := v }) = ((l.set ix (x.1, v, x.2.2)).map entK).toArray := by
        apply Array.ext'
        rw [Array.toList_modify]
        simp only
        apply List.ext_getElem?
        intro j
        rw [List.getElem?_modify, List.getElem?_map, List.getElem?_map, List.getElem?_set]
        by_cases ej : ix = j
        · subst ej
          have e2 : l[ix] = x := by
            have := List.getElem?_eq_getElem hlt
            rw [this] at hxl; exact Option.some.inj hxl
          simp [entK, hxk, hlt, e2]
        · simp [ej]
      rw [e]
    · obtain ⟨l', clock', hr', _⟩ := hA'
      refine ⟨_, hr', l.set ix (x.1, v, x.2.2), clock, Hp.set_same _ _ _, ?_, ?_, fun y hy => ?_, fun j => ?_⟩
      · rw [map_set_same ht hm (·.1) l ix x (x.1, v, x.2.2) hxl rfl]; exact hok.nd
      · rw [map_set_same ht hm (·.2.2) l ix x (x.1, v, x.2.2) hxl rfl]; exact hok.bn
      · have : y.2.2 ∈ (l.set ix (x.1, v, x.2.2)).map (·.2.2) := List.mem_map_of_mem hy
        rw [map_set_same ht hm (·.2.2) l ix x (x.1, v, x.2.2) hxl rfl] at this
        obtain ⟨z, hz, e⟩ := List.mem_map.1 this
        have := hok.bl z hz
        have e' : z.2.2 = y.2.2 := e
        omega
      · rw [getK_set ht hm l ix x v hok.nd hxl j]
        unfold updM
        simp only [hok.get, hxk]
theorem Sep.clearK {L : List As} {H : Hp} (h : Sep L H) (i : Nat) {r : Nat} {m : Int → Option Value} (hi : L[i]? = some (Mp r m)) {ty : TypeId} {K : Value → Hp → Prop} (kk : ∀ H', Sep (L.set i (Mp r fun _ => none)) H' → K (.tuple #[]) H') :
    SemK P (Builtin.clear_ #[tm] ty #[.map (some r)]) H K := fun H0 w0 w hA => by
  obtain ⟨H1, ⟨l, clock, hr1, hok⟩, hle⟩ := h.see i hi
  have hr := hle _ _ hr1
  have hh := kmap.heap hr hA.fits
  refine ⟨_, _, _, ?_, kk _ (h.putIn i hi (b := r) (o' := kmap [] clock) fun H1' hle' hA' => ?_), hA.setK hr _⟩
  · simp only [Builtin.clear_, Sem.run_bind, underlying_run hm, Result.andThen_ok, List.getElem?_toArray, List.getElem?_cons_zero, MapKept.run_getObj_map hh]
    try rw [Sem.run_bind]
    rw [MapKept.run_setObj_map _ hh]
    simp
  · obtain ⟨l', clock', hr', _⟩ := hA'
    exact ⟨_, hr', [], clock, Hp.set_same _ _ _, by simp, by simp, fun x hx => by simp at hx, fun j => rfl⟩
end
theorem Mp.new {L : List As} {H : Hp} {b : Nat} (h : Sep (L ++ [pts b (.obj (.map #[] 0))]) H) : Sep (L ++ [Mp b fun _ => none]) H := by
  have := h.turn L.length (A := pts b (.obj (.map #[] 0))) (by simp) (B := Mp b fun _ => none) fun H1 h1 => ⟨[], 0, h1, by simp, by simp, fun x hx => by simp at hx, fun j => rfl⟩
  simpa using this
def unseenK (tk : List (Int × Value × Nat)) (seen : Array Nat) : List (Int × Value × Nat) := tk.filter fun x => !seen.contains x.2.2
theorem range_K {P : Program} {t k e : TypeId} (ht : P.underlying t = some (.map k e)) {H : Hp} {mp cl : Nat} {tk : List (Int × Value × Nat)} (hm : H mp = some (kmap tk cl)) {K : Value → Hp → Prop}
    (kk : ∀ it, H it = none → K (.pointer (some ⟨it, 0, none⟩)) (H.set it (iterO mp cl #[] cl))) : SemK P (Instr.range t (.map (some mp))) H K := fun H0 w0 w hA => by
  have hh := kmap.heap hm hA.fits
  obtain ⟨hn, hA'⟩ := hA.new (o := iterO mp cl #[] cl) (x := .mapIter (some mp) cl #[] cl) rfl
  refine ⟨_, _, _, ?_, kk _ hn, hA'⟩
  simp only [Instr.range, Sem.run_bind, underlying_run ht, Result.andThen_ok, MapKept.run_getObj_map hh, Sem.run_pure]
  simp
theorem next_K {P : Program} {ty : TypeId} {H : Hp} {it mp since last cl : Nat} {seen : Array Nat} {tk : List (Int × Value × Nat)} (hi : H it = some (iterO mp since seen last)) (hm : H mp = some (kmap tk cl)) (hold : ∀ x ∈ tk, x.2.2 < since) (hlast : ∀ x ∈ tk, x.2.2 < last) {K : Value → Hp → Prop}
    (k1 : ∀ x ∈ unseenK tk seen, K (.tuple #[.bool true, .int .i64 x.1, x.2.1]) (H.set it (iterO mp since (seen.push x.2.2) cl))) (k0 : unseenK tk seen = [] → K (.tuple #[.bool false]) H) :
    SemK P (Instr.next (.pointer (some ⟨it, 0, none⟩)) false ty) H K := fun H0 w0 w hA => by
  have hh := iterO.heap hi hA.fits
  have hg := kmap.heap hm hA.fits
  have hgi : (getObj it).run P w = .ok (.mapIter (some mp) since seen last) w := by simp [getObj, Sem.run, hh]
  have hleft : ((tk.map entK).toArray.filter fun e => !seen.contains e.born) = ((unseenK tk seen).map entK).toArray := by
    unfold unseenK
    rw [List.filter_toArray, List.filter_map]
    rfl
  have hcond : (!seen.isEmpty && !(tk.map entK).toArray.isEmpty && (tk.map entK).toArray.all (fun e => decide (e.born ≥ last))) = false := by
    cases tk with
    | nil => simp
    | cons x l =>
      have := hlast x (by simp)
      have h2 : ¬ last ≤ x.2.2 := by omega
      simp [entK, h2]
  have hold' : (((unseenK tk seen).map entK).toArray.filter fun e => decide (e.born < since)) = ((unseenK tk seen).map entK).toArray := by
    rw [List.filter_toArray]
    congr 1
    rw [List.filter_eq_self]
    intro e he
    obtain ⟨x, hx, rfl⟩ := List.mem_map.1 he
    have := hold x (List.mem_filter.1 hx).1
    exact decide_eq_true this
  have hnew : (((unseenK tk seen).map entK).toArray.filter fun e => decide (e.born ≥ since)) = #[] := by
    rw [List.filter_toArray]
    congr 1
    rw [List.filter_eq_nil_iff]
    intro e he
    obtain ⟨x, hx, rfl⟩ := List.mem_map.1 he
    have := hold x (List.mem_filter.1 hx).1
    simp [entK]; omega
  simp only [Instr.next, Sem.run_bind, hgi, Result.andThen_ok, MapKept.run_getObj_map hg, hcond, Bool.false_eq_true, if_false, hleft, hold', hnew, Sem.run_pure]
  cases hU : unseenK tk seen with
  | nil =>
    obtain ⟨i, w', hi', hr, hA'⟩ := choose_next (P := P) hA 1 (by omega)
    obtain rfl : i = 0 := by omega
    refine ⟨_, H, w', ?_, k0 hU, hA'⟩
    rw [show ((if (List.map entK ([] : List (Int × Value × Nat))).toArray.isEmpty = true then #[none] else #[]) ++ Array.map some ((List.map entK ([] : List (Int × Value × Nat))).toArray ++ #[])) = (#[none] : Array (Option MapEntry)) by simp, show (#[none] : Array (Option MapEntry)).size = 1 from rfl, hr]
    rfl
  | cons x l =>
    obtain ⟨i, w', hi', hr, hA'⟩ := choose_next (P := P) hA (x :: l).length (by simp)
    have e : ((if (List.map entK (x :: l)).toArray.isEmpty = true then #[none] else #[]) ++ Array.map some ((List.map entK (x :: l)).toArray ++ #[])) = ((x :: l).map fun y => some (entK y)).toArray := by simp
    rw [e, show ((x :: l).map fun y => some (entK y)).toArray.size = (x :: l).length by simp, hr]
    have hy : (x :: l)[i] ∈ unseenK tk seen := by rw [hU]; exact List.getElem_mem hi'
    refine ⟨_, _, _, ?_, k1 _ hy, hA'.setIter hi _⟩
    simp only [Result.andThen_ok, List.getElem?_toArray, List.getElem?_map, List.getElem?_eq_getElem hi', Option.map_some, Sem.run_bind]
    have hh' := iterO.heap hi hA'.fits
    rw [show (setObj it (Obj.mapIter (some mp) since (seen.push (entK (x :: l)[i]).born) cl)).run P w' = .ok () { w' with heap := w'.heap.setIfInBounds it (Obj.mapIter (some mp) since (seen.push (entK (x :: l)[i]).born) cl) } by simp [setObj, Sem.run, hh']]
    rfl
theorem find_bornK : ∀ (tk : List (Int × Value × Nat)) (x : Int × Value × Nat), x ∈ tk → (tk.map (·.2.2)).Nodup → (tk.map entK).find? (fun e => e.born == x.2.2) = some (entK x)
  | [], x, h, _ => by simp at h
  | y :: l, x, h, hn => by
    simp only [List.map_cons, List.nodup_cons] at hn
    simp only [List.map_cons, List.find?_cons]
    rcases List.mem_cons.1 h with rfl | h
    · simp [entK]
    · have : ¬ (y.2.2 = x.2.2) := fun e => hn.1 (by rw [e]; exact List.mem_map_of_mem h)
      rw [show ((entK y).born == x.2.2) = false by simpa [entK] using this]
      exact find_bornK l x h hn.2
theorem entry_K {P : Program} {H : Hp} {it mp since cl : Nat} {seen : Array Nat} {tk : List (Int × Value × Nat)} (hi : H it = some (iterO mp since seen cl)) (hm : H mp = some (kmap tk cl)) {x : Int × Value × Nat} (hx : x ∈ tk) (hb : seen.back? = some x.2.2) (hn : (tk.map (·.2.2)).Nodup) {K : Value → Hp → Prop}
    (k : K (.tuple #[.int .i64 x.1, x.2.1]) H) : SemK P (Instr.entry (.pointer (some ⟨it, 0, none⟩))) H K := fun H0 w0 w hA => by
  have hh := iterO.heap hi hA.fits
  have hg := kmap.heap hm hA.fits
  have hgi : (getObj it).run P w = .ok (.mapIter (some mp) since seen cl) w := by simp [getObj, Sem.run, hh]
  refine ⟨_, H, w, ?_, k, hA⟩
  simp only [Instr.entry, Sem.run_bind, hgi, Result.andThen_ok, hb, MapKept.run_getObj_map hg, bne_self_eq_false, Bool.false_eq_true, if_false, List.find?_toArray, find_bornK tk x hx hn]
  rfl
theorem unseenK_lt {tk : List (Int × Value × Nat)} {seen : Array Nat} {x : Int × Value × Nat} (hx : x ∈ unseenK tk seen) : (unseenK tk (seen.push x.2.2)).length < (unseenK tk seen).length := by
  have e : unseenK tk (seen.push x.2.2) = (unseenK tk seen).filter fun y => y.2.2 != x.2.2 := by
    unfold unseenK
    rw [List.filter_filter]
    congr 1
    funext y
    rw [Array.contains_push]
    cases seen.contains y.2.2 <;> simp [bne]
  rw [e]
  have : ∀ l : List (Int × Value × Nat), x ∈ l → (l.filter fun y => y.2.2 != x.2.2).length < l.length := by
    intro l hl
    induction l with
    | nil => simp at hl
    | cons y l ih =>
      rcases List.mem_cons.1 hl with rfl | hl
      · rw [List.filter_cons_of_neg (by simp)]
        have := List.length_filter_le (fun y : Int × Value × Nat => y.2.2 != x.2.2) l
        simp only [List.length_cons]; omega
      · have := ih hl
        have := List.length_filter_le (fun y : Int × Value × Nat => y.2.2 != x.2.2) l
        rw [List.filter_cons]
        split <;> simp only [List.length_cons] <;> omega
  exact this _ hx
end Go.Hw
end
section
/- The frame of the proofs: words as natural numbers. -/
namespace Go.Hw
open Go
theorem ofNat64 {x : Nat} (h : x < 2 ^ 64) : (BitVec.ofInt 64 (x : Int)).toNat = x := by
  rw [BitVec.ofInt_natCast, BitVec.toNat_ofNat, Nat.mod_eq_of_lt h]
theorem or_lt {x y n : Nat} (hx : x < 2 ^ n) (hy : y < 2 ^ n) : x ||| y < 2 ^ n := Nat.or_lt_two_pow hx hy
theorem orN {x y : Nat} (hx : x < 2 ^ 64) (hy : y < 2 ^ 64) : bOr .u64 (x : Int) (y : Int) = ((x ||| y : Nat) : Int) := by
  unfold bOr
  rw [show IntKind.u64.bits = 64 from rfl, BitVec.toNat_or, ofNat64 hx, ofNat64 hy]
  have := or_lt hx hy
  exact u64n (by omega)
theorem andN {x y : Nat} (hx : x < 2 ^ 64) (hy : y < 2 ^ 64) : bAnd .u64 (x : Int) (y : Int) = ((x &&& y : Nat) : Int) := by
  unfold bAnd
  rw [show IntKind.u64.bits = 64 from rfl, BitVec.toNat_and, ofNat64 hx, ofNat64 hy]
  have : x &&& y ≤ x := Nat.and_le_left
  exact u64n (by omega)
theorem shlN {x : Nat} {i : Int} {n : Nat} (h : i = n) (hn : n ≤ 64) : shlI .u64 (x : Int) i = ((x * 2 ^ n % 2 ^ 64 : Nat) : Int) := by
  subst h
  unfold shlI
  rw [Int.toNat_natCast, show IntKind.u64.bits = 64 from rfl, Nat.min_eq_left hn, u64mod, show ((2 : Int) ^ n) = ((2 ^ n : Nat) : Int) by simp, ← Int.natCast_mul]
  rfl
theorem shrN {k : IntKind} {a : Nat} {i : Int} {n : Nat} (h : i = n) (hn : n ≤ k.bits) : shrI k (a : Int) i = ((a / 2 ^ n : Nat) : Int) := by
  rw [shrNat a h hn, Nat.shiftRight_eq_div_pow]
theorem Cells.shift {H : Hp} {A : Option Addr} {vs : List Value} (h : Cells H A vs) {m l : Nat} (hm : vs.length ≤ m) : Cells H (slA A m l 1) (vs.drop l) := fun i v hi => by
  rw [List.getElem?_drop] at hi
  have hlt := (List.getElem?_eq_some_iff.1 hi).1
  unfold slA
  rw [if_neg (by omega)]
  obtain ⟨a, rfl, hc⟩ := h _ _ hi
  exact ⟨_, rfl, by rw [add_add, Nat.mul_one]; exact hc⟩
theorem Cells.take {H : Hp} {A : Option Addr} {vs : List Value} (h : Cells H A vs) (n : Nat) : Cells H A (vs.take n) := fun i v hi => by
  rw [List.getElem?_take] at hi
  split at hi
  · exact h i v hi
  · cases hi
def leN : List UInt8 → Nat
  | [] => 0
  | b :: l => b.toNat + 256 * leN l
theorem leN_lt : ∀ l : List UInt8, leN l < 256 ^ l.length
  | [] => by simp [leN]
  | b :: l => by
    have h1 := leN_lt l
    have h2 : b.toNat < 256 := b.toNat_lt
    unfold leN
    rw [List.length_cons, Nat.pow_succ]
    have : 256 * leN l + 256 ≤ 256 ^ l.length * 256 := by
      have : leN l + 1 ≤ 256 ^ l.length := h1
      omega
    omega
theorem leN_drop {l : List UInt8} {j : Nat} (h : j < l.length) : leN (l.drop j) = l[j].toNat + 256 * leN (l.drop (j + 1)) := by
  rw [List.drop_eq_getElem_cons h]; rfl
theorem leN_lt8 {l : List UInt8} (h : l.length ≤ 8) : leN l < 2 ^ 64 := by
  have h1 := leN_lt l
  have h2 : 256 ^ l.length ≤ 256 ^ 8 := Nat.pow_le_pow_right (by omega) h
  rw [show (2 : Nat) ^ 64 = 256 ^ 8 by decide]
  omega
def bytesN : Nat → Nat → List UInt8
  | 0, _ => []
  | n + 1, x => UInt8.ofNat x :: bytesN n (x / 256)
theorem leN_bytesN : ∀ n x, leN (bytesN n x) = x % 256 ^ n
  | 0, x => by simp [bytesN, leN, Nat.mod_one]
  | n + 1, x => by
    unfold bytesN leN
    rw [leN_bytesN n, UInt8.toNat_ofNat', show (256 : Nat) ^ (n + 1) = 256 * 256 ^ n by rw [Nat.pow_succ, Nat.mul_comm], Nat.mod_mul]
theorem range_bytes (n : Nat) : ∀ x, (List.range n).map (fun k => UInt8.ofNat (x / 256 ^ k)) = bytesN n x := by
  induction n with
  | zero => intro x; rfl
  | succ n ih =>
    intro x
    rw [List.range_succ_eq_map]
    simp only [List.map_cons, List.map_map, Nat.pow_zero, Nat.div_one]
    unfold bytesN
    rw [← ih (x / 256)]
    congr 1
    apply List.map_congr_left
    intro k _
    simp only [Function.comp]
    rw [Nat.div_div_eq_div_mul, Nat.pow_succ, Nat.mul_comm]
end Go.Hw
end
section
/- Formulas of functions, printed by wip/tools/hwp.py. -/
namespace Go.Proofs.YtnknippcbecmeaaGreatDoor.W
open Go Go.Hw
theorem mixWdisk : Tryz.prog.follows .mixedOrders = true := by kernel_rfl
def W_disk_New (x1 : Int) (x2 : Int) (H : Hp) (K : Value → Hp → Prop) : Prop :=
  BIf (decide (x1 < (1 : Int))) (K (.pointer none) H) (BIf (decide (x1 > (1048576 : Int))) (K (.pointer none) H) (BIf (decide (x2 < (32 : Int))) (K (.pointer none) H) (BIf (decide (x2 > (4096 : Int))) (K (.pointer none) H) (BIf ((bAnd .i64 x2 (IntKind.i64.wrap (x2 - (1 : Int)))) != (0 : Int)) (K (.pointer none) H) ((x2 ≠ 0 ∧ IntKind.i64 = IntKind.i64 ∧ BIf (decide (x1 > (IntKind.i64.wrap (Int.tdiv (67108864 : Int) x2)))) (K (.pointer none) H) (Nw H (.obj (.map #[] 0)) fun b1 H1 => Nw H1 (.obj (.map #[] 0)) fun b2 H2 => Nw H2 (.obj (.map #[] 0)) fun b3 H3 => Nw H3 (.obj (.cells #[.int .i64 x1, .int .i64 x2, .map (some b1), .int .i64 0, .int .i64 0, .int .i64 0, .map (some b2), .bool false, .int .i64 0, .map (some b3)] 54)) fun b4 H4 => K (.pointer (some (⟨b4, 0, none⟩ : Addr))) H4)))))))
theorem W_disk_New.ok (x1 : Int) (x2 : Int) (H : Hp) (K : Value → Hp → Prop) (h : W_disk_New x1 x2 H K) : HCalls Tryz.prog 21 #[.int .i64 x1, .int .i64 x2] H K :=
  hcalls Tryz.func21 rfl (Nat.le_of_ble_eq_true rfl) (hw_safe (Λ := Cuts.none (fun _ => none)) mixWdisk _ _ _ _ _ (Eq.mp (by kernel_rfl) h) (obs_none _ _ _ _ _))
def W_disk_Disk_Dirty (p1 : Option Addr) (H : Hp) (K : Value → Hp → Prop) : Prop :=
  NN p1 fun a1 => Ld H (a1.add 9) fun v1 => DM v1 fun r1 => HCalls Tryz.prog 69 #[.map r1] H fun v2 H1 => HCalls Tryz.prog 68 #[v2] H1 fun v3 H2 => DSl v3 fun A1 n1 m1 => K (.slice A1 n1 m1) H2
theorem W_disk_Disk_Dirty.ok (p1 : Option Addr) (H : Hp) (K : Value → Hp → Prop) (h : W_disk_Disk_Dirty p1 H K) : HCalls Tryz.prog 30 #[.pointer p1] H K :=
  hcalls Tryz.func30 rfl (Nat.le_of_ble_eq_true rfl) (hw_safe (Λ := Cuts.none (fun _ => none)) mixWdisk _ _ _ _ _ (Eq.mp (by kernel_rfl) h) (obs_none _ _ _ _ _))
def W_disk_power_Crash (p1 : Option Addr) (H : Hp) (K : Value → Hp → Prop) : Prop :=
  NN p1 fun a1 => St H ((a1.add 0).add 0) (.bool true) fun H1 => NN p1 fun a2 => St H1 ((a2.add 1).add 0) (.int .i64 0) fun H2 => K (.tuple #[]) H2
theorem W_disk_power_Crash.ok (p1 : Option Addr) (H : Hp) (K : Value → Hp → Prop) (h : W_disk_power_Crash p1 H K) : HCalls Tryz.prog 31 #[.pointer p1] H K :=
  hcalls Tryz.func31 rfl (Nat.le_of_ble_eq_true rfl) (hw_safe (Λ := Cuts.none (fun _ => none)) mixWdisk _ _ _ _ _ (Eq.mp (by kernel_rfl) h) (obs_none _ _ _ _ _))
def W_disk_Disk_Boot.l4 (K : Value → Hp → Prop) : Nat → Option Addr → Option Addr → Nat → Nat → Option Addr → Nat → Nat → Int → Int → Hp → Prop
  | 0, _, _, _, _, _, _, _, _, _, _ => False
  | k + 1, p2, A3, n3, m3, A4, n4, m4, x1, x2, H =>
    let R4 := W_disk_Disk_Boot.l4 K k
    BIf (decide (x2 < x1)) (ixI x2 n4 (NN A4 fun a2 => Ld H (a2.add (x2.toNat * 1)) fun v3 => DI .i64 v3 fun x3 => BIf (decide (x2 < ((n3 : Nat) : Int))) (ixI x2 n3 (NN A3 fun a3 => Ld H (a3.add (x2.toNat * 1)) fun v4 => DB v4 fun c2 => BIf c2 (NN p2 fun a4 => Ld H ((a4.add 0).add 2) fun v5 => DM v5 fun r1 => NN p2 fun a5 => Ld H (a5.add 9) fun v6 => DM v6 fun r2 => SemV Tryz.prog (Instr.lookup 45 (.map r2) (.int .i64 x3) false) H fun v7 => DS v7 fun s1 => SemK Tryz.prog (Instr.mapUpdate 45 (.map r1) (.int .i64 x3) (.string s1)) H fun _ H2 => R4 p2 A3 n3 m3 A4 n4 m4 x1 (IntKind.i64.wrap (x2 + (1 : Int))) H2) (R4 p2 A3 n3 m3 A4 n4 m4 x1 (IntKind.i64.wrap (x2 + (1 : Int))) H))) (R4 p2 A3 n3 m3 A4 n4 m4 x1 (IntKind.i64.wrap (x2 + (1 : Int))) H))) (NN p2 fun a6 => Ld H (a6.add 9) fun v8 => DM v8 fun r3 => SemK Tryz.prog (Builtin.clear_ #[45] 0 #[.map r3]) H fun v9 H3 => NN p2 fun a7 => St H3 (((a7.add 7).add 0).add 0) (.bool false) fun H4 => K (.int .i64 0) H4)
def W_disk_Disk_Boot (p1 : Option Addr) (A1 : Option Addr) (n1 : Nat) (m1 : Nat) (H : Hp) (K : Value → Hp → Prop) : Prop :=
  NN p1 fun a1 => Ld H ((a1.add 7).add 0) fun v1 => DB v1 fun c1 => BIf (!c1) (K (.int .i64 5) H) (HCalls Tryz.prog 30 #[.pointer p1] H fun v2 H1 => DSl v2 fun A2 n2 m2 => (∃ k, W_disk_Disk_Boot.l4 K k p1 A1 n1 m1 A2 n2 m2 ((n2 : Nat) : Int) (0 : Int) H1))
def W_disk_Disk_Boot.l4.L (K : Value → Hp → Prop) (k : Nat) : Mid := fun E D H =>
  eP E 0 fun p2 => DG (E.get? 1) fun w1 => DSl w1 fun A3 n3 m3 => DG (E.get? 14) fun w14 => DSl w14 fun A4 n4 m4 => eI E 15 .i64 fun x1 => eI E 16 .i64 fun x2 => DNilD D (W_disk_Disk_Boot.l4 K k p2 A3 n3 m3 A4 n4 m4 x1 x2 H)
def W_disk_Disk_Boot.Λ4 (_ : Value → Hp → Prop) (_R4 : Option Addr → Option Addr → Nat → Nat → Option Addr → Nat → Nat → Int → Int → Hp → Prop) : Cuts := Cuts.none (fun i => match Nat.beq i 7 with | true => some ([], [0, 1, 2, 3, 4, 5, 6, 7, 8, 9, 10, 11], 12) | false => none)
def W_disk_Disk_Boot.Λ (K : Value → Hp → Prop) : Cuts := ⟨fun i => none, fun i => match Nat.beq i 4 with | true => some (fun E D H => ∃ k, W_disk_Disk_Boot.l4.L K k E D H) | false => none, (fun i => match Nat.beq i 7 with | true => some ([], [0, 1, 2, 3, 4, 5, 6, 7, 8, 9, 10, 11], 12) | false => none)⟩
theorem W_disk_Disk_Boot.ok (p1 : Option Addr) (A1 : Option Addr) (n1 : Nat) (m1 : Nat) (H : Hp) (K : Value → Hp → Prop) (h : W_disk_Disk_Boot p1 A1 n1 m1 H K) : HCalls Tryz.prog 33 #[.pointer p1, .slice A1 n1 m1] H K :=
  hcalls Tryz.func33 rfl (Nat.le_of_ble_eq_true rfl) (hw_safe (Λ := (W_disk_Disk_Boot.Λ K)) mixWdisk _ _ _ _ _ (Eq.mp (by kernel_rfl) h) (obs_seq obs_region rfl (obs_seq (obs_seq obs_region rfl (obs_cond (obs_seq obs_region rfl obs_ret) obs_skip)) rfl (obs_seq (obs_seq obs_region rfl (obs_block (obs_loop rfl (fun E D H h => by
      refine Safe.loop' (W_disk_Disk_Boot.l4.L K) (fun E D H h => ?_) (fun k E D H h => ?_) E D H h
      · obtain ⟨w0, e0, g1⟩ := DG.out h; obtain ⟨p2, rfl, g2⟩ := DP.out g1; obtain ⟨w1, e1, g3⟩ := DG.out g2; obtain ⟨A3, n3, m3, rfl, g4⟩ := DSl.out g3; obtain ⟨w14, e14, g5⟩ := DG.out g4; obtain ⟨A4, n4, m4, rfl, g6⟩ := DSl.out g5; obtain ⟨w15, e15, g7⟩ := DG.out g6; obtain ⟨x1, rfl, g8⟩ := DI.out g7; obtain ⟨w16, e16, g9⟩ := DG.out g8; obtain ⟨x2, rfl, g10⟩ := DI.out g9; obtain ⟨rfl, h'⟩ := DNilD.out g10; exact h'
      · obtain ⟨p2, e0, g2⟩ := GP h
        obtain ⟨w1, e1, g3⟩ := DG.out g2
        obtain ⟨A3, n3, m3, rfl, g4⟩ := DSl.out g3
        obtain ⟨w14, e14, g5⟩ := DG.out g4
        obtain ⟨A4, n4, m4, rfl, g6⟩ := DSl.out g5
        obtain ⟨x1, e15, g8⟩ := GI g6; obtain ⟨x2, e16, g10⟩ := GI g8; obtain ⟨rfl, h'⟩ := DNilD.out g10
        exact (hw_safe (Λ := (W_disk_Disk_Boot.Λ4 K (W_disk_Disk_Boot.l4 K k))) mixWdisk _ _ [(0, .pointer p2), (1, .slice A3 n3 m3), (14, .slice A4 n4 m4), (15, .int .i64 x1), (16, .int .i64 x2)] [] H (Eq.mp (by kernel_rfl) h') (obs_seq obs_region rfl (obs_seq (obs_cond obs_skip obs_exit) rfl (obs_seq (obs_block (obs_seq obs_region rfl (obs_seq obs_region rfl (obs_cond obs_region obs_skip)))) rfl obs_region)))).weaken (EnvLe.cons e0 (EnvLe.cons e1 (EnvLe.cons e14 (EnvLe.cons e15 (EnvLe.cons e16 (EnvLe.nil _)))))) (Hp.le_refl _))))) rfl (obs_seq obs_region rfl (obs_seq obs_region rfl (obs_seq obs_region rfl obs_ret)))))))
def W_disk_Disk_Write (p1 : Option Addr) (x1 : Int) (A1 : Option Addr) (n1 : Nat) (m1 : Nat) (H : Hp) (K : Value → Hp → Prop) : Prop :=
  HCalls Tryz.prog 70 #[.pointer p1, .int .i64 x1] H fun v1 H1 => DI .i64 v1 fun x2 => BIf (x2 != (0 : Int)) (K (.int .i64 x2) H1) (NN p1 fun a1 => Ld H1 ((a1.add 0).add 1) fun v2 => DI .i64 v2 fun x3 => BIf (((n1 : Nat) : Int) != x3) (K (.int .i64 19) H1) (NN p1 fun a2 => HCalls Tryz.prog 71 #[.pointer (some (a2.add 7))] H1 fun v3 H2 => DB v3 fun c1 => BIf c1 (K (.int .i64 8) H2) (NN p1 fun a3 => Ld H2 (((a3.add 3).add 0).add 1) fun v4 => DI .i64 v4 fun x4 => NN p1 fun a4 => St H2 ((((a4.add 3).add 0).add 1).add 0) (.int .i64 (IntKind.i64.wrap (x4 + (1 : Int)))) fun H3 => NN p1 fun a5 => Ld H3 ((a5.add 3).add 3) fun v5 => DM v5 fun r1 => SemK Tryz.prog (Instr.mapUpdate 48 (.map r1) (.int .i64 x1) (.int .i64 1)) H3 fun _ H4 => NN p1 fun a6 => Ld H4 (a6.add 9) fun v6 => DM v6 fun r2 => BsK H4 A1 n1 fun s1 => SemK Tryz.prog (Instr.mapUpdate 45 (.map r2) (.int .i64 x1) (.string s1)) H4 fun _ H5 => K (.int .i64 0) H5)))
theorem W_disk_Disk_Write.ok (p1 : Option Addr) (x1 : Int) (A1 : Option Addr) (n1 : Nat) (m1 : Nat) (H : Hp) (K : Value → Hp → Prop) (h : W_disk_Disk_Write p1 x1 A1 n1 m1 H K) : HCalls Tryz.prog 35 #[.pointer p1, .int .i64 x1, .slice A1 n1 m1] H K :=
  hcalls Tryz.func35 rfl (Nat.le_of_ble_eq_true rfl) (hw_safe (Λ := Cuts.none (fun i => match Nat.beq i 10 with | true => some ([], [0, 1, 2, 3, 4, 5, 6], 7) | false => none)) mixWdisk _ _ _ _ _ (Eq.mp (by kernel_rfl) h) (obs_none _ _ _ _ _))
def W_disk_plates_Sectors (p1 : Option Addr) (H : Hp) (K : Value → Hp → Prop) : Prop :=
  NN p1 fun a1 => Ld H (a1.add 0) fun v1 => DI .i64 v1 fun x1 => K (.int .i64 x1) H
theorem W_disk_plates_Sectors.ok (p1 : Option Addr) (H : Hp) (K : Value → Hp → Prop) (h : W_disk_plates_Sectors p1 H K) : HCalls Tryz.prog 44 #[.pointer p1] H K :=
  hcalls Tryz.func44 rfl (Nat.le_of_ble_eq_true rfl) (hw_safe (Λ := Cuts.none (fun _ => none)) mixWdisk _ _ _ _ _ (Eq.mp (by kernel_rfl) h) (obs_none _ _ _ _ _))
def W_disk_Disk_Sync (p1 : Option Addr) (H : Hp) (K : Value → Hp → Prop) : Prop :=
  NN p1 fun a1 => Ld H ((a1.add 7).add 0) fun v1 => DB v1 fun c1 => BIf c1 (K (.int .i64 8) H) (NN p1 fun a2 => HCalls Tryz.prog 71 #[.pointer (some (a2.add 7))] H fun v2 H1 => DB v2 fun c2 => BIf c2 (K (.int .i64 8) H1) (NN p1 fun a3 => Ld H1 (((a3.add 3).add 0).add 2) fun v3 => DI .i64 v3 fun x1 => NN p1 fun a4 => St H1 ((((a4.add 3).add 0).add 2).add 0) (.int .i64 (IntKind.i64.wrap (x1 + (1 : Int)))) fun H2 => NN p1 fun a5 => Ld H2 ((a5.add 0).add 2) fun v4 => DM v4 fun r1 => NN p1 fun a6 => Ld H2 (a6.add 9) fun v5 => DM v5 fun r2 => HCalls Tryz.prog 88 #[.map r1, .map r2] H2 fun v6 H3 => NN p1 fun a7 => Ld H3 (a7.add 9) fun v7 => DM v7 fun r3 => SemK Tryz.prog (Builtin.clear_ #[45] 0 #[.map r3]) H3 fun v8 H4 => K (.int .i64 0) H4))
theorem W_disk_Disk_Sync.ok (p1 : Option Addr) (H : Hp) (K : Value → Hp → Prop) (h : W_disk_Disk_Sync p1 H K) : HCalls Tryz.prog 47 #[.pointer p1] H K :=
  hcalls Tryz.func47 rfl (Nat.le_of_ble_eq_true rfl) (hw_safe (Λ := Cuts.none (fun i => match Nat.beq i 4 with | true => some ([], [0, 1, 2, 3, 4, 5, 6, 7, 8], 9) | false => none)) mixWdisk _ _ _ _ _ (Eq.mp (by kernel_rfl) h) (obs_none _ _ _ _ _))
def W_disk_Disk_Read (p1 : Option Addr) (x1 : Int) (H : Hp) (K : Value → Hp → Prop) : Prop :=
  HCalls Tryz.prog 70 #[.pointer p1, .int .i64 x1] H fun v1 H1 => DI .i64 v1 fun x2 => BIf (x2 != (0 : Int)) (K (.tuple #[.slice none 0 0, .int .i64 x2]) H1) (NN p1 fun a1 => HCalls Tryz.prog 71 #[.pointer (some (a1.add 7))] H1 fun v2 H2 => DB v2 fun c1 => BIf c1 (K (.tuple #[.slice none 0 0, .int .i64 8]) H2) (NN p1 fun a2 => Ld H2 (((a2.add 3).add 0).add 0) fun v3 => DI .i64 v3 fun x3 => NN p1 fun a3 => St H2 ((((a3.add 3).add 0).add 0).add 0) (.int .i64 (IntKind.i64.wrap (x3 + (1 : Int)))) fun H3 => NN p1 fun a4 => Ld H3 (a4.add 9) fun v4 => DM v4 fun r1 => SemV Tryz.prog (Instr.lookup 45 (.map r1) (.int .i64 x1) true) H3 fun v5 => DTup v5 fun l1 => DCons l1 fun v6 l2 => DS v6 fun s1 => DCons l2 fun v7 l3 => DB v7 fun c2 => DNil l3 (BIf c2 (StB 5 s1 H3 fun v8 H4 => DSl v8 fun A1 n1 m1 => K (.tuple #[.slice A1 n1 m1, .int .i64 0]) H4) (NN p1 fun a5 => HCalls Tryz.prog 110 #[.pointer (some (a5.add 0)), .int .i64 x1] H3 fun v9 H5 => DSl v9 fun A2 n2 m2 => K (.tuple #[.slice A2 n2 m2, .int .i64 0]) H5))))
theorem W_disk_Disk_Read.ok (p1 : Option Addr) (x1 : Int) (H : Hp) (K : Value → Hp → Prop) (h : W_disk_Disk_Read p1 x1 H K) : HCalls Tryz.prog 63 #[.pointer p1, .int .i64 x1] H K :=
  hcalls Tryz.func63 rfl (Nat.le_of_ble_eq_true rfl) (hw_safe (Λ := Cuts.none (fun _ => none)) mixWdisk _ _ _ _ _ (Eq.mp (by kernel_rfl) h) (obs_none _ _ _ _ _))
def W_disk_plates_Size (p1 : Option Addr) (H : Hp) (K : Value → Hp → Prop) : Prop :=
  NN p1 fun a1 => Ld H (a1.add 1) fun v1 => DI .i64 v1 fun x1 => K (.int .i64 x1) H
theorem W_disk_plates_Size.ok (p1 : Option Addr) (H : Hp) (K : Value → Hp → Prop) (h : W_disk_plates_Size p1 H K) : HCalls Tryz.prog 65 #[.pointer p1] H K :=
  hcalls Tryz.func65 rfl (Nat.le_of_ble_eq_true rfl) (hw_safe (Λ := Cuts.none (fun _ => none)) mixWdisk _ _ _ _ _ (Eq.mp (by kernel_rfl) h) (obs_none _ _ _ _ _))
def W_disk_Disk_check (p1 : Option Addr) (x1 : Int) (H : Hp) (K : Value → Hp → Prop) : Prop :=
  NN p1 fun a1 => Ld H ((a1.add 7).add 0) fun v1 => DB v1 fun c1 => BIf c1 (K (.int .i64 8) H) (BIf (decide (x1 < (0 : Int))) (K (.int .i64 2) H) (NN p1 fun a2 => Ld H ((a2.add 0).add 0) fun v2 => DI .i64 v2 fun x2 => BIf (decide (x1 ≥ x2)) (K (.int .i64 2) H) (K (.int .i64 0) H)))
theorem W_disk_Disk_check.ok (p1 : Option Addr) (x1 : Int) (H : Hp) (K : Value → Hp → Prop) (h : W_disk_Disk_check p1 x1 H K) : HCalls Tryz.prog 70 #[.pointer p1, .int .i64 x1] H K :=
  hcalls Tryz.func70 rfl (Nat.le_of_ble_eq_true rfl) (hw_safe (Λ := Cuts.none (fun _ => none)) mixWdisk _ _ _ _ _ (Eq.mp (by kernel_rfl) h) (obs_none _ _ _ _ _))
def W_disk_power_burns (p1 : Option Addr) (H : Hp) (K : Value → Hp → Prop) : Prop :=
  NN p1 fun a1 => Ld H (a1.add 1) fun v1 => DI .i64 v1 fun x1 => BIf (x1 == (0 : Int)) (K (.bool false) H) (NN p1 fun a2 => Ld H (a2.add 1) fun v2 => DI .i64 v2 fun x2 => NN p1 fun a3 => St H ((a3.add 1).add 0) (.int .i64 (IntKind.i64.wrap (x2 - (1 : Int)))) fun H1 => NN p1 fun a4 => Ld H1 (a4.add 1) fun v3 => DI .i64 v3 fun x3 => NN p1 fun a5 => St H1 ((a5.add 0).add 0) (.bool (x3 == (0 : Int))) fun H2 => NN p1 fun a6 => Ld H2 (a6.add 0) fun v4 => DB v4 fun c1 => K (.bool c1) H2)
theorem W_disk_power_burns.ok (p1 : Option Addr) (H : Hp) (K : Value → Hp → Prop) (h : W_disk_power_burns p1 H K) : HCalls Tryz.prog 71 #[.pointer p1] H K :=
  hcalls Tryz.func71 rfl (Nat.le_of_ble_eq_true rfl) (hw_safe (Λ := Cuts.none (fun _ => none)) mixWdisk _ _ _ _ _ (Eq.mp (by kernel_rfl) h) (obs_none _ _ _ _ _))
def W_disk_plates_get (p1 : Option Addr) (x1 : Int) (H : Hp) (K : Value → Hp → Prop) : Prop :=
  NN p1 fun a1 => Ld H (a1.add 1) fun v1 => DI .i64 v1 fun x2 => MkS Tryz.prog 5 x2 x2 H fun v2 H1 => DSl v2 fun A1 n1 m1 => NN p1 fun a2 => Ld H1 (a2.add 2) fun v3 => DM v3 fun r1 => SemV Tryz.prog (Instr.lookup 45 (.map r1) (.int .i64 x1) false) H1 fun v4 => DS v4 fun s1 => CpK Tryz.prog 5 (.slice A1 n1 m1) (.string s1) H1 fun v5 H2 => DI .i64 v5 fun x3 => K (.slice A1 n1 m1) H2
theorem W_disk_plates_get.ok (p1 : Option Addr) (x1 : Int) (H : Hp) (K : Value → Hp → Prop) (h : W_disk_plates_get p1 x1 H K) : HCalls Tryz.prog 110 #[.pointer p1, .int .i64 x1] H K :=
  hcalls Tryz.func110 rfl (Nat.le_of_ble_eq_true rfl) (hw_safe (Λ := Cuts.none (fun _ => none)) mixWdisk _ _ _ _ _ (Eq.mp (by kernel_rfl) h) (obs_none _ _ _ _ _))
end Go.Proofs.YtnknippcbecmeaaGreatDoor.W
end
section
/- A disk as a part of memory: contracts of its functions. -/
namespace Go.Proofs.YtnknippcbecmeaaGreatDoor.Dsk
open Go Go.Hw W
structure D where
  sec : Nat
  size : Nat
  safe : Int → Option (List UInt8)
  cache : Int → Option (List UInt8)
  tch : Int → Bool
  rd : Nat
  wr : Nat
  sy : Nat
  down : Bool
  fuse : Nat
def strV (l : List UInt8) : Value := .string ⟨l.toArray⟩
def strM (m : Int → Option (List UInt8)) : Int → Option Value := fun k => (m k).map strV
def tchM (m : Int → Bool) : Int → Option Value := fun k => if m k then some (.int .i64 1) else none
def dskO (d : D) (r1 r2 r3 : Nat) : AO := .obj (.cells #[.int .i64 d.sec, .int .i64 d.size, .map (some r1), .int .i64 d.rd, .int .i64 d.wr, .int .i64 d.sy, .map (some r2), .bool d.down, .int .i64 d.fuse, .map (some r3)] 54)
structure Ok (d : D) : Prop where
  sec : 1 ≤ d.sec ∧ d.sec ≤ 1048576
  size : 32 ≤ d.size ∧ d.size ≤ 4096
  big : d.sec * d.size ≤ 67108864
  per : d.size % 8 = 0
  safe : ∀ k b, d.safe k = some b → b.length = d.size
  cache : ∀ k b, d.cache k = some b → b.length = d.size
  fz : d.fuse ≤ 9223372036854775807
def Dk (p : Nat) (d : D) : As := fun H => ∃ r1 r2 r3, Sep [pts p (dskO d r1 r2 r3), Mp r1 (strM d.safe), Mp r2 (tchM d.tch), Mp r3 (strM d.cache)] H
theorem Sep.fold {M L : List As} {A : As} {H : Hp} (h : Sep (M ++ L) H) (k : ∀ H1, Sep M H1 → A H1) : Sep (A :: L) H := by
  obtain ⟨H1, H2, h1, h2, h3, h4, h5⟩ := h.append
  exact ⟨H1, H2, h1, h2, h3, k H1 h4, h5⟩
theorem Dk.open {p : Nat} {d : D} {L : List As} {H : Hp} (h : Sep (Dk p d :: L) H) : ∃ r1 r2 r3, Sep (pts p (dskO d r1 r2 r3) :: Mp r1 (strM d.safe) :: Mp r2 (tchM d.tch) :: Mp r3 (strM d.cache) :: L) H := by
  obtain ⟨H1, H2, h1, h2, h3, ⟨r1, r2, r3, h4⟩, h5⟩ := h
  exact ⟨r1, r2, r3, Sep.join h1 h2 h3 h4 h5⟩
theorem Dk.shut {p : Nat} {d : D} {r1 r2 r3 : Nat} {L : List As} {H : Hp} (h : Sep (pts p (dskO d r1 r2 r3) :: Mp r1 (strM d.safe) :: Mp r2 (tchM d.tch) :: Mp r3 (strM d.cache) :: L) H) : Sep (Dk p d :: L) H :=
  Sep.fold (M := [pts p (dskO d r1 r2 r3), Mp r1 (strM d.safe), Mp r2 (tchM d.tch), Mp r3 (strM d.cache)]) h fun H1 h1 => ⟨r1, r2, r3, h1⟩
theorem Dk.see {p : Nat} {d : D} {L : List As} {H : Hp} (h : Sep L H) (i : Nat) (hi : L[i]? = some (Dk p d)) : ∃ r1 r2 r3, H p = some (dskO d r1 r2 r3) := by
  obtain ⟨H1, ⟨r1, r2, r3, h1⟩, hle⟩ := h.see i hi
  exact ⟨r1, r2, r3, hle _ _ (h1.get 0 rfl)⟩
section
variable {L : List As} {H : Hp} {p : Nat} {d : D}
theorem Sectors_s (h : Sep L H) (i : Nat) (hi : L[i]? = some (Dk p d)) : HCalls Tryz.prog 44 #[.pointer (some ⟨p, 0, none⟩)] H (RetE (.int .i64 (d.sec : Int)) H) := by
  obtain ⟨r1, r2, r3, hd⟩ := Dk.see h i hi
  apply W_disk_plates_Sectors.ok
  unfold W_disk_plates_Sectors
  simp only [NN_some, Addr.add_lit', Addr.add_zero, Nat.zero_add, Nat.add_zero]
  refine Ld_obj hd (v := .int .i64 d.sec) rfl ?_
  simp only [HV]
  exact RetE.mk _ _
theorem Size_s (h : Sep L H) (i : Nat) (hi : L[i]? = some (Dk p d)) : HCalls Tryz.prog 65 #[.pointer (some ⟨p, 0, none⟩)] H (RetE (.int .i64 (d.size : Int)) H) := by
  obtain ⟨r1, r2, r3, hd⟩ := Dk.see h i hi
  apply W_disk_plates_Size.ok
  unfold W_disk_plates_Size
  simp only [NN_some, Addr.add_lit', Addr.add_zero, Nat.zero_add, Nat.add_zero]
  refine Ld_obj hd (v := .int .i64 d.size) rfl ?_
  simp only [HV]
  exact RetE.mk _ _
def D.chk (d : D) (i : Int) : Int := if d.down then 8 else if i < 0 ∨ i ≥ d.sec then 2 else 0
theorem check_s (h : Sep L H) (i : Nat) (hi : L[i]? = some (Dk p d)) (x : Int) : HCalls Tryz.prog 70 #[.pointer (some ⟨p, 0, none⟩), .int .i64 x] H (RetE (.int .i64 (d.chk x)) H) := by
  obtain ⟨r1, r2, r3, hd⟩ := Dk.see h i hi
  apply W_disk_Disk_check.ok
  unfold W_disk_Disk_check
  simp only [NN_some, Addr.add_lit', Addr.add_zero, Nat.zero_add, Nat.add_zero]
  refine Ld_obj hd (v := .bool d.down) rfl ?_
  simp only [HV]
  unfold D.chk
  cases d.down with
  | true => exact RetE.mk _ _
  | false =>
    simp only [HV]
    rw [if_neg (by simp)]
    by_cases h1 : x < 0
    · rw [if_pos (.inl h1)]; exact BIf_dpos h1 (RetE.mk _ _)
    · refine BIf_dneg h1 ?_
      refine Ld_obj hd (v := .int .i64 d.sec) rfl ?_
      simp only [HV]
      by_cases h2 : x ≥ d.sec
      · rw [if_pos (.inr h2)]; exact BIf_dpos h2 (RetE.mk _ _)
      · rw [if_neg (by omega)]; exact BIf_dneg h2 (RetE.mk _ _)
end
def D.burnt (d : D) : D := if d.fuse = 0 then d else { d with fuse := d.fuse - 1, down := decide (d.fuse = 1) }
def D.burns (d : D) : Bool := decide (d.fuse = 1)
theorem burns_tr {p : Nat} {d : D} (hf : d.fuse ≤ 9223372036854775807) : Tr Tryz.prog 71 #[.pointer (some ⟨p, 7, none⟩)] [Dk p d] fun v M => v = .bool d.burns ∧ M = [Dk p d.burnt] := fun H hs => by
  obtain ⟨r1, r2, r3, hs⟩ := Dk.open hs
  apply W_disk_power_burns.ok
  unfold W_disk_power_burns
  simp only [NN_some, Addr.add_lit', Addr.add_zero, Nat.zero_add, Nat.add_zero]
  refine hs.ld 0 rfl rfl ?_
  simp only [HV]
  by_cases h0 : d.fuse = 0
  · refine BIf_beqp (by omega) ⟨_, ⟨?_, rfl⟩, ?_⟩
    · unfold D.burns; rw [h0]; rfl
    · have : d.burnt = d := by unfold D.burnt; rw [if_pos h0]
      rw [this]; exact Dk.shut hs
  · refine BIf_beqn (by omega) ?_
    refine hs.ld 0 rfl rfl ?_
    simp only [HV]
    refine hs.st 0 rfl (by show 8 < 10; omega) rfl fun H hs => ?_
    refine hs.ld 0 rfl rfl ?_
    simp only [HV]
    rw [i64w (x := (d.fuse : Int) - 1) (by omega) (by omega)] at hs ⊢
    refine hs.st 0 rfl (by show 7 < 10; omega) rfl fun H hs => ?_
    refine hs.ld 0 rfl rfl ?_
    simp only [HV]
    have e : ((d.fuse : Int) - 1 == 0) = d.burns := by
      unfold D.burns
      by_cases h1 : d.fuse = 1
      · simp [h1]
      · rw [decide_eq_false h1]; simp; omega
    rw [e] at hs ⊢
    refine ⟨_, ⟨rfl, rfl⟩, ?_⟩
    have hb : d.burnt = { d with fuse := d.fuse - 1, down := d.burns } := by unfold D.burnt; rw [if_neg h0]; rfl
    rw [hb]
    refine Dk.shut (r1 := r1) (r2 := r2) (r3 := r3) ?_
    have ef : ((d.fuse - 1 : Nat) : Int) = (d.fuse : Int) - 1 := by omega
    unfold dskO
    simp only [ef]
    exact hs
end Go.Proofs.YtnknippcbecmeaaGreatDoor.Dsk
end
section
/- Formulas of functions, printed by wip/tools/hwp.py. -/
namespace Go.Proofs.YtnknippcbecmeaaGreatDoor.W
open Go Go.Hw
theorem mixWlayout : Tryz.prog.follows .mixedOrders = true := by kernel_rfl
def W_layout_Need (x1 : Int) (x2 : Int) (H : Hp) (K : Value → Hp → Prop) : Prop :=
  HCalls Tryz.prog 77 #[.int .i64 x2] H fun v1 H1 => DI .i64 v1 fun x3 => HCalls Tryz.prog 76 #[.int .i64 x1, .int .i64 x3] H1 fun v2 H2 => DB v2 fun c1 => BIf (!c1) (K (.tuple #[.int .i64 0, .int .i64 1]) H2) (HCalls Tryz.prog 77 #[.int .i64 x2] H2 fun v3 H3 => DI .i64 v3 fun x4 => HCalls Tryz.prog 78 #[.int .i64 x1, .int .i64 x4] H3 fun v4 H4 => DI .i64 v4 fun x5 => K (.tuple #[.int .i64 x5, .int .i64 0]) H4)
theorem W_layout_Need.ok (x1 : Int) (x2 : Int) (H : Hp) (K : Value → Hp → Prop) (h : W_layout_Need x1 x2 H K) : HCalls Tryz.prog 41 #[.int .i64 x1, .int .i64 x2] H K :=
  hcalls Tryz.func41 rfl (Nat.le_of_ble_eq_true rfl) (hw_safe (Λ := Cuts.none (fun _ => none)) mixWlayout _ _ _ _ _ (Eq.mp (by kernel_rfl) h) (obs_none _ _ _ _ _))
def W_layout_good (x1 : Int) (x2 : Int) (H : Hp) (K : Value → Hp → Prop) : Prop :=
  BIf (decide (x1 ≥ (0 : Int))) (BIf (decide (x1 ≤ (32 : Int))) (K (.bool (decide (x2 > (0 : Int)))) H) (K (.bool false) H)) (K (.bool false) H)
theorem W_layout_good.ok (x1 : Int) (x2 : Int) (H : Hp) (K : Value → Hp → Prop) (h : W_layout_good x1 x2 H K) : HCalls Tryz.prog 76 #[.int .i64 x1, .int .i64 x2] H K :=
  hcalls Tryz.func76 rfl (Nat.le_of_ble_eq_true rfl) (hw_safe (Λ := Cuts.none (fun _ => none)) mixWlayout _ _ _ _ _ (Eq.mp (by kernel_rfl) h) (obs_none _ _ _ _ _))
def W_layout_per (x1 : Int) (H : Hp) (K : Value → Hp → Prop) : Prop :=
  BIf (decide (x1 < (32 : Int))) (K (.int .i64 0) H) (BIf (decide (x1 > (4096 : Int))) (K (.int .i64 0) H) (BIf ((bAnd .i64 x1 (IntKind.i64.wrap (x1 - (1 : Int)))) != (0 : Int)) (K (.int .i64 0) H) (((8 : Int) ≠ 0 ∧ IntKind.i64 = IntKind.i64 ∧ K (.int .i64 (IntKind.i64.wrap (Int.tdiv x1 (8 : Int)))) H))))
theorem W_layout_per.ok (x1 : Int) (H : Hp) (K : Value → Hp → Prop) (h : W_layout_per x1 H K) : HCalls Tryz.prog 77 #[.int .i64 x1] H K :=
  hcalls Tryz.func77 rfl (Nat.le_of_ble_eq_true rfl) (hw_safe (Λ := Cuts.none (fun _ => none)) mixWlayout _ _ _ _ _ (Eq.mp (by kernel_rfl) h) (obs_none _ _ _ _ _))
def W_layout_need (x1 : Int) (x2 : Int) (H : Hp) (K : Value → Hp → Prop) : Prop :=
  HCalls Tryz.prog 125 #[.int .i64 x1, .int .i64 x2] H fun v1 H1 => DI .i64 v1 fun x3 => K (.int .i64 (IntKind.i64.wrap ((9 : Int) + (IntKind.i64.wrap ((4 : Int) * x3))))) H1
theorem W_layout_need.ok (x1 : Int) (x2 : Int) (H : Hp) (K : Value → Hp → Prop) (h : W_layout_need x1 x2 H K) : HCalls Tryz.prog 78 #[.int .i64 x1, .int .i64 x2] H K :=
  hcalls Tryz.func78 rfl (Nat.le_of_ble_eq_true rfl) (hw_safe (Λ := Cuts.none (fun _ => none)) mixWlayout _ _ _ _ _ (Eq.mp (by kernel_rfl) h) (obs_none _ _ _ _ _))
def W_layout_room (x1 : Int) (x2 : Int) (H : Hp) (K : Value → Hp → Prop) : Prop :=
  (0 ≤ (IntKind.u64.wrap x1) ∧ (x2 ≠ 0 ∧ IntKind.i64 = IntKind.i64 ∧ K (.int .i64 (IntKind.i64.wrap ((IntKind.i64.wrap (Int.tdiv (IntKind.i64.wrap ((shlI .i64 (1 : Int) (IntKind.u64.wrap x1)) - (1 : Int))) x2)) + (1 : Int)))) H))
theorem W_layout_room.ok (x1 : Int) (x2 : Int) (H : Hp) (K : Value → Hp → Prop) (h : W_layout_room x1 x2 H K) : HCalls Tryz.prog 125 #[.int .i64 x1, .int .i64 x2] H K :=
  hcalls Tryz.func125 rfl (Nat.le_of_ble_eq_true rfl) (hw_safe (Λ := Cuts.none (fun _ => none)) mixWlayout _ _ _ _ _ (Eq.mp (by kernel_rfl) h) (obs_none _ _ _ _ _))
end Go.Proofs.YtnknippcbecmeaaGreatDoor.W
end
section
/- layout, and its law's helpers: what they answer. -/
namespace Go.Proofs.YtnknippcbecmeaaGreatDoor.Lay
open Go Go.Hw W
def perN (s : Int) : Nat := if s = 32 then 4 else if s = 64 then 8 else if s = 128 then 16 else if s = 256 then 32 else if s = 512 then 64 else if s = 1024 then 128 else if s = 2048 then 256 else if s = 4096 then 512 else 0
theorem bAnd_nat {x y : Nat} (hx : x < 2 ^ 63) (hy : y < 2 ^ 63) : bAnd .i64 (x : Int) (y : Int) = ((x &&& y : Nat) : Int) := by
  have hle : x &&& y ≤ x := Nat.and_le_left
  have h1 : (BitVec.ofInt 64 (x : Int) &&& BitVec.ofInt 64 (y : Int)).toNat = x &&& y := by
    simp only [BitVec.toNat_and, BitVec.ofInt_natCast, BitVec.toNat_ofNat]
    rw [Nat.mod_eq_of_lt (by omega), Nat.mod_eq_of_lt (by omega)]
  unfold bAnd
  rw [show IntKind.i64.bits = 64 from rfl, h1]
  exact i64w (by omega) (by omega)
theorem pow_table : (List.range 4097).all (fun n => if 32 ≤ n then (if n &&& (n - 1) == 0 then perN n != 0 && n / 8 == perN n else perN n == 0) else true) = true := by kernel_rfl
theorem perN_small {s : Int} (h : s < 32) : perN s = 0 := by
  unfold perN
  repeat (rw [if_neg (by omega)])
theorem perN_great {s : Int} (h : 4096 < s) : perN s = 0 := by
  unfold perN
  repeat (rw [if_neg (by omega)])
theorem per_ok (s : Int) (H : Hp) : HCalls Tryz.prog 77 #[.int .i64 s] H (RetE (.int .i64 (perN s)) H) := by
  apply W_layout_per.ok
  unfold W_layout_per
  rw [BIf_decide, BIf_decide, BIf_if]
  by_cases h1 : s < 32
  · rw [if_pos h1, perN_small h1]; exact RetE.mk _ _
  rw [if_neg h1]
  by_cases h2 : s > 4096
  · rw [if_pos h2, perN_great h2]; exact RetE.mk _ _
  rw [if_neg h2]
  obtain ⟨n, rfl⟩ := Int.eq_ofNat_of_zero_le (show 0 ≤ s by omega)
  have ht := List.all_eq_true.1 pow_table n (by simp; omega)
  rw [if_pos (by omega)] at ht
  rw [show ((n : Int) - 1) = ((n - 1 : Nat) : Int) by omega, i64w (by omega) (by omega), bAnd_nat (by omega) (by omega)]
  split at ht
  · rename_i h3
    simp only [Bool.and_eq_true, bne_iff_ne, beq_iff_eq] at ht h3
    rw [h3, if_neg (by simp)]
    refine ⟨by omega, rfl, RetE.of ?_⟩
    rw [show Int.tdiv (n : Int) 8 = ((n / 8 : Nat) : Int) from rfl, ht.2, i64w (by omega) (by have := ht.2; omega)]
  · rename_i h3
    simp only [beq_iff_eq] at ht h3
    rw [if_pos (by simp; omega), ht]
    exact RetE.mk _ _
def roomN (k p : Nat) : Nat := (2 ^ k - 1) / p + 1
theorem roomN_le {k p : Nat} (hk : k ≤ 33) : roomN k p ≤ 8589934592 := by
  unfold roomN
  have h1 : 2 ^ k ≤ 2 ^ 33 := Nat.pow_le_pow_right (by omega) hk
  have h2 : (2 ^ k - 1) / p ≤ 2 ^ k - 1 := Nat.div_le_self _ _
  have h3 : 1 ≤ 2 ^ k := Nat.one_le_two_pow
  omega
theorem pow_i64 {k : Nat} (h : k ≤ 62) : (2 : Nat) ^ k ≤ 4611686018427387904 := Nat.pow_le_pow_right (n := 2) (by omega) h
theorem shl_one {k : Nat} (h : k ≤ 62) : shlI .i64 1 (k : Int) = ((2 ^ k : Nat) : Int) := by
  unfold shlI
  rw [Int.toNat_natCast, show IntKind.i64.bits = 64 from rfl, Nat.min_eq_left (by omega), Int.one_mul]
  have := pow_i64 h
  rw [show ((2 : Int) ^ k) = ((2 ^ k : Nat) : Int) by simp]
  exact i64n (by omega)
theorem room_ok {k p : Nat} (hk : k ≤ 62) (hp : 0 < p) (hp2 : p < 2 ^ 62) (H : Hp) : HCalls Tryz.prog 125 #[.int .i64 k, .int .i64 p] H (RetE (.int .i64 (roomN k p)) H) := by
  apply W_layout_room.ok
  unfold W_layout_room
  have h1 := pow_i64 hk
  have h2 : 1 ≤ 2 ^ k := Nat.one_le_two_pow
  have h3 : (2 ^ k - 1) / p ≤ 2 ^ k - 1 := Nat.div_le_self _ _
  rw [u64w (by omega) (by omega), shl_one hk, i64w (x := ((2 ^ k : Nat) : Int) - 1) (by omega) (by omega)]
  rw [show (((2 ^ k : Nat) : Int) - 1) = ((2 ^ k - 1 : Nat) : Int) by omega, show Int.tdiv ((2 ^ k - 1 : Nat) : Int) (p : Int) = (((2 ^ k - 1) / p : Nat) : Int) from rfl]
  refine ⟨by omega, by omega, rfl, RetE.of ?_⟩
  rw [i64n (by omega), show ((((2 ^ k - 1) / p : Nat) : Int) + 1) = (((2 ^ k - 1) / p + 1 : Nat) : Int) by rfl, i64n (by omega)]
  rfl
theorem good_ok (k : Int) (p : Int) (H : Hp) : HCalls Tryz.prog 76 #[.int .i64 k, .int .i64 p] H (RetE (.bool (decide (0 ≤ k ∧ k ≤ 32 ∧ 0 < p))) H) := by
  apply W_layout_good.ok
  unfold W_layout_good
  rw [BIf_decide, BIf_decide]
  by_cases h1 : k ≥ 0
  · rw [if_pos h1]
    by_cases h2 : k ≤ 32
    · rw [if_pos h2]; refine RetE.of ?_; congr 2; simp; omega
    · rw [if_neg h2]; refine RetE.of ?_; congr 1; simp; omega
  · rw [if_neg h1]; refine RetE.of ?_; congr 1; simp; omega
def needN (k p : Nat) : Nat := 9 + 4 * roomN k p
theorem need_ok {k p : Nat} (hk : k ≤ 32) (hp : 0 < p) (hp2 : p < 2 ^ 62) (H : Hp) : HCalls Tryz.prog 78 #[.int .i64 k, .int .i64 p] H (RetE (.int .i64 (needN k p)) H) := by
  apply W_layout_need.ok
  unfold W_layout_need
  refine HCalls.use (room_ok (by omega) hp hp2 H) ?_
  try simp only [HV]
  have := roomN_le (k := k) (p := p) (by omega)
  refine RetE.of ?_
  rw [i64w (x := 4 * (roomN k p : Int)) (by omega) (by omega), i64w (by omega) (by omega)]
  unfold needN; simp
theorem perN_le (s : Int) : perN s ≤ 512 := by
  unfold perN
  repeat' split
  all_goals omega
def NeedV (k s : Int) : Int × Int := if 0 ≤ k ∧ k ≤ 32 ∧ 0 < perN s then (needN k.toNat (perN s), 0) else (0, 1)
theorem Need_ok (k s : Int) (H : Hp) : HCalls Tryz.prog 41 #[.int .i64 k, .int .i64 s] H (RetE (.tuple #[.int .i64 (NeedV k s).1, .int .i64 (NeedV k s).2]) H) := by
  apply W_layout_Need.ok
  unfold W_layout_Need
  refine HCalls.use (per_ok s H) ?_
  try simp only [HV]
  refine HCalls.use (good_ok k _ H) ?_
  try simp only [HV]
  unfold NeedV
  have hle := perN_le s
  by_cases h : 0 ≤ k ∧ k ≤ 32 ∧ 0 < perN s
  · rw [if_pos h]
    refine BIf_neg (by simp; omega) ?_
    refine HCalls.use (per_ok s H) ?_
    try simp only [HV]
    obtain ⟨n, rfl⟩ := Int.eq_ofNat_of_zero_le h.1
    refine HCalls.use (need_ok (by omega) h.2.2 (by omega) H) ?_
    try simp only [HV]
    exact RetE.mk _ _
  · rw [if_neg h]
    exact BIf_pos (by simp; omega) (RetE.mk _ _)
end Go.Proofs.YtnknippcbecmeaaGreatDoor.Lay
end
section
/- Formulas of functions, printed by wip/tools/hwp.py. -/
namespace Go.Proofs.YtnknippcbecmeaaGreatDoor.W
open Go Go.Hw
theorem mixWlmaps : Tryz.prog.follows .mixedOrders = true := by kernel_rfl
def W_maps_Copy_map_int_string_map_int_string_int_string.l1 (K : Value → Hp → Prop) : Nat → Option Nat → Value → Hp → Prop
  | 0, _, _, _ => False
  | k + 1, r3, v2, H =>
    let R1 := W_maps_Copy_map_int_string_map_int_string_int_string.l1 K k
    SemK Tryz.prog (Instr.next (v2) false 0) H fun v3 H2 => Ex v3 0 fun v4 => DB v4 fun c1 => BIf c1 (SemK Tryz.prog (Instr.entry (v2)) H2 fun v5 H3 => Ex v5 0 fun v6 => DI .i64 v6 fun x1 => Ex v5 1 fun v7 => DS v7 fun s1 => SemK Tryz.prog (Instr.mapUpdate 45 (.map r3) (.int .i64 x1) (.string s1)) H3 fun _ H4 => R1 r3 v2 H4) (K (.tuple #[]) H2)
def W_maps_Copy_map_int_string_map_int_string_int_string (r1 : Option Nat) (r2 : Option Nat) (H : Hp) (K : Value → Hp → Prop) : Prop :=
  SemK Tryz.prog (Instr.range 45 (.map r2)) H fun v1 H1 => (∃ k, W_maps_Copy_map_int_string_map_int_string_int_string.l1 K k r1 v1 H1)
def W_maps_Copy_map_int_string_map_int_string_int_string.l1.L (K : Value → Hp → Prop) (k : Nat) : Mid := fun E D H =>
  DG (E.get? 0) fun w0 => DM w0 fun r3 => DG (E.get? 7) fun w7 => (fun v2 => DNilD D (W_maps_Copy_map_int_string_map_int_string_int_string.l1 K k r3 v2 H)) w7
def W_maps_Copy_map_int_string_map_int_string_int_string.Λ1 (_ : Value → Hp → Prop) (_R1 : Option Nat → Value → Hp → Prop) : Cuts := Cuts.none (fun _ => none)
def W_maps_Copy_map_int_string_map_int_string_int_string.Λ (K : Value → Hp → Prop) : Cuts := ⟨fun i => none, fun i => match Nat.beq i 1 with | true => some (fun E D H => ∃ k, W_maps_Copy_map_int_string_map_int_string_int_string.l1.L K k E D H) | false => none, (fun _ => none)⟩
theorem W_maps_Copy_map_int_string_map_int_string_int_string.ok (r1 : Option Nat) (r2 : Option Nat) (H : Hp) (K : Value → Hp → Prop) (h : W_maps_Copy_map_int_string_map_int_string_int_string r1 r2 H K) : HCalls Tryz.prog 88 #[.map r1, .map r2] H K :=
  hcalls Tryz.func88 rfl (Nat.le_of_ble_eq_true rfl) (hw_safe (Λ := (W_maps_Copy_map_int_string_map_int_string_int_string.Λ K)) mixWlmaps _ _ _ _ _ (Eq.mp (by kernel_rfl) h) (obs_seq obs_region rfl (obs_block (obs_loop rfl (fun E D H h => by
      refine Safe.loop' (W_maps_Copy_map_int_string_map_int_string_int_string.l1.L K) (fun E D H h => ?_) (fun k E D H h => ?_) E D H h
      · obtain ⟨w0, e0, g1⟩ := DG.out h; obtain ⟨r3, rfl, g2⟩ := DM.out g1; obtain ⟨w7, e7, g3⟩ := DG.out g2; obtain ⟨v2, rfl⟩ : ∃ q, q = w7 := ⟨_, rfl⟩; obtain ⟨rfl, h'⟩ := DNilD.out g3; exact h'
      · obtain ⟨w0, e0, g1⟩ := DG.out h
        obtain ⟨r3, rfl, g2⟩ := DM.out g1
        obtain ⟨w7, e7, g3⟩ := DG.out g2
        obtain ⟨v2, rfl⟩ : ∃ q, q = w7 := ⟨_, rfl⟩
        obtain ⟨rfl, h'⟩ := DNilD.out g3
        exact (hw_safe (Λ := (W_maps_Copy_map_int_string_map_int_string_int_string.Λ1 K (W_maps_Copy_map_int_string_map_int_string_int_string.l1 K k))) mixWlmaps _ _ [(0, .map r3), (7, v2)] [] H (Eq.mp (by kernel_rfl) h') (obs_seq obs_region rfl (obs_seq (obs_cond obs_skip obs_exit) rfl (obs_block (obs_seq obs_region rfl obs_region))))).weaken (EnvLe.cons e0 (EnvLe.cons e7 (EnvLe.nil _))) (Hp.le_refl _))))))
end Go.Proofs.YtnknippcbecmeaaGreatDoor.W
end
section
/- disk: New, Read, Write, Sync. -/
namespace Go.Proofs.YtnknippcbecmeaaGreatDoor.Dsk
open Go Go.Hw W
theorem u_int : Tryz.prog.underlying 3 = some (.int .i64) := by kernel_rfl
theorem u_strm : Tryz.prog.underlying 45 = some (.map 3 9) := by kernel_rfl
theorem u_intm : Tryz.prog.underlying 48 = some (.map 3 3) := by kernel_rfl
theorem z_str : ∃ j, Tryz.prog.info? 9 = some j ∧ j.zero = some (.string ByteArray.empty) := by
  have h : (Tryz.prog.info? 9).map (·.zero) = some (some (.string ByteArray.empty)) := by kernel_rfl
  obtain ⟨j, hj, h2⟩ := Option.map_eq_some_iff.1 h
  exact ⟨j, hj, h2⟩
theorem c_u8 : cellInfo Tryz.prog 5 = some (1, 1, some #[.int .u8 0]) := by kernel_rfl
def D.fresh (sec size : Nat) : D := ⟨sec, size, fun _ => none, fun _ => none, fun _ => false, 0, 0, 0, false, 0⟩
def D.sat (d : D) (i : Int) : List UInt8 := (d.safe i).getD (List.replicate d.size 0)
def D.now (d : D) (i : Int) : List UInt8 := (d.cache i).getD (d.sat i)
theorem Ok.sat {d : D} (h : Ok d) (i : Int) : (d.sat i).length = d.size := by
  unfold D.sat
  cases e : d.safe i with
  | none => simp
  | some b => exact h.safe i b e
theorem Ok.now {d : D} (h : Ok d) (i : Int) : (d.now i).length = d.size := by
  unfold D.now
  cases e : d.cache i with
  | none => exact h.sat i
  | some b => exact h.cache i b e
theorem Ok.burnt {d : D} (h : Ok d) : Ok d.burnt := by
  unfold D.burnt
  split
  · exact h
  · exact ⟨h.sec, h.size, h.big, h.per, h.safe, h.cache, Nat.le_trans (Nat.sub_le _ _) h.fz⟩
theorem Ok.fresh {sec size : Nat} (h1 : 1 ≤ sec ∧ sec ≤ 1048576) (h2 : 0 < Lay.perN size) (h3 : sec * size ≤ 67108864) : Ok (D.fresh sec size) := by
  have h : size = 32 ∨ size = 64 ∨ size = 128 ∨ size = 256 ∨ size = 512 ∨ size = 1024 ∨ size = 2048 ∨ size = 4096 := by
    unfold Lay.perN at h2
    repeat' split at h2
    all_goals omega
  refine ⟨h1, ?_, h3, ?_, fun k b h => (by cases h), fun k b h => (by cases h), Nat.zero_le _⟩
  · show 32 ≤ size ∧ size ≤ 4096; omega
  · show size % 8 = 0; omega
theorem New_tr (sec size : Nat) (h1 : 1 ≤ sec ∧ sec ≤ 1048576) (h2 : 0 < Lay.perN size) (h3 : sec * size ≤ 67108864) : Tr Tryz.prog 21 #[.int .i64 sec, .int .i64 size] [] fun v M => ∃ p, v = .pointer (some ⟨p, 0, none⟩) ∧ M = [Dk p (D.fresh sec size)] := fun H hs => by
  apply W_disk_New.ok
  unfold W_disk_New
  have h32 : ¬ ((size : Int) < 32) := fun h => by rw [Lay.perN_small h] at h2; omega
  have h40 : ¬ ((size : Int) > 4096) := fun h => by rw [Lay.perN_great h] at h2; omega
  refine BIf_dneg (by omega) (BIf_dneg (by omega) (BIf_dneg h32 (BIf_dneg h40 ?_)))
  have ht := List.all_eq_true.1 Lay.pow_table size (by simp; omega)
  rw [if_pos (by omega)] at ht
  rw [show ((size : Int) - 1) = ((size - 1 : Nat) : Int) by omega, i64w (by omega) (by omega), Lay.bAnd_nat (by omega) (by omega)]
  split at ht
  · rename_i h4
    simp only [beq_iff_eq] at h4
    rw [h4]
    refine BIf_bnen rfl ⟨by omega, rfl, ?_⟩
    rw [show Int.tdiv 67108864 (size : Int) = ((67108864 / size : Nat) : Int) from rfl]
    have hd : sec ≤ 67108864 / size := (Nat.le_div_iff_mul_le (by omega)).2 h3
    have hle : 67108864 / size ≤ 67108864 := Nat.div_le_self _ _
    rw [i64n (by omega)]
    refine BIf_dneg (by omega) ?_
    refine hs.nw fun b1 H hs => ?_
    have hs := Mp.new hs
    refine hs.nw fun b2 H hs => ?_
    have hs := Mp.new hs
    refine hs.nw fun b3 H hs => ?_
    have hs := Mp.new hs
    refine hs.nw fun b4 H hs => ?_
    refine ⟨_, ⟨b4, rfl, rfl⟩, Dk.shut (r1 := b1) (r2 := b2) (r3 := b3) (hs.re [3, 0, 1, 2] rfl)⟩
  · simp only [beq_iff_eq] at ht
    omega
theorem get_tr {p : Nat} {d : D} (hok : Ok d) (i : Int) : Tr Tryz.prog 110 #[.pointer (some ⟨p, 0, none⟩), .int .i64 i] [Dk p d] fun v M => ∃ b, v = .slice (some ⟨b, 0, none⟩) d.size d.size ∧ M = [Dk p d, pts b (.row (byteVals (d.sat i)) 5 d.size)] := fun H hs => by
  obtain ⟨r1, r2, r3, hs⟩ := Dk.open hs
  obtain ⟨jz, hz1, hz2⟩ := z_str
  have hsz := hok.size
  apply W_disk_plates_get.ok
  unfold W_disk_plates_get
  simp only [NN_some, Addr.add_lit', Addr.add_zero, Nat.zero_add, Nat.add_zero]
  refine hs.ld 0 rfl rfl ?_
  simp only [HV]
  refine hs.mks c_u8 rfl (n := d.size) (m := d.size) rfl rfl (Nat.le_refl _) (by omega) (by omega) fun b H hs => ?_
  simp only [HV]
  refine hs.ld 0 rfl rfl ?_
  simp only [HV]
  obtain ⟨H1, ⟨l, clock, hr1, hgk⟩, hle⟩ := hs.see 1 rfl
  refine lookupK u_int u_strm hz1 hz2 (hle _ _ hr1) false ?_
  rw [hgk.get]
  have e : ∀ bs : List UInt8, (bs.length = d.size ∨ bs = []) → setAt (zeroRow [.int .u8 0] d.size) 0 (byteVals bs) = byteVals (if bs = [] then List.replicate d.size 0 else bs) := fun bs hb => by
    rw [zeroRow_one]
    rcases hb with hb | rfl
    · rw [setAt_all (by rw [byteVals_length, List.length_replicate]; exact hb), if_neg (fun e => by rw [e] at hb; simp at hb; omega)]
    · rw [show byteVals [] = [] from rfl, setAt_nil, if_pos rfl]
      simp [byteVals]
  have fin : ∀ bs : List UInt8, (bs.length = d.size ∨ bs = []) → (if bs = [] then List.replicate d.size 0 else bs) = d.sat i →
      CpK Tryz.prog 5 (.slice (some ⟨b, 0, none⟩) d.size d.size) (.string ⟨bs.toArray⟩) H fun v5 H2 => DI .i64 v5 fun x3 => ∃ M, (∃ b', (.slice (some ⟨b, 0, none⟩) d.size d.size : Value) = .slice (some ⟨b', 0, none⟩) d.size d.size ∧ M = [Dk p d, pts b' (.row (byteVals (d.sat i)) 5 d.size)]) ∧ Sep M H2 := fun bs hb hsat => by
    have hlb : bs.length ≤ d.size := by rcases hb with hb | rfl <;> simp_all
    refine hs.cp 4 (k := bs.length) (ys := byteVals bs) rfl c_u8 rfl ?_ (by rw [byteVals_length, zeroRow_length]; simp; omega) (fun y hy => ?_) fun H hs => ?_
    · rw [show Nat.min bs.length d.size = bs.length from Nat.min_eq_left hlb]
      show some (byteVals ((⟨bs.toArray⟩ : ByteArray).extract 0 bs.length).data.toList) = _
      congr 2
      simp [ByteArray.extract, ByteArray.copySlice]
    · obtain ⟨x, _, rfl⟩ := List.mem_map.1 hy; rfl
    · simp only [HV]
      refine ⟨_, ⟨b, rfl, rfl⟩, ?_⟩
      rw [e bs hb, hsat, Nat.mul_one] at hs
      exact Dk.shut (hs.re [0, 1, 2, 3, 4] rfl)
  unfold strM
  cases hsf : d.safe i with
  | none =>
    exact fin [] (.inr rfl) (by unfold D.sat; rw [hsf]; rfl)
  | some bs =>
    have := hok.safe i bs hsf
    exact fin bs (.inl this) (by unfold D.sat; rw [hsf, if_neg (fun e => by rw [e] at this; simp at this; omega)]; rfl)
def readQ (p : Nat) (d : D) (i : Int) (v : Value) (M : List As) : Prop :=
  (d.chk i ≠ 0 ∧ v = .tuple #[.slice none 0 0, .int .i64 (d.chk i)] ∧ M = [Dk p d]) ∨
  (d.chk i = 0 ∧ d.burns = true ∧ v = .tuple #[.slice none 0 0, .int .i64 8] ∧ M = [Dk p d.burnt]) ∨
  (d.chk i = 0 ∧ d.burns = false ∧ ∃ b c m, v = .tuple #[.slice (some ⟨b, 0, none⟩) d.size c, .int .i64 0] ∧ d.size ≤ c ∧ M = [Dk p { d.burnt with rd := d.rd + 1 }, pts b (.row (byteVals (d.now i)) 5 m)])
theorem burnt_rd (d : D) : d.burnt.rd = d.rd ∧ d.burnt.wr = d.wr ∧ d.burnt.sy = d.sy ∧ d.burnt.size = d.size ∧ d.burnt.sec = d.sec ∧ d.burnt.safe = d.safe ∧ d.burnt.cache = d.cache ∧ d.burnt.tch = d.tch := by
  unfold D.burnt; split <;> simp
theorem Read_tr {p : Nat} {d : D} (hok : Ok d) (ho : d.rd ≤ 4611686018427387904) (i : Int) : Tr Tryz.prog 63 #[.pointer (some ⟨p, 0, none⟩), .int .i64 i] [Dk p d] (readQ p d i) := fun H hs => by
  obtain ⟨jz, hz1, hz2⟩ := z_str
  have hsz := hok.size
  have hf := hok.fz
  apply W_disk_Disk_Read.ok
  unfold W_disk_Disk_Read
  simp only [NN_some, Addr.add_lit', Addr.add_zero, Nat.zero_add, Nat.add_zero]
  refine HCalls.use (check_s hs 0 rfl i) ?_
  try simp only [HV]
  by_cases hc : d.chk i = 0
  · refine BIf_bnen hc ?_
    refine (burns_tr hf).use hs [0] rfl rfl ?_
    rintro _ _ H ⟨rfl, rfl⟩ hs
    simp only [HV]
    cases hb : d.burns with
    | true => exact ⟨_, .inr (.inl ⟨hc, hb, rfl, rfl⟩), hs⟩
    | false =>
      simp only [HV]
      have hbr := burnt_rd d
      obtain ⟨r1, r2, r3, hs⟩ := Dk.open (L := []) hs
      refine hs.ld 0 rfl rfl ?_
      simp only [HV]
      refine hs.st 0 rfl (by show 3 < 10; omega) rfl fun H hs => ?_
      rw [hbr.1] at hs
      rw [i64w (x := (d.rd : Int) + 1) (by omega) (by omega)] at hs
      refine hs.ld 0 rfl rfl ?_
      simp only [HV]
      have hs : Sep [pts p (dskO { d.burnt with rd := d.rd + 1 } r1 r2 r3), Mp r1 (strM d.burnt.safe), Mp r2 (tchM d.burnt.tch), Mp r3 (strM d.burnt.cache)] H := hs
      obtain ⟨H1, ⟨l, clock, hr1, hgk⟩, hle⟩ := hs.see 3 rfl
      refine lookupK u_int u_strm hz1 hz2 (hle _ _ hr1) true ?_
      rw [hgk.get, hbr.2.2.2.2.2.2.1]
      unfold strM
      cases hcd : d.cache i with
      | some bs =>
        have hl := hok.cache i bs hcd
        simp only [Option.map_some, strV, if_true]
        simp only [HV]
        refine ⟨by show bs.toArray.size ≤ _; simp; omega, fun c hbc => ?_⟩
        refine hs.nw fun b H hs => ?_
        simp only [HV]
        have hsize : ((⟨bs.toArray⟩ : ByteArray).size) = d.size := by show bs.toArray.size = _; simpa using hl
        rw [hsize] at hbc ⊢
        refine ⟨_, .inr (.inr ⟨hc, hb, b, c, c, rfl, hbc, rfl⟩), ?_⟩
        have : d.now i = bs := by unfold D.now; rw [hcd]; rfl
        rw [this]
        exact Dk.shut hs
      | none =>
        simp only [Option.map_none, if_true]
        simp only [HV]
        have hs := Dk.shut (L := []) hs
        have hsat : (D.sat { d.burnt with rd := d.rd + 1 } i) = d.sat i := by unfold D.sat; rw [show ({ d.burnt with rd := d.rd + 1 } : D).safe = d.burnt.safe from rfl, hbr.2.2.2.2.2.1, show ({ d.burnt with rd := d.rd + 1 } : D).size = d.burnt.size from rfl, hbr.2.2.2.1]
        have hok2 : Ok { d.burnt with rd := d.rd + 1 } := ⟨hok.burnt.sec, hok.burnt.size, hok.burnt.big, hok.burnt.per, hok.burnt.safe, hok.burnt.cache, hok.burnt.fz⟩
        refine (get_tr hok2 i).use hs [0] rfl rfl ?_
        rintro _ _ H ⟨b, rfl, rfl⟩ hs
        simp only [HV]
        refine ⟨_, .inr (.inr ⟨hc, hb, b, d.size, d.size, ?_, Nat.le_refl _, rfl⟩), ?_⟩
        · show (Value.tuple #[.slice (some ⟨b, 0, none⟩) d.burnt.size d.burnt.size, .int .i64 0]) = _
          rw [hbr.2.2.2.1]
        · have : d.now i = d.sat i := by unfold D.now; rw [hcd]; rfl
          rw [this, ← hsat]
          have e : ({ d.burnt with rd := d.rd + 1 } : D).size = d.size := hbr.2.2.2.1
          rw [← e]
          exact hs
  · refine BIf_bnep hc ⟨_, .inl ⟨hc, rfl, rfl⟩, hs⟩
def updB (m : Int → Option (List UInt8)) (k : Int) (v : List UInt8) : Int → Option (List UInt8) := fun j => if j = k then some v else m j
def updT (m : Int → Bool) (k : Int) : Int → Bool := fun j => if j = k then true else m j
theorem updB_M (m : Int → Option (List UInt8)) (k : Int) (v : List UInt8) : updM (strM m) k (strV v) = strM (updB m k v) := by
  funext j
  unfold updM strM updB
  split <;> rfl
theorem updT_M (m : Int → Bool) (k : Int) : updM (tchM m) k (.int .i64 1) = tchM (updT m k) := by
  funext j
  unfold updM tchM updT
  split <;> rfl
def D.wrote (d : D) (i : Int) (bs : List UInt8) : D := { d.burnt with wr := d.wr + 1, tch := updT d.tch i, cache := updB d.cache i bs }
def D.writeE (d : D) (i : Int) (n : Nat) : Int := if d.chk i ≠ 0 then d.chk i else if n ≠ d.size then 19 else if d.burns then 8 else 0
def D.writeD (d : D) (i : Int) (bs : List UInt8) : D := if d.chk i ≠ 0 then d else if bs.length ≠ d.size then d else if d.burns then d.burnt else d.wrote i bs
theorem Write_tr {p : Nat} {d : D} (hok : Ok d) (ho : d.wr ≤ 4611686018427387904) (i : Int) (A : Option Addr) (n m : Nat) (bs : List UInt8) (hn : n = bs.length) (R : As) (hR : ∀ H, R H → Cells H A (byteVals bs)) :
    Tr Tryz.prog 35 #[.pointer (some ⟨p, 0, none⟩), .int .i64 i, .slice A n m] [Dk p d, R] fun v M => v = .int .i64 (d.writeE i n) ∧ M = [Dk p (d.writeD i bs), R] := fun H hs => by
  have hf := hok.fz
  have hsz := hok.size
  apply W_disk_Disk_Write.ok
  unfold W_disk_Disk_Write
  simp only [NN_some, Addr.add_lit', Addr.add_zero, Nat.zero_add, Nat.add_zero]
  refine HCalls.use (check_s hs 0 rfl i) ?_
  try simp only [HV]
  by_cases hc : d.chk i = 0
  · refine BIf_bnen hc ?_
    obtain ⟨r1, r2, r3, hd⟩ := Dk.see hs 0 rfl
    refine Ld_obj hd (v := .int .i64 d.size) rfl ?_
    simp only [HV]
    by_cases hnd : n = d.size
    · refine BIf_bnen (by omega) ?_
      have hnl : bs.length = d.size := by omega
      refine (burns_tr hf).use hs [0] rfl rfl ?_
      rintro _ _ H ⟨rfl, rfl⟩ hs
      simp only [HV]
      cases hb : d.burns with
      | true => exact ⟨_, ⟨by simp [D.writeE, hc, hnd, hb], by simp [D.writeD, hc, hnl, hb]; rfl⟩, hs⟩
      | false =>
        simp only [HV]
        have hbr := burnt_rd d
        obtain ⟨r1, r2, r3, hs⟩ := Dk.open hs
        refine hs.ld 0 rfl rfl ?_
        simp only [HV]
        refine hs.st 0 rfl (by show 4 < 10; omega) rfl fun H hs => ?_
        rw [hbr.2.1] at hs
        rw [i64w (x := (d.wr : Int) + 1) (by omega) (by omega)] at hs
        refine hs.ld 0 rfl rfl ?_
        simp only [HV]
        refine hs.upd u_int u_intm 2 rfl fun H hs => ?_
        rw [updT_M, hbr.2.2.2.2.2.2.2] at hs
        refine hs.ld 0 rfl rfl ?_
        simp only [HV]
        obtain ⟨H1, hR1, hle⟩ := hs.see 4 (A := R) rfl
        refine BsK_of ((hR H1 hR1).le hle) hn ?_
        refine hs.upd u_int u_strm 3 rfl fun H hs => ?_
        rw [show (Value.string ⟨bs.toArray⟩) = strV bs from rfl, updB_M, hbr.2.2.2.2.2.2.1] at hs
        refine ⟨_, ⟨by simp [D.writeE, hc, hnd, hb], by simp [D.writeD, hc, hnl, hb]; rfl⟩, ?_⟩
        exact Dk.shut (d := d.wrote i bs) (r1 := r1) (r2 := r2) (r3 := r3) hs
    · refine BIf_bnep (by omega) ?_
      have hnl : bs.length ≠ d.size := by omega
      exact ⟨_, ⟨by simp [D.writeE, hc, hnd], by simp [D.writeD, hc, hnl]⟩, hs⟩
  · refine BIf_bnep hc ?_
    exact ⟨_, ⟨by simp [D.writeE, hc], by simp [D.writeD, hc]⟩, hs⟩
theorem chk_in {d : D} {i : Int} (h : d.chk i = 0) : 0 ≤ i ∧ i < d.sec ∧ d.down = false := by
  unfold D.chk at h
  split at h
  · omega
  · split at h
    · omega
    · rename_i h1 h2
      exact ⟨by omega, by omega, by simpa using h1⟩
end Go.Proofs.YtnknippcbecmeaaGreatDoor.Dsk
end
section
/- layout: places; the law LayoutPlaces. -/
namespace Go.Proofs.YtnknippcbecmeaaGreatDoor.Lay
open Go Go.Hw W
def extV (f s w : Int) : Array Value := #[.int .i64 f, .int .i64 s, .int .i64 w]
def layV (k p : Nat) : Array Value :=
  let r : Int := roomN k p
  let w : Int := (2 ^ k : Nat)
  #[.int .i64 k, .int .i64 p, .int .i64 1, .int .i64 8, .int .i64 ((8 * p : Nat) : Int), .int .i64 9, .int .i64 r, .int .i64 w, .int .i64 (9 + r), .int .i64 r, .int .i64 w, .int .i64 (9 + 2 * r), .int .i64 r, .int .i64 w, .int .i64 (9 + 3 * r), .int .i64 r, .int .i64 w]
def exF (r : Int) (i : Nat) : Int := 9 + i * r
section
variable (K : Value → Hp → Prop) (k p e : Nat) (hk : k ≤ 10) (b1 b2 : Nat) (H0 H : Hp) (hle : H0.le H) (h1 : H b1 = some (.obj (.cells (layV k p) 33))) (h2 : H b2 = some (.obj (.cells (extV (exF (roomN k p) e) (roomN k p) ((2 ^ k : Nat) : Int)) 30)))
include hk hle h1 h2
end
end Go.Proofs.YtnknippcbecmeaaGreatDoor.Lay
end
section
/- Formulas of functions, printed by wip/tools/hwp.py. -/
namespace Go.Proofs.YtnknippcbecmeaaGreatDoor.W
open Go Go.Hw
theorem mixWcodec : Tryz.prog.follows .mixedOrders = true := by kernel_rfl
def W_codec_Put.l3 (K : Value → Hp → Prop) : Nat → Option Addr → Nat → Nat → Option Addr → Nat → Nat → Int → Int → Hp → Prop
  | 0, _, _, _, _, _, _, _, _, _ => False
  | k + 1, A3, n3, m3, A4, n4, m4, x1, x2, H =>
    let R3 := W_codec_Put.l3 K k
    BIf (decide (x2 < x1)) (ixI x2 n4 (NN A4 fun a1 => Ld H (a1.add (x2.toNat * 1)) fun v2 => DI .u64 v2 fun x3 => slB n3 m3 (some (IntKind.i64.wrap ((8 : Int) * x2))) none fun n5 n6 => HCalls Tryz.prog 148 #[.slice (slA A3 m3 n5 1) (n6 - n5) (m3 - n5), .int .u64 x3] H fun v3 H2 => R3 A3 n3 m3 A4 n4 m4 x1 (IntKind.i64.wrap (x2 + (1 : Int))) H2)) (K (.slice A3 n3 m3) H)
def W_codec_Put (A1 : Option Addr) (n1 : Nat) (m1 : Nat) (H : Hp) (K : Value → Hp → Prop) : Prop :=
  MkS Tryz.prog 5 (IntKind.i64.wrap ((8 : Int) * ((n1 : Nat) : Int))) (IntKind.i64.wrap ((8 : Int) * ((n1 : Nat) : Int))) H fun v1 H1 => DSl v1 fun A2 n2 m2 => (∃ k, W_codec_Put.l3 K k A2 n2 m2 A1 n1 m1 ((n1 : Nat) : Int) (0 : Int) H1)
def W_codec_Put.l3.L (K : Value → Hp → Prop) (k : Nat) : Mid := fun E D H =>
  DG (E.get? 3) fun w3 => DSl w3 fun A3 n3 m3 => DG (E.get? 10) fun w10 => DSl w10 fun A4 n4 m4 => eI E 11 .i64 fun x1 => eI E 12 .i64 fun x2 => DNilD D (W_codec_Put.l3 K k A3 n3 m3 A4 n4 m4 x1 x2 H)
def W_codec_Put.Λ3 (_ : Value → Hp → Prop) (_R3 : Option Addr → Nat → Nat → Option Addr → Nat → Nat → Int → Int → Hp → Prop) : Cuts := Cuts.none (fun _ => none)
def W_codec_Put.Λ (K : Value → Hp → Prop) : Cuts := ⟨fun i => none, fun i => match Nat.beq i 3 with | true => some (fun E D H => ∃ k, W_codec_Put.l3.L K k E D H) | false => none, (fun _ => none)⟩
theorem W_codec_Put.ok (A1 : Option Addr) (n1 : Nat) (m1 : Nat) (H : Hp) (K : Value → Hp → Prop) (h : W_codec_Put A1 n1 m1 H K) : HCalls Tryz.prog 114 #[.slice A1 n1 m1] H K :=
  hcalls Tryz.func114 rfl (Nat.le_of_ble_eq_true rfl) (hw_safe (Λ := (W_codec_Put.Λ K)) mixWcodec _ _ _ _ _ (Eq.mp (by kernel_rfl) h) (obs_seq obs_region rfl (obs_seq obs_region rfl (obs_seq (obs_seq obs_region rfl (obs_block (obs_loop rfl (fun E D H h => by
      refine Safe.loop' (W_codec_Put.l3.L K) (fun E D H h => ?_) (fun k E D H h => ?_) E D H h
      · obtain ⟨w3, e3, g1⟩ := DG.out h; obtain ⟨A3, n3, m3, rfl, g2⟩ := DSl.out g1; obtain ⟨w10, e10, g3⟩ := DG.out g2; obtain ⟨A4, n4, m4, rfl, g4⟩ := DSl.out g3; obtain ⟨w11, e11, g5⟩ := DG.out g4; obtain ⟨x1, rfl, g6⟩ := DI.out g5; obtain ⟨w12, e12, g7⟩ := DG.out g6; obtain ⟨x2, rfl, g8⟩ := DI.out g7; obtain ⟨rfl, h'⟩ := DNilD.out g8; exact h'
      · obtain ⟨w3, e3, g1⟩ := DG.out h
        obtain ⟨A3, n3, m3, rfl, g2⟩ := DSl.out g1
        obtain ⟨w10, e10, g3⟩ := DG.out g2
        obtain ⟨A4, n4, m4, rfl, g4⟩ := DSl.out g3
        obtain ⟨x1, e11, g6⟩ := GI g4; obtain ⟨x2, e12, g8⟩ := GI g6; obtain ⟨rfl, h'⟩ := DNilD.out g8
        exact (hw_safe (Λ := (W_codec_Put.Λ3 K (W_codec_Put.l3 K k))) mixWcodec _ _ [(3, .slice A3 n3 m3), (10, .slice A4 n4 m4), (11, .int .i64 x1), (12, .int .i64 x2)] [] H (Eq.mp (by kernel_rfl) h') (obs_seq obs_region rfl (obs_seq (obs_cond obs_skip obs_exit) rfl (obs_seq (obs_block (obs_seq obs_region rfl obs_region)) rfl obs_region)))).weaken (EnvLe.cons e3 (EnvLe.cons e10 (EnvLe.cons e11 (EnvLe.cons e12 (EnvLe.nil _))))) (Hp.le_refl _))))) rfl (obs_seq obs_region rfl obs_ret)))))
def W_codec_Word (A1 : Option Addr) (n1 : Nat) (m1 : Nat) (x1 : Int) (H : Hp) (K : Value → Hp → Prop) : Prop :=
  HCalls Tryz.prog 163 #[.slice A1 n1 m1, .int .i64 x1] H fun v1 H1 => DB v1 fun c1 => BIf (!c1) (K (.tuple #[.int .u64 0, .int .i64 2]) H1) (slB n1 m1 (some (IntKind.i64.wrap ((8 : Int) * x1))) none fun n2 n3 => HCalls Tryz.prog 164 #[.slice (slA A1 m1 n2 1) (n3 - n2) (m1 - n2)] H1 fun v2 H2 => DI .u64 v2 fun x2 => K (.tuple #[.int .u64 x2, .int .i64 0]) H2)
theorem W_codec_Word.ok (A1 : Option Addr) (n1 : Nat) (m1 : Nat) (x1 : Int) (H : Hp) (K : Value → Hp → Prop) (h : W_codec_Word A1 n1 m1 x1 H K) : HCalls Tryz.prog 130 #[.slice A1 n1 m1, .int .i64 x1] H K :=
  hcalls Tryz.func130 rfl (Nat.le_of_ble_eq_true rfl) (hw_safe (Λ := Cuts.none (fun _ => none)) mixWcodec _ _ _ _ _ (Eq.mp (by kernel_rfl) h) (obs_none _ _ _ _ _))
def W_codec_set.l1 (K : Value → Hp → Prop) : Nat → Option Addr → Nat → Nat → Int → Int → Hp → Prop
  | 0, _, _, _, _, _, _ => False
  | k + 1, A2, n2, m2, x2, x3, H =>
    let R1 := W_codec_set.l1 K k
    BIf (decide (x3 < (8 : Int))) ((0 ≤ (IntKind.u64.wrap (IntKind.i64.wrap ((8 : Int) * x3))) ∧ ixI x3 n2 (NN A2 fun a1 => St H ((a1.add (x3.toNat * 1)).add 0) (.int .u8 (IntKind.u8.wrap (shrI .u64 x2 (IntKind.u64.wrap (IntKind.i64.wrap ((8 : Int) * x3)))))) fun H1 => R1 A2 n2 m2 x2 (IntKind.i64.wrap (x3 + (1 : Int))) H1))) (K (.tuple #[]) H)
def W_codec_set (A1 : Option Addr) (n1 : Nat) (m1 : Nat) (x1 : Int) (H : Hp) (K : Value → Hp → Prop) : Prop :=
  (∃ k, W_codec_set.l1 K k A1 n1 m1 x1 (0 : Int) H)
def W_codec_set.l1.L (K : Value → Hp → Prop) (k : Nat) : Mid := fun E D H =>
  DG (E.get? 0) fun w0 => DSl w0 fun A2 n2 m2 => eI E 1 .u64 fun x2 => eI E 5 .i64 fun x3 => DNilD D (W_codec_set.l1 K k A2 n2 m2 x2 x3 H)
def W_codec_set.Λ1 (_ : Value → Hp → Prop) (_R1 : Option Addr → Nat → Nat → Int → Int → Hp → Prop) : Cuts := Cuts.none (fun _ => none)
def W_codec_set.Λ (K : Value → Hp → Prop) : Cuts := ⟨fun i => none, fun i => match Nat.beq i 1 with | true => some (fun E D H => ∃ k, W_codec_set.l1.L K k E D H) | false => none, (fun _ => none)⟩
theorem W_codec_set.ok (A1 : Option Addr) (n1 : Nat) (m1 : Nat) (x1 : Int) (H : Hp) (K : Value → Hp → Prop) (h : W_codec_set A1 n1 m1 x1 H K) : HCalls Tryz.prog 148 #[.slice A1 n1 m1, .int .u64 x1] H K :=
  hcalls Tryz.func148 rfl (Nat.le_of_ble_eq_true rfl) (hw_safe (Λ := (W_codec_set.Λ K)) mixWcodec _ _ _ _ _ (Eq.mp (by kernel_rfl) h) (obs_seq obs_region rfl (obs_block (obs_loop rfl (fun E D H h => by
      refine Safe.loop' (W_codec_set.l1.L K) (fun E D H h => ?_) (fun k E D H h => ?_) E D H h
      · obtain ⟨w0, e0, g1⟩ := DG.out h; obtain ⟨A2, n2, m2, rfl, g2⟩ := DSl.out g1; obtain ⟨w1, e1, g3⟩ := DG.out g2; obtain ⟨x2, rfl, g4⟩ := DI.out g3; obtain ⟨w5, e5, g5⟩ := DG.out g4; obtain ⟨x3, rfl, g6⟩ := DI.out g5; obtain ⟨rfl, h'⟩ := DNilD.out g6; exact h'
      · obtain ⟨w0, e0, g1⟩ := DG.out h
        obtain ⟨A2, n2, m2, rfl, g2⟩ := DSl.out g1
        obtain ⟨x2, e1, g4⟩ := GI g2; obtain ⟨x3, e5, g6⟩ := GI g4; obtain ⟨rfl, h'⟩ := DNilD.out g6
        exact (hw_safe (Λ := (W_codec_set.Λ1 K (W_codec_set.l1 K k))) mixWcodec _ _ [(0, .slice A2 n2 m2), (1, .int .u64 x2), (5, .int .i64 x3)] [] H (Eq.mp (by kernel_rfl) h') (obs_seq obs_region rfl (obs_seq (obs_cond obs_skip obs_exit) rfl (obs_seq (obs_block (obs_seq obs_region rfl obs_region)) rfl obs_region)))).weaken (EnvLe.cons e0 (EnvLe.cons e1 (EnvLe.cons e5 (EnvLe.nil _)))) (Hp.le_refl _))))))
def W_codec_inside (A1 : Option Addr) (n1 : Nat) (m1 : Nat) (x1 : Int) (H : Hp) (K : Value → Hp → Prop) : Prop :=
  BIf (decide (x1 ≥ (0 : Int))) (((8 : Int) ≠ 0 ∧ IntKind.i64 = IntKind.i64 ∧ K (.bool (decide (x1 < (IntKind.i64.wrap (Int.tdiv ((n1 : Nat) : Int) (8 : Int)))))) H)) (K (.bool false) H)
theorem W_codec_inside.ok (A1 : Option Addr) (n1 : Nat) (m1 : Nat) (x1 : Int) (H : Hp) (K : Value → Hp → Prop) (h : W_codec_inside A1 n1 m1 x1 H K) : HCalls Tryz.prog 163 #[.slice A1 n1 m1, .int .i64 x1] H K :=
  hcalls Tryz.func163 rfl (Nat.le_of_ble_eq_true rfl) (hw_safe (Λ := Cuts.none (fun _ => none)) mixWcodec _ _ _ _ _ (Eq.mp (by kernel_rfl) h) (obs_none _ _ _ _ _))
def W_codec_word.l3 (K : Value → Hp → Prop) : Nat → Option Addr → Nat → Nat → Int → Int → Hp → Prop
  | 0, _, _, _, _, _, _ => False
  | k + 1, A2, n2, m2, x1, x2, H =>
    let R3 := W_codec_word.l3 K k
    BIf (decide (x2 ≥ (0 : Int))) ((0 ≤ (8 : Int) ∧ ixI x2 n2 (NN A2 fun a1 => Ld H (a1.add (x2.toNat * 1)) fun v1 => DI .u8 v1 fun x3 => R3 A2 n2 m2 (bOr .u64 (shlI .u64 x1 (8 : Int)) (IntKind.u64.wrap x3)) (IntKind.i64.wrap (x2 - (1 : Int))) H))) (K (.int .u64 x1) H)
def W_codec_word (A1 : Option Addr) (n1 : Nat) (m1 : Nat) (H : Hp) (K : Value → Hp → Prop) : Prop :=
  (∃ k, W_codec_word.l3 K k A1 n1 m1 (0 : Int) (7 : Int) H)
def W_codec_word.l3.L (K : Value → Hp → Prop) (k : Nat) : Mid := fun E D H =>
  DG (E.get? 0) fun w0 => DSl w0 fun A2 n2 m2 => eI E 3 .u64 fun x1 => eI E 4 .i64 fun x2 => DNilD D (W_codec_word.l3 K k A2 n2 m2 x1 x2 H)
def W_codec_word.Λ3 (_ : Value → Hp → Prop) (_R3 : Option Addr → Nat → Nat → Int → Int → Hp → Prop) : Cuts := Cuts.none (fun _ => none)
def W_codec_word.Λ (K : Value → Hp → Prop) : Cuts := ⟨fun i => none, fun i => match Nat.beq i 3 with | true => some (fun E D H => ∃ k, W_codec_word.l3.L K k E D H) | false => none, (fun _ => none)⟩
theorem W_codec_word.ok (A1 : Option Addr) (n1 : Nat) (m1 : Nat) (H : Hp) (K : Value → Hp → Prop) (h : W_codec_word A1 n1 m1 H K) : HCalls Tryz.prog 164 #[.slice A1 n1 m1] H K :=
  hcalls Tryz.func164 rfl (Nat.le_of_ble_eq_true rfl) (hw_safe (Λ := (W_codec_word.Λ K)) mixWcodec _ _ _ _ _ (Eq.mp (by kernel_rfl) h) (obs_seq obs_region rfl (obs_seq obs_region rfl (obs_seq (obs_seq obs_region rfl (obs_block (obs_loop rfl (fun E D H h => by
      refine Safe.loop' (W_codec_word.l3.L K) (fun E D H h => ?_) (fun k E D H h => ?_) E D H h
      · obtain ⟨w0, e0, g1⟩ := DG.out h; obtain ⟨A2, n2, m2, rfl, g2⟩ := DSl.out g1; obtain ⟨w3, e3, g3⟩ := DG.out g2; obtain ⟨x1, rfl, g4⟩ := DI.out g3; obtain ⟨w4, e4, g5⟩ := DG.out g4; obtain ⟨x2, rfl, g6⟩ := DI.out g5; obtain ⟨rfl, h'⟩ := DNilD.out g6; exact h'
      · obtain ⟨w0, e0, g1⟩ := DG.out h
        obtain ⟨A2, n2, m2, rfl, g2⟩ := DSl.out g1
        obtain ⟨x1, e3, g4⟩ := GI g2; obtain ⟨x2, e4, g6⟩ := GI g4; obtain ⟨rfl, h'⟩ := DNilD.out g6
        exact (hw_safe (Λ := (W_codec_word.Λ3 K (W_codec_word.l3 K k))) mixWcodec _ _ [(0, .slice A2 n2 m2), (3, .int .u64 x1), (4, .int .i64 x2)] [] H (Eq.mp (by kernel_rfl) h') (obs_seq (obs_seq obs_region rfl (obs_cond obs_skip obs_exit)) rfl (obs_seq (obs_block obs_region) rfl obs_region))).weaken (EnvLe.cons e0 (EnvLe.cons e3 (EnvLe.cons e4 (EnvLe.nil _)))) (Hp.le_refl _))))) rfl (obs_seq obs_region rfl obs_ret)))))
end Go.Proofs.YtnknippcbecmeaaGreatDoor.W
end
section
/- Formulas of functions, printed by wip/tools/hwp.py. -/
namespace Go.Proofs.YtnknippcbecmeaaGreatDoor.W
open Go Go.Hw
theorem mixWabacistref04 : Tryz.prog.follows .mixedOrders = true := by kernel_rfl
def W_abacistref04_Put.l7 (K : Value → Hp → Prop) (R3 : Option Addr → Nat → Nat → ByteArray → Int → Hp → Prop) : Nat → Option Addr → Nat → Nat → ByteArray → Int → Int → Int → Hp → Prop
  | 0, _, _, _, _, _, _, _, _ => False
  | k + 1, A3, n3, m3, s2, x3, x4, x5, H =>
    let R7 := W_abacistref04_Put.l7 K R3 k
    BIf (decide (x5 < (8 : Int))) (((256 : Int) ≠ 0 ∧ IntKind.u64 = IntKind.u64 ∧ Nw H (.row [.int .u8 (IntKind.u8.wrap (Int.tmod x4 (256 : Int)))] 5 1) fun b1 H1 => BsK H1 (some ⟨b1, 0, none⟩) 1 fun s3 => (s2.size + s3.size ≤ 4611686018427387904 ∧ ((256 : Int) ≠ 0 ∧ IntKind.u64 = IntKind.u64 ∧ R7 A3 n3 m3 (s2 ++ s3) x3 (IntKind.u64.wrap (Int.tdiv x4 (256 : Int))) (IntKind.i64.wrap (x5 + (1 : Int))) H1)))) (R3 A3 n3 m3 s2 (IntKind.i64.wrap (x3 + (1 : Int))) H)
def W_abacistref04_Put.l3 (K : Value → Hp → Prop) : Nat → Option Addr → Nat → Nat → ByteArray → Int → Hp → Prop
  | 0, _, _, _, _, _, _ => False
  | k + 1, A2, n2, m2, s1, x1, H =>
    let R3 := W_abacistref04_Put.l3 K k
    BIf (decide (x1 < ((n2 : Nat) : Int))) (ixI x1 n2 (NN A2 fun a1 => Ld H (a1.add (x1.toNat * 1)) fun v1 => DI .u64 v1 fun x2 => (∃ k, W_abacistref04_Put.l7 K R3 k A2 n2 m2 s1 x1 x2 (0 : Int) H))) (K (.string s1) H)
def W_abacistref04_Put (A1 : Option Addr) (n1 : Nat) (m1 : Nat) (H : Hp) (K : Value → Hp → Prop) : Prop :=
  (∃ k, W_abacistref04_Put.l3 K k A1 n1 m1 (⟨#[]⟩) (0 : Int) H)
def W_abacistref04_Put.l3.L (K : Value → Hp → Prop) (k : Nat) : Mid := fun E D H =>
  DG (E.get? 0) fun w0 => DSl w0 fun A2 n2 m2 => DG (E.get? 3) fun w3 => DS w3 fun s1 => eI E 4 .i64 fun x1 => DNilD D (W_abacistref04_Put.l3 K k A2 n2 m2 s1 x1 H)
def W_abacistref04_Put.l7.L (K : Value → Hp → Prop) (R3 : Option Addr → Nat → Nat → ByteArray → Int → Hp → Prop) (k : Nat) : Mid := fun E D H =>
  DG (E.get? 0) fun w0 => DSl w0 fun A3 n3 m3 => DG (E.get? 3) fun w3 => DS w3 fun s2 => eI E 4 .i64 fun x3 => eI E 5 .u64 fun x4 => eI E 6 .i64 fun x5 => DNilD D (W_abacistref04_Put.l7 K R3 k A3 n3 m3 s2 x3 x4 x5 H)
def W_abacistref04_Put.Λ7 (_ : Value → Hp → Prop) (_R3 : Option Addr → Nat → Nat → ByteArray → Int → Hp → Prop) (_R7 : Option Addr → Nat → Nat → ByteArray → Int → Int → Int → Hp → Prop) : Cuts := Cuts.none (fun _ => none)
def W_abacistref04_Put.Λ3 (K : Value → Hp → Prop) (R3 : Option Addr → Nat → Nat → ByteArray → Int → Hp → Prop) : Cuts := ⟨fun i => none, fun i => match Nat.beq i 7 with | true => some (fun E D H => ∃ k, W_abacistref04_Put.l7.L K R3 k E D H) | false => none, (fun _ => none)⟩
def W_abacistref04_Put.Λ (K : Value → Hp → Prop) : Cuts := ⟨fun i => none, fun i => match Nat.beq i 3 with | true => some (fun E D H => ∃ k, W_abacistref04_Put.l3.L K k E D H) | false => none, (fun _ => none)⟩
theorem W_abacistref04_Put.ok (A1 : Option Addr) (n1 : Nat) (m1 : Nat) (H : Hp) (K : Value → Hp → Prop) (h : W_abacistref04_Put A1 n1 m1 H K) : HCalls Tryz.prog 50 #[.slice A1 n1 m1] H K :=
  hcalls Tryz.func50 rfl (Nat.le_of_ble_eq_true rfl) (hw_safe (Λ := (W_abacistref04_Put.Λ K)) mixWabacistref04 _ _ _ _ _ (Eq.mp (by kernel_rfl) h) (obs_seq obs_region rfl (obs_seq obs_region rfl (obs_seq (obs_seq obs_region rfl (obs_block (obs_loop rfl (fun E D H h => by
      refine Safe.loop' (W_abacistref04_Put.l3.L K) (fun E D H h => ?_) (fun k E D H h => ?_) E D H h
      · obtain ⟨w0, e0, g1⟩ := DG.out h; obtain ⟨A2, n2, m2, rfl, g2⟩ := DSl.out g1; obtain ⟨w3, e3, g3⟩ := DG.out g2; obtain ⟨s1, rfl, g4⟩ := DS.out g3; obtain ⟨w4, e4, g5⟩ := DG.out g4; obtain ⟨x1, rfl, g6⟩ := DI.out g5; obtain ⟨rfl, h'⟩ := DNilD.out g6; exact h'
      · obtain ⟨w0, e0, g1⟩ := DG.out h
        obtain ⟨A2, n2, m2, rfl, g2⟩ := DSl.out g1
        obtain ⟨w3, e3, g3⟩ := DG.out g2
        obtain ⟨s1, rfl, g4⟩ := DS.out g3
        obtain ⟨x1, e4, g6⟩ := GI g4
        obtain ⟨rfl, h'⟩ := DNilD.out g6
        exact (hw_safe (Λ := (W_abacistref04_Put.Λ3 K (W_abacistref04_Put.l3 K k))) mixWabacistref04 _ _ [(0, .slice A2 n2 m2), (3, .string s1), (4, .int .i64 x1)] [] H (Eq.mp (by kernel_rfl) h') (obs_seq (obs_seq obs_region rfl (obs_cond obs_skip obs_exit)) rfl (obs_seq (obs_block (obs_seq obs_region rfl (obs_seq obs_region rfl (obs_block (obs_loop rfl (fun E D H h => by
            refine Safe.loop' (W_abacistref04_Put.l7.L K (W_abacistref04_Put.l3 K k)) (fun E D H h => ?_) (fun k E D H h => ?_) E D H h
            · obtain ⟨w0, e0, g1⟩ := DG.out h; obtain ⟨A3, n3, m3, rfl, g2⟩ := DSl.out g1; obtain ⟨w3, e3, g3⟩ := DG.out g2; obtain ⟨s2, rfl, g4⟩ := DS.out g3; obtain ⟨w4, e4, g5⟩ := DG.out g4; obtain ⟨x3, rfl, g6⟩ := DI.out g5; obtain ⟨w5, e5, g7⟩ := DG.out g6; obtain ⟨x4, rfl, g8⟩ := DI.out g7; obtain ⟨w6, e6, g9⟩ := DG.out g8; obtain ⟨x5, rfl, g10⟩ := DI.out g9; obtain ⟨rfl, h'⟩ := DNilD.out g10; exact h'
            · obtain ⟨w0, e0, g1⟩ := DG.out h
              obtain ⟨A3, n3, m3, rfl, g2⟩ := DSl.out g1
              obtain ⟨w3, e3, g3⟩ := DG.out g2
              obtain ⟨s2, rfl, g4⟩ := DS.out g3
              obtain ⟨x3, e4, g6⟩ := GI g4; obtain ⟨x4, e5, g8⟩ := GI g6; obtain ⟨x5, e6, g10⟩ := GI g8; obtain ⟨rfl, h'⟩ := DNilD.out g10
              exact (hw_safe (Λ := (W_abacistref04_Put.Λ7 K (W_abacistref04_Put.l3 K k) (W_abacistref04_Put.l7 K (W_abacistref04_Put.l3 K k) k))) mixWabacistref04 _ _ [(0, .slice A3 n3 m3), (3, .string s2), (4, .int .i64 x3), (5, .int .u64 x4), (6, .int .i64 x5)] [] H (Eq.mp (by kernel_rfl) h') (obs_seq (obs_seq obs_region rfl (obs_cond obs_skip obs_exit)) rfl (obs_seq (obs_block (obs_seq obs_region rfl obs_region)) rfl obs_region))).weaken (EnvLe.cons e0 (EnvLe.cons e3 (EnvLe.cons e4 (EnvLe.cons e5 (EnvLe.cons e6 (EnvLe.nil _)))))) (Hp.le_refl _))))))) rfl obs_region))).weaken (EnvLe.cons e0 (EnvLe.cons e3 (EnvLe.cons e4 (EnvLe.nil _)))) (Hp.le_refl _))))) rfl (obs_seq obs_region rfl obs_ret)))))
def W_abacistref04_Word.l3 (K : Value → Hp → Prop) : Nat → ByteArray → Int → Int → Int → Hp → Prop
  | 0, _, _, _, _, _ => False
  | k + 1, s2, x2, x3, x4, H =>
    let R3 := W_abacistref04_Word.l3 K k
    BIf (decide (x4 ≥ (0 : Int))) ((0 ≤ (IntKind.i64.wrap (x2 + x4)) ∧ ixB s2 (IntKind.i64.wrap (x2 + x4)).toNat fun x5 => R3 s2 x2 (IntKind.u64.wrap ((IntKind.u64.wrap ((256 : Int) * x3)) + (IntKind.u64.wrap x5))) (IntKind.i64.wrap (x4 - (1 : Int))) H)) (K (.int .u64 x3) H)
def W_abacistref04_Word (s1 : ByteArray) (x1 : Int) (H : Hp) (K : Value → Hp → Prop) : Prop :=
  (∃ k, W_abacistref04_Word.l3 K k s1 x1 (0 : Int) (7 : Int) H)
def W_abacistref04_Word.l3.L (K : Value → Hp → Prop) (k : Nat) : Mid := fun E D H =>
  DG (E.get? 0) fun w0 => DS w0 fun s2 => eI E 1 .i64 fun x2 => eI E 5 .u64 fun x3 => eI E 6 .i64 fun x4 => DNilD D (W_abacistref04_Word.l3 K k s2 x2 x3 x4 H)
def W_abacistref04_Word.Λ3 (_ : Value → Hp → Prop) (_R3 : ByteArray → Int → Int → Int → Hp → Prop) : Cuts := Cuts.none (fun _ => none)
def W_abacistref04_Word.Λ (K : Value → Hp → Prop) : Cuts := ⟨fun i => none, fun i => match Nat.beq i 3 with | true => some (fun E D H => ∃ k, W_abacistref04_Word.l3.L K k E D H) | false => none, (fun _ => none)⟩
theorem W_abacistref04_Word.ok (s1 : ByteArray) (x1 : Int) (H : Hp) (K : Value → Hp → Prop) (h : W_abacistref04_Word s1 x1 H K) : HCalls Tryz.prog 109 #[.string s1, .int .i64 x1] H K :=
  hcalls Tryz.func109 rfl (Nat.le_of_ble_eq_true rfl) (hw_safe (Λ := (W_abacistref04_Word.Λ K)) mixWabacistref04 _ _ _ _ _ (Eq.mp (by kernel_rfl) h) (obs_seq obs_region rfl (obs_seq obs_region rfl (obs_seq (obs_seq obs_region rfl (obs_block (obs_loop rfl (fun E D H h => by
      refine Safe.loop' (W_abacistref04_Word.l3.L K) (fun E D H h => ?_) (fun k E D H h => ?_) E D H h
      · obtain ⟨w0, e0, g1⟩ := DG.out h; obtain ⟨s2, rfl, g2⟩ := DS.out g1; obtain ⟨w1, e1, g3⟩ := DG.out g2; obtain ⟨x2, rfl, g4⟩ := DI.out g3; obtain ⟨w5, e5, g5⟩ := DG.out g4; obtain ⟨x3, rfl, g6⟩ := DI.out g5; obtain ⟨w6, e6, g7⟩ := DG.out g6; obtain ⟨x4, rfl, g8⟩ := DI.out g7; obtain ⟨rfl, h'⟩ := DNilD.out g8; exact h'
      · obtain ⟨w0, e0, g1⟩ := DG.out h
        obtain ⟨s2, rfl, g2⟩ := DS.out g1
        obtain ⟨x2, e1, g4⟩ := GI g2; obtain ⟨x3, e5, g6⟩ := GI g4; obtain ⟨x4, e6, g8⟩ := GI g6; obtain ⟨rfl, h'⟩ := DNilD.out g8
        exact (hw_safe (Λ := (W_abacistref04_Word.Λ3 K (W_abacistref04_Word.l3 K k))) mixWabacistref04 _ _ [(0, .string s2), (1, .int .i64 x2), (5, .int .u64 x3), (6, .int .i64 x4)] [] H (Eq.mp (by kernel_rfl) h') (obs_seq (obs_seq obs_region rfl (obs_cond obs_skip obs_exit)) rfl (obs_seq (obs_block obs_region) rfl obs_region))).weaken (EnvLe.cons e0 (EnvLe.cons e1 (EnvLe.cons e5 (EnvLe.cons e6 (EnvLe.nil _))))) (Hp.le_refl _))))) rfl (obs_seq obs_region rfl obs_ret)))))
end Go.Proofs.YtnknippcbecmeaaGreatDoor.W
end
section
/- Words' forms: codec's and the document's. -/
namespace Go.Form
open Go Go.Hw
def formW (w : UInt64) : List UInt8 := (List.range 8).map fun k => UInt8.ofNat (w.toNat / 256 ^ k)
def form (l : List UInt64) : List UInt8 := l.flatMap formW
theorem formW_length (w : UInt64) : (formW w).length = 8 := by simp [formW]
theorem form_length (l : List UInt64) : (form l).length = 8 * l.length := by
  induction l with
  | nil => rfl
  | cons w l ih => simp only [form, List.flatMap_cons, List.length_append, formW_length, List.length_cons]; rw [show (List.flatMap formW l).length = (form l).length from rfl, ih]; omega
theorem form_append (a b : List UInt64) : form (a ++ b) = form a ++ form b := by simp [form]
theorem form_succ (l : List UInt64) {i : Nat} (h : i < l.length) : form (l.take (i + 1)) = form (l.take i) ++ formW l[i] := by
  rw [List.take_succ_eq_append_getElem h, form_append]; simp [form]
theorem shr_byte (w : UInt64) (k : Nat) : IntKind.u8.wrap ((w.toNat >>> (8 * k) : Nat) : Int) = ((UInt8.ofNat (w.toNat / 256 ^ k)).toNat : Int) := by
  rw [u8mod, Nat.shiftRight_eq_div_pow, show (2 : Nat) ^ (8 * k) = 256 ^ k from by rw [Nat.pow_mul]]
  simp
end Go.Form
namespace Go.Proofs.YtnknippcbecmeaaGreatDoor.FormP
open Go Go.Hw Go.Form W
theorem set_loop (K : Value → Hp → Prop) (b off n m mm : Nat) (xs : List Value) (e : TypeId) (w : UInt64) (H0 : Hp) (ho : off + 8 ≤ xs.length) (hn : 8 ≤ n)
    (k : K (.tuple #[]) (H0.set b (.row (setAt xs off (byteVals (formW w))) e mm))) : ∀ (d j : Nat) (H : Hp), j + d = 8 → H = H0.set b (.row (setAt xs off ((byteVals (formW w)).take j)) e mm) →
      W_codec_set.l1 K (d + 1) (some ⟨b, off, none⟩) n m (w.toNat : Int) (j : Int) H
  | 0, j, H, hj, hH => by
    obtain rfl : j = 8 := by omega
    unfold W_codec_set.l1
    refine BIf_dneg (by omega) ?_
    rw [List.take_of_length_le (by rw [byteVals_length, formW_length]; omega)] at hH
    rw [hH]; exact k
  | d + 1, j, H, hj, hH => by
    unfold W_codec_set.l1
    refine BIf_dpos (by omega) ?_
    rw [i64w (x := 8 * (j : Int)) (by omega) (by omega), u64w (by omega) (by omega)]
    refine ⟨by omega, by omega, by omega, ?_⟩
    simp only [NN_some, Addr.add_lit', Int.toNat_natCast, Nat.mul_one, Nat.add_zero]
    rw [shrNat w.toNat (i := 8 * (j : Int)) (n := 8 * j) (by omega) (by show 8 * j ≤ 64; omega), shr_byte, i64w (by omega) (by omega)]
    have hlen : (byteVals (formW w)).length = 8 := by rw [byteVals_length, formW_length]
    have hb : H b = some (.row (setAt xs off ((byteVals (formW w)).take j)) e mm) := by rw [hH]; exact Hp.set_same _ _ _
    refine St_row hb (by rw [setAt_length (by rw [List.length_take, hlen]; omega)]; omega) rfl ?_
    refine set_loop K b off n m mm xs e w H0 ho hn k d (j + 1) _ (by omega) ?_
    rw [hH, Hp.set_set]
    congr 2
    have := setAt_step (xs := xs) (vs := byteVals (formW w)) (off := off) (k := j) (by rw [hlen]; exact ho) (by rw [hlen]; omega)
    rw [← this]
    congr 1
    simp [byteVals, formW]
theorem set_ok (b off n m mm : Nat) (xs : List Value) (e : TypeId) (w : UInt64) (H : Hp) (hb : H b = some (.row xs e mm)) (ho : off + 8 ≤ xs.length) (hn : 8 ≤ n) :
    HCalls Tryz.prog 148 #[.slice (some ⟨b, off, none⟩) n m, .int .u64 (w.toNat : Int)] H (RetE (.tuple #[]) (H.set b (.row (setAt xs off (byteVals (formW w))) e mm))) := by
  apply W_codec_set.ok
  refine ⟨9, set_loop _ b off n m mm xs e w H ho hn (RetE.mk _ _) 8 0 H rfl ?_⟩
  rw [List.take_zero, setAt_nil, Hp.set_id hb]
theorem slA_row (b m l : Nat) : slA (some ⟨b, 0, none⟩) m l 1 = if m = l then some ⟨b, 0, none⟩ else some ⟨b, l, none⟩ := by
  unfold slA; split
  · rfl
  · simp
theorem Put_loop (K : Value → Hp → Prop) (b : Nat) (e : TypeId) (A : Option Addr) (n m : Nat) (l : List UInt64) (hn : n = l.length) (hm : n ≤ 17592186044416) (H0 : Hp) (hb0 : H0 b = none) (hl : Cells H0 A (wordVals l)) (z : List Value) (hz : z.length = 8 * n)
    (k : ∀ H, H = H0.set b (.row (byteVals (form l)) e (8 * n)) → K (.slice (some ⟨b, 0, none⟩) (8 * n) (8 * n)) H) : ∀ (d j : Nat) (H : Hp), j + d = n → H = H0.set b (.row (setAt z 0 (byteVals (form (l.take j)))) e (8 * n)) →
      W_codec_Put.l3 K (d + 1) (some ⟨b, 0, none⟩) (8 * n) (8 * n) A n m (n : Int) (j : Int) H
  | 0, j, H, hj, hH => by
    unfold W_codec_Put.l3
    refine BIf_dneg (by omega) (k _ ?_)
    rw [hH, List.take_of_length_le (by omega), setAt_all (by rw [byteVals_length, form_length, hz, hn])]
  | d + 1, j, H, hj, hH => by
    unfold W_codec_Put.l3
    refine BIf_dpos (by omega) ?_
    have hlt : j < l.length := by omega
    have hle : H0.le H := by rw [hH]; exact Hp.le_set hb0
    refine (hl.le hle).read (i := j) (v := .int .u64 (l[j].toNat : Int)) (by rw [wordVals_get, List.getElem?_eq_getElem hlt]; rfl) rfl (by rw [wordVals_length]; omega) ?_
    simp only [HV]
    rw [i64w (x := 8 * (j : Int)) (by omega) (by omega)]
    refine ⟨by omega, by omega, ?_⟩
    dsimp only
    rw [show (8 * (j : Int)).toNat = 8 * j by omega, slA_row, if_neg (by omega)]
    have hlen : (byteVals (form (l.take j))).length = 8 * j := by rw [byteVals_length, form_length, List.length_take, Nat.min_eq_left (by omega)]
    have hb : H b = some (.row (setAt z 0 (byteVals (form (l.take j)))) e (8 * n)) := by rw [hH]; exact Hp.set_same _ _ _
    have hsl : (setAt z 0 (byteVals (form (l.take j)))).length = 8 * n := by rw [setAt_length (by omega), hz]
    refine HCalls.use (set_ok b (8 * j) _ _ _ _ e l[j] H hb (by omega) (by omega)) ?_
    rw [i64w (by omega) (by omega)]
    refine Put_loop K b e A n m l hn hm H0 hb0 hl z hz k d (j + 1) _ (by omega) ?_
    rw [hH, Hp.set_set]
    congr 2
    rw [form_succ l hlt, byteVals_append]
    have h8 : (byteVals (formW l[j])).length = 8 := by rw [byteVals_length, formW_length]
    rw [← setAt_setAt (by rw [hlen, h8]; omega), hlen]
theorem cell_u8 : cellInfo Tryz.prog 5 = some (1, 1, some #[.int .u8 0]) := by kernel_rfl
theorem Put_ok (A : Option Addr) (n m : Nat) (l : List UInt64) (hn : n = l.length) (hm : n ≤ 17592186044416) (H : Hp) (hl : Cells H A (wordVals l)) :
    HCalls Tryz.prog 114 #[.slice A n m] H (fun v H' => ∃ b, H b = none ∧ v = .slice (some ⟨b, 0, none⟩) (8 * n) (8 * n) ∧ H' = H.set b (.row (byteVals (form l)) 5 (8 * n))) := by
  apply W_codec_Put.ok
  unfold W_codec_Put
  rw [i64w (x := 8 * (n : Int)) (by omega) (by omega)]
  refine MkS_of cell_u8 rfl (n := 8 * n) (m := 8 * n) (by omega) (by omega) (Nat.le_refl _) (by omega) (by omega) ?_
  intro b hb
  rw [Nat.mul_one]
  simp only [HV]
  refine ⟨n + 1, ?_⟩
  refine Put_loop _ b 5 A n m l hn hm H hb hl (zeroRow [.int .u8 0] (8 * n)) (by rw [zeroRow_length]; simp) ?_ n 0 _ (by omega) ?_
  · intro H' hH; exact ⟨b, hb, rfl, hH⟩
  · rw [List.take_zero]; simp [form, byteVals, setAt_nil]
theorem bsize (bs : List UInt8) : (ByteArray.mk bs.toArray).size = bs.length := by simp [ByteArray.size]
theorem bappend (a b : List UInt8) : ByteArray.mk a.toArray ++ ByteArray.mk b.toArray = ByteArray.mk (a ++ b).toArray := by
  apply ByteArray.ext
  simp
theorem rput_inner (K : Value → Hp → Prop) (R3 : Option Addr → Nat → Nat → ByteArray → Int → Hp → Prop) (A : Option Addr) (n m : Nat) (x3 : Int) (H0 : Hp) (w : UInt64) (pre : List UInt8) (hp : pre.length ≤ 1000000000000)
    (k : ∀ H, H0.le H → R3 A n m ⟨(pre ++ formW w).toArray⟩ (IntKind.i64.wrap (x3 + 1)) H) : ∀ (d j : Nat) (H : Hp), j + d = 8 → H0.le H →
      W_abacistref04_Put.l7 K R3 (d + 1) A n m ⟨(pre ++ (formW w).take j).toArray⟩ x3 ((w.toNat / 256 ^ j : Nat) : Int) (j : Int) H
  | 0, j, H, hj, hle => by
    unfold W_abacistref04_Put.l7
    refine BIf_dneg (by omega) ?_
    rw [List.take_of_length_le (by rw [formW_length]; omega)]
    exact k H hle
  | d + 1, j, H, hj, hle => by
    unfold W_abacistref04_Put.l7
    refine BIf_dpos (by omega) ?_
    refine ⟨by omega, rfl, ?_⟩
    intro b hb
    have hlen := formW_length w
    have hbyte : IntKind.u8.wrap (Int.tmod ((w.toNat / 256 ^ j : Nat) : Int) 256) = (((formW w)[j]'(by omega)).toNat : Int) := by
      rw [show Int.tmod ((w.toNat / 256 ^ j : Nat) : Int) 256 = ((w.toNat / 256 ^ j % 256 : Nat) : Int) from rfl, u8n (by omega)]
      simp [formW]
    have hc : Cells (H.set b (.row [.int .u8 (((formW w)[j]'(by omega)).toNat : Int)] 5 1)) (some ⟨b, 0, none⟩) (byteVals [(formW w)[j]'(by omega)]) := by
      have := Cells.row (Hp.set_same H b (.row [.int .u8 (((formW w)[j]'(by omega)).toNat : Int)] 5 1)) 0 1
      simpa [byteVals] using this
    rw [hbyte]
    refine BsK_of hc rfl ?_
    rw [bsize, bsize, bappend]
    refine ⟨by simp; omega, by omega, rfl, ?_⟩
    have hdiv : IntKind.u64.wrap (Int.tdiv ((w.toNat / 256 ^ j : Nat) : Int) 256) = ((w.toNat / 256 ^ (j + 1) : Nat) : Int) := by
      rw [show Int.tdiv ((w.toNat / 256 ^ j : Nat) : Int) 256 = ((w.toNat / 256 ^ j / 256 : Nat) : Int) from rfl, Nat.div_div_eq_div_mul, show 256 ^ j * 256 = 256 ^ (j + 1) from (Nat.pow_succ ..).symm]
      exact u64n (by have := Nat.div_le_self w.toNat (256 ^ (j + 1)); have := w.toNat_lt; omega)
    rw [hdiv, i64w (by omega) (by omega), List.append_assoc, ← List.take_succ_eq_append_getElem (by omega)]
    exact rput_inner K R3 A n m x3 H0 w pre hp k d (j + 1) _ (by omega) (Hp.le_trans hle (Hp.le_set hb))
theorem rput_outer (K : Value → Hp → Prop) (A : Option Addr) (n m : Nat) (l : List UInt64) (hn : n = l.length) (hm : n ≤ 10000000000) (H0 : Hp) (hl : Cells H0 A (wordVals l)) (k : ∀ H, H0.le H → K (.string ⟨(form l).toArray⟩) H) : ∀ (d j : Nat) (H : Hp), j + d = n → H0.le H →
      W_abacistref04_Put.l3 K (d + 1) A n m ⟨(form (l.take j)).toArray⟩ (j : Int) H
  | 0, j, H, hj, hle => by
    unfold W_abacistref04_Put.l3
    refine BIf_dneg (by omega) ?_
    rw [List.take_of_length_le (by omega)]
    exact k H hle
  | d + 1, j, H, hj, hle => by
    unfold W_abacistref04_Put.l3
    refine BIf_dpos (by omega) ?_
    have hlt : j < l.length := by omega
    refine (hl.le hle).read (i := j) (v := .int .u64 (l[j].toNat : Int)) (by rw [wordVals_get, List.getElem?_eq_getElem hlt]; rfl) rfl (by rw [wordVals_length]; omega) ?_
    simp only [HV]
    refine ⟨9, ?_⟩
    have := rput_inner K (W_abacistref04_Put.l3 K (d + 1)) A n m (j : Int) H0 l[j] (form (l.take j)) (by rw [form_length, List.length_take]; omega) (fun H' hle' => by
      rw [i64w (by omega) (by omega), ← form_succ l hlt]
      exact rput_outer K A n m l hn hm H0 hl k d (j + 1) H' (by omega) hle') 8 0 H rfl hle
    simpa using this
theorem rPut_ok (A : Option Addr) (n m : Nat) (l : List UInt64) (hn : n = l.length) (hm : n ≤ 10000000000) (H : Hp) (hl : Cells H A (wordVals l)) :
    HCalls Tryz.prog 50 #[.slice A n m] H (RetE (.string ⟨(form l).toArray⟩) H) := by
  apply HCalls.ret
  apply W_abacistref04_Put.ok
  exact ⟨n + 1, rput_outer _ A n m l hn hm H hl (fun H' hle => ⟨rfl, hle⟩) n 0 H (by omega) (Hp.le_refl _)⟩
end Go.Proofs.YtnknippcbecmeaaGreatDoor.FormP
end
section
/- Words of bytes: codec's and the document's. -/
namespace Go.Form
open Go Go.Hw
theorem formW_bytes (w : UInt64) : formW w = bytesN 8 w.toNat := range_bytes 8 w.toNat
theorem leN_formW (w : UInt64) : leN (formW w) = w.toNat := by
  rw [formW_bytes, leN_bytesN]
  exact Nat.mod_eq_of_lt w.toNat_lt
def wordN (bs : List UInt8) (o : Nat) : Nat := leN ((bs.drop o).take 8)
theorem wordN_lt (bs : List UInt8) (o : Nat) : wordN bs o < 2 ^ 64 := leN_lt8 (by simp; omega)
theorem form_drop (l : List UInt64) (i : Nat) : (form l).drop (8 * i) = form (l.drop i) := by
  induction i generalizing l with
  | zero => simp
  | succ i ih =>
    cases l with
    | nil => simp [form]
    | cons w l =>
      rw [List.drop_succ_cons, ← ih]
      show List.drop (8 * (i + 1)) (formW w ++ form l) = _
      rw [show 8 * (i + 1) = (formW w).length + 8 * i by rw [formW_length]; omega, List.drop_append]
      simp
theorem wordN_form {l : List UInt64} {i : Nat} (h : i < l.length) (r : List UInt8) : wordN (form l ++ r) (8 * i) = l[i].toNat := by
  unfold wordN
  rw [List.drop_append_of_le_length (by rw [form_length]; omega), form_drop, List.drop_eq_getElem_cons h]
  show leN (((formW l[i] ++ form (l.drop (i + 1))) ++ r).take 8) = _
  rw [List.append_assoc, List.take_left' (formW_length _), leN_formW]
end Go.Form
namespace Go.Proofs.YtnknippcbecmeaaGreatDoor.FormP
open Go Go.Hw Go.Form W
theorem word_loop (K : Value → Hp → Prop) (A : Option Addr) (n m : Nat) (bs : List UInt8) (hl : bs.length = 8) (hn : 8 ≤ n) (H : Hp) (hb : Cells H A (byteVals bs)) (k : K (.int .u64 (leN bs : Nat)) H) : ∀ j : Nat, j ≤ 8 →
    W_codec_word.l3 K (j + 1) A n m ((leN (bs.drop j) : Nat) : Int) ((j : Int) - 1) H
  | 0, _ => by
    unfold W_codec_word.l3
    refine BIf_dneg (by omega) ?_
    exact k
  | j + 1, hj => by
    unfold W_codec_word.l3
    refine BIf_dpos (by omega) ⟨by omega, ?_⟩
    rw [show (((j + 1 : Nat) : Int) - 1) = (j : Int) by omega]
    have hlt : j < bs.length := by omega
    refine ⟨by omega, by omega, ?_⟩
    obtain ⟨a, rfl, hc⟩ := hb j (.int .u8 (bs[j].toNat : Int)) (by rw [byteVals_get, List.getElem?_eq_getElem hlt]; rfl)
    show Ld H _ _
    refine Ld_of (v := .int .u8 (bs[j].toNat : Int)) (by rw [Int.toNat_natCast, Nat.mul_one]; exact hc) ?_
    simp only [HV]
    have h1 : leN (bs.drop (j + 1)) < 256 ^ 7 := by
      have h1 := leN_lt (bs.drop (j + 1))
      have h2 : 256 ^ (bs.drop (j + 1)).length ≤ 256 ^ 7 := Nat.pow_le_pow_right (by omega) (by simp; omega)
      omega
    have h2 : bs[j].toNat < 256 := bs[j].toNat_lt
    have h3 : leN (bs.drop (j + 1)) * 2 ^ 8 < 2 ^ 64 := by
      rw [show (256 : Nat) ^ 7 = 2 ^ 56 by decide] at h1; omega
    rw [shlN (i := (8 : Int)) (n := 8) rfl (by omega), Nat.mod_eq_of_lt h3, u64n (by omega), orN h3 (by omega), i64w (by omega) (by omega)]
    rw [← Nat.shiftLeft_eq, ← Nat.shiftLeft_add_eq_or_of_lt (by omega : bs[j].toNat < 2 ^ 8), Nat.shiftLeft_eq]
    have e := leN_drop hlt
    rw [show leN (bs.drop (j + 1)) * 2 ^ 8 + bs[j].toNat = leN (bs.drop j) by rw [e]; omega]
    exact word_loop K _ n m bs hl hn H hb k j (by omega)
theorem word_ok (A : Option Addr) (n m : Nat) (bs : List UInt8) (hl : bs.length = 8) (hn : 8 ≤ n) (H : Hp) (hb : Cells H A (byteVals bs)) : HCalls Tryz.prog 164 #[.slice A n m] H (RetE (.int .u64 (leN bs : Nat)) H) := by
  apply W_codec_word.ok
  refine ⟨9, ?_⟩
  have := word_loop (RetE (.int .u64 (leN bs : Nat)) H) A n m bs hl hn H hb (RetE.mk _ _) 8 (Nat.le_refl _)
  rw [List.drop_eq_nil_of_le (by omega)] at this
  exact this
theorem inside_ok (A : Option Addr) (n m : Nat) (hn : n ≤ 9000000000000000000) (i : Int) (H : Hp) : HCalls Tryz.prog 163 #[.slice A n m, .int .i64 i] H (RetE (.bool (decide (0 ≤ i ∧ i < (n / 8 : Nat)))) H) := by
  apply W_codec_inside.ok
  unfold W_codec_inside
  rw [BIf_decide]
  split
  · refine ⟨by omega, rfl, RetE.of ?_⟩
    rw [show Int.tdiv ((n : Nat) : Int) 8 = ((n / 8 : Nat) : Int) from rfl, i64n (by omega)]
    congr 1; simp only [decide_eq_decide]; omega
  · refine RetE.of ?_
    congr 1
    exact (decide_eq_false (by omega)).symm
theorem Word_ok (A : Option Addr) (n m : Nat) (hnm : n ≤ m) (hm : n ≤ 9000000000000000000) (bs : List UInt8) (hl : n = bs.length) (i : Nat) (hi : 8 * i + 8 ≤ n) (H : Hp) (hb : Cells H A (byteVals bs)) :
    HCalls Tryz.prog 130 #[.slice A n m, .int .i64 i] H (RetE (.tuple #[.int .u64 (wordN bs (8 * i) : Nat), .int .i64 0]) H) := by
  apply W_codec_Word.ok
  unfold W_codec_Word
  refine HCalls.use (inside_ok A n m (by omega) i H) ?_
  try simp only [HV]
  refine BIf_neg (by simp; omega) ?_
  rw [i64w (x := 8 * (i : Int)) (by omega) (by omega)]
  refine ⟨by omega, by omega, ?_⟩
  rw [show (8 * (i : Int)).toNat = 8 * i by omega]
  have h1 := (hb.shift (m := m) (l := 8 * i) (by rw [byteVals_length]; omega)).take 8
  rw [show ((byteVals bs).drop (8 * i)).take 8 = byteVals ((bs.drop (8 * i)).take 8) by unfold byteVals; rw [List.map_take, List.map_drop]] at h1
  refine HCalls.use (word_ok _ (n - 8 * i) (m - 8 * i) ((bs.drop (8 * i)).take 8) (by simp; omega) (by omega) H h1) ?_
  try simp only [HV]
  exact RetE.mk _ _
theorem rword_loop (K : Value → Hp → Prop) (bs : List UInt8) (o : Nat) (ho : o + 8 ≤ bs.length) (hb : bs.length ≤ 1000000000000) (H : Hp) (k : K (.int .u64 (wordN bs o : Nat)) H) : ∀ j : Nat, j ≤ 8 →
    W_abacistref04_Word.l3 K (j + 1) ⟨bs.toArray⟩ (o : Int) ((leN (((bs.drop o).take 8).drop j) : Nat) : Int) ((j : Int) - 1) H
  | 0, _ => by
    unfold W_abacistref04_Word.l3
    exact BIf_dneg (by omega) k
  | j + 1, hj => by
    unfold W_abacistref04_Word.l3
    have hl : ((bs.drop o).take 8).length = 8 := by simp; omega
    have hlt : j < ((bs.drop o).take 8).length := by omega
    refine BIf_dpos (by omega) ?_
    rw [show (o : Int) + (((j + 1 : Nat) : Int) - 1) = ((o + j : Nat) : Int) by omega, i64n (by omega)]
    refine ⟨by omega, ixB_of (by rw [Int.toNat_natCast]; show o + j < bs.toArray.size; simp; omega) ?_⟩
    have h1 : leN (((bs.drop o).take 8).drop (j + 1)) < 256 ^ 7 := by
      have h1 := leN_lt (((bs.drop o).take 8).drop (j + 1))
      have h2 : 256 ^ (((bs.drop o).take 8).drop (j + 1)).length ≤ 256 ^ 7 := Nat.pow_le_pow_right (by omega) (by simp; omega)
      omega
    rw [show (256 : Nat) ^ 7 = 2 ^ 56 by decide] at h1
    have e := leN_drop hlt
    have hg : ((⟨bs.toArray⟩ : ByteArray)[(((o + j : Nat) : Int)).toNat]'(by rw [Int.toNat_natCast]; show o + j < bs.toArray.size; simp; omega)) = ((bs.drop o).take 8)[j] := by
      simp only [Int.toNat_natCast, List.getElem_take, List.getElem_drop]
      rfl
    rw [hg]
    have h2 : ((bs.drop o).take 8)[j].toNat < 256 := ((bs.drop o).take 8)[j].toNat_lt
    rw [u64n (n := ((bs.drop o).take 8)[j].toNat) (by omega), u64w (x := (256 : Int) * _) (by omega) (by omega), u64w (by omega) (by omega), i64w (by omega) (by omega)]
    rw [show (256 : Int) * ((leN (((bs.drop o).take 8).drop (j + 1)) : Nat) : Int) + (((bs.drop o).take 8)[j].toNat : Int) = ((leN (((bs.drop o).take 8).drop j) : Nat) : Int) by rw [e]; omega]
    rw [show (((j + 1 : Nat) : Int) - 1) - 1 = (j : Int) - 1 by omega]
    exact rword_loop K bs o ho hb H k j (by omega)
theorem rWord_ok (bs : List UInt8) (o : Nat) (ho : o + 8 ≤ bs.length) (hb : bs.length ≤ 1000000000000) (H : Hp) : HCalls Tryz.prog 109 #[.string ⟨bs.toArray⟩, .int .i64 o] H (RetE (.int .u64 (wordN bs o : Nat)) H) := by
  apply W_abacistref04_Word.ok
  refine ⟨9, ?_⟩
  have := rword_loop (RetE (.int .u64 (wordN bs o : Nat)) H) bs o ho hb H (RetE.mk _ _) 8 (Nat.le_refl _)
  rw [List.drop_eq_nil_of_le (by simp; omega)] at this
  exact this
end Go.Proofs.YtnknippcbecmeaaGreatDoor.FormP
end
section
/- The frame of the proofs: structs and arrays of plain cells, compared. -/
namespace Go.Hw
open Go
def litOk : Lf → Lit → Bool
  | .int k, .int k' n => decide (k' = k) && (Lit.int k n).wf
  | .bool, .bool _ => true
  | .str, .string l => decide (l.length ≤ maxLen)
  | _, _ => false
def okAll : List Lf → List Lit → Bool
  | [], [] => true
  | f :: fs, l :: ls => litOk f l && okAll fs ls
  | _, _ => false
def flatFs (P : Program) (g : TypeId → Option (List Lf)) : List Field → Nat → Option (List Lf)
  | [], _ => some []
  | f :: r, off => match f.name != "_" && Nat.beq f.offset off with
    | true => match g f.type with
      | some l => match Nat.beq l.length (P.cellsOf f.type) with
        | true => match flatFs P g r (off + l.length) with
          | some k => some (l ++ k)
          | none => none
        | false => none
      | none => none
    | false => none
def flat (P : Program) : Nat → TypeId → Option (List Lf)
  | 0, _ => none
  | d + 1, t => match P.underlying t with
    | some .bool => some [.bool]
    | some (.int q) => some [.int q]
    | some .string => some [.str]
    | some (.array n e) => match flat P d e with
      | some l => match Nat.beq l.length (P.cellsOf e) && Nat.beq (n * l.length) (P.cellsOf t) with
        | true => some (List.replicate n l).flatten
        | false => none
      | none => none
    | some (.struct fs) => match flatFs P (flat P d) fs.toList 0 with
      | some l => match Nat.beq l.length (P.cellsOf t) with
        | true => some l
        | false => none
      | none => none
    | _ => none
theorem okAll_len : ∀ {fs : List Lf} {ls : List Lit}, okAll fs ls = true → ls.length = fs.length
  | [], [], _ => rfl
  | _ :: fs, _ :: ls, h => by
    simp only [okAll, Bool.and_eq_true] at h
    simp [okAll_len h.2]
  | [], _ :: _, h => by cases h
  | _ :: _, [], h => by cases h
theorem okAll_split : ∀ {a b : List Lf} {ls : List Lit}, okAll (a ++ b) ls = true → ∃ x y, ls = x ++ y ∧ okAll a x = true ∧ okAll b y = true
  | [], b, ls, h => ⟨[], ls, rfl, rfl, h⟩
  | f :: a, b, [], h => by cases h
  | f :: a, b, l :: ls, h => by
    simp only [List.cons_append, okAll, Bool.and_eq_true] at h
    obtain ⟨x, y, rfl, h1, h2⟩ := okAll_split h.2
    exact ⟨l :: x, y, rfl, by simp [okAll, h.1, h1], h2⟩
theorem okAll_one {f : Lf} {ls : List Lit} (h : okAll [f] ls = true) : ∃ x, ls = [x] := by
  have := okAll_len h
  match ls, this with
  | [x], _ => exact ⟨x, rfl⟩
theorem keyLits_flat {P : Program} : ∀ (d : Nat) (t : TypeId) (ks : List Lf) (ls : List Lit), flat P d t = some ks → okAll ks ls = true → P.keyLits d t (ls.map Lit.value) = some ls
  | 0, _, _, _, h, _ => by cases h
  | d + 1, t, ks, ls, h, ho => by
    unfold flat at h
    unfold Program.keyLits
    split at h
    · rename_i hu
      cases h
      obtain ⟨x, rfl⟩ := okAll_one ho
      cases x <;> simp only [okAll, litOk, Bool.and_true, Bool.false_eq_true, Bool.false_and] at ho
      simp [hu, Lit.value]
    · rename_i q hu
      cases h
      obtain ⟨x, rfl⟩ := okAll_one ho
      cases x <;> simp only [okAll, litOk, Bool.and_eq_true, decide_eq_true_eq, Bool.and_true, Bool.false_eq_true, Bool.false_and] at ho
      obtain ⟨rfl, hw⟩ := ho
      simp [hu, Lit.value, hw]
    · rename_i hu
      cases h
      obtain ⟨x, rfl⟩ := okAll_one ho
      cases x <;> simp only [okAll, litOk, decide_eq_true_eq, Bool.and_true, Bool.false_eq_true, Bool.false_and] at ho
      simp [hu, Lit.value, ByteArray.size, ho]
    · rename_i n e hu
      split at h
      · rename_i l hl
        split at h
        · rename_i hb
          cases h
          simp only [Bool.and_eq_true] at hb
          have h1 := Nat.eq_of_beq_eq_true hb.1
          have h2 := Nat.eq_of_beq_eq_true hb.2
          simp only [hu]
          have hlen := okAll_len ho
          rw [if_pos (by rw [List.length_map, hlen, List.length_flatten]; simp [h2, ← h1] )]
          have key : ∀ (m i : Nat) (pre ls : List Lit), pre.length = i * l.length → okAll (List.replicate m l).flatten ls = true →
              ∃ out, (List.range' i m).mapM (fun i => P.keyLits d e ((((pre ++ ls).map Lit.value).drop (i * P.cellsOf e)).take (P.cellsOf e))) = some out ∧ out.flatten = ls := by
            intro m
            induction m with
            | zero =>
              intro i pre ls _ ho
              have : ls = [] := by have := okAll_len ho; simpa using this
              subst this
              exact ⟨[], by simp, rfl⟩
            | succ m ih =>
              intro i pre ls hp ho
              rw [List.replicate_succ, List.flatten_cons] at ho
              obtain ⟨x, y, rfl, hx, hy⟩ := okAll_split ho
              have lx := okAll_len hx
              obtain ⟨out, ho1, ho2⟩ := ih (i + 1) (pre ++ x) y (by rw [List.length_append, hp, lx, Nat.succ_mul]) hy
              refine ⟨x :: out, ?_, by rw [List.flatten_cons, ho2]⟩
              rw [List.range'_succ, List.mapM_cons]
              have e1 : ((((pre ++ (x ++ y)).map Lit.value).drop (i * P.cellsOf e)).take (P.cellsOf e)) = x.map Lit.value := by
                rw [← h1, ← hp, List.map_append, List.drop_left' (by simp), List.map_append, List.take_left' (by simp [lx])]
              rw [e1, keyLits_flat d e l x hl hx]
              rw [List.append_assoc] at ho1
              rw [ho1]; rfl
          obtain ⟨out, h3, h4⟩ := key n 0 [] ls (by simp) ho
          rw [List.range_eq_range']
          simp only [List.nil_append] at h3
          rw [h3]; simp [h4]
        · cases h
      · cases h
    · rename_i fs hu
      split at h
      · rename_i l hl
        split at h
        · rename_i hb
          cases h
          have h1 := Nat.eq_of_beq_eq_true hb
          have hlen := okAll_len ho
          have key : ∀ (fl : List Field) (off : Nat) (k : List Lf) (pre ls : List Lit), flatFs P (flat P d) fl off = some k → pre.length = off → okAll k ls = true →
              (fl.all (·.name != "_") = true) ∧ ∃ out, fl.mapM (fun f => P.keyLits d f.type ((((pre ++ ls).map Lit.value).drop f.offset).take (P.cellsOf f.type))) = some out ∧ out.flatten = ls := by
            intro fl
            induction fl with
            | nil =>
              intro off k pre ls hk _ ho
              cases hk
              have : ls = [] := by have := okAll_len ho; simpa using this
              subst this
              exact ⟨rfl, [], by simp, rfl⟩
            | cons f fl ih =>
              intro off k pre ls hk hp ho
              unfold flatFs at hk
              split at hk
              · rename_i hn
                simp only [Bool.and_eq_true] at hn
                have hoff := Nat.eq_of_beq_eq_true hn.2
                split at hk
                · rename_i kl hkl
                  split at hk
                  · rename_i hb2
                    have h2 := Nat.eq_of_beq_eq_true hb2
                    split at hk
                    · rename_i kr hkr
                      cases hk
                      obtain ⟨x, y, rfl, hx, hy⟩ := okAll_split ho
                      have lx := okAll_len hx
                      obtain ⟨hn2, out, ho1, ho2⟩ := ih (off + kl.length) kr (pre ++ x) y hkr (by rw [List.length_append, hp, lx]) hy
                      refine ⟨by rw [List.all_cons, hn.1, hn2]; rfl, x :: out, ?_, by rw [List.flatten_cons, ho2]⟩
                      rw [List.mapM_cons]
                      have e1 : ((((pre ++ (x ++ y)).map Lit.value).drop f.offset).take (P.cellsOf f.type)) = x.map Lit.value := by
                        rw [hoff, ← h2, ← hp, List.map_append, List.drop_left' (by simp), List.map_append, List.take_left' (by simp [lx])]
                      rw [e1, keyLits_flat d f.type kl x hkl hx]
                      rw [List.append_assoc] at ho1
                      rw [ho1]; rfl
                    · cases hk
                  · cases hk
                · cases hk
              · cases hk
          obtain ⟨hn, out, h3, h4⟩ := key fs.toList 0 ks [] ls hl rfl ho
          simp only [hu]
          rw [if_pos ⟨by rw [List.length_map, hlen, h1], by rw [← Array.all_toList]; exact hn⟩]
          simp only [List.nil_append] at h3
          rw [h3]; simp [h4]
        · cases h
      · cases h
    · cases h
theorem flat_len {P : Program} {d : Nat} {t : TypeId} {ks : List Lf} (ha : isArr P t = true) (h : flat P d t = some ks) : ks.length = P.cellsOf t := by
  cases d with
  | zero => cases h
  | succ d =>
    unfold flat at h
    unfold isArr at ha
    split at h
    · rename_i hu; rw [hu] at ha; cases ha
    · rename_i hu; rw [hu] at ha; cases ha
    · rename_i hu; rw [hu] at ha; cases ha
    · split at h
      · rename_i l hl
        split at h
        · rename_i hb
          cases h
          simp only [Bool.and_eq_true] at hb
          rw [← Nat.eq_of_beq_eq_true hb.2]; simp [List.length_flatten]
        · cases h
      · cases h
    · split at h
      · split at h
        · rename_i hb; cases h; exact Nat.eq_of_beq_eq_true hb
        · cases h
      · cases h
    · cases h
theorem equal_flat {P : Program} {d m : Nat} {t : TypeId} {ks : List Lf} (ha : isArr P t = true) (hf : flat P d t = some ks) (hk : P.keyTypeAt m t = true) (hm : m ≤ 10000) {lx ly : List Lit} (ox : okAll ks lx = true) (oy : okAll ks ly = true) {c : Bool} (hc : c = true ↔ lx = ly) (w : World) :
    (Op.equal t (.agg (lx.map Lit.value).toArray) (.agg (ly.map Lit.value).toArray)).run P w = .ok c w := by
  have hform : ∀ l : List Lit, okAll ks l = true → (Value.agg (l.map Lit.value).toArray).formed P t = true := fun l hl => by
    have := okAll_len hl
    have h2 := flat_len ha hf
    unfold Value.formed
    unfold isArr at ha
    split at ha
    · rename_i hu; rw [hu]; simp [this, h2]
    · rename_i hu; rw [hu]; simp [this, h2]
    · cases ha
  obtain ⟨r, hr, hiff⟩ := run_equalIn_deep (P := P) (10000 - m) m t hk w d d _ _ lx ly (hform lx ox) (hform ly oy) (by simpa [Value.cells] using keyLits_flat d t ks lx hf ox) (by simpa [Value.cells] using keyLits_flat d t ks ly hf oy)
  rw [show 10000 - m + m = 10000 by omega] at hr
  have : r = c := by
    cases r <;> cases c <;> simp_all
  rw [← this]
  exact hr
section
variable {P : Program} {d m : Nat} {t : TypeId} {ks : List Lf} (ha : isArr P t = true) (hf : flat P d t = some ks) (hk : P.keyTypeAt m t = true) (hm : m ≤ 10000) (hg : P.eqGuardType P.depth t = false)
include ha hf hk hm hg
theorem EqV_eql {lx ly : List Lit} (ox : okAll ks lx = true) (oy : okAll ks ly = true) {cx cy : Array Value} (ex : cx = (lx.map Lit.value).toArray) (ey : cy = (ly.map Lit.value).toArray) {K : Bool → Prop} (c : Bool) (hc : c = true ↔ lx = ly) (k : K c) : EqV P .eql t (.agg cx) (.agg cy) K := by
  subst ex; subst ey
  refine ⟨_, k, fun xo yo w => ?_⟩
  have h := equal_flat ha hf hk hm ox oy hc w
  simp [eqGuard, binOp, h, hg]
theorem EqV_neq {lx ly : List Lit} (ox : okAll ks lx = true) (oy : okAll ks ly = true) {cx cy : Array Value} (ex : cx = (lx.map Lit.value).toArray) (ey : cy = (ly.map Lit.value).toArray) {K : Bool → Prop} (c : Bool) (hc : c = true ↔ lx = ly) (k : K (!c)) : EqV P .neq t (.agg cx) (.agg cy) K := by
  subst ex; subst ey
  refine ⟨_, k, fun xo yo w => ?_⟩
  have h := equal_flat ha hf hk hm ox oy hc w
  simp [eqGuard, binOp, h, hg]
end
end Go.Hw
end
section
/- Formulas of functions, printed by wip/tools/hwp.py. -/
namespace Go.Proofs.YtnknippcbecmeaaGreatDoor.W
open Go Go.Hw
end Go.Proofs.YtnknippcbecmeaaGreatDoor.W
end
section
/- stream: pipes; a sector's words loaded and stored. -/
namespace Go.Proofs.YtnknippcbecmeaaGreatDoor.Str
open Go Go.Hw Go.Form W Dsk Are
structure X where
  f : Nat
  s : Nat
  w : Nat
def D.per (d : D) : Nat := d.size / 8
structure On (d : D) (x : X) : Prop where
  w1 : 1 ≤ x.w
  s1 : 1 ≤ x.s
  fit : x.f + x.s ≤ d.sec
  room : x.w ≤ x.s * D.per d
theorem Ok.per_le {d : D} (h : Ok d) : 4 ≤ D.per d ∧ D.per d ≤ 512 ∧ 8 * D.per d = d.size := by
  have h1 := h.size
  have h2 := h.per
  unfold D.per
  omega
section
variable {L : List As} {H : Hp} {p dp ap : Nat} {d : D} {x : X}
end
structure Calm (d : D) : Prop where
  down : d.down = false
  fuse : d.fuse = 0
theorem Calm.burnt {d : D} (h : Calm d) : d.burnt = d := by unfold D.burnt; rw [if_pos h.fuse]
end Go.Proofs.YtnknippcbecmeaaGreatDoor.Str
end
section
/- stream: store, New, pieces. -/
namespace Go.Proofs.YtnknippcbecmeaaGreatDoor.Str
open Go Go.Hw Go.Form W Dsk Are
def D.put (d : D) (i : Int) (ws : List UInt64) : D := { d with wr := d.wr + 1, tch := updT d.tch i, cache := updB d.cache i (form ws) }
def right (d : D) (f s w : Int) : Prop := 1 ≤ w ∧ 0 ≤ f ∧ 1 ≤ s ∧ f < d.sec ∧ s ≤ d.sec - f ∧ w ≤ s * D.per d
end Go.Proofs.YtnknippcbecmeaaGreatDoor.Str
end
section
/- stream: pieces, and Read. -/
namespace Go.Proofs.YtnknippcbecmeaaGreatDoor.Str
open Go Go.Hw Go.Form W Dsk Are
def D.rdN (d : D) (t : Nat) : D := { d with rd := d.rd + t }
theorem Ok.rdN {d : D} (h : Ok d) (t : Nat) : Ok (D.rdN d t) := ⟨h.sec, h.size, h.big, h.per, h.safe, h.cache, h.fz⟩
end Go.Proofs.YtnknippcbecmeaaGreatDoor.Str
end
section
/- stream: Write. -/
namespace Go.Proofs.YtnknippcbecmeaaGreatDoor.Str
open Go Go.Hw Go.Form W Dsk Are
theorem Ok.put {d : D} (h : Ok d) (i : Int) {ws : List UInt64} (hw : ws.length = D.per d) : Ok (D.put d i ws) := by
  have hp := Ok.per_le h
  refine ⟨h.sec, h.size, h.big, h.per, h.safe, fun k b hb => ?_, h.fz⟩
  have hb' : (if k = i then some (form ws) else d.cache k) = some b := hb
  split at hb'
  · cases hb'
    rw [form_length]; show 8 * ws.length = d.size; omega
  · exact h.cache k b hb'
theorem Calm.put {d : D} (h : Calm d) (i : Int) (ws : List UInt64) : Calm (D.put d i ws) := ⟨h.down, h.fuse⟩
end Go.Proofs.YtnknippcbecmeaaGreatDoor.Str
end
section
/- stream, whatever the fuse: relations between disks; load, store. -/
namespace Go.Proofs.YtnknippcbecmeaaGreatDoor.Str
open Go Go.Hw Go.Form W Dsk Are
def D.mr (d : D) : D := { d with rd := d.rd + 1, fuse := d.fuse - 1 }
def D.dead (d : D) : D := { d with fuse := 0, down := true }
theorem live_chk {d : D} (hl : d.down = false) {i : Int} (h0 : 0 ≤ i) (h1 : i < d.sec) : d.chk i = 0 := by
  unfold D.chk
  rw [hl, if_neg (by simp), if_neg (by omega)]
theorem Ok.dead {d : D} (h : Ok d) : Ok (D.dead d) := ⟨h.sec, h.size, h.big, h.per, h.safe, h.cache, Nat.zero_le _⟩
theorem Ok.mr {d : D} (h : Ok d) : Ok (D.mr d) := ⟨h.sec, h.size, h.big, h.per, h.safe, h.cache, Nat.le_trans (Nat.sub_le _ _) h.fz⟩
structure Prog (S : Int → Prop) (d d' : D) (r w : Nat) : Prop where
  ok : Ok d'
  down : d'.down = false
  fuse : d'.fuse = d.fuse - (r + w)
  go : d.fuse = 0 ∨ r + w < d.fuse
  sec : d'.sec = d.sec
  size : d'.size = d.size
  safe : d'.safe = d.safe
  sy : d'.sy = d.sy
  cache : ∀ k, ¬ S k → d'.cache k = d.cache k
  tch : ∀ k, ¬ S k → d'.tch k = d.tch k
  rd : d'.rd = d.rd + r
  wr : d'.wr = d.wr + w
structure Dead (S : Int → Prop) (d d' : D) : Prop where
  ok : Ok d'
  down : d'.down = true
  fuse : d'.fuse = 0
  sec : d'.sec = d.sec
  size : d'.size = d.size
  safe : d'.safe = d.safe
  sy : d'.sy = d.sy
  cache : ∀ k, ¬ S k → d'.cache k = d.cache k
  tch : ∀ k, ¬ S k → d'.tch k = d.tch k
  cnt : d'.rd + d'.wr + 1 = d.rd + d.wr + d.fuse
  rd : d.rd ≤ d'.rd
  wr : d.wr ≤ d'.wr
section
variable {S : Int → Prop} {d d1 d2 : D}
theorem Prog.per {r w : Nat} (h : Prog S d d1 r w) : D.per d1 = D.per d := by unfold D.per; rw [h.size]
theorem Prog.trans {r w r' w' : Nat} (h : Prog S d d1 r w) (k : Prog S d1 d2 r' w') : Prog S d d2 (r + r') (w + w') := by
  have a1 := h.fuse; have a2 := h.go; have b1 := k.fuse; have b2 := k.go; have c1 := h.rd; have c2 := h.wr; have c3 := k.rd; have c4 := k.wr
  exact ⟨k.ok, k.down, by omega, by omega, k.sec.trans h.sec, k.size.trans h.size, k.safe.trans h.safe, k.sy.trans h.sy, fun i hi => (k.cache i hi).trans (h.cache i hi), fun i hi => (k.tch i hi).trans (h.tch i hi), by omega, by omega⟩
theorem Prog.mr (S : Int → Prop) (h : Ok d) (hl : d.down = false) (hf : d.fuse ≠ 1) : Prog S d (D.mr d) 1 0 :=
  ⟨Ok.mr h, hl, rfl, by omega, rfl, rfl, rfl, rfl, fun _ _ => rfl, fun _ _ => rfl, rfl, rfl⟩
theorem Dead.one (S : Int → Prop) (h : Ok d) (hf : d.fuse = 1) : Dead S d (D.dead d) :=
  ⟨Ok.dead h, rfl, rfl, rfl, rfl, rfl, rfl, fun _ _ => rfl, fun _ _ => rfl, by show d.rd + d.wr + 1 = _; rw [hf], Nat.le_refl _, Nat.le_refl _⟩
end
end Go.Proofs.YtnknippcbecmeaaGreatDoor.Str
end
section
/- stream, whatever the fuse: Read. -/
namespace Go.Proofs.YtnknippcbecmeaaGreatDoor.Str
open Go Go.Hw Go.Form W Dsk Are
end Go.Proofs.YtnknippcbecmeaaGreatDoor.Str
end
section
/- stream, whatever the fuse: Write. -/
namespace Go.Proofs.YtnknippcbecmeaaGreatDoor.Str
open Go Go.Hw Go.Form W Dsk Are
end Go.Proofs.YtnknippcbecmeaaGreatDoor.Str
end
section
/- The library's sort and keys of a map, laid at this program (printed by lay.py). -/
namespace Go.Proofs.YtnknippcbecmeaaGreatDoor.Lib
open Go Go.Proofs Go.Shelf Go.RowKit Go.Maps Go.Sort
def sortedI_ren : Go.Shelf.Ren := ⟨fun | 6 => 68 | 8 => 117 | 9 => 118 | 11 => 150 | 13 => 123 | 12 => 151 | 23 => 161 | 24 => 162 | 14 => 175 | 15 => 176 | 16 => 177 | 17 => 178 | 18 => 179 | 19 => 180 | 20 => 181 | 21 => 182 | 22 => 183 | 25 => 204 | 26 => 192 | 27 => 193 | 28 => 205 | 29 => 206 | 30 => 207 | 31 => 220 | n => n, fun | 26 => 3 | 28 => 148 | 24 => 99 | 0 => 0 | 3 => 3 | 37 => 136 | 48 => 40 | 50 => 60 | 4 => 4 | 40 => 248 | 39 => 247 | 45 => 179 | 5 => 5 | 9 => 9 | 51 => 282 | 55 => 286 | 57 => 304 | 58 => 305 | 33 => 196 | n => n, fun | n => n⟩
theorem sortedI : Go.Proofs.SlLaysZI.n6 Tryz.prog sortedI_ren where
  mixed := by kernel_rfl
  f6 := ⟨ "slices.Sorted[int]", by decide, Tryz.func68.trans (congrArg some (by kernel_rfl))⟩
  f8 := ⟨ "slices.Collect[int]", by decide, Tryz.func117.trans (congrArg some (by kernel_rfl))⟩
  f11 := ⟨ "slices.AppendSeq[[]int,int]", by decide, Tryz.func150.trans (congrArg some (by kernel_rfl))⟩
  t0 := Tryz.underlying0
  a0 := Tryz.isAgg0
  z0 := Tryz.sizeOf0
  v0 := Tryz.zeroValue0
  t24 := Tryz.underlying99
  a24 := Tryz.isAgg99
  z24 := Tryz.sizeOf99
  v24 := Tryz.zeroValue99
  t26 := Tryz.underlying3
  a26 := Tryz.isAgg3
  z26 := Tryz.sizeOf3
  v26 := Tryz.zeroValue3
  t28 := Tryz.underlying148
  a28 := Tryz.isAgg148
  z28 := Tryz.sizeOf148
  v28 := Tryz.zeroValue148
  i26 := by kernel_rfl
def sortI_ren : Go.Shelf.Ren := ⟨fun | 5 => 118 | 8 => 123 | 7 => 151 | 19 => 161 | 20 => 162 | 10 => 175 | 11 => 176 | 12 => 177 | 13 => 178 | 14 => 179 | 15 => 180 | 16 => 181 | 17 => 182 | 18 => 183 | 30 => 204 | 31 => 192 | 32 => 193 | 33 => 205 | 34 => 206 | 35 => 207 | 40 => 220 | n => n, fun | 23 => 99 | 25 => 3 | 3 => 3 | 32 => 136 | 22 => 99 | 0 => 0 | 44 => 40 | 46 => 60 | 4 => 4 | 36 => 248 | 35 => 247 | 41 => 179 | 5 => 5 | 9 => 9 | 53 => 282 | 57 => 286 | 63 => 304 | 64 => 305 | n => n, fun | n => n⟩
theorem sortI : Go.Proofs.SlLaysM.n5 Tryz.prog sortI_ren where
  mixed := by kernel_rfl
  f5 := ⟨ "slices.Sort[[]int,int]", by decide, Tryz.func118.trans (congrArg some (by kernel_rfl))⟩
  f7 := ⟨ "slices.pdqsortOrdered[int]", by decide, Tryz.func151.trans (congrArg some (by kernel_rfl))⟩
  f8 := Tryz.func123.trans (congrArg some (by kernel_rfl))
  f10 := ⟨ "slices.insertionSortOrdered[int]", by decide, Tryz.func175.trans (congrArg some (by kernel_rfl))⟩
  f11 := ⟨ "slices.heapSortOrdered[int]", by decide, Tryz.func176.trans (congrArg some (by kernel_rfl))⟩
  f12 := ⟨ "slices.breakPatternsOrdered[int]", by decide, Tryz.func177.trans (congrArg some (by kernel_rfl))⟩
  f13 := ⟨ "slices.choosePivotOrdered[int]", by decide, Tryz.func178.trans (congrArg some (by kernel_rfl))⟩
  f14 := ⟨ "slices.reverseRangeOrdered[int]", by decide, Tryz.func179.trans (congrArg some (by kernel_rfl))⟩
  f15 := ⟨ "slices.partialInsertionSortOrdered[int]", by decide, Tryz.func180.trans (congrArg some (by kernel_rfl))⟩
  f16 := ⟨ "cmp.Less[int]", by decide, Tryz.func181.trans (congrArg some (by kernel_rfl))⟩
  f17 := ⟨ "slices.partitionEqualOrdered[int]", by decide, Tryz.func182.trans (congrArg some (by kernel_rfl))⟩
  f18 := ⟨ "slices.partitionOrdered[int]", by decide, Tryz.func183.trans (congrArg some (by kernel_rfl))⟩
  f19 := Tryz.func161.trans (congrArg some (by kernel_rfl))
  f20 := Tryz.func162.trans (congrArg some (by kernel_rfl))
  f30 := ⟨ "slices.siftDownOrdered[int]", by decide, Tryz.func204.trans (congrArg some (by kernel_rfl))⟩
  f31 := Tryz.func192.trans (congrArg some (by kernel_rfl))
  f32 := Tryz.func193.trans (congrArg some (by kernel_rfl))
  f33 := ⟨ "slices.medianAdjacentOrdered[int]", by decide, Tryz.func205.trans (congrArg some (by kernel_rfl))⟩
  f34 := ⟨ "slices.medianOrdered[int]", by decide, Tryz.func206.trans (congrArg some (by kernel_rfl))⟩
  f35 := ⟨ "cmp.isNaN[int]", by decide, Tryz.func207.trans (congrArg some (by kernel_rfl))⟩
  f40 := ⟨ "slices.order2Ordered[int]", by decide, Tryz.func220.trans (congrArg some (by kernel_rfl))⟩
  t0 := Tryz.underlying0
  a0 := Tryz.isAgg0
  z0 := Tryz.sizeOf0
  v0 := Tryz.zeroValue0
  t3 := Tryz.underlying3
  a3 := Tryz.isAgg3
  z3 := Tryz.sizeOf3
  v3 := Tryz.zeroValue3
  t4 := Tryz.underlying4
  a4 := Tryz.isAgg4
  z4 := Tryz.sizeOf4
  v4 := Tryz.zeroValue4
  t5 := Tryz.underlying5
  a5 := Tryz.isAgg5
  z5 := Tryz.sizeOf5
  v5 := Tryz.zeroValue5
  t9 := Tryz.underlying9
  a9 := Tryz.isAgg9
  z9 := Tryz.sizeOf9
  v9 := Tryz.zeroValue9
  t22 := Tryz.underlying99
  a22 := Tryz.isAgg99
  z22 := Tryz.sizeOf99
  v22 := Tryz.zeroValue99
  t23 := Tryz.underlying99
  a23 := Tryz.isAgg99
  z23 := Tryz.sizeOf99
  v23 := Tryz.zeroValue99
  t25 := Tryz.underlying3
  a25 := Tryz.isAgg3
  z25 := Tryz.sizeOf3
  v25 := Tryz.zeroValue3
  t32 := Tryz.underlying136
  a32 := Tryz.isAgg136
  z32 := Tryz.sizeOf136
  v32 := Tryz.zeroValue136
  t35 := Tryz.underlying247
  a35 := Tryz.isAgg247
  z35 := Tryz.sizeOf247
  v35 := Tryz.zeroValue247
  t36 := Tryz.underlying248
  a36 := Tryz.isAgg248
  z36 := Tryz.sizeOf248
  v36 := Tryz.zeroValue248
  t41 := Tryz.underlying179
  a41 := Tryz.isAgg179
  z41 := Tryz.sizeOf179
  v41 := Tryz.zeroValue179
  t44 := Tryz.underlying40
  a44 := Tryz.isAgg40
  z44 := Tryz.sizeOf40
  v44 := Tryz.zeroValue40
  t46 := Tryz.underlying60
  a46 := Tryz.isAgg60
  z46 := Tryz.sizeOf60
  v46 := Tryz.zeroValue60
  t53 := Tryz.underlying282
  a53 := Tryz.isAgg282
  z53 := Tryz.sizeOf282
  v53 := Tryz.zeroValue282
  t57 := Tryz.underlying286
  a57 := Tryz.isAgg286
  z57 := Tryz.sizeOf286
  v57 := Tryz.zeroValue286
  t63 := Tryz.underlying304
  a63 := Tryz.isAgg304
  z63 := Tryz.sizeOf304
  v63 := Tryz.zeroValue304
  t64 := Tryz.underlying305
  a64 := Tryz.isAgg305
  z64 := Tryz.sizeOf305
  v64 := Tryz.zeroValue305
def keys_string_ren : Go.Shelf.Ren := ⟨fun | 7 => 69 | 10 => 119 | n => n, fun | 23 => 45 | 26 => 3 | 3 => 9 | 28 => 148 | 0 => 0 | 27 => 147 | 33 => 196 | 4 => 4 | n => n, fun | n => n⟩
theorem keys_string : Go.Proofs.SlLaysZI.n7 Tryz.prog keys_string_ren where
  mixed := by kernel_rfl
  f7 := ⟨ "maps.Keys[map[int]string,int,string]", by decide, Tryz.func69.trans (congrArg some (by kernel_rfl))⟩
  f10 := ⟨ "maps.Keys[map[int]string,int,string]$1", by decide, Tryz.func119.trans (congrArg some (by kernel_rfl))⟩
  t0 := Tryz.underlying0
  a0 := Tryz.isAgg0
  z0 := Tryz.sizeOf0
  v0 := Tryz.zeroValue0
  t4 := Tryz.underlying4
  a4 := Tryz.isAgg4
  z4 := Tryz.sizeOf4
  v4 := Tryz.zeroValue4
  t23 := Tryz.underlying45
  a23 := Tryz.isAgg45
  z23 := Tryz.sizeOf45
  v23 := Tryz.zeroValue45
  t26 := Tryz.underlying3
  a26 := Tryz.isAgg3
  z26 := Tryz.sizeOf3
  v26 := Tryz.zeroValue3
  t27 := Tryz.underlying147
  a27 := Tryz.isAgg147
  z27 := Tryz.sizeOf147
  v27 := Tryz.zeroValue147
  t28 := Tryz.underlying148
  a28 := Tryz.isAgg148
  z28 := Tryz.sizeOf148
  v28 := Tryz.zeroValue148
  t33 := Tryz.underlying196
  a33 := Tryz.isAgg196
  z33 := Tryz.sizeOf196
  v33 := Tryz.zeroValue196
end Go.Proofs.YtnknippcbecmeaaGreatDoor.Lib
end
section
/- The frame of the proofs: the library's sorted keys of a map whose keys are ints. -/
namespace Go.Hw
open Go Go.Proofs Go.Proofs.YtnknippcbecmeaaGreatDoor.Lib Go.RowKit Go.Maps Go.Sort Go.Shelf
open Go.WideElems (Fit rd rg)
theorem nodup_len : ∀ (N : Nat) (l : List Nat), l.Nodup → (∀ x ∈ l, x < N) → l.length ≤ N
  | 0, [], _, _ => by simp
  | 0, x :: _, _, h => absurd (h x (by simp)) (by omega)
  | N + 1, l, hn, h => by
    have := nodup_len N (l.erase N) (hn.erase N) fun x hx => by
      rw [hn.mem_erase_iff] at hx
      have := h x hx.2
      have := hx.1
      omega
    rw [List.length_erase] at this
    split at this <;> omega
structure KeysOf (m : Int → Option Value) (ks : List Int) : Prop where
  up : ks.Pairwise (fun a b => a < b)
  mem : ∀ k, k ∈ ks ↔ (m k).isSome = true
theorem okk_len {l : List (Int × Value × Nat)} {clock : Nat} {m : Int → Option Value} (h : OkK l clock m) {N : Nat} (hd : ∀ k, (m k).isSome = true → 0 ≤ k ∧ k < N) : l.length ≤ N ∧ ∀ x ∈ l, 0 ≤ x.1 ∧ x.1 < N := by
  have hmem : ∀ x ∈ l, 0 ≤ x.1 ∧ x.1 < N := fun x hx => by
    apply hd
    rw [← h.get, getK_mem h.nd hx]; rfl
  refine ⟨?_, hmem⟩
  have hn : ((l.map (·.1)).map Int.toNat).Nodup := by
    rw [List.nodup_iff_pairwise_ne, List.pairwise_map]
    have := h.nd
    rw [List.nodup_iff_pairwise_ne] at this
    refine this.imp_of_mem ?_
    intro a b ha hb hne e
    obtain ⟨x, hx, rfl⟩ := List.mem_map.1 ha
    obtain ⟨y, hy, rfl⟩ := List.mem_map.1 hb
    have := hmem x hx
    have := hmem y hy
    omega
  have := nodup_len N _ hn fun x hx => by
    obtain ⟨y, hy, rfl⟩ := List.mem_map.1 hx
    obtain ⟨z, hz, rfl⟩ := List.mem_map.1 hy
    have := hmem z hz
    omega
  simpa using this
def rNo : Value → Option (DataW Unit × List MemPlace) := fun _ => some (.lit (.bool true), [])
theorem okk_fit {P : Program} {k : TypeId} (hk : P.underlying k = some (.int .i64)) {l : List (Int × Value × Nat)} {clock : Nat} {m : Int → Option Value} (h : OkK l clock m) {N : Nat} (hN : N ≤ 1048576) (hd : ∀ k, (m k).isSome = true → 0 ≤ k ∧ k < N) :
    Fit P k rNo (l.map entK).toArray clock ∧ (l.map entK).map (rg P k rNo) = l.map fun x => (Lit.int .i64 x.1, DataW.lit (.bool true)) := by
  obtain ⟨h1, h2⟩ := okk_len h hd
  have hrd : ∀ x ∈ l, rd P k rNo (entK x) = some (Lit.int .i64 x.1, DataW.lit (.bool true)) := fun x hx => by
    have := h2 x hx
    have hw : (Lit.int .i64 x.1).wf = true := by
      have e : (Lit.int .i64 x.1).wf = decide (-9223372036854775808 ≤ x.1 ∧ x.1 ≤ 9223372036854775807) := by
        simp [Lit.wf, IntKind.min, IntKind.max, IntKind.bits, IntKind.signed]
      rw [e, decide_eq_true_eq]; omega
    refine Go.WideElems.rd_mk (yv := (DataW.lit (.bool true), [])) (kl := Lit.int .i64 x.1) ?_ rfl
    simp [keyOf, mapKey, hk, hw]
  refine ⟨⟨?_, ⟨fun x hx => ?_, ?_, ?_⟩, fun x hx => ?_⟩, ?_⟩
  · simp only [List.size_toArray, List.length_map]
    exact Nat.le_trans h1 (Nat.le_trans hN (by decide))
  · obtain ⟨y, hy, rfl⟩ := List.mem_map.1 hx
    exact h.bl y hy
  · have := h.bn
    simpa [List.map_map, Function.comp_def, entK] using this
  · rw [List.map_map]
    have := h.nd
    rw [List.nodup_iff_pairwise_ne, List.pairwise_map] at this ⊢
    exact this.imp fun hne e => hne (by simpa [entK] using e)
  · obtain ⟨y, hy, rfl⟩ := List.mem_map.1 hx
    exact ⟨_, hrd y hy⟩
  · rw [List.map_map]
    exact List.map_congr_left fun x hx => Go.WideElems.rg_of (hrd x hx)
theorem sorts (m : Nat) : AnyZI.SortsIn Tryz.prog sortedI_ren Fence.wide m :=
  ⟨fun blk off cap ss W hH hblk hsz => callsIn_wide.2 (AnyM.slices_Sort_int sortI blk off cap ss W hH hblk hsz), fun p cap W => callsIn_wide.2 (AnyM.slices_Sort_int_none sortI p cap W)⟩
theorem Keys_string (r : Nat) (H : Hp) : HCalls Tryz.prog 69 #[.map (some r)] H fun v H' =>
    ∃ b, H b = none ∧ v = .func (.func 119) #[] #[.pointer (some ⟨b, 0, none⟩)] ∧ H' = H.set b (.obj (.cells #[.map (some r)] 45)) := fun w hw => by
  have c : CallsIn Fence.wide 5 Tryz.prog 69 #[.map (some r)] w fun e w' => e = .returned (.func (.func 119) #[] #[.pointer (some ⟨w.heap.size, 0, none⟩)]) ∧ w' = w.alloc (.cells #[.map (some r)] 45) :=
    AnyZI.keys_in keys_string Fence.wide 5 trivial rfl (some r) w
  refine (callsIn_wide.1 c).mono ?_
  rintro e w' ⟨rfl, rfl⟩
  obtain ⟨hn, hA⟩ := (At.refl hw).new (o := .obj (.cells #[.map (some r)] 45)) (x := .cells #[.map (some r)] 45) rfl
  exact ⟨_, _, rfl, ⟨w.heap.size, hn, rfl, rfl⟩, hA⟩
theorem Sorted_string {r b clock : Nat} {l : List (Int × Value × Nat)} {m : Int → Option Value} (hok : OkK l clock m) {N : Nat} (hN : N ≤ 1048576) (hd : ∀ k, (m k).isSome = true → 0 ≤ k ∧ k < N) (H : Hp) (hr : H r = some (kmap l clock)) (hb : H b = some (.obj (.cells #[.map (some r)] 45))) :
    HCalls Tryz.prog 68 #[.func (.func 119) #[] #[.pointer (some ⟨b, 0, none⟩)]] H fun v H' =>
      ∃ ks, KeysOf m ks ∧ ks.length ≤ N ∧ ((ks = [] ∧ v = .slice none 0 0 ∧ H' = H) ∨ ∃ b' cap, v = .slice (some ⟨b', 0, none⟩) ks.length cap ∧ ks.length ≤ cap ∧ H b' = none ∧ H' = H.set b' (.row (ks.map (Value.int .i64)) 3 cap)) := fun w hw => by
  have hu : Tryz.prog.underlying 3 = some (.int .i64) := by kernel_rfl
  obtain ⟨hfit, hrg⟩ := okk_fit (P := Tryz.prog) (k := 3) hu hok hN hd
  obtain ⟨hlen, hmem⟩ := okk_len hok hd
  have hheap := kmap.heap hr hw
  have hbh : w.heap[b]? = some (.cells #[.map (some r)] 45 (0, 0)) := by
    obtain ⟨o, ho, hh⟩ := hw _ _ hb
    cases hh
    exact ho
  have hown : w.ownsMap Tryz.prog 3 rNo r l.length (.map ((((l.map entK).toArray.toList).map (rg Tryz.prog 3 rNo)).foldr DataW.insert [])) := ⟨_, clock, hheap, hfit, by simp, rfl⟩
  rw [List.toList_toArray, hrg] at hown
  have hperm := Go.WideShapes.sorted_perm (l.map fun x => (Lit.int .i64 x.1, (DataW.lit (.bool true) : DataW Unit)))
  have hik : (intKeys (.map ((l.map fun x => (Lit.int .i64 x.1, (DataW.lit (.bool true) : DataW Unit))).foldr DataW.insert []))).Perm (l.map (·.1)) := by
    have := hperm.map fun p => intOf p.1
    rw [List.map_map] at this
    exact this
  have hsize : Maps.size (DataW.map ((l.map fun x => (Lit.int .i64 x.1, (DataW.lit (.bool true) : DataW Unit))).foldr DataW.insert [])) = l.length := by
    have := hperm.length_eq
    rw [List.length_map] at this
    exact this
  have hseq : SeqGives Fence.wide 2 Tryz.prog 119 #[.pointer (some ⟨b, 0, none⟩)] encZ (fun ss => ss.Perm (intKeys _)) (Maps.size _) w :=
    AnyZI.keys_gives (ρ := keys_string_ren) { keys_string with } Fence.wide _ trivial rfl (by omega) b r l.length _ w (Array.getElem?_eq_some_iff.1 hbh).1 (by simp [World.cell?, hbh]) hown
  have cS := AnyZI.sorted_in sortedI Fence.wide 5 trivial trivial trivial trivial rfl (by omega) (sorts _) (enters_of Tryz.func118 (by kernel_rfl) rfl) 119 #[.pointer (some ⟨b, 0, none⟩)] trivial (enters_of Tryz.func119 (by kernel_rfl) rfl) _ _ (by rw [hsize]; exact Nat.le_trans hlen (Nat.le_trans hN (by decide))) (by rw [hsize]; omega) w hseq
  change CallsIn _ _ Tryz.prog 68 _ _ _ at cS
  refine (callsIn_wide.1 cS).mono ?_
  rintro e w' ⟨v, ss, rfl, hS, hrow, hnil, hbel⟩
  have hp : (ss.mergeSort fun x y => decide (x ≤ y)).Perm (l.map (·.1)) := (List.mergeSort_perm _ _).trans (hS.trans hik)
  have hks : KeysOf m (ss.mergeSort fun x y => decide (x ≤ y)) := by
    refine ⟨?_, fun k => ?_⟩
    · have h1 := List.pairwise_mergeSort (le := fun x y : Int => decide (x ≤ y)) (fun a b c h1 h2 => by simp only [decide_eq_true_eq] at *; omega) (fun a b => by simp only [Bool.or_eq_true, decide_eq_true_eq]; omega) ss
      have h2 : (ss.mergeSort fun x y => decide (x ≤ y)).Nodup := hp.nodup_iff.2 hok.nd
      rw [List.nodup_iff_pairwise_ne] at h2
      refine (h1.and h2).imp ?_
      rintro a b ⟨h3, h4⟩
      simp only [decide_eq_true_eq] at h3
      omega
    · rw [hp.mem_iff, ← hok.get]
      constructor
      · intro hk
        obtain ⟨x, hx, rfl⟩ := List.mem_map.1 hk
        rw [getK_mem hok.nd hx]; rfl
      · intro hk
        cases hg : getK l k with
        | none => rw [hg] at hk; cases hk
        | some v =>
          obtain ⟨b, hb⟩ := getK_some hg
          exact List.mem_map.2 ⟨_, hb, rfl⟩
  have hkl : (ss.mergeSort fun x y => decide (x ≤ y)).length = ss.length := List.length_mergeSort _
  have hsl : ss.length ≤ N := by
    rw [← hkl, hp.length_eq, List.length_map]; exact hlen
  obtain ⟨hxl, hcase⟩ := hrow
  rcases hcase with ⟨rfl, h0⟩ | ⟨g, cap, cur, rfl, hg, hgh, hnc, hcm, hcs, htk⟩
  · have hss : ss = [] := hnil.1 rfl
    refine ⟨_, H, rfl, ⟨_, hks, by omega, .inl ⟨List.length_eq_zero_iff.1 (by rw [hkl, hss]; rfl), rfl, rfl⟩⟩, ?_⟩
    exact ⟨fun i o hi => by
      obtain ⟨o', h1, h2⟩ := hw i o hi
      exact ⟨o', (hbel.block i (Array.getElem?_eq_some_iff.1 h1).1).trans h1, h2⟩, hbel.size, hbel.os, hbel.tape, hbel.output, fun i hi h0 => ⟨h0, hbel.block i hi⟩⟩
  · have hgn : H g = none := by
      cases hx : H g with
      | none => rfl
      | some o =>
        obtain ⟨o', h1, _⟩ := hw g o hx
        have := (Array.getElem?_eq_some_iff.1 h1).1
        omega
    rw [Nat.mul_one] at hcs htk
    refine ⟨_, H.set g (.row ((ss.mergeSort fun x y => decide (x ≤ y)).map (Value.int .i64)) 3 cap), rfl, ⟨_, hks, by omega, .inr ⟨g, cap, by rw [hkl], by omega, hgn, rfl⟩⟩, ?_⟩
    refine ⟨fun i o hi => ?_, hbel.size, hbel.os, hbel.tape, hbel.output, fun i hi h0 => ⟨?_, hbel.block i hi⟩⟩
    · by_cases hig : i = g
      · subst hig
        rw [Hp.set_same] at hi
        cases hi
        refine ⟨_, hgh, cur.toList.drop ss.length, 0, 0, ?_, ?_, .inl rfl⟩
        · rw [← htk, List.take_append_drop, Array.toArray_toList]; rfl
        · rw [← htk, List.take_append_drop, Array.length_toList]; exact hcs
      · rw [Hp.set_other _ _ hig] at hi
        obtain ⟨o', h1, h2⟩ := hw i o hi
        exact ⟨o', (hbel.block i (Array.getElem?_eq_some_iff.1 h1).1).trans h1, h2⟩
    · rw [Hp.set_other _ _ (by omega)]; exact h0
end Go.Hw
end
