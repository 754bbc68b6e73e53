/- The frame of the proofs, first part: views in part of memory; what a read-only run and a writing run come to over such a view. -/
import Derived.WalkKit
set_option maxRecDepth 100000
set_option linter.unusedSimpArgs false
set_option linter.unusedVariables false
set_option linter.unnecessarySimpa false
set_option linter.unusedSectionVars false
namespace Go.Hw
open Go

/-- What is known of a block: just what lies there, or the first cells of a row of n cells, none of them frozen. -/
inductive AO where
  | obj (o : Obj)
  | row (xs : List Value) (elem : TypeId) (n : Nat)

def AO.holds : AO → Obj → Prop
  | .obj o, o' => o' = o
  | .row xs e n, o' => ∃ (sp : List Value) (lo hi : Nat), o' = .cells (xs ++ sp).toArray e (lo, hi) ∧ (xs ++ sp).length = n ∧ (lo = hi ∨ n ≤ lo)

abbrev Hp := Nat → Option AO

def Hp.set (H : Hp) (b : Nat) (o : AO) : Hp := fun i => if i = b then some o else H i
def Hp.erase (H : Hp) (b : Nat) : Hp := fun i => if i = b then none else H i
def Hp.le (H H' : Hp) : Prop := ∀ b o, H b = some o → H' b = some o

theorem Hp.set_same (H : Hp) (b : Nat) (o : AO) : H.set b o b = some o := by simp [Hp.set]
theorem Hp.set_other (H : Hp) {b c : Nat} (o : AO) (h : c ≠ b) : H.set b o c = H c := by simp [Hp.set, h]

def Hp.cell? (H : Hp) (a : Addr) : Option Value :=
  match H a.block with
  | some (.obj (.cells c _ _)) => if a.spot.isSome then none else c[a.off]?
  | some (.row xs _ _) => if a.spot.isSome then none else xs[a.off]?
  | _ => none

def Hp.put? (H : Hp) (a : Addr) (v : Value) : Option Hp :=
  match H a.block with
  | some (.obj (.cells c e (lo, hi))) => if a.spot.isSome = false ∧ a.off < c.size ∧ ¬ (lo ≤ a.off ∧ a.off < hi) ∧ v.oneCell' = true then some (H.set a.block (.obj (.cells (c.setIfInBounds a.off v) e (lo, hi)))) else none
  | some (.row xs e n) => if a.spot.isSome = false ∧ a.off < xs.length ∧ v.oneCell' = true then some (H.set a.block (.row (xs.set a.off v) e n)) else none
  | _ => none

def Fits (H : Hp) (w : World) : Prop := ∀ b o, H b = some o → ∃ o', w.heap[b]? = some o' ∧ o.holds o'

structure At (H0 : Hp) (w0 : World) (H : Hp) (w : World) : Prop where
  fits : Fits H w
  size : w0.heap.size ≤ w.heap.size
  os : w.os = w0.os
  tape : w.tape = w0.tape
  output : w.output = w0.output
  old : ∀ b, b < w0.heap.size → H0 b = none → H b = none ∧ w.heap[b]? = w0.heap[b]?

theorem At.refl {H : Hp} {w : World} (h : Fits H w) : At H w H w := ⟨h, Nat.le_refl _, rfl, rfl, rfl, fun _ _ h => ⟨h, rfl⟩⟩

theorem At.trans {H0 H1 H2 : Hp} {w0 w1 w2 : World} (h : At H0 w0 H1 w1) (k : At H1 w1 H2 w2) : At H0 w0 H2 w2 :=
  ⟨k.fits, Nat.le_trans h.size k.size, k.os.trans h.os, k.tape.trans h.tape, k.output.trans h.output, fun b hb h0 => by
    obtain ⟨h1, e1⟩ := h.old b hb h0
    obtain ⟨h2, e2⟩ := k.old b (Nat.lt_of_lt_of_le hb h.size) h1
    exact ⟨h2, e2.trans e1⟩⟩

theorem At.weaken {H0 H H' : Hp} {w0 w : World} (h : At H0 w0 H w) (k : H'.le H) : At H0 w0 H' w :=
  ⟨fun b o hb => h.fits b o (k b o hb), h.size, h.os, h.tape, h.output, fun b hb h0 => by
    obtain ⟨h1, e1⟩ := h.old b hb h0
    refine ⟨?_, e1⟩
    cases h2 : H' b with
    | none => rfl
    | some o => rw [k b o h2] at h1; cases h1⟩

theorem Fits.cell? {H : Hp} {w : World} {a : Addr} {v : Value} (h : Fits H w) (hc : H.cell? a = some v) : w.cell? a = some v := by
  unfold Hp.cell? at hc
  split at hc
  · rename_i c e f hb
    obtain ⟨o', ho, hh⟩ := h _ _ hb
    cases hh
    unfold World.cell?
    rw [ho]
    simpa using hc
  · rename_i xs e n hb
    obtain ⟨o', ho, sp, lo, hi, rfl, hl, _⟩ := h _ _ hb
    unfold World.cell?
    rw [ho]
    by_cases hs : a.spot.isSome = true
    · simp [hs] at hc
    · simp only [hs, Bool.false_eq_true, if_false] at hc ⊢
      have hlt : a.off < xs.length := (List.getElem?_eq_some_iff.1 hc).1
      simp only [List.getElem?_toArray]
      rw [List.getElem?_append_left hlt]
      exact hc
  · cases hc

theorem getElem?_modify_self {α : Type} {xs : Array α} {i : Nat} {f : α → α} {x : α} (h : xs[i]? = some x) : (xs.modify i f)[i]? = some (f x) := by
  rw [Array.getElem?_modify, if_pos rfl, h]; rfl

/-- A block is turned, and what is known of it with it. -/
theorem At.turn {H0 H : Hp} {w0 w w' : World} {b : Nat} {o o' : AO} {x' : Obj} (h : At H0 w0 H w) (hb : H b = some o) (hx' : w'.heap[b]? = some x') (ho' : o'.holds x') (hs : w'.heap.size = w.heap.size)
    (hos : w'.os = w.os) (ht : w'.tape = w.tape) (hou : w'.output = w.output) (hot : ∀ c, c ≠ b → w'.heap[c]? = w.heap[c]?) : At H0 w0 (H.set b o') w' := by
  refine ⟨fun c q hq => ?_, by rw [hs]; exact h.size, hos.trans h.os, ht.trans h.tape, hou.trans h.output, fun c hc h0 => ?_⟩
  · by_cases e : c = b
    · subst e
      rw [Hp.set_same] at hq
      cases hq
      exact ⟨x', hx', ho'⟩
    · rw [Hp.set_other _ _ e] at hq
      obtain ⟨z, hz, hz'⟩ := h.fits c q hq
      exact ⟨z, by rw [hot c e]; exact hz, hz'⟩
  · obtain ⟨h1, e1⟩ := h.old c hc h0
    have e : c ≠ b := fun e => by subst e; rw [hb] at h1; cases h1
    exact ⟨by rw [Hp.set_other _ _ e]; exact h1, by rw [hot c e]; exact e1⟩

/-- A new block. -/
theorem At.new {H0 H : Hp} {w0 w : World} {o : AO} {x : Obj} (h : At H0 w0 H w) (ho : o.holds x) : H w.heap.size = none ∧ At H0 w0 (H.set w.heap.size o) (w.alloc x) := by
  have hn : H w.heap.size = none := by
    cases e : H w.heap.size with
    | none => rfl
    | some q =>
      obtain ⟨z, hz, _⟩ := h.fits _ _ e
      simp at hz
  refine ⟨hn, fun c q hq => ?_, by have := h.size; have e : (w.alloc x).heap.size = w.heap.size + 1 := World.size_alloc w x; omega, h.os, h.tape, h.output, fun c hc h0 => ?_⟩
  · by_cases e : c = w.heap.size
    · subst e
      rw [Hp.set_same] at hq
      cases hq
      exact ⟨x, by show (w.heap.push x)[w.heap.size]? = _; simp, ho⟩
    · rw [Hp.set_other _ _ e] at hq
      obtain ⟨z, hz, hz'⟩ := h.fits c q hq
      refine ⟨z, ?_, hz'⟩
      have hlt : c < w.heap.size := (Array.getElem?_eq_some_iff.1 hz).1
      show (w.heap.push x)[c]? = _
      rw [Array.getElem?_push, if_neg (by omega)]
      exact hz
  · obtain ⟨h1, e1⟩ := h.old c hc h0
    have e : c ≠ w.heap.size := by have := h.size; omega
    refine ⟨by rw [Hp.set_other _ _ e]; exact h1, ?_⟩
    show (w.heap.push x)[c]? = _
    rw [Array.getElem?_push, if_neg e]
    exact e1

theorem At.drew {H0 H : Hp} {w0 w : World} (h : At H0 w0 H w) : At H0 w0 H { w with drawn := w.drawn + 1 } :=
  ⟨h.fits, h.size, h.os, h.tape, h.output, h.old⟩

theorem heap_setCell_other (w : World) (a : Addr) (v : Value) (c : Nat) (h : c ≠ a.block) : (w.setCell a v).heap[c]? = w.heap[c]? := by
  simp only [World.setCell, Array.getElem?_modify]
  rw [if_neg (fun e => h e.symm)]

theorem At.put {H0 H H' : Hp} {w0 w : World} {a : Addr} {v : Value} (h : At H0 w0 H w) (hp : H.put? a v = some H') :
    (∃ u, w.cell? a = some u) ∧ w.frozen? a = false ∧ v.oneCell' = true ∧ At H0 w0 H' (w.setCell a v) := by
  unfold Hp.put? at hp
  split at hp
  · rename_i c e lo hi hb
    split at hp
    · rename_i hc
      obtain ⟨h1, h2, h3, h4⟩ := hc
      cases hp
      obtain ⟨o', ho, hh⟩ := h.fits _ _ hb
      cases hh
      refine ⟨⟨c[a.off], ?_⟩, ?_, h4, ?_⟩
      · unfold World.cell?; rw [ho]; simp [h1, h2]
      · unfold World.frozen?; rw [ho]; simp; omega
      · refine h.turn hb (x' := .cells (c.setIfInBounds a.off v) e (lo, hi)) ?_ rfl (by simp [World.setCell]) rfl rfl rfl (fun q hq => heap_setCell_other _ _ _ _ hq)
        unfold World.setCell
        refine (getElem?_modify_self ho).trans ?_
        simp [h1]
    · cases hp
  · rename_i xs e n hb
    split at hp
    · rename_i hc
      obtain ⟨h1, h2, h4⟩ := hc
      cases hp
      obtain ⟨o', ho, sp, lo, hi, rfl, hl, hf⟩ := h.fits _ _ hb
      have hlen : a.off < (xs ++ sp).length := by rw [List.length_append]; omega
      refine ⟨⟨(xs ++ sp)[a.off], ?_⟩, ?_, h4, ?_⟩
      · unfold World.cell?; rw [ho]; simp [h1]
      · unfold World.frozen?; rw [ho]; simp; omega
      · refine h.turn hb (x' := .cells ((xs.set a.off v) ++ sp).toArray e (lo, hi)) ?_ ⟨sp, lo, hi, rfl, by simpa using hl, hf⟩ (by simp [World.setCell]) rfl rfl rfl (fun q hq => heap_setCell_other _ _ _ _ hq)
        unfold World.setCell
        refine (getElem?_modify_self ho).trans ?_
        simp only [h1, Bool.false_eq_true, if_false]
        congr 2
        rw [List.setIfInBounds_toArray, List.set_append_left _ _ h2]
    · cases hp
  · cases hp

/-! ## The words of a formula -/

def BIf (c : Bool) (X Y : Prop) : Prop := match c with | true => X | false => Y
def kn : IntKind → Nat
  | .i8 => 0 | .i16 => 1 | .i32 => 2 | .i64 => 3 | .u8 => 4 | .u16 => 5 | .u32 => 6 | .u64 => 7
def DI (k : IntKind) (v : Value) (K : Int → Prop) : Prop := match v with | .int k' n => BIf (Nat.beq (kn k') (kn k)) (K n) False | _ => False
theorem DI.out {k : IntKind} {v : Value} {K : Int → Prop} (h : DI k v K) : ∃ n, v = .int k n ∧ K n := by
  cases v <;> first | exact h.elim | skip
  rename_i k' n
  cases k <;> cases k' <;> first | exact ⟨_, rfl, h⟩ | exact h.elim
theorem DI_int (k : IntKind) (n : Int) (K : Int → Prop) : DI k (.int k n) K = K n := by cases k <;> rfl
def DB (v : Value) (K : Bool → Prop) : Prop := match v with | .bool b => K b | _ => False
def DS (v : Value) (K : ByteArray → Prop) : Prop := match v with | .string s => K s | _ => False
def DP (v : Value) (K : Option Addr → Prop) : Prop := match v with | .pointer p => K p | _ => False
def DSl (v : Value) (K : Option Addr → Nat → Nat → Prop) : Prop := match v with | .slice a n c => K a n c | _ => False
def DM (v : Value) (K : Option Nat → Prop) : Prop := match v with | .map r => K r | _ => False

def Ld (H : Hp) (a : Addr) (K : Value → Prop) : Prop := match H.cell? a with | some v => K v | none => False
def St (H : Hp) (a : Addr) (v : Value) (K : Hp → Prop) : Prop := match H.put? a v with | some H' => K H' | none => False
def Nw (H : Hp) (o : AO) (K : Nat → Hp → Prop) : Prop := ∀ b, H b = none → K b (H.set b o)
def NN (p : Option Addr) (K : Addr → Prop) : Prop := match p with | some a => K a | none => False

def Sh (H : Hp) (r : Nat) (K : Option (TypeId × Nat) → Prop) : Prop :=
  match H r with
  | some (.obj (.cells c e _)) => K (some (e, c.size))
  | some (.obj _) => K none
  | some (.row _ e n) => K (some (e, n))
  | none => False

def GetO (H : Hp) (r : Nat) (K : Obj → Prop) : Prop :=
  match H r with
  | some (.obj (.cells ..)) => False
  | some (.obj o) => K o
  | _ => False

def SetO (H : Hp) (r : Nat) (o : Obj) (K : Hp → Prop) : Prop :=
  match H r with
  | some (.obj (.cells ..)) => False
  | some (.obj _) => K (H.set r (.obj o))
  | _ => False

def Fr (H : Hp) (a : Addr) (K : Bool → Prop) : Prop :=
  match H a.block with
  | some (.obj (.cells _ _ (lo, hi))) => K (lo ≤ a.off && a.off < hi)
  | some (.row _ _ n) => a.off < n ∧ K false
  | _ => False

/-- A mark behind the end of a block. -/
def Fz (H : Hp) (a : Addr) (n : Nat) (K : Hp → Prop) : Prop :=
  n = 1 ∧ match H a.block with
  | some (.row _ _ m) => a.off = m ∧ K H
  | _ => False

theorem Fits.shape {H : Hp} {w : World} {r : Nat} {K : Option (TypeId × Nat) → Prop} (h : Fits H w) (hk : Sh H r K) : K (w.shape? r) := by
  unfold Sh at hk
  split at hk
  · rename_i c e f hb
    obtain ⟨o', ho, hh⟩ := h _ _ hb
    cases hh
    unfold World.shape?; rw [ho]; exact hk
  · rename_i o hno hb
    obtain ⟨o', ho, hh⟩ := h _ _ hb
    cases hh
    unfold World.shape?; rw [ho]
    split
    · rename_i hc; cases hc; exact (hno _ _ _ rfl).elim
    · exact hk
  · rename_i xs e n hb
    obtain ⟨o', ho, sp, lo, hi, rfl, hl, _⟩ := h _ _ hb
    unfold World.shape?; rw [ho]; simpa [hl] using hk
  · exact hk.elim

theorem Fits.frozen {H : Hp} {w : World} {a : Addr} {K : Bool → Prop} (h : Fits H w) (hk : Fr H a K) : K (w.frozen? a) := by
  unfold Fr at hk
  split at hk
  · rename_i c e lo hi hb
    obtain ⟨o', ho, hh⟩ := h _ _ hb
    cases hh
    unfold World.frozen?; rw [ho]; exact hk
  · rename_i xs e n hb
    obtain ⟨o', ho, sp, lo, hi, rfl, hl, hf⟩ := h _ _ hb
    unfold World.frozen?; rw [ho]
    obtain ⟨h1, h2⟩ := hk
    have : (decide (lo ≤ a.off) && decide (a.off < hi)) = false := by simp; omega
    simp only [this]; exact h2
  · exact hk.elim

theorem Sh.fix {H : Hp} {r : Nat} {K : Option (TypeId × Nat) → Prop} (hk : Sh H r K) : ∃ s, K s ∧ ∀ w, Fits H w → w.shape? r = s := by
  by_cases h : ∃ s, ∀ w, Fits H w → w.shape? r = s
  · obtain ⟨s, hs⟩ := h
    by_cases hw : ∃ w, Fits H w
    · obtain ⟨w, hw⟩ := hw
      exact ⟨s, hs w hw ▸ hw.shape hk, hs⟩
    · unfold Sh at hk
      split at hk
      · exact ⟨_, hk, fun w h' => (hw ⟨w, h'⟩).elim⟩
      · exact ⟨_, hk, fun w h' => (hw ⟨w, h'⟩).elim⟩
      · exact ⟨_, hk, fun w h' => (hw ⟨w, h'⟩).elim⟩
      · exact hk.elim
  · exfalso
    unfold Sh at hk
    split at hk
    · rename_i c e f hb
      exact h ⟨some (e, c.size), fun w hw => hw.shape (K := fun s => s = some (e, c.size)) (by unfold Sh; rw [hb])⟩
    · rename_i o hno hb
      refine h ⟨none, fun w hw => hw.shape (K := fun s => s = none) (by unfold Sh; rw [hb]; split <;> simp_all)⟩
    · rename_i xs e n hb
      exact h ⟨some (e, n), fun w hw => hw.shape (K := fun s => s = some (e, n)) (by unfold Sh; rw [hb])⟩
    · exact hk

theorem Fr.fix {H : Hp} {a : Addr} {K : Bool → Prop} (hk : Fr H a K) : ∃ s, K s ∧ ∀ w, Fits H w → w.frozen? a = s := by
  unfold Fr at hk
  split at hk
  · rename_i c e lo hi hb
    exact ⟨_, hk, fun w hw => hw.frozen (K := fun s => s = (decide (lo ≤ a.off) && decide (a.off < hi))) (by unfold Fr; rw [hb])⟩
  · rename_i xs e n hb
    exact ⟨false, hk.2, fun w hw => hw.frozen (K := fun s => s = false) (by unfold Fr; rw [hb]; exact ⟨hk.1, rfl⟩)⟩
  · exact hk.elim

/-- What a read-only run comes to. -/
def rv {α : Type} (P : Program) : Sem α → Hp → (α → Prop) → Prop
  | .pure a, _, K => K a
  | .load _ a k, H, K => Ld H a fun v => rv P (k v) H K
  | .shape r k, H, K => Sh H r fun s => rv P (k s) H K
  | .frozen a k, H, K => Fr H a fun b => rv P (k b) H K
  | .getObj r k, H, K => GetO H r fun o => rv P (k o) H K
  | .program k, H, K => rv P (k P) H K
  | .mark _ k, H, K => rv P k H K
  | _, _, _ => False

/-- What a run comes to. -/
def ef {α : Type} (P : Program) : Sem α → Hp → (α → Hp → Prop) → Prop
  | .pure a, H, K => K a H
  | .load _ a k, H, K => Ld H a fun v => ef P (k v) H K
  | .store _ a v k, H, K => St H a v fun H' => ef P k H' K
  | .new o k, H, K => Nw H (.obj o) fun b H' => ef P (k b) H' K
  | .shape r k, H, K => Sh H r fun s => ef P (k s) H K
  | .freeze a n k, H, K => Fz H a n fun H' => ef P k H' K
  | .frozen a k, H, K => Fr H a fun b => ef P (k b) H K
  | .getObj r k, H, K => GetO H r fun o => ef P (k o) H K
  | .setObj r o k, H, K => SetO H r o fun H' => ef P k H' K
  | .program k, H, K => ef P (k P) H K
  | .mark _ k, H, K => ef P k H K
  | _, _, _ => False

theorem rv_sound {α : Type} {P : Program} (s : Sem α) : ∀ {H : Hp} {K : α → Prop}, rv P s H K → ∃ a, K a ∧ ∀ w, Fits H w → s.run P w = .ok a w := by
  induction s with
  | pure a => intro H K h; exact ⟨a, h, fun _ _ => rfl⟩
  | load m a k ih =>
    intro H K h
    unfold rv Ld at h
    split at h
    · rename_i v hv
      obtain ⟨b, hk, hr⟩ := ih v h
      exact ⟨b, hk, fun w hw => by simp only [Sem.run, hw.cell? hv]; exact hr w hw⟩
    · exact h.elim
  | shape r k ih =>
    intro H K h
    unfold rv at h
    obtain ⟨s, hs, he⟩ := Sh.fix h
    obtain ⟨b, hk, hr⟩ := ih s hs
    exact ⟨b, hk, fun w hw => by simp only [Sem.run, he w hw]; exact hr w hw⟩
  | frozen a k ih =>
    intro H K h
    unfold rv at h
    obtain ⟨s, hs, he⟩ := Fr.fix h
    obtain ⟨b, hk, hr⟩ := ih s hs
    exact ⟨b, hk, fun w hw => by simp only [Sem.run, he w hw]; exact hr w hw⟩
  | getObj r k ih =>
    intro H K h
    unfold rv GetO at h
    split at h
    · exact h.elim
    · rename_i o hno hb
      obtain ⟨b, hk, hr⟩ := ih _ h
      refine ⟨b, hk, fun w hw => ?_⟩
      obtain ⟨o', ho, hh⟩ := hw _ _ hb
      cases hh
      cases o <;> first | (exact (hno _ _ _ rfl).elim) | (simp only [Sem.run, ho]; exact hr w hw)
    · exact h.elim
  | program k ih =>
    intro H K h
    obtain ⟨b, hk, hr⟩ := ih _ h
    exact ⟨b, hk, hr⟩
  | mark m k ih =>
    intro H K h
    obtain ⟨b, hk, hr⟩ := ih h
    exact ⟨b, hk, hr⟩
  | store m a v k ih => intro H K h; exact h.elim
  | new o k ih => intro H K h; exact h.elim
  | freeze a n k ih => intro H K h; exact h.elim
  | setObj r o k ih => intro H K h; exact h.elim
  | choose q k ih => intro H K h; exact h.elim
  | sys c k ih => intro H K h; exact h.elim
  | halt x => intro H K h; exact h.elim

theorem ef_sound {α : Type} {P : Program} (s : Sem α) : ∀ {H0 H : Hp} {w0 w : World} {K : α → Hp → Prop}, ef P s H K → At H0 w0 H w → ∃ a H' w', s.run P w = .ok a w' ∧ K a H' ∧ At H0 w0 H' w' := by
  induction s with
  | pure a => intro H0 H w0 w K h hA; exact ⟨a, H, w, rfl, h, hA⟩
  | load m a k ih =>
    intro H0 H w0 w K h hA
    unfold ef Ld at h
    split at h
    · rename_i v hv
      obtain ⟨b, H', w', hr, hk⟩ := ih v h hA
      refine ⟨b, H', w', ?_, hk⟩
      simp only [Sem.run, hA.fits.cell? hv]; exact hr
    · exact h.elim
  | store m a v k ih =>
    intro H0 H w0 w K h hA
    unfold ef St at h
    split at h
    · rename_i H1 hp
      obtain ⟨⟨u, hu⟩, hf, h1, hA'⟩ := hA.put hp
      obtain ⟨b, H', w', hr, hk⟩ := ih h hA'
      refine ⟨b, H', w', ?_, hk⟩
      cases v <;> simp only [Value.oneCell', Bool.false_eq_true] at h1 <;> simp only [Sem.run, hu, hf] <;> exact hr
    · exact h.elim
  | new o k ih =>
    intro H0 H w0 w K h hA
    unfold ef Nw at h
    obtain ⟨hn, hA'⟩ := hA.new (o := .obj o) (x := o) rfl
    obtain ⟨b, H', w', hr, hk⟩ := ih _ (h _ hn) hA'
    exact ⟨b, H', w', hr, hk⟩
  | shape r k ih =>
    intro H0 H w0 w K h hA
    unfold ef at h
    obtain ⟨b, H', w', hr, hk⟩ := ih _ (hA.fits.shape h) hA
    exact ⟨b, H', w', hr, hk⟩
  | freeze a n k ih =>
    intro H0 H w0 w K h hA
    unfold ef Fz at h
    obtain ⟨rfl, h⟩ := h
    split at h
    · rename_i xs e m hb
      obtain ⟨hoff, h⟩ := h
      obtain ⟨o', ho, sp, lo, hi, rfl, hl, hf⟩ := hA.fits _ _ hb
      have hA' : At H0 w0 H (w.freeze a 1) := by
        have := hA.turn (w' := w.freeze a 1) hb (o' := .row xs e m) (x' := .cells (xs ++ sp).toArray e (if lo == hi then (a.off, a.off + 1) else (min lo a.off, max hi (a.off + 1)))) ?_ ?_ ?_ rfl rfl rfl ?_
        · have hH : H.set a.block (.row xs e m) = H := by
            funext c; by_cases e : c = a.block
            · subst e; rw [Hp.set_same, hb]
            · rw [Hp.set_other _ _ e]
          rwa [hH] at this
        · simp only [World.freeze, Nat.one_ne_zero, if_false]
          refine (getElem?_modify_self ho).trans ?_
          rfl
        · by_cases e : lo = hi
          · subst e; exact ⟨sp, a.off, a.off + 1, by simp, hl, .inr (by omega)⟩
          · have : (lo == hi) = false := by simpa using e
            refine ⟨sp, min lo a.off, max hi (a.off + 1), by simp [this], hl, .inr ?_⟩
            have := hf.resolve_left e; omega
        · simp [World.freeze]
        · intro c hc; simp only [World.freeze, Nat.one_ne_zero, if_false]; rw [Array.getElem?_modify, if_neg (fun e => hc e.symm)]
      obtain ⟨b, H', w', hr, hk⟩ := ih h hA'
      exact ⟨b, H', w', hr, hk⟩
    · exact h.elim
  | frozen a k ih =>
    intro H0 H w0 w K h hA
    unfold ef at h
    obtain ⟨b, H', w', hr, hk⟩ := ih _ (hA.fits.frozen h) hA
    exact ⟨b, H', w', hr, hk⟩
  | getObj r k ih =>
    intro H0 H w0 w K h hA
    unfold ef GetO at h
    split at h
    · exact h.elim
    · rename_i o hno hb
      obtain ⟨o', ho, hh⟩ := hA.fits _ _ hb
      cases hh
      obtain ⟨b, H', w', hr, hk⟩ := ih _ h hA
      refine ⟨b, H', w', ?_, hk⟩
      cases o <;> first | (exact (hno _ _ _ rfl).elim) | (simp only [Sem.run, ho]; exact hr)
    · exact h.elim
  | setObj r o k ih =>
    intro H0 H w0 w K h hA
    unfold ef SetO at h
    split at h
    · exact h.elim
    · rename_i q hno hb
      obtain ⟨o', ho, hh⟩ := hA.fits _ _ hb
      cases hh
      have hlt : r < w.heap.size := (Array.getElem?_eq_some_iff.1 ho).1
      have hA' : At H0 w0 (H.set r (.obj o)) { w with heap := w.heap.setIfInBounds r o } :=
        hA.turn hb (x' := o) (by simp [hlt]) rfl (by simp) rfl rfl rfl (fun c hc => by simp [Array.getElem?_setIfInBounds_ne (Ne.symm hc)])
      obtain ⟨b, H', w', hr, hk⟩ := ih h hA'
      refine ⟨b, H', w', ?_, hk⟩
      cases q <;> first | (exact (hno _ _ _ rfl).elim) | (simp only [Sem.run, ho]; exact hr)
    · exact h.elim
  | choose q k ih => intro H0 H w0 w K h _; exact h.elim
  | sys c k ih => intro H0 H w0 w K h _; exact h.elim
  | program k ih =>
    intro H0 H w0 w K h hA
    unfold ef at h
    obtain ⟨b, H', w', hr, hk⟩ := ih _ h hA
    exact ⟨b, H', w', hr, hk⟩
  | mark m k ih =>
    intro H0 H w0 w K h hA
    unfold ef at h
    obtain ⟨b, H', w', hr, hk⟩ := ih h hA
    exact ⟨b, H', w', hr, hk⟩
  | halt x => intro H0 H w0 w K h _; exact h.elim

end Go.Hw
