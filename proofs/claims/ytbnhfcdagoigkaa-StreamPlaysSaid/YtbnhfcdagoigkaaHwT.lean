/- The frame of the proofs: a region that draws its order, whose operations but the last ones only read: the reading ones in a class of worlds, then the last ones in their order. (Derived/StillTail.lean's argument, over a class of worlds.) -/
import Derived.Test.YtbnhfcdagoigkaaHwD
import Derived.StillTail
set_option maxRecDepth 100000
set_option linter.unusedSimpArgs false
set_option linter.unusedVariables false
set_option linter.unnecessarySimpa false
set_option linter.unusedSectionVars false
namespace Go.Hw
open Go

section
variable {P : Program} {ops : Array Oper} {md : Region.Mode} {C : World → Prop}

def wpAnyLQ (P : Program) (md : Region.Mode) (ops : Array Oper) (C : World → Prop) (n : Nat) (L : Array Bool → Act → Prop) : Nat → Array Bool → Act → Prop
  | 0, listed, a => L listed a
  | f + 1, listed, a =>
    Region.ready md ops listed ≠ [] ∧ ∀ i ∈ Region.ready md ops listed, i < n ∧ qOp P ops C i (wpAnyLQ P md ops C n L f (listed.setIfInBounds i true)) a

theorem wpAny_of_headQ {n g : Nat} {L : Array Bool → Act → Prop} {Q' : Exit → Act → World → Prop} (hL : ∀ listed a w, C w → L listed a → wpAny P md ops Q' g listed a w) :
    ∀ (f : Nat) (listed : Array Bool) (a : Act) (w : World), C w → wpAnyLQ P md ops C n L f listed a → wpAny P md ops Q' (f + g) listed a w
  | 0, listed, a, w, hw, h => by rw [Nat.zero_add]; exact hL _ _ _ hw h
  | f + 1, listed, a, w, hw, h => by
    rw [show f + 1 + g = (f + g) + 1 by omega]
    exact ⟨fun h0 => absurd h0 h.1, fun i hi => wpOp_of_qOp hw (fun a' w' hw' h' => wpAny_of_headQ hL f _ a' w' hw' h') (h.2 i hi).2⟩

/-- Each operation of the head but those of 'pre' is waited for by a later one up to the tail's first. -/
def sinkB' (md : Region.Mode) (ops : Array Oper) (pre : List Nat) (n : Nat) : Bool :=
  (List.range n).all fun i => pre.contains i || (List.range (n + 1)).any fun j => decide (i < j) && Region.waitsFor md ops j i

structure PreInv (md : Region.Mode) (ops : Array Oper) (pre : List Nat) (n : Nat) (listed : Array Bool) : Prop where
  inv : HeadInv md ops n listed
  pre : ∀ i ∈ pre, listed.getD i false = true

theorem PreInv.set {pre : List Nat} {n i : Nat} {listed : Array Bool} (h : PreInv md ops pre n listed) (hi : i ∈ Region.ready md ops listed) (hin : i < n) : PreInv md ops pre n (listed.setIfInBounds i true) :=
  ⟨h.inv.set hi hin, fun j hj => getD_set_true (h.pre j hj)⟩

theorem tail_waits' {pre : List Nat} {n : Nat} {listed : Array Bool} (hs : sinkB' md ops pre n = true) (hc : Region.chainB md ops n = true) (hn : n < ops.size) (inv : PreInv md ops pre n listed) :
    ∀ (d i : Nat), n - i = d → i < n → listed.getD i true = false → ∀ t, n ≤ t → t ∉ Region.ready md ops listed := by
  intro d
  induction d using Nat.strongRecOn with
  | _ d ih =>
    intro i hd hi hun t ht hr
    obtain ⟨_, ot, hot, hall⟩ := mem_ready.1 hr
    have htlt : t < ops.size := (Array.getElem?_eq_some_iff.1 hot).1
    by_cases htn : t = n
    · subst htn
      have h1 := List.all_eq_true.1 hs i (List.mem_range.2 hi)
      rw [Bool.or_eq_true] at h1
      rcases h1 with h1 | h1
      · have := inv.pre i (by simpa using h1)
        rw [getD_both hun] at this; cases this
      obtain ⟨j, hj, hj2⟩ := List.any_eq_true.1 h1
      simp only [Bool.and_eq_true, decide_eq_true_eq] at hj2
      obtain ⟨oj, hoj, e, he, hb, hon⟩ := Region.waitsFor_spec hj2.2
      have hjle : j ≤ t := by have := List.mem_range.1 hj; omega
      by_cases hjt : j = t
      · subst hjt
        have : oj = ot := Option.some.inj (hoj.symm.trans hot)
        subst this
        have h2 := hall e he hb
        rw [hon, getD_both hun] at h2
        cases h2
      · cases hl : listed.getD j false with
        | true =>
          have h2 := inv.inv.closed j oj hoj hl e he hb
          rw [hon, getD_both hun] at h2
          cases h2
        | false =>
          have hjs : j < listed.size := by rw [inv.inv.size]; omega
          exact ih (t - j) (by omega) j rfl (by omega) (getD_in hjs hl) t (Nat.le_refl _) hr
    · have h1 := List.all_eq_true.1 hc t (List.mem_range.2 htlt)
      simp only [Bool.or_eq_true, decide_eq_true_eq] at h1
      rcases h1 with h1 | h1
      · omega
      · obtain ⟨o', ho', e, he, hb, hon⟩ := Region.waitsFor_spec h1
        have : o' = ot := Option.some.inj (ho'.symm.trans hot)
        subst this
        have h2 := hall e he hb
        rw [hon, getD_both (inv.inv.tail (t - 1) (by omega) (by omega))] at h2
        cases h2

theorem wpAnyLQ_first {n i : Nat} {oi : Oper} {v : Value} {L : Array Bool → Act → Prop} (hi : ops[i]? = some oi) (hsel : ∀ (j : Nat) (o : Oper) cs b, ops[j]? = some o → o.op ≠ .select cs b)
    {pre : List Nat} (hs : sinkB' md ops pre n = true) (hc : Region.chainB md ops n = true) (hn : n < ops.size) (hin : i < n)
    (hdone : ∀ listed a, L listed a → ∀ j ∈ Region.ready md ops listed, n ≤ j) :
    ∀ (f : Nat) (listed : Array Bool) (a : Act), PreInv md ops pre n listed →
      (∀ j oj, ops[j]? = some oj → j ≠ i → listed.getD j true = false → (∀ e ∈ oj.after, Region.binds md e = true → e.on ≠ i) → oi.apart ops oj = true) →
      i ∈ Region.ready md ops listed → YieldsIn P ops C oi v a →
      wpAnyLQ P md ops C n L f (listed.setIfInBounds i true) (a.put oi.dst v) → wpAnyLQ P md ops C n L (f + 1) listed a := by
  intro f
  induction f with
  | zero =>
    intro listed a inv _ hr hy H
    have hun := (mem_ready.1 hr).1
    refine ⟨fun h => (by rw [h] at hr; cases hr), fun j hj => ?_⟩
    have hjn : j < n := by
      rcases Nat.lt_or_ge j n with h | h
      · exact h
      · exact absurd hj (tail_waits' hs hc hn inv _ i rfl hin hun j h)
    refine ⟨hjn, ?_⟩
    by_cases hji : j = i
    · subst hji; exact hy.qOp hi H
    · have := hdone _ _ H j (ready_mono hj hji)
      omega
  | succ f ih =>
    intro listed a inv hfree hr hy H
    have hun := (mem_ready.1 hr).1
    refine ⟨fun h => (by rw [h] at hr; cases hr), fun j hj => ?_⟩
    have hjn : j < n := by
      rcases Nat.lt_or_ge j n with h | h
      · exact h
      · exact absurd hj (tail_waits' hs hc hn inv _ i rfl hin hun j h)
    refine ⟨hjn, ?_⟩
    by_cases hji : j = i
    · subst hji; exact hy.qOp hi H
    · have h1 := (H.2 j (ready_mono hj hji)).2
      obtain ⟨hjun, oj, hoj, hall⟩ := mem_ready.1 hj
      have hnot : ∀ e ∈ oj.after, Region.binds md e = true → e.on ≠ i := fun e he hb heq => by
        have h1 := hall e he hb
        rw [heq, getD_both hun] at h1
        cases h1
      have h2 := qOp_put hoj (hfree j oj hoj hji hjun hnot) (fun cs b => hsel i oi cs b hi) (fun cs b => hsel j oj cs b hoj) hy h1
      have hfree' : ∀ k ok, ops[k]? = some ok → k ≠ i → (listed.setIfInBounds j true).getD k true = false →
          (∀ e ∈ ok.after, Region.binds md e = true → e.on ≠ i) → oi.apart ops ok = true := fun k ok hk hki hun hno => by
        refine hfree k ok hk hki ?_ hno
        by_cases hjk : j = k
        · subst hjk; exact hjun
        · rw [getD_set_ne true hjk] at hun; exact hun
      refine qOp_mono (fun a' h3 => ih (listed.setIfInBounds j true) a' (inv.set hj hjn) hfree' (ready_mono hr (Ne.symm hji)) h3.1 ?_) h2
      rw [Array.setIfInBounds_comm _ _ hji]
      exact h3.2

def headB (md : Region.Mode) (ops : Array Oper) (n g : Nat) : List Nat → Array Bool → Bool
  | [], listed => Region.seqB md ops g n listed
  | i :: r, listed => Nat.blt i n && (Region.ready md ops listed).contains i && Region.free md ops listed i && headB md ops n g r (listed.setIfInBounds i true)

theorem wpAnyLQ_lex {n g : Nat} {Lq : Act → Prop} {pre : List Nat} (hsel : Region.noSelect ops = true) (hs : sinkB' md ops pre n = true) (hc : Region.chainB md ops n = true) (hn : n < ops.size) :
    ∀ (is : List Nat) (l : List Oper) (listed : Array Bool) (a : Act), is.map (fun i => ops[i]?) = l.map some → PreInv md ops pre n listed →
    headB md ops n g is listed = true → wpQuiet P ops C Lq l a →
    wpAnyLQ P md ops C n (fun listed' a' => Region.seqB md ops g n listed' = true ∧ Lq a') is.length listed a
  | [], [], listed, a, _, _, hB, h => ⟨hB, h⟩
  | [], _ :: _, _, _, hl, _, _, _ => by simp at hl
  | _ :: _, [], _, _, hl, _, _, _ => by simp at hl
  | i :: is, o :: l, listed, a, hl, inv, hB, h => by
    simp only [List.map_cons, List.cons.injEq] at hl
    obtain ⟨h0, hl⟩ := hl
    simp only [headB, Bool.and_eq_true] at hB
    obtain ⟨⟨⟨hin, hr⟩, hf⟩, hB'⟩ := hB
    have hin' : i < n := Nat.le_of_ble_eq_true hin
    have hr' : i ∈ Region.ready md ops listed := by simpa using hr
    have hst : qOp P ops C i (wpQuiet P ops C Lq l) a := by unfold qOp; simp only [h0]; exact h
    obtain ⟨v, hy, hK⟩ := yieldsIn_of_qOp h0 hst
    exact wpAnyLQ_first h0 (Region.noSelect_spec hsel) hs hc hn hin' (fun listed' a' hL => seqB_ready hL.1) is.length listed a inv (Region.free_spec h0 hf) hr' hy
      (wpAnyLQ_lex hsel hs hc hn is l _ _ hl (inv.set hr' hin') hB' hK)

def isMove (ops : Array Oper) (i : Nat) : Bool := match ops[i]? with | some o => (match o.op, o.guard with | .move _, none => true | _, _ => false) | none => false

def preB (md : Region.Mode) (ops : Array Oper) (n : Nat) : List Nat → Array Bool → Bool
  | [], _ => true
  | i :: r, listed => isMove ops i && Nat.blt i n && (Region.ready md ops listed).contains i && Region.free md ops listed i && preB md ops n r (listed.setIfInBounds i true)

def preListed : List Nat → Array Bool → Array Bool
  | [], listed => listed
  | i :: r, listed => preListed r (listed.setIfInBounds i true)

/-- The frame behind moves. -/
def preAct (ops : Array Oper) : List Nat → Act → Act
  | [], a => a
  | i :: r, a => preAct ops r (match ops[i]? with | some o => (match o.op with | .move x => a.put o.dst (a.eval x) | _ => a) | none => a)

theorem wpAny_pre {Q : Exit → Act → World → Prop} {n : Nat} (hQ : ∀ c a w, ¬ Q (.panic c) a w) (hsel : Region.noSelect ops = true) : ∀ (is : List Nat) (f : Nat) (listed : Array Bool) (a : Act) (w : World), preB md ops n is listed = true →
    wpAny P md ops Q f (preListed is listed) (preAct ops is a) w → wpAny P md ops Q (is.length + f) listed a w
  | [], f, listed, a, w, _, h => by simpa [preListed, preAct] using h
  | i :: is, f, listed, a, w, hB, h => by
    simp only [preB, Bool.and_eq_true] at hB
    obtain ⟨⟨⟨⟨hm, _⟩, hr⟩, hf⟩, hB'⟩ := hB
    have hr' : i ∈ Region.ready md ops listed := by simpa using hr
    unfold isMove at hm
    split at hm
    · rename_i o ho
      split at hm
      · rename_i x hop hg
        rw [show (i :: is).length + f = (is.length + f) + 1 by simp; omega]
        have hy : Yields P ops o (a.eval x) a := .inl ⟨by unfold Region.wanted; rw [hg], fun w => by simp [execOp, hop]⟩
        refine wpAny_first ho (Region.noSelect_spec hsel) (fun c a w h => (hQ c _ w h).elim) _ listed a w (Region.free_spec ho hf) hr' hy ?_
        have h' : wpAny P md ops Q f (preListed is (listed.setIfInBounds i true)) (preAct ops is (a.put o.dst (a.eval x))) w := by
          simpa [preListed, preAct, ho, hop] using h
        exact wpAny_pre hQ hsel is f _ _ w hB' h'
      · cases hm
    · cases hm

theorem preInv {n : Nat} : ∀ (is pre : List Nat) (listed : Array Bool), preB md ops n is listed = true → PreInv md ops pre n listed → PreInv md ops (pre ++ is) n (preListed is listed)
  | [], pre, listed, _, h => by simpa [preListed] using h
  | i :: is, pre, listed, hB, h => by
    simp only [preB, Bool.and_eq_true] at hB
    obtain ⟨⟨⟨⟨hm, hlt⟩, hr⟩, hf⟩, hB'⟩ := hB
    have hr' : i ∈ Region.ready md ops listed := by simpa using hr
    have hin : i < n := Nat.le_of_ble_eq_true hlt
    have h2 := h.set hr' hin
    have h3 : PreInv md ops (pre ++ [i]) n (listed.setIfInBounds i true) := ⟨h2.inv, fun j hj => by
      rcases List.mem_append.1 hj with hj | hj
      · exact h2.pre j hj
      · obtain rfl : j = i := by simpa using hj
        have : j < listed.size := by
          rw [h.inv.size]
          obtain ⟨_, o, ho, _⟩ := mem_ready.1 hr'
          exact (Array.getElem?_eq_some_iff.1 ho).1
        simp [this]⟩
    have := preInv is (pre ++ [i]) _ hB' h3
    simpa [preListed] using this

/-- Moves first, then what only reads, then the rest, one behind the other. -/
def tailB (ops : Array Oper) (pre head : List Nat) (n : Nat) : Bool :=
  Region.noSelect ops && Nat.blt n ops.size && Nat.beq (pre.length + head.length) n && sinkB' .any ops pre n && Region.chainB .any ops n && preB .any ops n pre (Array.replicate ops.size false) &&
    headB .any ops n (ops.size - n) head (preListed pre (Array.replicate ops.size false))

theorem wp_region_quiet_tail {id : Nat} {Q : Exit → Act → World → Prop} {a : Act} {w : World} (pre head : List Nat) (hl : List Oper) (n : Nat) (hQ : ∀ c a w, ¬ Q (.panic c) a w) (hm : P.follows .mixedOrders = true) (hB : tailB ops pre head n = true) (hC : C { w with drawn := w.drawn + 1 })
    (hh : head.map (fun i => ops[i]?) = hl.map some)
    (h : wpQuiet P ops C (fun a' => ∀ w', C w' → wpList P ops Q (ops.toList.drop n) a' w') hl (preAct ops pre a)) : (Code.region id ops true).wp P Q a w := by
  simp only [tailB, Bool.and_eq_true] at hB
  obtain ⟨⟨⟨⟨⟨⟨hsel, hn⟩, hlen⟩, hs⟩, hc⟩, hpre⟩, hlex⟩ := hB
  have hn : n < ops.size := Nat.le_of_ble_eq_true hn
  have hlen : pre.length + head.length = n := Nat.eq_of_beq_eq_true hlen
  have hdl : (ops.toList.drop n).length = ops.size - n := by simp
  have inv0 : PreInv .any ops [] n (Array.replicate ops.size false) :=
    ⟨⟨by simp, fun j oj _ hl => (by rw [getD_replicate_false] at hl; cases hl), fun t _ ht => getD_in (by simpa using ht) (getD_replicate_false _ _)⟩, fun _ h => by cases h⟩
  have inv1 := preInv pre [] _ hpre inv0
  rw [List.nil_append] at inv1
  have H := wpAnyLQ_lex (md := .any) (g := ops.size - n) hsel hs hc hn head hl _ _ hh inv1 hlex h
  refine wp_region_any hm ?_
  have := wpAny_of_headQ (Q' := Q) (g := ops.size - n) (fun listed a' w' hw' hL => by
    have := wpAny_of_seq (md := .any) (Q' := Q) (ops.toList.drop n) n listed a' w' (fun j => by simp [List.getElem?_drop]) (by rw [hdl]; exact hL.1) (hL.2 w' hw')
    rwa [hdl] at this) _ _ _ _ hC H
  have h2 := wpAny_pre (P := P) (Q := Q) hQ hsel pre _ _ a _ hpre this
  rw [show pre.length + (head.length + (ops.size - n)) = ops.size by omega] at h2
  exact h2
end
end Go.Hw
