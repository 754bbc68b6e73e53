import Derived.WalkKit
import Derived.ProofKit
import Derived.OpenShut
import Derived.ShutString
import Derived.ChangeOld
import Derived.Below
import Derived.SizedLaws
import Derived.Lib.LaidTab
import Derived.Stop.LaidErr
import Derived.Test.YtgkdkemhiglpdaaDoorProg
import Derived.LaidEql
import Derived.MapKept
import Derived.Test.YtgkdkemhiglpdaaDoorPkTurnCosts1
section
/-! HwR -/
/- The frame of the proofs: from a law's contract over a view of memory to the given row; arguments that came in, opened. -/
set_option maxRecDepth 100000
set_option linter.unusedSimpArgs false
set_option linter.unusedVariables false
set_option linter.unnecessarySimpa false
set_option linter.unusedSectionVars false
namespace Go.Hw
open Go Go.RowKit Go.ChangeShapes Go.WideShapes Go.ChangeAt

theorem trodAll_below {H : Type} {enc : TypeId × Value → H} {P : Program} (hl : laidOutB P = true) {W W' : World} (hb : Below W.heap.size W W') :
    ∀ {ts : List TypeId} {vs : List Value} {ds : List (DataW H)} {ps : List MemPlace}, (ts.all fun t => P.readableRec t && decide (t < P.types.size)) = true → (∀ x ∈ ps, x.block < W.heap.size) →
      DataW.TrodAll enc P W 0 (fun _ => true) true ts vs ds ps → DataW.TrodAll enc P W' 0 (fun b => decide (b < W.heap.size)) true ts vs ds ps
  | [], [], [], _, _, _, h => h
  | [], _ :: _, _, _, _, _, h => h.elim
  | [], [], _ :: _, _, _, _, h => h.elim
  | _ :: _, [], _, _, _, _, h => h.elim
  | _ :: _, _ :: _, [], _, _, _, h => h.elim
  | t :: ts, v :: vs, d :: ds, ps, hr, hlt, h => by
    obtain ⟨p, q, h1, h2, rfl⟩ := h
    simp only [List.all_cons, Bool.and_eq_true, decide_eq_true_eq] at hr
    exact ⟨p, q, Below.trod hl hr.1.1 hr.1.2 h1 hb (fun x hx => hlt x (by simp [hx])), trodAll_below hl hb hr.2 (fun x hx => hlt x (by simp [hx])) h2, rfl⟩

/-- Each named variable's type can be read and is a row of the table. -/
def varsRowed' (P : Program) (ns : List String) : Bool :=
  ns.all fun n => match P.globalNamed n with
    | some g => match P.globals[g]? with | some gl => P.readableRec gl.type && decide (gl.type < P.types.size) | none => true
    | none => true

theorem trodVars_below {H : Type} {enc : TypeId × Value → H} {P : Program} (hl : laidOutB P = true) {W W' : World} (hb : Below W.heap.size W W') :
    ∀ {ns : List String} {gs : List (DataW H)} {ps : List MemPlace}, varsRowed' P ns = true → DataW.TrodVars enc P W (fun _ => true) ns gs ps → DataW.TrodVars enc P W' (fun b => decide (b < W.heap.size)) ns gs ps
  | [], [], _, _, h => h
  | [], _ :: _, _, _, h => h.elim
  | _ :: _, [], _, _, h => h.elim
  | n :: ns, d :: ds, ps, hv, h => by
    have hlt := h.lt
    obtain ⟨g, t, cs, fuel, p, q, h1, h2, h3, h4, hs, rfl⟩ := h
    simp only [varsRowed', List.all_cons, Bool.and_eq_true] at hv
    obtain ⟨gl, hg, rfl⟩ := Option.map_eq_some_iff.1 h2
    have ht := hv.1
    rw [h1] at ht
    simp only [hg, Bool.and_eq_true, decide_eq_true_eq] at ht
    have hp : ∀ x ∈ p, x.block < W.heap.size := fun x hx => hlt x (by simp [hx])
    have h3' : W'.var? P n = some cs := by
      unfold World.var? at h3 ⊢
      rw [h1] at h3 ⊢
      simp only [Option.bind_some] at h3 ⊢
      have hgs : g < W.heap.size := by
        cases hh : W.heap[g]? with
        | none => rw [hh] at h3; cases h3
        | some o => exact (Array.getElem?_eq_some_iff.1 hh).1
      rw [hb.block g hgs]; exact h3
    obtain ⟨fuel', h4'⟩ := Below.trod hl ht.1 ht.2 (v := .agg cs) ⟨fuel, h4⟩ hb hp
    exact ⟨g, gl.type, cs, fuel', p, q, h1, h2, h3', h4',
      trodVars_below hl hb (by simpa [varsRowed'] using hv.2) hs, rfl⟩

/-- A law's contract gives what its row asks behind the call. -/
theorem law_post {H : Type} {enc : TypeId × Value → H} {P : Program} {fn : Func} {s : ChangeSpec} {f : FuncId} {W : World} {args : Array Value} {ds gs : List (DataW H)} {before : List MemPlace} {tb : TypeId}
    (hl : laidOutB P = true) (hrt : fn.resultTypes = #[tb]) (hb : P.underlying tb = some .bool) (hrd : (fn.params.toList.all fun t => P.readableRec t && decide (t < P.types.size)) = true) (hv : varsRowed' P s.vars = true)
    (hs : s.fn H (ds ++ gs) = { results := [.lit (.bool true)], args := ds, vars := gs }) (hW : DataW.Whole enc P fn.params.toList s.vars false W args.toList ds gs before)
    (h : HCalls P f args (Full W) (Ret (.bool true) (Full W))) : Calls P f args W fun e W' => ∃ v, e = .returned v ∧ s.post enc P fn false true false false W args v W' := by
  refine (law_calls h).mono fun e W' ⟨he, bel⟩ => ⟨_, he, ?_⟩
  have hlt : ∀ x ∈ before, x.block < W.heap.size := fun x hx => by simpa using hW.lt x hx
  have hW' := hW
  obtain ⟨p, q, hA, hV, rfl, hfz, hnd⟩ := hW
  refine ⟨ds, gs, p ++ q, [], p, q, hW', ?_, ?_, ?_, bel.frame _, fun h => by cases h⟩
  · rw [hs, hrt]
    exact trodAll_mk1 (shut_bool hb _)
  · rw [hs]
    exact trodAll_below hl bel hrd (fun x hx => hlt x (by simp [hx])) hA
  · rw [hs]
    exact trodVars_below hl bel hv hV

theorem Full.cell' {w : World} {a : Addr} {v : Value} (h : w.cell? a = some v) : (Full w).cell? a = some v := by
  unfold World.cell? at h
  unfold Hp.cell? Full
  split at h
  · rename_i c e f hb
    simp only [hb, Option.map_some]
    exact h
  · cases h

theorem mapM_get {α β : Type} {f : α → Option β} : ∀ {l : List α} {ys : List β}, l.mapM f = some ys → ys.length = l.length ∧ ∀ (i : Nat) (x : α), l[i]? = some x → ∃ y, ys[i]? = some y ∧ f x = some y
  | [], ys, h => by
    simp at h; subst h; exact ⟨rfl, fun i x hx => by simp at hx⟩
  | x :: l, ys, h => by
    simp only [List.mapM_cons, Option.bind_eq_bind, Option.bind_eq_some_iff, Option.pure_def, Option.some.injEq] at h
    obtain ⟨y, hy, ys', hys, rfl⟩ := h
    obtain ⟨h1, h2⟩ := mapM_get hys
    refine ⟨by simp [h1], fun i x' hx => ?_⟩
    cases i with
    | zero => simp at hx; subst hx; exact ⟨y, rfl, hy⟩
    | succ i => simpa using h2 i x' (by simpa using hx)

/-- A slice that came in, element by element. -/
theorem trod_sl {H : Type} {enc : TypeId × Value → H} {P : Program} {W : World} {sp : Nat → Bool} {held : Bool} {fuel : Nat} {t e : TypeId} {cs : List Value} {d : DataW H} {ps : List MemPlace} (hu : P.underlying t = some (.slice e)) (h : DataW.trod enc P W 0 sp held fuel t cs = some (d, ps)) :
    ∃ A n c, cs = [.slice A n c] ∧ n ≤ c ∧ c ≤ maxLen ∧ ∃ rows : List (List Value), rows.length = n ∧ ∀ (i : Nat) (r : List Value), rows[i]? = some r → ∃ a, A = some a ∧ (∀ j v, r[j]? = some v → (Full W).cell? (a.add (i * P.cellsOf e + j)) = some v) ∧ r.length = P.cellsOf e ∧
      ∃ f d' p', DataW.trod enc P W 0 sp held f e r = some (d', p') := by
  cases fuel with
  | zero => simp [DataW.trod] at h
  | succ fuel =>
    unfold DataW.trod at h
    rw [hu] at h
    match cs, h with
    | [.slice none 0 0], h => exact ⟨none, 0, 0, rfl, Nat.le_refl _, Nat.zero_le _, [], rfl, fun i r hr => by simp at hr⟩
    | [.slice (some a) n c], h =>
      simp only at h
      split at h
      · rename_i hc
        obtain ⟨elems, he, h⟩ := Option.bind_eq_some_iff.1 h
        obtain ⟨hl, hg⟩ := mapM_get he
        have hrow : ∀ i, i < n → ∃ r, W.cells? 0 (a.add (i * P.cellsOf e)) (P.cellsOf e) = some r ∧ ∃ x, DataW.trod enc P W 0 sp held fuel e r = some x := fun i hi => by
          obtain ⟨y, _, hy⟩ := hg i i (by simp [hi])
          obtain ⟨r, hr, hy⟩ := Option.bind_eq_some_iff.1 hy
          exact ⟨r, hr, y, hy⟩
        have hr0 : ∀ i, i < n → ∃ r, W.cells? 0 (a.add (i * P.cellsOf e)) (P.cellsOf e) = some r := fun i hi => (hrow i hi).imp fun _ h => h.1
        let rows := (List.range n).map fun i => (W.cells? 0 (a.add (i * P.cellsOf e)) (P.cellsOf e)).getD []
        refine ⟨some a, n, c, rfl, hc.2.1, hc.2.2, rows, by simp [rows], fun i r hr => ⟨a, rfl, ?_⟩⟩
        have hi : i < n := by
          have := (List.getElem?_eq_some_iff.1 hr).1
          simpa [rows] using this
        obtain ⟨r', hr', x, hx⟩ := hrow i hi
        have : r = r' := by
          simp only [rows, List.getElem?_map, List.getElem?_range hi, Option.map_some, hr', Option.getD_some, Option.some.injEq] at hr
          exact hr.symm
        subst this
        unfold World.cells? at hr'
        rw [if_pos (Nat.zero_le _)] at hr'
        obtain ⟨hl', hg'⟩ := mapM_get hr'
        refine ⟨fun j v hv => ?_, by simpa using hl', fuel, x.1, x.2, hx⟩
        have hj : j < P.cellsOf e := by
          have := (List.getElem?_eq_some_iff.1 hv).1
          rw [hl'] at this; simpa using this
        obtain ⟨y, hy, hy'⟩ := hg' j j (by simp [hj])
        rw [hv] at hy; cases hy
        have ha : (a.add (i * P.cellsOf e)).add j = a.add (i * P.cellsOf e + j) := by
          unfold Addr.add
          by_cases h1 : i * P.cellsOf e = 0 <;> by_cases h2 : j = 0 <;> simp_all [Nat.add_assoc]
        rw [← ha]
        exact Full.cell' hy'
      · cases h
    | [.slice none (_ + 1) _], h => simp at h
    | [.slice none 0 (_ + 1)], h => simp at h
    | [], h => simp at h
    | _ :: _ :: _, h => simp at h
    | [.int ..], h => simp at h

/-- Elements of one cell, each of which is told. -/
theorem rows_cells {H : Hp} {A : Option Addr} {n : Nat} {α : Type} {g : α → Value} {q : α → Prop} {rows : List (List Value)} (hl : rows.length = n)
    (h : ∀ (i : Nat) (r : List Value), rows[i]? = some r → ∃ a, A = some a ∧ (∀ j v, r[j]? = some v → H.cell? (a.add (i * 1 + j)) = some v) ∧ ∃ x, r = [g x] ∧ q x) : ∃ l : List α, l.length = n ∧ Cells H A (l.map g) ∧ ∀ x ∈ l, q x := by
  have hx : ∀ i : Fin rows.length, ∃ x, rows[i] = [g x] ∧ q x := fun i => by
    obtain ⟨_, _, _, x, hx, hq⟩ := h i rows[i] (by simp)
    exact ⟨x, hx, hq⟩
  let f : Fin rows.length → α := fun i => Classical.choose (hx i)
  have hf : ∀ i : Fin rows.length, rows[i] = [g (f i)] ∧ q (f i) := fun i => Classical.choose_spec (hx i)
  refine ⟨List.ofFn f, by simp [hl], fun i v hv => ?_, fun x hx => ?_⟩
  · rw [List.getElem?_map] at hv
    obtain ⟨y, hy, rfl⟩ := Option.map_eq_some_iff.1 hv
    have hi : i < rows.length := by
      have := (List.getElem?_eq_some_iff.1 hy).1
      simpa using this
    have hy' : y = f ⟨i, hi⟩ := by
      rw [List.getElem?_ofFn] at hy
      simp only [hi, dif_pos, Option.some.injEq] at hy
      exact hy.symm
    subst hy'
    obtain ⟨a, ha, hc, _⟩ := h i rows[i] (by simp)
    refine ⟨a, ha, ?_⟩
    have := hc 0 (g (f ⟨i, hi⟩)) (by rw [show rows[i] = [g (f ⟨i, hi⟩)] from (hf ⟨i, hi⟩).1]; rfl)
    simpa using this
  · obtain ⟨i, rfl⟩ := List.mem_ofFn.1 hx
    exact (hf i).2

section
variable {H : Type} {enc : TypeId × Value → H} {P : Program} {W : World} {t e : TypeId} {v : Value} {d : DataW H} {ps : List MemPlace} {r : Reach} {base : Nat}

theorem trod_ints {fuel : Nat} {k : IntKind} {cs : List Value} (hu : P.underlying t = some (.slice e)) (he : P.underlying e = some (.int k)) (h1 : P.cellsOf e = 1) (h : DataW.trod enc P W 0 (fun _ => true) true fuel t cs = some (d, ps)) :
    ∃ A n c, cs = [.slice A n c] ∧ n ≤ c ∧ c ≤ maxLen ∧ ∃ ns : List Int, ns.length = n ∧ Cells (Full W) A (ns.map (.int k)) ∧ ∀ x ∈ ns, (Lit.int k x).wf = true := by
  obtain ⟨A, n, c, rfl, h2, h3, rows, hl, hr⟩ := trod_sl hu h
  refine ⟨A, n, c, rfl, h2, h3, ?_⟩
  refine rows_cells (g := fun x => Value.int k x) hl fun i r hi => ?_
  obtain ⟨a, ha, hc, hlen, f, d', p', hd⟩ := hr i r hi
  rw [h1] at hc
  obtain ⟨x, hx, _, hw⟩ := DataW.trod_int he hd
  exact ⟨a, ha, hc, x, hx, hw⟩

theorem trod_bytes {fuel : Nat} {cs : List Value} (hu : P.underlying t = some (.slice e)) (he : P.underlying e = some (.int .u8)) (h1 : P.cellsOf e = 1) (h : DataW.trod enc P W 0 (fun _ => true) true fuel t cs = some (d, ps)) :
    ∃ A n c, cs = [.slice A n c] ∧ n ≤ c ∧ c ≤ maxLen ∧ ∃ bs : List UInt8, bs.length = n ∧ Cells (Full W) A (byteVals bs) := by
  obtain ⟨A, n, c, rfl, h2, h3, ns, hl, hc, hw⟩ := trod_ints hu he h1 h
  refine ⟨A, n, c, rfl, h2, h3, ns.map fun x => UInt8.ofNat x.toNat, by simpa using hl, ?_⟩
  have : byteVals (ns.map fun x => UInt8.ofNat x.toNat) = ns.map (.int .u8) := by
    unfold byteVals
    rw [List.map_map]
    apply List.map_congr_left
    intro x hx
    have := hw x hx
    simp only [Lit.wf, Bool.and_eq_true, decide_eq_true_eq] at this
    obtain ⟨h4, h5⟩ := this
    have h4' : 0 ≤ x := h4
    have h5' : x ≤ 255 := h5
    simp only [Function.comp, Value.int.injEq, true_and]
    rw [UInt8.toNat_ofNat_of_lt' (by show x.toNat < 256; omega)]
    omega
  rw [this]; exact hc

theorem trod_words {fuel : Nat} {cs : List Value} (hu : P.underlying t = some (.slice e)) (he : P.underlying e = some (.int .u64)) (h1 : P.cellsOf e = 1) (h : DataW.trod enc P W 0 (fun _ => true) true fuel t cs = some (d, ps)) :
    ∃ A n c, cs = [.slice A n c] ∧ n ≤ c ∧ c ≤ maxLen ∧ ∃ l : List UInt64, l.length = n ∧ Cells (Full W) A (wordVals l) := by
  obtain ⟨A, n, c, rfl, h2, h3, ns, hl, hc, hw⟩ := trod_ints hu he h1 h
  refine ⟨A, n, c, rfl, h2, h3, ns.map fun x => UInt64.ofNat x.toNat, by simpa using hl, ?_⟩
  have : wordVals (ns.map fun x => UInt64.ofNat x.toNat) = ns.map (.int .u64) := by
    unfold wordVals
    rw [List.map_map]
    apply List.map_congr_left
    intro x hx
    have := hw x hx
    simp only [Lit.wf, Bool.and_eq_true, decide_eq_true_eq] at this
    obtain ⟨h4, h5⟩ := this
    have h4' : 0 ≤ x := h4
    have h5' : x ≤ 18446744073709551615 := h5
    simp only [Function.comp, Value.int.injEq, true_and]
    rw [UInt64.toNat_ofNat_of_lt' (by show x.toNat < 18446744073709551616; omega)]
    omega
  rw [this]; exact hc

theorem trod_bools {fuel : Nat} {cs : List Value} (hu : P.underlying t = some (.slice e)) (he : P.underlying e = some .bool) (h1 : P.cellsOf e = 1) (h : DataW.trod enc P W 0 (fun _ => true) true fuel t cs = some (d, ps)) :
    ∃ A n c, cs = [.slice A n c] ∧ n ≤ c ∧ c ≤ maxLen ∧ ∃ ns : List Bool, ns.length = n ∧ Cells (Full W) A (ns.map .bool) := by
  obtain ⟨A, n, c, rfl, h2, h3, rows, hl, hr⟩ := trod_sl hu h
  obtain ⟨ns, h4, h5, _⟩ := rows_cells (g := Value.bool) (q := fun _ => True) hl fun i r hi => by
    obtain ⟨a, ha, hc, hlen, f, d', p', hd⟩ := hr i r hi
    rw [h1] at hc
    obtain ⟨x, hx, _⟩ := DataW.trod_bool he hd
    exact ⟨a, ha, hc, x, hx, trivial⟩
  exact ⟨A, n, c, rfl, h2, h3, ns, h4, h5⟩

/-- Slices of bytes, of words. -/
theorem rows_bytes {A : Option Addr} {n : Nat} (hu : P.underlying t = some (.slice e)) (he : P.underlying e = some (.int .u8)) (h1 : P.cellsOf e = 1) (ht : P.cellsOf t = 1) {rows : List (List Value)} (hl : rows.length = n)
    (h : ∀ (i : Nat) (r : List Value), rows[i]? = some r → ∃ a, A = some a ∧ (∀ j v, r[j]? = some v → (Full W).cell? (a.add (i * P.cellsOf t + j)) = some v) ∧ r.length = P.cellsOf t ∧ ∃ f d' p', DataW.trod enc P W 0 (fun _ => true) true f t r = some (d', p')) :
    ∃ l : List (Option Addr × Nat × Nat × List UInt8), l.length = n ∧ Cells (Full W) A (l.map fun p => .slice p.1 p.2.1 p.2.2.1) ∧ ∀ p ∈ l, p.2.1 = p.2.2.2.length ∧ p.2.1 ≤ 9223372036854775807 ∧ Cells (Full W) p.1 (byteVals p.2.2.2) := by
  refine rows_cells hl fun i r hi => ?_
  obtain ⟨a, ha, hc, hlen, f, d', p', hd⟩ := h i r hi
  rw [ht] at hc
  obtain ⟨A', n', c', rfl, h3, h4, bs, h5, h6⟩ := trod_bytes hu he h1 hd
  exact ⟨a, ha, hc, (A', n', c', bs), rfl, h5.symm, Nat.le_trans h3 h4, h6⟩

theorem rows_words {A : Option Addr} {n : Nat} (hu : P.underlying t = some (.slice e)) (he : P.underlying e = some (.int .u64)) (h1 : P.cellsOf e = 1) (ht : P.cellsOf t = 1) {rows : List (List Value)} (hl : rows.length = n)
    (h : ∀ (i : Nat) (r : List Value), rows[i]? = some r → ∃ a, A = some a ∧ (∀ j v, r[j]? = some v → (Full W).cell? (a.add (i * P.cellsOf t + j)) = some v) ∧ r.length = P.cellsOf t ∧ ∃ f d' p', DataW.trod enc P W 0 (fun _ => true) true f t r = some (d', p')) :
    ∃ l : List (Option Addr × Nat × Nat × List UInt64), l.length = n ∧ Cells (Full W) A (l.map fun p => .slice p.1 p.2.1 p.2.2.1) ∧ ∀ p ∈ l, p.2.1 = p.2.2.2.length ∧ p.2.1 ≤ 9223372036854775807 ∧ Cells (Full W) p.1 (wordVals p.2.2.2) := by
  refine rows_cells hl fun i r hi => ?_
  obtain ⟨a, ha, hc, hlen, f, d', p', hd⟩ := h i r hi
  rw [ht] at hc
  obtain ⟨A', n', c', rfl, h3, h4, bs, h5, h6⟩ := trod_words hu he h1 hd
  exact ⟨a, ha, hc, (A', n', c', bs), rfl, h5.symm, Nat.le_trans h3 h4, h6⟩

/-- A slice that came in: its value. -/
theorem open_sl (hu : P.underlying t = some (.slice e)) (hval : Value.okWide P W r base t v) (h : DataW.Trod enc P W 0 (fun _ => true) true t v d ps) : ∃ A n c, v = .slice A n c ∧ ∃ fuel, DataW.trod enc P W 0 (fun _ => true) true fuel t [.slice A n c] = some (d, ps) := by
  obtain ⟨A, n, c, rfl⟩ := okWide_slice hu hval
  obtain ⟨fuel, h⟩ := h
  exact ⟨A, n, c, rfl, fuel, h⟩
end

theorem wf_int {k : IntKind} {n : Int} (h : (Lit.int k n).wf = true) : k.min ≤ n ∧ n ≤ k.max := by
  simpa [Lit.wf] using h

end Go.Hw

end
section
/-! HwS -/
/- The frame of the proofs: parts of memory side by side; a call over a part of what is known leaves the rest. -/
set_option maxRecDepth 100000
set_option linter.unusedSimpArgs false
set_option linter.unusedVariables false
set_option linter.unnecessarySimpa false
set_option linter.unusedSectionVars false
namespace Go.Hw
open Go

/-- What a call over a part of memory leaves of the whole. -/
def Hp.patch (H H1 H1' : Hp) : Hp := fun b => match H1' b with | some o => some o | none => match H1 b with | some _ => none | none => H b

theorem At.patch {H H1 H1' : Hp} {w w' : World} (hH : Fits H w) (hle : H1.le H) (h : At H1 w H1' w') : At H w (H.patch H1 H1') w' := by
  refine ⟨fun b o hb => ?_, h.size, h.os, h.tape, h.output, fun b hb h0 => ?_⟩
  · unfold Hp.patch at hb
    split at hb
    · rename_i o' ho'
      cases hb
      exact h.fits b _ ho'
    · rename_i hn
      split at hb
      · cases hb
      · rename_i h1
        obtain ⟨x, hx, hh⟩ := hH b o hb
        refine ⟨x, ?_, hh⟩
        rw [(h.old b (Array.getElem?_eq_some_iff.1 hx).1 h1).2]; exact hx
  · have h1 : H1 b = none := by
      cases e : H1 b with
      | none => rfl
      | some o => rw [hle b o e] at h0; cases h0
    obtain ⟨h2, h3⟩ := h.old b hb h1
    refine ⟨?_, h3⟩
    unfold Hp.patch
    rw [h2, h1]; exact h0

/-- A call over a part of what is known. -/
theorem HCalls.frame {P : Program} {f : FuncId} {args : Array Value} {H H1 : Hp} {R : Value → Hp → Prop} (h : HCalls P f args H1 R) (hle : H1.le H) :
    HCalls P f args H fun v H' => ∃ H1', R v H1' ∧ H' = H.patch H1 H1' ∧ ∀ b, H b ≠ none → H1 b = none → H1' b = none := fun w hw => by
  have hw1 : Fits H1 w := fun b o hb => hw b o (hle b o hb)
  refine (h w hw1).mono ?_
  rintro e w' ⟨v, H1', rfl, hr, hA⟩
  refine ⟨v, _, rfl, ⟨H1', hr, rfl, fun b hb h1 => ?_⟩, hA.patch hw hle⟩
  cases hq : H b with
  | none => exact absurd hq hb
  | some o =>
    obtain ⟨x, hx, _⟩ := hw b o hq
    exact (hA.old b (Array.getElem?_eq_some_iff.1 hx).1 h1).1

/-! ## Parts -/

abbrev As := Hp → Prop

def Apart (H1 H2 : Hp) : Prop := ∀ b, H1 b = none ∨ H2 b = none

def Hp.or (H1 H2 : Hp) : Hp := fun b => match H1 b with | some o => some o | none => H2 b

theorem Hp.le_none {H H' : Hp} {b : Nat} (h : H.le H') (hn : H' b = none) : H b = none := by
  cases e : H b with
  | none => rfl
  | some o => rw [h b o e] at hn; cases hn

theorem Apart.symm {H1 H2 : Hp} (h : Apart H1 H2) : Apart H2 H1 := fun b => (h b).symm
theorem Apart.le {H1 H2 H1' H2' : Hp} (h : Apart H1 H2) (h1 : H1'.le H1) (h2 : H2'.le H2) : Apart H1' H2' := fun b =>
  (h b).elim (fun e => .inl (Hp.le_none h1 e)) (fun e => .inr (Hp.le_none h2 e))
theorem Apart.or {H1 H2 H3 : Hp} (h : Apart H1 H3) (k : Apart H2 H3) : Apart (H1.or H2) H3 := fun b => by
  unfold Hp.or
  rcases h b with e | e
  · rw [e]; exact k b
  · exact .inr e
theorem Hp.or_le {H1 H2 H : Hp} (h1 : H1.le H) (h2 : H2.le H) : (H1.or H2).le H := fun b o ho => by
  unfold Hp.or at ho
  split at ho
  · rename_i o' e; cases ho; exact h1 b _ e
  · exact h2 b o ho
theorem Hp.le_or_left (H1 H2 : Hp) : H1.le (H1.or H2) := fun b o ho => by unfold Hp.or; rw [ho]
theorem Hp.le_or_right {H1 H2 : Hp} (h : Apart H1 H2) : H2.le (H1.or H2) := fun b o ho => by
  unfold Hp.or
  rcases h b with e | e
  · rw [e]; exact ho
  · rw [e] at ho; cases ho

/-- Parts of memory, side by side. -/
def Sep : List As → Hp → Prop
  | [], _ => True
  | A :: L, H => ∃ H1 H2, H1.le H ∧ H2.le H ∧ Apart H1 H2 ∧ A H1 ∧ Sep L H2

theorem Sep.up : ∀ {L : List As} {H H' : Hp}, Sep L H → H.le H' → Sep L H'
  | [], _, _, _, _ => trivial
  | _ :: _, _, _, ⟨H1, H2, h1, h2, h3, h4, h5⟩, k => ⟨H1, H2, Hp.le_trans h1 k, Hp.le_trans h2 k, h3, h4, h5⟩

theorem Sep.swap {A B : As} {L : List As} {H : Hp} : Sep (A :: B :: L) H → Sep (B :: A :: L) H
  | ⟨H1, H2, h1, h2, h3, h4, H3, H4, k1, k2, k3, k4, k5⟩ =>
    ⟨H3, H1.or H4, Hp.le_trans k1 h2, Hp.or_le h1 (Hp.le_trans k2 h2), (Apart.or (h3.le (Hp.le_refl _) k1) k3.symm).symm, k4, H1, H4, Hp.le_or_left _ _, Hp.le_or_right (h3.le (Hp.le_refl _) k2), h3.le (Hp.le_refl _) k2, h4, k5⟩

theorem Sep.perm {L L' : List As} (p : L.Perm L') : ∀ {H : Hp}, Sep L H → Sep L' H := by
  induction p with
  | nil => exact fun h => h
  | cons A _ ih => exact fun ⟨H1, H2, h1, h2, h3, h4, h5⟩ => ⟨H1, H2, h1, h2, h3, h4, ih h5⟩
  | swap A B L => exact fun h => h.swap
  | trans _ _ ih1 ih2 => exact fun h => ih2 (ih1 h)

theorem Sep.tail {A : As} {L : List As} {H : Hp} : Sep (A :: L) H → Sep L H
  | ⟨_, _, _, h2, _, _, h5⟩ => h5.up h2

theorem Sep.drop : ∀ {M L : List As} {H : Hp}, Sep (M ++ L) H → Sep L H
  | [], _, _, h => h
  | _ :: _, _, _, h => Sep.drop h.tail

theorem Sep.take {M L : List As} {H : Hp} (h : Sep (M ++ L) H) : Sep M H := Sep.drop (Sep.perm List.perm_append_comm h)

/-- A part is split, or put together, or said in other words. -/
theorem Sep.map {A : As} {L M : List As} {H : Hp} (h : Sep (A :: L) H) (k : ∀ H1, A H1 → Sep M H1) : Sep (M ++ L) H := by
  obtain ⟨H1, H2, h1, h2, h3, h4, h5⟩ := h
  have hM := k H1 h4
  clear h4 k
  induction M generalizing H1 H with
  | nil => exact h5.up h2
  | cons B M ih =>
    obtain ⟨H3, H4, k1, k2, k3, k4, k5⟩ := hM
    exact ⟨H3, H4.or H2, Hp.le_trans k1 h1, Hp.or_le (Hp.le_trans k2 h1) h2, (Apart.or k3.symm (h3.le k1 (Hp.le_refl _)).symm).symm, k4, ih (H4) (Hp.le_or_left _ _) (Hp.le_or_right (h3.le k2 (Hp.le_refl _))) (h3.le k2 (Hp.le_refl _)) k5⟩

theorem Sep.append {M L : List As} {H : Hp} (h : Sep (M ++ L) H) : ∃ H1 H2, H1.le H ∧ H2.le H ∧ Apart H1 H2 ∧ Sep M H1 ∧ Sep L H2 := by
  induction M generalizing H with
  | nil => exact ⟨fun _ => none, H, fun b o h => (by cases h), Hp.le_refl _, fun b => Or.inl rfl, trivial, h⟩
  | cons A M ih =>
    obtain ⟨H1, H2, h1, h2, h3, h4, h5⟩ := h
    obtain ⟨H3, H4, k1, k2, k3, k4, k5⟩ := ih h5
    exact ⟨H1.or H3, H4, Hp.or_le h1 (Hp.le_trans k1 h2), Hp.le_trans k2 h2, Apart.or (h3.le (Hp.le_refl _) k2) k3, ⟨H1, H3, Hp.le_or_left _ _, Hp.le_or_right (h3.le (Hp.le_refl _) k1), h3.le (Hp.le_refl _) k1, h4, k4⟩, k5⟩

theorem Sep.join {M L : List As} {H1 H2 H : Hp} (h1 : H1.le H) (h2 : H2.le H) (h3 : Apart H1 H2) (hM : Sep M H1) (hL : Sep L H2) : Sep (M ++ L) H := by
  have : Sep (Sep M :: L) H := ⟨H1, H2, h1, h2, h3, hM, hL⟩
  exact this.map (fun _ h => h)

def sel (L : List As) : List Nat → List As
  | [] => []
  | i :: is => match L[i]? with | some A => A :: sel L is | none => sel L is

def rest (L : List As) (is : List Nat) : List As := go 0 L
where go (k : Nat) : List As → List As
  | [] => []
  | A :: L => match is.contains k with | true => go (k + 1) L | false => A :: go (k + 1) L

theorem rest_nil (L : List As) : rest L [] = L := by
  have key : ∀ (L : List As) k, rest.go [] k L = L := by
    intro L
    induction L with
    | nil => intro k; rfl
    | cons A L ih => intro k; unfold rest.go; simp only [List.contains_nil]; rw [ih]
  exact key L 0

theorem perm_skip {o : Option As} {c : Prop} [Decidable c] {X : As → List As} {Y Z : List As} (hc : ¬ c) (h : Y.Perm Z) : (match o with | some A => if c then X A else Y | none => Y).Perm Z := by
  cases o with
  | none => exact h
  | some A => simp only [hc, if_false]; exact h
theorem perm_skip' {o : Option As} {c : Prop} [Decidable c] {X : As → List As} {Y Z : List As} (hc : ¬ c) (h : (match o with | some A => if c then X A else Y | none => Y).Perm Z) : Y.Perm Z := by
  cases o with
  | none => exact h
  | some A => simp only [hc, if_false] at h; exact h

theorem rest_cons (i : Nat) (is : List Nat) (hi : is.contains i = false) (L : List As) : (match L[i]? with | some A => (A :: rest L (i :: is)) | none => rest L (i :: is)).Perm (rest L is) := by
  have key : ∀ (L : List As) (k : Nat), (match L[i - k]? with | some A => if k ≤ i then (A :: rest.go (i :: is) k L) else rest.go (i :: is) k L | none => rest.go (i :: is) k L).Perm (rest.go is k L) := by
    intro L
    induction L with
    | nil => intro k; simp [rest.go]
    | cons A L ih =>
      intro k
      have ih := ih (k + 1)
      by_cases hk : k ≤ i
      · by_cases e : i = k
        · subst e
          have ih := perm_skip' (by omega) ih
          unfold rest.go
          simp only [Nat.sub_self, List.getElem?_cons_zero, Nat.le_refl, if_true]
          rw [show (i :: is).contains i = true by simp, hi]
          exact List.Perm.cons A ih
        · have hc : (i :: is).contains k = is.contains k := by
            rw [List.contains_cons, show (k == i) = false by simp; omega]; simp
          have h1 : i - k = (i - (k + 1)) + 1 := by omega
          rw [h1, List.getElem?_cons_succ]
          have hk' : k + 1 ≤ i := by omega
          simp only [hk', if_true] at ih
          simp only [hk, if_true]
          unfold rest.go
          rw [hc]
          cases hb : is.contains k with
          | true => exact ih
          | false =>
            simp only
            cases h : L[i - (k + 1)]? with
            | none => rw [h] at ih; exact List.Perm.cons A ih
            | some B => rw [h] at ih; exact (List.Perm.swap A B _).trans (List.Perm.cons A ih)
      · have ih := perm_skip' (by omega) ih
        refine perm_skip hk ?_
        have hc : (i :: is).contains k = is.contains k := by
          rw [List.contains_cons, show (k == i) = false by simp; omega]; simp
        unfold rest.go
        rw [hc]
        cases is.contains k
        · exact List.Perm.cons A ih
        · exact ih
  have := key L 0
  simpa [rest] using this

def nodupB : List Nat → Bool
  | [] => true
  | i :: is => !is.contains i && nodupB is

theorem sel_rest (L : List As) : ∀ (is : List Nat), nodupB is = true → (sel L is ++ rest L is).Perm L
  | [], _ => by rw [rest_nil]; exact .refl _
  | i :: is, h => by
    unfold nodupB at h
    simp only [Bool.and_eq_true, Bool.not_eq_true'] at h
    have ih := sel_rest L is h.2
    have hr := rest_cons i is h.1 L
    unfold sel
    cases e : L[i]? with
    | none => rw [e] at hr; exact (List.Perm.append_left _ hr).trans ih
    | some A =>
      rw [e] at hr
      refine List.Perm.trans ?_ ((List.Perm.append_left _ hr).trans ih)
      exact List.perm_middle.symm

/-- Parts in another order, or some of them only. -/
theorem Sep.re {L : List As} {H : Hp} (h : Sep L H) (is : List Nat) (hn : nodupB is = true) : Sep (sel L is) H :=
  Sep.take (Sep.perm (sel_rest L is hn).symm h)

theorem Sep.split {L : List As} {H : Hp} (h : Sep L H) (is : List Nat) (hn : nodupB is = true) : Sep (sel L is ++ rest L is) H := Sep.perm (sel_rest L is hn).symm h

theorem Sep.see {L : List As} {H : Hp} (h : Sep L H) (i : Nat) {A : As} (hi : L[i]? = some A) : ∃ H1, A H1 ∧ H1.le H := by
  have h1 : Sep [A] H := by
    have := h.re [i] rfl
    unfold sel at this
    rw [hi] at this
    exact this
  obtain ⟨H1, _, k1, _, _, k4, _⟩ := h1
  exact ⟨H1, k4, k1⟩

/-! ## One block -/

def pts (b : Nat) (o : AO) : As := fun H => H b = some o
/-- All that was known ahead stands. -/
def own (H0 : Hp) : As := fun H => H0.le H
/-- A fact. -/
def pur (p : Prop) : As := fun _ => p

theorem Sep.get {L : List As} {H : Hp} (h : Sep L H) (i : Nat) {b : Nat} {o : AO} (hi : L[i]? = some (pts b o)) : H b = some o := by
  obtain ⟨H1, h1, h2⟩ := h.see i hi
  exact h2 _ _ h1

theorem Sep.ow {L : List As} {H H0 : Hp} (h : Sep L H) (i : Nat) (hi : L[i]? = some (own H0)) : H0.le H := by
  obtain ⟨H1, h1, h2⟩ := h.see i hi
  exact Hp.le_trans h1 h2

theorem Sep.start (H : Hp) : Sep [own H] H := ⟨H, fun _ => none, Hp.le_refl _, fun b o h => (by cases h), fun b => Or.inr rfl, Hp.le_refl _, trivial⟩

theorem Sep.new {L : List As} {H : Hp} (h : Sep L H) {b : Nat} (hb : H b = none) (o : AO) : Sep (L ++ [pts b o]) (H.set b o) := by
  refine Sep.join (H1 := H) (H2 := fun c => if c = b then some o else none) (Hp.le_set hb) ?_ ?_ h ⟨_, fun _ => none, Hp.le_refl _, fun b o h => (by cases h), fun b => .inr rfl, (if_pos rfl : (if b = b then some o else none) = some o), trivial⟩
  · intro c q hq
    simp only at hq
    split at hq
    · rename_i e; subst e; rw [Hp.set_same]; exact hq
    · cases hq
  · intro c
    by_cases e : c = b
    · left; rw [e]; exact hb
    · right; simp only [e, if_false]

theorem Sep.put {L : List As} {H : Hp} (h : Sep L H) (i : Nat) {b : Nat} {o : AO} (o' : AO) (hi : L[i]? = some (pts b o)) : Sep (L.set i (pts b o')) (H.set b o') := by
  have key : ∀ (L : List As) (i : Nat) (H : Hp), Sep L H → L[i]? = some (pts b o) → Sep (L.set i (pts b o')) (H.set b o') := by
    intro L
    induction L with
    | nil => intro i H _ hi; simp at hi
    | cons A L ih =>
      intro i H h hi
      obtain ⟨H1, H2, h1, h2, h3, h4, h5⟩ := h
      cases i with
      | zero =>
        simp only [List.getElem?_cons_zero, Option.some.injEq] at hi
        subst hi
        have h4' : H1 b = some o := h4
        have hn : H2 b = none := (h3 b).resolve_left (by rw [h4']; simp)
        refine ⟨H1.set b o', H2, Hp.set_le h1 b o', fun c q hq => ?_, fun c => ?_, Hp.set_same _ _ _, h5⟩
        · rw [Hp.set_other _ _ (fun e => by rw [e, hn] at hq; cases hq)]; exact h2 c q hq
        · by_cases e : c = b
          · right; rw [e]; exact hn
          · rw [Hp.set_other _ _ e]; exact h3 c
      | succ i =>
        rw [List.getElem?_cons_succ] at hi
        have hb : H2 b = some o := Sep.get h5 i hi
        have hn : H1 b = none := (h3 b).resolve_right (by rw [hb]; simp)
        refine ⟨H1, H2.set b o', fun c q hq => ?_, Hp.set_le h2 b o', fun c => ?_, h4, ih i H2 h5 hi⟩
        · rw [Hp.set_other _ _ (fun e => by rw [e, hn] at hq; cases hq)]; exact h1 c q hq
        · by_cases e : c = b
          · left; rw [e]; exact hn
          · rw [Hp.set_other _ _ e]; exact h3 c
  exact key L i H h hi

theorem Sep.gone {L : List As} {H : Hp} (h : Sep L H) (i : Nat) {b : Nat} {o : AO} (hi : L[i]? = some (pts b o)) : Sep (rest L [i]) (H.erase b) := by
  have h1 := h.split [i] rfl
  unfold sel at h1
  rw [hi] at h1
  obtain ⟨H1, H2, k1, k2, k3, k4, k5⟩ := h1
  refine k5.up fun c q hq => ?_
  have hc : c ≠ b := fun e => by
    have k4' : H1 b = some o := k4
    rcases k3 b with e2 | e2
    · rw [k4'] at e2; cases e2
    · rw [e, e2] at hq; cases hq
  unfold Hp.erase
  rw [if_neg hc]
  exact k2 c q hq

/-! ## Steps of a formula -/

def nthV : List Value → Nat → Option Value
  | [], _ => none
  | v :: _, 0 => some v
  | _ :: l, n + 1 => nthV l n
theorem nthV_eq : ∀ (l : List Value) (i : Nat), nthV l i = l[i]?
  | [], _ => by simp [nthV]
  | v :: _, 0 => rfl
  | _ :: l, n + 1 => by simp [nthV, nthV_eq l n]

section
variable {L : List As} {H : Hp}

theorem Sep.nw (h : Sep L H) {o : AO} {K : Nat → Hp → Prop} (k : ∀ b H', Sep (L ++ [pts b o]) H' → K b H') : Nw H o K := fun b hb => k b _ (h.new hb o)

theorem Sep.ld (h : Sep L H) (i : Nat) {b j : Nat} {c : Array Value} {e : TypeId} {v : Value} {K : Value → Prop} (hi : L[i]? = some (pts b (.obj (.cells c e)))) (hv : nthV c.toList j = some v) (k : K v) : Ld H ⟨b, j, none⟩ K :=
  Ld_obj (h.get i hi) (by rw [nthV_eq, Array.getElem?_toList] at hv; exact hv) k
theorem Sep.ldr (h : Sep L H) (i : Nat) {b j : Nat} {xs : List Value} {e : TypeId} {m : Nat} {v : Value} {K : Value → Prop} (hi : L[i]? = some (pts b (.row xs e m))) (hv : xs[j]? = some v) (k : K v) : Ld H ⟨b, j, none⟩ K :=
  Ld_row (h.get i hi) hv k
theorem Sep.st (h : Sep L H) (i : Nat) {b j : Nat} {c : Array Value} {e : TypeId} {v : Value} {K : Hp → Prop} (hi : L[i]? = some (pts b (.obj (.cells c e)))) (hj : j < c.size) (hv : v.oneCell' = true)
    (k : ∀ H', Sep (L.set i (pts b (.obj (.cells (c.setIfInBounds j v) e)))) H' → K H') : St H ⟨b, j, none⟩ v K :=
  St_obj (h.get i hi) hj hv (k _ (h.put i _ hi))
theorem Sep.str (h : Sep L H) (i : Nat) {b j : Nat} {xs : List Value} {e : TypeId} {m : Nat} {v : Value} {K : Hp → Prop} (hi : L[i]? = some (pts b (.row xs e m))) (hj : j < xs.length) (hv : v.oneCell' = true)
    (k : ∀ H', Sep (L.set i (pts b (.row (xs.set j v) e m))) H' → K H') : St H ⟨b, j, none⟩ v K :=
  St_row (h.get i hi) hj hv (k _ (h.put i _ hi))
theorem Sep.lda (h : Sep L H) (i : Nat) {b off n : Nat} {c : Array Value} {e : TypeId} {K : List Value → Prop} (hi : L[i]? = some (pts b (.obj (.cells c e)))) (hn : off + n ≤ c.size) (k : K ((c.toList.drop off).take n)) : LdA H ⟨b, off, none⟩ n K :=
  LdA_at (h.get i hi) hn k
theorem Sep.sta (h : Sep L H) (i : Nat) {b off n : Nat} {c y : Array Value} {e : TypeId} {K : Hp → Prop} (hi : L[i]? = some (pts b (.obj (.cells c e)))) (hn : off + n ≤ c.size) (hy : y.size = n) (hv : y.toList.all (fun v => v.oneCell') = true)
    (k : ∀ H', Sep (L.set i (pts b (.obj (.cells (setAt c.toList off y.toList).toArray e)))) H' → K H') : StA H ⟨b, off, none⟩ y n K :=
  StA_lit (h.get i hi) hn hy hv (k _ (h.put i _ hi))
theorem Sep.mks (h : Sep L H) {P : Program} {e : TypeId} {s bs : Nat} {z : Array Value} (hi : cellInfo P e = some (s, bs, some z)) (hs : z.size = s) {l c : Int} {n m : Nat} (hl : l = n) (hc : c = m) (hnm : n ≤ m) (hm : bs * m ≤ 140737488355328) (hm2 : m ≤ 9223372036854775807) {K : Value → Hp → Prop}
    (k : ∀ b H', Sep (L ++ [pts b (.row (zeroRow z.toList n) e (m * s))]) H' → K (.slice (some ⟨b, 0, none⟩) n m) H') : MkS P e l c H K :=
  MkS_of hi hs hl hc hnm hm hm2 fun b hb => k b _ (h.new hb _)
end

/-! ## Contracts -/

/-- A call over parts of memory: what it answers, and which parts are left. -/
def Tr (P : Program) (f : FuncId) (args : Array Value) (Pre : List As) (Q : Value → List As → Prop) : Prop :=
  ∀ H, Sep Pre H → HCalls P f args H fun v H' => ∃ M, Q v M ∧ Sep M H'

theorem Tr.use {P : Program} {f : FuncId} {args : Array Value} {Pre : List As} {Q : Value → List As → Prop} (t : Tr P f args Pre Q) {L : List As} {H : Hp} (h : Sep L H) (is : List Nat) (hs : sel L is = Pre) (hn : nodupB is = true) {K : Value → Hp → Prop}
    (k : ∀ v M H', Q v M → Sep (M ++ rest L is) H' → K v H') : HCalls P f args H K := by
  have h1 := h.split is hn
  rw [hs] at h1
  obtain ⟨H1, H2, k1, k2, k3, k4, k5⟩ := h1.append
  refine ((t H1 k4).frame k1).mono ?_
  rintro v H' ⟨H1', ⟨M, hq, hM⟩, rfl, hfr⟩
  refine k v M _ hq (Sep.join (H1 := H1') (H2 := H2) (fun b o hb => ?_) (fun b o hb => ?_) (fun b => ?_) hM k5)
  · unfold Hp.patch; rw [hb]
  · have e1 : H1 b = none := (k3 b).resolve_right (by rw [hb]; simp)
    have e2 : H1' b = none := hfr b (by rw [k2 b o hb]; simp) e1
    unfold Hp.patch; rw [e2, e1]; exact k2 b o hb
  · cases e : H2 b with
    | none => exact .inr rfl
    | some o =>
      left
      exact hfr b (by rw [k2 b o e]; simp) ((k3 b).resolve_right (by rw [e]; simp))

/-! ## Deferred calls -/

theorem HCallsD.mono {P : Program} {f : FuncId} {args : Array Value} {H : Hp} {R R' : Value → Hp → Prop} (h : HCallsD P f args H R) (k : ∀ v H', R v H' → R' v H') : HCallsD P f args H R' := fun w hw c cs hc => by
  obtain ⟨e, u', w', fr, ⟨hu, v, H', rfl, hr, hA⟩, hx⟩ := h w hw c cs hc
  exact ⟨_, _, w', fr, ⟨hu, v, H', rfl, k v H' hr, hA⟩, hx⟩

theorem HCallsD.frame {P : Program} {f : FuncId} {args : Array Value} {H H1 : Hp} {R : Value → Hp → Prop} (h : HCallsD P f args H1 R) (hle : H1.le H) :
    HCallsD P f args H fun v H' => ∃ H1', R v H1' ∧ H' = H.patch H1 H1' ∧ ∀ b, H b ≠ none → H1 b = none → H1' b = none := fun w hw c cs hc => by
  have hw1 : Fits H1 w := fun b o hb => hw b o (hle b o hb)
  obtain ⟨e, u', w', fr, ⟨hu, v, H1', rfl, hr, hA⟩, hx⟩ := h w hw1 c cs hc
  refine ⟨_, _, w', fr, ⟨hu, v, _, rfl, ⟨H1', hr, rfl, fun b hb h1 => ?_⟩, hA.patch hw hle⟩, hx⟩
  cases hq : H b with
  | none => exact absurd hq hb
  | some o =>
    obtain ⟨x, hx, _⟩ := hw b o hq
    exact (hA.old b (Array.getElem?_eq_some_iff.1 hx).1 h1).1

def TrD (P : Program) (f : FuncId) (args : Array Value) (Pre : List As) (Q : Value → List As → Prop) : Prop :=
  ∀ H, Sep Pre H → HCallsD P f args H fun v H' => ∃ M, Q v M ∧ Sep M H'

theorem TrD.use {P : Program} {f : FuncId} {args : Array Value} {Pre : List As} {Q : Value → List As → Prop} (t : TrD P f args Pre Q) {L : List As} {H : Hp} (h : Sep L H) (is : List Nat) (hs : sel L is = Pre) (hn : nodupB is = true) {K : Value → Hp → Prop}
    (k : ∀ v M H', Q v M → Sep (M ++ rest L is) H' → K v H') : HCallsD P f args H K := by
  have h1 := h.split is hn
  rw [hs] at h1
  obtain ⟨H1, H2, k1, k2, k3, k4, k5⟩ := h1.append
  refine ((t H1 k4).frame k1).mono ?_
  rintro v H' ⟨H1', ⟨M, hq, hM⟩, rfl, hfr⟩
  refine k v M _ hq (Sep.join (H1 := H1') (H2 := H2) (fun b o hb => ?_) (fun b o hb => ?_) (fun b => ?_) hM k5)
  · unfold Hp.patch; rw [hb]
  · have e1 : H1 b = none := (k3 b).resolve_right (by rw [hb]; simp)
    have e2 : H1' b = none := hfr b (by rw [k2 b o hb]; simp) e1
    unfold Hp.patch; rw [e2, e1]; exact k2 b o hb
  · cases e : H2 b with
    | none => exact .inr rfl
    | some o =>
      left
      exact hfr b (by rw [k2 b o e]; simp) ((k3 b).resolve_right (by rw [e]; simp))

/-- A contract over memory that is left as it was. -/
theorem Tr.of_ret {P : Program} {f : FuncId} {args : Array Value} {Pre : List As} {v : Value} (h : ∀ H, Sep Pre H → HCalls P f args H (RetE v H)) : Tr P f args Pre fun v' M => v' = v ∧ M = Pre := fun H hs =>
  (h H hs).mono fun _ _ ⟨e1, e2⟩ => ⟨Pre, ⟨e1, rfl⟩, by rw [e2]; exact hs⟩

theorem Sep.fin {L : List As} {H H0 : Hp} (h : Sep L H) (i : Nat) (hi : L[i]? = some (own H0)) (v : Value) : Ret v H0 v H := ⟨rfl, h.ow i hi⟩

end Go.Hw

end
section
/-! HwO -/
/- The frame of the proofs: slices of one's own, as parts of memory; elements of several cells. -/
set_option maxRecDepth 100000
set_option linter.unusedSimpArgs false
set_option linter.unusedVariables false
set_option linter.unnecessarySimpa false
set_option linter.unusedSectionVars false
namespace Go.Hw
open Go

theorem erase_none {G : Hp} {q : Nat} (b : Nat) (h : G q = none) : G.erase b q = none := by
  unfold Hp.erase; split
  · rfl
  · exact h

/-- A slice of one's own: its elements' cells (s each), in a row of its own, or nil. -/
def Own (e : TypeId) (s : Nat) (A : Option Addr) (n m : Nat) (xs : List Value) : As := fun H =>
  xs.length = n * s ∧ ((A = none ∧ n = 0 ∧ m = 0) ∨ ∃ b mm, A = some ⟨b, 0, none⟩ ∧ H b = some (.row xs e mm) ∧ m * s ≤ mm)

theorem Own.up {e : TypeId} {s : Nat} {A : Option Addr} {n m : Nat} {xs : List Value} {H H' : Hp} (h : Own e s A n m xs H) (k : H.le H') : Own e s A n m xs H' := by
  obtain ⟨h1, h2⟩ := h
  refine ⟨h1, h2.imp id ?_⟩
  rintro ⟨b, mm, h3, h4, h5⟩
  exact ⟨b, mm, h3, k _ _ h4, h5⟩

theorem Own.none (e : TypeId) (s : Nat) (H : Hp) : Own e s .none 0 0 [] H := ⟨by simp, .inl ⟨rfl, rfl, rfl⟩⟩

section
variable {L : List As} {H : Hp}

theorem Sep.own (h : Sep L H) (i : Nat) {e : TypeId} {s : Nat} {A : Option Addr} {n m : Nat} {xs : List Value} (hi : L[i]? = some (Own e s A n m xs)) : Own e s A n m xs H := by
  obtain ⟨H1, h1, h2⟩ := h.see i hi
  exact h1.up h2

theorem Own.len {e : TypeId} {s : Nat} {A : Option Addr} {n m : Nat} {xs : List Value} (h : Own e s A n m xs H) : xs.length = n * s := h.1

/-- Put in some part's place. -/
theorem Sep.turn (h : Sep L H) (i : Nat) {A : As} (hi : L[i]? = some A) {B : As} (k : ∀ H1, A H1 → B H1) : Sep (L.set i B) H := by
  induction L generalizing i H with
  | nil => simp at hi
  | cons C L ih =>
    obtain ⟨H1, H2, h1, h2, h3, h4, h5⟩ := h
    cases i with
    | zero =>
      simp only [List.getElem?_cons_zero, Option.some.injEq] at hi
      subst hi
      exact ⟨H1, H2, h1, h2, h3, k _ h4, h5⟩
    | succ i => exact ⟨H1, H2, h1, h2, h3, h4, ih h5 i hi⟩

theorem Sep.turn' (h : Sep L H) (i : Nat) {A : As} (hi : L[i]? = some A) {B : As} (k : ∀ H1, H1.le H → A H1 → B H1) : Sep (L.set i B) H := by
  induction L generalizing i H with
  | nil => simp at hi
  | cons C L ih =>
    obtain ⟨H1, H2, h1, h2, h3, h4, h5⟩ := h
    cases i with
    | zero =>
      simp only [List.getElem?_cons_zero, Option.some.injEq] at hi
      subst hi
      exact ⟨H1, H2, h1, h2, h3, k _ h1 h4, h5⟩
    | succ i => exact ⟨H1, H2, h1, h2, h3, h4, ih h5 i hi fun G hG hA => k G (Hp.le_trans hG h2) hA⟩

/-- A slice of one's own is a row, or nil. -/
theorem Sep.unown (h : Sep L H) (i : Nat) {e : TypeId} {s : Nat} {A : Option Addr} {n m : Nat} {xs : List Value} (hi : L[i]? = some (Own e s A n m xs)) :
    (A = none ∧ n = 0 ∧ m = 0 ∧ xs = []) ∨ ∃ b mm, A = some ⟨b, 0, .none⟩ ∧ m * s ≤ mm ∧ xs.length = n * s ∧ Sep (L.set i (pts b (.row xs e mm))) H := by
  obtain ⟨h1, h2⟩ := h.own i hi
  rcases h2 with ⟨h2, h3, h4⟩ | ⟨b, mm, rfl, h4, h5⟩
  · refine .inl ⟨h2, h3, h4, ?_⟩
    rw [h3] at h1
    cases xs with
    | nil => rfl
    | cons x l => simp at h1
  · refine .inr ⟨b, mm, rfl, h5, h1, h.turn' i hi fun H1 hle hO => ?_⟩
    obtain ⟨_, k2⟩ := hO
    rcases k2 with ⟨k2, _⟩ | ⟨b', mm', k2, k3, _⟩
    · cases k2
    · cases k2
      have := hle _ _ k3
      rw [h4] at this; cases this
      exact k3

/-- A block of a part is turned within it. -/
theorem Sep.putIn (h : Sep L H) (i : Nat) {A : As} (hi : L[i]? = some A) {b : Nat} {o' : AO} {B : As} (k : ∀ H1, H1.le H → A H1 → ∃ o, H1 b = some o ∧ B (H1.set b o')) : Sep (L.set i B) (H.set b o') := by
  induction L generalizing i H with
  | nil => simp at hi
  | cons C L ih =>
    obtain ⟨H1, H2, h1, h2, h3, h4, h5⟩ := h
    cases i with
    | zero =>
      simp only [List.getElem?_cons_zero, Option.some.injEq] at hi
      subst hi
      obtain ⟨o, ho, hB⟩ := k H1 h1 h4
      have hn : H2 b = none := (h3 b).resolve_left (by rw [ho]; simp)
      refine ⟨H1.set b o', H2, Hp.set_le h1 b o', fun c q hq => ?_, fun c => ?_, hB, h5⟩
      · rw [Hp.set_other _ _ (fun e => by rw [e, hn] at hq; cases hq)]; exact h2 c q hq
      · by_cases e : c = b
        · right; rw [e]; exact hn
        · rw [Hp.set_other _ _ e]; exact h3 c
    | succ i =>
      rw [List.getElem?_cons_succ] at hi
      have ih' := ih h5 i hi (fun G hG hA => k G (Hp.le_trans hG h2) hA)
      have hb : ∃ o, H2 b = some o := by
        obtain ⟨G, hG, hle⟩ := h5.see i hi
        obtain ⟨o, ho, _⟩ := k G (Hp.le_trans hle h2) hG
        exact ⟨o, hle _ _ ho⟩
      obtain ⟨o, hb⟩ := hb
      have hn : H1 b = none := (h3 b).resolve_right (by rw [hb]; simp)
      refine ⟨H1, H2.set b o', fun c q hq => ?_, Hp.set_le h2 b o', fun c => ?_, h4, ih'⟩
      · rw [Hp.set_other _ _ (fun e => by rw [e, hn] at hq; cases hq)]; exact h1 c q hq
      · by_cases e : c = b
        · left; rw [e]; exact hn
        · rw [Hp.set_other _ _ e]; exact h3 c

/-- An element's cell is read. -/
theorem Own.rd {e : TypeId} {s : Nat} {A : Option Addr} {n m : Nat} {xs : List Value} (h : Own e s A n m xs H) {x : Int} {j : Nat} (hx : x = j) (k : Nat) (hk : k < s) {v : Value} (hv : xs[j * s + k]? = some v) {K : Value → Prop} (kk : K v) :
    ixI x n (NN A fun a => Ld H ((a.add (x.toNat * s)).add k) K) := by
  subst hx
  obtain ⟨h1, h2⟩ := h
  have hlt := (List.getElem?_eq_some_iff.1 hv).1
  have hj : j < n := by
    rw [h1] at hlt
    have h3 : j * s < n * s := by omega
    exact Nat.lt_of_mul_lt_mul_right h3
  refine ⟨by omega, by omega, ?_⟩
  rcases h2 with ⟨_, h3, _⟩ | ⟨b, mm, rfl, h4, _⟩
  · omega
  · refine Ld_of ?_ kk
    rw [Int.toNat_natCast, Addr.add_lit', Addr.add_lit', Nat.zero_add, cell_row h4]; exact hv
theorem Own.rd0 {e : TypeId} {s : Nat} {A : Option Addr} {n m : Nat} {xs : List Value} (h : Own e s A n m xs H) {x : Int} {j : Nat} (hx : x = j) (hs : 0 < s) {v : Value} (hv : xs[j * s]? = some v) {K : Value → Prop} (kk : K v) :
    ixI x n (NN A fun a => Ld H (a.add (x.toNat * s)) K) := h.rd hx 0 hs hv kk
/-- An element of one cell is read. -/
theorem Own.rd1 {e : TypeId} {A : Option Addr} {n m : Nat} {xs : List Value} (h : Own e 1 A n m xs H) {x : Int} {j : Nat} (hx : x = j) {v : Value} (hv : xs[j]? = some v) {K : Value → Prop} (kk : K v) :
    ixI x n (NN A fun a => Ld H (a.add (x.toNat * 1)) K) := h.rd0 hx (by omega) (by rw [Nat.mul_one]; exact hv) kk

/-- A whole element is read. -/
theorem Own.rdA {e : TypeId} {s : Nat} {A : Option Addr} {n m : Nat} {xs : List Value} (h : Own e s A n m xs H) {x : Int} {j : Nat} (hx : x = j) (hj : j < n) {ys : List Value} (hy : (xs.drop (j * s)).take s = ys) {K : List Value → Prop} (k : K ys) :
    ixI x n (NN A fun a => LdA H (a.add (x.toNat * s)) s K) := by
  subst hx
  obtain ⟨h1, h2⟩ := h
  refine ⟨by omega, by omega, ?_⟩
  rcases h2 with ⟨_, h3, _⟩ | ⟨b, mm, rfl, h4, _⟩
  · omega
  · have hle : j * s + s ≤ xs.length := by
      rw [h1]
      have : (j + 1) * s ≤ n * s := Nat.mul_le_mul_right s hj
      rw [Nat.succ_mul] at this; omega
    show LdA H _ s K
    unfold LdA
    rw [Int.toNat_natCast, Addr.add_lit', Nat.zero_add, cells_row h4 (j * s) s 0 (by omega), Nat.add_zero, hy]
    exact k

/-- An element's cell is written. -/
theorem Sep.wr (h : Sep L H) (i : Nat) {e : TypeId} {s : Nat} {A : Option Addr} {n m : Nat} {xs : List Value} (hi : L[i]? = some (Own e s A n m xs)) {x : Int} {j : Nat} (hx : x = j) (k : Nat) (hk : k < s) (hj : j < n) {v : Value} (hv : v.oneCell' = true) {K : Hp → Prop}
    (kk : ∀ H', Sep (L.set i (Own e s A n m (xs.set (j * s + k) v))) H' → K H') : ixI x n (NN A fun a => St H ((a.add (x.toNat * s)).add k) v K) := by
  subst hx
  refine ⟨by omega, by omega, ?_⟩
  obtain ⟨h1, h2⟩ := h.own i hi
  have hlt : j * s + k < xs.length := by
    rw [h1]
    have : (j + 1) * s ≤ n * s := Nat.mul_le_mul_right s hj
    rw [Nat.succ_mul] at this; omega
  rcases h2 with ⟨_, h3, _⟩ | ⟨b, mm, rfl, h4, h5⟩
  · omega
  · rw [Int.toNat_natCast]
    show St H _ v K
    rw [Addr.add_lit', Addr.add_lit', Nat.zero_add]
    refine St_row h4 hlt hv (kk _ (h.putIn i hi fun H1 hle hA => ?_))
    obtain ⟨g1, g2⟩ := hA
    rcases g2 with ⟨_, g3, _⟩ | ⟨b', mm', g3, g4, g5⟩
    · omega
    · cases g3
      have : mm = mm' := by
        have := hle _ _ g4
        rw [h4] at this; cases this; rfl
      subst this
      exact ⟨_, g4, by rw [List.length_set]; exact g1, .inr ⟨b, mm, rfl, Hp.set_same _ _ _, g5⟩⟩
theorem Sep.wr1 (h : Sep L H) (i : Nat) {e : TypeId} {A : Option Addr} {n m : Nat} {xs : List Value} (hi : L[i]? = some (Own e 1 A n m xs)) {x : Int} {j : Nat} (hx : x = j) (hj : j < n) {v : Value} (hv : v.oneCell' = true) {K : Hp → Prop}
    (kk : ∀ H', Sep (L.set i (Own e 1 A n m (xs.set j v))) H' → K H') : ixI x n (NN A fun a => St H ((a.add (x.toNat * 1)).add 0) v K) :=
  h.wr i hi hx 0 (by omega) hj hv (by rw [Nat.mul_one]; exact kk)

/-- An append onto a slice of one's own. -/
theorem Sep.app (h : Sep L H) (i : Nat) {P : Program} {e : TypeId} {s bs : Nat} {z : Array Value} {A : Option Addr} {n m k : Nat} {xs ys : List Value} {x : Value} (hi : L[i]? = some (Own e s A n m xs)) (hc : cellInfo P e = some (s, bs, some z)) (hz : z.size = s) (hbs : bs ≤ 1073741824) (hs : 0 < s)
    (hn : lenV x = some k) (hsrc : srcCells H s k x = some ys) (hy : ys.length = k * s) (hone : ys.all (fun y => y.oneCell') = true) (h1 : (n + k) * bs ≤ 35184372088832) (h2 : n + k ≤ 35184372088832) {K : Value → Hp → Prop}
    (kk : ∀ A' m' H', Sep (L.set i (Own e s A' (n + k) m' (xs ++ ys))) H' → K (.slice A' (n + k) m') H') : AppK P e (.slice A n m) x H K := by
  have hO := h.own i hi
  have hone' : ∀ y ∈ ys, y.oneCell' = true := fun y hy' => List.all_eq_true.1 hone y hy'
  obtain ⟨g1, g2⟩ := hO
  rcases g2 with ⟨rfl, rfl, rfl⟩ | ⟨b, mm, rfl, g4, g5⟩
  · rw [Nat.zero_add] at h1 h2
    obtain rfl : xs = [] := by cases xs <;> simp_all
    refine AppK_nil hc hz hbs hn hsrc hy hone' h1 h2 (fun h0 => ?_) (fun _ b c hbc hb => ?_)
    · have hys : ys = [] := by
        subst h0
        cases ys with
        | nil => rfl
        | cons y ys => simp at hy
      subst hys
      subst h0
      refine kk .none 0 H ?_
      have := h.turn i hi (B := Own e s .none (0 + 0) 0 ([] ++ [])) (fun H1 _ => Own.none e s H1)
      exact this
    · have : Sep (L.set i (pts b (.row ys e (c * s)))) (H.set b (.row ys e (c * s))) := by
        have h3 := (h.new hb (.row ys e (c * s)))
        have h4 : Sep ((L ++ [pts b (.row ys e (c * s))]).set i (fun _ => True)) (H.set b (.row ys e (c * s))) := Sep.turn h3 i (A := Own e s .none 0 0 []) (by rw [List.getElem?_append_left (List.getElem?_eq_some_iff.1 hi).1]; exact hi) (fun _ _ => trivial)
        have hlt := (List.getElem?_eq_some_iff.1 hi).1
        rw [List.set_append_left _ _ hlt] at h4
        have hp : (L.set i (fun _ => True) ++ [pts b (.row ys e (c * s))]).Perm (L.set i (pts b (.row ys e (c * s))) ++ [fun _ => True]) := by
          rw [List.set_eq_take_append_cons_drop, List.set_eq_take_append_cons_drop]
          simp only [hlt, if_true, List.append_assoc, List.cons_append]
          refine List.Perm.append_left _ ?_
          have a1 : ∀ (X : As) (l : List As) (Y : As), (X :: (l ++ [Y])).Perm (Y :: (l ++ [X])) := fun X l Y => by
            have b1 : (X :: (l ++ [Y])).Perm (X :: Y :: l) := List.Perm.cons X (List.perm_append_comm (l₁ := l) (l₂ := [Y]))
            have b2 : (Y :: (l ++ [X])).Perm (Y :: X :: l) := List.Perm.cons Y (List.perm_append_comm (l₁ := l) (l₂ := [X]))
            exact b1.trans ((List.Perm.swap Y X l).trans b2.symm)
          exact a1 _ _ _
        exact Sep.take (Sep.perm hp h4)
      rw [show (k : Nat) = 0 + k by omega]
      refine kk _ c _ (this.turn i (A := pts b (.row ys e (c * s))) (by rw [List.getElem?_set]; simp [(List.getElem?_eq_some_iff.1 hi).1]) (B := Own e s (some ⟨b, 0, .none⟩) (0 + k) c ([] ++ ys)) (fun H1 hH1 => ⟨by simpa using hy, .inr ⟨b, _, rfl, (by rw [List.nil_append]; exact hH1 : H1 b = some (.row ([] ++ ys) e (c * s))), Nat.le_refl _⟩⟩) |> fun q => ?_)
      rw [List.set_set] at q
      exact q
  · refine AppK_own hc hz hbs g4 g1 g5 hn hsrc hy hone' h1 h2 fun b' c m' hc1 hc2 hb' => ?_
    refine kk _ c _ ?_
    -- the old row is given up, the new one made
    have hlt := (List.getElem?_eq_some_iff.1 hi).1
    have key : ∀ (L : List As) (i : Nat) (H : Hp), Sep L H → L[i]? = some (Own e s (some ⟨b, 0, .none⟩) n m xs) → 0 < s → (H.erase b) b' = none → Sep (L.set i (Own e s (some ⟨b', 0, .none⟩) (n + k) c (xs ++ ys))) ((H.erase b).set b' (.row (xs ++ ys) e m')) := by
      intro L
      induction L with
      | nil => intro i H _ hi; simp at hi
      | cons C L ih =>
        intro i H hS hi hs hb'
        obtain ⟨H1, H2, k1, k2, k3, k4, k5⟩ := hS
        have el : ∀ {G G' : Hp}, G.le G' → (G.erase b).le (G'.erase b) := fun hle c q hq => by
          unfold Hp.erase at hq ⊢
          split at hq
          · cases hq
          · rename_i hc; rw [if_neg hc]; exact hle c q hq
        have en : ∀ {G : Hp}, G b = .none → G.erase b = G := fun hG => by
          funext q; unfold Hp.erase; split
          · rename_i e; rw [e, hG]
          · rfl
        cases i with
        | zero =>
          simp only [List.getElem?_cons_zero, Option.some.injEq] at hi
          subst hi
          have hbs : ∃ o, H1 b = some o := by
            obtain ⟨_, q⟩ := k4
            rcases q with ⟨q, _⟩ | ⟨b2, mm2, q1, q2, _⟩
            · cases q
            · cases q1; exact ⟨_, q2⟩
          obtain ⟨o, hbs⟩ := hbs
          have hn2 : H2 b = .none := (k3 b).resolve_left (by rw [hbs]; simp)
          have hle2 : H2.le (H.erase b) := by have := el k2; rw [en hn2] at this; exact this
          refine ⟨(H1.erase b).set b' (.row (xs ++ ys) e m'), H2, Hp.set_le (el k1) _ _, Hp.le_trans hle2 (Hp.le_set hb'), fun q => ?_, ⟨by rw [List.length_append, g1, hy, Nat.add_mul], .inr ⟨b', m', rfl, Hp.set_same _ _ _, hc2⟩⟩, k5⟩
          by_cases e : q = b'
          · right; rw [e]; exact Hp.le_none hle2 hb'
          · rw [Hp.set_other _ _ e]
            rcases k3 q with e2 | e2
            · exact .inl (erase_none b e2)
            · exact .inr e2
        | succ i =>
          rw [List.getElem?_cons_succ] at hi
          have hbs : ∃ o, H2 b = some o := by
            obtain ⟨G, ⟨_, q⟩, hle⟩ := k5.see i hi
            rcases q with ⟨q, _⟩ | ⟨b2, mm2, q1, q2, _⟩
            · cases q
            · cases q1; exact ⟨_, hle _ _ q2⟩
          obtain ⟨o, hbs⟩ := hbs
          have hn1 : H1 b = .none := (k3 b).resolve_right (by rw [hbs]; simp)
          have hle1 : H1.le (H.erase b) := by have := el k1; rw [en hn1] at this; exact this
          refine ⟨H1, (H2.erase b).set b' (.row (xs ++ ys) e m'), Hp.le_trans hle1 (Hp.le_set hb'), Hp.set_le (el k2) _ _, fun q => ?_, k4, ih i H2 k5 hi hs (Hp.le_none (el k2) hb')⟩
          by_cases e : q = b'
          · left; rw [e]; exact Hp.le_none hle1 hb'
          · rw [Hp.set_other _ _ e]
            rcases k3 q with e2 | e2
            · exact .inl e2
            · exact .inr (erase_none b e2)
    exact key L i H h hi hs hb'

/-- .. of one element of several cells, as the compiler puts it. -/
theorem Sep.appS (h : Sep L H) (i : Nat) {P : Program} {e e' : TypeId} {s bs : Nat} {z : Array Value} {A : Option Addr} {n m : Nat} {xs ys : List Value} (hi : L[i]? = some (Own e s A n m xs)) (hc : cellInfo P e = some (s, bs, some z)) (hz : z.size = s) (hbs : bs ≤ 1073741824) (hs : 0 < s) (hy : ys.length = s) (hv : ys.all (fun y => y.oneCell') = true) (h2 : (n + 1) * bs ≤ 35184372088832) (h3 : n + 1 ≤ 35184372088832) {K : Value → Hp → Prop}
    (kk : ∀ A' m' H', Sep (L.set i (Own e s A' (n + 1) m' (xs ++ ys))) H' → K (.slice A' (n + 1) m') H') : Nw H (.row ys e' s) fun b H' => AppK P e (.slice A n m) (.slice (some ⟨b, 0, none⟩) 1 1) H' K := by
  refine h.nw fun b H' h' => ?_
  have hlt := (List.getElem?_eq_some_iff.1 hi).1
  refine h'.app i (k := 1) (ys := ys) (by rw [List.getElem?_append_left hlt]; exact hi) hc hz hbs hs rfl ?_ (by rw [hy, Nat.one_mul]) hv h2 h3 fun A' m' H'' h'' => ?_
  · show H'.cells? ⟨b, 0, none⟩ 0 (1 * s) = some ys
    rw [Nat.one_mul, cells_row (h'.get L.length (b := b) (o := .row ys e' s) (by simp)) 0 s 0 (by omega)]
    simp [← hy]
  · rw [List.set_append_left _ _ hlt] at h''
    exact kk A' m' H'' (Sep.take h'')

/-- .. of one element, as the compiler puts it. -/
theorem Sep.app1 (h : Sep L H) (i : Nat) {P : Program} {e e' : TypeId} {bs : Nat} {v0 : Value} {A : Option Addr} {n m : Nat} {xs : List Value} {v : Value} (hi : L[i]? = some (Own e 1 A n m xs)) (hc : cellInfo P e = some (1, bs, some #[v0])) (hbs : bs ≤ 1073741824) (hv : v.oneCell' = true) (h2 : (n + 1) * bs ≤ 35184372088832) (h3 : n + 1 ≤ 35184372088832) {K : Value → Hp → Prop}
    (kk : ∀ A' m' H', Sep (L.set i (Own e 1 A' (n + 1) m' (xs ++ [v]))) H' → K (.slice A' (n + 1) m') H') : Nw H (.row [v] e' 1) fun b H' => AppK P e (.slice A n m) (.slice (some ⟨b, 0, none⟩) 1 1) H' K := by
  refine h.nw fun b H' h' => ?_
  have hlt := (List.getElem?_eq_some_iff.1 hi).1
  refine h'.app i (k := 1) (ys := [v]) (by rw [List.getElem?_append_left hlt]; exact hi) hc rfl hbs (by omega) rfl (src_of (Cells.row (h'.get L.length (b := b) (o := .row [v] e' 1) (by simp)) 0 1) rfl) rfl (by simp [hv]) h2 h3 fun A' m' H'' h'' => ?_
  rw [List.set_append_left _ _ hlt] at h''
  exact kk A' m' H'' (Sep.take h'')
end

section
variable {L : List As} {H : Hp}
theorem Sep.ldw (h : Sep L H) (i : Nat) {b n : Nat} {c : Array Value} {e : TypeId} {K : List Value → Prop} (hi : L[i]? = some (pts b (.obj (.cells c e)))) (hn : c.size = n) (k : K c.toList) : LdA H ⟨b, 0, none⟩ n K := LdA_obj (h.get i hi) hn k
theorem Sep.stw (h : Sep L H) (i : Nat) {b n : Nat} {c y : Array Value} {e : TypeId} {K : Hp → Prop} (hi : L[i]? = some (pts b (.obj (.cells c e)))) (hn : c.size = n) (hy : y.size = n) (hv : y.toList.all (fun v => v.oneCell') = true)
    (k : ∀ H', Sep (L.set i (pts b (.obj (.cells y e)))) H' → K H') : StA H ⟨b, 0, none⟩ y n K := StA_all (h.get i hi) hn hy hv (k _ (h.put i _ hi))
end

section
variable {L : List As} {H : Hp}
/-- A cell of an array. -/
theorem Sep.ldx (h : Sep L H) (i : Nat) {b n j : Nat} {c : Array Value} {e : TypeId} {v : Value} {K : Value → Prop} (hi : L[i]? = some (pts b (.obj (.cells c e)))) {x : Int} (hx : x = (j : Nat)) (hj : j < n) (hv : nthV c.toList j = some v) (k : K v) : ixI x n (Ld H ((⟨b, 0, none⟩ : Addr).add (x.toNat * 1)) K) := by
  subst hx
  refine ⟨by omega, by omega, ?_⟩
  rw [Int.toNat_natCast, Nat.mul_one, Addr.add_lit', Nat.zero_add]
  exact h.ld i hi hv k
theorem Sep.stx (h : Sep L H) (i : Nat) {b n j : Nat} {c : Array Value} {e : TypeId} {v : Value} {K : Hp → Prop} (hi : L[i]? = some (pts b (.obj (.cells c e)))) {x : Int} (hx : x = (j : Nat)) (hj : j < n) (hc : j < c.size) (hv : v.oneCell' = true)
    (k : ∀ H', Sep (L.set i (pts b (.obj (.cells (c.setIfInBounds j v) e)))) H' → K H') : ixI x n (St H (((⟨b, 0, none⟩ : Addr).add (x.toNat * 1)).add 0) v K) := by
  subst hx
  refine ⟨by omega, by omega, ?_⟩
  rw [Int.toNat_natCast, Nat.mul_one, Addr.add_lit', Nat.zero_add, Addr.add_zero]
  exact h.st i hi hc hv k
end

theorem Cells.obj {H : Hp} {b : Nat} {c : Array Value} {e : TypeId} (h : H b = some (.obj (.cells c e))) (n : Nat) : Cells H (some ⟨b, 0, none⟩) (c.toList.take n) := fun i v hi => by
  refine ⟨_, rfl, ?_⟩
  rw [Addr.add_lit', Nat.zero_add, cell_obj h]
  rw [List.getElem?_take] at hi
  split at hi
  · rw [Array.getElem?_toList] at hi; exact hi
  · cases hi

theorem puts_row {e : TypeId} {b off m : Nat} : ∀ (l : List Value) (i : Nat) (H : Hp) (xs : List Value), H b = some (.row xs e m) → off + i + l.length ≤ xs.length → (∀ v ∈ l, v.oneCell' = true) →
    H.puts? ⟨b, off, none⟩ i l = some (H.set b (.row (setAt xs (off + i) l) e m))
  | [], i, H, xs, h, hi, _ => by simp [Hp.puts?, setAt_nil, Hp.set_id h]
  | v :: l, i, H, xs, h, hi, hv => by
    unfold Hp.puts?
    simp only [List.length_cons] at hi
    rw [Addr.add_lit', put_row h (by omega) (hv v (by simp))]
    simp only
    rw [puts_row l (i + 1) _ _ (Hp.set_same _ _ _) (by simp; omega) (fun u hu => hv u (by simp [hu])), Hp.set_set]
    congr 3
    apply List.ext_getElem?
    intro j
    rw [setAt_get (by simp; omega), setAt_get (by simp; omega), List.getElem?_set]
    simp only [List.length_cons]
    by_cases h1 : j < off + i
    · rw [if_pos (by omega), if_neg (by omega), if_pos h1]
    · rw [if_neg h1]
      by_cases h2 : j = off + i
      · subst h2; rw [if_pos (by omega), if_pos rfl, if_pos (by omega), if_pos (by omega)]; simp
      · rw [if_neg (by omega)]
        by_cases h3 : j < off + (i + 1) + l.length
        · rw [if_pos h3, if_pos (by omega), show j - (off + i) = (j - (off + (i + 1))) + 1 by omega, List.getElem?_cons_succ]
        · rw [if_neg h3, if_neg (by omega), if_neg (by omega)]

/-- A copy into a row of one's own. -/
theorem Sep.cp {L : List As} {H : Hp} (h : Sep L H) (i : Nat) {P : Program} {e e' : TypeId} {bs : Nat} {z : Array Value} {b off n c m k : Nat} {xs ys : List Value} {x : Value} (hi : L[i]? = some (pts b (.row xs e' m))) (hc : cellInfo P e = some (1, bs, some z))
    (hn : lenV x = some k) (hsrc : srcCells H 1 (Nat.min k n) x = some ys) (ho : off + ys.length ≤ xs.length) (hone : ∀ y ∈ ys, y.oneCell' = true) {K : Value → Hp → Prop}
    (kk : ∀ H', Sep (L.set i (pts b (.row (setAt xs off ys) e' m))) H' → K (.int .i64 (Nat.min k n : Nat)) H') : CpK P e (.slice (some ⟨b, off, none⟩) n c) x H K := by
  obtain ⟨j, zz, h3, h4, rfl, h5, rfl⟩ := cellInfo_out hc
  unfold CpK
  simp only [h3]
  rw [h4]
  exact ⟨k, ys, _, hn, hsrc, by simpa using puts_row ys 0 H xs (h.get i hi) (by omega) hone, kk _ (by simpa using h.put i _ hi)⟩

theorem slB_from {n m l : Nat} {x : Int} {K : Nat → Nat → Prop} (hx : x = l) (hl : l ≤ n) (k : K l n) : slB n m (some x) none K := by
  subst hx
  refine ⟨by omega, by omega, ?_⟩
  rw [Int.toNat_natCast]; exact k
theorem slB_to {n m r : Nat} {x : Int} {K : Nat → Nat → Prop} (hx : x = r) (hr : r ≤ m) (k : K 0 r) : slB n m none (some x) K := by
  subst hx
  refine ⟨by omega, by omega, ?_⟩
  rw [Int.toNat_natCast]; exact k
theorem slB_all {n m : Nat} {K : Nat → Nat → Prop} (k : K 0 n) : slB n m none none K := k
theorem slA_zero (b off m : Nat) : slA (some ⟨b, off, none⟩) m 0 1 = some ⟨b, off, none⟩ := by
  unfold slA; split
  · rfl
  · rfl
theorem slA_at {b off m l : Nat} (h : l < m) : slA (some ⟨b, off, none⟩) m l 1 = some ⟨b, off + l, none⟩ := by
  unfold slA; rw [if_neg (by omega)]
  show some ((⟨b, off, none⟩ : Addr).add (l * 1)) = _
  rw [Nat.mul_one, Addr.add_lit']

theorem setAt_append {xs us bs : List Value} {off : Nat} (h : off + us.length + bs.length ≤ xs.length) : setAt (setAt xs off us) (off + us.length) bs = setAt xs off (us ++ bs) := by
  apply List.ext_getElem?
  intro i
  have hl : (setAt xs off us).length = xs.length := setAt_length (by omega)
  rw [setAt_get (by omega), setAt_get (by omega), setAt_get (by rw [List.length_append]; omega), List.length_append]
  by_cases h1 : i < off
  · rw [if_pos (by omega), if_pos h1, if_pos h1]
  · rw [if_neg h1, if_neg h1]
    by_cases h2 : i < off + us.length
    · rw [if_pos h2, if_pos h2, if_pos (by omega), List.getElem?_append_left (by omega)]
    · rw [if_neg h2]
      by_cases h3 : i < off + us.length + bs.length
      · rw [if_pos h3, if_pos (by omega), List.getElem?_append_right (by omega)]
        congr 1; omega
      · rw [if_neg h3, if_neg h2, if_neg (by omega)]

/-! ## Elements of several cells that came in -/

def CellsS (s : Nat) (H : Hp) (A : Option Addr) (rows : List (List Value)) : Prop := ∀ i r, rows[i]? = some r → ∃ a, A = some a ∧ ∀ j v, r[j]? = some v → H.cell? (a.add (i * s + j)) = some v

theorem CellsS.le {s : Nat} {H H' : Hp} {A : Option Addr} {rows : List (List Value)} (h : CellsS s H A rows) (k : H.le H') : CellsS s H' A rows := fun i r hi => by
  obtain ⟨a, ha, hc⟩ := h i r hi
  exact ⟨a, ha, fun j v hj => k.cell (hc j v hj)⟩

theorem add_add (a : Addr) (i j : Nat) : (a.add i).add j = a.add (i + j) := by
  unfold Addr.add
  by_cases h1 : i = 0 <;> by_cases h2 : j = 0 <;> simp_all [Nat.add_assoc]

theorem CellsS.rd {s : Nat} {H : Hp} {A : Option Addr} {rows : List (List Value)} (h : CellsS s H A rows) {i : Nat} {r : List Value} (hi : rows[i]? = some r) {x : Int} (hx : x = i) {n : Nat} (hn : rows.length ≤ n) {j : Nat} {v : Value} (hj : r[j]? = some v) {K : Value → Prop} (k : K v) :
    ixI x n (NN A fun a => Ld H ((a.add (x.toNat * s)).add j) K) := by
  obtain ⟨a, rfl, hc⟩ := h i r hi
  subst hx
  have := (List.getElem?_eq_some_iff.1 hi).1
  refine ⟨by omega, by omega, ?_⟩
  rw [Int.toNat_natCast]
  refine Ld_of ?_ k
  rw [add_add]; exact hc j v hj
theorem CellsS.rd0 {s : Nat} {H : Hp} {A : Option Addr} {rows : List (List Value)} (h : CellsS s H A rows) {i : Nat} {r : List Value} (hi : rows[i]? = some r) {x : Int} (hx : x = i) {n : Nat} (hn : rows.length ≤ n) {v : Value} (hj : r[0]? = some v) {K : Value → Prop} (k : K v) :
    ixI x n (NN A fun a => Ld H (a.add (x.toNat * s)) K) := h.rd hi hx hn (j := 0) hj k

end Go.Hw

end
section
/-! HwQ -/
/- The frame of the proofs: structs that came in, opened. -/
set_option maxRecDepth 100000
set_option linter.unusedSimpArgs false
set_option linter.unusedVariables false
set_option linter.unnecessarySimpa false
set_option linter.unusedSectionVars false
namespace Go.Hw
open Go Go.RowKit Go.ChangeShapes Go.WideShapes Go.ChangeAt

/-- Elements that are told. -/
theorem rows_st {s : Nat} {H : Hp} {A : Option Addr} {n : Nat} {α : Type} {g : α → List Value} {q : α → Prop} {rows : List (List Value)} (hl : rows.length = n)
    (h : ∀ (i : Nat) (r : List Value), rows[i]? = some r → ∃ a, A = some a ∧ (∀ j v, r[j]? = some v → H.cell? (a.add (i * s + j)) = some v) ∧ ∃ x, r = g x ∧ q x) : ∃ l : List α, l.length = n ∧ CellsS s H A (l.map g) ∧ ∀ x ∈ l, q x := by
  have hx : ∀ i : Fin rows.length, ∃ x, rows[i] = g x ∧ q x := fun i => by
    obtain ⟨_, _, _, x, hx, hq⟩ := h i rows[i] (by simp)
    exact ⟨x, hx, hq⟩
  let f : Fin rows.length → α := fun i => Classical.choose (hx i)
  have hf : ∀ i : Fin rows.length, rows[i] = g (f i) ∧ q (f i) := fun i => Classical.choose_spec (hx i)
  refine ⟨List.ofFn f, by simp [hl], fun i r hr => ?_, fun x hx => ?_⟩
  · rw [List.getElem?_map] at hr
    obtain ⟨y, hy, rfl⟩ := Option.map_eq_some_iff.1 hr
    have hi : i < rows.length := by
      have := (List.getElem?_eq_some_iff.1 hy).1
      simpa using this
    have hy' : y = f ⟨i, hi⟩ := by
      rw [List.getElem?_ofFn] at hy
      simp only [hi, dif_pos, Option.some.injEq] at hy
      exact hy.symm
    subst hy'
    obtain ⟨a, ha, hc, _⟩ := h i rows[i] (by simp)
    refine ⟨a, ha, fun j v hj => hc j v ?_⟩
    rw [show rows[i] = g (f ⟨i, hi⟩) from (hf ⟨i, hi⟩).1]; exact hj
  · obtain ⟨i, rfl⟩ := List.mem_ofFn.1 hx
    exact (hf i).2

section
variable {H : Type} {enc : TypeId × Value → H} {P : Program} {W : World} {t e : TypeId} {cs : List Value} {d : DataW H} {ps : List MemPlace} {fuel : Nat}

theorem trod_st {fs : Array Field} (hu : P.underlying t = some (.struct fs)) (h : DataW.trod enc P W 0 (fun _ => true) true fuel t cs = some (d, ps)) :
    cs.length = P.cellsOf t ∧ ∃ f, ∀ (i : Nat) (fd : Field), fs[i]? = some fd → ∃ d' p', DataW.trod enc P W 0 (fun _ => true) true f fd.type ((cs.drop fd.offset).take (P.cellsOf fd.type)) = some (d', p') := by
  obtain ⟨xs, n, _, _, hl, hlen, hf⟩ := DataW.trod_struct hu h
  refine ⟨hl, n, fun i fd hi => ?_⟩
  have h1 := hf i fd hi
  have hlt : i < xs.length := by rw [hlen]; exact (Array.getElem?_eq_some_iff.1 hi).1
  rw [List.getElem?_eq_getElem hlt] at h1
  exact ⟨xs[i].1, xs[i].2, h1⟩

theorem take1 {cs : List Value} {o : Nat} {v : Value} (h : (cs.drop o).take 1 = [v]) : cs[o]? = some v := by
  have : ((cs.drop o).take 1)[0]? = some v := by rw [h]; rfl
  rw [List.getElem?_take, if_pos (by omega), List.getElem?_drop, Nat.add_zero] at this
  exact this

theorem trod_fint {o : Nat} {k : IntKind} (he : P.underlying e = some (.int k)) (h1 : P.cellsOf e = 1) (h : ∃ d' p', DataW.trod enc P W 0 (fun _ => true) true fuel e ((cs.drop o).take (P.cellsOf e)) = some (d', p')) : ∃ x, cs[o]? = some (.int k x) ∧ (Lit.int k x).wf = true := by
  obtain ⟨d', p', h⟩ := h
  rw [h1] at h
  obtain ⟨x, hx, _, hw⟩ := DataW.trod_int he h
  exact ⟨x, take1 hx, hw⟩
theorem trod_fbool {o : Nat} (he : P.underlying e = some .bool) (h1 : P.cellsOf e = 1) (h : ∃ d' p', DataW.trod enc P W 0 (fun _ => true) true fuel e ((cs.drop o).take (P.cellsOf e)) = some (d', p')) : ∃ x, cs[o]? = some (.bool x) := by
  obtain ⟨d', p', h⟩ := h
  rw [h1] at h
  obtain ⟨x, hx, _⟩ := DataW.trod_bool he h
  exact ⟨x, take1 hx⟩
theorem trod_fsl {o : Nat} {e' : TypeId} (he : P.underlying e = some (.slice e')) (h1 : P.cellsOf e = 1) (h : ∃ d' p', DataW.trod enc P W 0 (fun _ => true) true fuel e ((cs.drop o).take (P.cellsOf e)) = some (d', p')) :
    ∃ A n c d' p', cs[o]? = some (.slice A n c) ∧ DataW.trod enc P W 0 (fun _ => true) true fuel e [.slice A n c] = some (d', p') := by
  obtain ⟨d', p', h⟩ := h
  rw [h1] at h
  obtain ⟨A, n, c, hx, _⟩ := trod_sl he h
  rw [hx] at h
  exact ⟨A, n, c, d', p', take1 hx, h⟩
end

def EqAll (cs : List Value) : Nat → List Value → Prop
  | _, [] => True
  | i, v :: l => cs[i]? = some v ∧ EqAll cs (i + 1) l
theorem EqAll.out {cs l : List Value} (h : EqAll cs 0 l) (hl : cs.length = l.length) : cs = l := by
  have key : ∀ (l : List Value) (i : Nat), EqAll cs i l → ∀ j, j < l.length → cs[i + j]? = l[j]? := by
    intro l
    induction l with
    | nil => intro i _ j hj; simp at hj
    | cons v l ih =>
      intro i ⟨h1, h2⟩ j hj
      cases j with
      | zero => simpa using h1
      | succ j =>
        rw [show i + (j + 1) = i + 1 + j by omega, ih (i + 1) h2 j (by simpa using hj)]
        simp
  apply List.ext_getElem?
  intro j
  by_cases hj : j < l.length
  · simpa using key l 0 h j hj
  · rw [List.getElem?_eq_none (by omega), List.getElem?_eq_none (by omega)]

section
variable {H : Type} {enc : TypeId × Value → H} {P : Program} {W : World} {t e : TypeId} {v : Value} {d : DataW H} {ps : List MemPlace} {r : Reach} {base : Nat}
/-- A struct that came in. -/
theorem open_st {fs : Array Field} (hu : P.underlying t = some (.struct fs)) (hval : Value.okWide P W r base t v) (h : DataW.Trod enc P W 0 (fun _ => true) true t v d ps) :
    ∃ cs : List Value, v = .agg cs.toArray ∧ cs.length = P.cellsOf t ∧ ∃ f, ∀ (i : Nat) (fd : Field), fs[i]? = some fd → ∃ d' p', DataW.trod enc P W 0 (fun _ => true) true f fd.type ((cs.drop fd.offset).take (P.cellsOf fd.type)) = some (d', p') := by
  obtain ⟨cs, rfl, _⟩ := okWide_struct hu hval
  obtain ⟨fuel, h⟩ := h
  refine ⟨cs.toList, by rw [Array.toArray_toList], ?_⟩
  exact trod_st hu h
theorem sub_get {cs : List Value} {o n i : Nat} {v : Value} (h : ((cs.drop o).take n)[i]? = some v) : cs[o + i]? = some v := by
  rw [List.getElem?_take] at h
  split at h
  · rw [List.getElem?_drop] at h; exact h
  · cases h
end

theorem list2 {r : List Value} {a b : Value} (hl : r.length = 2) (h0 : r[0]? = some a) (h1 : r[1]? = some b) : r = [a, b] := by
  match r, hl with
  | [x, y], _ => simp at h0 h1; rw [h0, h1]
theorem list3 {r : List Value} {a b c : Value} (hl : r.length = 3) (h0 : r[0]? = some a) (h1 : r[1]? = some b) (h2 : r[2]? = some c) : r = [a, b, c] := by
  match r, hl with
  | [x, y, z], _ => simp at h0 h1 h2; rw [h0, h1, h2]
theorem list4 {r : List Value} {a b c d : Value} (hl : r.length = 4) (h0 : r[0]? = some a) (h1 : r[1]? = some b) (h2 : r[2]? = some c) (h3 : r[3]? = some d) : r = [a, b, c, d] := by
  match r, hl with
  | [x, y, z, w], _ => simp at h0 h1 h2 h3; rw [h0, h1, h2, h3]

end Go.Hw

end
section
/-! HwG -/
/- The frame of the proofs: package variables that are laid: what their cells hold. -/
set_option maxRecDepth 100000
set_option linter.unusedSimpArgs false
set_option linter.unusedVariables false
set_option linter.unnecessarySimpa false
set_option linter.unusedSectionVars false
namespace Go.Hw
open Go Go.RowKit

/-- A datum's cells. -/
def flatF : Nat → DataW Unit → List Value
  | 0, _ => []
  | _ + 1, .lit (.int k n) => [.int k n]
  | _ + 1, .lit (.string bs) => [.string ⟨bs.toArray⟩]
  | _ + 1, .lit (.bool b) => [.bool b]
  | f + 1, .agg ds => (ds.map (flatF f)).flatten
  | _ + 1, _ => []

def conts (P : Program) : List Field → Nat → Option Nat
  | [], o => some o
  | f :: l, o => if f.offset = o then conts P l (o + P.cellsOf f.type) else none

/-- A type whose data are cells side by side. -/
def flatOK (P : Program) : Nat → TypeId → Bool
  | 0, _ => false
  | f + 1, t =>
    match P.underlying t with
    | some (.int _) => true
    | some .string => true
    | some .bool => true
    | some (.array n e) => flatOK P f e && (P.cellsOf t == n * P.cellsOf e)
    | some (.struct fs) => fs.toList.all (fun x => flatOK P f x.type) && (conts P fs.toList 0 == some (P.cellsOf t))
    | _ => false

theorem chunks {α : Type} (k : Nat) : ∀ (n : Nat) (cs : List α) (ys : List (List α)), cs.length = n * k → ys.length = n → (∀ i, (h : i < ys.length) → (cs.drop (i * k)).take k = ys[i]) → cs = ys.flatten
  | 0, cs, ys, hl, hy, _ => by
    rw [Nat.zero_mul] at hl
    rw [List.length_eq_zero_iff.1 hl, List.length_eq_zero_iff.1 hy]; rfl
  | n + 1, cs, [], _, hy, _ => by simp at hy
  | n + 1, cs, y :: ys, hl, hy, h => by
    have h0 := h 0 (by simp)
    rw [Nat.zero_mul, List.drop_zero, List.getElem_cons_zero] at h0
    have ih := chunks k n (cs.drop k) ys (by rw [List.length_drop, hl, Nat.succ_mul]; omega) (by simpa using hy) fun i hi => by
      have := h (i + 1) (by simpa using hi)
      rw [List.getElem_cons_succ] at this
      rw [List.drop_drop, ← this, Nat.succ_mul, Nat.add_comm]
    rw [List.flatten_cons, ← ih, ← h0, List.take_append_drop]

theorem conts_flat {P : Program} : ∀ (l : List Field) (ys : List (List Value)) (o e : Nat) (cs : List Value), conts P l o = some e → cs.length = e → ys.length = l.length →
    (∀ (i : Nat) (f : Field), l[i]? = some f → ∃ y, ys[i]? = some y ∧ (cs.drop f.offset).take (P.cellsOf f.type) = y) → cs.drop o = ys.flatten
  | [], ys, o, e, cs, h, hl, hy, _ => by
    unfold conts at h
    cases h
    rw [List.drop_eq_nil_of_le (by omega), List.length_eq_zero_iff.1 hy]; rfl
  | f :: l, [], o, e, cs, h, hl, hy, _ => by simp at hy
  | f :: l, y :: ys, o, e, cs, h, hl, hy, hh => by
    unfold conts at h
    split at h
    · rename_i ho
      obtain ⟨y', e1, e2⟩ := hh 0 f (by simp)
      simp only [List.getElem?_cons_zero, Option.some.injEq] at e1
      subst e1
      have ih := conts_flat l ys _ e cs h hl (by simpa using hy) fun i f' hf => by
        have := hh (i + 1) f' (by simpa using hf)
        simpa using this
      rw [List.flatten_cons, ← ih, ← e2, ho, ← List.drop_drop, List.take_append_drop]
    · cases h

theorem flat_of_trod {enc : TypeId × Value → Unit} {P : Program} {w : World} {base : Nat} {sp : Nat → Bool} {held : Bool} : ∀ (f : Nat) {fuel : Nat} {t : TypeId} {cs : List Value} {d : DataW Unit} {p : List MemPlace},
    flatOK P f t = true → DataW.trod enc P w base sp held fuel t cs = some (d, p) → cs = flatF f d
  | 0, _, _, _, _, _, h, _ => by cases h
  | f + 1, fuel, t, cs, d, p, h, ht => by
    unfold flatOK at h
    split at h
    · rename_i k hu
      obtain ⟨n, rfl, e, _⟩ := DataW.trod_int hu ht
      cases e; rfl
    · rename_i hu
      obtain ⟨s, rfl, e, _⟩ := DataW.trod_string hu ht
      cases e; simp [flatF]
    · rename_i hu
      obtain ⟨b, rfl, e⟩ := DataW.trod_bool hu ht
      cases e; rfl
    · rename_i n e hu
      simp only [Bool.and_eq_true, beq_iff_eq] at h
      obtain ⟨xs, m, _, ex, hl, hn, hel⟩ := DataW.trod_array hu ht
      cases ex
      show cs = (((xs.map (·.1))).map (flatF f)).flatten
      refine chunks (P.cellsOf e) n cs _ (by rw [hl, h.2]) (by simpa using hn) fun i hi => ?_
      have hi' : i < xs.length := by simpa using hi
      have h1 := hel i (by omega)
      rw [List.getElem?_eq_getElem hi'] at h1
      have := flat_of_trod f (d := xs[i].1) (p := xs[i].2) h.1 h1
      rw [this]
      simp
    · rename_i fs hu
      simp only [Bool.and_eq_true, beq_iff_eq] at h
      obtain ⟨xs, m, _, ex, hl, hn, hel⟩ := DataW.trod_struct hu ht
      cases ex
      show cs = (((xs.map (·.1))).map (flatF f)).flatten
      have := conts_flat fs.toList (((xs.map (·.1))).map (flatF f)) 0 _ cs h.2 hl (by simpa using hn) fun i fd hi => by
        have hi2 : fs[i]? = some fd := by simpa using hi
        have h1 := hel i fd hi2
        have hi' : i < xs.length := by
          rw [hn]; exact (Array.getElem?_eq_some_iff.1 hi2).1
        rw [List.getElem?_eq_getElem hi'] at h1
        have hall := List.all_eq_true.1 h.1 fd (List.mem_of_getElem? hi)
        exact ⟨flatF f xs[i].1, by simp [hi'], flat_of_trod f (d := xs[i].1) (p := xs[i].2) hall h1⟩
      rw [List.drop_zero] at this
      exact this
    · cases h

/-- What a laid variable's cells hold. -/
theorem laid_at {P : Program} {W : World} {name : String} {d : DataW Unit} {g : Nat} {t : TypeId} (hg : P.globalNamed name = some g) (hty : (P.globals[g]?).map (·.type) = some t) (ho : flatOK P 9 t = true) :
    ∀ {l : List (String × DataW Unit)} (i : Nat), laidMet P l W → l[i]? = some (name, d) → Cells (Full W) (some ⟨g, 0, none⟩) (flatF 9 d)
  | [], i, _, h => by simp at h
  | x :: l, 0, hL, h => by
    simp only [List.getElem?_cons_zero, Option.some.injEq] at h
    subst h
    obtain ⟨ps, ⟨g', t', cs, fuel, p, q, hg', ht', hvar, hd, _, _⟩, _⟩ := hL
    obtain rfl := Option.some.inj (hg.symm.trans hg')
    obtain rfl := Option.some.inj (hty.symm.trans ht')
    have e := flat_of_trod 9 ho hd
    intro j v hj
    refine ⟨_, rfl, ?_⟩
    rw [← e] at hj
    have := World.var?_cell hg hvar j
    rw [Addr.add_lit', Nat.zero_add]
    refine Full.cell ?_
    rw [this]
    simpa using hj
  | x :: l, i + 1, hL, h => laid_at hg hty ho i hL.tail (by simpa using h)

/-- A block is cut out of what was known ahead. -/
theorem cutOwn {L : List As} {H H0 : Hp} (h : Sep (own H0 :: L) H) {g : Nat} {o : AO} (hg : H0 g = some o) : Sep (pts g o :: own (H0.erase g) :: L) H := by
  obtain ⟨H1, H2, h1, h2, h3, h4, h5⟩ := h
  have h4 : H0.le H1 := h4
  have hg1 := h4 g o hg
  refine ⟨fun c => if c = g then some o else none, (fun c => if c = g then H2 c else H c), fun c q hq => ?_, fun c q hq => ?_, fun c => ?_, by simp [pts], ?_⟩
  · simp only at hq
    split at hq
    · rename_i e; subst e; cases hq; exact h1 _ _ hg1
    · cases hq
  · simp only at hq
    split at hq
    · exact h2 _ _ hq
    · exact hq
  · by_cases e : c = g
    · right; simp only [e, if_true]; exact (h3 g).resolve_left (by rw [hg1]; simp)
    · left; simp [e]
  · refine ⟨fun c => if c = g then none else H1 c, H2, fun c q hq => ?_, fun c q hq => ?_, fun c => ?_, fun c q hq => ?_, h5⟩
    · simp only at hq
      split at hq
      · cases hq
      · rename_i e; simp only [e, if_false]; exact h1 _ _ hq
    · show (if c = g then H2 c else H c) = some q
      split
      · exact hq
      · exact h2 _ _ hq
    · rcases h3 c with e | e
      · left; simp only; split <;> first | rfl | exact e
      · exact .inr e
    · unfold Hp.erase at hq
      split at hq
      · cases hq
      · rename_i e; simp only [e, if_false]; exact h4 _ _ hq

theorem own_back {H H0 : Hp} {g : Nat} {o : AO} (hg : H0 g = some o) (h1 : H g = some o) (h2 : (H0.erase g).le H) : H0.le H := fun c q hq => by
  by_cases e : c = g
  · subst e; rw [hg] at hq; cases hq; exact h1
  · exact h2 c q (by unfold Hp.erase; rw [if_neg e]; exact hq)

/-- A table: a block whose first cells are told. -/
theorem Cells.block {H : Hp} {g : Nat} {v : Value} {vs : List Value} (h : Cells H (some ⟨g, 0, none⟩) (v :: vs)) : ∃ o, H g = some o := by
  obtain ⟨a, ha, hc⟩ := h 0 v rfl
  cases ha
  unfold Hp.cell? at hc
  rw [Addr.add_lit'] at hc
  cases e : H g with
  | none => simp only [e] at hc; cases hc
  | some o => exact ⟨o, rfl⟩

def Tab (g : Nat) (vs : List Value) : As := fun H => Cells H (some ⟨g, 0, none⟩) vs
theorem Tab.up {g : Nat} {vs : List Value} {H H' : Hp} (h : Tab g vs H) (k : H.le H') : Tab g vs H' := Cells.le h k

theorem Tab.of_pts {g : Nat} {o : AO} {vs : List Value} {H0 : Hp} (hg : H0 g = some o) (h : Cells H0 (some ⟨g, 0, none⟩) vs) {H : Hp} (hp : H g = some o) : Tab g vs H := fun i v hi => by
  obtain ⟨a, ha, hc⟩ := h i v hi
  cases ha
  refine ⟨_, rfl, ?_⟩
  rw [Addr.add_lit'] at hc ⊢
  unfold Hp.cell? at hc ⊢
  simp only [hg] at hc
  simp only [hp]
  exact hc

/-- A part that is only read. -/
theorem Sep.tab {L : List As} {H : Hp} (h : Sep L H) (i : Nat) {g : Nat} {vs : List Value} (hi : L[i]? = some (Tab g vs)) : Cells H (some ⟨g, 0, none⟩) vs := by
  obtain ⟨H1, h1, h2⟩ := h.see i hi
  exact Cells.le h1 h2

section
variable {L : List As} {H : Hp}
/-- A field is read, is written. -/
theorem Sep.ldf (h : Sep L H) (i : Nat) {b j : Nat} {c : Array Value} {e : TypeId} {v : Value} {K : Value → Prop} (hi : L[i]? = some (pts b (.obj (.cells c e)))) (hv : nthV c.toList j = some v) (k : K v) : Ld H ((⟨b, 0, none⟩ : Addr).add j) K := by
  rw [Addr.add_lit', Nat.zero_add]; exact h.ld i hi hv k
theorem Sep.ldg (h : Sep L H) (i : Nat) {b j k : Nat} {c : Array Value} {e : TypeId} {v : Value} {K : Value → Prop} (hi : L[i]? = some (pts b (.obj (.cells c e)))) (hv : nthV c.toList (j + k) = some v) (kk : K v) : Ld H (((⟨b, 0, none⟩ : Addr).add j).add k) K := by
  rw [Addr.add_lit', Addr.add_lit', Nat.zero_add]; exact h.ld i hi hv kk
theorem Sep.stf (h : Sep L H) (i : Nat) {b j : Nat} {c : Array Value} {e : TypeId} {v : Value} {K : Hp → Prop} (hi : L[i]? = some (pts b (.obj (.cells c e)))) (hj : j < c.size) (hv : v.oneCell' = true)
    (k : ∀ H', Sep (L.set i (pts b (.obj (.cells (c.setIfInBounds j v) e)))) H' → K H') : St H (((⟨b, 0, none⟩ : Addr).add j).add 0) v K := by
  rw [Addr.add_lit', Addr.add_lit', Nat.zero_add, Nat.add_zero]; exact h.st i hi hj hv k
end

end Go.Hw

end
section
/-! HwW -/
/- The frame of the proofs: words as natural numbers. -/
set_option maxRecDepth 100000
set_option linter.unusedSimpArgs false
set_option linter.unusedVariables false
set_option linter.unnecessarySimpa false
set_option linter.unusedSectionVars false
namespace Go.Hw
open Go

theorem ofNat64 {x : Nat} (h : x < 2 ^ 64) : (BitVec.ofInt 64 (x : Int)).toNat = x := by
  rw [BitVec.ofInt_natCast, BitVec.toNat_ofNat, Nat.mod_eq_of_lt h]
theorem or_lt {x y n : Nat} (hx : x < 2 ^ n) (hy : y < 2 ^ n) : x ||| y < 2 ^ n := Nat.or_lt_two_pow hx hy
theorem orN {x y : Nat} (hx : x < 2 ^ 64) (hy : y < 2 ^ 64) : bOr .u64 (x : Int) (y : Int) = ((x ||| y : Nat) : Int) := by
  unfold bOr
  rw [show IntKind.u64.bits = 64 from rfl, BitVec.toNat_or, ofNat64 hx, ofNat64 hy]
  have := or_lt hx hy
  exact u64n (by omega)
theorem andN {x y : Nat} (hx : x < 2 ^ 64) (hy : y < 2 ^ 64) : bAnd .u64 (x : Int) (y : Int) = ((x &&& y : Nat) : Int) := by
  unfold bAnd
  rw [show IntKind.u64.bits = 64 from rfl, BitVec.toNat_and, ofNat64 hx, ofNat64 hy]
  have : x &&& y ≤ x := Nat.and_le_left
  exact u64n (by omega)
theorem shlN {x : Nat} {i : Int} {n : Nat} (h : i = n) (hn : n ≤ 64) : shlI .u64 (x : Int) i = ((x * 2 ^ n % 2 ^ 64 : Nat) : Int) := by
  subst h
  unfold shlI
  rw [Int.toNat_natCast, show IntKind.u64.bits = 64 from rfl, Nat.min_eq_left hn, u64mod, show ((2 : Int) ^ n) = ((2 ^ n : Nat) : Int) by simp, ← Int.natCast_mul]
  rfl
theorem shrN {k : IntKind} {a : Nat} {i : Int} {n : Nat} (h : i = n) (hn : n ≤ k.bits) : shrI k (a : Int) i = ((a / 2 ^ n : Nat) : Int) := by
  rw [shrNat a h hn, Nat.shiftRight_eq_div_pow]
theorem u64a {x : Nat} (y : Nat) : IntKind.u64.wrap ((x : Int) + (y : Int)) = (((x + y) % 2 ^ 64 : Nat) : Int) := by
  rw [u64mod, ← Int.natCast_add]; rfl
theorem u64m (x y : Nat) : IntKind.u64.wrap ((x : Int) * (y : Int)) = (((x * y) % 2 ^ 64 : Nat) : Int) := by
  rw [u64mod, ← Int.natCast_mul]; rfl

/-- A part of a slice. -/
theorem Cells.shift {H : Hp} {A : Option Addr} {vs : List Value} (h : Cells H A vs) {m l : Nat} (hm : vs.length ≤ m) : Cells H (slA A m l 1) (vs.drop l) := fun i v hi => by
  rw [List.getElem?_drop] at hi
  have hlt := (List.getElem?_eq_some_iff.1 hi).1
  unfold slA
  rw [if_neg (by omega)]
  obtain ⟨a, rfl, hc⟩ := h _ _ hi
  exact ⟨_, rfl, by rw [add_add, Nat.mul_one]; exact hc⟩
theorem Cells.take {H : Hp} {A : Option Addr} {vs : List Value} (h : Cells H A vs) (n : Nat) : Cells H A (vs.take n) := fun i v hi => by
  rw [List.getElem?_take] at hi
  split at hi
  · exact h i v hi
  · cases hi

/-- A number in bytes, the lowest first. -/
def leN : List UInt8 → Nat
  | [] => 0
  | b :: l => b.toNat + 256 * leN l

theorem leN_lt : ∀ l : List UInt8, leN l < 256 ^ l.length
  | [] => by simp [leN]
  | b :: l => by
    have h1 := leN_lt l
    have h2 : b.toNat < 256 := b.toNat_lt
    unfold leN
    rw [List.length_cons, Nat.pow_succ]
    have : 256 * leN l + 256 ≤ 256 ^ l.length * 256 := by
      have : leN l + 1 ≤ 256 ^ l.length := h1
      omega
    omega

theorem leN_drop {l : List UInt8} {j : Nat} (h : j < l.length) : leN (l.drop j) = l[j].toNat + 256 * leN (l.drop (j + 1)) := by
  rw [List.drop_eq_getElem_cons h]; rfl

theorem leN_lt8 {l : List UInt8} (h : l.length ≤ 8) : leN l < 2 ^ 64 := by
  have h1 := leN_lt l
  have h2 : 256 ^ l.length ≤ 256 ^ 8 := Nat.pow_le_pow_right (by omega) h
  rw [show (2 : Nat) ^ 64 = 256 ^ 8 by decide]
  omega

theorem leN_eq_iff : ∀ {a b : List UInt8}, a.length = b.length → (leN a = leN b ↔ a = b)
  | [], [], _ => by simp
  | x :: a, y :: b, h => by
    have ih := leN_eq_iff (a := a) (b := b) (by simpa using h)
    have h1 : x.toNat < 256 := x.toNat_lt
    have h2 : y.toNat < 256 := y.toNat_lt
    unfold leN
    constructor
    · intro e
      have e1 : x.toNat = y.toNat := by omega
      have e2 : leN a = leN b := by omega
      rw [ih.1 e2, UInt8.toNat_inj.1 e1]
    · intro e
      injection e with e1 e2
      rw [e1, e2]

/-- Bytes of a number: so many. -/
def bytesN : Nat → Nat → List UInt8
  | 0, _ => []
  | n + 1, x => UInt8.ofNat x :: bytesN n (x / 256)

theorem bytesN_length : ∀ n x, (bytesN n x).length = n
  | 0, _ => rfl
  | n + 1, x => by simp [bytesN, bytesN_length n]
theorem leN_bytesN : ∀ n x, leN (bytesN n x) = x % 256 ^ n
  | 0, x => by simp [bytesN, leN, Nat.mod_one]
  | n + 1, x => by
    unfold bytesN leN
    rw [leN_bytesN n, UInt8.toNat_ofNat', show (256 : Nat) ^ (n + 1) = 256 * 256 ^ n by rw [Nat.pow_succ, Nat.mul_comm], Nat.mod_mul]
theorem bytesN_leN : ∀ (l : List UInt8), bytesN l.length (leN l) = l
  | [] => rfl
  | b :: l => by
    have h : b.toNat < 256 := b.toNat_lt
    unfold leN
    rw [List.length_cons]
    unfold bytesN
    rw [show (b.toNat + 256 * leN l) / 256 = leN l by omega, bytesN_leN l]
    congr 1
    apply UInt8.toNat_inj.1
    rw [UInt8.toNat_ofNat']
    show (b.toNat + 256 * leN l) % 256 = b.toNat
    omega

theorem range_bytes (n : Nat) : ∀ x, (List.range n).map (fun k => UInt8.ofNat (x / 256 ^ k)) = bytesN n x := by
  induction n with
  | zero => intro x; rfl
  | succ n ih =>
    intro x
    rw [List.range_succ_eq_map]
    simp only [List.map_cons, List.map_map, Nat.pow_zero, Nat.div_one]
    unfold bytesN
    rw [← ih (x / 256)]
    congr 1
    apply List.map_congr_left
    intro k _
    simp only [Function.comp]
    rw [Nat.div_div_eq_div_mul, Nat.pow_succ, Nat.mul_comm]

end Go.Hw

end
section
/-! Wlayout -/
/- Formulas of functions, printed by wip/tools/hwp.py. -/
set_option maxRecDepth 100000
set_option linter.unusedVariables false
namespace Go.Proofs.YtgkdkemhiglpdaaDoor.W
open Go Go.Hw

theorem mixWlayout : Tryd.prog.follows .mixedOrders = true := by kernel_rfl
-- layout.Need
def W_layout_Need (x1 : Int) (x2 : Int) (H : Hp) (K : Value → Hp → Prop) : Prop :=
  HCalls Tryd.prog 116 #[.int .i64 x2] H fun v1 H1 => DI .i64 v1 fun x3 => HCalls Tryd.prog 115 #[.int .i64 x1, .int .i64 x3] H1 fun v2 H2 => DB v2 fun c1 => BIf (!c1) (K (.tuple #[.int .i64 (0 : Int), .int .i64 (1 : Int)]) H2) (HCalls Tryd.prog 116 #[.int .i64 x2] H2 fun v3 H3 => DI .i64 v3 fun x4 => HCalls Tryd.prog 117 #[.int .i64 x1, .int .i64 x4] H3 fun v4 H4 => DI .i64 v4 fun x5 => K (.tuple #[.int .i64 x5, .int .i64 (0 : Int)]) H4)
def W_layout_Need.Λ (_ : Value → Hp → Prop) : Cuts := Cuts.none (fun _ => none)
theorem W_layout_Need.ok (x1 : Int) (x2 : Int) (H : Hp) (K : Value → Hp → Prop) (h : W_layout_Need x1 x2 H K) : HCalls Tryd.prog 98 #[.int .i64 x1, .int .i64 x2] H K :=
  hcalls Tryd.func98 rfl (Nat.le_of_ble_eq_true rfl) (hw_safe (Λ := Cuts.none (fun _ => none)) mixWlayout _ _ _ _ _ (Eq.mp (by kernel_rfl) h) (obs_none _ _ _ _ _))

-- layout.Sector
def W_layout_Sector (x1 : Int) (x2 : Int) (x3 : Int) (x4 : Int) (x5 : Int) (H : Hp) (K : Value → Hp → Prop) : Prop :=
  Nw H (.obj (.cells #[.int .i64 x1, .int .i64 x2, .int .i64 x3] 98)) fun b1 H1 => BIf (decide (x4 < (1 : Int))) (K (.tuple #[.int .i64 (0 : Int), .int .i64 (0 : Int), .int .i64 (2 : Int)]) H1) (BIf (decide (x5 < (0 : Int))) (K (.tuple #[.int .i64 (0 : Int), .int .i64 (0 : Int), .int .i64 (2 : Int)]) H1) (Ld H1 ((⟨b1, 0, none⟩ : Addr).add 2) fun v1 => DI .i64 v1 fun x6 => BIf (decide (x5 ≥ x6)) (K (.tuple #[.int .i64 (0 : Int), .int .i64 (0 : Int), .int .i64 (2 : Int)]) H1) ((x4 ≠ 0 ∧ IntKind.i64 = IntKind.i64 ∧ Ld H1 ((⟨b1, 0, none⟩ : Addr).add 1) fun v2 => DI .i64 v2 fun x7 => BIf (decide ((IntKind.i64.wrap (Int.tdiv x5 x4)) ≥ x7)) (K (.tuple #[.int .i64 (0 : Int), .int .i64 (0 : Int), .int .i64 (2 : Int)]) H1) (Ld H1 ((⟨b1, 0, none⟩ : Addr).add 0) fun v3 => DI .i64 v3 fun x8 => (x4 ≠ 0 ∧ IntKind.i64 = IntKind.i64 ∧ (x4 ≠ 0 ∧ IntKind.i64 = IntKind.i64 ∧ K (.tuple #[.int .i64 (IntKind.i64.wrap (x8 + (IntKind.i64.wrap (Int.tdiv x5 x4)))), .int .i64 (Int.tmod x5 x4), .int .i64 (0 : Int)]) H1)))))))
def W_layout_Sector.Λ (_ : Value → Hp → Prop) : Cuts := Cuts.none (fun _ => none)
theorem W_layout_Sector.ok (x1 : Int) (x2 : Int) (x3 : Int) (x4 : Int) (x5 : Int) (H : Hp) (K : Value → Hp → Prop) (h : W_layout_Sector x1 x2 x3 x4 x5 H K) : HCalls Tryd.prog 105 #[.agg #[.int .i64 x1, .int .i64 x2, .int .i64 x3], .int .i64 x4, .int .i64 x5] H K :=
  hcalls Tryd.func105 rfl (Nat.le_of_ble_eq_true rfl) (hw_safe (Λ := Cuts.none (fun _ => none)) mixWlayout _ _ _ _ _ (Eq.mp (by kernel_rfl) h) (obs_none _ _ _ _ _))

-- layout.good
def W_layout_good (x1 : Int) (x2 : Int) (H : Hp) (K : Value → Hp → Prop) : Prop :=
  BIf (decide (x1 ≥ (0 : Int))) (BIf (decide (x1 ≤ (32 : Int))) (K (.bool (decide (x2 > (0 : Int)))) H) (K (.bool false) H)) (K (.bool false) H)
def W_layout_good.Λ (_ : Value → Hp → Prop) : Cuts := Cuts.none (fun _ => none)
theorem W_layout_good.ok (x1 : Int) (x2 : Int) (H : Hp) (K : Value → Hp → Prop) (h : W_layout_good x1 x2 H K) : HCalls Tryd.prog 115 #[.int .i64 x1, .int .i64 x2] H K :=
  hcalls Tryd.func115 rfl (Nat.le_of_ble_eq_true rfl) (hw_safe (Λ := Cuts.none (fun _ => none)) mixWlayout _ _ _ _ _ (Eq.mp (by kernel_rfl) h) (obs_none _ _ _ _ _))

-- layout.per
def W_layout_per (x1 : Int) (H : Hp) (K : Value → Hp → Prop) : Prop :=
  BIf (decide (x1 < (32 : Int))) (K (.int .i64 (0 : Int)) H) (BIf (decide (x1 > (4096 : Int))) (K (.int .i64 (0 : Int)) H) (BIf ((bAnd .i64 x1 (IntKind.i64.wrap (x1 - (1 : Int)))) != (0 : Int)) (K (.int .i64 (0 : Int)) H) (((8 : Int) ≠ 0 ∧ IntKind.i64 = IntKind.i64 ∧ K (.int .i64 (IntKind.i64.wrap (Int.tdiv x1 (8 : Int)))) H))))
def W_layout_per.Λ (_ : Value → Hp → Prop) : Cuts := Cuts.none (fun _ => none)
theorem W_layout_per.ok (x1 : Int) (H : Hp) (K : Value → Hp → Prop) (h : W_layout_per x1 H K) : HCalls Tryd.prog 116 #[.int .i64 x1] H K :=
  hcalls Tryd.func116 rfl (Nat.le_of_ble_eq_true rfl) (hw_safe (Λ := Cuts.none (fun _ => none)) mixWlayout _ _ _ _ _ (Eq.mp (by kernel_rfl) h) (obs_none _ _ _ _ _))

-- layout.need
def W_layout_need (x1 : Int) (x2 : Int) (H : Hp) (K : Value → Hp → Prop) : Prop :=
  HCalls Tryd.prog 132 #[.int .i64 x1, .int .i64 x2] H fun v1 H1 => DI .i64 v1 fun x3 => K (.int .i64 (IntKind.i64.wrap ((9 : Int) + (IntKind.i64.wrap ((4 : Int) * x3))))) H1
def W_layout_need.Λ (_ : Value → Hp → Prop) : Cuts := Cuts.none (fun _ => none)
theorem W_layout_need.ok (x1 : Int) (x2 : Int) (H : Hp) (K : Value → Hp → Prop) (h : W_layout_need x1 x2 H K) : HCalls Tryd.prog 117 #[.int .i64 x1, .int .i64 x2] H K :=
  hcalls Tryd.func117 rfl (Nat.le_of_ble_eq_true rfl) (hw_safe (Λ := Cuts.none (fun _ => none)) mixWlayout _ _ _ _ _ (Eq.mp (by kernel_rfl) h) (obs_none _ _ _ _ _))

-- layout.room
def W_layout_room (x1 : Int) (x2 : Int) (H : Hp) (K : Value → Hp → Prop) : Prop :=
  (0 ≤ (IntKind.u64.wrap x1) ∧ (x2 ≠ 0 ∧ IntKind.i64 = IntKind.i64 ∧ K (.int .i64 (IntKind.i64.wrap ((IntKind.i64.wrap (Int.tdiv (IntKind.i64.wrap ((shlI .i64 (1 : Int) (IntKind.u64.wrap x1)) - (1 : Int))) x2)) + (1 : Int)))) H))
def W_layout_room.Λ (_ : Value → Hp → Prop) : Cuts := Cuts.none (fun _ => none)
theorem W_layout_room.ok (x1 : Int) (x2 : Int) (H : Hp) (K : Value → Hp → Prop) (h : W_layout_room x1 x2 H K) : HCalls Tryd.prog 132 #[.int .i64 x1, .int .i64 x2] H K :=
  hcalls Tryd.func132 rfl (Nat.le_of_ble_eq_true rfl) (hw_safe (Λ := Cuts.none (fun _ => none)) mixWlayout _ _ _ _ _ (Eq.mp (by kernel_rfl) h) (obs_none _ _ _ _ _))

end Go.Proofs.YtgkdkemhiglpdaaDoor.W

end
section
/-! LayA -/
/- layout, and its law's helpers: what they answer. -/
set_option maxRecDepth 100000
set_option linter.unusedSimpArgs false
set_option linter.unnecessarySimpa false
set_option linter.unusedSectionVars false

set_option linter.unusedVariables false
namespace Go.Proofs.YtgkdkemhiglpdaaDoor.Lay
open Go Go.Hw Go.Proofs.YtgkdkemhiglpdaaDoor.W

def perN (s : Int) : Nat := if s = 32 then 4 else if s = 64 then 8 else if s = 128 then 16 else if s = 256 then 32 else if s = 512 then 64 else if s = 1024 then 128 else if s = 2048 then 256 else if s = 4096 then 512 else 0

theorem bAnd_nat {x y : Nat} (hx : x < 2 ^ 63) (hy : y < 2 ^ 63) : bAnd .i64 (x : Int) (y : Int) = ((x &&& y : Nat) : Int) := by
  have hle : x &&& y ≤ x := Nat.and_le_left
  have h1 : (BitVec.ofInt 64 (x : Int) &&& BitVec.ofInt 64 (y : Int)).toNat = x &&& y := by
    simp only [BitVec.toNat_and, BitVec.ofInt_natCast, BitVec.toNat_ofNat]
    rw [Nat.mod_eq_of_lt (by omega), Nat.mod_eq_of_lt (by omega)]
  unfold bAnd
  rw [show IntKind.i64.bits = 64 from rfl, h1]
  exact i64w (by omega) (by omega)

theorem pow_table : (List.range 4097).all (fun n => if 32 ≤ n then (if n &&& (n - 1) == 0 then perN n != 0 && n / 8 == perN n else perN n == 0) else true) = true := by kernel_rfl

theorem perN_small {s : Int} (h : s < 32) : perN s = 0 := by
  unfold perN
  repeat (rw [if_neg (by omega)])
theorem perN_great {s : Int} (h : 4096 < s) : perN s = 0 := by
  unfold perN
  repeat (rw [if_neg (by omega)])

theorem per_ok (s : Int) (H : Hp) : HCalls Tryd.prog 116 #[.int .i64 s] H (RetE (.int .i64 (perN s)) H) := by
  apply W_layout_per.ok
  unfold W_layout_per
  rw [BIf_decide, BIf_decide, BIf_if]
  by_cases h1 : s < 32
  · rw [if_pos h1, perN_small h1]; exact RetE.mk _ _
  rw [if_neg h1]
  by_cases h2 : s > 4096
  · rw [if_pos h2, perN_great h2]; exact RetE.mk _ _
  rw [if_neg h2]
  obtain ⟨n, rfl⟩ := Int.eq_ofNat_of_zero_le (show 0 ≤ s by omega)
  have ht := List.all_eq_true.1 pow_table n (by simp; omega)
  rw [if_pos (by omega)] at ht
  rw [show ((n : Int) - 1) = ((n - 1 : Nat) : Int) by omega, i64w (by omega) (by omega), bAnd_nat (by omega) (by omega)]
  split at ht
  · rename_i h3
    simp only [Bool.and_eq_true, bne_iff_ne, beq_iff_eq] at ht h3
    rw [h3, if_neg (by simp)]
    refine ⟨by omega, rfl, RetE.of ?_⟩
    rw [show Int.tdiv (n : Int) 8 = ((n / 8 : Nat) : Int) from rfl, ht.2, i64w (by omega) (by have := ht.2; omega)]
  · rename_i h3
    simp only [beq_iff_eq] at ht h3
    rw [if_pos (by simp; omega), ht]
    exact RetE.mk _ _

/-- How many sectors 2^k words need. -/
def roomN (k p : Nat) : Nat := (2 ^ k - 1) / p + 1

theorem roomN_le {k p : Nat} (hk : k ≤ 33) : roomN k p ≤ 8589934592 := by
  unfold roomN
  have h1 : 2 ^ k ≤ 2 ^ 33 := Nat.pow_le_pow_right (by omega) hk
  have h2 : (2 ^ k - 1) / p ≤ 2 ^ k - 1 := Nat.div_le_self _ _
  have h3 : 1 ≤ 2 ^ k := Nat.one_le_two_pow
  omega

theorem pow_i64 {k : Nat} (h : k ≤ 62) : (2 : Nat) ^ k ≤ 4611686018427387904 := Nat.pow_le_pow_right (n := 2) (by omega) h

theorem shl_one {k : Nat} (h : k ≤ 62) : shlI .i64 1 (k : Int) = ((2 ^ k : Nat) : Int) := by
  unfold shlI
  rw [Int.toNat_natCast, show IntKind.i64.bits = 64 from rfl, Nat.min_eq_left (by omega), Int.one_mul]
  have := pow_i64 h
  rw [show ((2 : Int) ^ k) = ((2 ^ k : Nat) : Int) by simp]
  exact i64n (by omega)

theorem room_ok {k p : Nat} (hk : k ≤ 62) (hp : 0 < p) (hp2 : p < 2 ^ 62) (H : Hp) : HCalls Tryd.prog 132 #[.int .i64 k, .int .i64 p] H (RetE (.int .i64 (roomN k p)) H) := by
  apply W_layout_room.ok
  unfold W_layout_room
  have h1 := pow_i64 hk
  have h2 : 1 ≤ 2 ^ k := Nat.one_le_two_pow
  have h3 : (2 ^ k - 1) / p ≤ 2 ^ k - 1 := Nat.div_le_self _ _
  rw [u64w (by omega) (by omega), shl_one hk, i64w (x := ((2 ^ k : Nat) : Int) - 1) (by omega) (by omega)]
  rw [show (((2 ^ k : Nat) : Int) - 1) = ((2 ^ k - 1 : Nat) : Int) by omega, show Int.tdiv ((2 ^ k - 1 : Nat) : Int) (p : Int) = (((2 ^ k - 1) / p : Nat) : Int) from rfl]
  refine ⟨by omega, by omega, rfl, RetE.of ?_⟩
  rw [i64n (by omega), show ((((2 ^ k - 1) / p : Nat) : Int) + 1) = (((2 ^ k - 1) / p + 1 : Nat) : Int) by rfl, i64n (by omega)]
  rfl

theorem good_ok (k : Int) (p : Int) (H : Hp) : HCalls Tryd.prog 115 #[.int .i64 k, .int .i64 p] H (RetE (.bool (decide (0 ≤ k ∧ k ≤ 32 ∧ 0 < p))) H) := by
  apply W_layout_good.ok
  unfold W_layout_good
  rw [BIf_decide, BIf_decide]
  by_cases h1 : k ≥ 0
  · rw [if_pos h1]
    by_cases h2 : k ≤ 32
    · rw [if_pos h2]; refine RetE.of ?_; congr 2; simp; omega
    · rw [if_neg h2]; refine RetE.of ?_; congr 1; simp; omega
  · rw [if_neg h1]; refine RetE.of ?_; congr 1; simp; omega

/-- How many sectors a layout has. -/
def needN (k p : Nat) : Nat := 9 + 4 * roomN k p

theorem need_ok {k p : Nat} (hk : k ≤ 32) (hp : 0 < p) (hp2 : p < 2 ^ 62) (H : Hp) : HCalls Tryd.prog 117 #[.int .i64 k, .int .i64 p] H (RetE (.int .i64 (needN k p)) H) := by
  apply W_layout_need.ok
  unfold W_layout_need
  refine HCalls.use (room_ok (by omega) hp hp2 H) ?_
  try simp only [DI_int', DB_bool, DS_string, DP_pointer, DSl_slice, DM_map, DA_agg, DTup_tuple, DCons_cons, DNil_nil, NN_some, BIf_true, BIf_false, BIf_same, List.toList_toArray, Bool.not_true, Bool.not_false]
  have := roomN_le (k := k) (p := p) (by omega)
  refine RetE.of ?_
  rw [i64w (x := 4 * (roomN k p : Int)) (by omega) (by omega), i64w (by omega) (by omega)]
  unfold needN; simp

theorem perN_le (s : Int) : perN s ≤ 512 := by
  unfold perN
  repeat' split
  all_goals omega

/-- Need's answer. -/
def NeedV (k s : Int) : Int × Int := if 0 ≤ k ∧ k ≤ 32 ∧ 0 < perN s then (needN k.toNat (perN s), 0) else (0, 1)

theorem Need_ok (k s : Int) (H : Hp) : HCalls Tryd.prog 98 #[.int .i64 k, .int .i64 s] H (RetE (.tuple #[.int .i64 (NeedV k s).1, .int .i64 (NeedV k s).2]) H) := by
  apply W_layout_Need.ok
  unfold W_layout_Need
  refine HCalls.use (per_ok s H) ?_
  try simp only [DI_int', DB_bool, DS_string, DP_pointer, DSl_slice, DM_map, DA_agg, DTup_tuple, DCons_cons, DNil_nil, NN_some, BIf_true, BIf_false, BIf_same, List.toList_toArray, Bool.not_true, Bool.not_false]
  refine HCalls.use (good_ok k _ H) ?_
  try simp only [DI_int', DB_bool, DS_string, DP_pointer, DSl_slice, DM_map, DA_agg, DTup_tuple, DCons_cons, DNil_nil, NN_some, BIf_true, BIf_false, BIf_same, List.toList_toArray, Bool.not_true, Bool.not_false]
  unfold NeedV
  have hle := perN_le s
  by_cases h : 0 ≤ k ∧ k ≤ 32 ∧ 0 < perN s
  · rw [if_pos h]
    refine BIf_neg (by simp; omega) ?_
    refine HCalls.use (per_ok s H) ?_
    try simp only [DI_int', DB_bool, DS_string, DP_pointer, DSl_slice, DM_map, DA_agg, DTup_tuple, DCons_cons, DNil_nil, NN_some, BIf_true, BIf_false, BIf_same, List.toList_toArray, Bool.not_true, Bool.not_false]
    obtain ⟨n, rfl⟩ := Int.eq_ofNat_of_zero_le h.1
    refine HCalls.use (need_ok (by omega) h.2.2 (by omega) H) ?_
    try simp only [DI_int', DB_bool, DS_string, DP_pointer, DSl_slice, DM_map, DA_agg, DTup_tuple, DCons_cons, DNil_nil, NN_some, BIf_true, BIf_false, BIf_same, List.toList_toArray, Bool.not_true, Bool.not_false]
    exact RetE.mk _ _
  · rw [if_neg h]
    exact BIf_pos (by simp; omega) (RetE.mk _ _)

/-- The greatest exponent below k that fits. -/
def mostN (sec : Int) (p : Nat) : Nat → Option Nat
  | 0 => none
  | k + 1 => if (needN k p : Int) ≤ sec then some k else mostN sec p k

def MostV (sec s : Int) : Int × Bool := if perN s = 0 then (0, false) else match mostN sec (perN s) 33 with | some k => (k, true) | none => (0, false)

/-! ## The law's own -/

def lroomN (k p : Nat) : Nat := if 2 ^ k ≤ p then 1 else 2 ^ k / p

theorem perN_cases (s : Int) (h : perN s ≠ 0) : ∃ m, 2 ≤ m ∧ m ≤ 9 ∧ perN s = 2 ^ m := by
  unfold perN at h ⊢
  repeat' split
  all_goals first | exact ⟨2, by omega⟩ | exact ⟨3, by omega⟩ | exact ⟨4, by omega⟩ | exact ⟨5, by omega⟩ | exact ⟨6, by omega⟩ | exact ⟨7, by omega⟩ | exact ⟨8, by omega⟩ | exact ⟨9, by omega⟩ | skip
  exfalso
  repeat (rw [if_neg (by assumption)] at h)
  exact h rfl

theorem lroomN_eq {k m : Nat} : lroomN k (2 ^ m) = roomN k (2 ^ m) := by
  unfold lroomN roomN
  have h0 : 1 ≤ 2 ^ k := Nat.one_le_two_pow
  have h1 : 1 ≤ 2 ^ m := Nat.one_le_two_pow
  by_cases h : 2 ^ k ≤ 2 ^ m
  · rw [if_pos h, Nat.div_eq_of_lt (by omega)]
  · rw [if_neg h]
    have hm : m < k := by
      rcases Nat.lt_or_ge m k with h2 | h2
      · exact h2
      · exact absurd (Nat.pow_le_pow_right (by omega) h2) h
    obtain ⟨d, rfl⟩ : ∃ d, k = m + d := ⟨k - m, by omega⟩
    rw [Nat.pow_add, Nat.mul_div_cancel_left _ (by omega)]
    have h2 : 1 ≤ 2 ^ d := Nat.one_le_two_pow
    have : ∀ a b : Nat, 1 ≤ a → 1 ≤ b → (a * b - 1) / a = b - 1 := by
      intro a b ha hb
      have hab := Nat.mul_le_mul ha hb
      have hs : (b - 1) * a = a * b - a := by rw [Nat.sub_mul, Nat.mul_comm b a, Nat.one_mul]
      apply Nat.div_eq_of_lt_le
      · rw [hs]; omega
      · rw [show b - 1 + 1 = b by omega, Nat.mul_comm b a]; omega
    rw [this _ _ h1 h2]
    omega

theorem mostN_none {sec : Int} {p : Nat} : ∀ n, mostN sec p n = none → ∀ k, k < n → sec < needN k p
  | 0, _, k, hk => by omega
  | n + 1, h, k, hk => by
    unfold mostN at h
    split at h
    · cases h
    · rcases Nat.lt_succ_iff_lt_or_eq.1 hk with h1 | rfl
      · exact mostN_none n h k h1
      · omega

theorem mostN_some {sec : Int} {p : Nat} : ∀ n k, mostN sec p n = some k → k < n ∧ (needN k p : Int) ≤ sec ∧ (k + 1 < n → sec < needN (k + 1) p)
  | 0, k, h => by cases h
  | n + 1, k, h => by
    unfold mostN at h
    split at h
    · cases h
      exact ⟨by omega, by assumption, by omega⟩
    · obtain ⟨h1, h2, h3⟩ := mostN_some n k h
      refine ⟨by omega, h2, fun h4 => ?_⟩
      rcases Nat.lt_succ_iff_lt_or_eq.1 h4 with h5 | h5
      · exact h3 h5
      · rw [h5]; omega

end Go.Proofs.YtgkdkemhiglpdaaDoor.Lay

end
section
/-! Wlbits -/
/- Formulas of functions, printed by wip/tools/hwp.py. -/
set_option maxRecDepth 100000
set_option linter.unusedVariables false
namespace Go.Proofs.YtgkdkemhiglpdaaDoor.W
open Go Go.Hw

theorem mixWlbits : Tryd.prog.follows .mixedOrders = true := by kernel_rfl
-- math/bits.TrailingZeros64
def W_math_bits_TrailingZeros64 (x1 : Int) (H : Hp) (K : Value → Hp → Prop) : Prop :=
  BIf (x1 == (0 : Int)) (K (.int .i64 (64 : Int)) H) ((0 ≤ (58 : Int) ∧ ixI (shrI .u64 (IntKind.u64.wrap ((bAnd .u64 x1 (IntKind.u64.wrap (0 - x1))) * (285870213051353865 : Int))) (58 : Int)) 64 (Ld H ((⟨2, 0, none⟩ : Addr).add ((shrI .u64 (IntKind.u64.wrap ((bAnd .u64 x1 (IntKind.u64.wrap (0 - x1))) * (285870213051353865 : Int))) (58 : Int)).toNat * 1)) fun v1 => DI .u8 v1 fun x2 => K (.int .i64 (IntKind.i64.wrap x2)) H)))
def W_math_bits_TrailingZeros64.Λ (_ : Value → Hp → Prop) : Cuts := Cuts.none (fun _ => none)
theorem W_math_bits_TrailingZeros64.ok (x1 : Int) (H : Hp) (K : Value → Hp → Prop) (h : W_math_bits_TrailingZeros64 x1 H K) : HCalls Tryd.prog 103 #[.int .u64 x1] H K :=
  hcalls Tryd.func103 rfl (Nat.le_of_ble_eq_true rfl) (hw_safe (Λ := Cuts.none (fun _ => none)) mixWlbits _ _ _ _ _ (Eq.mp (by kernel_rfl) h) (obs_none _ _ _ _ _))

-- math/bits.Mul64
def W_math_bits_Mul64 (x1 : Int) (x2 : Int) (H : Hp) (K : Value → Hp → Prop) : Prop :=
  (0 ≤ (32 : Int) ∧ (0 ≤ (32 : Int) ∧ (0 ≤ (32 : Int) ∧ (0 ≤ (32 : Int) ∧ (0 ≤ (32 : Int) ∧ K (.tuple #[.int .u64 (IntKind.u64.wrap ((IntKind.u64.wrap ((IntKind.u64.wrap ((shrI .u64 x1 (32 : Int)) * (shrI .u64 x2 (32 : Int)))) + (shrI .u64 (IntKind.u64.wrap ((IntKind.u64.wrap ((shrI .u64 x1 (32 : Int)) * (bAnd .u64 x2 (4294967295 : Int)))) + (shrI .u64 (IntKind.u64.wrap ((bAnd .u64 x1 (4294967295 : Int)) * (bAnd .u64 x2 (4294967295 : Int)))) (32 : Int)))) (32 : Int)))) + (shrI .u64 (IntKind.u64.wrap ((bAnd .u64 (IntKind.u64.wrap ((IntKind.u64.wrap ((shrI .u64 x1 (32 : Int)) * (bAnd .u64 x2 (4294967295 : Int)))) + (shrI .u64 (IntKind.u64.wrap ((bAnd .u64 x1 (4294967295 : Int)) * (bAnd .u64 x2 (4294967295 : Int)))) (32 : Int)))) (4294967295 : Int)) + (IntKind.u64.wrap ((bAnd .u64 x1 (4294967295 : Int)) * (shrI .u64 x2 (32 : Int)))))) (32 : Int)))), .int .u64 (IntKind.u64.wrap (x1 * x2))]) H)))))
def W_math_bits_Mul64.Λ (_ : Value → Hp → Prop) : Cuts := Cuts.none (fun _ => none)
theorem W_math_bits_Mul64.ok (x1 : Int) (x2 : Int) (H : Hp) (K : Value → Hp → Prop) (h : W_math_bits_Mul64 x1 x2 H K) : HCalls Tryd.prog 111 #[.int .u64 x1, .int .u64 x2] H K :=
  hcalls Tryd.func111 rfl (Nat.le_of_ble_eq_true rfl) (hw_safe (Λ := Cuts.none (fun _ => none)) mixWlbits _ _ _ _ _ (Eq.mp (by kernel_rfl) h) (obs_none _ _ _ _ _))

-- math/bits.Len64
def W_math_bits_Len64.j7 (K : Value → Hp → Prop) (x4 : Int) (x5 : Int) (H : Hp) : Prop :=
  BIf (decide (x4 ≥ (256 : Int))) ((0 ≤ (8 : Int) ∧ (0 ≤ (IntKind.u8.wrap (shrI .u64 x4 (8 : Int))) ∧ ixB ((⟨#[0, 1, 2, 2, 3, 3, 3, 3, 4, 4, 4, 4, 4, 4, 4, 4, 5, 5, 5, 5, 5, 5, 5, 5, 5, 5, 5, 5, 5, 5, 5, 5, 6, 6, 6, 6, 6, 6, 6, 6, 6, 6, 6, 6, 6, 6, 6, 6, 6, 6, 6, 6, 6, 6, 6, 6, 6, 6, 6, 6, 6, 6, 6, 6, 7, 7, 7, 7, 7, 7, 7, 7, 7, 7, 7, 7, 7, 7, 7, 7, 7, 7, 7, 7, 7, 7, 7, 7, 7, 7, 7, 7, 7, 7, 7, 7, 7, 7, 7, 7, 7, 7, 7, 7, 7, 7, 7, 7, 7, 7, 7, 7, 7, 7, 7, 7, 7, 7, 7, 7, 7, 7, 7, 7, 7, 7, 7, 7, 8, 8, 8, 8, 8, 8, 8, 8, 8, 8, 8, 8, 8, 8, 8, 8, 8, 8, 8, 8, 8, 8, 8, 8, 8, 8, 8, 8, 8, 8, 8, 8, 8, 8, 8, 8, 8, 8, 8, 8, 8, 8, 8, 8, 8, 8, 8, 8, 8, 8, 8, 8, 8, 8, 8, 8, 8, 8, 8, 8, 8, 8, 8, 8, 8, 8, 8, 8, 8, 8, 8, 8, 8, 8, 8, 8, 8, 8, 8, 8, 8, 8, 8, 8, 8, 8, 8, 8, 8, 8, 8, 8, 8, 8, 8, 8, 8, 8, 8, 8, 8, 8, 8, 8, 8, 8, 8, 8, 8, 8, 8, 8, 8, 8, 8, 8, 8, 8, 8, 8, 8, 8, 8, 8, 8, 8, 8, 8]⟩) : ByteArray) (IntKind.u8.wrap (shrI .u64 x4 (8 : Int))).toNat fun x6 => K (.int .i64 (IntKind.i64.wrap ((IntKind.i64.wrap (x5 + (8 : Int))) + (IntKind.i64.wrap x6)))) H))) ((0 ≤ (IntKind.u8.wrap x4) ∧ ixB ((⟨#[0, 1, 2, 2, 3, 3, 3, 3, 4, 4, 4, 4, 4, 4, 4, 4, 5, 5, 5, 5, 5, 5, 5, 5, 5, 5, 5, 5, 5, 5, 5, 5, 6, 6, 6, 6, 6, 6, 6, 6, 6, 6, 6, 6, 6, 6, 6, 6, 6, 6, 6, 6, 6, 6, 6, 6, 6, 6, 6, 6, 6, 6, 6, 6, 7, 7, 7, 7, 7, 7, 7, 7, 7, 7, 7, 7, 7, 7, 7, 7, 7, 7, 7, 7, 7, 7, 7, 7, 7, 7, 7, 7, 7, 7, 7, 7, 7, 7, 7, 7, 7, 7, 7, 7, 7, 7, 7, 7, 7, 7, 7, 7, 7, 7, 7, 7, 7, 7, 7, 7, 7, 7, 7, 7, 7, 7, 7, 7, 8, 8, 8, 8, 8, 8, 8, 8, 8, 8, 8, 8, 8, 8, 8, 8, 8, 8, 8, 8, 8, 8, 8, 8, 8, 8, 8, 8, 8, 8, 8, 8, 8, 8, 8, 8, 8, 8, 8, 8, 8, 8, 8, 8, 8, 8, 8, 8, 8, 8, 8, 8, 8, 8, 8, 8, 8, 8, 8, 8, 8, 8, 8, 8, 8, 8, 8, 8, 8, 8, 8, 8, 8, 8, 8, 8, 8, 8, 8, 8, 8, 8, 8, 8, 8, 8, 8, 8, 8, 8, 8, 8, 8, 8, 8, 8, 8, 8, 8, 8, 8, 8, 8, 8, 8, 8, 8, 8, 8, 8, 8, 8, 8, 8, 8, 8, 8, 8, 8, 8, 8, 8, 8, 8, 8, 8, 8, 8]⟩) : ByteArray) (IntKind.u8.wrap x4).toNat fun x7 => K (.int .i64 (IntKind.i64.wrap (x5 + (IntKind.i64.wrap x7)))) H))
def W_math_bits_Len64.j4 (K : Value → Hp → Prop) (x2 : Int) (x3 : Int) (H : Hp) : Prop :=
  BIf (decide (x2 ≥ (65536 : Int))) ((0 ≤ (16 : Int) ∧ W_math_bits_Len64.j7 K (shrI .u64 x2 (16 : Int)) (IntKind.i64.wrap (x3 + (16 : Int))) H)) (W_math_bits_Len64.j7 K x2 x3 H)
def W_math_bits_Len64 (x1 : Int) (H : Hp) (K : Value → Hp → Prop) : Prop :=
  BIf (decide (x1 ≥ (4294967296 : Int))) ((0 ≤ (32 : Int) ∧ W_math_bits_Len64.j4 K (shrI .u64 x1 (32 : Int)) (32 : Int) H)) (W_math_bits_Len64.j4 K x1 (0 : Int) H)
def W_math_bits_Len64.Λ (K : Value → Hp → Prop) : Cuts := ⟨fun i => match Nat.beq i 7 with | true => some (fun E D H => DG (E.get? 0) fun w0 => DI .u64 w0 fun x4 => DG (E.get? 2) fun w2 => DI .i64 w2 fun x5 => DNilD D (W_math_bits_Len64.j7 K x4 x5 H)) | false => match Nat.beq i 4 with | true => some (fun E D H => DG (E.get? 0) fun w0 => DI .u64 w0 fun x2 => DG (E.get? 2) fun w2 => DI .i64 w2 fun x3 => DNilD D (W_math_bits_Len64.j4 K x2 x3 H)) | false => none, fun i => none, (fun _ => none)⟩
theorem W_math_bits_Len64.ok (x1 : Int) (H : Hp) (K : Value → Hp → Prop) (h : W_math_bits_Len64 x1 H K) : HCalls Tryd.prog 134 #[.int .u64 x1] H K :=
  hcalls Tryd.func134 rfl (Nat.le_of_ble_eq_true rfl) (hw_safe (Λ := (W_math_bits_Len64.Λ K)) mixWlbits _ _ _ _ _ (Eq.mp (by kernel_rfl) h) (obs_seq obs_region rfl (obs_seqc (obs_seq obs_region rfl (obs_cond (obs_seq obs_region rfl obs_region) obs_skip)) rfl (fun E D H h => by
      obtain ⟨w0, e0, g1⟩ := DG.out h
      obtain ⟨x2, rfl, g2⟩ := DI.out g1
      obtain ⟨w2, e2, g3⟩ := DG.out g2
      obtain ⟨x3, rfl, g4⟩ := DI.out g3
      obtain ⟨rfl, h'⟩ := DNilD.out g4
      exact (hw_safe (Λ := (W_math_bits_Len64.Λ K)) mixWlbits _ _ [(0, .int .u64 x2), (2, .int .i64 x3)] [] H (Eq.mp (by kernel_rfl) h') (obs_seqc (obs_seq obs_region rfl (obs_cond (obs_seq obs_region rfl obs_region) obs_skip)) rfl (fun E D H h => by
          obtain ⟨w0, e0, g1⟩ := DG.out h
          obtain ⟨x4, rfl, g2⟩ := DI.out g1
          obtain ⟨w2, e2, g3⟩ := DG.out g2
          obtain ⟨x5, rfl, g4⟩ := DI.out g3
          obtain ⟨rfl, h'⟩ := DNilD.out g4
          exact (hw_safe (Λ := (W_math_bits_Len64.Λ K)) mixWlbits _ _ [(0, .int .u64 x4), (2, .int .i64 x5)] [] H (Eq.mp (by kernel_rfl) h') (obs_seq (obs_seq obs_region rfl (obs_cond (obs_seq obs_region rfl obs_region) obs_skip)) rfl (obs_seq obs_region rfl obs_ret))).weaken (EnvLe.cons e0 (EnvLe.cons e2 (EnvLe.nil _))) (Hp.le_refl _)))).weaken (EnvLe.cons e0 (EnvLe.cons e2 (EnvLe.nil _))) (Hp.le_refl _)))))

-- math/bits.TrailingZeros
def W_math_bits_TrailingZeros (x1 : Int) (H : Hp) (K : Value → Hp → Prop) : Prop :=
  HCalls Tryd.prog 103 #[.int .u64 x1] H fun v1 H1 => DI .i64 v1 fun x2 => K (.int .i64 x2) H1
def W_math_bits_TrailingZeros.Λ (_ : Value → Hp → Prop) : Cuts := Cuts.none (fun _ => none)
theorem W_math_bits_TrailingZeros.ok (x1 : Int) (H : Hp) (K : Value → Hp → Prop) (h : W_math_bits_TrailingZeros x1 H K) : HCalls Tryd.prog 137 #[.int .u64 x1] H K :=
  hcalls Tryd.func137 rfl (Nat.le_of_ble_eq_true rfl) (hw_safe (Λ := Cuts.none (fun _ => none)) mixWlbits _ _ _ _ _ (Eq.mp (by kernel_rfl) h) (obs_none _ _ _ _ _))

-- math/bits.TrailingZeros32
def W_math_bits_TrailingZeros32 (x1 : Int) (H : Hp) (K : Value → Hp → Prop) : Prop :=
  BIf (x1 == (0 : Int)) (K (.int .i64 (32 : Int)) H) ((0 ≤ (27 : Int) ∧ ixI (shrI .u32 (IntKind.u32.wrap ((bAnd .u32 x1 (IntKind.u32.wrap (0 - x1))) * (125613361 : Int))) (27 : Int)) 32 (Ld H ((⟨4, 0, none⟩ : Addr).add ((shrI .u32 (IntKind.u32.wrap ((bAnd .u32 x1 (IntKind.u32.wrap (0 - x1))) * (125613361 : Int))) (27 : Int)).toNat * 1)) fun v1 => DI .u8 v1 fun x2 => K (.int .i64 (IntKind.i64.wrap x2)) H)))
def W_math_bits_TrailingZeros32.Λ (_ : Value → Hp → Prop) : Cuts := Cuts.none (fun _ => none)
theorem W_math_bits_TrailingZeros32.ok (x1 : Int) (H : Hp) (K : Value → Hp → Prop) (h : W_math_bits_TrailingZeros32 x1 H K) : HCalls Tryd.prog 141 #[.int .u32 x1] H K :=
  hcalls Tryd.func141 rfl (Nat.le_of_ble_eq_true rfl) (hw_safe (Λ := Cuts.none (fun _ => none)) mixWlbits _ _ _ _ _ (Eq.mp (by kernel_rfl) h) (obs_none _ _ _ _ _))

end Go.Proofs.YtgkdkemhiglpdaaDoor.W

end
section
/-! Wroot -/
/- Formulas of functions, printed by wip/tools/hwp.py. -/
set_option maxRecDepth 100000
set_option linter.unusedVariables false
namespace Go.Proofs.YtgkdkemhiglpdaaDoor.W
open Go Go.Hw

theorem mixWroot : Tryd.prog.follows .mixedOrders = true := by kernel_rfl
-- root.Fits
def W_root_Fits (x1 : Int) (H : Hp) (K : Value → Hp → Prop) : Prop :=
  BIf (decide (x1 < (1 : Int))) (K (.tuple #[.int .i64 (0 : Int), .bool false]) H) (BIf (decide (x1 > (4294967296 : Int))) (K (.tuple #[.int .i64 (0 : Int), .bool false]) H) (BIf ((bAnd .i64 x1 (IntKind.i64.wrap (x1 - (1 : Int)))) != (0 : Int)) (K (.tuple #[.int .i64 (0 : Int), .bool false]) H) (HCalls Tryd.prog 103 #[.int .u64 (IntKind.u64.wrap x1)] H fun v1 H1 => DI .i64 v1 fun x2 => K (.tuple #[.int .i64 x2, .bool true]) H1)))
def W_root_Fits.Λ (_ : Value → Hp → Prop) : Cuts := Cuts.none (fun _ => none)
theorem W_root_Fits.ok (x1 : Int) (H : Hp) (K : Value → Hp → Prop) (h : W_root_Fits x1 H K) : HCalls Tryd.prog 76 #[.int .i64 x1] H K :=
  hcalls Tryd.func76 rfl (Nat.le_of_ble_eq_true rfl) (hw_safe (Λ := Cuts.none (fun _ => none)) mixWroot _ _ _ _ _ (Eq.mp (by kernel_rfl) h) (obs_none _ _ _ _ _))

end Go.Proofs.YtgkdkemhiglpdaaDoor.W

end
section
/-! Wshape -/
/- Formulas of functions, printed by wip/tools/hwp.py. -/
set_option maxRecDepth 100000
set_option linter.unusedVariables false
namespace Go.Proofs.YtgkdkemhiglpdaaDoor.W
open Go Go.Hw

theorem mixWshape : Tryd.prog.follows .mixedOrders = true := by kernel_rfl
-- shape.Good
def W_shape_Good (x1 : Int) (x2 : Int) (H : Hp) (K : Value → Hp → Prop) : Prop :=
  Nw H (.obj (.cells #[.int .i64 x1, .int .i64 x2] 29)) fun b1 H1 => Ld H1 ((⟨b1, 0, none⟩ : Addr).add 0) fun v1 => DI .i64 v1 fun x3 => HCalls Tryd.prog 76 #[.int .i64 x3] H1 fun v2 H2 => DTup v2 fun l1 => DCons l1 fun v3 l2 => DI .i64 v3 fun x4 => DCons l2 fun v4 l3 => DB v4 fun c1 => DNil l3 (Ld H2 ((⟨b1, 0, none⟩ : Addr).add 1) fun v5 => DI .i64 v5 fun x5 => HCalls Tryd.prog 76 #[.int .i64 x5] H2 fun v6 H3 => DTup v6 fun l4 => DCons l4 fun v7 l5 => DI .i64 v7 fun x6 => DCons l5 fun v8 l6 => DB v8 fun c2 => DNil l6 (BIf c1 (BIf c2 (K (.bool (decide ((IntKind.i64.wrap (x4 + x6)) ≤ (32 : Int)))) H3) (K (.bool false) H3)) (K (.bool false) H3)))
def W_shape_Good.Λ (_ : Value → Hp → Prop) : Cuts := Cuts.none (fun _ => none)
theorem W_shape_Good.ok (x1 : Int) (x2 : Int) (H : Hp) (K : Value → Hp → Prop) (h : W_shape_Good x1 x2 H K) : HCalls Tryd.prog 41 #[.agg #[.int .i64 x1, .int .i64 x2]] H K :=
  hcalls Tryd.func41 rfl (Nat.le_of_ble_eq_true rfl) (hw_safe (Λ := Cuts.none (fun _ => none)) mixWshape _ _ _ _ _ (Eq.mp (by kernel_rfl) h) (obs_none _ _ _ _ _))

-- shape.Size
def W_shape_Size (x1 : Int) (x2 : Int) (H : Hp) (K : Value → Hp → Prop) : Prop :=
  Nw H (.obj (.cells #[.int .i64 x1, .int .i64 x2] 29)) fun b1 H1 => LdA H1 (⟨b1, 0, none⟩ : Addr) 2 fun l1 => HCalls Tryd.prog 41 #[.agg l1.toArray] H1 fun v1 H2 => DB v1 fun c1 => BIf (!c1) (K (.int .i64 (0 : Int)) H2) (Ld H2 ((⟨b1, 0, none⟩ : Addr).add 0) fun v2 => DI .i64 v2 fun x3 => Ld H2 ((⟨b1, 0, none⟩ : Addr).add 1) fun v3 => DI .i64 v3 fun x4 => K (.int .i64 (IntKind.i64.wrap (x3 * x4))) H2)
def W_shape_Size.Λ (_ : Value → Hp → Prop) : Cuts := Cuts.none (fun _ => none)
theorem W_shape_Size.ok (x1 : Int) (x2 : Int) (H : Hp) (K : Value → Hp → Prop) (h : W_shape_Size x1 x2 H K) : HCalls Tryd.prog 48 #[.agg #[.int .i64 x1, .int .i64 x2]] H K :=
  hcalls Tryd.func48 rfl (Nat.le_of_ble_eq_true rfl) (hw_safe (Λ := Cuts.none (fun _ => none)) mixWshape _ _ _ _ _ (Eq.mp (by kernel_rfl) h) (obs_none _ _ _ _ _))

end Go.Proofs.YtgkdkemhiglpdaaDoor.W

end
section
/-! Wabacistref03 -/
/- Formulas of functions, printed by wip/tools/hwp.py. -/
set_option maxRecDepth 100000
set_option linter.unusedVariables false
namespace Go.Proofs.YtgkdkemhiglpdaaDoor.W
open Go Go.Hw

theorem mixWabacistref03 : Tryd.prog.follows .mixedOrders = true := by kernel_rfl
-- abacistref03.Fits
def W_abacistref03_Fits.l3 (K : Value → Hp → Prop) : Nat → Int → Int → Int → Hp → Prop
  | 0, _, _, _, _ => False
  | k + 1, x2, x3, x4, H =>
    let R3 := W_abacistref03_Fits.l3 K k
    BIf (decide (x4 ≤ (32 : Int))) (BIf (x2 == x3) (K (.int .i64 x4) H) (R3 x2 (IntKind.i64.wrap ((2 : Int) * x3)) (IntKind.i64.wrap (x4 + (1 : Int))) H)) (K (.int .i64 (-1 : Int)) H)
def W_abacistref03_Fits (x1 : Int) (H : Hp) (K : Value → Hp → Prop) : Prop :=
  (∃ k, W_abacistref03_Fits.l3 K k x1 (1 : Int) (0 : Int) H)
def W_abacistref03_Fits.l3.L (K : Value → Hp → Prop) (k : Nat) : Mid := fun E D H =>
  DG (E.get? 0) fun w0 => DI .i64 w0 fun x2 => DG (E.get? 3) fun w3 => DI .i64 w3 fun x3 => DG (E.get? 4) fun w4 => DI .i64 w4 fun x4 => DNilD D (W_abacistref03_Fits.l3 K k x2 x3 x4 H)
def W_abacistref03_Fits.Λ3 (_ : Value → Hp → Prop) (_R3 : Int → Int → Int → Hp → Prop) : Cuts := Cuts.none (fun _ => none)
def W_abacistref03_Fits.Λ (K : Value → Hp → Prop) : Cuts := ⟨fun i => none, fun i => match Nat.beq i 3 with | true => some (fun E D H => ∃ k, W_abacistref03_Fits.l3.L K k E D H) | false => none, (fun _ => none)⟩
theorem W_abacistref03_Fits.ok (x1 : Int) (H : Hp) (K : Value → Hp → Prop) (h : W_abacistref03_Fits x1 H K) : HCalls Tryd.prog 42 #[.int .i64 x1] H K :=
  hcalls Tryd.func42 rfl (Nat.le_of_ble_eq_true rfl) (hw_safe (Λ := (W_abacistref03_Fits.Λ K)) mixWabacistref03 _ _ _ _ _ (Eq.mp (by kernel_rfl) h) (obs_seq obs_region rfl (obs_seq obs_region rfl (obs_seq (obs_seq obs_region rfl (obs_block (obs_loop rfl (fun E D H h => by
      refine Safe.loop' (W_abacistref03_Fits.l3.L K) (fun E D H h => ?_) (fun k E D H h => ?_) E D H h
      · obtain ⟨w0, e0, g1⟩ := DG.out h; obtain ⟨x2, rfl, g2⟩ := DI.out g1; obtain ⟨w3, e3, g3⟩ := DG.out g2; obtain ⟨x3, rfl, g4⟩ := DI.out g3; obtain ⟨w4, e4, g5⟩ := DG.out g4; obtain ⟨x4, rfl, g6⟩ := DI.out g5; obtain ⟨rfl, h'⟩ := DNilD.out g6; exact h'
      · obtain ⟨w0, e0, g1⟩ := DG.out h
        obtain ⟨x2, rfl, g2⟩ := DI.out g1
        obtain ⟨w3, e3, g3⟩ := DG.out g2
        obtain ⟨x3, rfl, g4⟩ := DI.out g3
        obtain ⟨w4, e4, g5⟩ := DG.out g4
        obtain ⟨x4, rfl, g6⟩ := DI.out g5
        obtain ⟨rfl, h'⟩ := DNilD.out g6
        exact (hw_safe (Λ := (W_abacistref03_Fits.Λ3 K (W_abacistref03_Fits.l3 K k))) mixWabacistref03 _ _ [(0, .int .i64 x2), (3, .int .i64 x3), (4, .int .i64 x4)] [] H (Eq.mp (by kernel_rfl) h') (obs_seq (obs_seq obs_region rfl (obs_cond obs_skip obs_exit)) rfl (obs_seq (obs_block (obs_seq (obs_seq obs_region rfl (obs_cond (obs_seq obs_region rfl obs_ret) obs_skip)) rfl obs_region)) rfl obs_region))).weaken (EnvLe.cons e0 (EnvLe.cons e3 (EnvLe.cons e4 (EnvLe.nil _)))) (Hp.le_refl _))))) rfl (obs_seq obs_region rfl obs_ret)))))

end Go.Proofs.YtgkdkemhiglpdaaDoor.W

end
section
/-! Wabacistref06 -/
/- Formulas of functions, printed by wip/tools/hwp.py. -/
set_option maxRecDepth 100000
set_option linter.unusedVariables false
namespace Go.Proofs.YtgkdkemhiglpdaaDoor.W
open Go Go.Hw

theorem mixWabacistref06 : Tryd.prog.follows .mixedOrders = true := by kernel_rfl
-- abacistref06.Good
def W_abacistref06_Good (x1 : Int) (x2 : Int) (H : Hp) (K : Value → Hp → Prop) : Prop :=
  Nw H (.obj (.cells #[.int .i64 x1, .int .i64 x2] 29)) fun b1 H1 => Ld H1 ((⟨b1, 0, none⟩ : Addr).add 0) fun v1 => DI .i64 v1 fun x3 => HCalls Tryd.prog 42 #[.int .i64 x3] H1 fun v2 H2 => DI .i64 v2 fun x4 => Ld H2 ((⟨b1, 0, none⟩ : Addr).add 1) fun v3 => DI .i64 v3 fun x5 => HCalls Tryd.prog 42 #[.int .i64 x5] H2 fun v4 H3 => DI .i64 v4 fun x6 => BIf (decide (x4 ≥ (0 : Int))) (BIf (decide (x6 ≥ (0 : Int))) (K (.bool (decide ((IntKind.i64.wrap (x4 + x6)) ≤ (32 : Int)))) H3) (K (.bool false) H3)) (K (.bool false) H3)
def W_abacistref06_Good.Λ (_ : Value → Hp → Prop) : Cuts := Cuts.none (fun _ => none)
theorem W_abacistref06_Good.ok (x1 : Int) (x2 : Int) (H : Hp) (K : Value → Hp → Prop) (h : W_abacistref06_Good x1 x2 H K) : HCalls Tryd.prog 15 #[.agg #[.int .i64 x1, .int .i64 x2]] H K :=
  hcalls Tryd.func15 rfl (Nat.le_of_ble_eq_true rfl) (hw_safe (Λ := Cuts.none (fun _ => none)) mixWabacistref06 _ _ _ _ _ (Eq.mp (by kernel_rfl) h) (obs_none _ _ _ _ _))

-- abacistref06.Transpose
def W_abacistref06_Transpose.l6 (K : Value → Hp → Prop) (R3 : Option Addr → Nat → Nat → Addr → Option Addr → Nat → Nat → Int → Hp → Prop) : Nat → Option Addr → Nat → Nat → Addr → Option Addr → Nat → Nat → Int → Int → Hp → Prop
  | 0, _, _, _, _, _, _, _, _, _, _ => False
  | k + 1, A5, n5, m5, a2, A6, n6, m6, x5, x6, H =>
    let R6 := W_abacistref06_Transpose.l6 K R3 k
    Ld H (a2.add 1) fun v3 => DI .i64 v3 fun x7 => BIf (decide (x6 < x7)) (Ld H (a2.add 0) fun v4 => DI .i64 v4 fun x8 => Ld H (a2.add 1) fun v5 => DI .i64 v5 fun x9 => ixI (IntKind.i64.wrap ((IntKind.i64.wrap (x5 * x9)) + x6)) n5 (NN A5 fun a3 => Ld H (a3.add ((IntKind.i64.wrap ((IntKind.i64.wrap (x5 * x9)) + x6)).toNat * 1)) fun v6 => DI .u64 v6 fun x10 => ixI (IntKind.i64.wrap ((IntKind.i64.wrap (x6 * x8)) + x5)) n6 (NN A6 fun a4 => St H ((a4.add ((IntKind.i64.wrap ((IntKind.i64.wrap (x6 * x8)) + x5)).toNat * 1)).add 0) (.int .u64 x10) fun H4 => R6 A5 n5 m5 a2 A6 n6 m6 x5 (IntKind.i64.wrap (x6 + (1 : Int))) H4))) (R3 A5 n5 m5 a2 A6 n6 m6 (IntKind.i64.wrap (x5 + (1 : Int))) H)
def W_abacistref06_Transpose.l3 (K : Value → Hp → Prop) : Nat → Option Addr → Nat → Nat → Addr → Option Addr → Nat → Nat → Int → Hp → Prop
  | 0, _, _, _, _, _, _, _, _, _ => False
  | k + 1, A3, n3, m3, a1, A4, n4, m4, x3, H =>
    let R3 := W_abacistref06_Transpose.l3 K k
    Ld H (a1.add 0) fun v2 => DI .i64 v2 fun x4 => BIf (decide (x3 < x4)) ((∃ k, W_abacistref06_Transpose.l6 K R3 k A3 n3 m3 a1 A4 n4 m4 x3 (0 : Int) H)) (K (.slice A4 n4 m4) H)
def W_abacistref06_Transpose (A1 : Option Addr) (n1 : Nat) (m1 : Nat) (x1 : Int) (x2 : Int) (H : Hp) (K : Value → Hp → Prop) : Prop :=
  Nw H (.obj (.cells #[.int .i64 x1, .int .i64 x2] 29)) fun b1 H1 => Nw H1 (.row [] 22 0) fun b2 H2 => AppK Tryd.prog 22 (.slice (some ⟨b2, 0, none⟩) 0 0) (.slice A1 n1 m1) H2 fun v1 H3 => DSl v1 fun A2 n2 m2 => (∃ k, W_abacistref06_Transpose.l3 K k A1 n1 m1 (⟨b1, 0, none⟩ : Addr) A2 n2 m2 (0 : Int) H3)
def W_abacistref06_Transpose.l3.L (K : Value → Hp → Prop) (k : Nat) : Mid := fun E D H =>
  DG (E.get? 0) fun w0 => DSl w0 fun A3 n3 m3 => DG (E.get? 3) fun w3 => DP w3 fun pw3 => NN pw3 fun a1 => DG (E.get? 5) fun w5 => DSl w5 fun A4 n4 m4 => DG (E.get? 6) fun w6 => DI .i64 w6 fun x3 => DNilD D (W_abacistref06_Transpose.l3 K k A3 n3 m3 a1 A4 n4 m4 x3 H)
def W_abacistref06_Transpose.l6.L (K : Value → Hp → Prop) (R3 : Option Addr → Nat → Nat → Addr → Option Addr → Nat → Nat → Int → Hp → Prop) (k : Nat) : Mid := fun E D H =>
  DG (E.get? 0) fun w0 => DSl w0 fun A5 n5 m5 => DG (E.get? 3) fun w3 => DP w3 fun pw3 => NN pw3 fun a2 => DG (E.get? 5) fun w5 => DSl w5 fun A6 n6 m6 => DG (E.get? 6) fun w6 => DI .i64 w6 fun x5 => DG (E.get? 7) fun w7 => DI .i64 w7 fun x6 => DNilD D (W_abacistref06_Transpose.l6 K R3 k A5 n5 m5 a2 A6 n6 m6 x5 x6 H)
def W_abacistref06_Transpose.Λ6 (_ : Value → Hp → Prop) (_R3 : Option Addr → Nat → Nat → Addr → Option Addr → Nat → Nat → Int → Hp → Prop) (_R6 : Option Addr → Nat → Nat → Addr → Option Addr → Nat → Nat → Int → Int → Hp → Prop) : Cuts := Cuts.none (fun i => match Nat.beq i 8 with | true => some ([], [0, 1, 2, 3, 4, 5, 6, 7, 8, 9, 10, 11, 12, 13, 14, 15, 16], 17) | false => none)
def W_abacistref06_Transpose.Λ3 (K : Value → Hp → Prop) (R3 : Option Addr → Nat → Nat → Addr → Option Addr → Nat → Nat → Int → Hp → Prop) : Cuts := ⟨fun i => none, fun i => match Nat.beq i 6 with | true => some (fun E D H => ∃ k, W_abacistref06_Transpose.l6.L K R3 k E D H) | false => none, (fun i => match Nat.beq i 8 with | true => some ([], [0, 1, 2, 3, 4, 5, 6, 7, 8, 9, 10, 11, 12, 13, 14, 15, 16], 17) | false => none)⟩
def W_abacistref06_Transpose.Λ (K : Value → Hp → Prop) : Cuts := ⟨fun i => none, fun i => match Nat.beq i 3 with | true => some (fun E D H => ∃ k, W_abacistref06_Transpose.l3.L K k E D H) | false => none, (fun i => match Nat.beq i 8 with | true => some ([], [0, 1, 2, 3, 4, 5, 6, 7, 8, 9, 10, 11, 12, 13, 14, 15, 16], 17) | false => none)⟩
theorem W_abacistref06_Transpose.ok (A1 : Option Addr) (n1 : Nat) (m1 : Nat) (x1 : Int) (x2 : Int) (H : Hp) (K : Value → Hp → Prop) (h : W_abacistref06_Transpose A1 n1 m1 x1 x2 H K) : HCalls Tryd.prog 20 #[.slice A1 n1 m1, .agg #[.int .i64 x1, .int .i64 x2]] H K :=
  hcalls Tryd.func20 rfl (Nat.le_of_ble_eq_true rfl) (hw_safe (Λ := (W_abacistref06_Transpose.Λ K)) mixWabacistref06 _ _ _ _ _ (Eq.mp (by kernel_rfl) h) (obs_seq obs_region rfl (obs_seq obs_region rfl (obs_seq (obs_seq obs_region rfl (obs_block (obs_loop rfl (fun E D H h => by
      refine Safe.loop' (W_abacistref06_Transpose.l3.L K) (fun E D H h => ?_) (fun k E D H h => ?_) E D H h
      · obtain ⟨w0, e0, g1⟩ := DG.out h; obtain ⟨A3, n3, m3, rfl, g2⟩ := DSl.out g1; obtain ⟨w3, e3, g3⟩ := DG.out g2; obtain ⟨pw3, rfl, g4⟩ := DP.out g3; obtain ⟨a1, rfl, g5⟩ := NN.out g4; obtain ⟨w5, e5, g6⟩ := DG.out g5; obtain ⟨A4, n4, m4, rfl, g7⟩ := DSl.out g6; obtain ⟨w6, e6, g8⟩ := DG.out g7; obtain ⟨x3, rfl, g9⟩ := DI.out g8; obtain ⟨rfl, h'⟩ := DNilD.out g9; exact h'
      · obtain ⟨w0, e0, g1⟩ := DG.out h
        obtain ⟨A3, n3, m3, rfl, g2⟩ := DSl.out g1
        obtain ⟨w3, e3, g3⟩ := DG.out g2
        obtain ⟨pw3, rfl, g4⟩ := DP.out g3
        obtain ⟨a1, rfl, g5⟩ := NN.out g4
        obtain ⟨w5, e5, g6⟩ := DG.out g5
        obtain ⟨A4, n4, m4, rfl, g7⟩ := DSl.out g6
        obtain ⟨w6, e6, g8⟩ := DG.out g7
        obtain ⟨x3, rfl, g9⟩ := DI.out g8
        obtain ⟨rfl, h'⟩ := DNilD.out g9
        exact (hw_safe (Λ := (W_abacistref06_Transpose.Λ3 K (W_abacistref06_Transpose.l3 K k))) mixWabacistref06 _ _ [(0, .slice A3 n3 m3), (3, .pointer (some a1)), (5, .slice A4 n4 m4), (6, .int .i64 x3)] [] H (Eq.mp (by kernel_rfl) h') (obs_seq (obs_seq obs_region rfl (obs_cond obs_skip obs_exit)) rfl (obs_seq (obs_block (obs_seq obs_region rfl (obs_block (obs_loop rfl (fun E D H h => by
            refine Safe.loop' (W_abacistref06_Transpose.l6.L K (W_abacistref06_Transpose.l3 K k)) (fun E D H h => ?_) (fun k E D H h => ?_) E D H h
            · obtain ⟨w0, e0, g1⟩ := DG.out h; obtain ⟨A5, n5, m5, rfl, g2⟩ := DSl.out g1; obtain ⟨w3, e3, g3⟩ := DG.out g2; obtain ⟨pw3, rfl, g4⟩ := DP.out g3; obtain ⟨a2, rfl, g5⟩ := NN.out g4; obtain ⟨w5, e5, g6⟩ := DG.out g5; obtain ⟨A6, n6, m6, rfl, g7⟩ := DSl.out g6; obtain ⟨w6, e6, g8⟩ := DG.out g7; obtain ⟨x5, rfl, g9⟩ := DI.out g8; obtain ⟨w7, e7, g10⟩ := DG.out g9; obtain ⟨x6, rfl, g11⟩ := DI.out g10; obtain ⟨rfl, h'⟩ := DNilD.out g11; exact h'
            · obtain ⟨w0, e0, g1⟩ := DG.out h
              obtain ⟨A5, n5, m5, rfl, g2⟩ := DSl.out g1
              obtain ⟨w3, e3, g3⟩ := DG.out g2
              obtain ⟨pw3, rfl, g4⟩ := DP.out g3
              obtain ⟨a2, rfl, g5⟩ := NN.out g4
              obtain ⟨w5, e5, g6⟩ := DG.out g5
              obtain ⟨A6, n6, m6, rfl, g7⟩ := DSl.out g6
              obtain ⟨w6, e6, g8⟩ := DG.out g7
              obtain ⟨x5, rfl, g9⟩ := DI.out g8
              obtain ⟨w7, e7, g10⟩ := DG.out g9
              obtain ⟨x6, rfl, g11⟩ := DI.out g10
              obtain ⟨rfl, h'⟩ := DNilD.out g11
              exact (hw_safe (Λ := (W_abacistref06_Transpose.Λ6 K (W_abacistref06_Transpose.l3 K k) (W_abacistref06_Transpose.l6 K (W_abacistref06_Transpose.l3 K k) k))) mixWabacistref06 _ _ [(0, .slice A5 n5 m5), (3, .pointer (some a2)), (5, .slice A6 n6 m6), (6, .int .i64 x5), (7, .int .i64 x6)] [] H (Eq.mp (by kernel_rfl) h') (obs_seq (obs_seq obs_region rfl (obs_cond obs_skip obs_exit)) rfl (obs_seq (obs_block obs_region) rfl obs_region))).weaken (EnvLe.cons e0 (EnvLe.cons e3 (EnvLe.cons e5 (EnvLe.cons e6 (EnvLe.cons e7 (EnvLe.nil _)))))) (Hp.le_refl _)))))) rfl obs_region))).weaken (EnvLe.cons e0 (EnvLe.cons e3 (EnvLe.cons e5 (EnvLe.cons e6 (EnvLe.nil _))))) (Hp.le_refl _))))) rfl (obs_seq obs_region rfl obs_ret)))))

end Go.Proofs.YtgkdkemhiglpdaaDoor.W

end
section
/-! ShpA -/
/- Powers of two, shapes: root.Fits, shape.Good, shape.Size, and the document's answers. -/
set_option maxRecDepth 100000
set_option linter.unusedSimpArgs false
set_option linter.unusedVariables false
set_option linter.unnecessarySimpa false
set_option linter.unusedSectionVars false
namespace Go.Proofs.YtgkdkemhiglpdaaDoor.Shp
open Go Go.Hw Go.Proofs.YtgkdkemhiglpdaaDoor.W

/-! ## The table of places -/

def db (i : Nat) : Nat := 285870213051353865 * 2 ^ i % 18446744073709551616 / 288230376151711744
def tab64 : List Nat := (List.range 64).map fun j => ((List.range 64).find? fun i => db i == j).getD 0
def tabV : List Value := tab64.map fun (n : Nat) => Value.int .u8 (n : Int)
def T64 (H : Hp) : Prop := Cells H (some ⟨2, 0, none⟩) tabV
theorem T64.le {H H' : Hp} (h : T64 H) (k : H.le H') : T64 H' := Cells.le h k

theorem db_table : (List.range 64).all (fun k => shrI .u64 (IntKind.u64.wrap ((bAnd .u64 ((2 ^ k : Nat) : Int) (IntKind.u64.wrap (0 - ((2 ^ k : Nat) : Int)))) * (285870213051353865 : Int))) (58 : Int) == (db k : Int) && (decide (db k < 64) && (tab64[db k]? == some k))) = true := by decide +kernel

theorem TZ_ok (k : Nat) (hk : k < 64) (H : Hp) (hT : T64 H) : HCalls Tryd.prog 103 #[.int .u64 ((2 ^ k : Nat) : Int)] H (RetE (.int .i64 (k : Int)) H) := by
  apply W_math_bits_TrailingZeros64.ok
  unfold W_math_bits_TrailingZeros64
  have hp : (2 : Nat) ^ k ≠ 0 := Nat.ne_of_gt (Nat.pow_pos (by omega))
  refine BIf_beqn (by omega) ⟨by decide, ?_⟩
  have ht := List.all_eq_true.1 db_table k (by simp; omega)
  simp only [Bool.and_eq_true, beq_iff_eq, decide_eq_true_eq] at ht
  obtain ⟨h1, h2, h3⟩ := ht
  rw [h1]
  have hv : tabV[db k]? = some (.int .u8 (k : Int)) := by
    unfold tabV
    rw [List.getElem?_map, h3]; rfl
  refine Cells.read hT hv rfl (by decide) ?_
  simp only [DI_int', DB_bool, DS_string, DP_pointer, DSl_slice, DM_map, DA_agg, DTup_tuple, DCons_cons, DNil_nil, NN_some, BIf_true, BIf_false, BIf_same, List.toList_toArray, Bool.not_true, Bool.not_false]
  rw [i64n (by omega)]
  exact RetE.mk _ _

/-! ## Powers of two -/

def lg (n : Int) : Option Nat := (List.range 33).find? fun k => n == ((2 ^ k : Nat) : Int)

theorem lg_some {n : Int} {k : Nat} (h : lg n = some k) : k ≤ 32 ∧ n = ((2 ^ k : Nat) : Int) := by
  have h1 := List.mem_of_find?_eq_some h
  have h2 := List.find?_some h
  simp only [beq_iff_eq] at h2
  exact ⟨by have := List.mem_range.1 h1; omega, h2⟩
theorem lg_none {n : Int} (h : lg n = none) {k : Nat} (hk : k ≤ 32) : n ≠ ((2 ^ k : Nat) : Int) := fun e => by
  have := List.find?_eq_none.1 h k (List.mem_range.2 (by omega))
  simp [e] at this
theorem lg_table : (List.range 33).all (fun k => lg ((2 ^ k : Nat) : Int) == some k) = true := by decide +kernel
theorem lg_pow {k : Nat} (hk : k ≤ 32) : lg ((2 ^ k : Nat) : Int) = some k := by
  have := List.all_eq_true.1 lg_table k (List.mem_range.2 (by omega))
  simpa using this
theorem pow_pos (k : Nat) : 1 ≤ 2 ^ k := Nat.pow_pos (by omega)
theorem pow_le {k m : Nat} (h : k ≤ m) : 2 ^ k ≤ 2 ^ m := Nat.pow_le_pow_right (by omega) h
theorem lg_lo {n : Int} (h : n < 1) : lg n = none := by
  cases e : lg n with
  | none => rfl
  | some k => have := (lg_some e).2; have := pow_pos k; omega
theorem lg_hi {n : Int} (h : n > 4294967296) : lg n = none := by
  cases e : lg n with
  | none => rfl
  | some k =>
    obtain ⟨h1, h2⟩ := lg_some e
    have := pow_le h1
    rw [show 2 ^ 32 = 4294967296 by decide] at this
    omega
/-- A number without a logarithm has two bits. -/
theorem lg_and {m : Nat} (h1 : 1 ≤ m) (h2 : m ≤ 4294967296) : m &&& (m - 1) = 0 ↔ lg (m : Int) ≠ none := by
  rw [Nat.and_sub_one_eq_zero_iff_isPowerOfTwo (by omega)]
  constructor
  · rintro ⟨k, rfl⟩
    have hk : k ≤ 32 := by
      apply Nat.le_of_not_lt
      intro h
      have := pow_le (show 33 ≤ k from h)
      rw [show 2 ^ 33 = 8589934592 by decide] at this
      omega
    rw [lg_pow hk]; simp
  · intro h
    cases e : lg (m : Int) with
    | none => exact absurd e h
    | some k => exact ⟨k, Int.ofNat_inj.1 (lg_some e).2⟩

def fitsV (n : Int) : Value := match lg n with | some k => .tuple #[.int .i64 (k : Int), .bool true] | none => .tuple #[.int .i64 0, .bool false]

theorem Fits_ok (n : Int) (H : Hp) (hT : T64 H) : HCalls Tryd.prog 76 #[.int .i64 n] H (RetE (fitsV n) H) := by
  apply W_root_Fits.ok
  unfold W_root_Fits
  by_cases h1 : n < 1
  · refine BIf_dpos h1 ?_
    unfold fitsV
    rw [lg_lo h1]
    exact RetE.mk _ _
  refine BIf_dneg h1 ?_
  by_cases h2 : n > 4294967296
  · refine BIf_dpos h2 ?_
    unfold fitsV
    rw [lg_hi h2]
    exact RetE.mk _ _
  refine BIf_dneg h2 ?_
  obtain ⟨m, rfl⟩ := Int.eq_ofNat_of_zero_le (show 0 ≤ n by omega)
  rw [show ((m : Int) - 1) = ((m - 1 : Nat) : Int) by omega, i64w (by omega) (by omega), Lay.bAnd_nat (by omega) (by omega)]
  have hl := lg_and (m := m) (by omega) (by omega)
  unfold fitsV
  cases e : lg (m : Int) with
  | none =>
    refine BIf_bnep (fun h => ?_) (RetE.mk _ _)
    exact (hl.1 (Int.ofNat_inj.1 h)) e
  | some k =>
    refine BIf_bnen (Int.ofNat_inj.2 (hl.2 (by rw [e]; simp))) ?_
    obtain ⟨h3, h4⟩ := lg_some e
    rw [u64n (by omega), h4]
    refine HCalls.use (TZ_ok k (by omega) H hT) ?_
    try simp only [DI_int', DB_bool, DS_string, DP_pointer, DSl_slice, DM_map, DA_agg, DTup_tuple, DCons_cons, DNil_nil, NN_some, BIf_true, BIf_false, BIf_same, List.toList_toArray, Bool.not_true, Bool.not_false]
    exact RetE.mk _ _

def rfitsN (n : Int) : Int := match lg n with | some k => (k : Int) | none => -1

theorem rFits_loop (n : Int) (H : Hp) : ∀ (t k : Nat), k + t = 33 → (∀ j, j < k → n ≠ ((2 ^ j : Nat) : Int)) → W_abacistref03_Fits.l3 (RetE (.int .i64 (rfitsN n)) H) (t + 1) n ((2 ^ k : Nat) : Int) (k : Int) H
  | 0, k, h, hk => by
    unfold W_abacistref03_Fits.l3
    refine BIf_dneg (by omega) ?_
    unfold rfitsN
    cases e : lg n with
    | none => exact RetE.mk _ _
    | some j => exact absurd (lg_some e).2 (hk j (by have := (lg_some e).1; omega))
  | t + 1, k, h, hk => by
    unfold W_abacistref03_Fits.l3
    refine BIf_dpos (by omega) ?_
    by_cases e : n = ((2 ^ k : Nat) : Int)
    · refine BIf_beqp e ?_
      unfold rfitsN
      rw [e, lg_pow (by omega)]
      exact RetE.mk _ _
    · refine BIf_beqn e ?_
      have hp := pow_le (show k ≤ 32 by omega)
      rw [show 2 ^ 32 = 4294967296 by decide] at hp
      rw [show (2 : Int) * ((2 ^ k : Nat) : Int) = ((2 ^ (k + 1) : Nat) : Int) by rw [Nat.pow_succ]; omega, i64n (by rw [Nat.pow_succ]; omega), i64w (x := (k : Int) + 1) (by omega) (by omega)]
      exact rFits_loop n H t (k + 1) (by omega) fun j hj => by
        by_cases ej : j = k
        · rw [ej]; exact e
        · exact hk j (by omega)

theorem rFits_ok (n : Int) (H : Hp) : HCalls Tryd.prog 42 #[.int .i64 n] H (RetE (.int .i64 (rfitsN n)) H) := by
  apply W_abacistref03_Fits.ok
  unfold W_abacistref03_Fits
  exact ⟨34, rFits_loop n H 33 0 rfl fun j hj => absurd hj (by omega)⟩

/-! ## Shapes -/

def goodS (r c : Int) : Bool := match lg r, lg c with | some a, some b => decide (a + b ≤ 32) | _, _ => false

theorem goodS_some {r c : Int} (h : goodS r c = true) : ∃ a b : Nat, r = ((2 ^ a : Nat) : Int) ∧ c = ((2 ^ b : Nat) : Int) ∧ a + b ≤ 32 ∧ lg r = some a ∧ lg c = some b := by
  unfold goodS at h
  split at h
  · rename_i a b ha hb
    exact ⟨a, b, (lg_some ha).2, (lg_some hb).2, by simpa using h, ha, hb⟩
  · cases h
theorem goodS_pow {a b : Nat} (h : a + b ≤ 32) : goodS ((2 ^ a : Nat) : Int) ((2 ^ b : Nat) : Int) = true := by
  unfold goodS
  rw [lg_pow (by omega), lg_pow (by omega)]
  simpa using h

theorem Good_ok (r c : Int) (H : Hp) (hT : T64 H) : HCalls Tryd.prog 41 #[.agg #[.int .i64 r, .int .i64 c]] H (RetE (.bool (goodS r c)) H) := by
  apply HCalls.ret
  apply W_shape_Good.ok
  unfold W_shape_Good
  refine (Sep.start H).nw fun b1 H1 hs => ?_
  first | refine hs.ldf 1 rfl rfl ?_ | refine hs.ldg 1 rfl rfl ?_
  try simp only [DI_int', DB_bool, DS_string, DP_pointer, DSl_slice, DM_map, DA_agg, DTup_tuple, DCons_cons, DNil_nil, NN_some, BIf_true, BIf_false, BIf_same, List.toList_toArray, Bool.not_true, Bool.not_false]
  refine HCalls.use (Fits_ok r H1 (hT.le (hs.ow 0 rfl))) ?_
  unfold goodS fitsV
  cases ea : lg r with
  | none =>
    simp only [DI_int', DB_bool, DS_string, DP_pointer, DSl_slice, DM_map, DA_agg, DTup_tuple, DCons_cons, DNil_nil, NN_some, BIf_true, BIf_false, BIf_same, List.toList_toArray, Bool.not_true, Bool.not_false]
    first | refine hs.ldf 1 rfl rfl ?_ | refine hs.ldg 1 rfl rfl ?_
    try simp only [DI_int', DB_bool, DS_string, DP_pointer, DSl_slice, DM_map, DA_agg, DTup_tuple, DCons_cons, DNil_nil, NN_some, BIf_true, BIf_false, BIf_same, List.toList_toArray, Bool.not_true, Bool.not_false]
    refine HCalls.use (Fits_ok c H1 (hT.le (hs.ow 0 rfl))) ?_
    unfold fitsV
    cases eb : lg c <;> simp only [DI_int', DB_bool, DS_string, DP_pointer, DSl_slice, DM_map, DA_agg, DTup_tuple, DCons_cons, DNil_nil, NN_some, BIf_true, BIf_false, BIf_same, List.toList_toArray, Bool.not_true, Bool.not_false] <;> exact hs.fin 0 rfl _
  | some a =>
    simp only [DI_int', DB_bool, DS_string, DP_pointer, DSl_slice, DM_map, DA_agg, DTup_tuple, DCons_cons, DNil_nil, NN_some, BIf_true, BIf_false, BIf_same, List.toList_toArray, Bool.not_true, Bool.not_false]
    first | refine hs.ldf 1 rfl rfl ?_ | refine hs.ldg 1 rfl rfl ?_
    try simp only [DI_int', DB_bool, DS_string, DP_pointer, DSl_slice, DM_map, DA_agg, DTup_tuple, DCons_cons, DNil_nil, NN_some, BIf_true, BIf_false, BIf_same, List.toList_toArray, Bool.not_true, Bool.not_false]
    refine HCalls.use (Fits_ok c H1 (hT.le (hs.ow 0 rfl))) ?_
    unfold fitsV
    cases eb : lg c with
    | none => simp only [DI_int', DB_bool, DS_string, DP_pointer, DSl_slice, DM_map, DA_agg, DTup_tuple, DCons_cons, DNil_nil, NN_some, BIf_true, BIf_false, BIf_same, List.toList_toArray, Bool.not_true, Bool.not_false]; exact hs.fin 0 rfl _
    | some b =>
      simp only [DI_int', DB_bool, DS_string, DP_pointer, DSl_slice, DM_map, DA_agg, DTup_tuple, DCons_cons, DNil_nil, NN_some, BIf_true, BIf_false, BIf_same, List.toList_toArray, Bool.not_true, Bool.not_false]
      have h1 := (lg_some ea).1
      have h2 := (lg_some eb).1
      rw [i64w (by omega) (by omega)]
      have : decide ((a : Int) + (b : Int) ≤ 32) = decide (a + b ≤ 32) := by
        by_cases h : a + b ≤ 32
        · rw [decide_eq_true h, decide_eq_true (by omega)]
        · rw [decide_eq_false h, decide_eq_false (by omega)]
      rw [this]
      exact hs.fin 0 rfl _

theorem rGood_ok (r c : Int) (H : Hp) : HCalls Tryd.prog 15 #[.agg #[.int .i64 r, .int .i64 c]] H (RetE (.bool (goodS r c)) H) := by
  apply HCalls.ret
  apply W_abacistref06_Good.ok
  unfold W_abacistref06_Good
  refine (Sep.start H).nw fun b1 H1 hs => ?_
  first | refine hs.ldf 1 rfl rfl ?_ | refine hs.ldg 1 rfl rfl ?_
  try simp only [DI_int', DB_bool, DS_string, DP_pointer, DSl_slice, DM_map, DA_agg, DTup_tuple, DCons_cons, DNil_nil, NN_some, BIf_true, BIf_false, BIf_same, List.toList_toArray, Bool.not_true, Bool.not_false]
  refine HCalls.use (rFits_ok r H1) ?_
  simp only [DI_int', DB_bool, DS_string, DP_pointer, DSl_slice, DM_map, DA_agg, DTup_tuple, DCons_cons, DNil_nil, NN_some, BIf_true, BIf_false, BIf_same, List.toList_toArray, Bool.not_true, Bool.not_false]
  first | refine hs.ldf 1 rfl rfl ?_ | refine hs.ldg 1 rfl rfl ?_
  try simp only [DI_int', DB_bool, DS_string, DP_pointer, DSl_slice, DM_map, DA_agg, DTup_tuple, DCons_cons, DNil_nil, NN_some, BIf_true, BIf_false, BIf_same, List.toList_toArray, Bool.not_true, Bool.not_false]
  refine HCalls.use (rFits_ok c H1) ?_
  simp only [DI_int', DB_bool, DS_string, DP_pointer, DSl_slice, DM_map, DA_agg, DTup_tuple, DCons_cons, DNil_nil, NN_some, BIf_true, BIf_false, BIf_same, List.toList_toArray, Bool.not_true, Bool.not_false]
  unfold goodS rfitsN
  cases ea : lg r with
  | none => exact BIf_dneg (by decide) (hs.fin 0 rfl _)
  | some a =>
    refine BIf_dpos (by simp only []; omega) ?_
    cases eb : lg c with
    | none => exact BIf_dneg (by decide) (hs.fin 0 rfl _)
    | some b =>
      refine BIf_dpos (by simp only []; omega) ?_
      simp only []
      have h1 := (lg_some ea).1
      have h2 := (lg_some eb).1
      rw [i64w (by omega) (by omega)]
      have : decide ((a : Int) + (b : Int) ≤ 32) = decide (a + b ≤ 32) := by
        by_cases h : a + b ≤ 32
        · rw [decide_eq_true h, decide_eq_true (by omega)]
        · rw [decide_eq_false h, decide_eq_false (by omega)]
      rw [this]
      exact hs.fin 0 rfl _

theorem size_le {a b : Nat} (h : a + b ≤ 32) : 2 ^ a * 2 ^ b ≤ 4294967296 := by
  rw [← Nat.pow_add, show 4294967296 = 2 ^ 32 by decide]
  exact pow_le h

def sizeS (r c : Int) : Int := if goodS r c = true then r * c else 0

theorem Size_ok (r c : Int) (H : Hp) (hT : T64 H) : HCalls Tryd.prog 48 #[.agg #[.int .i64 r, .int .i64 c]] H (RetE (.int .i64 (sizeS r c)) H) := by
  apply HCalls.ret
  apply W_shape_Size.ok
  unfold W_shape_Size
  refine (Sep.start H).nw fun b1 H1 hs => ?_
  refine hs.ldw 1 rfl rfl ?_
  refine HCalls.use (Good_ok r c H1 (hT.le (hs.ow 0 rfl))) ?_
  simp only [DI_int', DB_bool, DS_string, DP_pointer, DSl_slice, DM_map, DA_agg, DTup_tuple, DCons_cons, DNil_nil, NN_some, BIf_true, BIf_false, BIf_same, List.toList_toArray, Bool.not_true, Bool.not_false]
  unfold sizeS
  cases e : goodS r c with
  | false => exact BIf_pos rfl (hs.fin 0 rfl _)
  | true =>
    refine BIf_neg rfl ?_
    first | refine hs.ldf 1 rfl rfl ?_ | refine hs.ldg 1 rfl rfl ?_
    try simp only [DI_int', DB_bool, DS_string, DP_pointer, DSl_slice, DM_map, DA_agg, DTup_tuple, DCons_cons, DNil_nil, NN_some, BIf_true, BIf_false, BIf_same, List.toList_toArray, Bool.not_true, Bool.not_false]
    first | refine hs.ldf 1 rfl rfl ?_ | refine hs.ldg 1 rfl rfl ?_
    try simp only [DI_int', DB_bool, DS_string, DP_pointer, DSl_slice, DM_map, DA_agg, DTup_tuple, DCons_cons, DNil_nil, NN_some, BIf_true, BIf_false, BIf_same, List.toList_toArray, Bool.not_true, Bool.not_false]
    obtain ⟨a, b, rfl, rfl, h, _, _⟩ := goodS_some e
    have := size_le h
    rw [← Int.natCast_mul, i64n (by omega), if_pos trivial]
    exact hs.fin 0 rfl _

end Go.Proofs.YtgkdkemhiglpdaaDoor.Shp

end
section
/-! Wturn -/
/- Formulas of functions, printed by wip/tools/hwp.py. -/
set_option maxRecDepth 100000
set_option linter.unusedVariables false
namespace Go.Proofs.YtgkdkemhiglpdaaDoor.W
open Go Go.Hw

theorem mixWturn : Tryd.prog.follows .mixedOrders = true := by kernel_rfl
-- turn.Band
def W_turn_Band.l4 (K : Value → Hp → Prop) : Nat → Int → Int → Addr → Int → Hp → Prop
  | 0, _, _, _, _, _ => False
  | k + 1, x6, x7, a1, x8, H =>
    let R4 := W_turn_Band.l4 K k
    Ld H (a1.add 1) fun v3 => DI .i64 v3 fun x9 => BIf (decide ((IntKind.i64.wrap ((2 : Int) * x8)) ≤ x9)) (Ld H (a1.add 0) fun v4 => DI .i64 v4 fun x10 => (x10 ≠ 0 ∧ IntKind.i64 = IntKind.i64 ∧ BIf (decide ((IntKind.i64.wrap ((2 : Int) * x8)) ≤ (IntKind.i64.wrap (Int.tdiv (IntKind.i64.wrap (x7 - x6)) x10)))) (R4 x6 x7 a1 (IntKind.i64.wrap (x8 * (2 : Int))) H) (K (.tuple #[.int .i64 x8, .bool true]) H))) (K (.tuple #[.int .i64 x8, .bool true]) H)
def W_turn_Band (x1 : Int) (x2 : Int) (x3 : Int) (x4 : Int) (H : Hp) (K : Value → Hp → Prop) : Prop :=
  Nw H (.obj (.cells #[.int .i64 x1, .int .i64 x2] 29)) fun b1 H1 => LdA H1 (⟨b1, 0, none⟩ : Addr) 2 fun l1 => HCalls Tryd.prog 41 #[.agg l1.toArray] H1 fun v1 H2 => DB v1 fun c1 => BIf (!c1) (K (.tuple #[.int .i64 (0 : Int), .bool false]) H2) (BIf (decide (x3 < (4 : Int))) (K (.tuple #[.int .i64 (0 : Int), .bool false]) H2) (BIf (decide (x3 > (512 : Int))) (K (.tuple #[.int .i64 (0 : Int), .bool false]) H2) (BIf ((bAnd .i64 x3 (IntKind.i64.wrap (x3 - (1 : Int)))) != (0 : Int)) (K (.tuple #[.int .i64 (0 : Int), .bool false]) H2) (BIf (decide (x4 < x3)) (K (.tuple #[.int .i64 (0 : Int), .bool false]) H2) (Ld H2 ((⟨b1, 0, none⟩ : Addr).add 0) fun v2 => DI .i64 v2 fun x5 => BIf (decide ((IntKind.i64.wrap (x4 - x3)) < x5)) (K (.tuple #[.int .i64 (0 : Int), .bool false]) H2) ((∃ k, W_turn_Band.l4 K k x3 x4 (⟨b1, 0, none⟩ : Addr) (1 : Int) H2)))))))
def W_turn_Band.l4.L (K : Value → Hp → Prop) (k : Nat) : Mid := fun E D H =>
  DG (E.get? 1) fun w1 => DI .i64 w1 fun x6 => DG (E.get? 2) fun w2 => DI .i64 w2 fun x7 => DG (E.get? 3) fun w3 => DP w3 fun pw3 => NN pw3 fun a1 => DG (E.get? 6) fun w6 => DI .i64 w6 fun x8 => DNilD D (W_turn_Band.l4 K k x6 x7 a1 x8 H)
def W_turn_Band.Λ4 (_ : Value → Hp → Prop) (_R4 : Int → Int → Addr → Int → Hp → Prop) : Cuts := Cuts.none (fun _ => none)
def W_turn_Band.Λ (K : Value → Hp → Prop) : Cuts := ⟨fun i => none, fun i => match Nat.beq i 4 with | true => some (fun E D H => ∃ k, W_turn_Band.l4.L K k E D H) | false => none, (fun _ => none)⟩
theorem W_turn_Band.ok (x1 : Int) (x2 : Int) (x3 : Int) (x4 : Int) (H : Hp) (K : Value → Hp → Prop) (h : W_turn_Band x1 x2 x3 x4 H K) : HCalls Tryd.prog 14 #[.agg #[.int .i64 x1, .int .i64 x2], .int .i64 x3, .int .i64 x4] H K :=
  hcalls Tryd.func14 rfl (Nat.le_of_ble_eq_true rfl) (hw_safe (Λ := (W_turn_Band.Λ K)) mixWturn _ _ _ _ _ (Eq.mp (by kernel_rfl) h) (obs_seq obs_region rfl (obs_seq (obs_seq obs_region rfl (obs_cond (obs_seq obs_region rfl obs_ret) obs_skip)) rfl (obs_seq obs_region rfl (obs_seq (obs_block (obs_loop rfl (fun E D H h => by
      refine Safe.loop' (W_turn_Band.l4.L K) (fun E D H h => ?_) (fun k E D H h => ?_) E D H h
      · obtain ⟨w1, e1, g1⟩ := DG.out h; obtain ⟨x6, rfl, g2⟩ := DI.out g1; obtain ⟨w2, e2, g3⟩ := DG.out g2; obtain ⟨x7, rfl, g4⟩ := DI.out g3; obtain ⟨w3, e3, g5⟩ := DG.out g4; obtain ⟨pw3, rfl, g6⟩ := DP.out g5; obtain ⟨a1, rfl, g7⟩ := NN.out g6; obtain ⟨w6, e6, g8⟩ := DG.out g7; obtain ⟨x8, rfl, g9⟩ := DI.out g8; obtain ⟨rfl, h'⟩ := DNilD.out g9; exact h'
      · obtain ⟨w1, e1, g1⟩ := DG.out h
        obtain ⟨x6, rfl, g2⟩ := DI.out g1
        obtain ⟨w2, e2, g3⟩ := DG.out g2
        obtain ⟨x7, rfl, g4⟩ := DI.out g3
        obtain ⟨w3, e3, g5⟩ := DG.out g4
        obtain ⟨pw3, rfl, g6⟩ := DP.out g5
        obtain ⟨a1, rfl, g7⟩ := NN.out g6
        obtain ⟨w6, e6, g8⟩ := DG.out g7
        obtain ⟨x8, rfl, g9⟩ := DI.out g8
        obtain ⟨rfl, h'⟩ := DNilD.out g9
        exact (hw_safe (Λ := (W_turn_Band.Λ4 K (W_turn_Band.l4 K k))) mixWturn _ _ [(1, .int .i64 x6), (2, .int .i64 x7), (3, .pointer (some a1)), (6, .int .i64 x8)] [] H (Eq.mp (by kernel_rfl) h') (obs_seq (obs_seq obs_region rfl (obs_cond obs_skip obs_exit)) rfl (obs_block obs_region))).weaken (EnvLe.cons e1 (EnvLe.cons e2 (EnvLe.cons e3 (EnvLe.cons e6 (EnvLe.nil _))))) (Hp.le_refl _)))) rfl (obs_seq obs_region rfl obs_ret))))))

-- turn.Run
def W_turn_Run.l14 (K : Value → Hp → Prop) : Nat → Addr → Int → Addr → Int → Option Addr → Option Addr → Nat → Nat → Hp → Prop
  | 0, _, _, _, _, _, _, _, _, _ => False
  | k + 1, a2, x14, a3, x15, p5, A1, n1, m1, H =>
    let R14 := W_turn_Run.l14 K k
    Ld H (a2.add 1) fun v16 => DI .i64 v16 fun x16 => BIf (decide (x15 < x16)) (HCalls Tryd.prog 52 #[.pointer (some a3), .int .i64 x15, .int .i64 x14] H fun v17 H5 => DI .i64 v17 fun x17 => BIf (x17 != (0 : Int)) (HCallsD Tryd.prog 51 #[.pointer p5, .slice A1 n1 m1] H5 fun _ H8 => K (.tuple #[.int .u32 (0 : Int), .int .i64 x17]) H8) (HCalls Tryd.prog 53 #[.pointer (some a3), .int .i64 x15] H5 fun v18 H6 => DI .i64 v18 fun x18 => BIf (x18 != (0 : Int)) (HCallsD Tryd.prog 51 #[.pointer p5, .slice A1 n1 m1] H6 fun _ H9 => K (.tuple #[.int .u32 (0 : Int), .int .i64 x18]) H9) (R14 a2 x14 a3 (IntKind.i64.wrap (x15 + x14)) p5 A1 n1 m1 H6))) (HCalls Tryd.prog 54 #[.pointer (some (a3.add 0))] H fun v19 H7 => DI .u32 v19 fun x19 => HCallsD Tryd.prog 51 #[.pointer p5, .slice A1 n1 m1] H7 fun _ H10 => K (.tuple #[.int .u32 x19, .int .i64 (0 : Int)]) H10)
def W_turn_Run (p1 : Option Addr) (p2 : Option Addr) (x1 : Int) (x2 : Int) (p3 : Option Addr) (x3 : Int) (H : Hp) (K : Value → Hp → Prop) : Prop :=
  Nw H (.obj (.cells #[.int .i64 x1, .int .i64 x2] 29)) fun b1 H1 => BIf p1.isNone (K (.tuple #[.int .u32 (0 : Int), .int .i64 (1 : Int)]) H1) (BIf p2.isNone (K (.tuple #[.int .u32 (0 : Int), .int .i64 (1 : Int)]) H1) (BIf p3.isNone (K (.tuple #[.int .u32 (0 : Int), .int .i64 (1 : Int)]) H1) (LdA H1 (⟨b1, 0, none⟩ : Addr) 2 fun l1 => QCall Tryd.prog 41 #[.agg l1.toArray] H1 fun v1 => DB v1 fun c1 => BIf (!c1) (K (.tuple #[.int .u32 (0 : Int), .int .i64 (19 : Int)]) H1) (QCall Tryd.prog 47 #[.pointer p1] H1 fun v2 => DI .i64 v2 fun x4 => LdA H1 (⟨b1, 0, none⟩ : Addr) 2 fun l2 => QCall Tryd.prog 48 #[.agg l2.toArray] H1 fun v3 => DI .i64 v3 fun x5 => BIf (x4 != x5) (K (.tuple #[.int .u32 (0 : Int), .int .i64 (19 : Int)]) H1) (QCall Tryd.prog 47 #[.pointer p2] H1 fun v4 => DI .i64 v4 fun x6 => LdA H1 (⟨b1, 0, none⟩ : Addr) 2 fun l3 => QCall Tryd.prog 48 #[.agg l3.toArray] H1 fun v5 => DI .i64 v5 fun x7 => BIf (x6 != x7) (K (.tuple #[.int .u32 (0 : Int), .int .i64 (19 : Int)]) H1) (LdA H1 (⟨b1, 0, none⟩ : Addr) 2 fun l4 => NN p3 fun a1 => QCall Tryd.prog 49 #[.pointer (some (a1.add 0))] H1 fun v6 => DI .i64 v6 fun x8 => QCall Tryd.prog 14 #[.agg l4.toArray, .int .i64 x3, .int .i64 x8] H1 fun v7 => DTup v7 fun l5 => DCons l5 fun v8 l6 => DI .i64 v8 fun x9 => DCons l6 fun v9 l7 => DB v9 fun c2 => DNil l7 (BIf (!c2) (K (.tuple #[.int .u32 (0 : Int), .int .i64 (6 : Int)]) H1) (Ld H1 ((⟨b1, 0, none⟩ : Addr).add 0) fun v10 => DI .i64 v10 fun x10 => HCalls Tryd.prog 50 #[.pointer p3, .int .i64 (IntKind.i64.wrap (x9 * x10))] H1 fun v11 H2 => DTup v11 fun l8 => DCons l8 fun v12 l9 => DP v12 fun p4 => DCons l9 fun v13 l10 => DI .i64 v13 fun x11 => DNil l10 (BIf (x11 != (0 : Int)) (K (.tuple #[.int .u32 (0 : Int), .int .i64 x11]) H2) (Nw H2 (.row [.pointer p4] 101 1) fun b2 H3 => LdA H3 (⟨b1, 0, none⟩ : Addr) 2 fun l11 => DCons l11.toArray.toList fun v14 l12 => DI .i64 v14 fun x12 => DCons l12 fun v15 l13 => DI .i64 v15 fun x13 => DNil l13 (Nw H3 (.obj (.cells #[.int .u32 (0 : Int), .int .i64 (0 : Int), .pointer p1, .pointer p2, .int .i64 x12, .int .i64 x13, .pointer p4] 109)) fun b3 H4 => (∃ k, W_turn_Run.l14 K k (⟨b1, 0, none⟩ : Addr) x9 (⟨b3, 0, none⟩ : Addr) (0 : Int) p3 (some ⟨b2, 0, none⟩) 1 1 H4))))))))))))
def W_turn_Run.l14.L (K : Value → Hp → Prop) (k : Nat) : Mid := fun E D H =>
  DG (E.get? 7) fun w7 => DP w7 fun pw7 => NN pw7 fun a2 => DG (E.get? 12) fun w12 => DI .i64 w12 fun x14 => DG (E.get? 15) fun w15 => DP w15 fun pw15 => NN pw15 fun a3 => DG (E.get? 16) fun w16 => DI .i64 w16 fun x15 => DDef 51 D fun dc0 da0 D1 => DNil dc0 (DCons da0 fun u0da0 r0da0 => DP u0da0 fun p5 => DCons r0da0 fun u1da0 r1da0 => DSl u1da0 fun A1 n1 m1 => DNil r1da0 (DNilD D1 (W_turn_Run.l14 K k a2 x14 a3 x15 p5 A1 n1 m1 H)))
def W_turn_Run.Λ14 (_ : Value → Hp → Prop) (_R14 : Addr → Int → Addr → Int → Option Addr → Option Addr → Nat → Nat → Hp → Prop) : Cuts := Cuts.none (fun _ => none)
def W_turn_Run.Λ (K : Value → Hp → Prop) : Cuts := ⟨fun i => none, fun i => match Nat.beq i 14 with | true => some (fun E D H => ∃ k, W_turn_Run.l14.L K k E D H) | false => none, (fun _ => none)⟩
theorem W_turn_Run.ok (p1 : Option Addr) (p2 : Option Addr) (x1 : Int) (x2 : Int) (p3 : Option Addr) (x3 : Int) (H : Hp) (K : Value → Hp → Prop) (h : W_turn_Run p1 p2 x1 x2 p3 x3 H K) : HCalls Tryd.prog 17 #[.pointer p1, .pointer p2, .agg #[.int .i64 x1, .int .i64 x2], .pointer p3, .int .i64 x3] H K :=
  hcalls Tryd.func17 rfl (Nat.le_of_ble_eq_true rfl) (hw_safe (Λ := (W_turn_Run.Λ K)) mixWturn _ _ _ _ _ (Eq.mp (by kernel_rfl) h) (obs_seq obs_region rfl (obs_seq (obs_block (obs_seq obs_region rfl (obs_cond (obs_seq obs_region rfl obs_ret) (obs_seq obs_region rfl (obs_cond (obs_seq obs_region rfl obs_ret) obs_skip))))) rfl (obs_seq obs_region rfl (obs_seq (obs_seq obs_region rfl (obs_cond (obs_seq obs_region rfl obs_ret) obs_skip)) rfl (obs_seq obs_region rfl (obs_seq (obs_seq obs_region rfl (obs_cond (obs_seq obs_region rfl obs_ret) obs_skip)) rfl (obs_seq obs_region rfl (obs_seq obs_region rfl (obs_seq (obs_seq obs_region rfl (obs_block (obs_loop rfl (fun E D H h => by
      refine Safe.loop' (W_turn_Run.l14.L K) (fun E D H h => ?_) (fun k E D H h => ?_) E D H h
      · obtain ⟨w7, e7, g1⟩ := DG.out h; obtain ⟨pw7, rfl, g2⟩ := DP.out g1; obtain ⟨a2, rfl, g3⟩ := NN.out g2; obtain ⟨w12, e12, g4⟩ := DG.out g3; obtain ⟨x14, rfl, g5⟩ := DI.out g4; obtain ⟨w15, e15, g6⟩ := DG.out g5; obtain ⟨pw15, rfl, g7⟩ := DP.out g6; obtain ⟨a3, rfl, g8⟩ := NN.out g7; obtain ⟨w16, e16, g9⟩ := DG.out g8; obtain ⟨x15, rfl, g10⟩ := DI.out g9; obtain ⟨dc0, da0, D1, rfl, g11⟩ := DDef.out g10; obtain ⟨rfl, g12⟩ := DNil.out g11; obtain ⟨u0da0, r0da0, rfl, g13⟩ := DCons.out g12; obtain ⟨p5, rfl, g14⟩ := DP.out g13; obtain ⟨u1da0, r1da0, rfl, g15⟩ := DCons.out g14; obtain ⟨A1, n1, m1, rfl, g16⟩ := DSl.out g15; obtain ⟨rfl, g17⟩ := DNil.out g16; obtain ⟨rfl, h'⟩ := DNilD.out g17; exact h'
      · obtain ⟨w7, e7, g1⟩ := DG.out h
        obtain ⟨pw7, rfl, g2⟩ := DP.out g1
        obtain ⟨a2, rfl, g3⟩ := NN.out g2
        obtain ⟨w12, e12, g4⟩ := DG.out g3
        obtain ⟨x14, rfl, g5⟩ := DI.out g4
        obtain ⟨w15, e15, g6⟩ := DG.out g5
        obtain ⟨pw15, rfl, g7⟩ := DP.out g6
        obtain ⟨a3, rfl, g8⟩ := NN.out g7
        obtain ⟨w16, e16, g9⟩ := DG.out g8
        obtain ⟨x15, rfl, g10⟩ := DI.out g9
        obtain ⟨dc0, da0, D1, rfl, g11⟩ := DDef.out g10
        obtain ⟨rfl, g12⟩ := DNil.out g11
        obtain ⟨u0da0, r0da0, rfl, g13⟩ := DCons.out g12
        obtain ⟨p5, rfl, g14⟩ := DP.out g13
        obtain ⟨u1da0, r1da0, rfl, g15⟩ := DCons.out g14
        obtain ⟨A1, n1, m1, rfl, g16⟩ := DSl.out g15
        obtain ⟨rfl, g17⟩ := DNil.out g16
        obtain ⟨rfl, h'⟩ := DNilD.out g17
        exact (hw_safe (Λ := (W_turn_Run.Λ14 K (W_turn_Run.l14 K k))) mixWturn _ _ [(7, .pointer (some a2)), (12, .int .i64 x14), (15, .pointer (some a3)), (16, .int .i64 x15)] [{ target := .fn (.func 51) #[], args := #[.pointer p5, .slice A1 n1 m1] }] H (Eq.mp (by kernel_rfl) h') (obs_seq (obs_seq obs_region rfl (obs_cond obs_skip obs_exit)) rfl (obs_seq (obs_block (obs_seq (obs_seq obs_region rfl (obs_seq obs_region rfl (obs_cond (obs_seq obs_region rfl obs_ret) obs_skip))) rfl (obs_seq obs_region rfl (obs_seq obs_region rfl (obs_cond (obs_seq obs_region rfl obs_ret) obs_skip))))) rfl obs_region))).weaken (EnvLe.cons e7 (EnvLe.cons e12 (EnvLe.cons e15 (EnvLe.cons e16 (EnvLe.nil _))))) (Hp.le_refl _))))) rfl (obs_seq obs_region rfl obs_ret)))))))))))

-- turn.Cost
def W_turn_Cost.j6 (K : Value → Hp → Prop) (x17 : Int) (a1 : Addr) (a2 : Addr) (x18 : Int) (x19 : Int) (a3 : Addr) (H : Hp) : Prop :=
  Ld H (a1.add 0) fun v15 => DI .i64 v15 fun x20 => BIf (decide ((IntKind.i64.wrap (x18 * x20)) < x17)) (Ld H (a3.add 0) fun v16 => DI .i64 v16 fun x21 => St H ((a3.add 0).add 0) (.int .i64 (IntKind.i64.wrap (x21 + x19))) fun H16 => LdA H16 a3 3 fun l5 => StA H16 a2 l5.toArray 3 fun H17 => LdA H17 a2 3 fun l8 => K (.tuple #[.agg l8.toArray, .int .i64 (0 : Int)]) H17) (LdA H a3 3 fun l6 => StA H a2 l6.toArray 3 fun H18 => LdA H18 a2 3 fun l9 => K (.tuple #[.agg l9.toArray, .int .i64 (0 : Int)]) H18)
def W_turn_Cost (x1 : Int) (x2 : Int) (x3 : Int) (x4 : Int) (H : Hp) (K : Value → Hp → Prop) : Prop :=
  Nw H (.obj (.cells #[.int .i64 x1, .int .i64 x2] 29)) fun b1 H1 => Nw H1 (.obj (.cells #[.int .i64 (0 : Int), .int .i64 (0 : Int), .int .i64 (0 : Int)] 59)) fun b2 H2 => LdA H2 (⟨b1, 0, none⟩ : Addr) 2 fun l1 => HCalls Tryd.prog 14 #[.agg l1.toArray, .int .i64 x3, .int .i64 x4] H2 fun v1 H3 => DTup v1 fun l2 => DCons l2 fun v2 l3 => DI .i64 v2 fun x5 => DCons l3 fun v3 l4 => DB v3 fun c1 => DNil l4 (BIf (!c1) (StA H3 (⟨b2, 0, none⟩ : Addr) #[.int .i64 (0 : Int), .int .i64 (0 : Int), .int .i64 (0 : Int)] 3 fun H4 => LdA H4 (⟨b2, 0, none⟩ : Addr) 3 fun l7 => K (.tuple #[.agg l7.toArray, .int .i64 (6 : Int)]) H4) (Ld H3 ((⟨b1, 0, none⟩ : Addr).add 1) fun v4 => DI .i64 v4 fun x6 => (x5 ≠ 0 ∧ IntKind.i64 = IntKind.i64 ∧ (x3 ≠ 0 ∧ IntKind.i64 = IntKind.i64 ∧ (Ld H3 ((⟨b1, 0, none⟩ : Addr).add 0) fun v5 => DI .i64 v5 fun x7 => (Ld H3 ((⟨b1, 0, none⟩ : Addr).add 0) fun v6 => DI .i64 v6 fun x8 => (x3 ≠ 0 ∧ IntKind.i64 = IntKind.i64 ∧ Nw H3 (.obj (.cells #[.int .i64 (0 : Int), .int .i64 (0 : Int), .int .i64 (0 : Int)] 59)) fun b3 H5 => StA H5 (⟨b3, 0, none⟩ : Addr) #[.int .i64 (IntKind.i64.wrap ((IntKind.i64.wrap ((IntKind.i64.wrap (Int.tdiv x6 x5)) * x7)) * (if (IntKind.i64.wrap (Int.tdiv x5 x3)) > (1 : Int) then (IntKind.i64.wrap (Int.tdiv x5 x3)) else (1 : Int)))), .int .i64 (IntKind.i64.wrap ((IntKind.i64.wrap (Int.tdiv x6 x5)) * (if (IntKind.i64.wrap (Int.tdiv (IntKind.i64.wrap (x5 * x8)) x3)) > (1 : Int) then (IntKind.i64.wrap (Int.tdiv (IntKind.i64.wrap (x5 * x8)) x3)) else (1 : Int)))), .int .i64 (0 : Int)] 3 fun H6 => W_turn_Cost.j6 K x3 (⟨b1, 0, none⟩ : Addr) (⟨b2, 0, none⟩ : Addr) x5 (IntKind.i64.wrap (Int.tdiv x6 x5)) (⟨b3, 0, none⟩ : Addr) H6)) ∧ (Nw H3 (.obj (.cells #[.int .i64 (0 : Int), .int .i64 (0 : Int), .int .i64 (0 : Int)] 59)) fun b4 H7 => Ld H7 ((⟨b1, 0, none⟩ : Addr).add 0) fun v7 => DI .i64 v7 fun x9 => (x3 ≠ 0 ∧ IntKind.i64 = IntKind.i64 ∧ StA H7 (⟨b4, 0, none⟩ : Addr) #[.int .i64 (IntKind.i64.wrap ((IntKind.i64.wrap ((IntKind.i64.wrap (Int.tdiv x6 x5)) * x7)) * (if (IntKind.i64.wrap (Int.tdiv x5 x3)) > (1 : Int) then (IntKind.i64.wrap (Int.tdiv x5 x3)) else (1 : Int)))), .int .i64 (IntKind.i64.wrap ((IntKind.i64.wrap (Int.tdiv x6 x5)) * (if (IntKind.i64.wrap (Int.tdiv (IntKind.i64.wrap (x5 * x9)) x3)) > (1 : Int) then (IntKind.i64.wrap (Int.tdiv (IntKind.i64.wrap (x5 * x9)) x3)) else (1 : Int)))), .int .i64 (0 : Int)] 3 fun H8 => W_turn_Cost.j6 K x3 (⟨b1, 0, none⟩ : Addr) (⟨b2, 0, none⟩ : Addr) x5 (IntKind.i64.wrap (Int.tdiv x6 x5)) (⟨b4, 0, none⟩ : Addr) H8))) ∧ (Ld H3 ((⟨b1, 0, none⟩ : Addr).add 0) fun v8 => DI .i64 v8 fun x10 => (x3 ≠ 0 ∧ IntKind.i64 = IntKind.i64 ∧ (Ld H3 ((⟨b1, 0, none⟩ : Addr).add 0) fun v9 => DI .i64 v9 fun x11 => Nw H3 (.obj (.cells #[.int .i64 (0 : Int), .int .i64 (0 : Int), .int .i64 (0 : Int)] 59)) fun b5 H9 => StA H9 (⟨b5, 0, none⟩ : Addr) #[.int .i64 (IntKind.i64.wrap ((IntKind.i64.wrap ((IntKind.i64.wrap (Int.tdiv x6 x5)) * x11)) * (if (IntKind.i64.wrap (Int.tdiv x5 x3)) > (1 : Int) then (IntKind.i64.wrap (Int.tdiv x5 x3)) else (1 : Int)))), .int .i64 (IntKind.i64.wrap ((IntKind.i64.wrap (Int.tdiv x6 x5)) * (if (IntKind.i64.wrap (Int.tdiv (IntKind.i64.wrap (x5 * x10)) x3)) > (1 : Int) then (IntKind.i64.wrap (Int.tdiv (IntKind.i64.wrap (x5 * x10)) x3)) else (1 : Int)))), .int .i64 (0 : Int)] 3 fun H10 => W_turn_Cost.j6 K x3 (⟨b1, 0, none⟩ : Addr) (⟨b2, 0, none⟩ : Addr) x5 (IntKind.i64.wrap (Int.tdiv x6 x5)) (⟨b5, 0, none⟩ : Addr) H10) ∧ (Nw H3 (.obj (.cells #[.int .i64 (0 : Int), .int .i64 (0 : Int), .int .i64 (0 : Int)] 59)) fun b6 H11 => Ld H11 ((⟨b1, 0, none⟩ : Addr).add 0) fun v10 => DI .i64 v10 fun x12 => StA H11 (⟨b6, 0, none⟩ : Addr) #[.int .i64 (IntKind.i64.wrap ((IntKind.i64.wrap ((IntKind.i64.wrap (Int.tdiv x6 x5)) * x12)) * (if (IntKind.i64.wrap (Int.tdiv x5 x3)) > (1 : Int) then (IntKind.i64.wrap (Int.tdiv x5 x3)) else (1 : Int)))), .int .i64 (IntKind.i64.wrap ((IntKind.i64.wrap (Int.tdiv x6 x5)) * (if (IntKind.i64.wrap (Int.tdiv (IntKind.i64.wrap (x5 * x10)) x3)) > (1 : Int) then (IntKind.i64.wrap (Int.tdiv (IntKind.i64.wrap (x5 * x10)) x3)) else (1 : Int)))), .int .i64 (0 : Int)] 3 fun H12 => W_turn_Cost.j6 K x3 (⟨b1, 0, none⟩ : Addr) (⟨b2, 0, none⟩ : Addr) x5 (IntKind.i64.wrap (Int.tdiv x6 x5)) (⟨b6, 0, none⟩ : Addr) H12))) ∧ (Nw H3 (.obj (.cells #[.int .i64 (0 : Int), .int .i64 (0 : Int), .int .i64 (0 : Int)] 59)) fun b7 H13 => (Ld H13 ((⟨b1, 0, none⟩ : Addr).add 0) fun v11 => DI .i64 v11 fun x13 => Ld H13 ((⟨b1, 0, none⟩ : Addr).add 0) fun v12 => DI .i64 v12 fun x14 => (x3 ≠ 0 ∧ IntKind.i64 = IntKind.i64 ∧ StA H13 (⟨b7, 0, none⟩ : Addr) #[.int .i64 (IntKind.i64.wrap ((IntKind.i64.wrap ((IntKind.i64.wrap (Int.tdiv x6 x5)) * x13)) * (if (IntKind.i64.wrap (Int.tdiv x5 x3)) > (1 : Int) then (IntKind.i64.wrap (Int.tdiv x5 x3)) else (1 : Int)))), .int .i64 (IntKind.i64.wrap ((IntKind.i64.wrap (Int.tdiv x6 x5)) * (if (IntKind.i64.wrap (Int.tdiv (IntKind.i64.wrap (x5 * x14)) x3)) > (1 : Int) then (IntKind.i64.wrap (Int.tdiv (IntKind.i64.wrap (x5 * x14)) x3)) else (1 : Int)))), .int .i64 (0 : Int)] 3 fun H14 => W_turn_Cost.j6 K x3 (⟨b1, 0, none⟩ : Addr) (⟨b2, 0, none⟩ : Addr) x5 (IntKind.i64.wrap (Int.tdiv x6 x5)) (⟨b7, 0, none⟩ : Addr) H14)) ∧ (Ld H13 ((⟨b1, 0, none⟩ : Addr).add 0) fun v13 => DI .i64 v13 fun x15 => (x3 ≠ 0 ∧ IntKind.i64 = IntKind.i64 ∧ Ld H13 ((⟨b1, 0, none⟩ : Addr).add 0) fun v14 => DI .i64 v14 fun x16 => StA H13 (⟨b7, 0, none⟩ : Addr) #[.int .i64 (IntKind.i64.wrap ((IntKind.i64.wrap ((IntKind.i64.wrap (Int.tdiv x6 x5)) * x16)) * (if (IntKind.i64.wrap (Int.tdiv x5 x3)) > (1 : Int) then (IntKind.i64.wrap (Int.tdiv x5 x3)) else (1 : Int)))), .int .i64 (IntKind.i64.wrap ((IntKind.i64.wrap (Int.tdiv x6 x5)) * (if (IntKind.i64.wrap (Int.tdiv (IntKind.i64.wrap (x5 * x15)) x3)) > (1 : Int) then (IntKind.i64.wrap (Int.tdiv (IntKind.i64.wrap (x5 * x15)) x3)) else (1 : Int)))), .int .i64 (0 : Int)] 3 fun H15 => W_turn_Cost.j6 K x3 (⟨b1, 0, none⟩ : Addr) (⟨b2, 0, none⟩ : Addr) x5 (IntKind.i64.wrap (Int.tdiv x6 x5)) (⟨b7, 0, none⟩ : Addr) H15)))))))
def W_turn_Cost.Λ (K : Value → Hp → Prop) : Cuts := ⟨fun i => match Nat.beq i 6 with | true => some (fun E D H => DG (E.get? 1) fun w1 => DI .i64 w1 fun x17 => DG (E.get? 3) fun w3 => DP w3 fun pw3 => NN pw3 fun a1 => DG (E.get? 6) fun w6 => DP w6 fun pw6 => NN pw6 fun a2 => DG (E.get? 8) fun w8 => DI .i64 w8 fun x18 => DG (E.get? 10) fun w10 => DI .i64 w10 fun x19 => DG (E.get? 11) fun w11 => DP w11 fun pw11 => NN pw11 fun a3 => DNilD D (W_turn_Cost.j6 K x17 a1 a2 x18 x19 a3 H)) | false => none, fun i => none, (fun i => match Nat.beq i 5 with | true => some ([], [], 0) | false => none)⟩
theorem W_turn_Cost.ok (x1 : Int) (x2 : Int) (x3 : Int) (x4 : Int) (H : Hp) (K : Value → Hp → Prop) (h : W_turn_Cost x1 x2 x3 x4 H K) : HCalls Tryd.prog 24 #[.agg #[.int .i64 x1, .int .i64 x2], .int .i64 x3, .int .i64 x4] H K :=
  hcalls Tryd.func24 rfl (Nat.le_of_ble_eq_true rfl) (hw_safe (Λ := (W_turn_Cost.Λ K)) mixWturn _ _ _ _ _ (Eq.mp (by kernel_rfl) h) (obs_seq obs_region rfl (obs_seq obs_region rfl (obs_seq (obs_seq obs_region rfl (obs_cond (obs_seq obs_region rfl obs_ret) obs_skip)) rfl (obs_seq obs_region rfl (obs_seqc obs_region rfl (fun E D H h => by
      obtain ⟨w1, e1, g1⟩ := DG.out h
      obtain ⟨x17, rfl, g2⟩ := DI.out g1
      obtain ⟨w3, e3, g3⟩ := DG.out g2
      obtain ⟨pw3, rfl, g4⟩ := DP.out g3
      obtain ⟨a1, rfl, g5⟩ := NN.out g4
      obtain ⟨w6, e6, g6⟩ := DG.out g5
      obtain ⟨pw6, rfl, g7⟩ := DP.out g6
      obtain ⟨a2, rfl, g8⟩ := NN.out g7
      obtain ⟨w8, e8, g9⟩ := DG.out g8
      obtain ⟨x18, rfl, g10⟩ := DI.out g9
      obtain ⟨w10, e10, g11⟩ := DG.out g10
      obtain ⟨x19, rfl, g12⟩ := DI.out g11
      obtain ⟨w11, e11, g13⟩ := DG.out g12
      obtain ⟨pw11, rfl, g14⟩ := DP.out g13
      obtain ⟨a3, rfl, g15⟩ := NN.out g14
      obtain ⟨rfl, h'⟩ := DNilD.out g15
      exact (hw_safe (Λ := (W_turn_Cost.Λ K)) mixWturn _ _ [(1, .int .i64 x17), (3, .pointer (some a1)), (6, .pointer (some a2)), (8, .int .i64 x18), (10, .int .i64 x19), (11, .pointer (some a3))] [] H (Eq.mp (by kernel_rfl) h') (obs_seq (obs_seq obs_region rfl (obs_cond obs_region obs_skip)) rfl (obs_seq obs_region rfl obs_ret))).weaken (EnvLe.cons e1 (EnvLe.cons e3 (EnvLe.cons e6 (EnvLe.cons e8 (EnvLe.cons e10 (EnvLe.cons e11 (EnvLe.nil _))))))) (Hp.le_refl _))))))))

-- (*turn.run).gather
def W_turn_run_gather.l10 (K : Value → Hp → Prop) (R4 : Option Addr → Int → Option Addr → Nat → Nat → Option Addr → Nat → Nat → Int → Int → Hp → Prop) : Nat → Option Addr → Int → Option Addr → Nat → Nat → Option Addr → Nat → Nat → Int → Int → Int → Option Addr → Nat → Nat → Int → Int → Hp → Prop
  | 0, _, _, _, _, _, _, _, _, _, _, _, _, _, _, _, _, _ => False
  | k + 1, p5, x9, A5, n5, m5, A6, n6, m6, x10, x11, x12, A7, n7, m7, x13, x14, H =>
    let R10 := W_turn_run_gather.l10 K R4 k
    BIf (decide (x14 < x13)) (ixI x14 n7 (NN A7 fun a5 => Ld H (a5.add (x14.toNat * 1)) fun v8 => DI .u64 v8 fun x15 => NN p5 fun a6 => Ld H ((a6.add 4).add 0) fun v9 => DI .i64 v9 fun x16 => ixI (IntKind.i64.wrap ((IntKind.i64.wrap (x14 * x16)) + x10)) n5 (NN A5 fun a7 => St H ((a7.add ((IntKind.i64.wrap ((IntKind.i64.wrap (x14 * x16)) + x10)).toNat * 1)).add 0) (.int .u64 x15) fun H4 => R10 p5 x9 A5 n5 m5 A6 n6 m6 x10 x11 x12 A7 n7 m7 x13 (IntKind.i64.wrap (x14 + (1 : Int))) H4))) (R4 p5 x9 A5 n5 m5 A6 n6 m6 x11 (IntKind.i64.wrap (x12 + (1 : Int))) H)
def W_turn_run_gather.l4 (K : Value → Hp → Prop) : Nat → Option Addr → Int → Option Addr → Nat → Nat → Option Addr → Nat → Nat → Int → Int → Hp → Prop
  | 0, _, _, _, _, _, _, _, _, _, _, _ => False
  | k + 1, p3, x4, A3, n3, m3, A4, n4, m4, x5, x6, H =>
    let R4 := W_turn_run_gather.l4 K k
    BIf (decide (x6 < x5)) (NN p3 fun a3 => Ld H (a3.add 2) fun v5 => DP v5 fun p4 => NN p3 fun a4 => Ld H ((a4.add 4).add 1) fun v6 => DI .i64 v6 fun x7 => HCalls Tryd.prog 55 #[.pointer p4, .int .i64 (IntKind.i64.wrap ((IntKind.i64.wrap (x6 * x7)) + x4)), .slice A4 n4 m4] H fun v7 H3 => DI .i64 v7 fun x8 => BIf (x8 != (0 : Int)) (K (.int .i64 x8) H3) ((∃ k, W_turn_run_gather.l10 K R4 k p3 x4 A3 n3 m3 A4 n4 m4 x6 x5 x6 A4 n4 m4 ((n4 : Nat) : Int) (0 : Int) H3))) (K (.int .i64 (0 : Int)) H)
def W_turn_run_gather (p1 : Option Addr) (x1 : Int) (x2 : Int) (H : Hp) (K : Value → Hp → Prop) : Prop :=
  NN p1 fun a1 => Ld H (a1.add 6) fun v1 => DP v1 fun p2 => HCalls Tryd.prog 81 #[.pointer p2] H fun v2 H1 => DSl v2 fun A1 n1 m1 => MkS Tryd.prog 22 x2 x2 H1 fun v3 H2 => DSl v3 fun A2 n2 m2 => NN p1 fun a2 => Ld H2 ((a2.add 4).add 0) fun v4 => DI .i64 v4 fun x3 => (∃ k, W_turn_run_gather.l4 K k p1 x1 A1 n1 m1 A2 n2 m2 x3 (0 : Int) H2)
def W_turn_run_gather.l4.L (K : Value → Hp → Prop) (k : Nat) : Mid := fun E D H =>
  DG (E.get? 0) fun w0 => DP w0 fun p3 => DG (E.get? 1) fun w1 => DI .i64 w1 fun x4 => DG (E.get? 7) fun w7 => DSl w7 fun A3 n3 m3 => DG (E.get? 8) fun w8 => DSl w8 fun A4 n4 m4 => DG (E.get? 24) fun w24 => DI .i64 w24 fun x5 => DG (E.get? 25) fun w25 => DI .i64 w25 fun x6 => DNilD D (W_turn_run_gather.l4 K k p3 x4 A3 n3 m3 A4 n4 m4 x5 x6 H)
def W_turn_run_gather.l10.L (K : Value → Hp → Prop) (R4 : Option Addr → Int → Option Addr → Nat → Nat → Option Addr → Nat → Nat → Int → Int → Hp → Prop) (k : Nat) : Mid := fun E D H =>
  DG (E.get? 0) fun w0 => DP w0 fun p5 => DG (E.get? 1) fun w1 => DI .i64 w1 fun x9 => DG (E.get? 7) fun w7 => DSl w7 fun A5 n5 m5 => DG (E.get? 8) fun w8 => DSl w8 fun A6 n6 m6 => DG (E.get? 9) fun w9 => DI .i64 w9 fun x10 => DG (E.get? 24) fun w24 => DI .i64 w24 fun x11 => DG (E.get? 25) fun w25 => DI .i64 w25 fun x12 => DG (E.get? 46) fun w46 => DSl w46 fun A7 n7 m7 => DG (E.get? 47) fun w47 => DI .i64 w47 fun x13 => DG (E.get? 48) fun w48 => DI .i64 w48 fun x14 => DNilD D (W_turn_run_gather.l10 K R4 k p5 x9 A5 n5 m5 A6 n6 m6 x10 x11 x12 A7 n7 m7 x13 x14 H)
def W_turn_run_gather.Λ10 (_ : Value → Hp → Prop) (_R4 : Option Addr → Int → Option Addr → Nat → Nat → Option Addr → Nat → Nat → Int → Int → Hp → Prop) (_R10 : Option Addr → Int → Option Addr → Nat → Nat → Option Addr → Nat → Nat → Int → Int → Int → Option Addr → Nat → Nat → Int → Int → Hp → Prop) : Cuts := Cuts.none (fun i => match Nat.beq i 6 with | true => some ([], [0, 1, 2, 3, 4, 5, 6, 7, 8, 9, 10, 11, 12, 13], 14) | false => none)
def W_turn_run_gather.Λ4 (K : Value → Hp → Prop) (R4 : Option Addr → Int → Option Addr → Nat → Nat → Option Addr → Nat → Nat → Int → Int → Hp → Prop) : Cuts := ⟨fun i => none, fun i => match Nat.beq i 10 with | true => some (fun E D H => ∃ k, W_turn_run_gather.l10.L K R4 k E D H) | false => none, (fun i => match Nat.beq i 6 with | true => some ([], [0, 1, 2, 3, 4, 5, 6, 7, 8, 9, 10, 11, 12, 13], 14) | false => none)⟩
def W_turn_run_gather.Λ (K : Value → Hp → Prop) : Cuts := ⟨fun i => none, fun i => match Nat.beq i 4 with | true => some (fun E D H => ∃ k, W_turn_run_gather.l4.L K k E D H) | false => none, (fun i => match Nat.beq i 6 with | true => some ([], [0, 1, 2, 3, 4, 5, 6, 7, 8, 9, 10, 11, 12, 13], 14) | false => none)⟩
theorem W_turn_run_gather.ok (p1 : Option Addr) (x1 : Int) (x2 : Int) (H : Hp) (K : Value → Hp → Prop) (h : W_turn_run_gather p1 x1 x2 H K) : HCalls Tryd.prog 52 #[.pointer p1, .int .i64 x1, .int .i64 x2] H K :=
  hcalls Tryd.func52 rfl (Nat.le_of_ble_eq_true rfl) (hw_safe (Λ := (W_turn_run_gather.Λ K)) mixWturn _ _ _ _ _ (Eq.mp (by kernel_rfl) h) (obs_seq obs_region rfl (obs_seq obs_region rfl (obs_seq obs_region rfl (obs_seq (obs_seq obs_region rfl (obs_block (obs_loop rfl (fun E D H h => by
      refine Safe.loop' (W_turn_run_gather.l4.L K) (fun E D H h => ?_) (fun k E D H h => ?_) E D H h
      · obtain ⟨w0, e0, g1⟩ := DG.out h; obtain ⟨p3, rfl, g2⟩ := DP.out g1; obtain ⟨w1, e1, g3⟩ := DG.out g2; obtain ⟨x4, rfl, g4⟩ := DI.out g3; obtain ⟨w7, e7, g5⟩ := DG.out g4; obtain ⟨A3, n3, m3, rfl, g6⟩ := DSl.out g5; obtain ⟨w8, e8, g7⟩ := DG.out g6; obtain ⟨A4, n4, m4, rfl, g8⟩ := DSl.out g7; obtain ⟨w24, e24, g9⟩ := DG.out g8; obtain ⟨x5, rfl, g10⟩ := DI.out g9; obtain ⟨w25, e25, g11⟩ := DG.out g10; obtain ⟨x6, rfl, g12⟩ := DI.out g11; obtain ⟨rfl, h'⟩ := DNilD.out g12; exact h'
      · obtain ⟨w0, e0, g1⟩ := DG.out h
        obtain ⟨p3, rfl, g2⟩ := DP.out g1
        obtain ⟨w1, e1, g3⟩ := DG.out g2
        obtain ⟨x4, rfl, g4⟩ := DI.out g3
        obtain ⟨w7, e7, g5⟩ := DG.out g4
        obtain ⟨A3, n3, m3, rfl, g6⟩ := DSl.out g5
        obtain ⟨w8, e8, g7⟩ := DG.out g6
        obtain ⟨A4, n4, m4, rfl, g8⟩ := DSl.out g7
        obtain ⟨w24, e24, g9⟩ := DG.out g8
        obtain ⟨x5, rfl, g10⟩ := DI.out g9
        obtain ⟨w25, e25, g11⟩ := DG.out g10
        obtain ⟨x6, rfl, g12⟩ := DI.out g11
        obtain ⟨rfl, h'⟩ := DNilD.out g12
        exact (hw_safe (Λ := (W_turn_run_gather.Λ4 K (W_turn_run_gather.l4 K k))) mixWturn _ _ [(0, .pointer p3), (1, .int .i64 x4), (7, .slice A3 n3 m3), (8, .slice A4 n4 m4), (24, .int .i64 x5), (25, .int .i64 x6)] [] H (Eq.mp (by kernel_rfl) h') (obs_seq obs_region rfl (obs_seq (obs_cond obs_skip obs_exit) rfl (obs_seq (obs_block (obs_seq obs_region rfl (obs_seq (obs_seq obs_region rfl (obs_seq obs_region rfl (obs_cond (obs_seq obs_region rfl obs_ret) obs_skip))) rfl (obs_seq obs_region rfl (obs_block (obs_loop rfl (fun E D H h => by
            refine Safe.loop' (W_turn_run_gather.l10.L K (W_turn_run_gather.l4 K k)) (fun E D H h => ?_) (fun k E D H h => ?_) E D H h
            · obtain ⟨w0, e0, g1⟩ := DG.out h; obtain ⟨p5, rfl, g2⟩ := DP.out g1; obtain ⟨w1, e1, g3⟩ := DG.out g2; obtain ⟨x9, rfl, g4⟩ := DI.out g3; obtain ⟨w7, e7, g5⟩ := DG.out g4; obtain ⟨A5, n5, m5, rfl, g6⟩ := DSl.out g5; obtain ⟨w8, e8, g7⟩ := DG.out g6; obtain ⟨A6, n6, m6, rfl, g8⟩ := DSl.out g7; obtain ⟨w9, e9, g9⟩ := DG.out g8; obtain ⟨x10, rfl, g10⟩ := DI.out g9; obtain ⟨w24, e24, g11⟩ := DG.out g10; obtain ⟨x11, rfl, g12⟩ := DI.out g11; obtain ⟨w25, e25, g13⟩ := DG.out g12; obtain ⟨x12, rfl, g14⟩ := DI.out g13; obtain ⟨w46, e46, g15⟩ := DG.out g14; obtain ⟨A7, n7, m7, rfl, g16⟩ := DSl.out g15; obtain ⟨w47, e47, g17⟩ := DG.out g16; obtain ⟨x13, rfl, g18⟩ := DI.out g17; obtain ⟨w48, e48, g19⟩ := DG.out g18; obtain ⟨x14, rfl, g20⟩ := DI.out g19; obtain ⟨rfl, h'⟩ := DNilD.out g20; exact h'
            · obtain ⟨w0, e0, g1⟩ := DG.out h
              obtain ⟨p5, rfl, g2⟩ := DP.out g1
              obtain ⟨w1, e1, g3⟩ := DG.out g2
              obtain ⟨x9, rfl, g4⟩ := DI.out g3
              obtain ⟨w7, e7, g5⟩ := DG.out g4
              obtain ⟨A5, n5, m5, rfl, g6⟩ := DSl.out g5
              obtain ⟨w8, e8, g7⟩ := DG.out g6
              obtain ⟨A6, n6, m6, rfl, g8⟩ := DSl.out g7
              obtain ⟨w9, e9, g9⟩ := DG.out g8
              obtain ⟨x10, rfl, g10⟩ := DI.out g9
              obtain ⟨w24, e24, g11⟩ := DG.out g10
              obtain ⟨x11, rfl, g12⟩ := DI.out g11
              obtain ⟨w25, e25, g13⟩ := DG.out g12
              obtain ⟨x12, rfl, g14⟩ := DI.out g13
              obtain ⟨w46, e46, g15⟩ := DG.out g14
              obtain ⟨A7, n7, m7, rfl, g16⟩ := DSl.out g15
              obtain ⟨w47, e47, g17⟩ := DG.out g16
              obtain ⟨x13, rfl, g18⟩ := DI.out g17
              obtain ⟨w48, e48, g19⟩ := DG.out g18
              obtain ⟨x14, rfl, g20⟩ := DI.out g19
              obtain ⟨rfl, h'⟩ := DNilD.out g20
              exact (hw_safe (Λ := (W_turn_run_gather.Λ10 K (W_turn_run_gather.l4 K k) (W_turn_run_gather.l10 K (W_turn_run_gather.l4 K k) k))) mixWturn _ _ [(0, .pointer p5), (1, .int .i64 x9), (7, .slice A5 n5 m5), (8, .slice A6 n6 m6), (9, .int .i64 x10), (24, .int .i64 x11), (25, .int .i64 x12), (46, .slice A7 n7 m7), (47, .int .i64 x13), (48, .int .i64 x14)] [] H (Eq.mp (by kernel_rfl) h') (obs_seq obs_region rfl (obs_seq (obs_cond obs_skip obs_exit) rfl (obs_seq (obs_block (obs_seq obs_region rfl obs_region)) rfl obs_region)))).weaken (EnvLe.cons e0 (EnvLe.cons e1 (EnvLe.cons e7 (EnvLe.cons e8 (EnvLe.cons e9 (EnvLe.cons e24 (EnvLe.cons e25 (EnvLe.cons e46 (EnvLe.cons e47 (EnvLe.cons e48 (EnvLe.nil _))))))))))) (Hp.le_refl _)))))))) rfl obs_region)))).weaken (EnvLe.cons e0 (EnvLe.cons e1 (EnvLe.cons e7 (EnvLe.cons e8 (EnvLe.cons e24 (EnvLe.cons e25 (EnvLe.nil _))))))) (Hp.le_refl _))))) rfl (obs_seq obs_region rfl obs_ret))))))

-- (*turn.run).lay
def W_turn_run_lay (p1 : Option Addr) (x1 : Int) (H : Hp) (K : Value → Hp → Prop) : Prop :=
  NN p1 fun a1 => NN p1 fun a2 => Ld H (a2.add 6) fun v1 => DP v1 fun p2 => QCall Tryd.prog 81 #[.pointer p2] H fun v2 => DSl v2 fun A1 n1 m1 => HCalls Tryd.prog 84 #[.pointer (some (a1.add 0)), .slice A1 n1 m1] H fun v3 H1 => NN p1 fun a3 => Ld H1 (a3.add 3) fun v4 => DP v4 fun p3 => NN p1 fun a4 => Ld H1 ((a4.add 4).add 0) fun v5 => DI .i64 v5 fun x2 => NN p1 fun a5 => Ld H1 (a5.add 6) fun v6 => DP v6 fun p4 => QCall Tryd.prog 81 #[.pointer p4] H1 fun v7 => DSl v7 fun A2 n2 m2 => HCalls Tryd.prog 46 #[.pointer p3, .int .i64 (IntKind.i64.wrap (x1 * x2)), .slice A2 n2 m2] H1 fun v8 H2 => DI .i64 v8 fun x3 => K (.int .i64 x3) H2
def W_turn_run_lay.Λ (_ : Value → Hp → Prop) : Cuts := Cuts.none (fun i => match Nat.beq i 2 with | true => some ([], [0, 1, 2, 3, 4, 5, 6, 7, 8, 9, 10, 11, 12, 13, 14, 15], 16) | false => match Nat.beq i 1 with | true => some ([], [0, 1, 2, 3, 4, 5, 6, 7], 8) | false => none)
theorem W_turn_run_lay.ok (p1 : Option Addr) (x1 : Int) (H : Hp) (K : Value → Hp → Prop) (h : W_turn_run_lay p1 x1 H K) : HCalls Tryd.prog 53 #[.pointer p1, .int .i64 x1] H K :=
  hcalls Tryd.func53 rfl (Nat.le_of_ble_eq_true rfl) (hw_safe (Λ := Cuts.none (fun i => match Nat.beq i 2 with | true => some ([], [0, 1, 2, 3, 4, 5, 6, 7, 8, 9, 10, 11, 12, 13, 14, 15], 16) | false => match Nat.beq i 1 with | true => some ([], [0, 1, 2, 3, 4, 5, 6, 7], 8) | false => none)) mixWturn _ _ _ _ _ (Eq.mp (by kernel_rfl) h) (obs_none _ _ _ _ _))

end Go.Proofs.YtgkdkemhiglpdaaDoor.W

end
section
/-! TrnA -/
/- turn: the band that has room. -/
set_option maxRecDepth 100000
set_option linter.unusedSimpArgs false
set_option linter.unusedVariables false
set_option linter.unnecessarySimpa false
set_option linter.unusedSectionVars false
namespace Go.Proofs.YtgkdkemhiglpdaaDoor.Trn
open Go Go.Hw Go.Proofs.YtgkdkemhiglpdaaDoor.W Go.Proofs.YtgkdkemhiglpdaaDoor.Shp

/-- A sector's words. -/
def perB (p : Int) : Bool := p == 4 || p == 8 || p == 16 || p == 32 || p == 64 || p == 128 || p == 256 || p == 512

theorem per_table : (List.range 513).all (fun n => decide (n < 4) || ((n &&& (n - 1) == 0) == perB (n : Int))) = true := by decide +kernel
theorem perB_of {p : Int} (h4 : 4 ≤ p) (h5 : p ≤ 512) : (bAnd .i64 p (IntKind.i64.wrap (p - 1)) = 0) ↔ perB p = true := by
  obtain ⟨n, rfl⟩ := Int.eq_ofNat_of_zero_le (show 0 ≤ p by omega)
  rw [show ((n : Int) - 1) = ((n - 1 : Nat) : Int) by omega, i64w (by omega) (by omega), Lay.bAnd_nat (by omega) (by omega)]
  have ht := List.all_eq_true.1 per_table n (by simp; omega)
  simp only [Bool.or_eq_true, decide_eq_true_eq, beq_iff_eq] at ht
  have ht := ht.resolve_left (by omega)
  rw [← ht]
  simp only [beq_iff_eq]
  omega
theorem perB_range {p : Int} (h : perB p = true) : 4 ≤ p ∧ p ≤ 512 := by
  simp only [perB, Bool.or_eq_true, beq_iff_eq] at h
  omega

/-- The band is 2^j. -/
structure BandIs (r c : Int) (per free : Int) (j : Nat) : Prop where
  le : ((2 ^ j : Nat) : Int) ≤ c
  fit : ((2 ^ j : Nat) : Int) * r ≤ free - per
  most : ((2 ^ j : Nat) : Int) = c ∨ free - per < 2 * ((2 ^ j : Nat) : Int) * r

def bandQ (r c per free : Int) (v : Value) : Prop :=
  (¬ (goodS r c = true ∧ perB per = true ∧ per ≤ free ∧ r ≤ free - per) ∧ v = .tuple #[.int .i64 0, .bool false]) ∨
  ((goodS r c = true ∧ perB per = true ∧ per ≤ free ∧ r ≤ free - per) ∧ ∃ j : Nat, BandIs r c per free j ∧ v = .tuple #[.int .i64 ((2 ^ j : Nat) : Int), .bool true])

theorem band_loop {r c per free : Int} {ea eb : Nat} (hr : r = ((2 ^ ea : Nat) : Int)) (hc : c = ((2 ^ eb : Nat) : Int)) (hab : ea + eb ≤ 32) (hp : perB per = true) (hf : per ≤ free ∧ free ≤ 9223372036854775807) (K : Value → Hp → Prop) (b1 : Nat) {L : List As} (i : Nat)
    (hi : L[i]? = some (pts b1 (.obj (.cells #[.int .i64 r, .int .i64 c] 29)))) {H : Hp} (hs : Sep L H) (hK : ∀ j, BandIs r c per free j → K (.tuple #[.int .i64 ((2 ^ j : Nat) : Int), .bool true]) H) :
    ∀ (t j : Nat), j + t = eb → ((2 ^ j : Nat) : Int) * r ≤ free - per → W_turn_Band.l4 K (t + 1) per free ⟨b1, 0, none⟩ ((2 ^ j : Nat) : Int) H := by
  have hpr := perB_range hp
  have hra := pow_pos ea
  have hca := pow_le (show ea ≤ 32 by omega)
  rw [show 2 ^ 32 = 4294967296 by decide] at hca
  have key : ∀ (j : Nat), j < eb → W_turn_Band.l4 K 0 per free ⟨b1, 0, none⟩ ((2 ^ j : Nat) : Int) H = False := fun _ _ => rfl
  intro t
  induction t with
  | zero =>
    intro j hj hfit
    have hje : j = eb := by omega
    have hp2 := pow_le (show j ≤ 32 by omega)
    rw [show 2 ^ 32 = 4294967296 by decide] at hp2
    have hz := Int.natCast_nonneg (2 ^ j)
    have hq : ((2 ^ j : Nat) : Int) ≤ 4294967296 := Int.ofNat_le.2 hp2
    unfold W_turn_Band.l4
    refine hs.ldf i hi rfl ?_
    simp only [DI_int', DB_bool, DS_string, DP_pointer, DSl_slice, DM_map, DA_agg, DTup_tuple, DCons_cons, DNil_nil, NN_some, BIf_true, BIf_false, BIf_same, List.toList_toArray, Bool.not_true, Bool.not_false]
    rw [i64w (by omega) (by omega)]
    refine BIf_dneg ?_ (hK j ⟨by rw [hc, hje]; exact Int.le_refl _, hfit, .inl (by rw [hc, hje])⟩)
    rw [hc, ← hje]
    have := pow_pos j
    omega
  | succ t ih =>
    intro j hj hfit
    have hp2 := pow_le (show j + 1 ≤ 32 by omega)
    rw [show 2 ^ 32 = 4294967296 by decide, Nat.pow_succ] at hp2
    have h2 : IntKind.i64.wrap ((2 : Int) * ((2 ^ j : Nat) : Int)) = ((2 ^ (j + 1) : Nat) : Int) := by
      rw [i64w (by omega) (by omega), Nat.pow_succ]; omega
    have hle : ((2 ^ (j + 1) : Nat) : Int) ≤ c := by
      rw [hc]; have := pow_le (show j + 1 ≤ eb by omega); omega
    unfold W_turn_Band.l4
    refine hs.ldf i hi rfl ?_
    simp only [DI_int', DB_bool, DS_string, DP_pointer, DSl_slice, DM_map, DA_agg, DTup_tuple, DCons_cons, DNil_nil, NN_some, BIf_true, BIf_false, BIf_same, List.toList_toArray, Bool.not_true, Bool.not_false]
    rw [h2]
    refine BIf_dpos hle ?_
    refine hs.ldf i hi rfl ?_
    simp only [DI_int', DB_bool, DS_string, DP_pointer, DSl_slice, DM_map, DA_agg, DTup_tuple, DCons_cons, DNil_nil, NN_some, BIf_true, BIf_false, BIf_same, List.toList_toArray, Bool.not_true, Bool.not_false]
    refine ⟨by omega, trivial, ?_⟩
    obtain ⟨f, hfe⟩ := Int.eq_ofNat_of_zero_le (show 0 ≤ free - per by omega)
    rw [i64w (x := free - per) (by omega) (by omega)]
    rw [show Int.tdiv (free - per) r = ((f / 2 ^ ea : Nat) : Int) by rw [hfe, hr]; rfl]
    have hdl : f / 2 ^ ea ≤ f := Nat.div_le_self _ _
    rw [i64n (by omega)]
    have hiff : (((2 ^ (j + 1) : Nat) : Int) ≤ ((f / 2 ^ ea : Nat) : Int)) ↔ ((2 ^ (j + 1) : Nat) : Int) * r ≤ free - per := by
      rw [Int.ofNat_le, Nat.le_div_iff_mul_le (by omega), hfe, hr, ← Int.natCast_mul, Int.ofNat_le]
    by_cases hc2 : ((2 ^ (j + 1) : Nat) : Int) * r ≤ free - per
    · refine BIf_dpos (hiff.2 hc2) ?_
      have h3 : IntKind.i64.wrap (((2 ^ j : Nat) : Int) * (2 : Int)) = ((2 ^ (j + 1) : Nat) : Int) := by rw [Int.mul_comm]; exact h2
      rw [h3]
      exact ih (j + 1) (by omega) hc2
    · refine BIf_dneg (fun h => hc2 (hiff.1 h)) (hK j ⟨?_, hfit, .inr ?_⟩)
      · rw [hc]; have := pow_le (show j ≤ eb by omega); omega
      · have e : (2 : Int) * ((2 ^ j : Nat) : Int) = ((2 ^ (j + 1) : Nat) : Int) := by rw [Nat.pow_succ]; omega
        rw [e]; omega

theorem Band_ok (r c per free : Int) (hper : -9223372036854775808 ≤ per ∧ per ≤ 9223372036854775807) (hf : free ≤ 9223372036854775807) (H : Hp) (hT : T64 H) :
    HCalls Tryd.prog 14 #[.agg #[.int .i64 r, .int .i64 c], .int .i64 per, .int .i64 free] H fun v H' => bandQ r c per free v ∧ H' = H := by
  refine HCalls.forget ?_
  apply W_turn_Band.ok
  unfold W_turn_Band
  refine (Sep.start H).nw fun b1 H1 hs => ?_
  have out : ∀ {v : Value}, bandQ r c per free v → ∃ H'', H''.le H1 ∧ bandQ r c per free v ∧ H'' = H := fun h => ⟨H, hs.ow 0 rfl, h, rfl⟩
  first | refine hs.ldw 1 rfl rfl ?_
  try simp only [DI_int', DB_bool, DS_string, DP_pointer, DSl_slice, DM_map, DA_agg, DTup_tuple, DCons_cons, DNil_nil, NN_some, BIf_true, BIf_false, BIf_same, List.toList_toArray, Bool.not_true, Bool.not_false]
  refine HCalls.use (Good_ok r c H1 (hT.le (hs.ow 0 rfl))) ?_
  simp only [DI_int', DB_bool, DS_string, DP_pointer, DSl_slice, DM_map, DA_agg, DTup_tuple, DCons_cons, DNil_nil, NN_some, BIf_true, BIf_false, BIf_same, List.toList_toArray, Bool.not_true, Bool.not_false]
  cases hg : goodS r c with
  | false => exact BIf_pos rfl (out (.inl ⟨fun h => (by rw [hg] at h; cases h.1), rfl⟩))
  | true =>
    refine BIf_neg rfl ?_
    by_cases h1 : per < 4
    · exact BIf_dpos h1 (out (.inl ⟨fun h => (by have := perB_range h.2.1; omega), rfl⟩))
    refine BIf_dneg h1 ?_
    by_cases h2 : per > 512
    · exact BIf_dpos h2 (out (.inl ⟨fun h => (by have := perB_range h.2.1; omega), rfl⟩))
    refine BIf_dneg h2 ?_
    have hpb := perB_of (p := per) (by omega) (by omega)
    cases hp : perB per with
    | false => exact BIf_bnep (fun h => by rw [hpb.1 h] at hp; cases hp) (out (.inl ⟨fun h => (by rw [hp] at h; cases h.2.1), rfl⟩))
    | true =>
      refine BIf_bnen (hpb.2 hp) ?_
      by_cases h3 : free < per
      · exact BIf_dpos h3 (out (.inl ⟨fun h => (by omega), rfl⟩))
      refine BIf_dneg h3 ?_
      first | refine hs.ldf 1 rfl rfl ?_ | refine hs.ldg 1 rfl rfl ?_
      try simp only [DI_int', DB_bool, DS_string, DP_pointer, DSl_slice, DM_map, DA_agg, DTup_tuple, DCons_cons, DNil_nil, NN_some, BIf_true, BIf_false, BIf_same, List.toList_toArray, Bool.not_true, Bool.not_false]
      rw [i64w (x := free - per) (by omega) (by omega)]
      by_cases h4 : free - per < r
      · exact BIf_dpos h4 (out (.inl ⟨fun h => (by omega), rfl⟩))
      refine BIf_dneg h4 ?_
      obtain ⟨ea, eb, hr, hc, hab, _, _⟩ := goodS_some hg
      refine ⟨eb + 1, ?_⟩
      have := band_loop hr hc hab hp ⟨by omega, hf⟩ (fun v H' => ∃ H'', H''.le H' ∧ bandQ r c per free v ∧ H'' = H) b1 1 rfl hs (fun j hj => out (.inr ⟨⟨hg, hp, by omega, by omega⟩, j, hj, rfl⟩)) eb 0 (by omega) (by rw [Nat.pow_zero]; omega)
      exact this

end Go.Proofs.YtgkdkemhiglpdaaDoor.Trn

end
section
/-! HwM -/
/- The frame of the proofs: maps from pointers to whole blocks, with int values. -/
set_option maxRecDepth 100000
set_option linter.unusedSimpArgs false
set_option linter.unusedVariables false
set_option linter.unnecessarySimpa false
set_option linter.unusedSectionVars false
namespace Go.Hw
open Go

def ptrV (b : Nat) : Value := .pointer (some ⟨b, 0, none⟩)
def ent (x : Nat × Int × Nat) : MapEntry := { key := ptrV x.1, val := .int .i64 x.2.1, born := x.2.2 }
def mapO (l : List (Nat × Int × Nat)) (clock : Nat) : AO := .obj (.map (l.map ent).toArray clock)
def PlainB (H : Hp) (b : Nat) : Prop := ∃ c e, H b = some (.obj (.cells c e))

theorem PlainB.le {H H' : Hp} {b : Nat} (h : PlainB H b) (k : H.le H') : PlainB H' b := by
  obtain ⟨c, e, h⟩ := h; exact ⟨c, e, k _ _ h⟩

theorem PlainB.heap {H : Hp} {w : World} {b : Nat} (h : PlainB H b) (hw : Fits H w) : ∃ c e, w.heap[b]? = some (.cells c e (0, 0)) := by
  obtain ⟨c, e, h⟩ := h
  obtain ⟨o, ho, hh⟩ := hw _ _ h
  cases hh
  exact ⟨c, e, ho⟩

theorem mapO.heap {H : Hp} {w : World} {r clock : Nat} {l : List (Nat × Int × Nat)} (h : H r = some (mapO l clock)) (hw : Fits H w) : w.heap[r]? = some (.map (l.map ent).toArray clock) := by
  obtain ⟨o, ho, hh⟩ := hw _ _ h
  cases hh
  exact ho

section
variable {P : Program} {t te : TypeId} {j : TypeInfo} (ht : P.underlying t = some (.pointer te)) (hj : P.info? te = some j) (hs : j.size ≠ 0)
include ht hj hs

theorem equal_ptr_run {H : Hp} {w : World} (hw : Fits H w) {a b : Nat} (ha : PlainB H a) (hb : PlainB H b) : (Op.equal t (ptrV a) (ptrV b)).run P w = .ok (decide (a = b)) w := by
  obtain ⟨ca, ea, ha⟩ := ha.heap hw
  obtain ⟨cb, eb, hb⟩ := hb.heap hw
  unfold Op.equal Op.maxDepth Op.equalIn ptrV
  simp only [Sem.run_bind, underlying_run ht, Result.andThen_ok, sizeOf_run hj]
  rw [if_pos hs]
  by_cases e : a = b
  · subst e
    rw [run_sameAddr_same]; simp
  · rw [run_sameAddr_other w (a := ⟨a, 0, none⟩) (b := ⟨b, 0, none⟩) (by simpa using e) ha hb]; simp [e]

theorem equal_nil_run {w : World} {b : Nat} : (Op.equal t (.pointer none) (ptrV b)).run P w = .ok false w := by
  unfold Op.equal Op.maxDepth Op.equalIn ptrV
  simp [underlying_run ht]

def findR (a : Nat) : List (Nat × Int × Nat) → Nat → Option (Nat × Value)
  | [], _ => none
  | x :: l, i => if a = x.1 then some (i, .int .i64 x.2.1) else findR a l (i + 1)

theorem findAsk_run {H : Hp} {w : World} (hw : Fits H w) {a : Nat} (ha : PlainB H a) : ∀ (l : List (Nat × Int × Nat)) (i : Nat), (∀ x ∈ l, PlainB H x.1) → (Instr.findAsking t (ptrV a) (l.map ent) i).run P w = .ok (findR a l i) w
  | [], i, _ => by simp [Instr.findAsking, findR]
  | x :: l, i, h => by
    simp only [List.map_cons, Instr.findAsking, Sem.run_bind]
    rw [show (ent x).key = ptrV x.1 from rfl, equal_ptr_run ht hj hs hw ha (h x (by simp))]
    simp only [Result.andThen_ok, findR]
    by_cases e : a = x.1
    · simp [e, ent]
    · simp only [e, decide_false, Bool.false_eq_true, if_false]
      exact findAsk_run hw ha l (i + 1) (fun y hy => h y (by simp [hy]))

theorem findAsk_nil {w : World} : ∀ (l : List (Nat × Int × Nat)) (i : Nat), (Instr.findAsking t (.pointer none) (l.map ent) i).run P w = .ok none w
  | [], i => by simp [Instr.findAsking]
  | x :: l, i => by
    simp only [List.map_cons, Instr.findAsking, Sem.run_bind]
    rw [show (ent x).key = ptrV x.1 from rfl, equal_nil_run ht hj hs]
    simp only [Result.andThen_ok, Bool.false_eq_true, if_false]
    exact findAsk_nil l (i + 1)

theorem findKey_run {H : Hp} {w : World} (hw : Fits H w) {a : Nat} (ha : PlainB H a) (l : List (Nat × Int × Nat)) (h : ∀ x ∈ l, PlainB H x.1) : (Instr.findKey t (ptrV a) (l.map ent)).run P w = .ok (findR a l 0) w := by
  unfold Instr.findKey
  simp only [Sem.run_bind, underlying_run ht, Result.andThen_ok]
  cases l with
  | nil => simp [Instr.findNow, findR]
  | cons x l =>
    simp only [List.map_cons, Instr.findNow, Instr.sameNow]
    exact findAsk_run ht hj hs hw ha (x :: l) 0 h

theorem findKey_nil {w : World} (l : List (Nat × Int × Nat)) : (Instr.findKey t (.pointer none) (l.map ent)).run P w = .ok none w := by
  unfold Instr.findKey
  simp only [Sem.run_bind, underlying_run ht, Result.andThen_ok]
  cases l with
  | nil => simp [Instr.findNow]
  | cons x l =>
    simp only [List.map_cons, Instr.findNow, Instr.sameNow]
    exact findAsk_nil ht hj hs (x :: l) 0

theorem checkKey_run {w : World} (e : Bool) (p : Option Addr) : (Instr.checkKey e 10000 t (.pointer p)).run P w = .ok () w := by
  unfold Instr.checkKey
  simp [underlying_run ht]

variable {tm tv : TypeId} (hm : P.underlying tm = some (.map t tv))
include hm

theorem lookup_ptr {jv : TypeInfo} (hv : P.info? tv = some jv) (hz : jv.zero = some (.int .i64 0)) {H : Hp} {r clock a : Nat} {l : List (Nat × Int × Nat)} (hr : H r = some (mapO l clock)) (ha : PlainB H a) (hl : ∀ x ∈ l, PlainB H x.1) {K : Value → Prop}
    (k1 : ∀ i v, findR a l 0 = some (i, v) → K (.tuple #[v, .bool true])) (k2 : findR a l 0 = none → K (.tuple #[.int .i64 0, .bool false])) : SemV P (Instr.lookup tm (.map (some r)) (ptrV a) true) H K := by
  have hrun : ∀ w, Fits H w → (Instr.lookup tm (.map (some r)) (ptrV a) true).run P w = .ok (match findR a l 0 with | some (_, v) => .tuple #[v, .bool true] | none => .tuple #[.int .i64 0, .bool false]) w := fun w hw => by
    have hh := mapO.heap hr hw
    simp only [Instr.lookup, Sem.run_bind, underlying_run hm, Result.andThen_ok, MapKept.run_getObj_map hh, Sem.run_pure]
    rw [show ptrV a = .pointer (some ⟨a, 0, none⟩) from rfl, checkKey_run ht hj hs]
    simp only [Result.andThen_ok]
    rw [show (Value.pointer (some ⟨a, 0, none⟩)) = ptrV a from rfl, findKey_run ht hj hs hw ha l hl]
    simp only [Result.andThen_ok]
    cases findR a l 0 with
    | some x => simp
    | none => simp [zeroValue, typeInfo_run hv, hz]
  refine ⟨_, ?_, hrun⟩
  cases hf : findR a l 0 with
  | some x => exact k1 _ _ hf
  | none => exact k2 hf

theorem lookup_nilptr {jv : TypeInfo} (hv : P.info? tv = some jv) (hz : jv.zero = some (.int .i64 0)) {H : Hp} {r clock : Nat} {l : List (Nat × Int × Nat)} (hr : H r = some (mapO l clock)) {K : Value → Prop} (k2 : K (.tuple #[.int .i64 0, .bool false])) :
    SemV P (Instr.lookup tm (.map (some r)) (.pointer none) true) H K := by
  refine ⟨_, k2, fun w hw => ?_⟩
  have hh := mapO.heap hr hw
  simp only [Instr.lookup, Sem.run_bind, underlying_run hm, Result.andThen_ok, MapKept.run_getObj_map hh, Sem.run_pure]
  rw [checkKey_run ht hj hs]
  simp only [Result.andThen_ok]
  rw [findKey_nil ht hj hs]
  simp [zeroValue, typeInfo_run hv, hz]
end

theorem erase_map {α β : Type} (f : α → β) : ∀ (l : List α) (k : Nat), (l.map f).eraseIdx k = (l.eraseIdx k).map f
  | [], k => by simp
  | x :: l, 0 => by simp
  | x :: l, k + 1 => by simp [erase_map f l k]

theorem At.setMap {H0 H : Hp} {w0 w : World} {r clock : Nat} {l : List (Nat × Int × Nat)} (hA : At H0 w0 H w) (hr : H r = some (mapO l clock)) (o : Obj) : At H0 w0 (H.set r (.obj o)) { w with heap := w.heap.setIfInBounds r o } := by
  have hh := mapO.heap hr hA.fits
  have hlt : r < w.heap.size := (Array.getElem?_eq_some_iff.1 hh).1
  refine hA.turn hr (x' := o) ?_ rfl ?_ rfl rfl rfl (fun c hc => ?_)
  · show (w.heap.setIfInBounds r o)[r]? = some o
    simp [hlt]
  · show (w.heap.setIfInBounds r o).size = w.heap.size
    simp
  · show (w.heap.setIfInBounds r o)[c]? = w.heap[c]?
    rw [Array.getElem?_setIfInBounds_ne (Ne.symm hc)]

section
variable {P : Program} {t te : TypeId} {j : TypeInfo} (ht : P.underlying t = some (.pointer te)) (hj : P.info? te = some j) (hs : j.size ≠ 0)
variable {tm tv : TypeId} (hm : P.underlying tm = some (.map t tv))
include ht hj hs hm

theorem mapUpdate_new {H : Hp} {r clock a : Nat} {n : Int} {l : List (Nat × Int × Nat)} (hr : H r = some (mapO l clock)) (ha : PlainB H a) (hl : ∀ x ∈ l, PlainB H x.1) (hf : findR a l 0 = none) {K : Unit → Hp → Prop}
    (k : K () (H.set r (mapO (l ++ [(a, n, clock)]) (clock + 1)))) : SemK P (Instr.mapUpdate tm (.map (some r)) (ptrV a) (.int .i64 n)) H K := fun H0 w0 w hA => by
  have hh := mapO.heap hr hA.fits
  refine ⟨(), _, _, ?_, k, hA.setMap hr _⟩
  simp only [Instr.mapUpdate, Sem.run_bind, underlying_run hm, Result.andThen_ok, MapKept.run_getObj_map hh]
  rw [show ptrV a = .pointer (some ⟨a, 0, none⟩) from rfl, checkKey_run ht hj hs]
  simp only [Result.andThen_ok]
  rw [show (Value.pointer (some ⟨a, 0, none⟩)) = ptrV a from rfl, findKey_run ht hj hs hA.fits ha l hl, hf]
  simp only [Result.andThen_ok]
  rw [MapKept.run_setObj_map _ hh]
  simp [ent]

theorem findR_filter (a : Nat) : ∀ (l : List (Nat × Int × Nat)) (i k : Nat) (v : Value), (l.map (·.1)).Nodup → findR a l i = some (k, v) → i ≤ k ∧ l.eraseIdx (k - i) = l.filter (fun x => x.1 ≠ a) ∧ ∃ x ∈ l, x.1 = a ∧ v = .int .i64 x.2.1
  | [], i, k, v, _, h => by cases h
  | x :: l, i, k, v, hn, h => by
    unfold findR at h
    simp only [List.map_cons, List.nodup_cons] at hn
    by_cases e : a = x.1
    · rw [if_pos e] at h
      cases h
      refine ⟨Nat.le_refl _, ?_, x, by simp, e.symm, rfl⟩
      rw [Nat.sub_self, List.eraseIdx_cons_zero, List.filter_cons_of_neg (by simp [e])]
      symm
      rw [List.filter_eq_self]
      intro y hy
      have : y.1 ≠ a := fun e2 => hn.1 (by rw [← e, ← e2]; exact List.mem_map_of_mem hy)
      simpa using this
    · rw [if_neg e] at h
      obtain ⟨h1, h2, y, hy, h3, h4⟩ := findR_filter a l (i + 1) k v hn.2 h
      refine ⟨by omega, ?_, y, by simp [hy], h3, h4⟩
      rw [show k - i = (k - (i + 1)) + 1 by omega, List.eraseIdx_cons_succ, h2, List.filter_cons_of_pos (by simp; exact fun e2 => e e2.symm)]

theorem delete_ptr {ty : TypeId} {t2 : TypeId} {H : Hp} {r clock a k : Nat} {v : Value} {l : List (Nat × Int × Nat)} (hr : H r = some (mapO l clock)) (ha : PlainB H a) (hl : ∀ x ∈ l, PlainB H x.1) (hn : (l.map (·.1)).Nodup) (hf : findR a l 0 = some (k, v)) {K : Value → Hp → Prop}
    (kk : K (.tuple #[]) (H.set r (mapO (l.filter fun x => x.1 ≠ a) clock))) : SemK P (Builtin.delete_ #[tm, t2] ty #[.map (some r), ptrV a]) H K := fun H0 w0 w hA => by
  have hh := mapO.heap hr hA.fits
  obtain ⟨_, h2, _⟩ := findR_filter ht hj hs hm a l 0 k v hn hf
  rw [Nat.sub_zero] at h2
  refine ⟨_, _, _, ?_, kk, hA.setMap hr _⟩
  simp only [Builtin.delete_, Sem.run_bind, underlying_run hm, Result.andThen_ok, MapKept.run_getObj_map hh, List.getElem?_toArray, List.getElem?_cons_zero, List.getElem?_cons_succ]
  rw [show ptrV a = .pointer (some ⟨a, 0, none⟩) from rfl, checkKey_run ht hj hs]
  simp only [Result.andThen_ok]
  rw [show (Value.pointer (some ⟨a, 0, none⟩)) = ptrV a from rfl, findKey_run ht hj hs hA.fits ha l hl, hf]
  simp only [Result.andThen_ok]
  rw [Sem.run_bind, MapKept.run_setObj_map _ hh]
  rw [← h2, ← erase_map]
  simp

theorem clear_ptr {ty : TypeId} {H : Hp} {r clock : Nat} {l : List (Nat × Int × Nat)} (hr : H r = some (mapO l clock)) {K : Value → Hp → Prop} (kk : K (.tuple #[]) (H.set r (mapO [] clock))) : SemK P (Builtin.clear_ #[tm] ty #[.map (some r)]) H K := fun H0 w0 w hA => by
  have hh := mapO.heap hr hA.fits
  refine ⟨_, _, _, ?_, kk, hA.setMap hr _⟩
  simp only [Builtin.clear_, Sem.run_bind, underlying_run hm, Result.andThen_ok, List.getElem?_toArray, List.getElem?_cons_zero, MapKept.run_getObj_map hh]
  try rw [Sem.run_bind]
  rw [MapKept.run_setObj_map _ hh]
  simp
end

end Go.Hw

end
section
/-! Warena -/
/- Formulas of functions, printed by wip/tools/hwp.py. -/
set_option maxRecDepth 100000
set_option linter.unusedVariables false
namespace Go.Proofs.YtgkdkemhiglpdaaDoor.W
open Go Go.Hw

theorem mixWarena : Tryd.prog.follows .mixedOrders = true := by kernel_rfl
-- (*arena.meter).Used
def W_arena_meter_Used (p1 : Option Addr) (H : Hp) (K : Value → Hp → Prop) : Prop :=
  NN p1 fun a1 => Ld H (a1.add 1) fun v1 => DI .i64 v1 fun x1 => K (.int .i64 x1) H
def W_arena_meter_Used.Λ (_ : Value → Hp → Prop) : Cuts := Cuts.none (fun _ => none)
theorem W_arena_meter_Used.ok (p1 : Option Addr) (H : Hp) (K : Value → Hp → Prop) (h : W_arena_meter_Used p1 H K) : HCalls Tryd.prog 18 #[.pointer p1] H K :=
  hcalls Tryd.func18 rfl (Nat.le_of_ble_eq_true rfl) (hw_safe (Λ := Cuts.none (fun _ => none)) mixWarena _ _ _ _ _ (Eq.mp (by kernel_rfl) h) (obs_none _ _ _ _ _))

-- (*arena.meter).Peak
def W_arena_meter_Peak (p1 : Option Addr) (H : Hp) (K : Value → Hp → Prop) : Prop :=
  NN p1 fun a1 => Ld H (a1.add 2) fun v1 => DI .i64 v1 fun x1 => K (.int .i64 x1) H
def W_arena_meter_Peak.Λ (_ : Value → Hp → Prop) : Cuts := Cuts.none (fun _ => none)
theorem W_arena_meter_Peak.ok (p1 : Option Addr) (H : Hp) (K : Value → Hp → Prop) (h : W_arena_meter_Peak p1 H K) : HCalls Tryd.prog 23 #[.pointer p1] H K :=
  hcalls Tryd.func23 rfl (Nat.le_of_ble_eq_true rfl) (hw_safe (Λ := Cuts.none (fun _ => none)) mixWarena _ _ _ _ _ (Eq.mp (by kernel_rfl) h) (obs_none _ _ _ _ _))

-- arena.New
def W_arena_New (x1 : Int) (H : Hp) (K : Value → Hp → Prop) : Prop :=
  BIf (decide (x1 < (1 : Int))) (K (.pointer none) H) (BIf (decide (x1 > (16777216 : Int))) (K (.pointer none) H) (Nw H (.obj (.map #[] 0)) fun b1 H1 => Nw H1 (.obj (.cells #[.int .i64 x1, .int .i64 (0 : Int), .int .i64 (0 : Int), .map (some b1)] 51)) fun b2 H2 => K (.pointer (some (⟨b2, 0, none⟩ : Addr))) H2))
def W_arena_New.Λ (_ : Value → Hp → Prop) : Cuts := Cuts.none (fun _ => none)
theorem W_arena_New.ok (x1 : Int) (H : Hp) (K : Value → Hp → Prop) (h : W_arena_New x1 H K) : HCalls Tryd.prog 44 #[.int .i64 x1] H K :=
  hcalls Tryd.func44 rfl (Nat.le_of_ble_eq_true rfl) (hw_safe (Λ := Cuts.none (fun _ => none)) mixWarena _ _ _ _ _ (Eq.mp (by kernel_rfl) h) (obs_none _ _ _ _ _))

-- (*arena.meter).Free
def W_arena_meter_Free (p1 : Option Addr) (H : Hp) (K : Value → Hp → Prop) : Prop :=
  NN p1 fun a1 => Ld H (a1.add 0) fun v1 => DI .i64 v1 fun x1 => NN p1 fun a2 => Ld H (a2.add 1) fun v2 => DI .i64 v2 fun x2 => K (.int .i64 (IntKind.i64.wrap (x1 - x2))) H
def W_arena_meter_Free.Λ (_ : Value → Hp → Prop) : Cuts := Cuts.none (fun _ => none)
theorem W_arena_meter_Free.ok (p1 : Option Addr) (H : Hp) (K : Value → Hp → Prop) (h : W_arena_meter_Free p1 H K) : HCalls Tryd.prog 49 #[.pointer p1] H K :=
  hcalls Tryd.func49 rfl (Nat.le_of_ble_eq_true rfl) (hw_safe (Λ := Cuts.none (fun _ => none)) mixWarena _ _ _ _ _ (Eq.mp (by kernel_rfl) h) (obs_none _ _ _ _ _))

-- (*arena.Arena).Take
def W_arena_Arena_Take (p1 : Option Addr) (x1 : Int) (H : Hp) (K : Value → Hp → Prop) : Prop :=
  BIf (decide (x1 < (1 : Int))) (K (.tuple #[.pointer none, .int .i64 (1 : Int)]) H) (NN p1 fun a1 => HCalls Tryd.prog 49 #[.pointer (some (a1.add 0))] H fun v1 H1 => DI .i64 v1 fun x2 => BIf (decide (x1 > x2)) (K (.tuple #[.pointer none, .int .i64 (6 : Int)]) H1) (MkS Tryd.prog 22 x1 x1 H1 fun v2 H2 => DSl v2 fun A1 n1 m1 => Nw H2 (.obj (.cells #[.pointer p1, .slice A1 n1 m1] 146)) fun b1 H3 => NN p1 fun a2 => Ld H3 (a2.add 3) fun v3 => DM v3 fun r1 => SemK Tryd.prog (Instr.mapUpdate 49 (.map r1) (.pointer (some (⟨b1, 0, none⟩ : Addr))) (.int .i64 x1)) H3 fun _ H4 => NN p1 fun a3 => HCalls Tryd.prog 83 #[.pointer (some (a3.add 0)), .int .i64 x1] H4 fun v4 H5 => K (.tuple #[.pointer (some (⟨b1, 0, none⟩ : Addr)), .int .i64 (0 : Int)]) H5))
def W_arena_Arena_Take.Λ (_ : Value → Hp → Prop) : Cuts := Cuts.none (fun _ => none)
theorem W_arena_Arena_Take.ok (p1 : Option Addr) (x1 : Int) (H : Hp) (K : Value → Hp → Prop) (h : W_arena_Arena_Take p1 x1 H K) : HCalls Tryd.prog 50 #[.pointer p1, .int .i64 x1] H K :=
  hcalls Tryd.func50 rfl (Nat.le_of_ble_eq_true rfl) (hw_safe (Λ := Cuts.none (fun _ => none)) mixWarena _ _ _ _ _ (Eq.mp (by kernel_rfl) h) (obs_none _ _ _ _ _))

-- (*arena.Arena).Give
def W_arena_Arena_Give.l1 (K : Value → Hp → Prop) : Nat → Option Addr → Option Addr → Nat → Nat → Int → Int → Hp → Prop
  | 0, _, _, _, _, _, _, _ => False
  | k + 1, p2, A2, n2, m2, x1, x2, H =>
    let R1 := W_arena_Arena_Give.l1 K k
    BIf (decide (x2 < x1)) (ixI x2 n2 (NN A2 fun a1 => Ld H (a1.add (x2.toNat * 1)) fun v1 => DP v1 fun p3 => NN p2 fun a2 => Ld H (a2.add 3) fun v2 => DM v2 fun r1 => SemV Tryd.prog (Instr.lookup 49 (.map r1) (.pointer p3) true) H fun v3 => DTup v3 fun l1 => DCons l1 fun v4 l2 => DI .i64 v4 fun x3 => DCons l2 fun v5 l3 => DB v5 fun c1 => DNil l3 (BIf c1 (NN p2 fun a3 => Ld H (a3.add 3) fun v6 => DM v6 fun r2 => SemK Tryd.prog (Builtin.delete_ #[49, 101] 0 #[.map r2, .pointer p3]) H fun v7 H1 => NN p2 fun a4 => HCalls Tryd.prog 83 #[.pointer (some (a4.add 0)), .int .i64 (IntKind.i64.wrap (0 - x3))] H1 fun v8 H2 => NN p3 fun a5 => St H2 (((a5.add 0).add 1).add 0) (.slice none 0 0) fun H3 => R1 p2 A2 n2 m2 x1 (IntKind.i64.wrap (x2 + (1 : Int))) H3) (R1 p2 A2 n2 m2 x1 (IntKind.i64.wrap (x2 + (1 : Int))) H)))) (K (.tuple #[]) H)
def W_arena_Arena_Give (p1 : Option Addr) (A1 : Option Addr) (n1 : Nat) (m1 : Nat) (H : Hp) (K : Value → Hp → Prop) : Prop :=
  (∃ k, W_arena_Arena_Give.l1 K k p1 A1 n1 m1 ((n1 : Nat) : Int) (0 : Int) H)
def W_arena_Arena_Give.l1.L (K : Value → Hp → Prop) (k : Nat) : Mid := fun E D H =>
  DG (E.get? 0) fun w0 => DP w0 fun p2 => DG (E.get? 8) fun w8 => DSl w8 fun A2 n2 m2 => DG (E.get? 9) fun w9 => DI .i64 w9 fun x1 => DG (E.get? 10) fun w10 => DI .i64 w10 fun x2 => DNilD D (W_arena_Arena_Give.l1 K k p2 A2 n2 m2 x1 x2 H)
def W_arena_Arena_Give.Λ1 (_ : Value → Hp → Prop) (_R1 : Option Addr → Option Addr → Nat → Nat → Int → Int → Hp → Prop) : Cuts := Cuts.none (fun _ => none)
def W_arena_Arena_Give.Λ (K : Value → Hp → Prop) : Cuts := ⟨fun i => none, fun i => match Nat.beq i 1 with | true => some (fun E D H => ∃ k, W_arena_Arena_Give.l1.L K k E D H) | false => none, (fun _ => none)⟩
theorem W_arena_Arena_Give.ok (p1 : Option Addr) (A1 : Option Addr) (n1 : Nat) (m1 : Nat) (H : Hp) (K : Value → Hp → Prop) (h : W_arena_Arena_Give p1 A1 n1 m1 H K) : HCalls Tryd.prog 51 #[.pointer p1, .slice A1 n1 m1] H K :=
  hcalls Tryd.func51 rfl (Nat.le_of_ble_eq_true rfl) (hw_safe (Λ := (W_arena_Arena_Give.Λ K)) mixWarena _ _ _ _ _ (Eq.mp (by kernel_rfl) h) (obs_seq obs_region rfl (obs_block (obs_loop rfl (fun E D H h => by
      refine Safe.loop' (W_arena_Arena_Give.l1.L K) (fun E D H h => ?_) (fun k E D H h => ?_) E D H h
      · obtain ⟨w0, e0, g1⟩ := DG.out h; obtain ⟨p2, rfl, g2⟩ := DP.out g1; obtain ⟨w8, e8, g3⟩ := DG.out g2; obtain ⟨A2, n2, m2, rfl, g4⟩ := DSl.out g3; obtain ⟨w9, e9, g5⟩ := DG.out g4; obtain ⟨x1, rfl, g6⟩ := DI.out g5; obtain ⟨w10, e10, g7⟩ := DG.out g6; obtain ⟨x2, rfl, g8⟩ := DI.out g7; obtain ⟨rfl, h'⟩ := DNilD.out g8; exact h'
      · obtain ⟨w0, e0, g1⟩ := DG.out h
        obtain ⟨p2, rfl, g2⟩ := DP.out g1
        obtain ⟨w8, e8, g3⟩ := DG.out g2
        obtain ⟨A2, n2, m2, rfl, g4⟩ := DSl.out g3
        obtain ⟨w9, e9, g5⟩ := DG.out g4
        obtain ⟨x1, rfl, g6⟩ := DI.out g5
        obtain ⟨w10, e10, g7⟩ := DG.out g6
        obtain ⟨x2, rfl, g8⟩ := DI.out g7
        obtain ⟨rfl, h'⟩ := DNilD.out g8
        exact (hw_safe (Λ := (W_arena_Arena_Give.Λ1 K (W_arena_Arena_Give.l1 K k))) mixWarena _ _ [(0, .pointer p2), (8, .slice A2 n2 m2), (9, .int .i64 x1), (10, .int .i64 x2)] [] H (Eq.mp (by kernel_rfl) h') (obs_seq obs_region rfl (obs_seq (obs_cond obs_skip obs_exit) rfl (obs_seq (obs_block (obs_seq obs_region rfl (obs_seq obs_region rfl (obs_seq obs_region rfl (obs_cond (obs_seq obs_region rfl (obs_seq obs_region rfl obs_region)) obs_skip))))) rfl obs_region)))).weaken (EnvLe.cons e0 (EnvLe.cons e8 (EnvLe.cons e9 (EnvLe.cons e10 (EnvLe.nil _))))) (Hp.le_refl _))))))
theorem W_arena_Arena_Give.okD (p1 : Option Addr) (A1 : Option Addr) (n1 : Nat) (m1 : Nat) (H : Hp) (K : Value → Hp → Prop) (h : W_arena_Arena_Give p1 A1 n1 m1 H K) : HCallsD Tryd.prog 51 #[.pointer p1, .slice A1 n1 m1] H K :=
  hcallsD Tryd.func51 rfl (Nat.le_of_ble_eq_true rfl) (hw_safe (Λ := (W_arena_Arena_Give.Λ K)) mixWarena _ _ _ _ _ (Eq.mp (by kernel_rfl) h) (obs_seq obs_region rfl (obs_block (obs_loop rfl (fun E D H h => by
      refine Safe.loop' (W_arena_Arena_Give.l1.L K) (fun E D H h => ?_) (fun k E D H h => ?_) E D H h
      · obtain ⟨w0, e0, g1⟩ := DG.out h; obtain ⟨p2, rfl, g2⟩ := DP.out g1; obtain ⟨w8, e8, g3⟩ := DG.out g2; obtain ⟨A2, n2, m2, rfl, g4⟩ := DSl.out g3; obtain ⟨w9, e9, g5⟩ := DG.out g4; obtain ⟨x1, rfl, g6⟩ := DI.out g5; obtain ⟨w10, e10, g7⟩ := DG.out g6; obtain ⟨x2, rfl, g8⟩ := DI.out g7; obtain ⟨rfl, h'⟩ := DNilD.out g8; exact h'
      · obtain ⟨w0, e0, g1⟩ := DG.out h
        obtain ⟨p2, rfl, g2⟩ := DP.out g1
        obtain ⟨w8, e8, g3⟩ := DG.out g2
        obtain ⟨A2, n2, m2, rfl, g4⟩ := DSl.out g3
        obtain ⟨w9, e9, g5⟩ := DG.out g4
        obtain ⟨x1, rfl, g6⟩ := DI.out g5
        obtain ⟨w10, e10, g7⟩ := DG.out g6
        obtain ⟨x2, rfl, g8⟩ := DI.out g7
        obtain ⟨rfl, h'⟩ := DNilD.out g8
        exact (hw_safe (Λ := (W_arena_Arena_Give.Λ1 K (W_arena_Arena_Give.l1 K k))) mixWarena _ _ [(0, .pointer p2), (8, .slice A2 n2 m2), (9, .int .i64 x1), (10, .int .i64 x2)] [] H (Eq.mp (by kernel_rfl) h') (obs_seq obs_region rfl (obs_seq (obs_cond obs_skip obs_exit) rfl (obs_seq (obs_block (obs_seq obs_region rfl (obs_seq obs_region rfl (obs_seq obs_region rfl (obs_cond (obs_seq obs_region rfl (obs_seq obs_region rfl obs_region)) obs_skip))))) rfl obs_region)))).weaken (EnvLe.cons e0 (EnvLe.cons e8 (EnvLe.cons e9 (EnvLe.cons e10 (EnvLe.nil _))))) (Hp.le_refl _))))))

-- (*arena.Buffer).Words
def W_arena_Buffer_Words (p1 : Option Addr) (H : Hp) (K : Value → Hp → Prop) : Prop :=
  NN p1 fun a1 => Ld H ((a1.add 0).add 1) fun v1 => DSl v1 fun A1 n1 m1 => K (.slice A1 n1 m1) H
def W_arena_Buffer_Words.Λ (_ : Value → Hp → Prop) : Cuts := Cuts.none (fun _ => none)
theorem W_arena_Buffer_Words.ok (p1 : Option Addr) (H : Hp) (K : Value → Hp → Prop) (h : W_arena_Buffer_Words p1 H K) : HCalls Tryd.prog 81 #[.pointer p1] H K :=
  hcalls Tryd.func81 rfl (Nat.le_of_ble_eq_true rfl) (hw_safe (Λ := Cuts.none (fun _ => none)) mixWarena _ _ _ _ _ (Eq.mp (by kernel_rfl) h) (obs_none _ _ _ _ _))

-- (*arena.meter).add
def W_arena_meter_add (p1 : Option Addr) (x1 : Int) (H : Hp) (K : Value → Hp → Prop) : Prop :=
  NN p1 fun a1 => Ld H (a1.add 1) fun v1 => DI .i64 v1 fun x2 => NN p1 fun a2 => St H ((a2.add 1).add 0) (.int .i64 (IntKind.i64.wrap (x2 + x1))) fun H1 => NN p1 fun a3 => Ld H1 (a3.add 2) fun v2 => DI .i64 v2 fun x3 => NN p1 fun a4 => Ld H1 (a4.add 1) fun v3 => DI .i64 v3 fun x4 => NN p1 fun a5 => St H1 ((a5.add 2).add 0) (.int .i64 (if x4 > x3 then x4 else x3)) fun H2 => K (.tuple #[]) H2
def W_arena_meter_add.Λ (_ : Value → Hp → Prop) : Cuts := Cuts.none (fun i => match Nat.beq i 1 with | true => some ([], [0, 1, 2, 3, 4, 5, 6, 7, 8, 9, 10, 11], 12) | false => none)
theorem W_arena_meter_add.ok (p1 : Option Addr) (x1 : Int) (H : Hp) (K : Value → Hp → Prop) (h : W_arena_meter_add p1 x1 H K) : HCalls Tryd.prog 83 #[.pointer p1, .int .i64 x1] H K :=
  hcalls Tryd.func83 rfl (Nat.le_of_ble_eq_true rfl) (hw_safe (Λ := Cuts.none (fun i => match Nat.beq i 1 with | true => some ([], [0, 1, 2, 3, 4, 5, 6, 7, 8, 9, 10, 11], 12) | false => none)) mixWarena _ _ _ _ _ (Eq.mp (by kernel_rfl) h) (obs_none _ _ _ _ _))

end Go.Proofs.YtgkdkemhiglpdaaDoor.W

end
section
/-! AreA -/
/- arena: what its functions answer. -/
set_option maxRecDepth 100000
set_option linter.unusedSimpArgs false
set_option linter.unusedVariables false
set_option linter.unnecessarySimpa false
set_option linter.unusedSectionVars false
namespace Go.Proofs.YtgkdkemhiglpdaaDoor.Are
open Go Go.Hw Go.Proofs.YtgkdkemhiglpdaaDoor.W

def arenaO (cap used peak : Int) (mp : Nat) : AO := .obj (.cells #[.int .i64 cap, .int .i64 used, .int .i64 peak, .map (some mp)] 51)
def bufO (a : Nat) (A : Option Addr) (n m : Nat) : AO := .obj (.cells #[ptrV a, .slice A n m] 146)

theorem used_ok (H : Hp) (a mp : Nat) (cap used peak : Int) (ha : H a = some (arenaO cap used peak mp)) : HCalls Tryd.prog 18 #[.pointer (some ⟨a, 0, none⟩)] H (RetE (.int .i64 used) H) := by
  apply W_arena_meter_Used.ok
  unfold W_arena_meter_Used
  simp only [NN_some, Addr.add_lit', Nat.zero_add]
  refine Ld_obj ha (v := .int .i64 used) rfl ?_
  simp only [DI_int', DB_bool, DS_string, DP_pointer, DSl_slice, DM_map, DA_agg, DTup_tuple, DCons_cons, DNil_nil, NN_some, BIf_true, BIf_false, BIf_same, List.toList_toArray, Bool.not_true, Bool.not_false]
  exact RetE.mk _ _
theorem peak_ok (H : Hp) (a mp : Nat) (cap used peak : Int) (ha : H a = some (arenaO cap used peak mp)) : HCalls Tryd.prog 23 #[.pointer (some ⟨a, 0, none⟩)] H (RetE (.int .i64 peak) H) := by
  apply W_arena_meter_Peak.ok
  unfold W_arena_meter_Peak
  simp only [NN_some, Addr.add_lit', Nat.zero_add]
  refine Ld_obj ha (v := .int .i64 peak) rfl ?_
  simp only [DI_int', DB_bool, DS_string, DP_pointer, DSl_slice, DM_map, DA_agg, DTup_tuple, DCons_cons, DNil_nil, NN_some, BIf_true, BIf_false, BIf_same, List.toList_toArray, Bool.not_true, Bool.not_false]
  exact RetE.mk _ _
theorem free_ok (H : Hp) (a mp : Nat) (cap used peak : Int) (h1 : 0 ≤ used ∧ used ≤ cap ∧ cap ≤ 16777216) (ha : H a = some (arenaO cap used peak mp)) : HCalls Tryd.prog 49 #[.pointer (some ⟨a, 0, none⟩)] H (RetE (.int .i64 (cap - used)) H) := by
  apply W_arena_meter_Free.ok
  unfold W_arena_meter_Free
  simp only [NN_some, Addr.add_lit', Nat.zero_add]
  refine Ld_obj ha (v := .int .i64 cap) rfl ?_
  simp only [DI_int', DB_bool, DS_string, DP_pointer, DSl_slice, DM_map, DA_agg, DTup_tuple, DCons_cons, DNil_nil, NN_some, BIf_true, BIf_false, BIf_same, List.toList_toArray, Bool.not_true, Bool.not_false]
  refine Ld_obj ha (v := .int .i64 used) rfl ?_
  simp only [DI_int', DB_bool, DS_string, DP_pointer, DSl_slice, DM_map, DA_agg, DTup_tuple, DCons_cons, DNil_nil, NN_some, BIf_true, BIf_false, BIf_same, List.toList_toArray, Bool.not_true, Bool.not_false]
  rw [i64w (by omega) (by omega)]
  exact RetE.mk _ _
theorem add_ok (H : Hp) (a mp : Nat) (cap used peak n : Int) (h1 : 0 ≤ used ∧ used ≤ 16777216) (h2 : -16777216 ≤ n ∧ n ≤ 16777216) (ha : H a = some (arenaO cap used peak mp)) :
    HCalls Tryd.prog 83 #[.pointer (some ⟨a, 0, none⟩), .int .i64 n] H (RetE (.tuple #[]) (H.set a (arenaO cap (used + n) (if used + n > peak then used + n else peak) mp))) := by
  apply W_arena_meter_add.ok
  unfold W_arena_meter_add
  simp only [NN_some, Addr.add_lit', Nat.zero_add, Nat.add_zero]
  refine Ld_obj ha (v := .int .i64 used) rfl ?_
  simp only [DI_int', DB_bool, DS_string, DP_pointer, DSl_slice, DM_map, DA_agg, DTup_tuple, DCons_cons, DNil_nil, NN_some, BIf_true, BIf_false, BIf_same, List.toList_toArray, Bool.not_true, Bool.not_false]
  rw [i64w (by omega) (by omega)]
  refine St_obj ha (by simp) rfl ?_
  refine Ld_obj (Hp.set_same _ _ _) (v := .int .i64 peak) rfl ?_
  simp only [DI_int', DB_bool, DS_string, DP_pointer, DSl_slice, DM_map, DA_agg, DTup_tuple, DCons_cons, DNil_nil, NN_some, BIf_true, BIf_false, BIf_same, List.toList_toArray, Bool.not_true, Bool.not_false]
  refine Ld_obj (Hp.set_same _ _ _) (v := .int .i64 (used + n)) rfl ?_
  simp only [DI_int', DB_bool, DS_string, DP_pointer, DSl_slice, DM_map, DA_agg, DTup_tuple, DCons_cons, DNil_nil, NN_some, BIf_true, BIf_false, BIf_same, List.toList_toArray, Bool.not_true, Bool.not_false]
  refine St_obj (Hp.set_same _ _ _) (by simp) rfl ?_
  rw [Hp.set_set]
  exact RetE.mk _ _

theorem New_no (H : Hp) (x : Int) (h : x < 1 ∨ x > 16777216) : HCalls Tryd.prog 44 #[.int .i64 x] H (RetE (.pointer none) H) := by
  apply W_arena_New.ok
  unfold W_arena_New
  rw [BIf_decide, BIf_decide]
  split
  · exact RetE.mk _ _
  · rw [if_pos (by omega)]; exact RetE.mk _ _

theorem New_ok (H : Hp) (x : Int) (h : 1 ≤ x ∧ x ≤ 16777216) : HCalls Tryd.prog 44 #[.int .i64 x] H (fun v H' => ∃ mp a, H mp = none ∧ H a = none ∧ a ≠ mp ∧ v = ptrV a ∧ H' = (H.set mp (mapO [] 0)).set a (arenaO x 0 0 mp)) := by
  apply W_arena_New.ok
  unfold W_arena_New
  refine BIf_dneg (by omega) (BIf_dneg (by omega) ?_)
  intro mp hmp
  intro a ha
  obtain ⟨h1, h2⟩ := Hp.set_none ha
  exact ⟨mp, a, hmp, h2, h1, rfl, rfl⟩

theorem Words_ok (H : Hp) (b a : Nat) (A : Option Addr) (n m : Nat) (hb : H b = some (bufO a A n m)) : HCalls Tryd.prog 81 #[ptrV b] H (RetE (.slice A n m) H) := by
  apply W_arena_Buffer_Words.ok
  unfold W_arena_Buffer_Words
  simp only [NN_some, Addr.add_lit', Nat.zero_add, Nat.add_zero]
  refine Ld_obj hb (v := .slice A n m) rfl ?_
  simp only [DI_int', DB_bool, DS_string, DP_pointer, DSl_slice, DM_map, DA_agg, DTup_tuple, DCons_cons, DNil_nil, NN_some, BIf_true, BIf_false, BIf_same, List.toList_toArray, Bool.not_true, Bool.not_false]
  exact RetE.mk _ _
theorem t_ptr : Tryd.prog.underlying 101 = some (.pointer 146) := by kernel_rfl
theorem t_map : Tryd.prog.underlying 49 = some (.map 101 3) := by kernel_rfl
theorem t_buf : ∃ j, Tryd.prog.info? 146 = some j ∧ j.size ≠ 0 := by
  have h : (Tryd.prog.info? 146).map (·.size) = some 2 := by kernel_rfl
  obtain ⟨j, hj, h2⟩ := Option.map_eq_some_iff.1 h
  exact ⟨j, hj, by rw [h2]; omega⟩
theorem t_int : ∃ j, Tryd.prog.info? 3 = some j ∧ j.zero = some (.int .i64 0) := by
  have h : (Tryd.prog.info? 3).map (·.zero) = some (some (.int .i64 0)) := by kernel_rfl
  obtain ⟨j, hj, h2⟩ := Option.map_eq_some_iff.1 h
  exact ⟨j, hj, h2⟩
theorem cell_u64 : cellInfo Tryd.prog 22 = some (1, 8, some #[.int .u64 0]) := by kernel_rfl

theorem findR_none (a : Nat) : ∀ (l : List (Nat × Int × Nat)) (i : Nat), (∀ x ∈ l, x.1 ≠ a) → findR a l i = none
  | [], _, _ => rfl
  | x :: l, i, h => by unfold findR; rw [if_neg (fun e => h x (by simp) e.symm)]; exact findR_none a l (i + 1) (fun y hy => h y (by simp [hy]))

def zerosU64 (n : Nat) : List Value := zeroRow [.int .u64 0] n

/-- Take of what fits: two new blocks, and the arena counts them. -/
theorem Take_ok (H : Hp) (a mp : Nat) (cap used peak n : Int) (l : List (Nat × Int × Nat)) (clock : Nat) (h1 : 0 ≤ used ∧ used ≤ cap ∧ cap ≤ 16777216) (hn : 1 ≤ n ∧ n ≤ cap - used) (hne : a ≠ mp)
    (ha : H a = some (arenaO cap used peak mp)) (hm : H mp = some (mapO l clock)) (hl : ∀ x ∈ l, PlainB H x.1) :
    HCalls Tryd.prog 50 #[ptrV a, .int .i64 n] H (fun v H' => ∃ rb b, H rb = none ∧ H b = none ∧ b ≠ rb ∧ v = .tuple #[ptrV b, .int .i64 0] ∧
      H' = (((H.set rb (.row (zerosU64 n.toNat) 22 n.toNat)).set b (bufO a (some ⟨rb, 0, none⟩) n.toNat n.toNat)).set mp (mapO (l ++ [(b, n, clock)]) (clock + 1))).set a (arenaO cap (used + n) (if used + n > peak then used + n else peak) mp)) := by
  obtain ⟨jb, hjb, hsb⟩ := t_buf
  apply W_arena_Arena_Take.ok
  unfold W_arena_Arena_Take
  refine BIf_dneg (by omega) ?_
  simp only [NN_some, Addr.add_lit', Nat.zero_add, Nat.add_zero]
  refine HCalls.use (free_ok H a mp cap used peak h1 ha) ?_
  try simp only [DI_int', DB_bool, DS_string, DP_pointer, DSl_slice, DM_map, DA_agg, DTup_tuple, DCons_cons, DNil_nil, NN_some, BIf_true, BIf_false, BIf_same, List.toList_toArray, Bool.not_true, Bool.not_false]
  refine BIf_dneg (by omega) ?_
  refine MkS_of cell_u64 rfl (n := n.toNat) (m := n.toNat) (by omega) (by omega) (Nat.le_refl _) (by omega) (by omega) ?_
  intro rb hrb
  rw [Nat.mul_one]
  simp only [DI_int', DB_bool, DS_string, DP_pointer, DSl_slice, DM_map, DA_agg, DTup_tuple, DCons_cons, DNil_nil, NN_some, BIf_true, BIf_false, BIf_same, List.toList_toArray, Bool.not_true, Bool.not_false]
  intro b hb
  obtain ⟨hbr, hb'⟩ := Hp.set_none hb
  have har : a ≠ rb := fun e => by rw [e, hrb] at ha; cases ha
  have hab : a ≠ b := fun e => by rw [e, hb'] at ha; cases ha
  have hmr : mp ≠ rb := fun e => by rw [e, hrb] at hm; cases hm
  have hmb : mp ≠ b := fun e => by rw [e, hb'] at hm; cases hm
  have hle := Hp.le_trans (Hp.le_set (o := .row (zerosU64 n.toNat) 22 n.toNat) hrb) (Hp.le_set (o := bufO a (some ⟨rb, 0, none⟩) n.toNat n.toNat) hb)
  refine Ld_obj (hle _ _ ha) (v := .map (some mp)) rfl ?_
  simp only [DI_int', DB_bool, DS_string, DP_pointer, DSl_slice, DM_map, DA_agg, DTup_tuple, DCons_cons, DNil_nil, NN_some, BIf_true, BIf_false, BIf_same, List.toList_toArray, Bool.not_true, Bool.not_false]
  refine mapUpdate_new t_ptr hjb hsb t_map (hle _ _ hm) ⟨_, _, Hp.set_same _ _ _⟩ (fun x hx => (hl x hx).le hle) (findR_none b l 0 (fun x hx e => by
    obtain ⟨c, e', hxx⟩ := hl x hx
    rw [e, hb'] at hxx; cases hxx)) ?_
  refine HCalls.use (add_ok _ a mp cap used peak n (by omega) (by omega) (by rw [Hp.set_other _ _ hne]; exact hle _ _ ha)) ?_
  exact ⟨rb, b, hrb, hb', hbr, rfl, rfl⟩

theorem Take_arg (H : Hp) (a : Nat) (n : Int) (hn : n < 1) : HCalls Tryd.prog 50 #[ptrV a, .int .i64 n] H (RetE (.tuple #[.pointer none, .int .i64 1]) H) := by
  apply W_arena_Arena_Take.ok
  unfold W_arena_Arena_Take
  exact BIf_dpos hn (RetE.mk _ _)

theorem Take_full (H : Hp) (a mp : Nat) (cap used peak n : Int) (h1 : 0 ≤ used ∧ used ≤ cap ∧ cap ≤ 16777216) (hn : 1 ≤ n ∧ cap - used < n) (ha : H a = some (arenaO cap used peak mp)) :
    HCalls Tryd.prog 50 #[ptrV a, .int .i64 n] H (RetE (.tuple #[.pointer none, .int .i64 6]) H) := by
  apply W_arena_Arena_Take.ok
  unfold W_arena_Arena_Take
  refine BIf_dneg (by omega) ?_
  simp only [NN_some, Addr.add_lit', Nat.zero_add, Nat.add_zero]
  refine HCalls.use (free_ok H a mp cap used peak h1 ha) ?_
  try simp only [DI_int', DB_bool, DS_string, DP_pointer, DSl_slice, DM_map, DA_agg, DTup_tuple, DCons_cons, DNil_nil, NN_some, BIf_true, BIf_false, BIf_same, List.toList_toArray, Bool.not_true, Bool.not_false]
  exact BIf_dpos (by omega) (RetE.mk _ _)

end Go.Proofs.YtgkdkemhiglpdaaDoor.Are

end
section
/-! AreB -/
/- arena's law: awake, ArenaApart. -/
set_option maxRecDepth 100000
set_option linter.unusedSimpArgs false
set_option linter.unusedVariables false
set_option linter.unnecessarySimpa false
set_option linter.unusedSectionVars false

namespace Go.Proofs.YtgkdkemhiglpdaaDoor.Are
open Go Go.Hw Go.Proofs.YtgkdkemhiglpdaaDoor.W

def valF (i k : Nat) : Value := .int .u64 ((100 * i + k + 1 : Nat) : Int)
def vals (i n : Nat) : List Value := (List.range n).map (valF i)

theorem val_wrap {i k : Nat} (hi : i ≤ 100) (hk : k ≤ 100) : IntKind.u64.wrap (IntKind.i64.wrap (IntKind.i64.wrap (IntKind.i64.wrap (100 * (i : Int)) + (k : Int)) + 1)) = ((100 * i + k + 1 : Nat) : Int) := by
  rw [i64w (x := 100 * (i : Int)) (by omega) (by omega), i64w (x := 100 * (i : Int) + k) (by omega) (by omega), i64w (by omega) (by omega), u64w (by omega) (by omega)]
  omega

theorem zeros_filled (f : Nat → Value) (n : Nat) : zerosU64 n = (filled f (.int .u64 0) n 0).toList := by
  unfold zerosU64 filled
  rw [zeroRow_one]
  apply List.ext_getElem?
  intro j
  by_cases h : j < n <;> simp [h]

structure Inv (H0 H : Hp) (a mp cl : Nat) (tk : List (Nat × Int × Nat)) (used peak : Int) (bs : List (Nat × Nat × Nat)) (A : Option Addr) (n m : Nat) : Prop where
  le : H0.le H
  ne : a ≠ mp
  ha : H a = some (arenaO 1000 used peak mp)
  ha0 : H0 a = none
  hm : H mp = some (mapO tk cl)
  hm0 : H0 mp = none
  hl : ∀ x ∈ tk, PlainB H x.1
  hb : ∀ (j : Nat) (x : Nat × Nat × Nat), bs[j]? = some x → H x.1 = some (bufO a (some ⟨x.2.1, 0, none⟩) x.2.2 x.2.2) ∧ H x.2.1 = some (.row (vals j x.2.2) 22 x.2.2) ∧ x.2.2 ≤ 64
  hn : n = bs.length
  all : (A = none ∧ bs = [] ∧ m = 0) ∨ ∃ ab mm, A = some ⟨ab, 0, none⟩ ∧ H0 ab = none ∧ H ab = some (.row (bs.map fun x => ptrV x.1) 101 mm) ∧ m ≤ mm

theorem Inv.cells {H0 H : Hp} {a mp cl : Nat} {tk : List (Nat × Int × Nat)} {used peak : Int} {bs : List (Nat × Nat × Nat)} {A : Option Addr} {n m : Nat} (h : Inv H0 H a mp cl tk used peak bs A n m) : Cells H A (bs.map fun x => ptrV x.1) := by
  rcases h.all with ⟨rfl, rfl, _⟩ | ⟨ab, mm, rfl, _, hab, _⟩
  · exact Cells.nil _ _
  · have := Cells.row hab 0 bs.length
    rwa [List.drop_zero, List.take_of_length_le (by simp)] at this

end Go.Proofs.YtgkdkemhiglpdaaDoor.Are

end
section
/-! AreC -/
/- The law ArenaApart. -/
set_option maxRecDepth 100000
set_option linter.unusedSimpArgs false
set_option linter.unusedVariables false
set_option linter.unnecessarySimpa false
set_option linter.unusedSectionVars false
namespace Go.Proofs.YtgkdkemhiglpdaaDoor.Are
open Go Go.Hw Go.Proofs.YtgkdkemhiglpdaaDoor.W

theorem cell_ptr : cellInfo Tryd.prog 101 = some (1, 8, some #[.pointer none]) := by kernel_rfl

theorem Inv.next {H0 H H2 H4 : Hp} {a mp cl : Nat} {tk : List (Nat × Int × Nat)} {used peak : Int} {bs : List (Nat × Nat × Nat)} {A : Option Addr} {n m : Nat} (h : Inv H0 H a mp cl tk used peak bs A n m) {b rb w : Nat} (hw : 1 ≤ w ∧ w ≤ 64) {peak' : Int} (hrb : H rb = none) (hb : H b = none) (hbr : b ≠ rb)
    (h2 : H2 = ((((H.set rb (.row (zerosU64 w) 22 w)).set b (bufO a (some ⟨rb, 0, none⟩) w w)).set mp (mapO (tk ++ [(b, (w : Int), cl)]) (cl + 1))).set a (arenaO 1000 (used + w) peak' mp)).set rb (.row (vals bs.length w) 22 w))
    {b' c mm : Nat} (hb' : H0 b' = none) (h4 : H4 b' = some (.row ((bs ++ [(b, rb, w)]).map fun x => ptrV x.1) 101 mm)) (hc : c ≤ mm) (hk : ∀ q o, H2 q = some o → (∀ ab, A = some ⟨ab, 0, none⟩ → q ≠ ab) → H4 q = some o) :
    Inv H0 H4 a mp (cl + 1) (tk ++ [(b, (w : Int), cl)]) (used + w) peak' (bs ++ [(b, rb, w)]) (some ⟨b', 0, none⟩) (n + 1) c := by
  have har : a ≠ rb := fun e => by have := h.ha; rw [e, hrb] at this; cases this
  have hab : a ≠ b := fun e => by have := h.ha; rw [e, hb] at this; cases this
  have hmr : mp ≠ rb := fun e => by have := h.hm; rw [e, hrb] at this; cases this
  have hmb : mp ≠ b := fun e => by have := h.hm; rw [e, hb] at this; cases this
  have hne := h.ne
  have keep1 : ∀ q o, H q = some o → q ≠ a → q ≠ mp → H2 q = some o := fun q o hq h5 h6 => by
    have h7 : q ≠ rb := fun e => by rw [e, hrb] at hq; cases hq
    have h8 : q ≠ b := fun e => by rw [e, hb] at hq; cases hq
    rw [h2, Hp.set_other _ _ h7, Hp.set_other _ _ h5, Hp.set_other _ _ h6, Hp.set_other _ _ h8, Hp.set_other _ _ h7]
    exact hq
  have ga : H2 a = some (arenaO 1000 (used + w) peak' mp) := by rw [h2, Hp.set_other _ _ har]; exact Hp.set_same _ _ _
  have gm : H2 mp = some (mapO (tk ++ [(b, (w : Int), cl)]) (cl + 1)) := by rw [h2, Hp.set_other _ _ hmr, Hp.set_other _ _ (Ne.symm hne)]; exact Hp.set_same _ _ _
  have gb : H2 b = some (bufO a (some ⟨rb, 0, none⟩) w w) := by rw [h2, Hp.set_other _ _ hbr, Hp.set_other _ _ (Ne.symm hab), Hp.set_other _ _ (Ne.symm hmb)]; exact Hp.set_same _ _ _
  have gr : H2 rb = some (.row (vals bs.length w) 22 w) := by rw [h2]; exact Hp.set_same _ _ _
  have hA : ∀ ab, A = some ⟨ab, 0, none⟩ → H0 ab = none ∧ ∃ mm, H ab = some (.row (bs.map fun x => ptrV x.1) 101 mm) := fun ab e => by
    rcases h.all with ⟨h5, _⟩ | ⟨ab', mm', h5, h6, h7, _⟩
    · rw [h5] at e; cases e
    · rw [h5] at e; cases e; exact ⟨h6, mm', h7⟩
  have isRow : ∀ q o, H q = some o → (∀ xs mm, o ≠ .row xs 101 mm) → ∀ ab, A = some ⟨ab, 0, none⟩ → q ≠ ab := fun q o hq hno ab e e2 => by
    obtain ⟨_, mm, h7⟩ := hA ab e
    rw [e2, h7] at hq; cases hq
    exact hno _ _ rfl
  have fresh : ∀ q, H q = none → ∀ ab, A = some ⟨ab, 0, none⟩ → q ≠ ab := fun q hq ab e e2 => by
    obtain ⟨_, mm, h7⟩ := hA ab e
    rw [e2, h7] at hq; cases hq
  refine ⟨fun q o hq => ?_, hne, hk _ _ ga (isRow a _ h.ha (fun _ _ => by unfold arenaO; intro e; cases e)), h.ha0, hk _ _ gm (isRow mp _ h.hm (fun _ _ => by unfold mapO; intro e; cases e)), h.hm0, fun x hx => ?_, fun j x hj => ?_, ?_, .inr ⟨b', mm, rfl, hb', h4, hc⟩⟩
  · have h5 : q ≠ a := fun e => by rw [e, h.ha0] at hq; cases hq
    have h6 : q ≠ mp := fun e => by rw [e, h.hm0] at hq; cases hq
    exact hk _ _ (keep1 q o (h.le _ _ hq) h5 h6) (fun ab e e2 => by rw [e2, (hA ab e).1] at hq; cases hq)
  · rcases List.mem_append.1 hx with hx | hx
    · obtain ⟨c', e', h9⟩ := h.hl x hx
      by_cases e1 : x.1 = a
      · exact ⟨_, _, by rw [e1]; exact hk _ _ ga (isRow a _ h.ha (fun _ _ => by unfold arenaO; intro e; cases e))⟩
      · have e3 : x.1 ≠ mp := fun e => by have := h.hm; rw [← e, h9] at this; unfold mapO at this; cases this
        exact ⟨_, _, hk _ _ (keep1 _ _ h9 e1 e3) (isRow _ _ h9 (fun _ _ => by intro e; cases e))⟩
    · simp at hx; subst hx
      exact ⟨_, _, hk _ _ gb (fresh b hb)⟩
  · rw [List.getElem?_append] at hj
    split at hj
    · obtain ⟨g1, g2, g3⟩ := h.hb j x hj
      have e1 : x.1 ≠ a := fun e => by rw [e, h.ha] at g1; unfold arenaO bufO at g1; cases g1
      have e2 : x.1 ≠ mp := fun e => by rw [e, h.hm] at g1; unfold mapO bufO at g1; cases g1
      have e3 : x.2.1 ≠ a := fun e => by rw [e, h.ha] at g2; unfold arenaO at g2; cases g2
      have e4 : x.2.1 ≠ mp := fun e => by rw [e, h.hm] at g2; unfold mapO at g2; cases g2
      exact ⟨hk _ _ (keep1 _ _ g1 e1 e2) (isRow _ _ g1 (fun _ _ => by unfold bufO; intro e; cases e)), hk _ _ (keep1 _ _ g2 e3 e4) (isRow _ _ g2 (fun _ _ => by intro e; cases e)), g3⟩
    · rename_i hlt
      have hj0 : j = bs.length := by
        have := (List.getElem?_eq_some_iff.1 hj).1
        simp at this; omega
      subst hj0
      simp at hj; subst hj
      exact ⟨hk _ _ gb (fresh b hb), hk _ _ gr (fresh rb hrb), hw.2⟩
  · rw [List.length_append, h.hn]; rfl

end Go.Proofs.YtgkdkemhiglpdaaDoor.Are

end
