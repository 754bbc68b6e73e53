import Derived.WalkKit
import Derived.ProofKit
import Derived.OpenShut
import Derived.ShutString
import Derived.ChangeOld
import Derived.Below
import Derived.SizedLaws
import Derived.Lib.LaidTab
import Derived.Stop.LaidErr
import Derived.Test.YtlgpappgnndgiaaGreatDoorProg
import Derived.Shelf.Strconv.Itoa2
import Derived.Shelf.Strconv.Itoa1
import Derived.Shelf.Strconv.Itoa0
import Derived.Test.YtlgpappgnndgiaaGreatDoorPkRingMakes1
section
/-! HwR -/
/- The frame of the proofs: from a law's contract over a view of memory to the given row; arguments that came in, opened. -/
set_option maxRecDepth 100000
set_option linter.unusedSimpArgs false
set_option linter.unusedVariables false
set_option linter.unnecessarySimpa false
set_option linter.unusedSectionVars false
namespace Go.Hw
open Go Go.RowKit Go.ChangeShapes Go.WideShapes Go.ChangeAt

theorem trodAll_below {H : Type} {enc : TypeId × Value → H} {P : Program} (hl : laidOutB P = true) {W W' : World} (hb : Below W.heap.size W W') :
    ∀ {ts : List TypeId} {vs : List Value} {ds : List (DataW H)} {ps : List MemPlace}, (ts.all fun t => P.readableRec t && decide (t < P.types.size)) = true → (∀ x ∈ ps, x.block < W.heap.size) →
      DataW.TrodAll enc P W 0 (fun _ => true) true ts vs ds ps → DataW.TrodAll enc P W' 0 (fun b => decide (b < W.heap.size)) true ts vs ds ps
  | [], [], [], _, _, _, h => h
  | [], _ :: _, _, _, _, _, h => h.elim
  | [], [], _ :: _, _, _, _, h => h.elim
  | _ :: _, [], _, _, _, _, h => h.elim
  | _ :: _, _ :: _, [], _, _, _, h => h.elim
  | t :: ts, v :: vs, d :: ds, ps, hr, hlt, h => by
    obtain ⟨p, q, h1, h2, rfl⟩ := h
    simp only [List.all_cons, Bool.and_eq_true, decide_eq_true_eq] at hr
    exact ⟨p, q, Below.trod hl hr.1.1 hr.1.2 h1 hb (fun x hx => hlt x (by simp [hx])), trodAll_below hl hb hr.2 (fun x hx => hlt x (by simp [hx])) h2, rfl⟩

/-- Each named variable's type can be read and is a row of the table. -/
def varsRowed' (P : Program) (ns : List String) : Bool :=
  ns.all fun n => match P.globalNamed n with
    | some g => match P.globals[g]? with | some gl => P.readableRec gl.type && decide (gl.type < P.types.size) | none => true
    | none => true

theorem trodVars_below {H : Type} {enc : TypeId × Value → H} {P : Program} (hl : laidOutB P = true) {W W' : World} (hb : Below W.heap.size W W') :
    ∀ {ns : List String} {gs : List (DataW H)} {ps : List MemPlace}, varsRowed' P ns = true → DataW.TrodVars enc P W (fun _ => true) ns gs ps → DataW.TrodVars enc P W' (fun b => decide (b < W.heap.size)) ns gs ps
  | [], [], _, _, h => h
  | [], _ :: _, _, _, h => h.elim
  | _ :: _, [], _, _, h => h.elim
  | n :: ns, d :: ds, ps, hv, h => by
    have hlt := h.lt
    obtain ⟨g, t, cs, fuel, p, q, h1, h2, h3, h4, hs, rfl⟩ := h
    simp only [varsRowed', List.all_cons, Bool.and_eq_true] at hv
    obtain ⟨gl, hg, rfl⟩ := Option.map_eq_some_iff.1 h2
    have ht := hv.1
    rw [h1] at ht
    simp only [hg, Bool.and_eq_true, decide_eq_true_eq] at ht
    have hp : ∀ x ∈ p, x.block < W.heap.size := fun x hx => hlt x (by simp [hx])
    have h3' : W'.var? P n = some cs := by
      unfold World.var? at h3 ⊢
      rw [h1] at h3 ⊢
      simp only [Option.bind_some] at h3 ⊢
      have hgs : g < W.heap.size := by
        cases hh : W.heap[g]? with
        | none => rw [hh] at h3; cases h3
        | some o => exact (Array.getElem?_eq_some_iff.1 hh).1
      rw [hb.block g hgs]; exact h3
    obtain ⟨fuel', h4'⟩ := Below.trod hl ht.1 ht.2 (v := .agg cs) ⟨fuel, h4⟩ hb hp
    exact ⟨g, gl.type, cs, fuel', p, q, h1, h2, h3', h4',
      trodVars_below hl hb (by simpa [varsRowed'] using hv.2) hs, rfl⟩

/-- A law's contract gives what its row asks behind the call. -/
theorem law_post {H : Type} {enc : TypeId × Value → H} {P : Program} {fn : Func} {s : ChangeSpec} {f : FuncId} {W : World} {args : Array Value} {ds gs : List (DataW H)} {before : List MemPlace} {tb : TypeId}
    (hl : laidOutB P = true) (hrt : fn.resultTypes = #[tb]) (hb : P.underlying tb = some .bool) (hrd : (fn.params.toList.all fun t => P.readableRec t && decide (t < P.types.size)) = true) (hv : varsRowed' P s.vars = true)
    (hs : s.fn H (ds ++ gs) = { results := [.lit (.bool true)], args := ds, vars := gs }) (hW : DataW.Whole enc P fn.params.toList s.vars false W args.toList ds gs before)
    (h : HCalls P f args (Full W) (Ret (.bool true) (Full W))) : Calls P f args W fun e W' => ∃ v, e = .returned v ∧ s.post enc P fn false true false false W args v W' := by
  refine (law_calls h).mono fun e W' ⟨he, bel⟩ => ⟨_, he, ?_⟩
  have hlt : ∀ x ∈ before, x.block < W.heap.size := fun x hx => by simpa using hW.lt x hx
  have hW' := hW
  obtain ⟨p, q, hA, hV, rfl, hfz, hnd⟩ := hW
  refine ⟨ds, gs, p ++ q, [], p, q, hW', ?_, ?_, ?_, bel.frame _, fun h => by cases h⟩
  · rw [hs, hrt]
    exact trodAll_mk1 (shut_bool hb _)
  · rw [hs]
    exact trodAll_below hl bel hrd (fun x hx => hlt x (by simp [hx])) hA
  · rw [hs]
    exact trodVars_below hl bel hv hV

theorem Full.cell' {w : World} {a : Addr} {v : Value} (h : w.cell? a = some v) : (Full w).cell? a = some v := by
  unfold World.cell? at h
  unfold Hp.cell? Full
  split at h
  · rename_i c e f hb
    simp only [hb, Option.map_some]
    exact h
  · cases h

theorem mapM_get {α β : Type} {f : α → Option β} : ∀ {l : List α} {ys : List β}, l.mapM f = some ys → ys.length = l.length ∧ ∀ (i : Nat) (x : α), l[i]? = some x → ∃ y, ys[i]? = some y ∧ f x = some y
  | [], ys, h => by
    simp at h; subst h; exact ⟨rfl, fun i x hx => by simp at hx⟩
  | x :: l, ys, h => by
    simp only [List.mapM_cons, Option.bind_eq_bind, Option.bind_eq_some_iff, Option.pure_def, Option.some.injEq] at h
    obtain ⟨y, hy, ys', hys, rfl⟩ := h
    obtain ⟨h1, h2⟩ := mapM_get hys
    refine ⟨by simp [h1], fun i x' hx => ?_⟩
    cases i with
    | zero => simp at hx; subst hx; exact ⟨y, rfl, hy⟩
    | succ i => simpa using h2 i x' (by simpa using hx)

/-- A slice that came in, element by element. -/
theorem trod_sl {H : Type} {enc : TypeId × Value → H} {P : Program} {W : World} {sp : Nat → Bool} {held : Bool} {fuel : Nat} {t e : TypeId} {cs : List Value} {d : DataW H} {ps : List MemPlace} (hu : P.underlying t = some (.slice e)) (h : DataW.trod enc P W 0 sp held fuel t cs = some (d, ps)) :
    ∃ A n c, cs = [.slice A n c] ∧ n ≤ c ∧ c ≤ maxLen ∧ ∃ rows : List (List Value), rows.length = n ∧ ∀ (i : Nat) (r : List Value), rows[i]? = some r → ∃ a, A = some a ∧ (∀ j v, r[j]? = some v → (Full W).cell? (a.add (i * P.cellsOf e + j)) = some v) ∧ r.length = P.cellsOf e ∧
      ∃ f d' p', DataW.trod enc P W 0 sp held f e r = some (d', p') := by
  cases fuel with
  | zero => simp [DataW.trod] at h
  | succ fuel =>
    unfold DataW.trod at h
    rw [hu] at h
    match cs, h with
    | [.slice none 0 0], h => exact ⟨none, 0, 0, rfl, Nat.le_refl _, Nat.zero_le _, [], rfl, fun i r hr => by simp at hr⟩
    | [.slice (some a) n c], h =>
      simp only at h
      split at h
      · rename_i hc
        obtain ⟨elems, he, h⟩ := Option.bind_eq_some_iff.1 h
        obtain ⟨hl, hg⟩ := mapM_get he
        have hrow : ∀ i, i < n → ∃ r, W.cells? 0 (a.add (i * P.cellsOf e)) (P.cellsOf e) = some r ∧ ∃ x, DataW.trod enc P W 0 sp held fuel e r = some x := fun i hi => by
          obtain ⟨y, _, hy⟩ := hg i i (by simp [hi])
          obtain ⟨r, hr, hy⟩ := Option.bind_eq_some_iff.1 hy
          exact ⟨r, hr, y, hy⟩
        have hr0 : ∀ i, i < n → ∃ r, W.cells? 0 (a.add (i * P.cellsOf e)) (P.cellsOf e) = some r := fun i hi => (hrow i hi).imp fun _ h => h.1
        let rows := (List.range n).map fun i => (W.cells? 0 (a.add (i * P.cellsOf e)) (P.cellsOf e)).getD []
        refine ⟨some a, n, c, rfl, hc.2.1, hc.2.2, rows, by simp [rows], fun i r hr => ⟨a, rfl, ?_⟩⟩
        have hi : i < n := by
          have := (List.getElem?_eq_some_iff.1 hr).1
          simpa [rows] using this
        obtain ⟨r', hr', x, hx⟩ := hrow i hi
        have : r = r' := by
          simp only [rows, List.getElem?_map, List.getElem?_range hi, Option.map_some, hr', Option.getD_some, Option.some.injEq] at hr
          exact hr.symm
        subst this
        unfold World.cells? at hr'
        rw [if_pos (Nat.zero_le _)] at hr'
        obtain ⟨hl', hg'⟩ := mapM_get hr'
        refine ⟨fun j v hv => ?_, by simpa using hl', fuel, x.1, x.2, hx⟩
        have hj : j < P.cellsOf e := by
          have := (List.getElem?_eq_some_iff.1 hv).1
          rw [hl'] at this; simpa using this
        obtain ⟨y, hy, hy'⟩ := hg' j j (by simp [hj])
        rw [hv] at hy; cases hy
        have ha : (a.add (i * P.cellsOf e)).add j = a.add (i * P.cellsOf e + j) := by
          unfold Addr.add
          by_cases h1 : i * P.cellsOf e = 0 <;> by_cases h2 : j = 0 <;> simp_all [Nat.add_assoc]
        rw [← ha]
        exact Full.cell' hy'
      · cases h
    | [.slice none (_ + 1) _], h => simp at h
    | [.slice none 0 (_ + 1)], h => simp at h
    | [], h => simp at h
    | _ :: _ :: _, h => simp at h
    | [.int ..], h => simp at h

/-- Elements of one cell, each of which is told. -/
theorem rows_cells {H : Hp} {A : Option Addr} {n : Nat} {α : Type} {g : α → Value} {q : α → Prop} {rows : List (List Value)} (hl : rows.length = n)
    (h : ∀ (i : Nat) (r : List Value), rows[i]? = some r → ∃ a, A = some a ∧ (∀ j v, r[j]? = some v → H.cell? (a.add (i * 1 + j)) = some v) ∧ ∃ x, r = [g x] ∧ q x) : ∃ l : List α, l.length = n ∧ Cells H A (l.map g) ∧ ∀ x ∈ l, q x := by
  have hx : ∀ i : Fin rows.length, ∃ x, rows[i] = [g x] ∧ q x := fun i => by
    obtain ⟨_, _, _, x, hx, hq⟩ := h i rows[i] (by simp)
    exact ⟨x, hx, hq⟩
  let f : Fin rows.length → α := fun i => Classical.choose (hx i)
  have hf : ∀ i : Fin rows.length, rows[i] = [g (f i)] ∧ q (f i) := fun i => Classical.choose_spec (hx i)
  refine ⟨List.ofFn f, by simp [hl], fun i v hv => ?_, fun x hx => ?_⟩
  · rw [List.getElem?_map] at hv
    obtain ⟨y, hy, rfl⟩ := Option.map_eq_some_iff.1 hv
    have hi : i < rows.length := by
      have := (List.getElem?_eq_some_iff.1 hy).1
      simpa using this
    have hy' : y = f ⟨i, hi⟩ := by
      rw [List.getElem?_ofFn] at hy
      simp only [hi, dif_pos, Option.some.injEq] at hy
      exact hy.symm
    subst hy'
    obtain ⟨a, ha, hc, _⟩ := h i rows[i] (by simp)
    refine ⟨a, ha, ?_⟩
    have := hc 0 (g (f ⟨i, hi⟩)) (by rw [show rows[i] = [g (f ⟨i, hi⟩)] from (hf ⟨i, hi⟩).1]; rfl)
    simpa using this
  · obtain ⟨i, rfl⟩ := List.mem_ofFn.1 hx
    exact (hf i).2

section
variable {H : Type} {enc : TypeId × Value → H} {P : Program} {W : World} {t e : TypeId} {v : Value} {d : DataW H} {ps : List MemPlace} {r : Reach} {base : Nat}

theorem trod_ints {fuel : Nat} {k : IntKind} {cs : List Value} (hu : P.underlying t = some (.slice e)) (he : P.underlying e = some (.int k)) (h1 : P.cellsOf e = 1) (h : DataW.trod enc P W 0 (fun _ => true) true fuel t cs = some (d, ps)) :
    ∃ A n c, cs = [.slice A n c] ∧ n ≤ c ∧ c ≤ maxLen ∧ ∃ ns : List Int, ns.length = n ∧ Cells (Full W) A (ns.map (.int k)) ∧ ∀ x ∈ ns, (Lit.int k x).wf = true := by
  obtain ⟨A, n, c, rfl, h2, h3, rows, hl, hr⟩ := trod_sl hu h
  refine ⟨A, n, c, rfl, h2, h3, ?_⟩
  refine rows_cells (g := fun x => Value.int k x) hl fun i r hi => ?_
  obtain ⟨a, ha, hc, hlen, f, d', p', hd⟩ := hr i r hi
  rw [h1] at hc
  obtain ⟨x, hx, _, hw⟩ := DataW.trod_int he hd
  exact ⟨a, ha, hc, x, hx, hw⟩

theorem trod_bytes {fuel : Nat} {cs : List Value} (hu : P.underlying t = some (.slice e)) (he : P.underlying e = some (.int .u8)) (h1 : P.cellsOf e = 1) (h : DataW.trod enc P W 0 (fun _ => true) true fuel t cs = some (d, ps)) :
    ∃ A n c, cs = [.slice A n c] ∧ n ≤ c ∧ c ≤ maxLen ∧ ∃ bs : List UInt8, bs.length = n ∧ Cells (Full W) A (byteVals bs) := by
  obtain ⟨A, n, c, rfl, h2, h3, ns, hl, hc, hw⟩ := trod_ints hu he h1 h
  refine ⟨A, n, c, rfl, h2, h3, ns.map fun x => UInt8.ofNat x.toNat, by simpa using hl, ?_⟩
  have : byteVals (ns.map fun x => UInt8.ofNat x.toNat) = ns.map (.int .u8) := by
    unfold byteVals
    rw [List.map_map]
    apply List.map_congr_left
    intro x hx
    have := hw x hx
    simp only [Lit.wf, Bool.and_eq_true, decide_eq_true_eq] at this
    obtain ⟨h4, h5⟩ := this
    have h4' : 0 ≤ x := h4
    have h5' : x ≤ 255 := h5
    simp only [Function.comp, Value.int.injEq, true_and]
    rw [UInt8.toNat_ofNat_of_lt' (by show x.toNat < 256; omega)]
    omega
  rw [this]; exact hc

theorem trod_words {fuel : Nat} {cs : List Value} (hu : P.underlying t = some (.slice e)) (he : P.underlying e = some (.int .u64)) (h1 : P.cellsOf e = 1) (h : DataW.trod enc P W 0 (fun _ => true) true fuel t cs = some (d, ps)) :
    ∃ A n c, cs = [.slice A n c] ∧ n ≤ c ∧ c ≤ maxLen ∧ ∃ l : List UInt64, l.length = n ∧ Cells (Full W) A (wordVals l) := by
  obtain ⟨A, n, c, rfl, h2, h3, ns, hl, hc, hw⟩ := trod_ints hu he h1 h
  refine ⟨A, n, c, rfl, h2, h3, ns.map fun x => UInt64.ofNat x.toNat, by simpa using hl, ?_⟩
  have : wordVals (ns.map fun x => UInt64.ofNat x.toNat) = ns.map (.int .u64) := by
    unfold wordVals
    rw [List.map_map]
    apply List.map_congr_left
    intro x hx
    have := hw x hx
    simp only [Lit.wf, Bool.and_eq_true, decide_eq_true_eq] at this
    obtain ⟨h4, h5⟩ := this
    have h4' : 0 ≤ x := h4
    have h5' : x ≤ 18446744073709551615 := h5
    simp only [Function.comp, Value.int.injEq, true_and]
    rw [UInt64.toNat_ofNat_of_lt' (by show x.toNat < 18446744073709551616; omega)]
    omega
  rw [this]; exact hc

theorem trod_bools {fuel : Nat} {cs : List Value} (hu : P.underlying t = some (.slice e)) (he : P.underlying e = some .bool) (h1 : P.cellsOf e = 1) (h : DataW.trod enc P W 0 (fun _ => true) true fuel t cs = some (d, ps)) :
    ∃ A n c, cs = [.slice A n c] ∧ n ≤ c ∧ c ≤ maxLen ∧ ∃ ns : List Bool, ns.length = n ∧ Cells (Full W) A (ns.map .bool) := by
  obtain ⟨A, n, c, rfl, h2, h3, rows, hl, hr⟩ := trod_sl hu h
  obtain ⟨ns, h4, h5, _⟩ := rows_cells (g := Value.bool) (q := fun _ => True) hl fun i r hi => by
    obtain ⟨a, ha, hc, hlen, f, d', p', hd⟩ := hr i r hi
    rw [h1] at hc
    obtain ⟨x, hx, _⟩ := DataW.trod_bool he hd
    exact ⟨a, ha, hc, x, hx, trivial⟩
  exact ⟨A, n, c, rfl, h2, h3, ns, h4, h5⟩

/-- Slices of bytes, of words. -/
theorem rows_bytes {A : Option Addr} {n : Nat} (hu : P.underlying t = some (.slice e)) (he : P.underlying e = some (.int .u8)) (h1 : P.cellsOf e = 1) (ht : P.cellsOf t = 1) {rows : List (List Value)} (hl : rows.length = n)
    (h : ∀ (i : Nat) (r : List Value), rows[i]? = some r → ∃ a, A = some a ∧ (∀ j v, r[j]? = some v → (Full W).cell? (a.add (i * P.cellsOf t + j)) = some v) ∧ r.length = P.cellsOf t ∧ ∃ f d' p', DataW.trod enc P W 0 (fun _ => true) true f t r = some (d', p')) :
    ∃ l : List (Option Addr × Nat × Nat × List UInt8), l.length = n ∧ Cells (Full W) A (l.map fun p => .slice p.1 p.2.1 p.2.2.1) ∧ ∀ p ∈ l, p.2.1 = p.2.2.2.length ∧ p.2.1 ≤ 9223372036854775807 ∧ Cells (Full W) p.1 (byteVals p.2.2.2) := by
  refine rows_cells hl fun i r hi => ?_
  obtain ⟨a, ha, hc, hlen, f, d', p', hd⟩ := h i r hi
  rw [ht] at hc
  obtain ⟨A', n', c', rfl, h3, h4, bs, h5, h6⟩ := trod_bytes hu he h1 hd
  exact ⟨a, ha, hc, (A', n', c', bs), rfl, h5.symm, Nat.le_trans h3 h4, h6⟩

theorem rows_words {A : Option Addr} {n : Nat} (hu : P.underlying t = some (.slice e)) (he : P.underlying e = some (.int .u64)) (h1 : P.cellsOf e = 1) (ht : P.cellsOf t = 1) {rows : List (List Value)} (hl : rows.length = n)
    (h : ∀ (i : Nat) (r : List Value), rows[i]? = some r → ∃ a, A = some a ∧ (∀ j v, r[j]? = some v → (Full W).cell? (a.add (i * P.cellsOf t + j)) = some v) ∧ r.length = P.cellsOf t ∧ ∃ f d' p', DataW.trod enc P W 0 (fun _ => true) true f t r = some (d', p')) :
    ∃ l : List (Option Addr × Nat × Nat × List UInt64), l.length = n ∧ Cells (Full W) A (l.map fun p => .slice p.1 p.2.1 p.2.2.1) ∧ ∀ p ∈ l, p.2.1 = p.2.2.2.length ∧ p.2.1 ≤ 9223372036854775807 ∧ Cells (Full W) p.1 (wordVals p.2.2.2) := by
  refine rows_cells hl fun i r hi => ?_
  obtain ⟨a, ha, hc, hlen, f, d', p', hd⟩ := h i r hi
  rw [ht] at hc
  obtain ⟨A', n', c', rfl, h3, h4, bs, h5, h6⟩ := trod_words hu he h1 hd
  exact ⟨a, ha, hc, (A', n', c', bs), rfl, h5.symm, Nat.le_trans h3 h4, h6⟩

/-- A slice that came in: its value. -/
theorem open_sl (hu : P.underlying t = some (.slice e)) (hval : Value.okWide P W r base t v) (h : DataW.Trod enc P W 0 (fun _ => true) true t v d ps) : ∃ A n c, v = .slice A n c ∧ ∃ fuel, DataW.trod enc P W 0 (fun _ => true) true fuel t [.slice A n c] = some (d, ps) := by
  obtain ⟨A, n, c, rfl⟩ := okWide_slice hu hval
  obtain ⟨fuel, h⟩ := h
  exact ⟨A, n, c, rfl, fuel, h⟩
end

theorem wf_int {k : IntKind} {n : Int} (h : (Lit.int k n).wf = true) : k.min ≤ n ∧ n ≤ k.max := by
  simpa [Lit.wf] using h

end Go.Hw

end
section
/-! HwS -/
/- The frame of the proofs: parts of memory side by side; a call over a part of what is known leaves the rest. -/
set_option maxRecDepth 100000
set_option linter.unusedSimpArgs false
set_option linter.unusedVariables false
set_option linter.unnecessarySimpa false
set_option linter.unusedSectionVars false
namespace Go.Hw
open Go

/-- What a call over a part of memory leaves of the whole. -/
def Hp.patch (H H1 H1' : Hp) : Hp := fun b => match H1' b with | some o => some o | none => match H1 b with | some _ => none | none => H b

theorem At.patch {H H1 H1' : Hp} {w w' : World} (hH : Fits H w) (hle : H1.le H) (h : At H1 w H1' w') : At H w (H.patch H1 H1') w' := by
  refine ⟨fun b o hb => ?_, h.size, h.os, h.tape, h.output, fun b hb h0 => ?_⟩
  · unfold Hp.patch at hb
    split at hb
    · rename_i o' ho'
      cases hb
      exact h.fits b _ ho'
    · rename_i hn
      split at hb
      · cases hb
      · rename_i h1
        obtain ⟨x, hx, hh⟩ := hH b o hb
        refine ⟨x, ?_, hh⟩
        rw [(h.old b (Array.getElem?_eq_some_iff.1 hx).1 h1).2]; exact hx
  · have h1 : H1 b = none := by
      cases e : H1 b with
      | none => rfl
      | some o => rw [hle b o e] at h0; cases h0
    obtain ⟨h2, h3⟩ := h.old b hb h1
    refine ⟨?_, h3⟩
    unfold Hp.patch
    rw [h2, h1]; exact h0

/-- A call over a part of what is known. -/
theorem HCalls.frame {P : Program} {f : FuncId} {args : Array Value} {H H1 : Hp} {R : Value → Hp → Prop} (h : HCalls P f args H1 R) (hle : H1.le H) :
    HCalls P f args H fun v H' => ∃ H1', R v H1' ∧ H' = H.patch H1 H1' ∧ ∀ b, H b ≠ none → H1 b = none → H1' b = none := fun w hw => by
  have hw1 : Fits H1 w := fun b o hb => hw b o (hle b o hb)
  refine (h w hw1).mono ?_
  rintro e w' ⟨v, H1', rfl, hr, hA⟩
  refine ⟨v, _, rfl, ⟨H1', hr, rfl, fun b hb h1 => ?_⟩, hA.patch hw hle⟩
  cases hq : H b with
  | none => exact absurd hq hb
  | some o =>
    obtain ⟨x, hx, _⟩ := hw b o hq
    exact (hA.old b (Array.getElem?_eq_some_iff.1 hx).1 h1).1

/-! ## Parts -/

abbrev As := Hp → Prop

def Apart (H1 H2 : Hp) : Prop := ∀ b, H1 b = none ∨ H2 b = none

def Hp.or (H1 H2 : Hp) : Hp := fun b => match H1 b with | some o => some o | none => H2 b

theorem Hp.le_none {H H' : Hp} {b : Nat} (h : H.le H') (hn : H' b = none) : H b = none := by
  cases e : H b with
  | none => rfl
  | some o => rw [h b o e] at hn; cases hn

theorem Apart.symm {H1 H2 : Hp} (h : Apart H1 H2) : Apart H2 H1 := fun b => (h b).symm
theorem Apart.le {H1 H2 H1' H2' : Hp} (h : Apart H1 H2) (h1 : H1'.le H1) (h2 : H2'.le H2) : Apart H1' H2' := fun b =>
  (h b).elim (fun e => .inl (Hp.le_none h1 e)) (fun e => .inr (Hp.le_none h2 e))
theorem Apart.or {H1 H2 H3 : Hp} (h : Apart H1 H3) (k : Apart H2 H3) : Apart (H1.or H2) H3 := fun b => by
  unfold Hp.or
  rcases h b with e | e
  · rw [e]; exact k b
  · exact .inr e
theorem Hp.or_le {H1 H2 H : Hp} (h1 : H1.le H) (h2 : H2.le H) : (H1.or H2).le H := fun b o ho => by
  unfold Hp.or at ho
  split at ho
  · rename_i o' e; cases ho; exact h1 b _ e
  · exact h2 b o ho
theorem Hp.le_or_left (H1 H2 : Hp) : H1.le (H1.or H2) := fun b o ho => by unfold Hp.or; rw [ho]
theorem Hp.le_or_right {H1 H2 : Hp} (h : Apart H1 H2) : H2.le (H1.or H2) := fun b o ho => by
  unfold Hp.or
  rcases h b with e | e
  · rw [e]; exact ho
  · rw [e] at ho; cases ho

/-- Parts of memory, side by side. -/
def Sep : List As → Hp → Prop
  | [], _ => True
  | A :: L, H => ∃ H1 H2, H1.le H ∧ H2.le H ∧ Apart H1 H2 ∧ A H1 ∧ Sep L H2

theorem Sep.up : ∀ {L : List As} {H H' : Hp}, Sep L H → H.le H' → Sep L H'
  | [], _, _, _, _ => trivial
  | _ :: _, _, _, ⟨H1, H2, h1, h2, h3, h4, h5⟩, k => ⟨H1, H2, Hp.le_trans h1 k, Hp.le_trans h2 k, h3, h4, h5⟩

theorem Sep.swap {A B : As} {L : List As} {H : Hp} : Sep (A :: B :: L) H → Sep (B :: A :: L) H
  | ⟨H1, H2, h1, h2, h3, h4, H3, H4, k1, k2, k3, k4, k5⟩ =>
    ⟨H3, H1.or H4, Hp.le_trans k1 h2, Hp.or_le h1 (Hp.le_trans k2 h2), (Apart.or (h3.le (Hp.le_refl _) k1) k3.symm).symm, k4, H1, H4, Hp.le_or_left _ _, Hp.le_or_right (h3.le (Hp.le_refl _) k2), h3.le (Hp.le_refl _) k2, h4, k5⟩

theorem Sep.perm {L L' : List As} (p : L.Perm L') : ∀ {H : Hp}, Sep L H → Sep L' H := by
  induction p with
  | nil => exact fun h => h
  | cons A _ ih => exact fun ⟨H1, H2, h1, h2, h3, h4, h5⟩ => ⟨H1, H2, h1, h2, h3, h4, ih h5⟩
  | swap A B L => exact fun h => h.swap
  | trans _ _ ih1 ih2 => exact fun h => ih2 (ih1 h)

theorem Sep.tail {A : As} {L : List As} {H : Hp} : Sep (A :: L) H → Sep L H
  | ⟨_, _, _, h2, _, _, h5⟩ => h5.up h2

theorem Sep.drop : ∀ {M L : List As} {H : Hp}, Sep (M ++ L) H → Sep L H
  | [], _, _, h => h
  | _ :: _, _, _, h => Sep.drop h.tail

theorem Sep.take {M L : List As} {H : Hp} (h : Sep (M ++ L) H) : Sep M H := Sep.drop (Sep.perm List.perm_append_comm h)

/-- A part is split, or put together, or said in other words. -/
theorem Sep.map {A : As} {L M : List As} {H : Hp} (h : Sep (A :: L) H) (k : ∀ H1, A H1 → Sep M H1) : Sep (M ++ L) H := by
  obtain ⟨H1, H2, h1, h2, h3, h4, h5⟩ := h
  have hM := k H1 h4
  clear h4 k
  induction M generalizing H1 H with
  | nil => exact h5.up h2
  | cons B M ih =>
    obtain ⟨H3, H4, k1, k2, k3, k4, k5⟩ := hM
    exact ⟨H3, H4.or H2, Hp.le_trans k1 h1, Hp.or_le (Hp.le_trans k2 h1) h2, (Apart.or k3.symm (h3.le k1 (Hp.le_refl _)).symm).symm, k4, ih (H4) (Hp.le_or_left _ _) (Hp.le_or_right (h3.le k2 (Hp.le_refl _))) (h3.le k2 (Hp.le_refl _)) k5⟩

theorem Sep.append {M L : List As} {H : Hp} (h : Sep (M ++ L) H) : ∃ H1 H2, H1.le H ∧ H2.le H ∧ Apart H1 H2 ∧ Sep M H1 ∧ Sep L H2 := by
  induction M generalizing H with
  | nil => exact ⟨fun _ => none, H, fun b o h => (by cases h), Hp.le_refl _, fun b => Or.inl rfl, trivial, h⟩
  | cons A M ih =>
    obtain ⟨H1, H2, h1, h2, h3, h4, h5⟩ := h
    obtain ⟨H3, H4, k1, k2, k3, k4, k5⟩ := ih h5
    exact ⟨H1.or H3, H4, Hp.or_le h1 (Hp.le_trans k1 h2), Hp.le_trans k2 h2, Apart.or (h3.le (Hp.le_refl _) k2) k3, ⟨H1, H3, Hp.le_or_left _ _, Hp.le_or_right (h3.le (Hp.le_refl _) k1), h3.le (Hp.le_refl _) k1, h4, k4⟩, k5⟩

theorem Sep.join {M L : List As} {H1 H2 H : Hp} (h1 : H1.le H) (h2 : H2.le H) (h3 : Apart H1 H2) (hM : Sep M H1) (hL : Sep L H2) : Sep (M ++ L) H := by
  have : Sep (Sep M :: L) H := ⟨H1, H2, h1, h2, h3, hM, hL⟩
  exact this.map (fun _ h => h)

def sel (L : List As) : List Nat → List As
  | [] => []
  | i :: is => match L[i]? with | some A => A :: sel L is | none => sel L is

def rest (L : List As) (is : List Nat) : List As := go 0 L
where go (k : Nat) : List As → List As
  | [] => []
  | A :: L => match is.contains k with | true => go (k + 1) L | false => A :: go (k + 1) L

theorem rest_nil (L : List As) : rest L [] = L := by
  have key : ∀ (L : List As) k, rest.go [] k L = L := by
    intro L
    induction L with
    | nil => intro k; rfl
    | cons A L ih => intro k; unfold rest.go; simp only [List.contains_nil]; rw [ih]
  exact key L 0

theorem perm_skip {o : Option As} {c : Prop} [Decidable c] {X : As → List As} {Y Z : List As} (hc : ¬ c) (h : Y.Perm Z) : (match o with | some A => if c then X A else Y | none => Y).Perm Z := by
  cases o with
  | none => exact h
  | some A => simp only [hc, if_false]; exact h
theorem perm_skip' {o : Option As} {c : Prop} [Decidable c] {X : As → List As} {Y Z : List As} (hc : ¬ c) (h : (match o with | some A => if c then X A else Y | none => Y).Perm Z) : Y.Perm Z := by
  cases o with
  | none => exact h
  | some A => simp only [hc, if_false] at h; exact h

theorem rest_cons (i : Nat) (is : List Nat) (hi : is.contains i = false) (L : List As) : (match L[i]? with | some A => (A :: rest L (i :: is)) | none => rest L (i :: is)).Perm (rest L is) := by
  have key : ∀ (L : List As) (k : Nat), (match L[i - k]? with | some A => if k ≤ i then (A :: rest.go (i :: is) k L) else rest.go (i :: is) k L | none => rest.go (i :: is) k L).Perm (rest.go is k L) := by
    intro L
    induction L with
    | nil => intro k; simp [rest.go]
    | cons A L ih =>
      intro k
      have ih := ih (k + 1)
      by_cases hk : k ≤ i
      · by_cases e : i = k
        · subst e
          have ih := perm_skip' (by omega) ih
          unfold rest.go
          simp only [Nat.sub_self, List.getElem?_cons_zero, Nat.le_refl, if_true]
          rw [show (i :: is).contains i = true by simp, hi]
          exact List.Perm.cons A ih
        · have hc : (i :: is).contains k = is.contains k := by
            rw [List.contains_cons, show (k == i) = false by simp; omega]; simp
          have h1 : i - k = (i - (k + 1)) + 1 := by omega
          rw [h1, List.getElem?_cons_succ]
          have hk' : k + 1 ≤ i := by omega
          simp only [hk', if_true] at ih
          simp only [hk, if_true]
          unfold rest.go
          rw [hc]
          cases hb : is.contains k with
          | true => exact ih
          | false =>
            simp only
            cases h : L[i - (k + 1)]? with
            | none => rw [h] at ih; exact List.Perm.cons A ih
            | some B => rw [h] at ih; exact (List.Perm.swap A B _).trans (List.Perm.cons A ih)
      · have ih := perm_skip' (by omega) ih
        refine perm_skip hk ?_
        have hc : (i :: is).contains k = is.contains k := by
          rw [List.contains_cons, show (k == i) = false by simp; omega]; simp
        unfold rest.go
        rw [hc]
        cases is.contains k
        · exact List.Perm.cons A ih
        · exact ih
  have := key L 0
  simpa [rest] using this

def nodupB : List Nat → Bool
  | [] => true
  | i :: is => !is.contains i && nodupB is

theorem sel_rest (L : List As) : ∀ (is : List Nat), nodupB is = true → (sel L is ++ rest L is).Perm L
  | [], _ => by rw [rest_nil]; exact .refl _
  | i :: is, h => by
    unfold nodupB at h
    simp only [Bool.and_eq_true, Bool.not_eq_true'] at h
    have ih := sel_rest L is h.2
    have hr := rest_cons i is h.1 L
    unfold sel
    cases e : L[i]? with
    | none => rw [e] at hr; exact (List.Perm.append_left _ hr).trans ih
    | some A =>
      rw [e] at hr
      refine List.Perm.trans ?_ ((List.Perm.append_left _ hr).trans ih)
      exact List.perm_middle.symm

/-- Parts in another order, or some of them only. -/
theorem Sep.re {L : List As} {H : Hp} (h : Sep L H) (is : List Nat) (hn : nodupB is = true) : Sep (sel L is) H :=
  Sep.take (Sep.perm (sel_rest L is hn).symm h)

theorem Sep.split {L : List As} {H : Hp} (h : Sep L H) (is : List Nat) (hn : nodupB is = true) : Sep (sel L is ++ rest L is) H := Sep.perm (sel_rest L is hn).symm h

theorem Sep.see {L : List As} {H : Hp} (h : Sep L H) (i : Nat) {A : As} (hi : L[i]? = some A) : ∃ H1, A H1 ∧ H1.le H := by
  have h1 : Sep [A] H := by
    have := h.re [i] rfl
    unfold sel at this
    rw [hi] at this
    exact this
  obtain ⟨H1, _, k1, _, _, k4, _⟩ := h1
  exact ⟨H1, k4, k1⟩

/-! ## One block -/

def pts (b : Nat) (o : AO) : As := fun H => H b = some o
/-- All that was known ahead stands. -/
def own (H0 : Hp) : As := fun H => H0.le H
/-- A fact. -/
def pur (p : Prop) : As := fun _ => p

theorem Sep.get {L : List As} {H : Hp} (h : Sep L H) (i : Nat) {b : Nat} {o : AO} (hi : L[i]? = some (pts b o)) : H b = some o := by
  obtain ⟨H1, h1, h2⟩ := h.see i hi
  exact h2 _ _ h1

theorem Sep.ow {L : List As} {H H0 : Hp} (h : Sep L H) (i : Nat) (hi : L[i]? = some (own H0)) : H0.le H := by
  obtain ⟨H1, h1, h2⟩ := h.see i hi
  exact Hp.le_trans h1 h2

theorem Sep.start (H : Hp) : Sep [own H] H := ⟨H, fun _ => none, Hp.le_refl _, fun b o h => (by cases h), fun b => Or.inr rfl, Hp.le_refl _, trivial⟩

theorem Sep.new {L : List As} {H : Hp} (h : Sep L H) {b : Nat} (hb : H b = none) (o : AO) : Sep (L ++ [pts b o]) (H.set b o) := by
  refine Sep.join (H1 := H) (H2 := fun c => if c = b then some o else none) (Hp.le_set hb) ?_ ?_ h ⟨_, fun _ => none, Hp.le_refl _, fun b o h => (by cases h), fun b => .inr rfl, (if_pos rfl : (if b = b then some o else none) = some o), trivial⟩
  · intro c q hq
    simp only at hq
    split at hq
    · rename_i e; subst e; rw [Hp.set_same]; exact hq
    · cases hq
  · intro c
    by_cases e : c = b
    · left; rw [e]; exact hb
    · right; simp only [e, if_false]

theorem Sep.put {L : List As} {H : Hp} (h : Sep L H) (i : Nat) {b : Nat} {o : AO} (o' : AO) (hi : L[i]? = some (pts b o)) : Sep (L.set i (pts b o')) (H.set b o') := by
  have key : ∀ (L : List As) (i : Nat) (H : Hp), Sep L H → L[i]? = some (pts b o) → Sep (L.set i (pts b o')) (H.set b o') := by
    intro L
    induction L with
    | nil => intro i H _ hi; simp at hi
    | cons A L ih =>
      intro i H h hi
      obtain ⟨H1, H2, h1, h2, h3, h4, h5⟩ := h
      cases i with
      | zero =>
        simp only [List.getElem?_cons_zero, Option.some.injEq] at hi
        subst hi
        have h4' : H1 b = some o := h4
        have hn : H2 b = none := (h3 b).resolve_left (by rw [h4']; simp)
        refine ⟨H1.set b o', H2, Hp.set_le h1 b o', fun c q hq => ?_, fun c => ?_, Hp.set_same _ _ _, h5⟩
        · rw [Hp.set_other _ _ (fun e => by rw [e, hn] at hq; cases hq)]; exact h2 c q hq
        · by_cases e : c = b
          · right; rw [e]; exact hn
          · rw [Hp.set_other _ _ e]; exact h3 c
      | succ i =>
        rw [List.getElem?_cons_succ] at hi
        have hb : H2 b = some o := Sep.get h5 i hi
        have hn : H1 b = none := (h3 b).resolve_right (by rw [hb]; simp)
        refine ⟨H1, H2.set b o', fun c q hq => ?_, Hp.set_le h2 b o', fun c => ?_, h4, ih i H2 h5 hi⟩
        · rw [Hp.set_other _ _ (fun e => by rw [e, hn] at hq; cases hq)]; exact h1 c q hq
        · by_cases e : c = b
          · left; rw [e]; exact hn
          · rw [Hp.set_other _ _ e]; exact h3 c
  exact key L i H h hi

theorem Sep.gone {L : List As} {H : Hp} (h : Sep L H) (i : Nat) {b : Nat} {o : AO} (hi : L[i]? = some (pts b o)) : Sep (rest L [i]) (H.erase b) := by
  have h1 := h.split [i] rfl
  unfold sel at h1
  rw [hi] at h1
  obtain ⟨H1, H2, k1, k2, k3, k4, k5⟩ := h1
  refine k5.up fun c q hq => ?_
  have hc : c ≠ b := fun e => by
    have k4' : H1 b = some o := k4
    rcases k3 b with e2 | e2
    · rw [k4'] at e2; cases e2
    · rw [e, e2] at hq; cases hq
  unfold Hp.erase
  rw [if_neg hc]
  exact k2 c q hq

/-! ## Steps of a formula -/

def nthV : List Value → Nat → Option Value
  | [], _ => none
  | v :: _, 0 => some v
  | _ :: l, n + 1 => nthV l n
theorem nthV_eq : ∀ (l : List Value) (i : Nat), nthV l i = l[i]?
  | [], _ => by simp [nthV]
  | v :: _, 0 => rfl
  | _ :: l, n + 1 => by simp [nthV, nthV_eq l n]

section
variable {L : List As} {H : Hp}

theorem Sep.nw (h : Sep L H) {o : AO} {K : Nat → Hp → Prop} (k : ∀ b H', Sep (L ++ [pts b o]) H' → K b H') : Nw H o K := fun b hb => k b _ (h.new hb o)

theorem Sep.ld (h : Sep L H) (i : Nat) {b j : Nat} {c : Array Value} {e : TypeId} {v : Value} {K : Value → Prop} (hi : L[i]? = some (pts b (.obj (.cells c e)))) (hv : nthV c.toList j = some v) (k : K v) : Ld H ⟨b, j, none⟩ K :=
  Ld_obj (h.get i hi) (by rw [nthV_eq, Array.getElem?_toList] at hv; exact hv) k
theorem Sep.ldr (h : Sep L H) (i : Nat) {b j : Nat} {xs : List Value} {e : TypeId} {m : Nat} {v : Value} {K : Value → Prop} (hi : L[i]? = some (pts b (.row xs e m))) (hv : xs[j]? = some v) (k : K v) : Ld H ⟨b, j, none⟩ K :=
  Ld_row (h.get i hi) hv k
theorem Sep.st (h : Sep L H) (i : Nat) {b j : Nat} {c : Array Value} {e : TypeId} {v : Value} {K : Hp → Prop} (hi : L[i]? = some (pts b (.obj (.cells c e)))) (hj : j < c.size) (hv : v.oneCell' = true)
    (k : ∀ H', Sep (L.set i (pts b (.obj (.cells (c.setIfInBounds j v) e)))) H' → K H') : St H ⟨b, j, none⟩ v K :=
  St_obj (h.get i hi) hj hv (k _ (h.put i _ hi))
theorem Sep.str (h : Sep L H) (i : Nat) {b j : Nat} {xs : List Value} {e : TypeId} {m : Nat} {v : Value} {K : Hp → Prop} (hi : L[i]? = some (pts b (.row xs e m))) (hj : j < xs.length) (hv : v.oneCell' = true)
    (k : ∀ H', Sep (L.set i (pts b (.row (xs.set j v) e m))) H' → K H') : St H ⟨b, j, none⟩ v K :=
  St_row (h.get i hi) hj hv (k _ (h.put i _ hi))
theorem Sep.lda (h : Sep L H) (i : Nat) {b off n : Nat} {c : Array Value} {e : TypeId} {K : List Value → Prop} (hi : L[i]? = some (pts b (.obj (.cells c e)))) (hn : off + n ≤ c.size) (k : K ((c.toList.drop off).take n)) : LdA H ⟨b, off, none⟩ n K :=
  LdA_at (h.get i hi) hn k
theorem Sep.sta (h : Sep L H) (i : Nat) {b off n : Nat} {c y : Array Value} {e : TypeId} {K : Hp → Prop} (hi : L[i]? = some (pts b (.obj (.cells c e)))) (hn : off + n ≤ c.size) (hy : y.size = n) (hv : y.toList.all (fun v => v.oneCell') = true)
    (k : ∀ H', Sep (L.set i (pts b (.obj (.cells (setAt c.toList off y.toList).toArray e)))) H' → K H') : StA H ⟨b, off, none⟩ y n K :=
  StA_lit (h.get i hi) hn hy hv (k _ (h.put i _ hi))
theorem Sep.mks (h : Sep L H) {P : Program} {e : TypeId} {s bs : Nat} {z : Array Value} (hi : cellInfo P e = some (s, bs, some z)) (hs : z.size = s) {l c : Int} {n m : Nat} (hl : l = n) (hc : c = m) (hnm : n ≤ m) (hm : bs * m ≤ 140737488355328) (hm2 : m ≤ 9223372036854775807) {K : Value → Hp → Prop}
    (k : ∀ b H', Sep (L ++ [pts b (.row (zeroRow z.toList n) e (m * s))]) H' → K (.slice (some ⟨b, 0, none⟩) n m) H') : MkS P e l c H K :=
  MkS_of hi hs hl hc hnm hm hm2 fun b hb => k b _ (h.new hb _)
end

/-! ## Contracts -/

/-- A call over parts of memory: what it answers, and which parts are left. -/
def Tr (P : Program) (f : FuncId) (args : Array Value) (Pre : List As) (Q : Value → List As → Prop) : Prop :=
  ∀ H, Sep Pre H → HCalls P f args H fun v H' => ∃ M, Q v M ∧ Sep M H'

theorem Tr.use {P : Program} {f : FuncId} {args : Array Value} {Pre : List As} {Q : Value → List As → Prop} (t : Tr P f args Pre Q) {L : List As} {H : Hp} (h : Sep L H) (is : List Nat) (hs : sel L is = Pre) (hn : nodupB is = true) {K : Value → Hp → Prop}
    (k : ∀ v M H', Q v M → Sep (M ++ rest L is) H' → K v H') : HCalls P f args H K := by
  have h1 := h.split is hn
  rw [hs] at h1
  obtain ⟨H1, H2, k1, k2, k3, k4, k5⟩ := h1.append
  refine ((t H1 k4).frame k1).mono ?_
  rintro v H' ⟨H1', ⟨M, hq, hM⟩, rfl, hfr⟩
  refine k v M _ hq (Sep.join (H1 := H1') (H2 := H2) (fun b o hb => ?_) (fun b o hb => ?_) (fun b => ?_) hM k5)
  · unfold Hp.patch; rw [hb]
  · have e1 : H1 b = none := (k3 b).resolve_right (by rw [hb]; simp)
    have e2 : H1' b = none := hfr b (by rw [k2 b o hb]; simp) e1
    unfold Hp.patch; rw [e2, e1]; exact k2 b o hb
  · cases e : H2 b with
    | none => exact .inr rfl
    | some o =>
      left
      exact hfr b (by rw [k2 b o e]; simp) ((k3 b).resolve_right (by rw [e]; simp))

/-! ## Deferred calls -/

theorem HCallsD.mono {P : Program} {f : FuncId} {args : Array Value} {H : Hp} {R R' : Value → Hp → Prop} (h : HCallsD P f args H R) (k : ∀ v H', R v H' → R' v H') : HCallsD P f args H R' := fun w hw c cs hc => by
  obtain ⟨e, u', w', fr, ⟨hu, v, H', rfl, hr, hA⟩, hx⟩ := h w hw c cs hc
  exact ⟨_, _, w', fr, ⟨hu, v, H', rfl, k v H' hr, hA⟩, hx⟩

theorem HCallsD.frame {P : Program} {f : FuncId} {args : Array Value} {H H1 : Hp} {R : Value → Hp → Prop} (h : HCallsD P f args H1 R) (hle : H1.le H) :
    HCallsD P f args H fun v H' => ∃ H1', R v H1' ∧ H' = H.patch H1 H1' ∧ ∀ b, H b ≠ none → H1 b = none → H1' b = none := fun w hw c cs hc => by
  have hw1 : Fits H1 w := fun b o hb => hw b o (hle b o hb)
  obtain ⟨e, u', w', fr, ⟨hu, v, H1', rfl, hr, hA⟩, hx⟩ := h w hw1 c cs hc
  refine ⟨_, _, w', fr, ⟨hu, v, _, rfl, ⟨H1', hr, rfl, fun b hb h1 => ?_⟩, hA.patch hw hle⟩, hx⟩
  cases hq : H b with
  | none => exact absurd hq hb
  | some o =>
    obtain ⟨x, hx, _⟩ := hw b o hq
    exact (hA.old b (Array.getElem?_eq_some_iff.1 hx).1 h1).1

def TrD (P : Program) (f : FuncId) (args : Array Value) (Pre : List As) (Q : Value → List As → Prop) : Prop :=
  ∀ H, Sep Pre H → HCallsD P f args H fun v H' => ∃ M, Q v M ∧ Sep M H'

theorem TrD.use {P : Program} {f : FuncId} {args : Array Value} {Pre : List As} {Q : Value → List As → Prop} (t : TrD P f args Pre Q) {L : List As} {H : Hp} (h : Sep L H) (is : List Nat) (hs : sel L is = Pre) (hn : nodupB is = true) {K : Value → Hp → Prop}
    (k : ∀ v M H', Q v M → Sep (M ++ rest L is) H' → K v H') : HCallsD P f args H K := by
  have h1 := h.split is hn
  rw [hs] at h1
  obtain ⟨H1, H2, k1, k2, k3, k4, k5⟩ := h1.append
  refine ((t H1 k4).frame k1).mono ?_
  rintro v H' ⟨H1', ⟨M, hq, hM⟩, rfl, hfr⟩
  refine k v M _ hq (Sep.join (H1 := H1') (H2 := H2) (fun b o hb => ?_) (fun b o hb => ?_) (fun b => ?_) hM k5)
  · unfold Hp.patch; rw [hb]
  · have e1 : H1 b = none := (k3 b).resolve_right (by rw [hb]; simp)
    have e2 : H1' b = none := hfr b (by rw [k2 b o hb]; simp) e1
    unfold Hp.patch; rw [e2, e1]; exact k2 b o hb
  · cases e : H2 b with
    | none => exact .inr rfl
    | some o =>
      left
      exact hfr b (by rw [k2 b o e]; simp) ((k3 b).resolve_right (by rw [e]; simp))

/-- A contract over memory that is left as it was. -/
theorem Tr.of_ret {P : Program} {f : FuncId} {args : Array Value} {Pre : List As} {v : Value} (h : ∀ H, Sep Pre H → HCalls P f args H (RetE v H)) : Tr P f args Pre fun v' M => v' = v ∧ M = Pre := fun H hs =>
  (h H hs).mono fun _ _ ⟨e1, e2⟩ => ⟨Pre, ⟨e1, rfl⟩, by rw [e2]; exact hs⟩

theorem Sep.fin {L : List As} {H H0 : Hp} (h : Sep L H) (i : Nat) (hi : L[i]? = some (own H0)) (v : Value) : Ret v H0 v H := ⟨rfl, h.ow i hi⟩

end Go.Hw

end
section
/-! HwO -/
/- The frame of the proofs: slices of one's own, as parts of memory; elements of several cells. -/
set_option maxRecDepth 100000
set_option linter.unusedSimpArgs false
set_option linter.unusedVariables false
set_option linter.unnecessarySimpa false
set_option linter.unusedSectionVars false
namespace Go.Hw
open Go

theorem erase_none {G : Hp} {q : Nat} (b : Nat) (h : G q = none) : G.erase b q = none := by
  unfold Hp.erase; split
  · rfl
  · exact h

/-- A slice of one's own: its elements' cells (s each), in a row of its own, or nil. -/
def Own (e : TypeId) (s : Nat) (A : Option Addr) (n m : Nat) (xs : List Value) : As := fun H =>
  xs.length = n * s ∧ ((A = none ∧ n = 0 ∧ m = 0) ∨ ∃ b mm, A = some ⟨b, 0, none⟩ ∧ H b = some (.row xs e mm) ∧ m * s ≤ mm)

theorem Own.up {e : TypeId} {s : Nat} {A : Option Addr} {n m : Nat} {xs : List Value} {H H' : Hp} (h : Own e s A n m xs H) (k : H.le H') : Own e s A n m xs H' := by
  obtain ⟨h1, h2⟩ := h
  refine ⟨h1, h2.imp id ?_⟩
  rintro ⟨b, mm, h3, h4, h5⟩
  exact ⟨b, mm, h3, k _ _ h4, h5⟩

theorem Own.none (e : TypeId) (s : Nat) (H : Hp) : Own e s .none 0 0 [] H := ⟨by simp, .inl ⟨rfl, rfl, rfl⟩⟩

section
variable {L : List As} {H : Hp}

theorem Sep.own (h : Sep L H) (i : Nat) {e : TypeId} {s : Nat} {A : Option Addr} {n m : Nat} {xs : List Value} (hi : L[i]? = some (Own e s A n m xs)) : Own e s A n m xs H := by
  obtain ⟨H1, h1, h2⟩ := h.see i hi
  exact h1.up h2

theorem Own.len {e : TypeId} {s : Nat} {A : Option Addr} {n m : Nat} {xs : List Value} (h : Own e s A n m xs H) : xs.length = n * s := h.1

/-- Put in some part's place. -/
theorem Sep.turn (h : Sep L H) (i : Nat) {A : As} (hi : L[i]? = some A) {B : As} (k : ∀ H1, A H1 → B H1) : Sep (L.set i B) H := by
  induction L generalizing i H with
  | nil => simp at hi
  | cons C L ih =>
    obtain ⟨H1, H2, h1, h2, h3, h4, h5⟩ := h
    cases i with
    | zero =>
      simp only [List.getElem?_cons_zero, Option.some.injEq] at hi
      subst hi
      exact ⟨H1, H2, h1, h2, h3, k _ h4, h5⟩
    | succ i => exact ⟨H1, H2, h1, h2, h3, h4, ih h5 i hi⟩

theorem Sep.turn' (h : Sep L H) (i : Nat) {A : As} (hi : L[i]? = some A) {B : As} (k : ∀ H1, H1.le H → A H1 → B H1) : Sep (L.set i B) H := by
  induction L generalizing i H with
  | nil => simp at hi
  | cons C L ih =>
    obtain ⟨H1, H2, h1, h2, h3, h4, h5⟩ := h
    cases i with
    | zero =>
      simp only [List.getElem?_cons_zero, Option.some.injEq] at hi
      subst hi
      exact ⟨H1, H2, h1, h2, h3, k _ h1 h4, h5⟩
    | succ i => exact ⟨H1, H2, h1, h2, h3, h4, ih h5 i hi fun G hG hA => k G (Hp.le_trans hG h2) hA⟩

/-- A slice of one's own is a row, or nil. -/
theorem Sep.unown (h : Sep L H) (i : Nat) {e : TypeId} {s : Nat} {A : Option Addr} {n m : Nat} {xs : List Value} (hi : L[i]? = some (Own e s A n m xs)) :
    (A = none ∧ n = 0 ∧ m = 0 ∧ xs = []) ∨ ∃ b mm, A = some ⟨b, 0, .none⟩ ∧ m * s ≤ mm ∧ xs.length = n * s ∧ Sep (L.set i (pts b (.row xs e mm))) H := by
  obtain ⟨h1, h2⟩ := h.own i hi
  rcases h2 with ⟨h2, h3, h4⟩ | ⟨b, mm, rfl, h4, h5⟩
  · refine .inl ⟨h2, h3, h4, ?_⟩
    rw [h3] at h1
    cases xs with
    | nil => rfl
    | cons x l => simp at h1
  · refine .inr ⟨b, mm, rfl, h5, h1, h.turn' i hi fun H1 hle hO => ?_⟩
    obtain ⟨_, k2⟩ := hO
    rcases k2 with ⟨k2, _⟩ | ⟨b', mm', k2, k3, _⟩
    · cases k2
    · cases k2
      have := hle _ _ k3
      rw [h4] at this; cases this
      exact k3

/-- A block of a part is turned within it. -/
theorem Sep.putIn (h : Sep L H) (i : Nat) {A : As} (hi : L[i]? = some A) {b : Nat} {o' : AO} {B : As} (k : ∀ H1, H1.le H → A H1 → ∃ o, H1 b = some o ∧ B (H1.set b o')) : Sep (L.set i B) (H.set b o') := by
  induction L generalizing i H with
  | nil => simp at hi
  | cons C L ih =>
    obtain ⟨H1, H2, h1, h2, h3, h4, h5⟩ := h
    cases i with
    | zero =>
      simp only [List.getElem?_cons_zero, Option.some.injEq] at hi
      subst hi
      obtain ⟨o, ho, hB⟩ := k H1 h1 h4
      have hn : H2 b = none := (h3 b).resolve_left (by rw [ho]; simp)
      refine ⟨H1.set b o', H2, Hp.set_le h1 b o', fun c q hq => ?_, fun c => ?_, hB, h5⟩
      · rw [Hp.set_other _ _ (fun e => by rw [e, hn] at hq; cases hq)]; exact h2 c q hq
      · by_cases e : c = b
        · right; rw [e]; exact hn
        · rw [Hp.set_other _ _ e]; exact h3 c
    | succ i =>
      rw [List.getElem?_cons_succ] at hi
      have ih' := ih h5 i hi (fun G hG hA => k G (Hp.le_trans hG h2) hA)
      have hb : ∃ o, H2 b = some o := by
        obtain ⟨G, hG, hle⟩ := h5.see i hi
        obtain ⟨o, ho, _⟩ := k G (Hp.le_trans hle h2) hG
        exact ⟨o, hle _ _ ho⟩
      obtain ⟨o, hb⟩ := hb
      have hn : H1 b = none := (h3 b).resolve_right (by rw [hb]; simp)
      refine ⟨H1, H2.set b o', fun c q hq => ?_, Hp.set_le h2 b o', fun c => ?_, h4, ih'⟩
      · rw [Hp.set_other _ _ (fun e => by rw [e, hn] at hq; cases hq)]; exact h1 c q hq
      · by_cases e : c = b
        · left; rw [e]; exact hn
        · rw [Hp.set_other _ _ e]; exact h3 c

/-- An element's cell is read. -/
theorem Own.rd {e : TypeId} {s : Nat} {A : Option Addr} {n m : Nat} {xs : List Value} (h : Own e s A n m xs H) {x : Int} {j : Nat} (hx : x = j) (k : Nat) (hk : k < s) {v : Value} (hv : xs[j * s + k]? = some v) {K : Value → Prop} (kk : K v) :
    ixI x n (NN A fun a => Ld H ((a.add (x.toNat * s)).add k) K) := by
  subst hx
  obtain ⟨h1, h2⟩ := h
  have hlt := (List.getElem?_eq_some_iff.1 hv).1
  have hj : j < n := by
    rw [h1] at hlt
    have h3 : j * s < n * s := by omega
    exact Nat.lt_of_mul_lt_mul_right h3
  refine ⟨by omega, by omega, ?_⟩
  rcases h2 with ⟨_, h3, _⟩ | ⟨b, mm, rfl, h4, _⟩
  · omega
  · refine Ld_of ?_ kk
    rw [Int.toNat_natCast, Addr.add_lit', Addr.add_lit', Nat.zero_add, cell_row h4]; exact hv
theorem Own.rd0 {e : TypeId} {s : Nat} {A : Option Addr} {n m : Nat} {xs : List Value} (h : Own e s A n m xs H) {x : Int} {j : Nat} (hx : x = j) (hs : 0 < s) {v : Value} (hv : xs[j * s]? = some v) {K : Value → Prop} (kk : K v) :
    ixI x n (NN A fun a => Ld H (a.add (x.toNat * s)) K) := h.rd hx 0 hs hv kk
/-- An element of one cell is read. -/
theorem Own.rd1 {e : TypeId} {A : Option Addr} {n m : Nat} {xs : List Value} (h : Own e 1 A n m xs H) {x : Int} {j : Nat} (hx : x = j) {v : Value} (hv : xs[j]? = some v) {K : Value → Prop} (kk : K v) :
    ixI x n (NN A fun a => Ld H (a.add (x.toNat * 1)) K) := h.rd0 hx (by omega) (by rw [Nat.mul_one]; exact hv) kk

/-- A whole element is read. -/
theorem Own.rdA {e : TypeId} {s : Nat} {A : Option Addr} {n m : Nat} {xs : List Value} (h : Own e s A n m xs H) {x : Int} {j : Nat} (hx : x = j) (hj : j < n) {ys : List Value} (hy : (xs.drop (j * s)).take s = ys) {K : List Value → Prop} (k : K ys) :
    ixI x n (NN A fun a => LdA H (a.add (x.toNat * s)) s K) := by
  subst hx
  obtain ⟨h1, h2⟩ := h
  refine ⟨by omega, by omega, ?_⟩
  rcases h2 with ⟨_, h3, _⟩ | ⟨b, mm, rfl, h4, _⟩
  · omega
  · have hle : j * s + s ≤ xs.length := by
      rw [h1]
      have : (j + 1) * s ≤ n * s := Nat.mul_le_mul_right s hj
      rw [Nat.succ_mul] at this; omega
    show LdA H _ s K
    unfold LdA
    rw [Int.toNat_natCast, Addr.add_lit', Nat.zero_add, cells_row h4 (j * s) s 0 (by omega), Nat.add_zero, hy]
    exact k

/-- An element's cell is written. -/
theorem Sep.wr (h : Sep L H) (i : Nat) {e : TypeId} {s : Nat} {A : Option Addr} {n m : Nat} {xs : List Value} (hi : L[i]? = some (Own e s A n m xs)) {x : Int} {j : Nat} (hx : x = j) (k : Nat) (hk : k < s) (hj : j < n) {v : Value} (hv : v.oneCell' = true) {K : Hp → Prop}
    (kk : ∀ H', Sep (L.set i (Own e s A n m (xs.set (j * s + k) v))) H' → K H') : ixI x n (NN A fun a => St H ((a.add (x.toNat * s)).add k) v K) := by
  subst hx
  refine ⟨by omega, by omega, ?_⟩
  obtain ⟨h1, h2⟩ := h.own i hi
  have hlt : j * s + k < xs.length := by
    rw [h1]
    have : (j + 1) * s ≤ n * s := Nat.mul_le_mul_right s hj
    rw [Nat.succ_mul] at this; omega
  rcases h2 with ⟨_, h3, _⟩ | ⟨b, mm, rfl, h4, h5⟩
  · omega
  · rw [Int.toNat_natCast]
    show St H _ v K
    rw [Addr.add_lit', Addr.add_lit', Nat.zero_add]
    refine St_row h4 hlt hv (kk _ (h.putIn i hi fun H1 hle hA => ?_))
    obtain ⟨g1, g2⟩ := hA
    rcases g2 with ⟨_, g3, _⟩ | ⟨b', mm', g3, g4, g5⟩
    · omega
    · cases g3
      have : mm = mm' := by
        have := hle _ _ g4
        rw [h4] at this; cases this; rfl
      subst this
      exact ⟨_, g4, by rw [List.length_set]; exact g1, .inr ⟨b, mm, rfl, Hp.set_same _ _ _, g5⟩⟩
theorem Sep.wr1 (h : Sep L H) (i : Nat) {e : TypeId} {A : Option Addr} {n m : Nat} {xs : List Value} (hi : L[i]? = some (Own e 1 A n m xs)) {x : Int} {j : Nat} (hx : x = j) (hj : j < n) {v : Value} (hv : v.oneCell' = true) {K : Hp → Prop}
    (kk : ∀ H', Sep (L.set i (Own e 1 A n m (xs.set j v))) H' → K H') : ixI x n (NN A fun a => St H ((a.add (x.toNat * 1)).add 0) v K) :=
  h.wr i hi hx 0 (by omega) hj hv (by rw [Nat.mul_one]; exact kk)

/-- An append onto a slice of one's own. -/
theorem Sep.app (h : Sep L H) (i : Nat) {P : Program} {e : TypeId} {s bs : Nat} {z : Array Value} {A : Option Addr} {n m k : Nat} {xs ys : List Value} {x : Value} (hi : L[i]? = some (Own e s A n m xs)) (hc : cellInfo P e = some (s, bs, some z)) (hz : z.size = s) (hbs : bs ≤ 1073741824) (hs : 0 < s)
    (hn : lenV x = some k) (hsrc : srcCells H s k x = some ys) (hy : ys.length = k * s) (hone : ys.all (fun y => y.oneCell') = true) (h1 : (n + k) * bs ≤ 35184372088832) (h2 : n + k ≤ 35184372088832) {K : Value → Hp → Prop}
    (kk : ∀ A' m' H', Sep (L.set i (Own e s A' (n + k) m' (xs ++ ys))) H' → K (.slice A' (n + k) m') H') : AppK P e (.slice A n m) x H K := by
  have hO := h.own i hi
  have hone' : ∀ y ∈ ys, y.oneCell' = true := fun y hy' => List.all_eq_true.1 hone y hy'
  obtain ⟨g1, g2⟩ := hO
  rcases g2 with ⟨rfl, rfl, rfl⟩ | ⟨b, mm, rfl, g4, g5⟩
  · rw [Nat.zero_add] at h1 h2
    obtain rfl : xs = [] := by cases xs <;> simp_all
    refine AppK_nil hc hz hbs hn hsrc hy hone' h1 h2 (fun h0 => ?_) (fun _ b c hbc hb => ?_)
    · have hys : ys = [] := by
        subst h0
        cases ys with
        | nil => rfl
        | cons y ys => simp at hy
      subst hys
      subst h0
      refine kk .none 0 H ?_
      have := h.turn i hi (B := Own e s .none (0 + 0) 0 ([] ++ [])) (fun H1 _ => Own.none e s H1)
      exact this
    · have : Sep (L.set i (pts b (.row ys e (c * s)))) (H.set b (.row ys e (c * s))) := by
        have h3 := (h.new hb (.row ys e (c * s)))
        have h4 : Sep ((L ++ [pts b (.row ys e (c * s))]).set i (fun _ => True)) (H.set b (.row ys e (c * s))) := Sep.turn h3 i (A := Own e s .none 0 0 []) (by rw [List.getElem?_append_left (List.getElem?_eq_some_iff.1 hi).1]; exact hi) (fun _ _ => trivial)
        have hlt := (List.getElem?_eq_some_iff.1 hi).1
        rw [List.set_append_left _ _ hlt] at h4
        have hp : (L.set i (fun _ => True) ++ [pts b (.row ys e (c * s))]).Perm (L.set i (pts b (.row ys e (c * s))) ++ [fun _ => True]) := by
          rw [List.set_eq_take_append_cons_drop, List.set_eq_take_append_cons_drop]
          simp only [hlt, if_true, List.append_assoc, List.cons_append]
          refine List.Perm.append_left _ ?_
          have a1 : ∀ (X : As) (l : List As) (Y : As), (X :: (l ++ [Y])).Perm (Y :: (l ++ [X])) := fun X l Y => by
            have b1 : (X :: (l ++ [Y])).Perm (X :: Y :: l) := List.Perm.cons X (List.perm_append_comm (l₁ := l) (l₂ := [Y]))
            have b2 : (Y :: (l ++ [X])).Perm (Y :: X :: l) := List.Perm.cons Y (List.perm_append_comm (l₁ := l) (l₂ := [X]))
            exact b1.trans ((List.Perm.swap Y X l).trans b2.symm)
          exact a1 _ _ _
        exact Sep.take (Sep.perm hp h4)
      rw [show (k : Nat) = 0 + k by omega]
      refine kk _ c _ (this.turn i (A := pts b (.row ys e (c * s))) (by rw [List.getElem?_set]; simp [(List.getElem?_eq_some_iff.1 hi).1]) (B := Own e s (some ⟨b, 0, .none⟩) (0 + k) c ([] ++ ys)) (fun H1 hH1 => ⟨by simpa using hy, .inr ⟨b, _, rfl, (by rw [List.nil_append]; exact hH1 : H1 b = some (.row ([] ++ ys) e (c * s))), Nat.le_refl _⟩⟩) |> fun q => ?_)
      rw [List.set_set] at q
      exact q
  · refine AppK_own hc hz hbs g4 g1 g5 hn hsrc hy hone' h1 h2 fun b' c m' hc1 hc2 hb' => ?_
    refine kk _ c _ ?_
    -- the old row is given up, the new one made
    have hlt := (List.getElem?_eq_some_iff.1 hi).1
    have key : ∀ (L : List As) (i : Nat) (H : Hp), Sep L H → L[i]? = some (Own e s (some ⟨b, 0, .none⟩) n m xs) → 0 < s → (H.erase b) b' = none → Sep (L.set i (Own e s (some ⟨b', 0, .none⟩) (n + k) c (xs ++ ys))) ((H.erase b).set b' (.row (xs ++ ys) e m')) := by
      intro L
      induction L with
      | nil => intro i H _ hi; simp at hi
      | cons C L ih =>
        intro i H hS hi hs hb'
        obtain ⟨H1, H2, k1, k2, k3, k4, k5⟩ := hS
        have el : ∀ {G G' : Hp}, G.le G' → (G.erase b).le (G'.erase b) := fun hle c q hq => by
          unfold Hp.erase at hq ⊢
          split at hq
          · cases hq
          · rename_i hc; rw [if_neg hc]; exact hle c q hq
        have en : ∀ {G : Hp}, G b = .none → G.erase b = G := fun hG => by
          funext q; unfold Hp.erase; split
          · rename_i e; rw [e, hG]
          · rfl
        cases i with
        | zero =>
          simp only [List.getElem?_cons_zero, Option.some.injEq] at hi
          subst hi
          have hbs : ∃ o, H1 b = some o := by
            obtain ⟨_, q⟩ := k4
            rcases q with ⟨q, _⟩ | ⟨b2, mm2, q1, q2, _⟩
            · cases q
            · cases q1; exact ⟨_, q2⟩
          obtain ⟨o, hbs⟩ := hbs
          have hn2 : H2 b = .none := (k3 b).resolve_left (by rw [hbs]; simp)
          have hle2 : H2.le (H.erase b) := by have := el k2; rw [en hn2] at this; exact this
          refine ⟨(H1.erase b).set b' (.row (xs ++ ys) e m'), H2, Hp.set_le (el k1) _ _, Hp.le_trans hle2 (Hp.le_set hb'), fun q => ?_, ⟨by rw [List.length_append, g1, hy, Nat.add_mul], .inr ⟨b', m', rfl, Hp.set_same _ _ _, hc2⟩⟩, k5⟩
          by_cases e : q = b'
          · right; rw [e]; exact Hp.le_none hle2 hb'
          · rw [Hp.set_other _ _ e]
            rcases k3 q with e2 | e2
            · exact .inl (erase_none b e2)
            · exact .inr e2
        | succ i =>
          rw [List.getElem?_cons_succ] at hi
          have hbs : ∃ o, H2 b = some o := by
            obtain ⟨G, ⟨_, q⟩, hle⟩ := k5.see i hi
            rcases q with ⟨q, _⟩ | ⟨b2, mm2, q1, q2, _⟩
            · cases q
            · cases q1; exact ⟨_, hle _ _ q2⟩
          obtain ⟨o, hbs⟩ := hbs
          have hn1 : H1 b = .none := (k3 b).resolve_right (by rw [hbs]; simp)
          have hle1 : H1.le (H.erase b) := by have := el k1; rw [en hn1] at this; exact this
          refine ⟨H1, (H2.erase b).set b' (.row (xs ++ ys) e m'), Hp.le_trans hle1 (Hp.le_set hb'), Hp.set_le (el k2) _ _, fun q => ?_, k4, ih i H2 k5 hi hs (Hp.le_none (el k2) hb')⟩
          by_cases e : q = b'
          · left; rw [e]; exact Hp.le_none hle1 hb'
          · rw [Hp.set_other _ _ e]
            rcases k3 q with e2 | e2
            · exact .inl e2
            · exact .inr (erase_none b e2)
    exact key L i H h hi hs hb'

/-- .. of one element of several cells, as the compiler puts it. -/
theorem Sep.appS (h : Sep L H) (i : Nat) {P : Program} {e e' : TypeId} {s bs : Nat} {z : Array Value} {A : Option Addr} {n m : Nat} {xs ys : List Value} (hi : L[i]? = some (Own e s A n m xs)) (hc : cellInfo P e = some (s, bs, some z)) (hz : z.size = s) (hbs : bs ≤ 1073741824) (hs : 0 < s) (hy : ys.length = s) (hv : ys.all (fun y => y.oneCell') = true) (h2 : (n + 1) * bs ≤ 35184372088832) (h3 : n + 1 ≤ 35184372088832) {K : Value → Hp → Prop}
    (kk : ∀ A' m' H', Sep (L.set i (Own e s A' (n + 1) m' (xs ++ ys))) H' → K (.slice A' (n + 1) m') H') : Nw H (.row ys e' s) fun b H' => AppK P e (.slice A n m) (.slice (some ⟨b, 0, none⟩) 1 1) H' K := by
  refine h.nw fun b H' h' => ?_
  have hlt := (List.getElem?_eq_some_iff.1 hi).1
  refine h'.app i (k := 1) (ys := ys) (by rw [List.getElem?_append_left hlt]; exact hi) hc hz hbs hs rfl ?_ (by rw [hy, Nat.one_mul]) hv h2 h3 fun A' m' H'' h'' => ?_
  · show H'.cells? ⟨b, 0, none⟩ 0 (1 * s) = some ys
    rw [Nat.one_mul, cells_row (h'.get L.length (b := b) (o := .row ys e' s) (by simp)) 0 s 0 (by omega)]
    simp [← hy]
  · rw [List.set_append_left _ _ hlt] at h''
    exact kk A' m' H'' (Sep.take h'')

/-- .. of one element, as the compiler puts it. -/
theorem Sep.app1 (h : Sep L H) (i : Nat) {P : Program} {e e' : TypeId} {bs : Nat} {v0 : Value} {A : Option Addr} {n m : Nat} {xs : List Value} {v : Value} (hi : L[i]? = some (Own e 1 A n m xs)) (hc : cellInfo P e = some (1, bs, some #[v0])) (hbs : bs ≤ 1073741824) (hv : v.oneCell' = true) (h2 : (n + 1) * bs ≤ 35184372088832) (h3 : n + 1 ≤ 35184372088832) {K : Value → Hp → Prop}
    (kk : ∀ A' m' H', Sep (L.set i (Own e 1 A' (n + 1) m' (xs ++ [v]))) H' → K (.slice A' (n + 1) m') H') : Nw H (.row [v] e' 1) fun b H' => AppK P e (.slice A n m) (.slice (some ⟨b, 0, none⟩) 1 1) H' K := by
  refine h.nw fun b H' h' => ?_
  have hlt := (List.getElem?_eq_some_iff.1 hi).1
  refine h'.app i (k := 1) (ys := [v]) (by rw [List.getElem?_append_left hlt]; exact hi) hc rfl hbs (by omega) rfl (src_of (Cells.row (h'.get L.length (b := b) (o := .row [v] e' 1) (by simp)) 0 1) rfl) rfl (by simp [hv]) h2 h3 fun A' m' H'' h'' => ?_
  rw [List.set_append_left _ _ hlt] at h''
  exact kk A' m' H'' (Sep.take h'')
end

section
variable {L : List As} {H : Hp}
theorem Sep.ldw (h : Sep L H) (i : Nat) {b n : Nat} {c : Array Value} {e : TypeId} {K : List Value → Prop} (hi : L[i]? = some (pts b (.obj (.cells c e)))) (hn : c.size = n) (k : K c.toList) : LdA H ⟨b, 0, none⟩ n K := LdA_obj (h.get i hi) hn k
theorem Sep.stw (h : Sep L H) (i : Nat) {b n : Nat} {c y : Array Value} {e : TypeId} {K : Hp → Prop} (hi : L[i]? = some (pts b (.obj (.cells c e)))) (hn : c.size = n) (hy : y.size = n) (hv : y.toList.all (fun v => v.oneCell') = true)
    (k : ∀ H', Sep (L.set i (pts b (.obj (.cells y e)))) H' → K H') : StA H ⟨b, 0, none⟩ y n K := StA_all (h.get i hi) hn hy hv (k _ (h.put i _ hi))
end

section
variable {L : List As} {H : Hp}
/-- A cell of an array. -/
theorem Sep.ldx (h : Sep L H) (i : Nat) {b n j : Nat} {c : Array Value} {e : TypeId} {v : Value} {K : Value → Prop} (hi : L[i]? = some (pts b (.obj (.cells c e)))) {x : Int} (hx : x = (j : Nat)) (hj : j < n) (hv : nthV c.toList j = some v) (k : K v) : ixI x n (Ld H ((⟨b, 0, none⟩ : Addr).add (x.toNat * 1)) K) := by
  subst hx
  refine ⟨by omega, by omega, ?_⟩
  rw [Int.toNat_natCast, Nat.mul_one, Addr.add_lit', Nat.zero_add]
  exact h.ld i hi hv k
theorem Sep.stx (h : Sep L H) (i : Nat) {b n j : Nat} {c : Array Value} {e : TypeId} {v : Value} {K : Hp → Prop} (hi : L[i]? = some (pts b (.obj (.cells c e)))) {x : Int} (hx : x = (j : Nat)) (hj : j < n) (hc : j < c.size) (hv : v.oneCell' = true)
    (k : ∀ H', Sep (L.set i (pts b (.obj (.cells (c.setIfInBounds j v) e)))) H' → K H') : ixI x n (St H (((⟨b, 0, none⟩ : Addr).add (x.toNat * 1)).add 0) v K) := by
  subst hx
  refine ⟨by omega, by omega, ?_⟩
  rw [Int.toNat_natCast, Nat.mul_one, Addr.add_lit', Nat.zero_add, Addr.add_zero]
  exact h.st i hi hc hv k
end

theorem Cells.obj {H : Hp} {b : Nat} {c : Array Value} {e : TypeId} (h : H b = some (.obj (.cells c e))) (n : Nat) : Cells H (some ⟨b, 0, none⟩) (c.toList.take n) := fun i v hi => by
  refine ⟨_, rfl, ?_⟩
  rw [Addr.add_lit', Nat.zero_add, cell_obj h]
  rw [List.getElem?_take] at hi
  split at hi
  · rw [Array.getElem?_toList] at hi; exact hi
  · cases hi

theorem puts_row {e : TypeId} {b off m : Nat} : ∀ (l : List Value) (i : Nat) (H : Hp) (xs : List Value), H b = some (.row xs e m) → off + i + l.length ≤ xs.length → (∀ v ∈ l, v.oneCell' = true) →
    H.puts? ⟨b, off, none⟩ i l = some (H.set b (.row (setAt xs (off + i) l) e m))
  | [], i, H, xs, h, hi, _ => by simp [Hp.puts?, setAt_nil, Hp.set_id h]
  | v :: l, i, H, xs, h, hi, hv => by
    unfold Hp.puts?
    simp only [List.length_cons] at hi
    rw [Addr.add_lit', put_row h (by omega) (hv v (by simp))]
    simp only
    rw [puts_row l (i + 1) _ _ (Hp.set_same _ _ _) (by simp; omega) (fun u hu => hv u (by simp [hu])), Hp.set_set]
    congr 3
    apply List.ext_getElem?
    intro j
    rw [setAt_get (by simp; omega), setAt_get (by simp; omega), List.getElem?_set]
    simp only [List.length_cons]
    by_cases h1 : j < off + i
    · rw [if_pos (by omega), if_neg (by omega), if_pos h1]
    · rw [if_neg h1]
      by_cases h2 : j = off + i
      · subst h2; rw [if_pos (by omega), if_pos rfl, if_pos (by omega), if_pos (by omega)]; simp
      · rw [if_neg (by omega)]
        by_cases h3 : j < off + (i + 1) + l.length
        · rw [if_pos h3, if_pos (by omega), show j - (off + i) = (j - (off + (i + 1))) + 1 by omega, List.getElem?_cons_succ]
        · rw [if_neg h3, if_neg (by omega), if_neg (by omega)]

/-- A copy into a row of one's own. -/
theorem Sep.cp {L : List As} {H : Hp} (h : Sep L H) (i : Nat) {P : Program} {e e' : TypeId} {bs : Nat} {z : Array Value} {b off n c m k : Nat} {xs ys : List Value} {x : Value} (hi : L[i]? = some (pts b (.row xs e' m))) (hc : cellInfo P e = some (1, bs, some z))
    (hn : lenV x = some k) (hsrc : srcCells H 1 (Nat.min k n) x = some ys) (ho : off + ys.length ≤ xs.length) (hone : ∀ y ∈ ys, y.oneCell' = true) {K : Value → Hp → Prop}
    (kk : ∀ H', Sep (L.set i (pts b (.row (setAt xs off ys) e' m))) H' → K (.int .i64 (Nat.min k n : Nat)) H') : CpK P e (.slice (some ⟨b, off, none⟩) n c) x H K := by
  obtain ⟨j, zz, h3, h4, rfl, h5, rfl⟩ := cellInfo_out hc
  unfold CpK
  simp only [h3]
  rw [h4]
  exact ⟨k, ys, _, hn, hsrc, by simpa using puts_row ys 0 H xs (h.get i hi) (by omega) hone, kk _ (by simpa using h.put i _ hi)⟩

theorem slB_from {n m l : Nat} {x : Int} {K : Nat → Nat → Prop} (hx : x = l) (hl : l ≤ n) (k : K l n) : slB n m (some x) none K := by
  subst hx
  refine ⟨by omega, by omega, ?_⟩
  rw [Int.toNat_natCast]; exact k
theorem slB_to {n m r : Nat} {x : Int} {K : Nat → Nat → Prop} (hx : x = r) (hr : r ≤ m) (k : K 0 r) : slB n m none (some x) K := by
  subst hx
  refine ⟨by omega, by omega, ?_⟩
  rw [Int.toNat_natCast]; exact k
theorem slB_all {n m : Nat} {K : Nat → Nat → Prop} (k : K 0 n) : slB n m none none K := k
theorem slA_zero (b off m : Nat) : slA (some ⟨b, off, none⟩) m 0 1 = some ⟨b, off, none⟩ := by
  unfold slA; split
  · rfl
  · rfl
theorem slA_at {b off m l : Nat} (h : l < m) : slA (some ⟨b, off, none⟩) m l 1 = some ⟨b, off + l, none⟩ := by
  unfold slA; rw [if_neg (by omega)]
  show some ((⟨b, off, none⟩ : Addr).add (l * 1)) = _
  rw [Nat.mul_one, Addr.add_lit']

theorem setAt_append {xs us bs : List Value} {off : Nat} (h : off + us.length + bs.length ≤ xs.length) : setAt (setAt xs off us) (off + us.length) bs = setAt xs off (us ++ bs) := by
  apply List.ext_getElem?
  intro i
  have hl : (setAt xs off us).length = xs.length := setAt_length (by omega)
  rw [setAt_get (by omega), setAt_get (by omega), setAt_get (by rw [List.length_append]; omega), List.length_append]
  by_cases h1 : i < off
  · rw [if_pos (by omega), if_pos h1, if_pos h1]
  · rw [if_neg h1, if_neg h1]
    by_cases h2 : i < off + us.length
    · rw [if_pos h2, if_pos h2, if_pos (by omega), List.getElem?_append_left (by omega)]
    · rw [if_neg h2]
      by_cases h3 : i < off + us.length + bs.length
      · rw [if_pos h3, if_pos (by omega), List.getElem?_append_right (by omega)]
        congr 1; omega
      · rw [if_neg h3, if_neg h2, if_neg (by omega)]

/-! ## Elements of several cells that came in -/

def CellsS (s : Nat) (H : Hp) (A : Option Addr) (rows : List (List Value)) : Prop := ∀ i r, rows[i]? = some r → ∃ a, A = some a ∧ ∀ j v, r[j]? = some v → H.cell? (a.add (i * s + j)) = some v

theorem CellsS.le {s : Nat} {H H' : Hp} {A : Option Addr} {rows : List (List Value)} (h : CellsS s H A rows) (k : H.le H') : CellsS s H' A rows := fun i r hi => by
  obtain ⟨a, ha, hc⟩ := h i r hi
  exact ⟨a, ha, fun j v hj => k.cell (hc j v hj)⟩

theorem add_add (a : Addr) (i j : Nat) : (a.add i).add j = a.add (i + j) := by
  unfold Addr.add
  by_cases h1 : i = 0 <;> by_cases h2 : j = 0 <;> simp_all [Nat.add_assoc]

theorem CellsS.rd {s : Nat} {H : Hp} {A : Option Addr} {rows : List (List Value)} (h : CellsS s H A rows) {i : Nat} {r : List Value} (hi : rows[i]? = some r) {x : Int} (hx : x = i) {n : Nat} (hn : rows.length ≤ n) {j : Nat} {v : Value} (hj : r[j]? = some v) {K : Value → Prop} (k : K v) :
    ixI x n (NN A fun a => Ld H ((a.add (x.toNat * s)).add j) K) := by
  obtain ⟨a, rfl, hc⟩ := h i r hi
  subst hx
  have := (List.getElem?_eq_some_iff.1 hi).1
  refine ⟨by omega, by omega, ?_⟩
  rw [Int.toNat_natCast]
  refine Ld_of ?_ k
  rw [add_add]; exact hc j v hj
theorem CellsS.rd0 {s : Nat} {H : Hp} {A : Option Addr} {rows : List (List Value)} (h : CellsS s H A rows) {i : Nat} {r : List Value} (hi : rows[i]? = some r) {x : Int} (hx : x = i) {n : Nat} (hn : rows.length ≤ n) {v : Value} (hj : r[0]? = some v) {K : Value → Prop} (k : K v) :
    ixI x n (NN A fun a => Ld H (a.add (x.toNat * s)) K) := h.rd hi hx hn (j := 0) hj k

end Go.Hw

end
section
/-! HwQ -/
/- The frame of the proofs: structs that came in, opened. -/
set_option maxRecDepth 100000
set_option linter.unusedSimpArgs false
set_option linter.unusedVariables false
set_option linter.unnecessarySimpa false
set_option linter.unusedSectionVars false
namespace Go.Hw
open Go Go.RowKit Go.ChangeShapes Go.WideShapes Go.ChangeAt

/-- Elements that are told. -/
theorem rows_st {s : Nat} {H : Hp} {A : Option Addr} {n : Nat} {α : Type} {g : α → List Value} {q : α → Prop} {rows : List (List Value)} (hl : rows.length = n)
    (h : ∀ (i : Nat) (r : List Value), rows[i]? = some r → ∃ a, A = some a ∧ (∀ j v, r[j]? = some v → H.cell? (a.add (i * s + j)) = some v) ∧ ∃ x, r = g x ∧ q x) : ∃ l : List α, l.length = n ∧ CellsS s H A (l.map g) ∧ ∀ x ∈ l, q x := by
  have hx : ∀ i : Fin rows.length, ∃ x, rows[i] = g x ∧ q x := fun i => by
    obtain ⟨_, _, _, x, hx, hq⟩ := h i rows[i] (by simp)
    exact ⟨x, hx, hq⟩
  let f : Fin rows.length → α := fun i => Classical.choose (hx i)
  have hf : ∀ i : Fin rows.length, rows[i] = g (f i) ∧ q (f i) := fun i => Classical.choose_spec (hx i)
  refine ⟨List.ofFn f, by simp [hl], fun i r hr => ?_, fun x hx => ?_⟩
  · rw [List.getElem?_map] at hr
    obtain ⟨y, hy, rfl⟩ := Option.map_eq_some_iff.1 hr
    have hi : i < rows.length := by
      have := (List.getElem?_eq_some_iff.1 hy).1
      simpa using this
    have hy' : y = f ⟨i, hi⟩ := by
      rw [List.getElem?_ofFn] at hy
      simp only [hi, dif_pos, Option.some.injEq] at hy
      exact hy.symm
    subst hy'
    obtain ⟨a, ha, hc, _⟩ := h i rows[i] (by simp)
    refine ⟨a, ha, fun j v hj => hc j v ?_⟩
    rw [show rows[i] = g (f ⟨i, hi⟩) from (hf ⟨i, hi⟩).1]; exact hj
  · obtain ⟨i, rfl⟩ := List.mem_ofFn.1 hx
    exact (hf i).2

section
variable {H : Type} {enc : TypeId × Value → H} {P : Program} {W : World} {t e : TypeId} {cs : List Value} {d : DataW H} {ps : List MemPlace} {fuel : Nat}

theorem trod_st {fs : Array Field} (hu : P.underlying t = some (.struct fs)) (h : DataW.trod enc P W 0 (fun _ => true) true fuel t cs = some (d, ps)) :
    cs.length = P.cellsOf t ∧ ∃ f, ∀ (i : Nat) (fd : Field), fs[i]? = some fd → ∃ d' p', DataW.trod enc P W 0 (fun _ => true) true f fd.type ((cs.drop fd.offset).take (P.cellsOf fd.type)) = some (d', p') := by
  obtain ⟨xs, n, _, _, hl, hlen, hf⟩ := DataW.trod_struct hu h
  refine ⟨hl, n, fun i fd hi => ?_⟩
  have h1 := hf i fd hi
  have hlt : i < xs.length := by rw [hlen]; exact (Array.getElem?_eq_some_iff.1 hi).1
  rw [List.getElem?_eq_getElem hlt] at h1
  exact ⟨xs[i].1, xs[i].2, h1⟩

theorem take1 {cs : List Value} {o : Nat} {v : Value} (h : (cs.drop o).take 1 = [v]) : cs[o]? = some v := by
  have : ((cs.drop o).take 1)[0]? = some v := by rw [h]; rfl
  rw [List.getElem?_take, if_pos (by omega), List.getElem?_drop, Nat.add_zero] at this
  exact this

theorem trod_fint {o : Nat} {k : IntKind} (he : P.underlying e = some (.int k)) (h1 : P.cellsOf e = 1) (h : ∃ d' p', DataW.trod enc P W 0 (fun _ => true) true fuel e ((cs.drop o).take (P.cellsOf e)) = some (d', p')) : ∃ x, cs[o]? = some (.int k x) ∧ (Lit.int k x).wf = true := by
  obtain ⟨d', p', h⟩ := h
  rw [h1] at h
  obtain ⟨x, hx, _, hw⟩ := DataW.trod_int he h
  exact ⟨x, take1 hx, hw⟩
theorem trod_fbool {o : Nat} (he : P.underlying e = some .bool) (h1 : P.cellsOf e = 1) (h : ∃ d' p', DataW.trod enc P W 0 (fun _ => true) true fuel e ((cs.drop o).take (P.cellsOf e)) = some (d', p')) : ∃ x, cs[o]? = some (.bool x) := by
  obtain ⟨d', p', h⟩ := h
  rw [h1] at h
  obtain ⟨x, hx, _⟩ := DataW.trod_bool he h
  exact ⟨x, take1 hx⟩
theorem trod_fsl {o : Nat} {e' : TypeId} (he : P.underlying e = some (.slice e')) (h1 : P.cellsOf e = 1) (h : ∃ d' p', DataW.trod enc P W 0 (fun _ => true) true fuel e ((cs.drop o).take (P.cellsOf e)) = some (d', p')) :
    ∃ A n c d' p', cs[o]? = some (.slice A n c) ∧ DataW.trod enc P W 0 (fun _ => true) true fuel e [.slice A n c] = some (d', p') := by
  obtain ⟨d', p', h⟩ := h
  rw [h1] at h
  obtain ⟨A, n, c, hx, _⟩ := trod_sl he h
  rw [hx] at h
  exact ⟨A, n, c, d', p', take1 hx, h⟩
end

def EqAll (cs : List Value) : Nat → List Value → Prop
  | _, [] => True
  | i, v :: l => cs[i]? = some v ∧ EqAll cs (i + 1) l
theorem EqAll.out {cs l : List Value} (h : EqAll cs 0 l) (hl : cs.length = l.length) : cs = l := by
  have key : ∀ (l : List Value) (i : Nat), EqAll cs i l → ∀ j, j < l.length → cs[i + j]? = l[j]? := by
    intro l
    induction l with
    | nil => intro i _ j hj; simp at hj
    | cons v l ih =>
      intro i ⟨h1, h2⟩ j hj
      cases j with
      | zero => simpa using h1
      | succ j =>
        rw [show i + (j + 1) = i + 1 + j by omega, ih (i + 1) h2 j (by simpa using hj)]
        simp
  apply List.ext_getElem?
  intro j
  by_cases hj : j < l.length
  · simpa using key l 0 h j hj
  · rw [List.getElem?_eq_none (by omega), List.getElem?_eq_none (by omega)]

section
variable {H : Type} {enc : TypeId × Value → H} {P : Program} {W : World} {t e : TypeId} {v : Value} {d : DataW H} {ps : List MemPlace} {r : Reach} {base : Nat}
/-- A struct that came in. -/
theorem open_st {fs : Array Field} (hu : P.underlying t = some (.struct fs)) (hval : Value.okWide P W r base t v) (h : DataW.Trod enc P W 0 (fun _ => true) true t v d ps) :
    ∃ cs : List Value, v = .agg cs.toArray ∧ cs.length = P.cellsOf t ∧ ∃ f, ∀ (i : Nat) (fd : Field), fs[i]? = some fd → ∃ d' p', DataW.trod enc P W 0 (fun _ => true) true f fd.type ((cs.drop fd.offset).take (P.cellsOf fd.type)) = some (d', p') := by
  obtain ⟨cs, rfl, _⟩ := okWide_struct hu hval
  obtain ⟨fuel, h⟩ := h
  refine ⟨cs.toList, by rw [Array.toArray_toList], ?_⟩
  exact trod_st hu h
theorem sub_get {cs : List Value} {o n i : Nat} {v : Value} (h : ((cs.drop o).take n)[i]? = some v) : cs[o + i]? = some v := by
  rw [List.getElem?_take] at h
  split at h
  · rw [List.getElem?_drop] at h; exact h
  · cases h
end

theorem list2 {r : List Value} {a b : Value} (hl : r.length = 2) (h0 : r[0]? = some a) (h1 : r[1]? = some b) : r = [a, b] := by
  match r, hl with
  | [x, y], _ => simp at h0 h1; rw [h0, h1]
theorem list3 {r : List Value} {a b c : Value} (hl : r.length = 3) (h0 : r[0]? = some a) (h1 : r[1]? = some b) (h2 : r[2]? = some c) : r = [a, b, c] := by
  match r, hl with
  | [x, y, z], _ => simp at h0 h1 h2; rw [h0, h1, h2]
theorem list4 {r : List Value} {a b c d : Value} (hl : r.length = 4) (h0 : r[0]? = some a) (h1 : r[1]? = some b) (h2 : r[2]? = some c) (h3 : r[3]? = some d) : r = [a, b, c, d] := by
  match r, hl with
  | [x, y, z, w], _ => simp at h0 h1 h2 h3; rw [h0, h1, h2, h3]

end Go.Hw

end
section
/-! HwG -/
/- The frame of the proofs: package variables that are laid: what their cells hold. -/
set_option maxRecDepth 100000
set_option linter.unusedSimpArgs false
set_option linter.unusedVariables false
set_option linter.unnecessarySimpa false
set_option linter.unusedSectionVars false
namespace Go.Hw
open Go Go.RowKit

/-- A datum's cells. -/
def flatF : Nat → DataW Unit → List Value
  | 0, _ => []
  | _ + 1, .lit (.int k n) => [.int k n]
  | _ + 1, .lit (.string bs) => [.string ⟨bs.toArray⟩]
  | _ + 1, .lit (.bool b) => [.bool b]
  | f + 1, .agg ds => (ds.map (flatF f)).flatten
  | _ + 1, _ => []

def conts (P : Program) : List Field → Nat → Option Nat
  | [], o => some o
  | f :: l, o => if f.offset = o then conts P l (o + P.cellsOf f.type) else none

/-- A type whose data are cells side by side. -/
def flatOK (P : Program) : Nat → TypeId → Bool
  | 0, _ => false
  | f + 1, t =>
    match P.underlying t with
    | some (.int _) => true
    | some .string => true
    | some .bool => true
    | some (.array n e) => flatOK P f e && (P.cellsOf t == n * P.cellsOf e)
    | some (.struct fs) => fs.toList.all (fun x => flatOK P f x.type) && (conts P fs.toList 0 == some (P.cellsOf t))
    | _ => false

theorem chunks {α : Type} (k : Nat) : ∀ (n : Nat) (cs : List α) (ys : List (List α)), cs.length = n * k → ys.length = n → (∀ i, (h : i < ys.length) → (cs.drop (i * k)).take k = ys[i]) → cs = ys.flatten
  | 0, cs, ys, hl, hy, _ => by
    rw [Nat.zero_mul] at hl
    rw [List.length_eq_zero_iff.1 hl, List.length_eq_zero_iff.1 hy]; rfl
  | n + 1, cs, [], _, hy, _ => by simp at hy
  | n + 1, cs, y :: ys, hl, hy, h => by
    have h0 := h 0 (by simp)
    rw [Nat.zero_mul, List.drop_zero, List.getElem_cons_zero] at h0
    have ih := chunks k n (cs.drop k) ys (by rw [List.length_drop, hl, Nat.succ_mul]; omega) (by simpa using hy) fun i hi => by
      have := h (i + 1) (by simpa using hi)
      rw [List.getElem_cons_succ] at this
      rw [List.drop_drop, ← this, Nat.succ_mul, Nat.add_comm]
    rw [List.flatten_cons, ← ih, ← h0, List.take_append_drop]

theorem conts_flat {P : Program} : ∀ (l : List Field) (ys : List (List Value)) (o e : Nat) (cs : List Value), conts P l o = some e → cs.length = e → ys.length = l.length →
    (∀ (i : Nat) (f : Field), l[i]? = some f → ∃ y, ys[i]? = some y ∧ (cs.drop f.offset).take (P.cellsOf f.type) = y) → cs.drop o = ys.flatten
  | [], ys, o, e, cs, h, hl, hy, _ => by
    unfold conts at h
    cases h
    rw [List.drop_eq_nil_of_le (by omega), List.length_eq_zero_iff.1 hy]; rfl
  | f :: l, [], o, e, cs, h, hl, hy, _ => by simp at hy
  | f :: l, y :: ys, o, e, cs, h, hl, hy, hh => by
    unfold conts at h
    split at h
    · rename_i ho
      obtain ⟨y', e1, e2⟩ := hh 0 f (by simp)
      simp only [List.getElem?_cons_zero, Option.some.injEq] at e1
      subst e1
      have ih := conts_flat l ys _ e cs h hl (by simpa using hy) fun i f' hf => by
        have := hh (i + 1) f' (by simpa using hf)
        simpa using this
      rw [List.flatten_cons, ← ih, ← e2, ho, ← List.drop_drop, List.take_append_drop]
    · cases h

theorem flat_of_trod {enc : TypeId × Value → Unit} {P : Program} {w : World} {base : Nat} {sp : Nat → Bool} {held : Bool} : ∀ (f : Nat) {fuel : Nat} {t : TypeId} {cs : List Value} {d : DataW Unit} {p : List MemPlace},
    flatOK P f t = true → DataW.trod enc P w base sp held fuel t cs = some (d, p) → cs = flatF f d
  | 0, _, _, _, _, _, h, _ => by cases h
  | f + 1, fuel, t, cs, d, p, h, ht => by
    unfold flatOK at h
    split at h
    · rename_i k hu
      obtain ⟨n, rfl, e, _⟩ := DataW.trod_int hu ht
      cases e; rfl
    · rename_i hu
      obtain ⟨s, rfl, e, _⟩ := DataW.trod_string hu ht
      cases e; simp [flatF]
    · rename_i hu
      obtain ⟨b, rfl, e⟩ := DataW.trod_bool hu ht
      cases e; rfl
    · rename_i n e hu
      simp only [Bool.and_eq_true, beq_iff_eq] at h
      obtain ⟨xs, m, _, ex, hl, hn, hel⟩ := DataW.trod_array hu ht
      cases ex
      show cs = (((xs.map (·.1))).map (flatF f)).flatten
      refine chunks (P.cellsOf e) n cs _ (by rw [hl, h.2]) (by simpa using hn) fun i hi => ?_
      have hi' : i < xs.length := by simpa using hi
      have h1 := hel i (by omega)
      rw [List.getElem?_eq_getElem hi'] at h1
      have := flat_of_trod f (d := xs[i].1) (p := xs[i].2) h.1 h1
      rw [this]
      simp
    · rename_i fs hu
      simp only [Bool.and_eq_true, beq_iff_eq] at h
      obtain ⟨xs, m, _, ex, hl, hn, hel⟩ := DataW.trod_struct hu ht
      cases ex
      show cs = (((xs.map (·.1))).map (flatF f)).flatten
      have := conts_flat fs.toList (((xs.map (·.1))).map (flatF f)) 0 _ cs h.2 hl (by simpa using hn) fun i fd hi => by
        have hi2 : fs[i]? = some fd := by simpa using hi
        have h1 := hel i fd hi2
        have hi' : i < xs.length := by
          rw [hn]; exact (Array.getElem?_eq_some_iff.1 hi2).1
        rw [List.getElem?_eq_getElem hi'] at h1
        have hall := List.all_eq_true.1 h.1 fd (List.mem_of_getElem? hi)
        exact ⟨flatF f xs[i].1, by simp [hi'], flat_of_trod f (d := xs[i].1) (p := xs[i].2) hall h1⟩
      rw [List.drop_zero] at this
      exact this
    · cases h

/-- What a laid variable's cells hold. -/
theorem laid_at {P : Program} {W : World} {name : String} {d : DataW Unit} {g : Nat} {t : TypeId} (hg : P.globalNamed name = some g) (hty : (P.globals[g]?).map (·.type) = some t) (ho : flatOK P 9 t = true) :
    ∀ {l : List (String × DataW Unit)} (i : Nat), laidMet P l W → l[i]? = some (name, d) → Cells (Full W) (some ⟨g, 0, none⟩) (flatF 9 d)
  | [], i, _, h => by simp at h
  | x :: l, 0, hL, h => by
    simp only [List.getElem?_cons_zero, Option.some.injEq] at h
    subst h
    obtain ⟨ps, ⟨g', t', cs, fuel, p, q, hg', ht', hvar, hd, _, _⟩, _⟩ := hL
    obtain rfl := Option.some.inj (hg.symm.trans hg')
    obtain rfl := Option.some.inj (hty.symm.trans ht')
    have e := flat_of_trod 9 ho hd
    intro j v hj
    refine ⟨_, rfl, ?_⟩
    rw [← e] at hj
    have := World.var?_cell hg hvar j
    rw [Addr.add_lit', Nat.zero_add]
    refine Full.cell ?_
    rw [this]
    simpa using hj
  | x :: l, i + 1, hL, h => laid_at hg hty ho i hL.tail (by simpa using h)

/-- A block is cut out of what was known ahead. -/
theorem cutOwn {L : List As} {H H0 : Hp} (h : Sep (own H0 :: L) H) {g : Nat} {o : AO} (hg : H0 g = some o) : Sep (pts g o :: own (H0.erase g) :: L) H := by
  obtain ⟨H1, H2, h1, h2, h3, h4, h5⟩ := h
  have h4 : H0.le H1 := h4
  have hg1 := h4 g o hg
  refine ⟨fun c => if c = g then some o else none, (fun c => if c = g then H2 c else H c), fun c q hq => ?_, fun c q hq => ?_, fun c => ?_, by simp [pts], ?_⟩
  · simp only at hq
    split at hq
    · rename_i e; subst e; cases hq; exact h1 _ _ hg1
    · cases hq
  · simp only at hq
    split at hq
    · exact h2 _ _ hq
    · exact hq
  · by_cases e : c = g
    · right; simp only [e, if_true]; exact (h3 g).resolve_left (by rw [hg1]; simp)
    · left; simp [e]
  · refine ⟨fun c => if c = g then none else H1 c, H2, fun c q hq => ?_, fun c q hq => ?_, fun c => ?_, fun c q hq => ?_, h5⟩
    · simp only at hq
      split at hq
      · cases hq
      · rename_i e; simp only [e, if_false]; exact h1 _ _ hq
    · show (if c = g then H2 c else H c) = some q
      split
      · exact hq
      · exact h2 _ _ hq
    · rcases h3 c with e | e
      · left; simp only; split <;> first | rfl | exact e
      · exact .inr e
    · unfold Hp.erase at hq
      split at hq
      · cases hq
      · rename_i e; simp only [e, if_false]; exact h4 _ _ hq

theorem own_back {H H0 : Hp} {g : Nat} {o : AO} (hg : H0 g = some o) (h1 : H g = some o) (h2 : (H0.erase g).le H) : H0.le H := fun c q hq => by
  by_cases e : c = g
  · subst e; rw [hg] at hq; cases hq; exact h1
  · exact h2 c q (by unfold Hp.erase; rw [if_neg e]; exact hq)

/-- A table: a block whose first cells are told. -/
theorem Cells.block {H : Hp} {g : Nat} {v : Value} {vs : List Value} (h : Cells H (some ⟨g, 0, none⟩) (v :: vs)) : ∃ o, H g = some o := by
  obtain ⟨a, ha, hc⟩ := h 0 v rfl
  cases ha
  unfold Hp.cell? at hc
  rw [Addr.add_lit'] at hc
  cases e : H g with
  | none => simp only [e] at hc; cases hc
  | some o => exact ⟨o, rfl⟩

def Tab (g : Nat) (vs : List Value) : As := fun H => Cells H (some ⟨g, 0, none⟩) vs
theorem Tab.up {g : Nat} {vs : List Value} {H H' : Hp} (h : Tab g vs H) (k : H.le H') : Tab g vs H' := Cells.le h k

theorem Tab.of_pts {g : Nat} {o : AO} {vs : List Value} {H0 : Hp} (hg : H0 g = some o) (h : Cells H0 (some ⟨g, 0, none⟩) vs) {H : Hp} (hp : H g = some o) : Tab g vs H := fun i v hi => by
  obtain ⟨a, ha, hc⟩ := h i v hi
  cases ha
  refine ⟨_, rfl, ?_⟩
  rw [Addr.add_lit'] at hc ⊢
  unfold Hp.cell? at hc ⊢
  simp only [hg] at hc
  simp only [hp]
  exact hc

/-- A part that is only read. -/
theorem Sep.tab {L : List As} {H : Hp} (h : Sep L H) (i : Nat) {g : Nat} {vs : List Value} (hi : L[i]? = some (Tab g vs)) : Cells H (some ⟨g, 0, none⟩) vs := by
  obtain ⟨H1, h1, h2⟩ := h.see i hi
  exact Cells.le h1 h2

section
variable {L : List As} {H : Hp}
/-- A field is read, is written. -/
theorem Sep.ldf (h : Sep L H) (i : Nat) {b j : Nat} {c : Array Value} {e : TypeId} {v : Value} {K : Value → Prop} (hi : L[i]? = some (pts b (.obj (.cells c e)))) (hv : nthV c.toList j = some v) (k : K v) : Ld H ((⟨b, 0, none⟩ : Addr).add j) K := by
  rw [Addr.add_lit', Nat.zero_add]; exact h.ld i hi hv k
theorem Sep.ldg (h : Sep L H) (i : Nat) {b j k : Nat} {c : Array Value} {e : TypeId} {v : Value} {K : Value → Prop} (hi : L[i]? = some (pts b (.obj (.cells c e)))) (hv : nthV c.toList (j + k) = some v) (kk : K v) : Ld H (((⟨b, 0, none⟩ : Addr).add j).add k) K := by
  rw [Addr.add_lit', Addr.add_lit', Nat.zero_add]; exact h.ld i hi hv kk
theorem Sep.stf (h : Sep L H) (i : Nat) {b j : Nat} {c : Array Value} {e : TypeId} {v : Value} {K : Hp → Prop} (hi : L[i]? = some (pts b (.obj (.cells c e)))) (hj : j < c.size) (hv : v.oneCell' = true)
    (k : ∀ H', Sep (L.set i (pts b (.obj (.cells (c.setIfInBounds j v) e)))) H' → K H') : St H (((⟨b, 0, none⟩ : Addr).add j).add 0) v K := by
  rw [Addr.add_lit', Addr.add_lit', Nat.zero_add, Nat.add_zero]; exact h.st i hi hj hv k
end

end Go.Hw

end
section
/-! Wrecord -/
/- Formulas of functions, printed by wip/tools/hwp.py. -/
set_option maxRecDepth 100000
set_option linter.unusedVariables false
namespace Go.Proofs.YtlgpappgnndgiaaGreatDoor.W
open Go Go.Hw

theorem mixWrecord : Tryz.prog.follows .mixedOrders = true := by kernel_rfl
-- record.Take
def W_record_Take (A1 : Option Addr) (n1 : Nat) (m1 : Nat) (H : Hp) (K : Value → Hp → Prop) : Prop :=
  Nw H (.obj (.cells #[.int .u64 (0 : Int), .int .i64 (0 : Int), .int .i64 (0 : Int), .int .i64 (0 : Int), .int .i64 (0 : Int), .int .u32 (0 : Int), .int .u32 (0 : Int), .int .u32 (0 : Int)] 91)) fun b1 H1 => HCalls Tryz.prog 120 #[.int .i64 ((n1 : Nat) : Int)] H1 fun v1 H2 => DB v1 fun c1 => BIf (!c1) (StA H2 (⟨b1, 0, none⟩ : Addr) #[.int .u64 (0 : Int), .int .i64 (0 : Int), .int .i64 (0 : Int), .int .i64 (0 : Int), .int .i64 (0 : Int), .int .u32 (0 : Int), .int .u32 (0 : Int), .int .u32 (0 : Int)] 8 fun H3 => LdA H3 (⟨b1, 0, none⟩ : Addr) 8 fun l6 => K (.tuple #[.agg l6.toArray, .int .i64 (15 : Int)]) H3) (HCalls Tryz.prog 121 #[.slice A1 n1 m1] H2 fun v2 H4 => DTup v2 fun l1 => DCons l1 fun v3 l2 => DSl v3 fun A2 n2 m2 => DCons l2 fun v4 l3 => DB v4 fun c2 => DNil l3 (HCalls Tryz.prog 122 #[.slice A2 n2 m2] H4 fun v5 H5 => DA v5 fun y1 => Nw H5 (.obj (.cells #[.int .u64 (0 : Int), .int .i64 (0 : Int), .int .i64 (0 : Int), .int .i64 (0 : Int), .int .i64 (0 : Int), .int .u32 (0 : Int), .int .u32 (0 : Int), .int .u32 (0 : Int)] 91)) fun b2 H6 => StA H6 (⟨b2, 0, none⟩ : Addr) y1 8 fun H7 => ixI (0 : Int) n2 (NN A2 fun a1 => Ld H7 (a1.add ((0 : Int).toNat * 1)) fun v6 => DI .u64 v6 fun x1 => (0 ≤ (48 : Int) ∧ BIf ((shrI .u64 x1 (48 : Int)) != (21061 : Int)) (StA H7 (⟨b1, 0, none⟩ : Addr) #[.int .u64 (0 : Int), .int .i64 (0 : Int), .int .i64 (0 : Int), .int .i64 (0 : Int), .int .i64 (0 : Int), .int .u32 (0 : Int), .int .u32 (0 : Int), .int .u32 (0 : Int)] 8 fun H8 => LdA H8 (⟨b1, 0, none⟩ : Addr) 8 fun l7 => K (.tuple #[.agg l7.toArray, .int .i64 (10 : Int)]) H8) (BIf (!c2) (StA H7 (⟨b1, 0, none⟩ : Addr) #[.int .u64 (0 : Int), .int .i64 (0 : Int), .int .i64 (0 : Int), .int .i64 (0 : Int), .int .i64 (0 : Int), .int .u32 (0 : Int), .int .u32 (0 : Int), .int .u32 (0 : Int)] 8 fun H9 => LdA H9 (⟨b1, 0, none⟩ : Addr) 8 fun l8 => K (.tuple #[.agg l8.toArray, .int .i64 (10 : Int)]) H9) (ixI (3 : Int) n2 (NN A2 fun a2 => Ld H7 (a2.add ((3 : Int).toNat * 1)) fun v7 => DI .u64 v7 fun x2 => slB n2 m2 none (some (3 : Int)) fun n3 n4 => QCall Tryz.prog 123 #[.slice (slA A2 m2 n3 1) (n4 - n3) (m2 - n3)] H7 fun v8 => DI .u64 v8 fun x3 => BIf (x2 != x3) (StA H7 (⟨b1, 0, none⟩ : Addr) #[.int .u64 (0 : Int), .int .i64 (0 : Int), .int .i64 (0 : Int), .int .i64 (0 : Int), .int .i64 (0 : Int), .int .u32 (0 : Int), .int .u32 (0 : Int), .int .u32 (0 : Int)] 8 fun H10 => LdA H10 (⟨b1, 0, none⟩ : Addr) 8 fun l9 => K (.tuple #[.agg l9.toArray, .int .i64 (9 : Int)]) H10) (LdA H7 (⟨b2, 0, none⟩ : Addr) 8 fun l4 => HCalls Tryz.prog 124 #[.agg l4.toArray] H7 fun v9 H11 => DB v9 fun c3 => BIf (!c3) (StA H11 (⟨b1, 0, none⟩ : Addr) #[.int .u64 (0 : Int), .int .i64 (0 : Int), .int .i64 (0 : Int), .int .i64 (0 : Int), .int .i64 (0 : Int), .int .u32 (0 : Int), .int .u32 (0 : Int), .int .u32 (0 : Int)] 8 fun H12 => LdA H12 (⟨b1, 0, none⟩ : Addr) 8 fun l10 => K (.tuple #[.agg l10.toArray, .int .i64 (1 : Int)]) H12) (LdA H11 (⟨b2, 0, none⟩ : Addr) 8 fun l5 => StA H11 (⟨b1, 0, none⟩ : Addr) l5.toArray 8 fun H13 => LdA H13 (⟨b1, 0, none⟩ : Addr) 8 fun l11 => K (.tuple #[.agg l11.toArray, .int .i64 (0 : Int)]) H13)))))))))
def W_record_Take.Λ (_ : Value → Hp → Prop) : Cuts := Cuts.none (fun _ => none)
theorem W_record_Take.ok (A1 : Option Addr) (n1 : Nat) (m1 : Nat) (H : Hp) (K : Value → Hp → Prop) (h : W_record_Take A1 n1 m1 H K) : HCalls Tryz.prog 72 #[.slice A1 n1 m1] H K :=
  hcalls Tryz.func72 rfl (Nat.le_of_ble_eq_true rfl) (hw_safe (Λ := Cuts.none (fun _ => none)) mixWrecord _ _ _ _ _ (Eq.mp (by kernel_rfl) h) (obs_none _ _ _ _ _))

-- record.Put
def W_record_Put (y1 : Array Value) (x1 : Int) (H : Hp) (K : Value → Hp → Prop) : Prop :=
  Nw H (.obj (.cells y1 91)) fun b1 H1 => LdA H1 (⟨b1, 0, none⟩ : Addr) 8 fun l1 => HCalls Tryz.prog 124 #[.agg l1.toArray] H1 fun v1 H2 => DB v1 fun c1 => BIf (!c1) (K (.tuple #[.slice none 0 0, .int .i64 (1 : Int)]) H2) (HCalls Tryz.prog 120 #[.int .i64 x1] H2 fun v2 H3 => DB v2 fun c2 => BIf (!c2) (K (.tuple #[.slice none 0 0, .int .i64 (1 : Int)]) H3) (LdA H3 (⟨b1, 0, none⟩ : Addr) 8 fun l2 => HCalls Tryz.prog 128 #[.agg l2.toArray] H3 fun v3 H4 => DSl v3 fun A1 n1 m1 => MkS Tryz.prog 5 x1 x1 H4 fun v4 H5 => DSl v4 fun A2 n2 m2 => HCalls Tryz.prog 123 #[.slice A1 n1 m1] H5 fun v5 H6 => DI .u64 v5 fun x2 => Nw H6 (.row [.int .u64 x2] 60 1) fun b2 H7 => AppK Tryz.prog 60 (.slice A1 n1 m1) (.slice (some ⟨b2, 0, none⟩) 1 1) H7 fun v6 H8 => DSl v6 fun A3 n3 m3 => HCalls Tryz.prog 129 #[.slice A3 n3 m3] H8 fun v7 H9 => DSl v7 fun A4 n4 m4 => CpK Tryz.prog 5 (.slice A2 n2 m2) (.slice A4 n4 m4) H9 fun v8 H10 => DI .i64 v8 fun x3 => K (.tuple #[.slice A2 n2 m2, .int .i64 (0 : Int)]) H10))
def W_record_Put.Λ (_ : Value → Hp → Prop) : Cuts := Cuts.none (fun _ => none)
theorem W_record_Put.ok (y1 : Array Value) (x1 : Int) (H : Hp) (K : Value → Hp → Prop) (h : W_record_Put y1 x1 H K) : HCalls Tryz.prog 77 #[.agg y1, .int .i64 x1] H K :=
  hcalls Tryz.func77 rfl (Nat.le_of_ble_eq_true rfl) (hw_safe (Λ := Cuts.none (fun _ => none)) mixWrecord _ _ _ _ _ (Eq.mp (by kernel_rfl) h) (obs_none _ _ _ _ _))

-- record.After
def W_record_After (y1 : Array Value) (y2 : Array Value) (H : Hp) (K : Value → Hp → Prop) : Prop :=
  Nw H (.obj (.cells y1 91)) fun b1 H1 => Nw H1 (.obj (.cells y2 91)) fun b2 H2 => LdA H2 (⟨b1, 0, none⟩ : Addr) 8 fun l1 => HCalls Tryz.prog 124 #[.agg l1.toArray] H2 fun v1 H3 => DB v1 fun c1 => BIf (!c1) (K (.bool false) H3) (LdA H3 (⟨b2, 0, none⟩ : Addr) 8 fun l2 => HCalls Tryz.prog 124 #[.agg l2.toArray] H3 fun v2 H4 => DB v2 fun c2 => BIf (!c2) (K (.bool false) H4) (Ld H4 ((⟨b2, 0, none⟩ : Addr).add 0) fun v3 => DI .u64 v3 fun x1 => Ld H4 ((⟨b1, 0, none⟩ : Addr).add 0) fun v4 => DI .u64 v4 fun x2 => BIf (x1 != (IntKind.u64.wrap (x2 + (1 : Int)))) (K (.bool false) H4) (Ld H4 ((⟨b2, 0, none⟩ : Addr).add 1) fun v5 => DI .i64 v5 fun x3 => BIf (x3 == (1 : Int)) (K (.bool true) H4) (BIf (x3 == (2 : Int)) (Ld H4 ((⟨b1, 0, none⟩ : Addr).add 1) fun v6 => DI .i64 v6 fun x4 => BIf (x4 == (1 : Int)) (Ld H4 ((⟨b1, 0, none⟩ : Addr).add 5) fun v7 => DI .u32 v7 fun x5 => Ld H4 ((⟨b2, 0, none⟩ : Addr).add 5) fun v8 => DI .u32 v8 fun x6 => BIf (x5 == x6) (Ld H4 ((⟨b1, 0, none⟩ : Addr).add 2) fun v9 => DI .i64 v9 fun x7 => Ld H4 ((⟨b2, 0, none⟩ : Addr).add 2) fun v10 => DI .i64 v10 fun x8 => K (.bool (x7 == x8)) H4) (K (.bool false) H4)) (K (.bool false) H4)) (BIf (x3 == (3 : Int)) (Ld H4 ((⟨b1, 0, none⟩ : Addr).add 1) fun v11 => DI .i64 v11 fun x9 => BIf (x9 != (1 : Int)) (LdA H4 (⟨b1, 0, none⟩ : Addr) 8 fun l3 => LdA H4 (⟨b2, 0, none⟩ : Addr) 8 fun l4 => HCalls Tryz.prog 130 #[.agg l3.toArray, .agg l4.toArray] H4 fun v12 H5 => DB v12 fun c3 => BIf c3 (Ld H5 ((⟨b2, 0, none⟩ : Addr).add 7) fun v13 => DI .u32 v13 fun x10 => K (.bool (x10 == (0 : Int))) H5) (K (.bool false) H5)) (K (.bool false) H4)) (Ld H4 ((⟨b1, 0, none⟩ : Addr).add 1) fun v14 => DI .i64 v14 fun x11 => BIf (decide (x11 ≥ (3 : Int))) (LdA H4 (⟨b1, 0, none⟩ : Addr) 8 fun l5 => LdA H4 (⟨b2, 0, none⟩ : Addr) 8 fun l6 => HCalls Tryz.prog 130 #[.agg l5.toArray, .agg l6.toArray] H4 fun v15 H6 => DB v15 fun c4 => BIf c4 (Ld H6 ((⟨b1, 0, none⟩ : Addr).add 3) fun v16 => DI .i64 v16 fun x12 => Ld H6 ((⟨b2, 0, none⟩ : Addr).add 3) fun v17 => DI .i64 v17 fun x13 => BIf (x12 == x13) (Ld H6 ((⟨b2, 0, none⟩ : Addr).add 4) fun v18 => DI .i64 v18 fun x14 => Ld H6 ((⟨b1, 0, none⟩ : Addr).add 4) fun v19 => DI .i64 v19 fun x15 => K (.bool (x14 == (IntKind.i64.wrap (x15 + (1 : Int))))) H6) (K (.bool false) H6)) (K (.bool false) H6)) (K (.bool false) H4)))))))
def W_record_After.Λ (_ : Value → Hp → Prop) : Cuts := Cuts.none (fun _ => none)
theorem W_record_After.ok (y1 : Array Value) (y2 : Array Value) (H : Hp) (K : Value → Hp → Prop) (h : W_record_After y1 y2 H K) : HCalls Tryz.prog 79 #[.agg y1, .agg y2] H K :=
  hcalls Tryz.func79 rfl (Nat.le_of_ble_eq_true rfl) (hw_safe (Λ := Cuts.none (fun _ => none)) mixWrecord _ _ _ _ _ (Eq.mp (by kernel_rfl) h) (obs_none _ _ _ _ _))

-- record.sector
def W_record_sector (x1 : Int) (H : Hp) (K : Value → Hp → Prop) : Prop :=
  HCalls Tryz.prog 50 #[.int .i64 (0 : Int), .int .i64 x1] H fun v1 H1 => DTup v1 fun l1 => DCons l1 fun v2 l2 => DI .i64 v2 fun x2 => DCons l2 fun v3 l3 => DI .i64 v3 fun x3 => DNil l3 (K (.bool (x3 == (0 : Int))) H1)
def W_record_sector.Λ (_ : Value → Hp → Prop) : Cuts := Cuts.none (fun _ => none)
theorem W_record_sector.ok (x1 : Int) (H : Hp) (K : Value → Hp → Prop) (h : W_record_sector x1 H K) : HCalls Tryz.prog 120 #[.int .i64 x1] H K :=
  hcalls Tryz.func120 rfl (Nat.le_of_ble_eq_true rfl) (hw_safe (Λ := Cuts.none (fun _ => none)) mixWrecord _ _ _ _ _ (Eq.mp (by kernel_rfl) h) (obs_none _ _ _ _ _))

-- record.all
def W_record_all.l2 (K : Value → Hp → Prop) : Nat → Option Addr → Nat → Nat → Option Addr → Nat → Nat → Int → Hp → Prop
  | 0, _, _, _, _, _, _, _, _ => False
  | k + 1, A2, n2, m2, A3, n3, m3, x1, H =>
    let R2 := W_record_all.l2 K k
    BIf (decide (x1 < (4 : Int))) (HCalls Tryz.prog 144 #[.slice A2 n2 m2, .int .i64 x1] H fun v1 H1 => DTup v1 fun l1 => DCons l1 fun v2 l2 => DI .u64 v2 fun x2 => DCons l2 fun v3 l3 => DI .i64 v3 fun x3 => DNil l3 (Nw H1 (.row [.int .u64 x2] 60 1) fun b1 H2 => AppK Tryz.prog 60 (.slice A3 n3 m3) (.slice (some ⟨b1, 0, none⟩) 1 1) H2 fun v4 H3 => DSl v4 fun A4 n4 m4 => R2 A2 n2 m2 A4 n4 m4 (IntKind.i64.wrap (x1 + (1 : Int))) H3)) (slB n2 m2 (some (32 : Int)) none fun n5 n6 => BsK H (slA A2 m2 n5 1) (n6 - n5) fun s1 => HCalls Tryz.prog 160 #[.string s1, .string (⟨#[0]⟩)] H fun v5 H4 => DS v5 fun s2 => K (.tuple #[.slice A3 n3 m3, .bool (s2.toList == ((⟨#[]⟩) : ByteArray).toList)]) H4)
def W_record_all (A1 : Option Addr) (n1 : Nat) (m1 : Nat) (H : Hp) (K : Value → Hp → Prop) : Prop :=
  (∃ k, W_record_all.l2 K k A1 n1 m1 none 0 0 (0 : Int) H)
def W_record_all.l2.L (K : Value → Hp → Prop) (k : Nat) : Mid := fun E D H =>
  DG (E.get? 0) fun w0 => DSl w0 fun A2 n2 m2 => DG (E.get? 2) fun w2 => DSl w2 fun A3 n3 m3 => DG (E.get? 7) fun w7 => DI .i64 w7 fun x1 => DNilD D (W_record_all.l2 K k A2 n2 m2 A3 n3 m3 x1 H)
def W_record_all.Λ2 (_ : Value → Hp → Prop) (_R2 : Option Addr → Nat → Nat → Option Addr → Nat → Nat → Int → Hp → Prop) : Cuts := Cuts.none (fun _ => none)
def W_record_all.Λ (K : Value → Hp → Prop) : Cuts := ⟨fun i => none, fun i => match Nat.beq i 2 with | true => some (fun E D H => ∃ k, W_record_all.l2.L K k E D H) | false => none, (fun _ => none)⟩
theorem W_record_all.ok (A1 : Option Addr) (n1 : Nat) (m1 : Nat) (H : Hp) (K : Value → Hp → Prop) (h : W_record_all A1 n1 m1 H K) : HCalls Tryz.prog 121 #[.slice A1 n1 m1] H K :=
  hcalls Tryz.func121 rfl (Nat.le_of_ble_eq_true rfl) (hw_safe (Λ := (W_record_all.Λ K)) mixWrecord _ _ _ _ _ (Eq.mp (by kernel_rfl) h) (obs_seq obs_region rfl (obs_seq (obs_seq obs_region rfl (obs_block (obs_loop rfl (fun E D H h => by
      refine Safe.loop' (W_record_all.l2.L K) (fun E D H h => ?_) (fun k E D H h => ?_) E D H h
      · obtain ⟨w0, e0, g1⟩ := DG.out h; obtain ⟨A2, n2, m2, rfl, g2⟩ := DSl.out g1; obtain ⟨w2, e2, g3⟩ := DG.out g2; obtain ⟨A3, n3, m3, rfl, g4⟩ := DSl.out g3; obtain ⟨w7, e7, g5⟩ := DG.out g4; obtain ⟨x1, rfl, g6⟩ := DI.out g5; obtain ⟨rfl, h'⟩ := DNilD.out g6; exact h'
      · obtain ⟨w0, e0, g1⟩ := DG.out h
        obtain ⟨A2, n2, m2, rfl, g2⟩ := DSl.out g1
        obtain ⟨w2, e2, g3⟩ := DG.out g2
        obtain ⟨A3, n3, m3, rfl, g4⟩ := DSl.out g3
        obtain ⟨w7, e7, g5⟩ := DG.out g4
        obtain ⟨x1, rfl, g6⟩ := DI.out g5
        obtain ⟨rfl, h'⟩ := DNilD.out g6
        exact (hw_safe (Λ := (W_record_all.Λ2 K (W_record_all.l2 K k))) mixWrecord _ _ [(0, .slice A2 n2 m2), (2, .slice A3 n3 m3), (7, .int .i64 x1)] [] H (Eq.mp (by kernel_rfl) h') (obs_seq obs_region rfl (obs_seq (obs_cond obs_skip obs_exit) rfl (obs_seq (obs_block (obs_seq obs_region rfl (obs_seq obs_region rfl obs_region))) rfl obs_region)))).weaken (EnvLe.cons e0 (EnvLe.cons e2 (EnvLe.cons e7 (EnvLe.nil _)))) (Hp.le_refl _))))) rfl (obs_seq obs_region rfl obs_ret))))

-- record.of
def W_record_of (A1 : Option Addr) (n1 : Nat) (m1 : Nat) (H : Hp) (K : Value → Hp → Prop) : Prop :=
  Nw H (.obj (.cells #[.int .u64 (0 : Int), .int .i64 (0 : Int), .int .i64 (0 : Int), .int .i64 (0 : Int), .int .i64 (0 : Int), .int .u32 (0 : Int), .int .u32 (0 : Int), .int .u32 (0 : Int)] 91)) fun b1 H1 => ixI (0 : Int) n1 (NN A1 fun a1 => Ld H1 (a1.add ((0 : Int).toNat * 1)) fun v1 => DI .u64 v1 fun x1 => ixI (1 : Int) n1 (NN A1 fun a2 => Ld H1 (a2.add ((1 : Int).toNat * 1)) fun v2 => DI .u64 v2 fun x2 => ixI (1 : Int) n1 (NN A1 fun a3 => Ld H1 (a3.add ((1 : Int).toNat * 1)) fun v3 => DI .u64 v3 fun x3 => (0 ≤ (8 : Int) ∧ ixI (1 : Int) n1 (NN A1 fun a4 => Ld H1 (a4.add ((1 : Int).toNat * 1)) fun v4 => DI .u64 v4 fun x4 => (0 ≤ (16 : Int) ∧ ixI (1 : Int) n1 (NN A1 fun a5 => Ld H1 (a5.add ((1 : Int).toNat * 1)) fun v5 => DI .u64 v5 fun x5 => (0 ≤ (24 : Int) ∧ ixI (1 : Int) n1 (NN A1 fun a6 => Ld H1 (a6.add ((1 : Int).toNat * 1)) fun v6 => DI .u64 v6 fun x6 => (0 ≤ (32 : Int) ∧ ixI (2 : Int) n1 (NN A1 fun a7 => Ld H1 (a7.add ((2 : Int).toNat * 1)) fun v7 => DI .u64 v7 fun x7 => (0 ≤ (32 : Int) ∧ ixI (2 : Int) n1 (NN A1 fun a8 => Ld H1 (a8.add ((2 : Int).toNat * 1)) fun v8 => DI .u64 v8 fun x8 => StA H1 (⟨b1, 0, none⟩ : Addr) #[.int .u64 (bAnd .u64 x1 (281474976710655 : Int)), .int .i64 (IntKind.i64.wrap (bAnd .u64 x2 (255 : Int))), .int .i64 (IntKind.i64.wrap (bAnd .u64 (shrI .u64 x4 (16 : Int)) (255 : Int))), .int .i64 (IntKind.i64.wrap (bAnd .u64 (shrI .u64 x3 (8 : Int)) (255 : Int))), .int .i64 (IntKind.i64.wrap (bAnd .u64 (shrI .u64 x5 (24 : Int)) (255 : Int))), .int .u32 (IntKind.u32.wrap (shrI .u64 x6 (32 : Int))), .int .u32 (IntKind.u32.wrap (shrI .u64 x7 (32 : Int))), .int .u32 (IntKind.u32.wrap x8)] 8 fun H2 => LdA H2 (⟨b1, 0, none⟩ : Addr) 8 fun l1 => K (.agg l1.toArray) H2)))))))))))))
def W_record_of.Λ (_ : Value → Hp → Prop) : Cuts := Cuts.none (fun i => match Nat.beq i 1 with | true => some ([], [0, 1, 2, 3, 4, 5, 6, 7, 8, 9, 10, 11, 12, 13, 14, 15, 16, 17, 18, 19, 20, 21, 22, 23, 24, 25, 26, 27, 28, 29, 30, 31, 32, 33, 34, 35, 36, 37, 38, 39, 40, 41], 42) | false => none)
theorem W_record_of.ok (A1 : Option Addr) (n1 : Nat) (m1 : Nat) (H : Hp) (K : Value → Hp → Prop) (h : W_record_of A1 n1 m1 H K) : HCalls Tryz.prog 122 #[.slice A1 n1 m1] H K :=
  hcalls Tryz.func122 rfl (Nat.le_of_ble_eq_true rfl) (hw_safe (Λ := Cuts.none (fun i => match Nat.beq i 1 with | true => some ([], [0, 1, 2, 3, 4, 5, 6, 7, 8, 9, 10, 11, 12, 13, 14, 15, 16, 17, 18, 19, 20, 21, 22, 23, 24, 25, 26, 27, 28, 29, 30, 31, 32, 33, 34, 35, 36, 37, 38, 39, 40, 41], 42) | false => none)) mixWrecord _ _ _ _ _ (Eq.mp (by kernel_rfl) h) (obs_none _ _ _ _ _))

-- record.seal
def W_record_seal (A1 : Option Addr) (n1 : Nat) (m1 : Nat) (H : Hp) (K : Value → Hp → Prop) : Prop :=
  HCalls Tryz.prog 161 #[.slice A1 n1 m1] H fun v1 H1 => DI .u32 v1 fun x1 => Nw H1 (.row [.int .u64 (IntKind.u64.wrap (bXor .u32 IntKind.u32.max x1)), .int .u64 (32 : Int), .int .u64 (IntKind.u64.wrap x1), .int .u64 (0 : Int)] 264 4) fun b1 H2 => HCalls Tryz.prog 162 #[.slice (some ⟨b1, 0, none⟩) 2 2] H2 fun v2 H3 => DI .u64 v2 fun x2 => K (.int .u64 x2) H3
def W_record_seal.Λ (_ : Value → Hp → Prop) : Cuts := Cuts.none (fun _ => none)
theorem W_record_seal.ok (A1 : Option Addr) (n1 : Nat) (m1 : Nat) (H : Hp) (K : Value → Hp → Prop) (h : W_record_seal A1 n1 m1 H K) : HCalls Tryz.prog 123 #[.slice A1 n1 m1] H K :=
  hcalls Tryz.func123 rfl (Nat.le_of_ble_eq_true rfl) (hw_safe (Λ := Cuts.none (fun _ => none)) mixWrecord _ _ _ _ _ (Eq.mp (by kernel_rfl) h) (obs_none _ _ _ _ _))

-- record.Good
def W_record_Good.j10 (K : Value → Hp → Prop) (a1 : Addr) (H : Hp) : Prop :=
  Ld H (a1.add 4) fun v9 => DI .i64 v9 fun x8 => BIf (x8 == (0 : Int)) (Ld H (a1.add 3) fun v10 => DI .i64 v10 fun x9 => BIf (x9 == (0 : Int)) (Ld H (a1.add 7) fun v11 => DI .u32 v11 fun x10 => K (.bool (x10 == (0 : Int))) H) (K (.bool false) H)) (K (.bool false) H)
def W_record_Good (y1 : Array Value) (H : Hp) (K : Value → Hp → Prop) : Prop :=
  Nw H (.obj (.cells y1 91)) fun b1 H1 => Ld H1 ((⟨b1, 0, none⟩ : Addr).add 0) fun v1 => DI .u64 v1 fun x1 => BIf (decide (x1 < (1 : Int))) (K (.bool false) H1) (Ld H1 ((⟨b1, 0, none⟩ : Addr).add 0) fun v2 => DI .u64 v2 fun x2 => BIf (decide (x2 ≥ (281474976710656 : Int))) (K (.bool false) H1) (Ld H1 ((⟨b1, 0, none⟩ : Addr).add 2) fun v3 => DI .i64 v3 fun x3 => BIf (decide (x3 < (0 : Int))) (K (.bool false) H1) (Ld H1 ((⟨b1, 0, none⟩ : Addr).add 2) fun v4 => DI .i64 v4 fun x4 => BIf (decide (x4 > (32 : Int))) (K (.bool false) H1) (Ld H1 ((⟨b1, 0, none⟩ : Addr).add 3) fun v5 => DI .i64 v5 fun x5 => HCalls Tryz.prog 163 #[.int .i64 x5] H1 fun v6 H2 => DB v6 fun c1 => BIf (!c1) (K (.bool false) H2) (Ld H2 ((⟨b1, 0, none⟩ : Addr).add 1) fun v7 => DI .i64 v7 fun x6 => BIf (x6 == (1 : Int)) (Ld H2 ((⟨b1, 0, none⟩ : Addr).add 6) fun v8 => DI .u32 v8 fun x7 => BIf (x7 != (0 : Int)) (K (.bool false) H2) (W_record_Good.j10 K (⟨b1, 0, none⟩ : Addr) H2)) (BIf (x6 == (2 : Int)) (W_record_Good.j10 K (⟨b1, 0, none⟩ : Addr) H2) (BIf (x6 == (3 : Int)) (Ld H2 ((⟨b1, 0, none⟩ : Addr).add 4) fun v12 => DI .i64 v12 fun x11 => K (.bool (x11 == (0 : Int))) H2) (BIf (x6 == (4 : Int)) (Ld H2 ((⟨b1, 0, none⟩ : Addr).add 4) fun v13 => DI .i64 v13 fun x12 => BIf (decide (x12 ≥ (1 : Int))) (Ld H2 ((⟨b1, 0, none⟩ : Addr).add 4) fun v14 => DI .i64 v14 fun x13 => K (.bool (decide (x13 ≤ (7 : Int)))) H2) (K (.bool false) H2)) (K (.bool false) H2)))))))))
def W_record_Good.Λ (K : Value → Hp → Prop) : Cuts := ⟨fun i => match Nat.beq i 10 with | true => some (fun E D H => DG (E.get? 1) fun w1 => DP w1 fun pw1 => NN pw1 fun a1 => DNilD D (W_record_Good.j10 K a1 H)) | false => none, fun i => none, (fun _ => none)⟩
theorem W_record_Good.ok (y1 : Array Value) (H : Hp) (K : Value → Hp → Prop) (h : W_record_Good y1 H K) : HCalls Tryz.prog 124 #[.agg y1] H K :=
  hcalls Tryz.func124 rfl (Nat.le_of_ble_eq_true rfl) (hw_safe (Λ := (W_record_Good.Λ K)) mixWrecord _ _ _ _ _ (Eq.mp (by kernel_rfl) h) (obs_seq obs_region rfl (obs_seq (obs_seq obs_region rfl (obs_cond (obs_seq obs_region rfl obs_ret) obs_skip)) rfl (obs_seq (obs_seq obs_region rfl (obs_block (obs_seq (obs_block (obs_seq (obs_block (obs_seqc (obs_block (obs_seq (obs_block (obs_seq (obs_seq (obs_seq obs_region rfl (obs_cond obs_exit obs_skip)) rfl (obs_seq (obs_seq obs_region rfl (obs_cond obs_exit obs_skip)) rfl (obs_seq (obs_seq obs_region rfl (obs_cond obs_exit obs_skip)) rfl (obs_seq obs_region rfl (obs_cond obs_exit obs_skip))))) rfl obs_exit)) rfl (obs_seq obs_region rfl (obs_cond (obs_seq obs_region rfl obs_ret) obs_skip)))) rfl (fun E D H h => by
      obtain ⟨w1, e1, g1⟩ := DG.out h
      obtain ⟨pw1, rfl, g2⟩ := DP.out g1
      obtain ⟨a1, rfl, g3⟩ := NN.out g2
      obtain ⟨rfl, h'⟩ := DNilD.out g3
      exact (hw_safe (Λ := (W_record_Good.Λ K)) mixWrecord _ _ [(1, .pointer (some a1))] [] H (Eq.mp (by kernel_rfl) h') (obs_seq (obs_seq obs_region rfl obs_ret) rfl obs_exit)).weaken (EnvLe.cons e1 (EnvLe.nil _)) (Hp.le_refl _)))) rfl (obs_seq (obs_seq obs_region rfl obs_ret) rfl obs_exit))) rfl (obs_seq (obs_seq obs_region rfl obs_ret) rfl obs_exit)))) rfl (obs_seq obs_region rfl obs_ret)))))

-- record.three
def W_record_three (y1 : Array Value) (H : Hp) (K : Value → Hp → Prop) : Prop :=
  Nw H (.obj (.cells y1 91)) fun b1 H1 => Ld H1 ((⟨b1, 0, none⟩ : Addr).add 0) fun v1 => DI .u64 v1 fun x1 => Ld H1 ((⟨b1, 0, none⟩ : Addr).add 5) fun v2 => DI .u32 v2 fun x2 => Ld H1 ((⟨b1, 0, none⟩ : Addr).add 4) fun v3 => DI .i64 v3 fun x3 => Ld H1 ((⟨b1, 0, none⟩ : Addr).add 2) fun v4 => DI .i64 v4 fun x4 => Ld H1 ((⟨b1, 0, none⟩ : Addr).add 3) fun v5 => DI .i64 v5 fun x5 => Ld H1 ((⟨b1, 0, none⟩ : Addr).add 1) fun v6 => DI .i64 v6 fun x6 => Ld H1 ((⟨b1, 0, none⟩ : Addr).add 6) fun v7 => DI .u32 v7 fun x7 => Ld H1 ((⟨b1, 0, none⟩ : Addr).add 7) fun v8 => DI .u32 v8 fun x8 => (Nw H1 (.row [.int .u64 (21061 : Int), .int .u64 (48 : Int), .int .u64 x1, .int .u64 (0 : Int)] 264 4) fun b2 H2 => QCall Tryz.prog 162 #[.slice (some ⟨b2, 0, none⟩) 2 2] H2 fun v9 => DI .u64 v9 fun x9 => (Nw H2 (.row [.int .u64 (IntKind.u64.wrap x2), .int .u64 (32 : Int), .int .u64 (IntKind.u64.wrap x3), .int .u64 (24 : Int), .int .u64 (IntKind.u64.wrap x4), .int .u64 (16 : Int), .int .u64 (IntKind.u64.wrap x5), .int .u64 (8 : Int), .int .u64 (IntKind.u64.wrap x6), .int .u64 (0 : Int)] 264 10) fun b3 H3 => QCall Tryz.prog 162 #[.slice (some ⟨b3, 0, none⟩) 5 5] H3 fun v10 => DI .u64 v10 fun x10 => Nw H3 (.row [.int .u64 (IntKind.u64.wrap x7), .int .u64 (32 : Int), .int .u64 (IntKind.u64.wrap x8), .int .u64 (0 : Int)] 264 4) fun b4 H4 => QCall Tryz.prog 162 #[.slice (some ⟨b4, 0, none⟩) 2 2] H4 fun v11 => DI .u64 v11 fun x11 => Nw H4 (.row [.int .u64 x9, .int .u64 x10, .int .u64 x11] 60 3) fun b5 H5 => K (.slice (some ⟨b5, 0, none⟩) 3 3) H5) ∧ (Nw H2 (.row [.int .u64 (IntKind.u64.wrap x7), .int .u64 (32 : Int), .int .u64 (IntKind.u64.wrap x8), .int .u64 (0 : Int)] 264 4) fun b6 H6 => Nw H6 (.row [.int .u64 (IntKind.u64.wrap x2), .int .u64 (32 : Int), .int .u64 (IntKind.u64.wrap x3), .int .u64 (24 : Int), .int .u64 (IntKind.u64.wrap x4), .int .u64 (16 : Int), .int .u64 (IntKind.u64.wrap x5), .int .u64 (8 : Int), .int .u64 (IntKind.u64.wrap x6), .int .u64 (0 : Int)] 264 10) fun b7 H7 => QCall Tryz.prog 162 #[.slice (some ⟨b7, 0, none⟩) 5 5] H7 fun v12 => DI .u64 v12 fun x12 => QCall Tryz.prog 162 #[.slice (some ⟨b6, 0, none⟩) 2 2] H7 fun v13 => DI .u64 v13 fun x13 => Nw H7 (.row [.int .u64 x9, .int .u64 x12, .int .u64 x13] 60 3) fun b8 H8 => K (.slice (some ⟨b8, 0, none⟩) 3 3) H8)) ∧ (Nw H1 (.row [.int .u64 (IntKind.u64.wrap x2), .int .u64 (32 : Int), .int .u64 (IntKind.u64.wrap x3), .int .u64 (24 : Int), .int .u64 (IntKind.u64.wrap x4), .int .u64 (16 : Int), .int .u64 (IntKind.u64.wrap x5), .int .u64 (8 : Int), .int .u64 (IntKind.u64.wrap x6), .int .u64 (0 : Int)] 264 10) fun b9 H9 => (Nw H9 (.row [.int .u64 (21061 : Int), .int .u64 (48 : Int), .int .u64 x1, .int .u64 (0 : Int)] 264 4) fun b10 H10 => QCall Tryz.prog 162 #[.slice (some ⟨b10, 0, none⟩) 2 2] H10 fun v14 => DI .u64 v14 fun x14 => QCall Tryz.prog 162 #[.slice (some ⟨b9, 0, none⟩) 5 5] H10 fun v15 => DI .u64 v15 fun x15 => Nw H10 (.row [.int .u64 (IntKind.u64.wrap x7), .int .u64 (32 : Int), .int .u64 (IntKind.u64.wrap x8), .int .u64 (0 : Int)] 264 4) fun b11 H11 => QCall Tryz.prog 162 #[.slice (some ⟨b11, 0, none⟩) 2 2] H11 fun v16 => DI .u64 v16 fun x16 => Nw H11 (.row [.int .u64 x14, .int .u64 x15, .int .u64 x16] 60 3) fun b12 H12 => K (.slice (some ⟨b12, 0, none⟩) 3 3) H12) ∧ (Nw H9 (.row [.int .u64 (IntKind.u64.wrap x7), .int .u64 (32 : Int), .int .u64 (IntKind.u64.wrap x8), .int .u64 (0 : Int)] 264 4) fun b13 H13 => Nw H13 (.row [.int .u64 (21061 : Int), .int .u64 (48 : Int), .int .u64 x1, .int .u64 (0 : Int)] 264 4) fun b14 H14 => QCall Tryz.prog 162 #[.slice (some ⟨b14, 0, none⟩) 2 2] H14 fun v17 => DI .u64 v17 fun x17 => QCall Tryz.prog 162 #[.slice (some ⟨b9, 0, none⟩) 5 5] H14 fun v18 => DI .u64 v18 fun x18 => QCall Tryz.prog 162 #[.slice (some ⟨b13, 0, none⟩) 2 2] H14 fun v19 => DI .u64 v19 fun x19 => Nw H14 (.row [.int .u64 x17, .int .u64 x18, .int .u64 x19] 60 3) fun b15 H15 => K (.slice (some ⟨b15, 0, none⟩) 3 3) H15)) ∧ (Nw H1 (.row [.int .u64 (IntKind.u64.wrap x7), .int .u64 (32 : Int), .int .u64 (IntKind.u64.wrap x8), .int .u64 (0 : Int)] 264 4) fun b16 H16 => (Nw H16 (.row [.int .u64 (21061 : Int), .int .u64 (48 : Int), .int .u64 x1, .int .u64 (0 : Int)] 264 4) fun b17 H17 => QCall Tryz.prog 162 #[.slice (some ⟨b17, 0, none⟩) 2 2] H17 fun v20 => DI .u64 v20 fun x20 => Nw H17 (.row [.int .u64 (IntKind.u64.wrap x2), .int .u64 (32 : Int), .int .u64 (IntKind.u64.wrap x3), .int .u64 (24 : Int), .int .u64 (IntKind.u64.wrap x4), .int .u64 (16 : Int), .int .u64 (IntKind.u64.wrap x5), .int .u64 (8 : Int), .int .u64 (IntKind.u64.wrap x6), .int .u64 (0 : Int)] 264 10) fun b18 H18 => QCall Tryz.prog 162 #[.slice (some ⟨b18, 0, none⟩) 5 5] H18 fun v21 => DI .u64 v21 fun x21 => QCall Tryz.prog 162 #[.slice (some ⟨b16, 0, none⟩) 2 2] H18 fun v22 => DI .u64 v22 fun x22 => Nw H18 (.row [.int .u64 x20, .int .u64 x21, .int .u64 x22] 60 3) fun b19 H19 => K (.slice (some ⟨b19, 0, none⟩) 3 3) H19) ∧ (Nw H16 (.row [.int .u64 (IntKind.u64.wrap x2), .int .u64 (32 : Int), .int .u64 (IntKind.u64.wrap x3), .int .u64 (24 : Int), .int .u64 (IntKind.u64.wrap x4), .int .u64 (16 : Int), .int .u64 (IntKind.u64.wrap x5), .int .u64 (8 : Int), .int .u64 (IntKind.u64.wrap x6), .int .u64 (0 : Int)] 264 10) fun b20 H20 => Nw H20 (.row [.int .u64 (21061 : Int), .int .u64 (48 : Int), .int .u64 x1, .int .u64 (0 : Int)] 264 4) fun b21 H21 => QCall Tryz.prog 162 #[.slice (some ⟨b21, 0, none⟩) 2 2] H21 fun v23 => DI .u64 v23 fun x23 => QCall Tryz.prog 162 #[.slice (some ⟨b20, 0, none⟩) 5 5] H21 fun v24 => DI .u64 v24 fun x24 => QCall Tryz.prog 162 #[.slice (some ⟨b16, 0, none⟩) 2 2] H21 fun v25 => DI .u64 v25 fun x25 => Nw H21 (.row [.int .u64 x23, .int .u64 x24, .int .u64 x25] 60 3) fun b22 H22 => K (.slice (some ⟨b22, 0, none⟩) 3 3) H22))
def W_record_three.Λ (_ : Value → Hp → Prop) : Cuts := Cuts.none (fun i => match Nat.beq i 1 with | true => some ([2, 5, 7, 8, 11, 12, 15, 16, 19, 20, 23, 24, 27, 29, 30, 33, 34, 37], [0, 0, 2, 6, 15, 31, 0, 64, 192, 448, 0, 1024, 3072, 7168, 0, 16384, 49152, 114688, 0, 262144, 786432, 1835008, 0, 4194304, 12582912, 29360128, 67108800, 134217727, 0, 268435456, 805306368, 1879048192, 0, 4294967296, 12884901888, 30064771072, 68451041280, 137438953471, 274877906943, 549755813887], 0) | false => none)
theorem W_record_three.ok (y1 : Array Value) (H : Hp) (K : Value → Hp → Prop) (h : W_record_three y1 H K) : HCalls Tryz.prog 128 #[.agg y1] H K :=
  hcalls Tryz.func128 rfl (Nat.le_of_ble_eq_true rfl) (hw_safe (Λ := Cuts.none (fun i => match Nat.beq i 1 with | true => some ([2, 5, 7, 8, 11, 12, 15, 16, 19, 20, 23, 24, 27, 29, 30, 33, 34, 37], [0, 0, 2, 6, 15, 31, 0, 64, 192, 448, 0, 1024, 3072, 7168, 0, 16384, 49152, 114688, 0, 262144, 786432, 1835008, 0, 4194304, 12582912, 29360128, 67108800, 134217727, 0, 268435456, 805306368, 1879048192, 0, 4294967296, 12884901888, 30064771072, 68451041280, 137438953471, 274877906943, 549755813887], 0) | false => none)) mixWrecord _ _ _ _ _ (Eq.mp (by kernel_rfl) h) (obs_none _ _ _ _ _))

-- record.same
def W_record_same (y1 : Array Value) (y2 : Array Value) (H : Hp) (K : Value → Hp → Prop) : Prop :=
  Nw H (.obj (.cells y1 91)) fun b1 H1 => Nw H1 (.obj (.cells y2 91)) fun b2 H2 => Ld H2 ((⟨b1, 0, none⟩ : Addr).add 5) fun v1 => DI .u32 v1 fun x1 => Ld H2 ((⟨b2, 0, none⟩ : Addr).add 5) fun v2 => DI .u32 v2 fun x2 => BIf (x1 == x2) (Ld H2 ((⟨b1, 0, none⟩ : Addr).add 2) fun v3 => DI .i64 v3 fun x3 => Ld H2 ((⟨b2, 0, none⟩ : Addr).add 2) fun v4 => DI .i64 v4 fun x4 => BIf (x3 == x4) (Ld H2 ((⟨b1, 0, none⟩ : Addr).add 6) fun v5 => DI .u32 v5 fun x5 => Ld H2 ((⟨b2, 0, none⟩ : Addr).add 6) fun v6 => DI .u32 v6 fun x6 => K (.bool (x5 == x6)) H2) (K (.bool false) H2)) (K (.bool false) H2)
def W_record_same.Λ (_ : Value → Hp → Prop) : Cuts := Cuts.none (fun _ => none)
theorem W_record_same.ok (y1 : Array Value) (y2 : Array Value) (H : Hp) (K : Value → Hp → Prop) (h : W_record_same y1 y2 H K) : HCalls Tryz.prog 130 #[.agg y1, .agg y2] H K :=
  hcalls Tryz.func130 rfl (Nat.le_of_ble_eq_true rfl) (hw_safe (Λ := Cuts.none (fun _ => none)) mixWrecord _ _ _ _ _ (Eq.mp (by kernel_rfl) h) (obs_none _ _ _ _ _))

-- record.join
def W_record_join.l3 (K : Value → Hp → Prop) : Nat → Int → Option Addr → Nat → Nat → Int → Int → Hp → Prop
  | 0, _, _, _, _, _, _, _ => False
  | k + 1, x1, A2, n2, m2, x2, x3, H =>
    let R3 := W_record_join.l3 K k
    BIf (decide (x3 < x2)) (ixI x3 n2 (NN A2 fun a1 => LdA H (a1.add (x3.toNat * 2)) 2 fun l1 => Nw H (.obj (.cells #[.int .u64 (0 : Int), .int .u64 (0 : Int)] 264)) fun b1 H1 => StA H1 (⟨b1, 0, none⟩ : Addr) l1.toArray 2 fun H2 => Ld H2 ((⟨b1, 0, none⟩ : Addr).add 0) fun v1 => DI .u64 v1 fun x4 => Ld H2 ((⟨b1, 0, none⟩ : Addr).add 1) fun v2 => DI .u64 v2 fun x5 => (0 ≤ x5 ∧ R3 (bOr .u64 x1 (shlI .u64 x4 x5)) A2 n2 m2 x2 (IntKind.i64.wrap (x3 + (1 : Int))) H2))) (K (.int .u64 x1) H)
def W_record_join (A1 : Option Addr) (n1 : Nat) (m1 : Nat) (H : Hp) (K : Value → Hp → Prop) : Prop :=
  (∃ k, W_record_join.l3 K k (0 : Int) A1 n1 m1 ((n1 : Nat) : Int) (0 : Int) H)
def W_record_join.l3.L (K : Value → Hp → Prop) (k : Nat) : Mid := fun E D H =>
  DG (E.get? 3) fun w3 => DI .u64 w3 fun x1 => DG (E.get? 6) fun w6 => DSl w6 fun A2 n2 m2 => DG (E.get? 7) fun w7 => DI .i64 w7 fun x2 => DG (E.get? 8) fun w8 => DI .i64 w8 fun x3 => DNilD D (W_record_join.l3 K k x1 A2 n2 m2 x2 x3 H)
def W_record_join.Λ3 (_ : Value → Hp → Prop) (_R3 : Int → Option Addr → Nat → Nat → Int → Int → Hp → Prop) : Cuts := Cuts.none (fun _ => none)
def W_record_join.Λ (K : Value → Hp → Prop) : Cuts := ⟨fun i => none, fun i => match Nat.beq i 3 with | true => some (fun E D H => ∃ k, W_record_join.l3.L K k E D H) | false => none, (fun _ => none)⟩
theorem W_record_join.ok (A1 : Option Addr) (n1 : Nat) (m1 : Nat) (H : Hp) (K : Value → Hp → Prop) (h : W_record_join A1 n1 m1 H K) : HCalls Tryz.prog 162 #[.slice A1 n1 m1] H K :=
  hcalls Tryz.func162 rfl (Nat.le_of_ble_eq_true rfl) (hw_safe (Λ := (W_record_join.Λ K)) mixWrecord _ _ _ _ _ (Eq.mp (by kernel_rfl) h) (obs_seq obs_region rfl (obs_seq obs_region rfl (obs_seq (obs_seq obs_region rfl (obs_block (obs_loop rfl (fun E D H h => by
      refine Safe.loop' (W_record_join.l3.L K) (fun E D H h => ?_) (fun k E D H h => ?_) E D H h
      · obtain ⟨w3, e3, g1⟩ := DG.out h; obtain ⟨x1, rfl, g2⟩ := DI.out g1; obtain ⟨w6, e6, g3⟩ := DG.out g2; obtain ⟨A2, n2, m2, rfl, g4⟩ := DSl.out g3; obtain ⟨w7, e7, g5⟩ := DG.out g4; obtain ⟨x2, rfl, g6⟩ := DI.out g5; obtain ⟨w8, e8, g7⟩ := DG.out g6; obtain ⟨x3, rfl, g8⟩ := DI.out g7; obtain ⟨rfl, h'⟩ := DNilD.out g8; exact h'
      · obtain ⟨w3, e3, g1⟩ := DG.out h
        obtain ⟨x1, rfl, g2⟩ := DI.out g1
        obtain ⟨w6, e6, g3⟩ := DG.out g2
        obtain ⟨A2, n2, m2, rfl, g4⟩ := DSl.out g3
        obtain ⟨w7, e7, g5⟩ := DG.out g4
        obtain ⟨x2, rfl, g6⟩ := DI.out g5
        obtain ⟨w8, e8, g7⟩ := DG.out g6
        obtain ⟨x3, rfl, g8⟩ := DI.out g7
        obtain ⟨rfl, h'⟩ := DNilD.out g8
        exact (hw_safe (Λ := (W_record_join.Λ3 K (W_record_join.l3 K k))) mixWrecord _ _ [(3, .int .u64 x1), (6, .slice A2 n2 m2), (7, .int .i64 x2), (8, .int .i64 x3)] [] H (Eq.mp (by kernel_rfl) h') (obs_seq obs_region rfl (obs_seq (obs_cond obs_skip obs_exit) rfl (obs_seq (obs_block (obs_seq obs_region rfl obs_region)) rfl obs_region)))).weaken (EnvLe.cons e3 (EnvLe.cons e6 (EnvLe.cons e7 (EnvLe.cons e8 (EnvLe.nil _))))) (Hp.le_refl _))))) rfl (obs_seq obs_region rfl obs_ret)))))

-- record.direction
def W_record_direction (x1 : Int) (H : Hp) (K : Value → Hp → Prop) : Prop :=
  BIf (x1 == (0 : Int)) (K (.bool true) H) (K (.bool (x1 == (1 : Int))) H)
def W_record_direction.Λ (_ : Value → Hp → Prop) : Cuts := Cuts.none (fun _ => none)
theorem W_record_direction.ok (x1 : Int) (H : Hp) (K : Value → Hp → Prop) (h : W_record_direction x1 H K) : HCalls Tryz.prog 163 #[.int .i64 x1] H K :=
  hcalls Tryz.func163 rfl (Nat.le_of_ble_eq_true rfl) (hw_safe (Λ := Cuts.none (fun _ => none)) mixWrecord _ _ _ _ _ (Eq.mp (by kernel_rfl) h) (obs_none _ _ _ _ _))

end Go.Proofs.YtlgpappgnndgiaaGreatDoor.W

end
section
/-! Wabacistref20 -/
/- Formulas of functions, printed by wip/tools/hwp.py. -/
set_option maxRecDepth 100000
set_option linter.unusedVariables false
namespace Go.Proofs.YtlgpappgnndgiaaGreatDoor.W
open Go Go.Hw

theorem mixWabacistref20 : Tryz.prog.follows .mixedOrders = true := by kernel_rfl
-- abacistref20.After
def W_abacistref20_After (y1 : Array Value) (y2 : Array Value) (H : Hp) (K : Value → Hp → Prop) : Prop :=
  Nw H (.obj (.cells y1 91)) fun b1 H1 => Nw H1 (.obj (.cells y2 91)) fun b2 H2 => LdA H2 (⟨b1, 0, none⟩ : Addr) 8 fun l1 => HCalls Tryz.prog 37 #[.agg l1.toArray] H2 fun v1 H3 => DB v1 fun c1 => BIf (!c1) (K (.bool false) H3) (LdA H3 (⟨b2, 0, none⟩ : Addr) 8 fun l2 => HCalls Tryz.prog 37 #[.agg l2.toArray] H3 fun v2 H4 => DB v2 fun c2 => BIf (!c2) (K (.bool false) H4) (Ld H4 ((⟨b2, 0, none⟩ : Addr).add 0) fun v3 => DI .u64 v3 fun x1 => Ld H4 ((⟨b1, 0, none⟩ : Addr).add 0) fun v4 => DI .u64 v4 fun x2 => BIf (x1 != (IntKind.u64.wrap (x2 + (1 : Int)))) (K (.bool false) H4) (Ld H4 ((⟨b2, 0, none⟩ : Addr).add 1) fun v5 => DI .i64 v5 fun x3 => BIf (x3 == (1 : Int)) (K (.bool true) H4) (Ld H4 ((⟨b1, 0, none⟩ : Addr).add 5) fun v6 => DI .u32 v6 fun x4 => Ld H4 ((⟨b2, 0, none⟩ : Addr).add 5) fun v7 => DI .u32 v7 fun x5 => BIf (x4 != x5) (K (.bool false) H4) (Ld H4 ((⟨b1, 0, none⟩ : Addr).add 2) fun v8 => DI .i64 v8 fun x6 => Ld H4 ((⟨b2, 0, none⟩ : Addr).add 2) fun v9 => DI .i64 v9 fun x7 => BIf (x6 != x7) (K (.bool false) H4) (Ld H4 ((⟨b2, 0, none⟩ : Addr).add 1) fun v10 => DI .i64 v10 fun x8 => BIf (x8 == (2 : Int)) (Ld H4 ((⟨b1, 0, none⟩ : Addr).add 1) fun v11 => DI .i64 v11 fun x9 => K (.bool (x9 == (1 : Int))) H4) (Ld H4 ((⟨b1, 0, none⟩ : Addr).add 1) fun v12 => DI .i64 v12 fun x10 => BIf (x10 == (1 : Int)) (K (.bool false) H4) (Ld H4 ((⟨b1, 0, none⟩ : Addr).add 6) fun v13 => DI .u32 v13 fun x11 => Ld H4 ((⟨b2, 0, none⟩ : Addr).add 6) fun v14 => DI .u32 v14 fun x12 => BIf (x11 != x12) (K (.bool false) H4) (Ld H4 ((⟨b2, 0, none⟩ : Addr).add 1) fun v15 => DI .i64 v15 fun x13 => BIf (x13 == (3 : Int)) (Ld H4 ((⟨b2, 0, none⟩ : Addr).add 7) fun v16 => DI .u32 v16 fun x14 => K (.bool (x14 == (0 : Int))) H4) (Ld H4 ((⟨b1, 0, none⟩ : Addr).add 1) fun v17 => DI .i64 v17 fun x15 => BIf (x15 == (2 : Int)) (K (.bool false) H4) (Ld H4 ((⟨b1, 0, none⟩ : Addr).add 3) fun v18 => DI .i64 v18 fun x16 => Ld H4 ((⟨b2, 0, none⟩ : Addr).add 3) fun v19 => DI .i64 v19 fun x17 => BIf (x16 != x17) (K (.bool false) H4) (Ld H4 ((⟨b1, 0, none⟩ : Addr).add 1) fun v20 => DI .i64 v20 fun x18 => BIf (x18 == (3 : Int)) (Ld H4 ((⟨b2, 0, none⟩ : Addr).add 4) fun v21 => DI .i64 v21 fun x19 => K (.bool (x19 == (1 : Int))) H4) (Ld H4 ((⟨b2, 0, none⟩ : Addr).add 4) fun v22 => DI .i64 v22 fun x20 => Ld H4 ((⟨b1, 0, none⟩ : Addr).add 4) fun v23 => DI .i64 v23 fun x21 => K (.bool (x20 == (IntKind.i64.wrap (x21 + (1 : Int))))) H4)))))))))))))
def W_abacistref20_After.Λ (_ : Value → Hp → Prop) : Cuts := Cuts.none (fun _ => none)
theorem W_abacistref20_After.ok (y1 : Array Value) (y2 : Array Value) (H : Hp) (K : Value → Hp → Prop) (h : W_abacistref20_After y1 y2 H K) : HCalls Tryz.prog 33 #[.agg y1, .agg y2] H K :=
  hcalls Tryz.func33 rfl (Nat.le_of_ble_eq_true rfl) (hw_safe (Λ := Cuts.none (fun _ => none)) mixWabacistref20 _ _ _ _ _ (Eq.mp (by kernel_rfl) h) (obs_none _ _ _ _ _))

-- abacistref20.Good
def W_abacistref20_Good (y1 : Array Value) (H : Hp) (K : Value → Hp → Prop) : Prop :=
  Nw H (.obj (.cells y1 91)) fun b1 H1 => Ld H1 ((⟨b1, 0, none⟩ : Addr).add 0) fun v1 => DI .u64 v1 fun x1 => BIf (decide (x1 < (1 : Int))) (K (.bool false) H1) (Ld H1 ((⟨b1, 0, none⟩ : Addr).add 0) fun v2 => DI .u64 v2 fun x2 => BIf (decide (x2 ≥ (281474976710656 : Int))) (K (.bool false) H1) (Ld H1 ((⟨b1, 0, none⟩ : Addr).add 2) fun v3 => DI .i64 v3 fun x3 => BIf (decide (x3 < (0 : Int))) (K (.bool false) H1) (Ld H1 ((⟨b1, 0, none⟩ : Addr).add 2) fun v4 => DI .i64 v4 fun x4 => BIf (decide (x4 > (32 : Int))) (K (.bool false) H1) (Ld H1 ((⟨b1, 0, none⟩ : Addr).add 3) fun v5 => DI .i64 v5 fun x5 => BIf (decide (x5 < (0 : Int))) (K (.bool false) H1) (Ld H1 ((⟨b1, 0, none⟩ : Addr).add 3) fun v6 => DI .i64 v6 fun x6 => BIf (decide (x6 > (1 : Int))) (K (.bool false) H1) (Ld H1 ((⟨b1, 0, none⟩ : Addr).add 1) fun v7 => DI .i64 v7 fun x7 => BIf (decide (x7 < (1 : Int))) (K (.bool false) H1) (Ld H1 ((⟨b1, 0, none⟩ : Addr).add 1) fun v8 => DI .i64 v8 fun x8 => BIf (decide (x8 > (4 : Int))) (K (.bool false) H1) (Ld H1 ((⟨b1, 0, none⟩ : Addr).add 1) fun v9 => DI .i64 v9 fun x9 => BIf (x9 == (4 : Int)) (Ld H1 ((⟨b1, 0, none⟩ : Addr).add 4) fun v10 => DI .i64 v10 fun x10 => BIf (decide (x10 ≥ (1 : Int))) (Ld H1 ((⟨b1, 0, none⟩ : Addr).add 4) fun v11 => DI .i64 v11 fun x11 => K (.bool (decide (x11 ≤ (7 : Int)))) H1) (K (.bool false) H1)) (Ld H1 ((⟨b1, 0, none⟩ : Addr).add 1) fun v12 => DI .i64 v12 fun x12 => BIf (x12 == (1 : Int)) (Ld H1 ((⟨b1, 0, none⟩ : Addr).add 6) fun v13 => DI .u32 v13 fun x13 => BIf (x13 != (0 : Int)) (K (.bool false) H1) (Ld H1 ((⟨b1, 0, none⟩ : Addr).add 1) fun v14 => DI .i64 v14 fun x14 => BIf (decide (x14 ≤ (2 : Int))) (Ld H1 ((⟨b1, 0, none⟩ : Addr).add 3) fun v16 => DI .i64 v16 fun x16 => BIf (x16 != (0 : Int)) (K (.bool false) H1) (Ld H1 ((⟨b1, 0, none⟩ : Addr).add 7) fun v18 => DI .u32 v18 fun x18 => BIf (x18 != (0 : Int)) (K (.bool false) H1) (Ld H1 ((⟨b1, 0, none⟩ : Addr).add 4) fun v20 => DI .i64 v20 fun x20 => K (.bool (x20 == (0 : Int))) H1))) (Ld H1 ((⟨b1, 0, none⟩ : Addr).add 4) fun v21 => DI .i64 v21 fun x21 => K (.bool (x21 == (0 : Int))) H1))) (Ld H1 ((⟨b1, 0, none⟩ : Addr).add 1) fun v15 => DI .i64 v15 fun x15 => BIf (decide (x15 ≤ (2 : Int))) (Ld H1 ((⟨b1, 0, none⟩ : Addr).add 3) fun v17 => DI .i64 v17 fun x17 => BIf (x17 != (0 : Int)) (K (.bool false) H1) (Ld H1 ((⟨b1, 0, none⟩ : Addr).add 7) fun v19 => DI .u32 v19 fun x19 => BIf (x19 != (0 : Int)) (K (.bool false) H1) (Ld H1 ((⟨b1, 0, none⟩ : Addr).add 4) fun v22 => DI .i64 v22 fun x22 => K (.bool (x22 == (0 : Int))) H1))) (Ld H1 ((⟨b1, 0, none⟩ : Addr).add 4) fun v23 => DI .i64 v23 fun x23 => K (.bool (x23 == (0 : Int))) H1)))))))))))
def W_abacistref20_Good.Λ (_ : Value → Hp → Prop) : Cuts := Cuts.none (fun _ => none)
theorem W_abacistref20_Good.ok (y1 : Array Value) (H : Hp) (K : Value → Hp → Prop) (h : W_abacistref20_Good y1 H K) : HCalls Tryz.prog 37 #[.agg y1] H K :=
  hcalls Tryz.func37 rfl (Nat.le_of_ble_eq_true rfl) (hw_safe (Λ := Cuts.none (fun _ => none)) mixWabacistref20 _ _ _ _ _ (Eq.mp (by kernel_rfl) h) (obs_none _ _ _ _ _))

-- abacistref20.Take
def W_abacistref20_Take.l4 (K : Value → Hp → Prop) : Nat → ByteArray → Addr → Int → Hp → Prop
  | 0, _, _, _, _ => False
  | k + 1, s2, a1, x2, H =>
    let R4 := W_abacistref20_Take.l4 K k
    BIf (decide (x2 < ((s2.size : Nat) : Int))) ((0 ≤ x2 ∧ ixB s2 x2.toNat fun x3 => BIf (x3 != (0 : Int)) (StA H a1 #[.int .u64 (0 : Int), .int .i64 (0 : Int), .int .i64 (0 : Int), .int .i64 (0 : Int), .int .i64 (0 : Int), .int .u32 (0 : Int), .int .u32 (0 : Int), .int .u32 (0 : Int)] 8 fun H4 => LdA H4 a1 8 fun l4 => K (.tuple #[.agg l4.toArray, .int .i64 (10 : Int)]) H4) (R4 s2 a1 (IntKind.i64.wrap (x2 + (1 : Int))) H))) (HCalls Tryz.prog 132 #[.string s2, .int .i64 (0 : Int)] H fun v2 H5 => DI .u64 v2 fun x4 => HCalls Tryz.prog 132 #[.string s2, .int .i64 (8 : Int)] H5 fun v3 H6 => DI .u64 v3 fun x5 => HCalls Tryz.prog 132 #[.string s2, .int .i64 (16 : Int)] H6 fun v4 H7 => DI .u64 v4 fun x6 => ((281474976710656 : Int) ≠ 0 ∧ IntKind.u64 = IntKind.u64 ∧ BIf ((IntKind.u64.wrap (Int.tdiv x4 (281474976710656 : Int))) != (21061 : Int)) (StA H7 a1 #[.int .u64 (0 : Int), .int .i64 (0 : Int), .int .i64 (0 : Int), .int .i64 (0 : Int), .int .i64 (0 : Int), .int .u32 (0 : Int), .int .u32 (0 : Int), .int .u32 (0 : Int)] 8 fun H8 => LdA H8 a1 8 fun l5 => K (.tuple #[.agg l5.toArray, .int .i64 (10 : Int)]) H8) (Nw H7 (.row [.int .u64 x4, .int .u64 x5, .int .u64 x6] 60 3) fun b2 H9 => HCalls Tryz.prog 13 #[.slice (some ⟨b2, 0, none⟩) 3 3] H9 fun v5 H10 => DI .u32 v5 fun x7 => HCalls Tryz.prog 132 #[.string s2, .int .i64 (24 : Int)] H10 fun v6 H11 => DI .u64 v6 fun x8 => BIf (x8 != (IntKind.u64.wrap ((IntKind.u64.wrap ((IntKind.u64.wrap ((4294967295 : Int) - (IntKind.u64.wrap x7))) * (4294967296 : Int))) + (IntKind.u64.wrap x7)))) (StA H11 a1 #[.int .u64 (0 : Int), .int .i64 (0 : Int), .int .i64 (0 : Int), .int .i64 (0 : Int), .int .i64 (0 : Int), .int .u32 (0 : Int), .int .u32 (0 : Int), .int .u32 (0 : Int)] 8 fun H12 => LdA H12 a1 8 fun l6 => K (.tuple #[.agg l6.toArray, .int .i64 (9 : Int)]) H12) (((281474976710656 : Int) ≠ 0 ∧ IntKind.u64 = IntKind.u64 ∧ ((256 : Int) ≠ 0 ∧ IntKind.u64 = IntKind.u64 ∧ ((256 : Int) ≠ 0 ∧ IntKind.u64 = IntKind.u64 ∧ ((256 : Int) ≠ 0 ∧ IntKind.u64 = IntKind.u64 ∧ ((65536 : Int) ≠ 0 ∧ IntKind.u64 = IntKind.u64 ∧ ((256 : Int) ≠ 0 ∧ IntKind.u64 = IntKind.u64 ∧ ((16777216 : Int) ≠ 0 ∧ IntKind.u64 = IntKind.u64 ∧ ((256 : Int) ≠ 0 ∧ IntKind.u64 = IntKind.u64 ∧ ((4294967296 : Int) ≠ 0 ∧ IntKind.u64 = IntKind.u64 ∧ ((4294967296 : Int) ≠ 0 ∧ IntKind.u64 = IntKind.u64 ∧ ((4294967296 : Int) ≠ 0 ∧ IntKind.u64 = IntKind.u64 ∧ Nw H11 (.obj (.cells #[.int .u64 (0 : Int), .int .i64 (0 : Int), .int .i64 (0 : Int), .int .i64 (0 : Int), .int .i64 (0 : Int), .int .u32 (0 : Int), .int .u32 (0 : Int), .int .u32 (0 : Int)] 91)) fun b3 H13 => StA H13 (⟨b3, 0, none⟩ : Addr) #[.int .u64 (Int.tmod x4 (281474976710656 : Int)), .int .i64 (IntKind.i64.wrap (Int.tmod x5 (256 : Int))), .int .i64 (IntKind.i64.wrap (Int.tmod (IntKind.u64.wrap (Int.tdiv x5 (65536 : Int))) (256 : Int))), .int .i64 (IntKind.i64.wrap (Int.tmod (IntKind.u64.wrap (Int.tdiv x5 (256 : Int))) (256 : Int))), .int .i64 (IntKind.i64.wrap (Int.tmod (IntKind.u64.wrap (Int.tdiv x5 (16777216 : Int))) (256 : Int))), .int .u32 (IntKind.u32.wrap (IntKind.u64.wrap (Int.tdiv x5 (4294967296 : Int)))), .int .u32 (IntKind.u32.wrap (IntKind.u64.wrap (Int.tdiv x6 (4294967296 : Int)))), .int .u32 (IntKind.u32.wrap (Int.tmod x6 (4294967296 : Int)))] 8 fun H14 => LdA H14 (⟨b3, 0, none⟩ : Addr) 8 fun l1 => HCalls Tryz.prog 37 #[.agg l1.toArray] H14 fun v7 H15 => DB v7 fun c1 => BIf (!c1) (StA H15 a1 #[.int .u64 (0 : Int), .int .i64 (0 : Int), .int .i64 (0 : Int), .int .i64 (0 : Int), .int .i64 (0 : Int), .int .u32 (0 : Int), .int .u32 (0 : Int), .int .u32 (0 : Int)] 8 fun H16 => LdA H16 a1 8 fun l7 => K (.tuple #[.agg l7.toArray, .int .i64 (1 : Int)]) H16) (LdA H15 (⟨b3, 0, none⟩ : Addr) 8 fun l2 => StA H15 a1 l2.toArray 8 fun H17 => LdA H17 a1 8 fun l8 => K (.tuple #[.agg l8.toArray, .int .i64 (0 : Int)]) H17))))))))))))))))
def W_abacistref20_Take (s1 : ByteArray) (H : Hp) (K : Value → Hp → Prop) : Prop :=
  Nw H (.obj (.cells #[.int .u64 (0 : Int), .int .i64 (0 : Int), .int .i64 (0 : Int), .int .i64 (0 : Int), .int .i64 (0 : Int), .int .u32 (0 : Int), .int .u32 (0 : Int), .int .u32 (0 : Int)] 91)) fun b1 H1 => HCalls Tryz.prog 131 #[.int .i64 ((s1.size : Nat) : Int)] H1 fun v1 H2 => DI .i64 v1 fun x1 => BIf (decide (x1 < (0 : Int))) (StA H2 (⟨b1, 0, none⟩ : Addr) #[.int .u64 (0 : Int), .int .i64 (0 : Int), .int .i64 (0 : Int), .int .i64 (0 : Int), .int .i64 (0 : Int), .int .u32 (0 : Int), .int .u32 (0 : Int), .int .u32 (0 : Int)] 8 fun H3 => LdA H3 (⟨b1, 0, none⟩ : Addr) 8 fun l3 => K (.tuple #[.agg l3.toArray, .int .i64 (15 : Int)]) H3) ((∃ k, W_abacistref20_Take.l4 K k s1 (⟨b1, 0, none⟩ : Addr) (32 : Int) H2))
def W_abacistref20_Take.l4.L (K : Value → Hp → Prop) (k : Nat) : Mid := fun E D H =>
  DG (E.get? 0) fun w0 => DS w0 fun s2 => DG (E.get? 2) fun w2 => DP w2 fun pw2 => NN pw2 fun a1 => DG (E.get? 4) fun w4 => DI .i64 w4 fun x2 => DNilD D (W_abacistref20_Take.l4 K k s2 a1 x2 H)
def W_abacistref20_Take.Λ4 (_ : Value → Hp → Prop) (_R4 : ByteArray → Addr → Int → Hp → Prop) : Cuts := Cuts.none (fun _ => none)
def W_abacistref20_Take.Λ (K : Value → Hp → Prop) : Cuts := ⟨fun i => none, fun i => match Nat.beq i 4 with | true => some (fun E D H => ∃ k, W_abacistref20_Take.l4.L K k E D H) | false => none, (fun _ => none)⟩
theorem W_abacistref20_Take.ok (s1 : ByteArray) (H : Hp) (K : Value → Hp → Prop) (h : W_abacistref20_Take s1 H K) : HCalls Tryz.prog 80 #[.string s1] H K :=
  hcalls Tryz.func80 rfl (Nat.le_of_ble_eq_true rfl) (hw_safe (Λ := (W_abacistref20_Take.Λ K)) mixWabacistref20 _ _ _ _ _ (Eq.mp (by kernel_rfl) h) (obs_seq obs_region rfl (obs_seq (obs_seq obs_region rfl (obs_cond (obs_seq obs_region rfl obs_ret) obs_skip)) rfl (obs_seq (obs_seq obs_region rfl (obs_block (obs_loop rfl (fun E D H h => by
      refine Safe.loop' (W_abacistref20_Take.l4.L K) (fun E D H h => ?_) (fun k E D H h => ?_) E D H h
      · obtain ⟨w0, e0, g1⟩ := DG.out h; obtain ⟨s2, rfl, g2⟩ := DS.out g1; obtain ⟨w2, e2, g3⟩ := DG.out g2; obtain ⟨pw2, rfl, g4⟩ := DP.out g3; obtain ⟨a1, rfl, g5⟩ := NN.out g4; obtain ⟨w4, e4, g6⟩ := DG.out g5; obtain ⟨x2, rfl, g7⟩ := DI.out g6; obtain ⟨rfl, h'⟩ := DNilD.out g7; exact h'
      · obtain ⟨w0, e0, g1⟩ := DG.out h
        obtain ⟨s2, rfl, g2⟩ := DS.out g1
        obtain ⟨w2, e2, g3⟩ := DG.out g2
        obtain ⟨pw2, rfl, g4⟩ := DP.out g3
        obtain ⟨a1, rfl, g5⟩ := NN.out g4
        obtain ⟨w4, e4, g6⟩ := DG.out g5
        obtain ⟨x2, rfl, g7⟩ := DI.out g6
        obtain ⟨rfl, h'⟩ := DNilD.out g7
        exact (hw_safe (Λ := (W_abacistref20_Take.Λ4 K (W_abacistref20_Take.l4 K k))) mixWabacistref20 _ _ [(0, .string s2), (2, .pointer (some a1)), (4, .int .i64 x2)] [] H (Eq.mp (by kernel_rfl) h') (obs_seq (obs_seq obs_region rfl (obs_cond obs_skip obs_exit)) rfl (obs_seq (obs_block (obs_seq obs_region rfl (obs_cond (obs_seq obs_region rfl obs_ret) obs_skip))) rfl obs_region))).weaken (EnvLe.cons e0 (EnvLe.cons e2 (EnvLe.cons e4 (EnvLe.nil _)))) (Hp.le_refl _))))) rfl (obs_seq obs_region rfl (obs_seq obs_region rfl (obs_seq obs_region rfl (obs_seq (obs_seq obs_region rfl (obs_cond (obs_seq obs_region rfl obs_ret) obs_skip)) rfl (obs_seq obs_region rfl (obs_seq (obs_seq obs_region rfl (obs_cond (obs_seq obs_region rfl obs_ret) obs_skip)) rfl (obs_seq obs_region rfl (obs_seq (obs_seq obs_region rfl (obs_cond (obs_seq obs_region rfl obs_ret) obs_skip)) rfl (obs_seq obs_region rfl obs_ret)))))))))))))

end Go.Proofs.YtlgpappgnndgiaaGreatDoor.W

end
section
/-! RecA -/
/- record: right records; which may stand behind which. -/
set_option maxRecDepth 100000
set_option linter.unusedSimpArgs false
set_option linter.unusedVariables false
set_option linter.unnecessarySimpa false
set_option linter.unusedSectionVars false
namespace Go.Proofs.YtlgpappgnndgiaaGreatDoor.Rec
open Go Go.Hw Go.Proofs.YtlgpappgnndgiaaGreatDoor.W

structure R where
  s : Nat
  kd : Int
  kk : Int
  dir : Int
  ps : Int
  ld : Nat
  inp : Nat
  out : Nat
def R.c (r : R) : Array Value := #[.int .u64 (r.s : Int), .int .i64 r.kd, .int .i64 r.kk, .int .i64 r.dir, .int .i64 r.ps, .int .u32 (r.ld : Int), .int .u32 (r.inp : Int), .int .u32 (r.out : Int)]
def recO (r : R) : AO := .obj (.cells r.c 91)
abbrev R.good (r : R) : Prop := 1 ≤ r.s ∧ r.s < 281474976710656 ∧ 0 ≤ r.kk ∧ r.kk ≤ 32 ∧ (r.dir = 0 ∨ r.dir = 1) ∧
  ((r.kd = 1 ∧ r.inp = 0 ∧ r.ps = 0 ∧ r.dir = 0 ∧ r.out = 0) ∨ (r.kd = 2 ∧ r.ps = 0 ∧ r.dir = 0 ∧ r.out = 0) ∨ (r.kd = 3 ∧ r.ps = 0) ∨ (r.kd = 4 ∧ 1 ≤ r.ps ∧ r.ps ≤ 7))

theorem direction_ok (x : Int) (H : Hp) : HCalls Tryz.prog 163 #[.int .i64 x] H (RetE (.bool (decide (x = 0 ∨ x = 1))) H) := by
  apply W_record_direction.ok
  unfold W_record_direction
  by_cases h : x = 0
  · rw [decide_eq_true (.inl h)]
    exact BIf_beqp h (RetE.mk _ _)
  · refine BIf_beqn h ⟨?_, rfl⟩
    by_cases h1 : x = 1
    · rw [decide_eq_true (.inr h1), h1]; rfl
    · rw [decide_eq_false (by omega), beq_eq_false_iff_ne.2 h1]

section
variable {r : R} {H0 H : Hp} {b1 : Nat}
theorem out_no (hs : Sep [own H0, pts b1 (recO r)] H) (h : ¬ r.good) : Ret (.bool (decide r.good)) H0 (.bool false) H := by
  rw [decide_eq_false h]; exact hs.fin 0 rfl _
theorem out_b (hs : Sep [own H0, pts b1 (recO r)] H) {b : Bool} (h : b = true ↔ r.good) : Ret (.bool (decide r.good)) H0 (.bool b) H := by
  have : decide r.good = b := by
    cases b with
    | true => exact decide_eq_true (h.1 rfl)
    | false => exact decide_eq_false fun g => by have := h.2 g; cases this
  rw [this]; exact hs.fin 0 rfl _

theorem Good_j10 (hs : Sep [own H0, pts b1 (recO r)] H) (h : (r.ps = 0 ∧ r.dir = 0 ∧ r.out = 0) ↔ r.good) : W_record_Good.j10 (Ret (.bool (decide r.good)) H0) ⟨b1, 0, none⟩ H := by
  unfold W_record_Good.j10
  refine hs.ldf 1 rfl rfl ?_
  simp only [DI_int', DB_bool, DS_string, DP_pointer, DSl_slice, DM_map, DA_agg, DTup_tuple, DCons_cons, DNil_nil, NN_some, BIf_true, BIf_false, BIf_same, List.toList_toArray, Bool.not_true, Bool.not_false]
  by_cases h1 : r.ps = 0
  · refine BIf_beqp h1 ?_
    refine hs.ldf 1 rfl rfl ?_
    simp only [DI_int', DB_bool, DS_string, DP_pointer, DSl_slice, DM_map, DA_agg, DTup_tuple, DCons_cons, DNil_nil, NN_some, BIf_true, BIf_false, BIf_same, List.toList_toArray, Bool.not_true, Bool.not_false]
    by_cases h2 : r.dir = 0
    · refine BIf_beqp h2 ?_
      refine hs.ldf 1 rfl rfl ?_
      simp only [DI_int', DB_bool, DS_string, DP_pointer, DSl_slice, DM_map, DA_agg, DTup_tuple, DCons_cons, DNil_nil, NN_some, BIf_true, BIf_false, BIf_same, List.toList_toArray, Bool.not_true, Bool.not_false]
      refine out_b hs ?_
      rw [← h, beq_iff_eq]
      omega
    · exact BIf_beqn h2 (out_no hs fun g => h2 (h.2 g).2.1)
  · exact BIf_beqn h1 (out_no hs fun g => h1 (h.2 g).1)
end

theorem Good_ok (r : R) (H : Hp) : HCalls Tryz.prog 124 #[.agg r.c] H (RetE (.bool (decide r.good)) H) := HCalls.ret (by
  apply W_record_Good.ok
  unfold W_record_Good
  refine (Sep.start H).nw fun b1 H1 hs => ?_
  have hs : Sep [own H, pts b1 (recO r)] H1 := hs
  refine hs.ldf 1 rfl rfl ?_
  simp only [DI_int', DB_bool, DS_string, DP_pointer, DSl_slice, DM_map, DA_agg, DTup_tuple, DCons_cons, DNil_nil, NN_some, BIf_true, BIf_false, BIf_same, List.toList_toArray, Bool.not_true, Bool.not_false]
  by_cases h1 : (r.s : Int) < 1
  · exact BIf_dpos h1 (out_no hs fun g => by have := g.1; omega)
  refine BIf_dneg h1 ?_
  refine hs.ldf 1 rfl rfl ?_
  simp only [DI_int', DB_bool, DS_string, DP_pointer, DSl_slice, DM_map, DA_agg, DTup_tuple, DCons_cons, DNil_nil, NN_some, BIf_true, BIf_false, BIf_same, List.toList_toArray, Bool.not_true, Bool.not_false]
  by_cases h2 : (r.s : Int) ≥ 281474976710656
  · exact BIf_dpos h2 (out_no hs fun g => by have := g.2.1; omega)
  refine BIf_dneg h2 ?_
  refine hs.ldf 1 rfl rfl ?_
  simp only [DI_int', DB_bool, DS_string, DP_pointer, DSl_slice, DM_map, DA_agg, DTup_tuple, DCons_cons, DNil_nil, NN_some, BIf_true, BIf_false, BIf_same, List.toList_toArray, Bool.not_true, Bool.not_false]
  by_cases h3 : r.kk < 0
  · exact BIf_dpos h3 (out_no hs fun g => by have := g.2.2.1; omega)
  refine BIf_dneg h3 ?_
  refine hs.ldf 1 rfl rfl ?_
  simp only [DI_int', DB_bool, DS_string, DP_pointer, DSl_slice, DM_map, DA_agg, DTup_tuple, DCons_cons, DNil_nil, NN_some, BIf_true, BIf_false, BIf_same, List.toList_toArray, Bool.not_true, Bool.not_false]
  by_cases h4 : r.kk > 32
  · exact BIf_dpos h4 (out_no hs fun g => by have := g.2.2.2.1; omega)
  refine BIf_dneg h4 ?_
  refine hs.ldf 1 rfl rfl ?_
  simp only [DI_int', DB_bool, DS_string, DP_pointer, DSl_slice, DM_map, DA_agg, DTup_tuple, DCons_cons, DNil_nil, NN_some, BIf_true, BIf_false, BIf_same, List.toList_toArray, Bool.not_true, Bool.not_false]
  refine HCalls.use (direction_ok r.dir H1) ?_
  simp only [DI_int', DB_bool, DS_string, DP_pointer, DSl_slice, DM_map, DA_agg, DTup_tuple, DCons_cons, DNil_nil, NN_some, BIf_true, BIf_false, BIf_same, List.toList_toArray, Bool.not_true, Bool.not_false]
  by_cases h5 : r.dir = 0 ∨ r.dir = 1
  case neg =>
    rw [decide_eq_false h5]
    exact BIf_pos rfl (out_no hs fun g => h5 g.2.2.2.2.1)
  rw [decide_eq_true h5]
  refine BIf_neg rfl ?_
  have hd : ∀ {P : Prop}, (P ↔ ((r.kd = 1 ∧ r.inp = 0 ∧ r.ps = 0 ∧ r.dir = 0 ∧ r.out = 0) ∨ (r.kd = 2 ∧ r.ps = 0 ∧ r.dir = 0 ∧ r.out = 0) ∨ (r.kd = 3 ∧ r.ps = 0) ∨ (r.kd = 4 ∧ 1 ≤ r.ps ∧ r.ps ≤ 7))) → (P ↔ r.good) := fun h => by
    rw [h]
    exact ⟨fun g => ⟨by omega, by omega, by omega, by omega, h5, g⟩, fun g => g.2.2.2.2.2⟩
  refine hs.ldf 1 rfl rfl ?_
  simp only [DI_int', DB_bool, DS_string, DP_pointer, DSl_slice, DM_map, DA_agg, DTup_tuple, DCons_cons, DNil_nil, NN_some, BIf_true, BIf_false, BIf_same, List.toList_toArray, Bool.not_true, Bool.not_false]
  by_cases k1 : r.kd = 1
  · refine BIf_beqp k1 ?_
    refine hs.ldf 1 rfl rfl ?_
    simp only [DI_int', DB_bool, DS_string, DP_pointer, DSl_slice, DM_map, DA_agg, DTup_tuple, DCons_cons, DNil_nil, NN_some, BIf_true, BIf_false, BIf_same, List.toList_toArray, Bool.not_true, Bool.not_false]
    by_cases h6 : (r.inp : Int) = 0
    · exact BIf_bnen h6 (Good_j10 hs (hd (by omega)))
    · exact BIf_bnep h6 (out_no hs fun g => by have := g.2.2.2.2.2; omega)
  refine BIf_beqn k1 ?_
  by_cases k2 : r.kd = 2
  · exact BIf_beqp k2 (Good_j10 hs (hd (by omega)))
  refine BIf_beqn k2 ?_
  by_cases k3 : r.kd = 3
  · refine BIf_beqp k3 ?_
    refine hs.ldf 1 rfl rfl ?_
    simp only [DI_int', DB_bool, DS_string, DP_pointer, DSl_slice, DM_map, DA_agg, DTup_tuple, DCons_cons, DNil_nil, NN_some, BIf_true, BIf_false, BIf_same, List.toList_toArray, Bool.not_true, Bool.not_false]
    refine out_b hs (hd ?_)
    rw [beq_iff_eq]; omega
  refine BIf_beqn k3 ?_
  by_cases k4 : r.kd = 4
  · refine BIf_beqp k4 ?_
    refine hs.ldf 1 rfl rfl ?_
    simp only [DI_int', DB_bool, DS_string, DP_pointer, DSl_slice, DM_map, DA_agg, DTup_tuple, DCons_cons, DNil_nil, NN_some, BIf_true, BIf_false, BIf_same, List.toList_toArray, Bool.not_true, Bool.not_false]
    by_cases h7 : r.ps ≥ 1
    · refine BIf_dpos h7 ?_
      refine hs.ldf 1 rfl rfl ?_
      simp only [DI_int', DB_bool, DS_string, DP_pointer, DSl_slice, DM_map, DA_agg, DTup_tuple, DCons_cons, DNil_nil, NN_some, BIf_true, BIf_false, BIf_same, List.toList_toArray, Bool.not_true, Bool.not_false]
      refine out_b hs (hd ?_)
      rw [decide_eq_true_eq]; omega
    · exact BIf_dneg h7 (out_no hs fun g => by have := g.2.2.2.2.2; omega)
  · exact BIf_beqn k4 (out_no hs fun g => by have := g.2.2.2.2.2; omega))

theorem rGood_ok (r : R) (H : Hp) : HCalls Tryz.prog 37 #[.agg r.c] H (RetE (.bool (decide r.good)) H) := HCalls.ret (by
  apply W_abacistref20_Good.ok
  unfold W_abacistref20_Good
  refine (Sep.start H).nw fun b1 H1 hs => ?_
  have hs : Sep [own H, pts b1 (recO r)] H1 := hs
  refine hs.ldf 1 rfl rfl ?_
  simp only [DI_int', DB_bool, DS_string, DP_pointer, DSl_slice, DM_map, DA_agg, DTup_tuple, DCons_cons, DNil_nil, NN_some, BIf_true, BIf_false, BIf_same, List.toList_toArray, Bool.not_true, Bool.not_false]
  by_cases h1 : (r.s : Int) < 1
  · exact BIf_dpos h1 (out_no hs fun g => by have := g.1; omega)
  refine BIf_dneg h1 ?_
  refine hs.ldf 1 rfl rfl ?_
  simp only [DI_int', DB_bool, DS_string, DP_pointer, DSl_slice, DM_map, DA_agg, DTup_tuple, DCons_cons, DNil_nil, NN_some, BIf_true, BIf_false, BIf_same, List.toList_toArray, Bool.not_true, Bool.not_false]
  by_cases h2 : (r.s : Int) ≥ 281474976710656
  · exact BIf_dpos h2 (out_no hs fun g => by have := g.2.1; omega)
  refine BIf_dneg h2 ?_
  refine hs.ldf 1 rfl rfl ?_
  simp only [DI_int', DB_bool, DS_string, DP_pointer, DSl_slice, DM_map, DA_agg, DTup_tuple, DCons_cons, DNil_nil, NN_some, BIf_true, BIf_false, BIf_same, List.toList_toArray, Bool.not_true, Bool.not_false]
  by_cases h3 : r.kk < 0
  · exact BIf_dpos h3 (out_no hs fun g => by have := g.2.2.1; omega)
  refine BIf_dneg h3 ?_
  refine hs.ldf 1 rfl rfl ?_
  simp only [DI_int', DB_bool, DS_string, DP_pointer, DSl_slice, DM_map, DA_agg, DTup_tuple, DCons_cons, DNil_nil, NN_some, BIf_true, BIf_false, BIf_same, List.toList_toArray, Bool.not_true, Bool.not_false]
  by_cases h4 : r.kk > 32
  · exact BIf_dpos h4 (out_no hs fun g => by have := g.2.2.2.1; omega)
  refine BIf_dneg h4 ?_
  refine hs.ldf 1 rfl rfl ?_
  simp only [DI_int', DB_bool, DS_string, DP_pointer, DSl_slice, DM_map, DA_agg, DTup_tuple, DCons_cons, DNil_nil, NN_some, BIf_true, BIf_false, BIf_same, List.toList_toArray, Bool.not_true, Bool.not_false]
  by_cases h5 : r.dir < 0
  · exact BIf_dpos h5 (out_no hs fun g => by have := g.2.2.2.2.1; omega)
  refine BIf_dneg h5 ?_
  refine hs.ldf 1 rfl rfl ?_
  simp only [DI_int', DB_bool, DS_string, DP_pointer, DSl_slice, DM_map, DA_agg, DTup_tuple, DCons_cons, DNil_nil, NN_some, BIf_true, BIf_false, BIf_same, List.toList_toArray, Bool.not_true, Bool.not_false]
  by_cases h6 : r.dir > 1
  · exact BIf_dpos h6 (out_no hs fun g => by have := g.2.2.2.2.1; omega)
  refine BIf_dneg h6 ?_
  refine hs.ldf 1 rfl rfl ?_
  simp only [DI_int', DB_bool, DS_string, DP_pointer, DSl_slice, DM_map, DA_agg, DTup_tuple, DCons_cons, DNil_nil, NN_some, BIf_true, BIf_false, BIf_same, List.toList_toArray, Bool.not_true, Bool.not_false]
  by_cases h7 : r.kd < 1
  · exact BIf_dpos h7 (out_no hs fun g => by have := g.2.2.2.2.2; omega)
  refine BIf_dneg h7 ?_
  refine hs.ldf 1 rfl rfl ?_
  simp only [DI_int', DB_bool, DS_string, DP_pointer, DSl_slice, DM_map, DA_agg, DTup_tuple, DCons_cons, DNil_nil, NN_some, BIf_true, BIf_false, BIf_same, List.toList_toArray, Bool.not_true, Bool.not_false]
  by_cases h8 : r.kd > 4
  · exact BIf_dpos h8 (out_no hs fun g => by have := g.2.2.2.2.2; omega)
  refine BIf_dneg h8 ?_
  have hd : ∀ {P : Prop}, (P ↔ ((r.kd = 1 ∧ r.inp = 0 ∧ r.ps = 0 ∧ r.dir = 0 ∧ r.out = 0) ∨ (r.kd = 2 ∧ r.ps = 0 ∧ r.dir = 0 ∧ r.out = 0) ∨ (r.kd = 3 ∧ r.ps = 0) ∨ (r.kd = 4 ∧ 1 ≤ r.ps ∧ r.ps ≤ 7))) → (P ↔ r.good) := fun h => by
    rw [h]
    exact ⟨fun g => ⟨by omega, by omega, by omega, by omega, by omega, g⟩, fun g => g.2.2.2.2.2⟩
  refine hs.ldf 1 rfl rfl ?_
  simp only [DI_int', DB_bool, DS_string, DP_pointer, DSl_slice, DM_map, DA_agg, DTup_tuple, DCons_cons, DNil_nil, NN_some, BIf_true, BIf_false, BIf_same, List.toList_toArray, Bool.not_true, Bool.not_false]
  by_cases k4 : r.kd = 4
  · refine BIf_beqp k4 ?_
    refine hs.ldf 1 rfl rfl ?_
    simp only [DI_int', DB_bool, DS_string, DP_pointer, DSl_slice, DM_map, DA_agg, DTup_tuple, DCons_cons, DNil_nil, NN_some, BIf_true, BIf_false, BIf_same, List.toList_toArray, Bool.not_true, Bool.not_false]
    by_cases h7 : r.ps ≥ 1
    · refine BIf_dpos h7 ?_
      refine hs.ldf 1 rfl rfl ?_
      simp only [DI_int', DB_bool, DS_string, DP_pointer, DSl_slice, DM_map, DA_agg, DTup_tuple, DCons_cons, DNil_nil, NN_some, BIf_true, BIf_false, BIf_same, List.toList_toArray, Bool.not_true, Bool.not_false]
      refine out_b hs (hd ?_)
      rw [decide_eq_true_eq]; omega
    · exact BIf_dneg h7 (out_no hs fun g => by have := g.2.2.2.2.2; omega)
  refine BIf_beqn k4 ?_
  refine hs.ldf 1 rfl rfl ?_
  simp only [DI_int', DB_bool, DS_string, DP_pointer, DSl_slice, DM_map, DA_agg, DTup_tuple, DCons_cons, DNil_nil, NN_some, BIf_true, BIf_false, BIf_same, List.toList_toArray, Bool.not_true, Bool.not_false]
  by_cases k1 : r.kd = 1
  · refine BIf_beqp k1 ?_
    refine hs.ldf 1 rfl rfl ?_
    simp only [DI_int', DB_bool, DS_string, DP_pointer, DSl_slice, DM_map, DA_agg, DTup_tuple, DCons_cons, DNil_nil, NN_some, BIf_true, BIf_false, BIf_same, List.toList_toArray, Bool.not_true, Bool.not_false]
    by_cases h9 : (r.inp : Int) = 0
    · refine BIf_bnen h9 ?_
      refine hs.ldf 1 rfl rfl ?_
      simp only [DI_int', DB_bool, DS_string, DP_pointer, DSl_slice, DM_map, DA_agg, DTup_tuple, DCons_cons, DNil_nil, NN_some, BIf_true, BIf_false, BIf_same, List.toList_toArray, Bool.not_true, Bool.not_false]
      refine BIf_dpos (by omega) ?_
      refine hs.ldf 1 rfl rfl ?_
      simp only [DI_int', DB_bool, DS_string, DP_pointer, DSl_slice, DM_map, DA_agg, DTup_tuple, DCons_cons, DNil_nil, NN_some, BIf_true, BIf_false, BIf_same, List.toList_toArray, Bool.not_true, Bool.not_false]
      by_cases h10 : r.dir = 0
      · refine BIf_bnen h10 ?_
        refine hs.ldf 1 rfl rfl ?_
        simp only [DI_int', DB_bool, DS_string, DP_pointer, DSl_slice, DM_map, DA_agg, DTup_tuple, DCons_cons, DNil_nil, NN_some, BIf_true, BIf_false, BIf_same, List.toList_toArray, Bool.not_true, Bool.not_false]
        by_cases h11 : (r.out : Int) = 0
        · refine BIf_bnen h11 ?_
          refine hs.ldf 1 rfl rfl ?_
          simp only [DI_int', DB_bool, DS_string, DP_pointer, DSl_slice, DM_map, DA_agg, DTup_tuple, DCons_cons, DNil_nil, NN_some, BIf_true, BIf_false, BIf_same, List.toList_toArray, Bool.not_true, Bool.not_false]
          refine out_b hs (hd ?_)
          rw [beq_iff_eq]; omega
        · exact BIf_bnep h11 (out_no hs fun g => by have := g.2.2.2.2.2; omega)
      · exact BIf_bnep h10 (out_no hs fun g => by have := g.2.2.2.2.2; omega)
    · exact BIf_bnep h9 (out_no hs fun g => by have := g.2.2.2.2.2; omega)
  refine BIf_beqn k1 ?_
  refine hs.ldf 1 rfl rfl ?_
  simp only [DI_int', DB_bool, DS_string, DP_pointer, DSl_slice, DM_map, DA_agg, DTup_tuple, DCons_cons, DNil_nil, NN_some, BIf_true, BIf_false, BIf_same, List.toList_toArray, Bool.not_true, Bool.not_false]
  by_cases k2 : r.kd ≤ 2
  · refine BIf_dpos k2 ?_
    refine hs.ldf 1 rfl rfl ?_
    simp only [DI_int', DB_bool, DS_string, DP_pointer, DSl_slice, DM_map, DA_agg, DTup_tuple, DCons_cons, DNil_nil, NN_some, BIf_true, BIf_false, BIf_same, List.toList_toArray, Bool.not_true, Bool.not_false]
    by_cases h10 : r.dir = 0
    · refine BIf_bnen h10 ?_
      refine hs.ldf 1 rfl rfl ?_
      simp only [DI_int', DB_bool, DS_string, DP_pointer, DSl_slice, DM_map, DA_agg, DTup_tuple, DCons_cons, DNil_nil, NN_some, BIf_true, BIf_false, BIf_same, List.toList_toArray, Bool.not_true, Bool.not_false]
      by_cases h11 : (r.out : Int) = 0
      · refine BIf_bnen h11 ?_
        refine hs.ldf 1 rfl rfl ?_
        simp only [DI_int', DB_bool, DS_string, DP_pointer, DSl_slice, DM_map, DA_agg, DTup_tuple, DCons_cons, DNil_nil, NN_some, BIf_true, BIf_false, BIf_same, List.toList_toArray, Bool.not_true, Bool.not_false]
        refine out_b hs (hd ?_)
        rw [beq_iff_eq]; omega
      · exact BIf_bnep h11 (out_no hs fun g => by have := g.2.2.2.2.2; omega)
    · exact BIf_bnep h10 (out_no hs fun g => by have := g.2.2.2.2.2; omega)
  · refine BIf_dneg k2 ?_
    refine hs.ldf 1 rfl rfl ?_
    simp only [DI_int', DB_bool, DS_string, DP_pointer, DSl_slice, DM_map, DA_agg, DTup_tuple, DCons_cons, DNil_nil, NN_some, BIf_true, BIf_false, BIf_same, List.toList_toArray, Bool.not_true, Bool.not_false]
    refine out_b hs (hd ?_)
    rw [beq_iff_eq]; omega)

end Go.Proofs.YtlgpappgnndgiaaGreatDoor.Rec

end
section
/-! Wlslices -/
/- Formulas of functions, printed by wip/tools/hwp.py. -/
set_option maxRecDepth 100000
set_option linter.unusedVariables false
namespace Go.Proofs.YtlgpappgnndgiaaGreatDoor.W
open Go Go.Hw

theorem mixWlslices : Tryz.prog.follows .mixedOrders = true := by kernel_rfl
-- slices.SortFunc[[]api.Record,api.Record]
def W_slices_SortFunc_api_Record_api_Record (A1 : Option Addr) (n1 : Nat) (m1 : Nat) (fd1 : FuncId) (F1 : Array Value) (C1 : Array Value) (H : Hp) (K : Value → Hp → Prop) : Prop :=
  HCalls Tryz.prog 126 #[.int .u64 (IntKind.u64.wrap ((n1 : Nat) : Int))] H fun v1 H1 => DI .i64 v1 fun x1 => HCalls Tryz.prog 125 #[.slice A1 n1 m1, .int .i64 (0 : Int), .int .i64 ((n1 : Nat) : Int), .int .i64 x1, .func (.func fd1) F1 C1] H1 fun v2 H2 => K (.tuple #[]) H2
def W_slices_SortFunc_api_Record_api_Record.Λ (_ : Value → Hp → Prop) : Cuts := Cuts.none (fun _ => none)
theorem W_slices_SortFunc_api_Record_api_Record.ok (A1 : Option Addr) (n1 : Nat) (m1 : Nat) (fd1 : FuncId) (F1 : Array Value) (C1 : Array Value) (H : Hp) (K : Value → Hp → Prop) (h : W_slices_SortFunc_api_Record_api_Record A1 n1 m1 fd1 F1 C1 H K) : HCalls Tryz.prog 74 #[.slice A1 n1 m1, .func (.func fd1) F1 C1] H K :=
  hcalls Tryz.func74 rfl (Nat.le_of_ble_eq_true rfl) (hw_safe (Λ := Cuts.none (fun _ => none)) mixWlslices _ _ _ _ _ (Eq.mp (by kernel_rfl) h) (obs_none _ _ _ _ _))

-- slices.pdqsortCmpFunc[api.Record]
def W_slices_pdqsortCmpFunc_api_Record.j20 (K : Value → Hp → Prop) (R2 : Option Addr → Nat → Nat → Int → Int → Int → FuncId → Array Value → Array Value → Bool → Bool → Hp → Prop) (A6 : Option Addr) (n6 : Nat) (m6 : Nat) (x26 : Int) (x27 : Int) (x28 : Int) (fd6 : FuncId) (F6 : Array Value) (C6 : Array Value) (x29 : Int) (x30 : Int) (H : Hp) : Prop :=
  HCalls Tryz.prog 171 #[.slice A6 n6 m6, .int .i64 x26, .int .i64 x27, .int .i64 x30, .func (.func fd6) F6 C6] H fun v12 H9 => DTup v12 fun l6 => DCons l6 fun v13 l7 => DI .i64 v13 fun x31 => DCons l7 fun v14 l8 => DB v14 fun c10 => DNil l8 (((8 : Int) ≠ 0 ∧ IntKind.i64 = IntKind.i64 ∧ BIf (decide ((IntKind.i64.wrap (x31 - x26)) < (IntKind.i64.wrap (x27 - x31)))) (HCalls Tryz.prog 125 #[.slice A6 n6 m6, .int .i64 x26, .int .i64 x31, .int .i64 x28, .func (.func fd6) F6 C6] H9 fun v15 H10 => R2 A6 n6 m6 (IntKind.i64.wrap (x31 + (1 : Int))) x27 x28 fd6 F6 C6 (decide ((IntKind.i64.wrap (x31 - x26)) ≥ (IntKind.i64.wrap (Int.tdiv x29 (8 : Int))))) c10 H10) (HCalls Tryz.prog 125 #[.slice A6 n6 m6, .int .i64 (IntKind.i64.wrap (x31 + (1 : Int))), .int .i64 x27, .int .i64 x28, .func (.func fd6) F6 C6] H9 fun v16 H11 => R2 A6 n6 m6 x26 x31 x28 fd6 F6 C6 (decide ((IntKind.i64.wrap (x27 - x31)) ≥ (IntKind.i64.wrap (Int.tdiv x29 (8 : Int))))) c10 H11)))
def W_slices_pdqsortCmpFunc_api_Record.j17 (K : Value → Hp → Prop) (R2 : Option Addr → Nat → Nat → Int → Int → Int → FuncId → Array Value → Array Value → Bool → Bool → Hp → Prop) (A5 : Option Addr) (n5 : Nat) (m5 : Nat) (x19 : Int) (x20 : Int) (x21 : Int) (fd5 : FuncId) (F5 : Array Value) (C5 : Array Value) (c8 : Bool) (c9 : Bool) (x22 : Int) (x23 : Int) (H : Hp) : Prop :=
  BIf (decide (x19 > (0 : Int))) (ixI (IntKind.i64.wrap (x19 - (1 : Int))) n5 (NN A5 fun a1 => LdA H (a1.add ((IntKind.i64.wrap (x19 - (1 : Int))).toNat * 8)) 8 fun l4 => ixI x23 n5 (NN A5 fun a2 => LdA H (a2.add (x23.toNat * 8)) 8 fun l5 => CallK Tryz.prog fd5 ((F5 ++ #[.agg l4.toArray, .agg l5.toArray]) ++ C5) H fun v9 H7 => DR Tryz.prog (resTypes Tryz.prog fd5) v9 fun v10 => DI .i64 v10 fun x24 => BIf (!(decide (x24 < (0 : Int)))) (HCalls Tryz.prog 170 #[.slice A5 n5 m5, .int .i64 x19, .int .i64 x20, .int .i64 x23, .func (.func fd5) F5 C5] H7 fun v11 H8 => DI .i64 v11 fun x25 => R2 A5 n5 m5 x25 x20 x21 fd5 F5 C5 c8 c9 H8) (W_slices_pdqsortCmpFunc_api_Record.j20 K R2 A5 n5 m5 x19 x20 x21 fd5 F5 C5 x22 x23 H7)))) (W_slices_pdqsortCmpFunc_api_Record.j20 K R2 A5 n5 m5 x19 x20 x21 fd5 F5 C5 x22 x23 H)
def W_slices_pdqsortCmpFunc_api_Record.j15 (K : Value → Hp → Prop) (R2 : Option Addr → Nat → Nat → Int → Int → Int → FuncId → Array Value → Array Value → Bool → Bool → Hp → Prop) (A4 : Option Addr) (n4 : Nat) (m4 : Nat) (x13 : Int) (x14 : Int) (x15 : Int) (fd4 : FuncId) (F4 : Array Value) (C4 : Array Value) (c5 : Bool) (c6 : Bool) (x16 : Int) (x17 : Int) (x18 : Int) (H : Hp) : Prop :=
  BIf c5 (BIf c6 (BIf (x18 == (1 : Int)) (HCalls Tryz.prog 169 #[.slice A4 n4 m4, .int .i64 x13, .int .i64 x14, .func (.func fd4) F4 C4] H fun v8 H6 => DB v8 fun c7 => BIf c7 (K (.tuple #[]) H6) (W_slices_pdqsortCmpFunc_api_Record.j17 K R2 A4 n4 m4 x13 x14 x15 fd4 F4 C4 c5 c6 x16 x17 H6)) (W_slices_pdqsortCmpFunc_api_Record.j17 K R2 A4 n4 m4 x13 x14 x15 fd4 F4 C4 c5 c6 x16 x17 H)) (W_slices_pdqsortCmpFunc_api_Record.j17 K R2 A4 n4 m4 x13 x14 x15 fd4 F4 C4 c5 c6 x16 x17 H)) (W_slices_pdqsortCmpFunc_api_Record.j17 K R2 A4 n4 m4 x13 x14 x15 fd4 F4 C4 c5 c6 x16 x17 H)
def W_slices_pdqsortCmpFunc_api_Record.j10 (K : Value → Hp → Prop) (R2 : Option Addr → Nat → Nat → Int → Int → Int → FuncId → Array Value → Array Value → Bool → Bool → Hp → Prop) (A3 : Option Addr) (n3 : Nat) (m3 : Nat) (x7 : Int) (x8 : Int) (x9 : Int) (fd3 : FuncId) (F3 : Array Value) (C3 : Array Value) (c3 : Bool) (c4 : Bool) (x10 : Int) (H : Hp) : Prop :=
  HCalls Tryz.prog 167 #[.slice A3 n3 m3, .int .i64 x7, .int .i64 x8, .func (.func fd3) F3 C3] H fun v4 H4 => DTup v4 fun l1 => DCons l1 fun v5 l2 => DI .i64 v5 fun x11 => DCons l2 fun v6 l3 => DI .i64 v6 fun x12 => DNil l3 (BIf (x12 == (2 : Int)) (HCalls Tryz.prog 168 #[.slice A3 n3 m3, .int .i64 x7, .int .i64 x8, .func (.func fd3) F3 C3] H4 fun v7 H5 => W_slices_pdqsortCmpFunc_api_Record.j15 K R2 A3 n3 m3 x7 x8 x9 fd3 F3 C3 c3 c4 x10 (IntKind.i64.wrap ((IntKind.i64.wrap (x8 - (1 : Int))) - (IntKind.i64.wrap (x11 - x7)))) (1 : Int) H5) (W_slices_pdqsortCmpFunc_api_Record.j15 K R2 A3 n3 m3 x7 x8 x9 fd3 F3 C3 c3 c4 x10 x11 x12 H4))
def W_slices_pdqsortCmpFunc_api_Record.l2 (K : Value → Hp → Prop) : Nat → Option Addr → Nat → Nat → Int → Int → Int → FuncId → Array Value → Array Value → Bool → Bool → Hp → Prop
  | 0, _, _, _, _, _, _, _, _, _, _, _, _ => False
  | k + 1, A2, n2, m2, x4, x5, x6, fd2, F2, C2, c1, c2, H =>
    let R2 := W_slices_pdqsortCmpFunc_api_Record.l2 K k
    BIf (decide ((IntKind.i64.wrap (x5 - x4)) ≤ (12 : Int))) (HCalls Tryz.prog 164 #[.slice A2 n2 m2, .int .i64 x4, .int .i64 x5, .func (.func fd2) F2 C2] H fun v1 H1 => K (.tuple #[]) H1) (BIf (x6 == (0 : Int)) (HCalls Tryz.prog 165 #[.slice A2 n2 m2, .int .i64 x4, .int .i64 x5, .func (.func fd2) F2 C2] H fun v2 H2 => K (.tuple #[]) H2) (BIf (!c1) (HCalls Tryz.prog 166 #[.slice A2 n2 m2, .int .i64 x4, .int .i64 x5, .func (.func fd2) F2 C2] H fun v3 H3 => W_slices_pdqsortCmpFunc_api_Record.j10 K R2 A2 n2 m2 x4 x5 (IntKind.i64.wrap (x6 - (1 : Int))) fd2 F2 C2 c1 c2 (IntKind.i64.wrap (x5 - x4)) H3) (W_slices_pdqsortCmpFunc_api_Record.j10 K R2 A2 n2 m2 x4 x5 x6 fd2 F2 C2 c1 c2 (IntKind.i64.wrap (x5 - x4)) H)))
def W_slices_pdqsortCmpFunc_api_Record (A1 : Option Addr) (n1 : Nat) (m1 : Nat) (x1 : Int) (x2 : Int) (x3 : Int) (fd1 : FuncId) (F1 : Array Value) (C1 : Array Value) (H : Hp) (K : Value → Hp → Prop) : Prop :=
  (∃ k, W_slices_pdqsortCmpFunc_api_Record.l2 K k A1 n1 m1 x1 x2 x3 fd1 F1 C1 true true H)
def W_slices_pdqsortCmpFunc_api_Record.l2.L (K : Value → Hp → Prop) (k : Nat) : Mid := fun E D H =>
  DG (E.get? 0) fun w0 => DSl w0 fun A2 n2 m2 => DG (E.get? 1) fun w1 => DI .i64 w1 fun x4 => DG (E.get? 2) fun w2 => DI .i64 w2 fun x5 => DG (E.get? 3) fun w3 => DI .i64 w3 fun x6 => DG (E.get? 4) fun w4 => DFn w4 fun fd2 F2 C2 => DG (E.get? 10) fun w10 => DB w10 fun c1 => DG (E.get? 11) fun w11 => DB w11 fun c2 => DNilD D (W_slices_pdqsortCmpFunc_api_Record.l2 K k A2 n2 m2 x4 x5 x6 fd2 F2 C2 c1 c2 H)
def W_slices_pdqsortCmpFunc_api_Record.Λ2 (K : Value → Hp → Prop) (R2 : Option Addr → Nat → Nat → Int → Int → Int → FuncId → Array Value → Array Value → Bool → Bool → Hp → Prop) : Cuts := ⟨fun i => match Nat.beq i 20 with | true => some (fun E D H => DG (E.get? 0) fun w0 => DSl w0 fun A6 n6 m6 => DG (E.get? 1) fun w1 => DI .i64 w1 fun x26 => DG (E.get? 2) fun w2 => DI .i64 w2 fun x27 => DG (E.get? 3) fun w3 => DI .i64 w3 fun x28 => DG (E.get? 4) fun w4 => DFn w4 fun fd6 F6 C6 => DG (E.get? 12) fun w12 => DI .i64 w12 fun x29 => DG (E.get? 13) fun w13 => DI .i64 w13 fun x30 => DNilD D (W_slices_pdqsortCmpFunc_api_Record.j20 K R2 A6 n6 m6 x26 x27 x28 fd6 F6 C6 x29 x30 H)) | false => match Nat.beq i 17 with | true => some (fun E D H => DG (E.get? 0) fun w0 => DSl w0 fun A5 n5 m5 => DG (E.get? 1) fun w1 => DI .i64 w1 fun x19 => DG (E.get? 2) fun w2 => DI .i64 w2 fun x20 => DG (E.get? 3) fun w3 => DI .i64 w3 fun x21 => DG (E.get? 4) fun w4 => DFn w4 fun fd5 F5 C5 => DG (E.get? 10) fun w10 => DB w10 fun c8 => DG (E.get? 11) fun w11 => DB w11 fun c9 => DG (E.get? 12) fun w12 => DI .i64 w12 fun x22 => DG (E.get? 13) fun w13 => DI .i64 w13 fun x23 => DNilD D (W_slices_pdqsortCmpFunc_api_Record.j17 K R2 A5 n5 m5 x19 x20 x21 fd5 F5 C5 c8 c9 x22 x23 H)) | false => match Nat.beq i 15 with | true => some (fun E D H => DG (E.get? 0) fun w0 => DSl w0 fun A4 n4 m4 => DG (E.get? 1) fun w1 => DI .i64 w1 fun x13 => DG (E.get? 2) fun w2 => DI .i64 w2 fun x14 => DG (E.get? 3) fun w3 => DI .i64 w3 fun x15 => DG (E.get? 4) fun w4 => DFn w4 fun fd4 F4 C4 => DG (E.get? 10) fun w10 => DB w10 fun c5 => DG (E.get? 11) fun w11 => DB w11 fun c6 => DG (E.get? 12) fun w12 => DI .i64 w12 fun x16 => DG (E.get? 13) fun w13 => DI .i64 w13 fun x17 => DG (E.get? 14) fun w14 => DI .i64 w14 fun x18 => DNilD D (W_slices_pdqsortCmpFunc_api_Record.j15 K R2 A4 n4 m4 x13 x14 x15 fd4 F4 C4 c5 c6 x16 x17 x18 H)) | false => match Nat.beq i 10 with | true => some (fun E D H => DG (E.get? 0) fun w0 => DSl w0 fun A3 n3 m3 => DG (E.get? 1) fun w1 => DI .i64 w1 fun x7 => DG (E.get? 2) fun w2 => DI .i64 w2 fun x8 => DG (E.get? 3) fun w3 => DI .i64 w3 fun x9 => DG (E.get? 4) fun w4 => DFn w4 fun fd3 F3 C3 => DG (E.get? 10) fun w10 => DB w10 fun c3 => DG (E.get? 11) fun w11 => DB w11 fun c4 => DG (E.get? 12) fun w12 => DI .i64 w12 fun x10 => DNilD D (W_slices_pdqsortCmpFunc_api_Record.j10 K R2 A3 n3 m3 x7 x8 x9 fd3 F3 C3 c3 c4 x10 H)) | false => none, fun i => none, (fun i => match Nat.beq i 17 with | true => some ([], [0, 1, 2, 3, 4, 5, 6, 7, 8, 9, 10, 11, 12], 13) | false => none)⟩
def W_slices_pdqsortCmpFunc_api_Record.Λ (K : Value → Hp → Prop) : Cuts := ⟨fun i => none, fun i => match Nat.beq i 2 with | true => some (fun E D H => ∃ k, W_slices_pdqsortCmpFunc_api_Record.l2.L K k E D H) | false => none, (fun i => match Nat.beq i 17 with | true => some ([], [0, 1, 2, 3, 4, 5, 6, 7, 8, 9, 10, 11, 12], 13) | false => none)⟩
theorem W_slices_pdqsortCmpFunc_api_Record.ok (A1 : Option Addr) (n1 : Nat) (m1 : Nat) (x1 : Int) (x2 : Int) (x3 : Int) (fd1 : FuncId) (F1 : Array Value) (C1 : Array Value) (H : Hp) (K : Value → Hp → Prop) (h : W_slices_pdqsortCmpFunc_api_Record A1 n1 m1 x1 x2 x3 fd1 F1 C1 H K) : HCalls Tryz.prog 125 #[.slice A1 n1 m1, .int .i64 x1, .int .i64 x2, .int .i64 x3, .func (.func fd1) F1 C1] H K :=
  hcalls Tryz.func125 rfl (Nat.le_of_ble_eq_true rfl) (hw_safe (Λ := (W_slices_pdqsortCmpFunc_api_Record.Λ K)) mixWlslices _ _ _ _ _ (Eq.mp (by kernel_rfl) h) (obs_seq obs_region rfl (obs_seq obs_region rfl (obs_block (obs_loop rfl (fun E D H h => by
      refine Safe.loop' (W_slices_pdqsortCmpFunc_api_Record.l2.L K) (fun E D H h => ?_) (fun k E D H h => ?_) E D H h
      · obtain ⟨w0, e0, g1⟩ := DG.out h; obtain ⟨A2, n2, m2, rfl, g2⟩ := DSl.out g1; obtain ⟨w1, e1, g3⟩ := DG.out g2; obtain ⟨x4, rfl, g4⟩ := DI.out g3; obtain ⟨w2, e2, g5⟩ := DG.out g4; obtain ⟨x5, rfl, g6⟩ := DI.out g5; obtain ⟨w3, e3, g7⟩ := DG.out g6; obtain ⟨x6, rfl, g8⟩ := DI.out g7; obtain ⟨w4, e4, g9⟩ := DG.out g8; obtain ⟨fd2, F2, C2, rfl, g10⟩ := DFn.out g9; obtain ⟨w10, e10, g11⟩ := DG.out g10; obtain ⟨c1, rfl, g12⟩ := DB.out g11; obtain ⟨w11, e11, g13⟩ := DG.out g12; obtain ⟨c2, rfl, g14⟩ := DB.out g13; obtain ⟨rfl, h'⟩ := DNilD.out g14; exact h'
      · obtain ⟨w0, e0, g1⟩ := DG.out h
        obtain ⟨A2, n2, m2, rfl, g2⟩ := DSl.out g1
        obtain ⟨w1, e1, g3⟩ := DG.out g2
        obtain ⟨x4, rfl, g4⟩ := DI.out g3
        obtain ⟨w2, e2, g5⟩ := DG.out g4
        obtain ⟨x5, rfl, g6⟩ := DI.out g5
        obtain ⟨w3, e3, g7⟩ := DG.out g6
        obtain ⟨x6, rfl, g8⟩ := DI.out g7
        obtain ⟨w4, e4, g9⟩ := DG.out g8
        obtain ⟨fd2, F2, C2, rfl, g10⟩ := DFn.out g9
        obtain ⟨w10, e10, g11⟩ := DG.out g10
        obtain ⟨c1, rfl, g12⟩ := DB.out g11
        obtain ⟨w11, e11, g13⟩ := DG.out g12
        obtain ⟨c2, rfl, g14⟩ := DB.out g13
        obtain ⟨rfl, h'⟩ := DNilD.out g14
        exact (hw_safe (Λ := (W_slices_pdqsortCmpFunc_api_Record.Λ2 K (W_slices_pdqsortCmpFunc_api_Record.l2 K k))) mixWlslices _ _ [(0, .slice A2 n2 m2), (1, .int .i64 x4), (2, .int .i64 x5), (3, .int .i64 x6), (4, .func (.func fd2) F2 C2), (10, .bool c1), (11, .bool c2)] [] H (Eq.mp (by kernel_rfl) h') (obs_block (obs_seq obs_region rfl (obs_seq (obs_seq obs_region rfl (obs_cond (obs_seq obs_region rfl obs_ret) obs_skip)) rfl (obs_seq (obs_seq obs_region rfl (obs_cond (obs_seq obs_region rfl obs_ret) obs_skip)) rfl (obs_seqc (obs_seq obs_region rfl (obs_cond (obs_seq obs_region rfl obs_region) obs_skip)) rfl (fun E D H h => by
            obtain ⟨w0, e0, g1⟩ := DG.out h
            obtain ⟨A3, n3, m3, rfl, g2⟩ := DSl.out g1
            obtain ⟨w1, e1, g3⟩ := DG.out g2
            obtain ⟨x7, rfl, g4⟩ := DI.out g3
            obtain ⟨w2, e2, g5⟩ := DG.out g4
            obtain ⟨x8, rfl, g6⟩ := DI.out g5
            obtain ⟨w3, e3, g7⟩ := DG.out g6
            obtain ⟨x9, rfl, g8⟩ := DI.out g7
            obtain ⟨w4, e4, g9⟩ := DG.out g8
            obtain ⟨fd3, F3, C3, rfl, g10⟩ := DFn.out g9
            obtain ⟨w10, e10, g11⟩ := DG.out g10
            obtain ⟨c3, rfl, g12⟩ := DB.out g11
            obtain ⟨w11, e11, g13⟩ := DG.out g12
            obtain ⟨c4, rfl, g14⟩ := DB.out g13
            obtain ⟨w12, e12, g15⟩ := DG.out g14
            obtain ⟨x10, rfl, g16⟩ := DI.out g15
            obtain ⟨rfl, h'⟩ := DNilD.out g16
            exact (hw_safe (Λ := (W_slices_pdqsortCmpFunc_api_Record.Λ2 K (W_slices_pdqsortCmpFunc_api_Record.l2 K k))) mixWlslices _ _ [(0, .slice A3 n3 m3), (1, .int .i64 x7), (2, .int .i64 x8), (3, .int .i64 x9), (4, .func (.func fd3) F3 C3), (10, .bool c3), (11, .bool c4), (12, .int .i64 x10)] [] H (Eq.mp (by kernel_rfl) h') (obs_seq obs_region rfl (obs_seqc (obs_seq obs_region rfl (obs_cond (obs_seq obs_region rfl (obs_seq obs_region rfl obs_region)) obs_skip)) rfl (fun E D H h => by
                obtain ⟨w0, e0, g1⟩ := DG.out h
                obtain ⟨A4, n4, m4, rfl, g2⟩ := DSl.out g1
                obtain ⟨w1, e1, g3⟩ := DG.out g2
                obtain ⟨x13, rfl, g4⟩ := DI.out g3
                obtain ⟨w2, e2, g5⟩ := DG.out g4
                obtain ⟨x14, rfl, g6⟩ := DI.out g5
                obtain ⟨w3, e3, g7⟩ := DG.out g6
                obtain ⟨x15, rfl, g8⟩ := DI.out g7
                obtain ⟨w4, e4, g9⟩ := DG.out g8
                obtain ⟨fd4, F4, C4, rfl, g10⟩ := DFn.out g9
                obtain ⟨w10, e10, g11⟩ := DG.out g10
                obtain ⟨c5, rfl, g12⟩ := DB.out g11
                obtain ⟨w11, e11, g13⟩ := DG.out g12
                obtain ⟨c6, rfl, g14⟩ := DB.out g13
                obtain ⟨w12, e12, g15⟩ := DG.out g14
                obtain ⟨x16, rfl, g16⟩ := DI.out g15
                obtain ⟨w13, e13, g17⟩ := DG.out g16
                obtain ⟨x17, rfl, g18⟩ := DI.out g17
                obtain ⟨w14, e14, g19⟩ := DG.out g18
                obtain ⟨x18, rfl, g20⟩ := DI.out g19
                obtain ⟨rfl, h'⟩ := DNilD.out g20
                exact (hw_safe (Λ := (W_slices_pdqsortCmpFunc_api_Record.Λ2 K (W_slices_pdqsortCmpFunc_api_Record.l2 K k))) mixWlslices _ _ [(0, .slice A4 n4 m4), (1, .int .i64 x13), (2, .int .i64 x14), (3, .int .i64 x15), (4, .func (.func fd4) F4 C4), (10, .bool c5), (11, .bool c6), (12, .int .i64 x16), (13, .int .i64 x17), (14, .int .i64 x18)] [] H (Eq.mp (by kernel_rfl) h') (obs_seqc (obs_seq obs_region rfl (obs_cond (obs_seq obs_region rfl (obs_cond obs_ret obs_skip)) obs_skip)) rfl (fun E D H h => by
                    obtain ⟨w0, e0, g1⟩ := DG.out h
                    obtain ⟨A5, n5, m5, rfl, g2⟩ := DSl.out g1
                    obtain ⟨w1, e1, g3⟩ := DG.out g2
                    obtain ⟨x19, rfl, g4⟩ := DI.out g3
                    obtain ⟨w2, e2, g5⟩ := DG.out g4
                    obtain ⟨x20, rfl, g6⟩ := DI.out g5
                    obtain ⟨w3, e3, g7⟩ := DG.out g6
                    obtain ⟨x21, rfl, g8⟩ := DI.out g7
                    obtain ⟨w4, e4, g9⟩ := DG.out g8
                    obtain ⟨fd5, F5, C5, rfl, g10⟩ := DFn.out g9
                    obtain ⟨w10, e10, g11⟩ := DG.out g10
                    obtain ⟨c8, rfl, g12⟩ := DB.out g11
                    obtain ⟨w11, e11, g13⟩ := DG.out g12
                    obtain ⟨c9, rfl, g14⟩ := DB.out g13
                    obtain ⟨w12, e12, g15⟩ := DG.out g14
                    obtain ⟨x22, rfl, g16⟩ := DI.out g15
                    obtain ⟨w13, e13, g17⟩ := DG.out g16
                    obtain ⟨x23, rfl, g18⟩ := DI.out g17
                    obtain ⟨rfl, h'⟩ := DNilD.out g18
                    exact (hw_safe (Λ := (W_slices_pdqsortCmpFunc_api_Record.Λ2 K (W_slices_pdqsortCmpFunc_api_Record.l2 K k))) mixWlslices _ _ [(0, .slice A5 n5 m5), (1, .int .i64 x19), (2, .int .i64 x20), (3, .int .i64 x21), (4, .func (.func fd5) F5 C5), (10, .bool c8), (11, .bool c9), (12, .int .i64 x22), (13, .int .i64 x23)] [] H (Eq.mp (by kernel_rfl) h') (obs_seqc (obs_seq obs_region rfl (obs_cond (obs_seq obs_region rfl (obs_seq obs_region rfl obs_exit)) obs_skip)) rfl (fun E D H h => by
                        obtain ⟨w0, e0, g1⟩ := DG.out h
                        obtain ⟨A6, n6, m6, rfl, g2⟩ := DSl.out g1
                        obtain ⟨w1, e1, g3⟩ := DG.out g2
                        obtain ⟨x26, rfl, g4⟩ := DI.out g3
                        obtain ⟨w2, e2, g5⟩ := DG.out g4
                        obtain ⟨x27, rfl, g6⟩ := DI.out g5
                        obtain ⟨w3, e3, g7⟩ := DG.out g6
                        obtain ⟨x28, rfl, g8⟩ := DI.out g7
                        obtain ⟨w4, e4, g9⟩ := DG.out g8
                        obtain ⟨fd6, F6, C6, rfl, g10⟩ := DFn.out g9
                        obtain ⟨w12, e12, g11⟩ := DG.out g10
                        obtain ⟨x29, rfl, g12⟩ := DI.out g11
                        obtain ⟨w13, e13, g13⟩ := DG.out g12
                        obtain ⟨x30, rfl, g14⟩ := DI.out g13
                        obtain ⟨rfl, h'⟩ := DNilD.out g14
                        exact (hw_safe (Λ := (W_slices_pdqsortCmpFunc_api_Record.Λ2 K (W_slices_pdqsortCmpFunc_api_Record.l2 K k))) mixWlslices _ _ [(0, .slice A6 n6 m6), (1, .int .i64 x26), (2, .int .i64 x27), (3, .int .i64 x28), (4, .func (.func fd6) F6 C6), (12, .int .i64 x29), (13, .int .i64 x30)] [] H (Eq.mp (by kernel_rfl) h') (obs_seq obs_region rfl (obs_seq obs_region rfl (obs_seq obs_region rfl (obs_seq obs_region rfl (obs_seq obs_region rfl (obs_cond (obs_seq obs_region rfl (obs_seq obs_region rfl obs_region)) (obs_seq obs_region rfl (obs_seq obs_region rfl obs_region))))))))).weaken (EnvLe.cons e0 (EnvLe.cons e1 (EnvLe.cons e2 (EnvLe.cons e3 (EnvLe.cons e4 (EnvLe.cons e12 (EnvLe.cons e13 (EnvLe.nil _)))))))) (Hp.le_refl _)))).weaken (EnvLe.cons e0 (EnvLe.cons e1 (EnvLe.cons e2 (EnvLe.cons e3 (EnvLe.cons e4 (EnvLe.cons e10 (EnvLe.cons e11 (EnvLe.cons e12 (EnvLe.cons e13 (EnvLe.nil _)))))))))) (Hp.le_refl _)))).weaken (EnvLe.cons e0 (EnvLe.cons e1 (EnvLe.cons e2 (EnvLe.cons e3 (EnvLe.cons e4 (EnvLe.cons e10 (EnvLe.cons e11 (EnvLe.cons e12 (EnvLe.cons e13 (EnvLe.cons e14 (EnvLe.nil _))))))))))) (Hp.le_refl _))))).weaken (EnvLe.cons e0 (EnvLe.cons e1 (EnvLe.cons e2 (EnvLe.cons e3 (EnvLe.cons e4 (EnvLe.cons e10 (EnvLe.cons e11 (EnvLe.cons e12 (EnvLe.nil _))))))))) (Hp.le_refl _)))))))).weaken (EnvLe.cons e0 (EnvLe.cons e1 (EnvLe.cons e2 (EnvLe.cons e3 (EnvLe.cons e4 (EnvLe.cons e10 (EnvLe.cons e11 (EnvLe.nil _)))))))) (Hp.le_refl _)))))))

-- slices.insertionSortCmpFunc[api.Record]
def W_slices_insertionSortCmpFunc_api_Record.l4 (K : Value → Hp → Prop) (R1 : Option Addr → Nat → Nat → Int → Int → FuncId → Array Value → Array Value → Int → Hp → Prop) : Nat → Option Addr → Nat → Nat → Int → Int → FuncId → Array Value → Array Value → Int → Int → Hp → Prop
  | 0, _, _, _, _, _, _, _, _, _, _, _ => False
  | k + 1, A3, n3, m3, x6, x7, fd3, F3, C3, x8, x9, H =>
    let R4 := W_slices_insertionSortCmpFunc_api_Record.l4 K R1 k
    BIf (decide (x9 > x6)) (ixI x9 n3 (NN A3 fun a1 => LdA H (a1.add (x9.toNat * 8)) 8 fun l1 => ixI (IntKind.i64.wrap (x9 - (1 : Int))) n3 (NN A3 fun a2 => LdA H (a2.add ((IntKind.i64.wrap (x9 - (1 : Int))).toNat * 8)) 8 fun l2 => CallK Tryz.prog fd3 ((F3 ++ #[.agg l1.toArray, .agg l2.toArray]) ++ C3) H fun v1 H1 => DR Tryz.prog (resTypes Tryz.prog fd3) v1 fun v2 => DI .i64 v2 fun x10 => BIf (decide (x10 < (0 : Int))) (ixI (IntKind.i64.wrap (x9 - (1 : Int))) n3 (NN A3 fun a3 => ixI x9 n3 (NN A3 fun a4 => (LdA H1 (a3.add ((IntKind.i64.wrap (x9 - (1 : Int))).toNat * 8)) 8 fun l3 => LdA H1 (a4.add (x9.toNat * 8)) 8 fun l4 => ixI x9 n3 (NN A3 fun a5 => StA H1 (a5.add (x9.toNat * 8)) l3.toArray 8 fun H2 => ixI (IntKind.i64.wrap (x9 - (1 : Int))) n3 (NN A3 fun a6 => StA H2 (a6.add ((IntKind.i64.wrap (x9 - (1 : Int))).toNat * 8)) l4.toArray 8 fun H3 => R4 A3 n3 m3 x6 x7 fd3 F3 C3 x8 (IntKind.i64.wrap (x9 - (1 : Int))) H3))) ∧ (LdA H1 (a4.add (x9.toNat * 8)) 8 fun l5 => LdA H1 (a3.add ((IntKind.i64.wrap (x9 - (1 : Int))).toNat * 8)) 8 fun l6 => ixI x9 n3 (NN A3 fun a7 => StA H1 (a7.add (x9.toNat * 8)) l6.toArray 8 fun H4 => ixI (IntKind.i64.wrap (x9 - (1 : Int))) n3 (NN A3 fun a8 => StA H4 (a8.add ((IntKind.i64.wrap (x9 - (1 : Int))).toNat * 8)) l5.toArray 8 fun H5 => R4 A3 n3 m3 x6 x7 fd3 F3 C3 x8 (IntKind.i64.wrap (x9 - (1 : Int))) H5)))))) (R1 A3 n3 m3 x6 x7 fd3 F3 C3 (IntKind.i64.wrap (x8 + (1 : Int))) H1)))) (R1 A3 n3 m3 x6 x7 fd3 F3 C3 (IntKind.i64.wrap (x8 + (1 : Int))) H)
def W_slices_insertionSortCmpFunc_api_Record.l1 (K : Value → Hp → Prop) : Nat → Option Addr → Nat → Nat → Int → Int → FuncId → Array Value → Array Value → Int → Hp → Prop
  | 0, _, _, _, _, _, _, _, _, _, _ => False
  | k + 1, A2, n2, m2, x3, x4, fd2, F2, C2, x5, H =>
    let R1 := W_slices_insertionSortCmpFunc_api_Record.l1 K k
    BIf (decide (x5 < x4)) ((∃ k, W_slices_insertionSortCmpFunc_api_Record.l4 K R1 k A2 n2 m2 x3 x4 fd2 F2 C2 x5 x5 H)) (K (.tuple #[]) H)
def W_slices_insertionSortCmpFunc_api_Record (A1 : Option Addr) (n1 : Nat) (m1 : Nat) (x1 : Int) (x2 : Int) (fd1 : FuncId) (F1 : Array Value) (C1 : Array Value) (H : Hp) (K : Value → Hp → Prop) : Prop :=
  (∃ k, W_slices_insertionSortCmpFunc_api_Record.l1 K k A1 n1 m1 x1 x2 fd1 F1 C1 (IntKind.i64.wrap (x1 + (1 : Int))) H)
def W_slices_insertionSortCmpFunc_api_Record.l1.L (K : Value → Hp → Prop) (k : Nat) : Mid := fun E D H =>
  DG (E.get? 0) fun w0 => DSl w0 fun A2 n2 m2 => DG (E.get? 1) fun w1 => DI .i64 w1 fun x3 => DG (E.get? 2) fun w2 => DI .i64 w2 fun x4 => DG (E.get? 3) fun w3 => DFn w3 fun fd2 F2 C2 => DG (E.get? 8) fun w8 => DI .i64 w8 fun x5 => DNilD D (W_slices_insertionSortCmpFunc_api_Record.l1 K k A2 n2 m2 x3 x4 fd2 F2 C2 x5 H)
def W_slices_insertionSortCmpFunc_api_Record.l4.L (K : Value → Hp → Prop) (R1 : Option Addr → Nat → Nat → Int → Int → FuncId → Array Value → Array Value → Int → Hp → Prop) (k : Nat) : Mid := fun E D H =>
  DG (E.get? 0) fun w0 => DSl w0 fun A3 n3 m3 => DG (E.get? 1) fun w1 => DI .i64 w1 fun x6 => DG (E.get? 2) fun w2 => DI .i64 w2 fun x7 => DG (E.get? 3) fun w3 => DFn w3 fun fd3 F3 C3 => DG (E.get? 8) fun w8 => DI .i64 w8 fun x8 => DG (E.get? 9) fun w9 => DI .i64 w9 fun x9 => DNilD D (W_slices_insertionSortCmpFunc_api_Record.l4 K R1 k A3 n3 m3 x6 x7 fd3 F3 C3 x8 x9 H)
def W_slices_insertionSortCmpFunc_api_Record.Λ4 (_ : Value → Hp → Prop) (_R1 : Option Addr → Nat → Nat → Int → Int → FuncId → Array Value → Array Value → Int → Hp → Prop) (_R4 : Option Addr → Nat → Nat → Int → Int → FuncId → Array Value → Array Value → Int → Int → Hp → Prop) : Cuts := Cuts.none (fun i => match Nat.beq i 6 with | true => some ([], [0, 0, 0, 0, 8, 0, 0, 64, 224, 480, 0, 0, 3072, 7168, 16355, 32739, 65535, 131071], 0) | false => match Nat.beq i 4 with | true => some ([], [0, 1, 2, 3, 4, 5, 6, 7, 8, 9, 10, 11, 12, 13], 14) | false => none)
def W_slices_insertionSortCmpFunc_api_Record.Λ1 (K : Value → Hp → Prop) (R1 : Option Addr → Nat → Nat → Int → Int → FuncId → Array Value → Array Value → Int → Hp → Prop) : Cuts := ⟨fun i => none, fun i => match Nat.beq i 4 with | true => some (fun E D H => ∃ k, W_slices_insertionSortCmpFunc_api_Record.l4.L K R1 k E D H) | false => none, (fun i => match Nat.beq i 6 with | true => some ([], [0, 0, 0, 0, 8, 0, 0, 64, 224, 480, 0, 0, 3072, 7168, 16355, 32739, 65535, 131071], 0) | false => match Nat.beq i 4 with | true => some ([], [0, 1, 2, 3, 4, 5, 6, 7, 8, 9, 10, 11, 12, 13], 14) | false => none)⟩
def W_slices_insertionSortCmpFunc_api_Record.Λ (K : Value → Hp → Prop) : Cuts := ⟨fun i => none, fun i => match Nat.beq i 1 with | true => some (fun E D H => ∃ k, W_slices_insertionSortCmpFunc_api_Record.l1.L K k E D H) | false => none, (fun i => match Nat.beq i 6 with | true => some ([], [0, 0, 0, 0, 8, 0, 0, 64, 224, 480, 0, 0, 3072, 7168, 16355, 32739, 65535, 131071], 0) | false => match Nat.beq i 4 with | true => some ([], [0, 1, 2, 3, 4, 5, 6, 7, 8, 9, 10, 11, 12, 13], 14) | false => none)⟩
theorem W_slices_insertionSortCmpFunc_api_Record.ok (A1 : Option Addr) (n1 : Nat) (m1 : Nat) (x1 : Int) (x2 : Int) (fd1 : FuncId) (F1 : Array Value) (C1 : Array Value) (H : Hp) (K : Value → Hp → Prop) (h : W_slices_insertionSortCmpFunc_api_Record A1 n1 m1 x1 x2 fd1 F1 C1 H K) : HCalls Tryz.prog 164 #[.slice A1 n1 m1, .int .i64 x1, .int .i64 x2, .func (.func fd1) F1 C1] H K :=
  hcalls Tryz.func164 rfl (Nat.le_of_ble_eq_true rfl) (hw_safe (Λ := (W_slices_insertionSortCmpFunc_api_Record.Λ K)) mixWlslices _ _ _ _ _ (Eq.mp (by kernel_rfl) h) (obs_seq obs_region rfl (obs_block (obs_loop rfl (fun E D H h => by
      refine Safe.loop' (W_slices_insertionSortCmpFunc_api_Record.l1.L K) (fun E D H h => ?_) (fun k E D H h => ?_) E D H h
      · obtain ⟨w0, e0, g1⟩ := DG.out h; obtain ⟨A2, n2, m2, rfl, g2⟩ := DSl.out g1; obtain ⟨w1, e1, g3⟩ := DG.out g2; obtain ⟨x3, rfl, g4⟩ := DI.out g3; obtain ⟨w2, e2, g5⟩ := DG.out g4; obtain ⟨x4, rfl, g6⟩ := DI.out g5; obtain ⟨w3, e3, g7⟩ := DG.out g6; obtain ⟨fd2, F2, C2, rfl, g8⟩ := DFn.out g7; obtain ⟨w8, e8, g9⟩ := DG.out g8; obtain ⟨x5, rfl, g10⟩ := DI.out g9; obtain ⟨rfl, h'⟩ := DNilD.out g10; exact h'
      · obtain ⟨w0, e0, g1⟩ := DG.out h
        obtain ⟨A2, n2, m2, rfl, g2⟩ := DSl.out g1
        obtain ⟨w1, e1, g3⟩ := DG.out g2
        obtain ⟨x3, rfl, g4⟩ := DI.out g3
        obtain ⟨w2, e2, g5⟩ := DG.out g4
        obtain ⟨x4, rfl, g6⟩ := DI.out g5
        obtain ⟨w3, e3, g7⟩ := DG.out g6
        obtain ⟨fd2, F2, C2, rfl, g8⟩ := DFn.out g7
        obtain ⟨w8, e8, g9⟩ := DG.out g8
        obtain ⟨x5, rfl, g10⟩ := DI.out g9
        obtain ⟨rfl, h'⟩ := DNilD.out g10
        exact (hw_safe (Λ := (W_slices_insertionSortCmpFunc_api_Record.Λ1 K (W_slices_insertionSortCmpFunc_api_Record.l1 K k))) mixWlslices _ _ [(0, .slice A2 n2 m2), (1, .int .i64 x3), (2, .int .i64 x4), (3, .func (.func fd2) F2 C2), (8, .int .i64 x5)] [] H (Eq.mp (by kernel_rfl) h') (obs_seq (obs_seq obs_region rfl (obs_cond obs_skip obs_exit)) rfl (obs_seq (obs_block (obs_seq obs_region rfl (obs_block (obs_loop rfl (fun E D H h => by
            refine Safe.loop' (W_slices_insertionSortCmpFunc_api_Record.l4.L K (W_slices_insertionSortCmpFunc_api_Record.l1 K k)) (fun E D H h => ?_) (fun k E D H h => ?_) E D H h
            · obtain ⟨w0, e0, g1⟩ := DG.out h; obtain ⟨A3, n3, m3, rfl, g2⟩ := DSl.out g1; obtain ⟨w1, e1, g3⟩ := DG.out g2; obtain ⟨x6, rfl, g4⟩ := DI.out g3; obtain ⟨w2, e2, g5⟩ := DG.out g4; obtain ⟨x7, rfl, g6⟩ := DI.out g5; obtain ⟨w3, e3, g7⟩ := DG.out g6; obtain ⟨fd3, F3, C3, rfl, g8⟩ := DFn.out g7; obtain ⟨w8, e8, g9⟩ := DG.out g8; obtain ⟨x8, rfl, g10⟩ := DI.out g9; obtain ⟨w9, e9, g11⟩ := DG.out g10; obtain ⟨x9, rfl, g12⟩ := DI.out g11; obtain ⟨rfl, h'⟩ := DNilD.out g12; exact h'
            · obtain ⟨w0, e0, g1⟩ := DG.out h
              obtain ⟨A3, n3, m3, rfl, g2⟩ := DSl.out g1
              obtain ⟨w1, e1, g3⟩ := DG.out g2
              obtain ⟨x6, rfl, g4⟩ := DI.out g3
              obtain ⟨w2, e2, g5⟩ := DG.out g4
              obtain ⟨x7, rfl, g6⟩ := DI.out g5
              obtain ⟨w3, e3, g7⟩ := DG.out g6
              obtain ⟨fd3, F3, C3, rfl, g8⟩ := DFn.out g7
              obtain ⟨w8, e8, g9⟩ := DG.out g8
              obtain ⟨x8, rfl, g10⟩ := DI.out g9
              obtain ⟨w9, e9, g11⟩ := DG.out g10
              obtain ⟨x9, rfl, g12⟩ := DI.out g11
              obtain ⟨rfl, h'⟩ := DNilD.out g12
              exact (hw_safe (Λ := (W_slices_insertionSortCmpFunc_api_Record.Λ4 K (W_slices_insertionSortCmpFunc_api_Record.l1 K k) (W_slices_insertionSortCmpFunc_api_Record.l4 K (W_slices_insertionSortCmpFunc_api_Record.l1 K k) k))) mixWlslices _ _ [(0, .slice A3 n3 m3), (1, .int .i64 x6), (2, .int .i64 x7), (3, .func (.func fd3) F3 C3), (8, .int .i64 x8), (9, .int .i64 x9)] [] H (Eq.mp (by kernel_rfl) h') (obs_seq (obs_seq obs_region rfl (obs_cond obs_skip obs_exit)) rfl (obs_seq (obs_block obs_region) rfl obs_region))).weaken (EnvLe.cons e0 (EnvLe.cons e1 (EnvLe.cons e2 (EnvLe.cons e3 (EnvLe.cons e8 (EnvLe.cons e9 (EnvLe.nil _))))))) (Hp.le_refl _)))))) rfl obs_region))).weaken (EnvLe.cons e0 (EnvLe.cons e1 (EnvLe.cons e2 (EnvLe.cons e3 (EnvLe.cons e8 (EnvLe.nil _)))))) (Hp.le_refl _))))))

-- (*slices.xorshift).Next
def W_slices_xorshift_Next (p1 : Option Addr) (H : Hp) (K : Value → Hp → Prop) : Prop :=
  NN p1 fun a1 => Ld H a1 fun v1 => DI .u64 v1 fun x1 => NN p1 fun a2 => Ld H a2 fun v2 => DI .u64 v2 fun x2 => (0 ≤ (13 : Int) ∧ NN p1 fun a3 => St H (a3.add 0) (.int .u64 (bXor .u64 x1 (shlI .u64 x2 (13 : Int)))) fun H1 => NN p1 fun a4 => Ld H1 a4 fun v3 => DI .u64 v3 fun x3 => NN p1 fun a5 => Ld H1 a5 fun v4 => DI .u64 v4 fun x4 => (0 ≤ (7 : Int) ∧ NN p1 fun a6 => St H1 (a6.add 0) (.int .u64 (bXor .u64 x3 (shrI .u64 x4 (7 : Int)))) fun H2 => NN p1 fun a7 => Ld H2 a7 fun v5 => DI .u64 v5 fun x5 => NN p1 fun a8 => Ld H2 a8 fun v6 => DI .u64 v6 fun x6 => (0 ≤ (17 : Int) ∧ NN p1 fun a9 => St H2 (a9.add 0) (.int .u64 (bXor .u64 x5 (shlI .u64 x6 (17 : Int)))) fun H3 => NN p1 fun a10 => Ld H3 a10 fun v7 => DI .u64 v7 fun x7 => K (.int .u64 x7) H3)))
def W_slices_xorshift_Next.Λ (_ : Value → Hp → Prop) : Cuts := Cuts.none (fun i => match Nat.beq i 3 with | true => some ([], [0, 1, 2, 3, 4, 5, 6, 7, 8], 9) | false => match Nat.beq i 2 with | true => some ([], [0, 1, 2, 3, 4, 5, 6, 7, 8], 9) | false => match Nat.beq i 1 with | true => some ([], [0, 1, 2, 3, 4, 5, 6, 7, 8], 9) | false => none)
theorem W_slices_xorshift_Next.ok (p1 : Option Addr) (H : Hp) (K : Value → Hp → Prop) (h : W_slices_xorshift_Next p1 H K) : HCalls Tryz.prog 206 #[.pointer p1] H K :=
  hcalls Tryz.func206 rfl (Nat.le_of_ble_eq_true rfl) (hw_safe (Λ := Cuts.none (fun i => match Nat.beq i 3 with | true => some ([], [0, 1, 2, 3, 4, 5, 6, 7, 8], 9) | false => match Nat.beq i 2 with | true => some ([], [0, 1, 2, 3, 4, 5, 6, 7, 8], 9) | false => match Nat.beq i 1 with | true => some ([], [0, 1, 2, 3, 4, 5, 6, 7, 8], 9) | false => none)) mixWlslices _ _ _ _ _ (Eq.mp (by kernel_rfl) h) (obs_none _ _ _ _ _))

end Go.Proofs.YtlgpappgnndgiaaGreatDoor.W

end
section
/-! Wlcmp -/
/- Formulas of functions, printed by wip/tools/hwp.py. -/
set_option maxRecDepth 100000
set_option linter.unusedVariables false
namespace Go.Proofs.YtlgpappgnndgiaaGreatDoor.W
open Go Go.Hw

theorem mixWlcmp : Tryz.prog.follows .mixedOrders = true := by kernel_rfl
-- cmp.Compare[uint64]
def W_cmp_Compare_uint64 (x1 : Int) (x2 : Int) (H : Hp) (K : Value → Hp → Prop) : Prop :=
  HCalls Tryz.prog 127 #[.int .u64 x1] H fun v1 H1 => DB v1 fun c1 => HCalls Tryz.prog 127 #[.int .u64 x2] H1 fun v2 H2 => DB v2 fun c2 => BIf c1 (BIf c2 (K (.int .i64 (0 : Int)) H2) (K (.int .i64 (-1 : Int)) H2)) (BIf c2 (K (.int .i64 (1 : Int)) H2) (BIf (decide (x1 < x2)) (K (.int .i64 (-1 : Int)) H2) (BIf (decide (x1 > x2)) (K (.int .i64 (1 : Int)) H2) (K (.int .i64 (0 : Int)) H2))))
def W_cmp_Compare_uint64.Λ (_ : Value → Hp → Prop) : Cuts := Cuts.none (fun _ => none)
theorem W_cmp_Compare_uint64.ok (x1 : Int) (x2 : Int) (H : Hp) (K : Value → Hp → Prop) (h : W_cmp_Compare_uint64 x1 x2 H K) : HCalls Tryz.prog 76 #[.int .u64 x1, .int .u64 x2] H K :=
  hcalls Tryz.func76 rfl (Nat.le_of_ble_eq_true rfl) (hw_safe (Λ := Cuts.none (fun _ => none)) mixWlcmp _ _ _ _ _ (Eq.mp (by kernel_rfl) h) (obs_none _ _ _ _ _))

-- cmp.isNaN[uint64]
def W_cmp_isNaN_uint64 (x1 : Int) (H : Hp) (K : Value → Hp → Prop) : Prop :=
  K (.bool (x1 != x1)) H
def W_cmp_isNaN_uint64.Λ (_ : Value → Hp → Prop) : Cuts := Cuts.none (fun _ => none)
theorem W_cmp_isNaN_uint64.ok (x1 : Int) (H : Hp) (K : Value → Hp → Prop) (h : W_cmp_isNaN_uint64 x1 H K) : HCalls Tryz.prog 127 #[.int .u64 x1] H K :=
  hcalls Tryz.func127 rfl (Nat.le_of_ble_eq_true rfl) (hw_safe (Λ := Cuts.none (fun _ => none)) mixWlcmp _ _ _ _ _ (Eq.mp (by kernel_rfl) h) (obs_none _ _ _ _ _))

-- cmp.Less[int]
def W_cmp_Less_int (x1 : Int) (x2 : Int) (H : Hp) (K : Value → Hp → Prop) : Prop :=
  HCalls Tryz.prog 245 #[.int .i64 x1] H fun v1 H1 => DB v1 fun c1 => BIf c1 (HCalls Tryz.prog 245 #[.int .i64 x2] H1 fun v2 H2 => DB v2 fun c2 => BIf (!c2) (K (.bool true) H2) (K (.bool (decide (x1 < x2))) H2)) (K (.bool (decide (x1 < x2))) H1)
def W_cmp_Less_int.Λ (_ : Value → Hp → Prop) : Cuts := Cuts.none (fun _ => none)
theorem W_cmp_Less_int.ok (x1 : Int) (x2 : Int) (H : Hp) (K : Value → Hp → Prop) (h : W_cmp_Less_int x1 x2 H K) : HCalls Tryz.prog 215 #[.int .i64 x1, .int .i64 x2] H K :=
  hcalls Tryz.func215 rfl (Nat.le_of_ble_eq_true rfl) (hw_safe (Λ := Cuts.none (fun _ => none)) mixWlcmp _ _ _ _ _ (Eq.mp (by kernel_rfl) h) (obs_none _ _ _ _ _))

-- cmp.isNaN[int]
def W_cmp_isNaN_int (x1 : Int) (H : Hp) (K : Value → Hp → Prop) : Prop :=
  K (.bool (x1 != x1)) H
def W_cmp_isNaN_int.Λ (_ : Value → Hp → Prop) : Cuts := Cuts.none (fun _ => none)
theorem W_cmp_isNaN_int.ok (x1 : Int) (H : Hp) (K : Value → Hp → Prop) (h : W_cmp_isNaN_int x1 H K) : HCalls Tryz.prog 245 #[.int .i64 x1] H K :=
  hcalls Tryz.func245 rfl (Nat.le_of_ble_eq_true rfl) (hw_safe (Λ := Cuts.none (fun _ => none)) mixWlcmp _ _ _ _ _ (Eq.mp (by kernel_rfl) h) (obs_none _ _ _ _ _))

end Go.Proofs.YtlgpappgnndgiaaGreatDoor.W

end
section
/-! Wring -/
/- Formulas of functions, printed by wip/tools/hwp.py. -/
set_option maxRecDepth 100000
set_option linter.unusedVariables false
namespace Go.Proofs.YtlgpappgnndgiaaGreatDoor.W
open Go Go.Hw

theorem mixWring : Tryz.prog.follows .mixedOrders = true := by kernel_rfl
-- ring.New
def W_ring_New (p1 : Option Addr) (x1 : Int) (x2 : Int) (x3 : Int) (H : Hp) (K : Value → Hp → Prop) : Prop :=
  Nw H (.obj (.cells #[.int .i64 x1, .int .i64 x2, .int .i64 x3] 30)) fun b1 H1 => BIf p1.isNone (K (.tuple #[.pointer none, .int .i64 (1 : Int)]) H1) (Ld H1 ((⟨b1, 0, none⟩ : Addr).add 1) fun v1 => DI .i64 v1 fun x4 => BIf (decide (x4 < (2 : Int))) (K (.tuple #[.pointer none, .int .i64 (2 : Int)]) H1) (Ld H1 ((⟨b1, 0, none⟩ : Addr).add 0) fun v2 => DI .i64 v2 fun x5 => BIf (decide (x5 < (0 : Int))) (K (.tuple #[.pointer none, .int .i64 (2 : Int)]) H1) (Ld H1 ((⟨b1, 0, none⟩ : Addr).add 0) fun v3 => DI .i64 v3 fun x6 => NN p1 fun a1 => QCall Tryz.prog 53 #[.pointer (some (a1.add 0))] H1 fun v4 => DI .i64 v4 fun x7 => BIf (decide (x6 ≥ x7)) (K (.tuple #[.pointer none, .int .i64 (2 : Int)]) H1) (Ld H1 ((⟨b1, 0, none⟩ : Addr).add 1) fun v5 => DI .i64 v5 fun x8 => NN p1 fun a2 => QCall Tryz.prog 53 #[.pointer (some (a2.add 0))] H1 fun v6 => DI .i64 v6 fun x9 => Ld H1 ((⟨b1, 0, none⟩ : Addr).add 0) fun v7 => DI .i64 v7 fun x10 => BIf (decide (x8 > (IntKind.i64.wrap (x9 - x10)))) (K (.tuple #[.pointer none, .int .i64 (2 : Int)]) H1) (LdA H1 (⟨b1, 0, none⟩ : Addr) 3 fun l1 => DCons l1.toArray.toList fun v8 l2 => DI .i64 v8 fun x11 => DCons l2 fun v9 l3 => DI .i64 v9 fun x12 => DCons l3 fun v10 l4 => DI .i64 v10 fun x13 => DNil l4 (Nw H1 (.obj (.cells #[.int .i64 x11, .int .i64 x12, .int .i64 x13, .pointer p1] 150)) fun b2 H2 => K (.tuple #[.pointer (some (⟨b2, 0, none⟩ : Addr)), .int .i64 (0 : Int)]) H2))))))
def W_ring_New.Λ (_ : Value → Hp → Prop) : Cuts := Cuts.none (fun _ => none)
theorem W_ring_New.ok (p1 : Option Addr) (x1 : Int) (x2 : Int) (x3 : Int) (H : Hp) (K : Value → Hp → Prop) (h : W_ring_New p1 x1 x2 x3 H K) : HCalls Tryz.prog 24 #[.pointer p1, .agg #[.int .i64 x1, .int .i64 x2, .int .i64 x3]] H K :=
  hcalls Tryz.func24 rfl (Nat.le_of_ble_eq_true rfl) (hw_safe (Λ := Cuts.none (fun _ => none)) mixWring _ _ _ _ _ (Eq.mp (by kernel_rfl) h) (obs_none _ _ _ _ _))

-- (*ring.Ring).Scan
def W_ring_Ring_Scan.j5 (K : Value → Hp → Prop) (R2 : Option Addr → Option Addr → Nat → Nat → Int → Int → Hp → Prop) (p5 : Option Addr) (A4 : Option Addr) (n4 : Nat) (m4 : Nat) (x8 : Int) (A5 : Option Addr) (n5 : Nat) (m5 : Nat) (x9 : Int) (x10 : Int) (x11 : Int) (H : Hp) : Prop :=
  BIf (x9 != (0 : Int)) (K (.tuple #[.slice none 0 0, .int .i64 x9]) H) (HCalls Tryz.prog 72 #[.slice A5 n5 m5] H fun v12 H3 => DTup v12 fun l7 => DCons l7 fun v13 l8 => DA v13 fun y1 => DCons l8 fun v14 l9 => DI .i64 v14 fun x12 => DNil l9 (Nw H3 (.obj (.cells #[.int .u64 (0 : Int), .int .i64 (0 : Int), .int .i64 (0 : Int), .int .i64 (0 : Int), .int .i64 (0 : Int), .int .u32 (0 : Int), .int .u32 (0 : Int), .int .u32 (0 : Int)] 91)) fun b1 H4 => StA H4 (⟨b1, 0, none⟩ : Addr) y1 8 fun H5 => BIf (x12 == (0 : Int)) (Ld H5 ((⟨b1, 0, none⟩ : Addr).add 0) fun v15 => DI .u64 v15 fun x13 => QCall Tryz.prog 73 #[.pointer p5, .int .u64 x13] H5 fun v16 => DI .i64 v16 fun x14 => NN p5 fun a4 => Ld H5 ((a4.add 0).add 0) fun v17 => DI .i64 v17 fun x15 => BIf (x14 == (IntKind.i64.wrap (x15 + x8))) (LdA H5 (⟨b1, 0, none⟩ : Addr) 8 fun l10 => DCons l10.toArray.toList fun v18 l11 => DI .u64 v18 fun x16 => DCons l11 fun v19 l12 => DI .i64 v19 fun x17 => DCons l12 fun v20 l13 => DI .i64 v20 fun x18 => DCons l13 fun v21 l14 => DI .i64 v21 fun x19 => DCons l14 fun v22 l15 => DI .i64 v22 fun x20 => DCons l15 fun v23 l16 => DI .u32 v23 fun x21 => DCons l16 fun v24 l17 => DI .u32 v24 fun x22 => DCons l17 fun v25 l18 => DI .u32 v25 fun x23 => DNil l18 (Nw H5 (.row [.int .u64 x16, .int .i64 x17, .int .i64 x18, .int .i64 x19, .int .i64 x20, .int .u32 x21, .int .u32 x22, .int .u32 x23] 91 8) fun b2 H6 => AppK Tryz.prog 91 (.slice A4 n4 m4) (.slice (some ⟨b2, 0, none⟩) 1 1) H6 fun v26 H7 => DSl v26 fun A6 n6 m6 => R2 p5 A6 n6 m6 x10 (IntKind.i64.wrap (x11 + (1 : Int))) H7)) (R2 p5 A4 n4 m4 x10 (IntKind.i64.wrap (x11 + (1 : Int))) H5)) (R2 p5 A4 n4 m4 x10 (IntKind.i64.wrap (x11 + (1 : Int))) H5)))
def W_ring_Ring_Scan.l2 (K : Value → Hp → Prop) : Nat → Option Addr → Option Addr → Nat → Nat → Int → Int → Hp → Prop
  | 0, _, _, _, _, _, _, _ => False
  | k + 1, p2, A1, n1, m1, x2, x3, H =>
    let R2 := W_ring_Ring_Scan.l2 K k
    BIf (decide (x3 < x2)) (NN p2 fun a2 => NN p2 fun a3 => (Ld H (a2.add 3) fun v2 => DP v2 fun p3 => Ld H ((a3.add 0).add 0) fun v3 => DI .i64 v3 fun x4 => HCalls Tryz.prog 71 #[.pointer p3, .int .i64 (IntKind.i64.wrap (x4 + x3))] H fun v4 H1 => DTup v4 fun l1 => DCons l1 fun v5 l2 => DSl v5 fun A2 n2 m2 => DCons l2 fun v6 l3 => DI .i64 v6 fun x5 => DNil l3 (W_ring_Ring_Scan.j5 K R2 p2 A1 n1 m1 x3 A2 n2 m2 x5 x2 x3 H1)) ∧ (Ld H ((a3.add 0).add 0) fun v7 => DI .i64 v7 fun x6 => Ld H (a2.add 3) fun v8 => DP v8 fun p4 => HCalls Tryz.prog 71 #[.pointer p4, .int .i64 (IntKind.i64.wrap (x6 + x3))] H fun v9 H2 => DTup v9 fun l4 => DCons l4 fun v10 l5 => DSl v10 fun A3 n3 m3 => DCons l5 fun v11 l6 => DI .i64 v11 fun x7 => DNil l6 (W_ring_Ring_Scan.j5 K R2 p2 A1 n1 m1 x3 A3 n3 m3 x7 x2 x3 H2))) (HCalls Tryz.prog 74 #[.slice A1 n1 m1, .func (.func 75) #[] #[]] H fun v27 H8 => K (.tuple #[.slice A1 n1 m1, .int .i64 (0 : Int)]) H8)
def W_ring_Ring_Scan (p1 : Option Addr) (H : Hp) (K : Value → Hp → Prop) : Prop :=
  NN p1 fun a1 => Ld H ((a1.add 0).add 1) fun v1 => DI .i64 v1 fun x1 => (∃ k, W_ring_Ring_Scan.l2 K k p1 none 0 0 x1 (0 : Int) H)
def W_ring_Ring_Scan.l2.L (K : Value → Hp → Prop) (k : Nat) : Mid := fun E D H =>
  DG (E.get? 0) fun w0 => DP w0 fun p2 => DG (E.get? 2) fun w2 => DSl w2 fun A1 n1 m1 => DG (E.get? 13) fun w13 => DI .i64 w13 fun x2 => DG (E.get? 14) fun w14 => DI .i64 w14 fun x3 => DNilD D (W_ring_Ring_Scan.l2 K k p2 A1 n1 m1 x2 x3 H)
def W_ring_Ring_Scan.Λ2 (K : Value → Hp → Prop) (R2 : Option Addr → Option Addr → Nat → Nat → Int → Int → Hp → Prop) : Cuts := ⟨fun i => match Nat.beq i 5 with | true => some (fun E D H => DG (E.get? 0) fun w0 => DP w0 fun p5 => DG (E.get? 2) fun w2 => DSl w2 fun A4 n4 m4 => DG (E.get? 4) fun w4 => DI .i64 w4 fun x8 => DG (E.get? 5) fun w5 => DSl w5 fun A5 n5 m5 => DG (E.get? 6) fun w6 => DI .i64 w6 fun x9 => DG (E.get? 13) fun w13 => DI .i64 w13 fun x10 => DG (E.get? 14) fun w14 => DI .i64 w14 fun x11 => DNilD D (W_ring_Ring_Scan.j5 K R2 p5 A4 n4 m4 x8 A5 n5 m5 x9 x10 x11 H)) | false => none, fun i => none, (fun i => match Nat.beq i 4 with | true => some ([], [0, 1, 3, 7, 0, 16, 48, 112, 240, 0, 1008, 2047, 4095, 8191, 8191, 16383, 65535], 0) | false => none)⟩
def W_ring_Ring_Scan.Λ (K : Value → Hp → Prop) : Cuts := ⟨fun i => none, fun i => match Nat.beq i 2 with | true => some (fun E D H => ∃ k, W_ring_Ring_Scan.l2.L K k E D H) | false => none, (fun i => match Nat.beq i 4 with | true => some ([], [0, 1, 3, 7, 0, 16, 48, 112, 240, 0, 1008, 2047, 4095, 8191, 8191, 16383, 65535], 0) | false => none)⟩
theorem W_ring_Ring_Scan.ok (p1 : Option Addr) (H : Hp) (K : Value → Hp → Prop) (h : W_ring_Ring_Scan p1 H K) : HCalls Tryz.prog 25 #[.pointer p1] H K :=
  hcalls Tryz.func25 rfl (Nat.le_of_ble_eq_true rfl) (hw_safe (Λ := (W_ring_Ring_Scan.Λ K)) mixWring _ _ _ _ _ (Eq.mp (by kernel_rfl) h) (obs_seq obs_region rfl (obs_seq (obs_seq obs_region rfl (obs_block (obs_loop rfl (fun E D H h => by
      refine Safe.loop' (W_ring_Ring_Scan.l2.L K) (fun E D H h => ?_) (fun k E D H h => ?_) E D H h
      · obtain ⟨w0, e0, g1⟩ := DG.out h; obtain ⟨p2, rfl, g2⟩ := DP.out g1; obtain ⟨w2, e2, g3⟩ := DG.out g2; obtain ⟨A1, n1, m1, rfl, g4⟩ := DSl.out g3; obtain ⟨w13, e13, g5⟩ := DG.out g4; obtain ⟨x2, rfl, g6⟩ := DI.out g5; obtain ⟨w14, e14, g7⟩ := DG.out g6; obtain ⟨x3, rfl, g8⟩ := DI.out g7; obtain ⟨rfl, h'⟩ := DNilD.out g8; exact h'
      · obtain ⟨w0, e0, g1⟩ := DG.out h
        obtain ⟨p2, rfl, g2⟩ := DP.out g1
        obtain ⟨w2, e2, g3⟩ := DG.out g2
        obtain ⟨A1, n1, m1, rfl, g4⟩ := DSl.out g3
        obtain ⟨w13, e13, g5⟩ := DG.out g4
        obtain ⟨x2, rfl, g6⟩ := DI.out g5
        obtain ⟨w14, e14, g7⟩ := DG.out g6
        obtain ⟨x3, rfl, g8⟩ := DI.out g7
        obtain ⟨rfl, h'⟩ := DNilD.out g8
        exact (hw_safe (Λ := (W_ring_Ring_Scan.Λ2 K (W_ring_Ring_Scan.l2 K k))) mixWring _ _ [(0, .pointer p2), (2, .slice A1 n1 m1), (13, .int .i64 x2), (14, .int .i64 x3)] [] H (Eq.mp (by kernel_rfl) h') (obs_seq obs_region rfl (obs_seq (obs_cond obs_skip obs_exit) rfl (obs_seq (obs_block (obs_seq obs_region rfl (obs_seqc obs_region rfl (fun E D H h => by
            obtain ⟨w0, e0, g1⟩ := DG.out h
            obtain ⟨p5, rfl, g2⟩ := DP.out g1
            obtain ⟨w2, e2, g3⟩ := DG.out g2
            obtain ⟨A4, n4, m4, rfl, g4⟩ := DSl.out g3
            obtain ⟨w4, e4, g5⟩ := DG.out g4
            obtain ⟨x8, rfl, g6⟩ := DI.out g5
            obtain ⟨w5, e5, g7⟩ := DG.out g6
            obtain ⟨A5, n5, m5, rfl, g8⟩ := DSl.out g7
            obtain ⟨w6, e6, g9⟩ := DG.out g8
            obtain ⟨x9, rfl, g10⟩ := DI.out g9
            obtain ⟨w13, e13, g11⟩ := DG.out g10
            obtain ⟨x10, rfl, g12⟩ := DI.out g11
            obtain ⟨w14, e14, g13⟩ := DG.out g12
            obtain ⟨x11, rfl, g14⟩ := DI.out g13
            obtain ⟨rfl, h'⟩ := DNilD.out g14
            exact (hw_safe (Λ := (W_ring_Ring_Scan.Λ2 K (W_ring_Ring_Scan.l2 K k))) mixWring _ _ [(0, .pointer p5), (2, .slice A4 n4 m4), (4, .int .i64 x8), (5, .slice A5 n5 m5), (6, .int .i64 x9), (13, .int .i64 x10), (14, .int .i64 x11)] [] H (Eq.mp (by kernel_rfl) h') (obs_seq (obs_seq obs_region rfl (obs_cond (obs_seq obs_region rfl obs_ret) obs_skip)) rfl (obs_seq obs_region rfl (obs_seq obs_region rfl (obs_cond obs_region obs_skip))))).weaken (EnvLe.cons e0 (EnvLe.cons e2 (EnvLe.cons e4 (EnvLe.cons e5 (EnvLe.cons e6 (EnvLe.cons e13 (EnvLe.cons e14 (EnvLe.nil _)))))))) (Hp.le_refl _))))) rfl obs_region)))).weaken (EnvLe.cons e0 (EnvLe.cons e2 (EnvLe.cons e13 (EnvLe.cons e14 (EnvLe.nil _))))) (Hp.le_refl _))))) rfl (obs_seq obs_region rfl (obs_seq obs_region rfl obs_ret)))))

-- (*ring.Ring).Append
def W_ring_Ring_Append.j9 (K : Value → Hp → Prop) (p5 : Option Addr) (a5 : Addr) (A5 : Option Addr) (n5 : Nat) (m5 : Nat) (H : Hp) : Prop :=
  NN p5 fun a6 => Ld H (a6.add 3) fun v24 => DP v24 fun p6 => Ld H (a5.add 0) fun v25 => DI .u64 v25 fun x13 => QCall Tryz.prog 73 #[.pointer p5, .int .u64 x13] H fun v26 => DI .i64 v26 fun x14 => HCalls Tryz.prog 42 #[.pointer p6, .int .i64 x14, .slice A5 n5 m5] H fun v27 H12 => DI .i64 v27 fun x15 => BIf (x15 != (0 : Int)) (K (.int .i64 x15) H12) (NN p5 fun a7 => Ld H12 (a7.add 3) fun v28 => DP v28 fun p7 => HCalls Tryz.prog 56 #[.pointer p7] H12 fun v29 H13 => DI .i64 v29 fun x16 => K (.int .i64 x16) H13)
def W_ring_Ring_Append.j2 (K : Value → Hp → Prop) (p4 : Option Addr) (a4 : Addr) (A4 : Option Addr) (n4 : Nat) (m4 : Nat) (x7 : Int) (H : Hp) : Prop :=
  BIf (x7 != (0 : Int)) (K (.int .i64 (10 : Int)) H) (HCalls Tryz.prog 32 #[.pointer p4] H fun v15 H8 => DTup v15 fun l13 => DCons l13 fun v16 l14 => DA v16 fun y2 => DCons l14 fun v17 l15 => DB v17 fun c1 => DCons l15 fun v18 l16 => DI .i64 v18 fun x8 => DNil l16 (Nw H8 (.obj (.cells #[.int .u64 (0 : Int), .int .i64 (0 : Int), .int .i64 (0 : Int), .int .i64 (0 : Int), .int .i64 (0 : Int), .int .u32 (0 : Int), .int .u32 (0 : Int), .int .u32 (0 : Int)] 91)) fun b2 H9 => StA H9 (⟨b2, 0, none⟩ : Addr) y2 8 fun H10 => BIf (x8 != (0 : Int)) (K (.int .i64 x8) H10) (BIf c1 (LdA H10 (⟨b2, 0, none⟩ : Addr) 8 fun l17 => LdA H10 a4 8 fun l18 => HCalls Tryz.prog 79 #[.agg l17.toArray, .agg l18.toArray] H10 fun v19 H11 => DB v19 fun c2 => BIf (!c2) (K (.int .i64 (5 : Int)) H11) (BIf (!c1) (Ld H11 (a4.add 0) fun v20 => DI .u64 v20 fun x9 => BIf (x9 != (1 : Int)) (K (.int .i64 (5 : Int)) H11) (Ld H11 (a4.add 1) fun v22 => DI .i64 v22 fun x11 => BIf (x11 != (1 : Int)) (K (.int .i64 (5 : Int)) H11) (W_ring_Ring_Append.j9 K p4 a4 A4 n4 m4 H11))) (W_ring_Ring_Append.j9 K p4 a4 A4 n4 m4 H11))) (BIf (!c1) (Ld H10 (a4.add 0) fun v21 => DI .u64 v21 fun x10 => BIf (x10 != (1 : Int)) (K (.int .i64 (5 : Int)) H10) (Ld H10 (a4.add 1) fun v23 => DI .i64 v23 fun x12 => BIf (x12 != (1 : Int)) (K (.int .i64 (5 : Int)) H10) (W_ring_Ring_Append.j9 K p4 a4 A4 n4 m4 H10))) (W_ring_Ring_Append.j9 K p4 a4 A4 n4 m4 H10)))))
def W_ring_Ring_Append (p1 : Option Addr) (y1 : Array Value) (H : Hp) (K : Value → Hp → Prop) : Prop :=
  Nw H (.obj (.cells y1 91)) fun b1 H1 => NN p1 fun a1 => (LdA H1 (⟨b1, 0, none⟩ : Addr) 8 fun l1 => Ld H1 (a1.add 3) fun v1 => DP v1 fun p2 => NN p2 fun a2 => HCalls Tryz.prog 78 #[.pointer (some (a2.add 0))] H1 fun v2 H2 => DI .i64 v2 fun x1 => HCalls Tryz.prog 77 #[.agg l1.toArray, .int .i64 x1] H2 fun v3 H3 => DTup v3 fun l2 => DCons l2 fun v4 l3 => DSl v4 fun A1 n1 m1 => DCons l3 fun v5 l4 => DI .i64 v5 fun x2 => DNil l4 (W_ring_Ring_Append.j2 K p1 (⟨b1, 0, none⟩ : Addr) A1 n1 m1 x2 H3)) ∧ (Ld H1 (a1.add 3) fun v6 => DP v6 fun p3 => NN p3 fun a3 => (LdA H1 (⟨b1, 0, none⟩ : Addr) 8 fun l5 => HCalls Tryz.prog 78 #[.pointer (some (a3.add 0))] H1 fun v7 H4 => DI .i64 v7 fun x3 => HCalls Tryz.prog 77 #[.agg l5.toArray, .int .i64 x3] H4 fun v8 H5 => DTup v8 fun l6 => DCons l6 fun v9 l7 => DSl v9 fun A2 n2 m2 => DCons l7 fun v10 l8 => DI .i64 v10 fun x4 => DNil l8 (W_ring_Ring_Append.j2 K p1 (⟨b1, 0, none⟩ : Addr) A2 n2 m2 x4 H5)) ∧ (HCalls Tryz.prog 78 #[.pointer (some (a3.add 0))] H1 fun v11 H6 => DI .i64 v11 fun x5 => LdA H6 (⟨b1, 0, none⟩ : Addr) 8 fun l9 => HCalls Tryz.prog 77 #[.agg l9.toArray, .int .i64 x5] H6 fun v12 H7 => DTup v12 fun l10 => DCons l10 fun v13 l11 => DSl v13 fun A3 n3 m3 => DCons l11 fun v14 l12 => DI .i64 v14 fun x6 => DNil l12 (W_ring_Ring_Append.j2 K p1 (⟨b1, 0, none⟩ : Addr) A3 n3 m3 x6 H7)))
def W_ring_Ring_Append.Λ (K : Value → Hp → Prop) : Cuts := ⟨fun i => match Nat.beq i 9 with | true => some (fun E D H => DG (E.get? 0) fun w0 => DP w0 fun p5 => DG (E.get? 3) fun w3 => DP w3 fun pw3 => NN pw3 fun a5 => DG (E.get? 5) fun w5 => DSl w5 fun A5 n5 m5 => DNilD D (W_ring_Ring_Append.j9 K p5 a5 A5 n5 m5 H)) | false => match Nat.beq i 2 with | true => some (fun E D H => DG (E.get? 0) fun w0 => DP w0 fun p4 => DG (E.get? 3) fun w3 => DP w3 fun pw3 => NN pw3 fun a4 => DG (E.get? 5) fun w5 => DSl w5 fun A4 n4 m4 => DG (E.get? 6) fun w6 => DI .i64 w6 fun x7 => DNilD D (W_ring_Ring_Append.j2 K p4 a4 A4 n4 m4 x7 H)) | false => none, fun i => none, (fun i => match Nat.beq i 9 with | true => some ([], [0, 1, 2, 3, 4, 5, 6, 7, 8], 9) | false => match Nat.beq i 1 with | true => some ([], [0, 0, 2, 6, 14, 30, 62, 126, 255, 511, 1023, 1023, 2047, 8191], 0) | false => none)⟩
theorem W_ring_Ring_Append.ok (p1 : Option Addr) (y1 : Array Value) (H : Hp) (K : Value → Hp → Prop) (h : W_ring_Ring_Append p1 y1 H K) : HCalls Tryz.prog 28 #[.pointer p1, .agg y1] H K :=
  hcalls Tryz.func28 rfl (Nat.le_of_ble_eq_true rfl) (hw_safe (Λ := (W_ring_Ring_Append.Λ K)) mixWring _ _ _ _ _ (Eq.mp (by kernel_rfl) h) (obs_seq obs_region rfl (obs_seqc obs_region rfl (fun E D H h => by
      obtain ⟨w0, e0, g1⟩ := DG.out h
      obtain ⟨p4, rfl, g2⟩ := DP.out g1
      obtain ⟨w3, e3, g3⟩ := DG.out g2
      obtain ⟨pw3, rfl, g4⟩ := DP.out g3
      obtain ⟨a4, rfl, g5⟩ := NN.out g4
      obtain ⟨w5, e5, g6⟩ := DG.out g5
      obtain ⟨A4, n4, m4, rfl, g7⟩ := DSl.out g6
      obtain ⟨w6, e6, g8⟩ := DG.out g7
      obtain ⟨x7, rfl, g9⟩ := DI.out g8
      obtain ⟨rfl, h'⟩ := DNilD.out g9
      exact (hw_safe (Λ := (W_ring_Ring_Append.Λ K)) mixWring _ _ [(0, .pointer p4), (3, .pointer (some a4)), (5, .slice A4 n4 m4), (6, .int .i64 x7)] [] H (Eq.mp (by kernel_rfl) h') (obs_seq (obs_seq obs_region rfl (obs_cond (obs_seq obs_region rfl obs_ret) obs_skip)) rfl (obs_seq obs_region rfl (obs_seqc (obs_block (obs_seq obs_region rfl (obs_cond (obs_seq obs_region rfl obs_ret) (obs_seq obs_region rfl (obs_cond (obs_seq obs_region rfl obs_ret) obs_skip))))) rfl (fun E D H h => by
          obtain ⟨w0, e0, g1⟩ := DG.out h
          obtain ⟨p5, rfl, g2⟩ := DP.out g1
          obtain ⟨w3, e3, g3⟩ := DG.out g2
          obtain ⟨pw3, rfl, g4⟩ := DP.out g3
          obtain ⟨a5, rfl, g5⟩ := NN.out g4
          obtain ⟨w5, e5, g6⟩ := DG.out g5
          obtain ⟨A5, n5, m5, rfl, g7⟩ := DSl.out g6
          obtain ⟨rfl, h'⟩ := DNilD.out g7
          exact (hw_safe (Λ := (W_ring_Ring_Append.Λ K)) mixWring _ _ [(0, .pointer p5), (3, .pointer (some a5)), (5, .slice A5 n5 m5)] [] H (Eq.mp (by kernel_rfl) h') (obs_seq (obs_seq obs_region rfl (obs_seq obs_region rfl (obs_cond (obs_seq obs_region rfl obs_ret) obs_skip))) rfl (obs_seq obs_region rfl obs_ret))).weaken (EnvLe.cons e0 (EnvLe.cons e3 (EnvLe.cons e5 (EnvLe.nil _)))) (Hp.le_refl _)))))).weaken (EnvLe.cons e0 (EnvLe.cons e3 (EnvLe.cons e5 (EnvLe.cons e6 (EnvLe.nil _))))) (Hp.le_refl _)))))

-- (*ring.Ring).Last
def W_ring_Ring_Last (p1 : Option Addr) (H : Hp) (K : Value → Hp → Prop) : Prop :=
  Nw H (.obj (.cells #[.int .u64 (0 : Int), .int .i64 (0 : Int), .int .i64 (0 : Int), .int .i64 (0 : Int), .int .i64 (0 : Int), .int .u32 (0 : Int), .int .u32 (0 : Int), .int .u32 (0 : Int)] 91)) fun b1 H1 => HCalls Tryz.prog 25 #[.pointer p1] H1 fun v1 H2 => DTup v1 fun l1 => DCons l1 fun v2 l2 => DSl v2 fun A1 n1 m1 => DCons l2 fun v3 l3 => DI .i64 v3 fun x1 => DNil l3 (BIf (x1 != (0 : Int)) (StA H2 (⟨b1, 0, none⟩ : Addr) #[.int .u64 (0 : Int), .int .i64 (0 : Int), .int .i64 (0 : Int), .int .i64 (0 : Int), .int .i64 (0 : Int), .int .u32 (0 : Int), .int .u32 (0 : Int), .int .u32 (0 : Int)] 8 fun H3 => LdA H3 (⟨b1, 0, none⟩ : Addr) 8 fun l5 => K (.tuple #[.agg l5.toArray, .bool false, .int .i64 x1]) H3) (BIf (((n1 : Nat) : Int) == (0 : Int)) (StA H2 (⟨b1, 0, none⟩ : Addr) #[.int .u64 (0 : Int), .int .i64 (0 : Int), .int .i64 (0 : Int), .int .i64 (0 : Int), .int .i64 (0 : Int), .int .u32 (0 : Int), .int .u32 (0 : Int), .int .u32 (0 : Int)] 8 fun H4 => LdA H4 (⟨b1, 0, none⟩ : Addr) 8 fun l6 => K (.tuple #[.agg l6.toArray, .bool false, .int .i64 x1]) H4) (ixI (IntKind.i64.wrap (((n1 : Nat) : Int) - (1 : Int))) n1 (NN A1 fun a1 => LdA H2 (a1.add ((IntKind.i64.wrap (((n1 : Nat) : Int) - (1 : Int))).toNat * 8)) 8 fun l4 => StA H2 (⟨b1, 0, none⟩ : Addr) l4.toArray 8 fun H5 => LdA H5 (⟨b1, 0, none⟩ : Addr) 8 fun l7 => K (.tuple #[.agg l7.toArray, .bool true, .int .i64 (0 : Int)]) H5))))
def W_ring_Ring_Last.Λ (_ : Value → Hp → Prop) : Cuts := Cuts.none (fun _ => none)
theorem W_ring_Ring_Last.ok (p1 : Option Addr) (H : Hp) (K : Value → Hp → Prop) (h : W_ring_Ring_Last p1 H K) : HCalls Tryz.prog 32 #[.pointer p1] H K :=
  hcalls Tryz.func32 rfl (Nat.le_of_ble_eq_true rfl) (hw_safe (Λ := Cuts.none (fun _ => none)) mixWring _ _ _ _ _ (Eq.mp (by kernel_rfl) h) (obs_none _ _ _ _ _))

-- (*ring.Ring).Slots
def W_ring_Ring_Slots (p1 : Option Addr) (H : Hp) (K : Value → Hp → Prop) : Prop :=
  NN p1 fun a1 => Ld H ((a1.add 0).add 1) fun v1 => DI .i64 v1 fun x1 => K (.int .i64 x1) H
def W_ring_Ring_Slots.Λ (_ : Value → Hp → Prop) : Cuts := Cuts.none (fun _ => none)
theorem W_ring_Ring_Slots.ok (p1 : Option Addr) (H : Hp) (K : Value → Hp → Prop) (h : W_ring_Ring_Slots p1 H K) : HCalls Tryz.prog 34 #[.pointer p1] H K :=
  hcalls Tryz.func34 rfl (Nat.le_of_ble_eq_true rfl) (hw_safe (Λ := Cuts.none (fun _ => none)) mixWring _ _ _ _ _ (Eq.mp (by kernel_rfl) h) (obs_none _ _ _ _ _))

-- (*ring.Ring).Clear
def W_ring_Ring_Clear.l2 (K : Value → Hp → Prop) : Nat → Option Addr → Int → Int → Hp → Prop
  | 0, _, _, _, _ => False
  | k + 1, p2, x2, x3, H =>
    let R2 := W_ring_Ring_Clear.l2 K k
    BIf (decide (x3 < x2)) (NN p2 fun a2 => NN p2 fun a3 => NN p2 fun a4 => Ld H (a4.add 3) fun v2 => DP v2 fun p3 => NN p3 fun a5 => QCall Tryz.prog 78 #[.pointer (some (a5.add 0))] H fun v3 => DI .i64 v3 fun x4 => (Ld H (a2.add 3) fun v4 => DP v4 fun p4 => (Ld H ((a3.add 0).add 0) fun v5 => DI .i64 v5 fun x5 => MkS Tryz.prog 5 x4 x4 H fun v6 H1 => DSl v6 fun A1 n1 m1 => HCalls Tryz.prog 42 #[.pointer p4, .int .i64 (IntKind.i64.wrap (x5 + x3)), .slice A1 n1 m1] H1 fun v7 H2 => DI .i64 v7 fun x6 => BIf (x6 != (0 : Int)) (K (.int .i64 x6) H2) (R2 p2 x2 (IntKind.i64.wrap (x3 + (1 : Int))) H2)) ∧ (MkS Tryz.prog 5 x4 x4 H fun v8 H3 => DSl v8 fun A2 n2 m2 => Ld H3 ((a3.add 0).add 0) fun v9 => DI .i64 v9 fun x7 => HCalls Tryz.prog 42 #[.pointer p4, .int .i64 (IntKind.i64.wrap (x7 + x3)), .slice A2 n2 m2] H3 fun v10 H4 => DI .i64 v10 fun x8 => BIf (x8 != (0 : Int)) (K (.int .i64 x8) H4) (R2 p2 x2 (IntKind.i64.wrap (x3 + (1 : Int))) H4))) ∧ (Ld H ((a3.add 0).add 0) fun v11 => DI .i64 v11 fun x9 => (Ld H (a2.add 3) fun v12 => DP v12 fun p5 => MkS Tryz.prog 5 x4 x4 H fun v13 H5 => DSl v13 fun A3 n3 m3 => HCalls Tryz.prog 42 #[.pointer p5, .int .i64 (IntKind.i64.wrap (x9 + x3)), .slice A3 n3 m3] H5 fun v14 H6 => DI .i64 v14 fun x10 => BIf (x10 != (0 : Int)) (K (.int .i64 x10) H6) (R2 p2 x2 (IntKind.i64.wrap (x3 + (1 : Int))) H6)) ∧ (MkS Tryz.prog 5 x4 x4 H fun v15 H7 => DSl v15 fun A4 n4 m4 => Ld H7 (a2.add 3) fun v16 => DP v16 fun p6 => HCalls Tryz.prog 42 #[.pointer p6, .int .i64 (IntKind.i64.wrap (x9 + x3)), .slice A4 n4 m4] H7 fun v17 H8 => DI .i64 v17 fun x11 => BIf (x11 != (0 : Int)) (K (.int .i64 x11) H8) (R2 p2 x2 (IntKind.i64.wrap (x3 + (1 : Int))) H8))) ∧ (MkS Tryz.prog 5 x4 x4 H fun v18 H9 => DSl v18 fun A5 n5 m5 => Ld H9 (a2.add 3) fun v19 => DP v19 fun p7 => Ld H9 ((a3.add 0).add 0) fun v20 => DI .i64 v20 fun x12 => HCalls Tryz.prog 42 #[.pointer p7, .int .i64 (IntKind.i64.wrap (x12 + x3)), .slice A5 n5 m5] H9 fun v21 H10 => DI .i64 v21 fun x13 => BIf (x13 != (0 : Int)) (K (.int .i64 x13) H10) (R2 p2 x2 (IntKind.i64.wrap (x3 + (1 : Int))) H10))) (NN p2 fun a6 => Ld H (a6.add 3) fun v22 => DP v22 fun p8 => HCalls Tryz.prog 56 #[.pointer p8] H fun v23 H11 => DI .i64 v23 fun x14 => K (.int .i64 x14) H11)
def W_ring_Ring_Clear (p1 : Option Addr) (H : Hp) (K : Value → Hp → Prop) : Prop :=
  NN p1 fun a1 => Ld H ((a1.add 0).add 1) fun v1 => DI .i64 v1 fun x1 => (∃ k, W_ring_Ring_Clear.l2 K k p1 x1 (0 : Int) H)
def W_ring_Ring_Clear.l2.L (K : Value → Hp → Prop) (k : Nat) : Mid := fun E D H =>
  DG (E.get? 0) fun w0 => DP w0 fun p2 => DG (E.get? 9) fun w9 => DI .i64 w9 fun x2 => DG (E.get? 10) fun w10 => DI .i64 w10 fun x3 => DNilD D (W_ring_Ring_Clear.l2 K k p2 x2 x3 H)
def W_ring_Ring_Clear.Λ2 (_ : Value → Hp → Prop) (_R2 : Option Addr → Int → Int → Hp → Prop) : Cuts := Cuts.none (fun i => match Nat.beq i 4 with | true => some ([3, 8, 14, 17], [0, 1, 3, 7, 0, 16, 48, 112, 240, 0, 1008, 0, 2048, 6144, 14336, 30720, 63488, 129024, 260096, 524287, 1048575], 0) | false => none)
def W_ring_Ring_Clear.Λ (K : Value → Hp → Prop) : Cuts := ⟨fun i => none, fun i => match Nat.beq i 2 with | true => some (fun E D H => ∃ k, W_ring_Ring_Clear.l2.L K k E D H) | false => none, (fun i => match Nat.beq i 4 with | true => some ([3, 8, 14, 17], [0, 1, 3, 7, 0, 16, 48, 112, 240, 0, 1008, 0, 2048, 6144, 14336, 30720, 63488, 129024, 260096, 524287, 1048575], 0) | false => none)⟩
theorem W_ring_Ring_Clear.ok (p1 : Option Addr) (H : Hp) (K : Value → Hp → Prop) (h : W_ring_Ring_Clear p1 H K) : HCalls Tryz.prog 41 #[.pointer p1] H K :=
  hcalls Tryz.func41 rfl (Nat.le_of_ble_eq_true rfl) (hw_safe (Λ := (W_ring_Ring_Clear.Λ K)) mixWring _ _ _ _ _ (Eq.mp (by kernel_rfl) h) (obs_seq obs_region rfl (obs_seq (obs_seq obs_region rfl (obs_block (obs_loop rfl (fun E D H h => by
      refine Safe.loop' (W_ring_Ring_Clear.l2.L K) (fun E D H h => ?_) (fun k E D H h => ?_) E D H h
      · obtain ⟨w0, e0, g1⟩ := DG.out h; obtain ⟨p2, rfl, g2⟩ := DP.out g1; obtain ⟨w9, e9, g3⟩ := DG.out g2; obtain ⟨x2, rfl, g4⟩ := DI.out g3; obtain ⟨w10, e10, g5⟩ := DG.out g4; obtain ⟨x3, rfl, g6⟩ := DI.out g5; obtain ⟨rfl, h'⟩ := DNilD.out g6; exact h'
      · obtain ⟨w0, e0, g1⟩ := DG.out h
        obtain ⟨p2, rfl, g2⟩ := DP.out g1
        obtain ⟨w9, e9, g3⟩ := DG.out g2
        obtain ⟨x2, rfl, g4⟩ := DI.out g3
        obtain ⟨w10, e10, g5⟩ := DG.out g4
        obtain ⟨x3, rfl, g6⟩ := DI.out g5
        obtain ⟨rfl, h'⟩ := DNilD.out g6
        exact (hw_safe (Λ := (W_ring_Ring_Clear.Λ2 K (W_ring_Ring_Clear.l2 K k))) mixWring _ _ [(0, .pointer p2), (9, .int .i64 x2), (10, .int .i64 x3)] [] H (Eq.mp (by kernel_rfl) h') (obs_seq obs_region rfl (obs_seq (obs_cond obs_skip obs_exit) rfl (obs_seq (obs_block (obs_seq obs_region rfl (obs_seq obs_region rfl (obs_seq obs_region rfl (obs_cond (obs_seq obs_region rfl obs_ret) obs_skip))))) rfl obs_region)))).weaken (EnvLe.cons e0 (EnvLe.cons e9 (EnvLe.cons e10 (EnvLe.nil _)))) (Hp.le_refl _))))) rfl (obs_seq obs_region rfl obs_ret))))

-- (*ring.Ring).Chain
def W_ring_Ring_Chain.l5 (K : Value → Hp → Prop) : Nat → Option Addr → Nat → Nat → Int → Hp → Prop
  | 0, _, _, _, _, _ => False
  | k + 1, A2, n2, m2, x2, H =>
    let R5 := W_ring_Ring_Chain.l5 K k
    BIf (decide (x2 > (0 : Int))) (ixI (IntKind.i64.wrap (x2 - (1 : Int))) n2 (NN A2 fun a1 => LdA H (a1.add ((IntKind.i64.wrap (x2 - (1 : Int))).toNat * 8)) 8 fun l4 => ixI x2 n2 (NN A2 fun a2 => LdA H (a2.add (x2.toNat * 8)) 8 fun l5 => QCall Tryz.prog 79 #[.agg l4.toArray, .agg l5.toArray] H fun v4 => DB v4 fun c1 => BIf c1 (R5 A2 n2 m2 (IntKind.i64.wrap (x2 - (1 : Int))) H) (slB n2 m2 (some x2) none fun n3 n4 => K (.tuple #[.slice (slA A2 m2 n3 8) (n4 - n3) (m2 - n3), .int .i64 (0 : Int)]) H)))) (slB n2 m2 (some x2) none fun n5 n6 => K (.tuple #[.slice (slA A2 m2 n5 8) (n6 - n5) (m2 - n5), .int .i64 (0 : Int)]) H)
def W_ring_Ring_Chain (p1 : Option Addr) (H : Hp) (K : Value → Hp → Prop) : Prop :=
  HCalls Tryz.prog 25 #[.pointer p1] H fun v1 H1 => DTup v1 fun l1 => DCons l1 fun v2 l2 => DSl v2 fun A1 n1 m1 => DCons l2 fun v3 l3 => DI .i64 v3 fun x1 => DNil l3 (BIf (x1 != (0 : Int)) (K (.tuple #[.slice none 0 0, .int .i64 x1]) H1) ((∃ k, W_ring_Ring_Chain.l5 K k A1 n1 m1 (if (0 : Int) > (IntKind.i64.wrap (((n1 : Nat) : Int) - (1 : Int))) then (0 : Int) else (IntKind.i64.wrap (((n1 : Nat) : Int) - (1 : Int)))) H1)))
def W_ring_Ring_Chain.l5.L (K : Value → Hp → Prop) (k : Nat) : Mid := fun E D H =>
  DG (E.get? 2) fun w2 => DSl w2 fun A2 n2 m2 => DG (E.get? 4) fun w4 => DI .i64 w4 fun x2 => DNilD D (W_ring_Ring_Chain.l5 K k A2 n2 m2 x2 H)
def W_ring_Ring_Chain.Λ5 (_ : Value → Hp → Prop) (_R5 : Option Addr → Nat → Nat → Int → Hp → Prop) : Cuts := Cuts.none (fun _ => none)
def W_ring_Ring_Chain.Λ (K : Value → Hp → Prop) : Cuts := ⟨fun i => none, fun i => match Nat.beq i 5 with | true => some (fun E D H => ∃ k, W_ring_Ring_Chain.l5.L K k E D H) | false => none, (fun _ => none)⟩
theorem W_ring_Ring_Chain.ok (p1 : Option Addr) (H : Hp) (K : Value → Hp → Prop) (h : W_ring_Ring_Chain p1 H K) : HCalls Tryz.prog 44 #[.pointer p1] H K :=
  hcalls Tryz.func44 rfl (Nat.le_of_ble_eq_true rfl) (hw_safe (Λ := (W_ring_Ring_Chain.Λ K)) mixWring _ _ _ _ _ (Eq.mp (by kernel_rfl) h) (obs_seq obs_region rfl (obs_seq obs_region rfl (obs_seq (obs_seq obs_region rfl (obs_cond (obs_seq obs_region rfl obs_ret) obs_skip)) rfl (obs_seq obs_region rfl (obs_seq (obs_block (obs_loop rfl (fun E D H h => by
      refine Safe.loop' (W_ring_Ring_Chain.l5.L K) (fun E D H h => ?_) (fun k E D H h => ?_) E D H h
      · obtain ⟨w2, e2, g1⟩ := DG.out h; obtain ⟨A2, n2, m2, rfl, g2⟩ := DSl.out g1; obtain ⟨w4, e4, g3⟩ := DG.out g2; obtain ⟨x2, rfl, g4⟩ := DI.out g3; obtain ⟨rfl, h'⟩ := DNilD.out g4; exact h'
      · obtain ⟨w2, e2, g1⟩ := DG.out h
        obtain ⟨A2, n2, m2, rfl, g2⟩ := DSl.out g1
        obtain ⟨w4, e4, g3⟩ := DG.out g2
        obtain ⟨x2, rfl, g4⟩ := DI.out g3
        obtain ⟨rfl, h'⟩ := DNilD.out g4
        exact (hw_safe (Λ := (W_ring_Ring_Chain.Λ5 K (W_ring_Ring_Chain.l5 K k))) mixWring _ _ [(2, .slice A2 n2 m2), (4, .int .i64 x2)] [] H (Eq.mp (by kernel_rfl) h') (obs_seq (obs_seq obs_region rfl (obs_cond obs_skip obs_exit)) rfl (obs_block obs_region))).weaken (EnvLe.cons e2 (EnvLe.cons e4 (EnvLe.nil _))) (Hp.le_refl _)))) rfl (obs_seq obs_region rfl obs_ret)))))))

-- (*ring.Ring).slot
def W_ring_Ring_slot (p1 : Option Addr) (x1 : Int) (H : Hp) (K : Value → Hp → Prop) : Prop :=
  NN p1 fun a1 => Ld H ((a1.add 0).add 0) fun v1 => DI .i64 v1 fun x2 => NN p1 fun a2 => Ld H ((a2.add 0).add 1) fun v2 => DI .i64 v2 fun x3 => ((IntKind.u64.wrap x3) ≠ 0 ∧ IntKind.u64 = IntKind.u64 ∧ K (.int .i64 (IntKind.i64.wrap (x2 + (IntKind.i64.wrap (Int.tmod (IntKind.u64.wrap (x1 - (1 : Int))) (IntKind.u64.wrap x3)))))) H)
def W_ring_Ring_slot.Λ (_ : Value → Hp → Prop) : Cuts := Cuts.none (fun _ => none)
theorem W_ring_Ring_slot.ok (p1 : Option Addr) (x1 : Int) (H : Hp) (K : Value → Hp → Prop) (h : W_ring_Ring_slot p1 x1 H K) : HCalls Tryz.prog 73 #[.pointer p1, .int .u64 x1] H K :=
  hcalls Tryz.func73 rfl (Nat.le_of_ble_eq_true rfl) (hw_safe (Λ := Cuts.none (fun _ => none)) mixWring _ _ _ _ _ (Eq.mp (by kernel_rfl) h) (obs_none _ _ _ _ _))

-- (*ring.Ring).Scan$1
def W_ring_Ring_Scan_1 (y1 : Array Value) (y2 : Array Value) (H : Hp) (K : Value → Hp → Prop) : Prop :=
  Nw H (.obj (.cells y1 91)) fun b1 H1 => Nw H1 (.obj (.cells y2 91)) fun b2 H2 => Ld H2 ((⟨b1, 0, none⟩ : Addr).add 0) fun v1 => DI .u64 v1 fun x1 => Ld H2 ((⟨b2, 0, none⟩ : Addr).add 0) fun v2 => DI .u64 v2 fun x2 => HCalls Tryz.prog 76 #[.int .u64 x1, .int .u64 x2] H2 fun v3 H3 => DI .i64 v3 fun x3 => K (.int .i64 x3) H3
def W_ring_Ring_Scan_1.Λ (_ : Value → Hp → Prop) : Cuts := Cuts.none (fun _ => none)
theorem W_ring_Ring_Scan_1.ok (y1 : Array Value) (y2 : Array Value) (H : Hp) (K : Value → Hp → Prop) (h : W_ring_Ring_Scan_1 y1 y2 H K) : HCalls Tryz.prog 75 #[.agg y1, .agg y2] H K :=
  hcalls Tryz.func75 rfl (Nat.le_of_ble_eq_true rfl) (hw_safe (Λ := Cuts.none (fun _ => none)) mixWring _ _ _ _ _ (Eq.mp (by kernel_rfl) h) (obs_none _ _ _ _ _))

end Go.Proofs.YtlgpappgnndgiaaGreatDoor.W

end
section
/-! HwW -/
/- The frame of the proofs: words as natural numbers. -/
set_option maxRecDepth 100000
set_option linter.unusedSimpArgs false
set_option linter.unusedVariables false
set_option linter.unnecessarySimpa false
set_option linter.unusedSectionVars false
namespace Go.Hw
open Go

theorem ofNat64 {x : Nat} (h : x < 2 ^ 64) : (BitVec.ofInt 64 (x : Int)).toNat = x := by
  rw [BitVec.ofInt_natCast, BitVec.toNat_ofNat, Nat.mod_eq_of_lt h]
theorem or_lt {x y n : Nat} (hx : x < 2 ^ n) (hy : y < 2 ^ n) : x ||| y < 2 ^ n := Nat.or_lt_two_pow hx hy
theorem orN {x y : Nat} (hx : x < 2 ^ 64) (hy : y < 2 ^ 64) : bOr .u64 (x : Int) (y : Int) = ((x ||| y : Nat) : Int) := by
  unfold bOr
  rw [show IntKind.u64.bits = 64 from rfl, BitVec.toNat_or, ofNat64 hx, ofNat64 hy]
  have := or_lt hx hy
  exact u64n (by omega)
theorem andN {x y : Nat} (hx : x < 2 ^ 64) (hy : y < 2 ^ 64) : bAnd .u64 (x : Int) (y : Int) = ((x &&& y : Nat) : Int) := by
  unfold bAnd
  rw [show IntKind.u64.bits = 64 from rfl, BitVec.toNat_and, ofNat64 hx, ofNat64 hy]
  have : x &&& y ≤ x := Nat.and_le_left
  exact u64n (by omega)
theorem shlN {x : Nat} {i : Int} {n : Nat} (h : i = n) (hn : n ≤ 64) : shlI .u64 (x : Int) i = ((x * 2 ^ n % 2 ^ 64 : Nat) : Int) := by
  subst h
  unfold shlI
  rw [Int.toNat_natCast, show IntKind.u64.bits = 64 from rfl, Nat.min_eq_left hn, u64mod, show ((2 : Int) ^ n) = ((2 ^ n : Nat) : Int) by simp, ← Int.natCast_mul]
  rfl
theorem shrN {k : IntKind} {a : Nat} {i : Int} {n : Nat} (h : i = n) (hn : n ≤ k.bits) : shrI k (a : Int) i = ((a / 2 ^ n : Nat) : Int) := by
  rw [shrNat a h hn, Nat.shiftRight_eq_div_pow]
theorem u64a {x : Nat} (y : Nat) : IntKind.u64.wrap ((x : Int) + (y : Int)) = (((x + y) % 2 ^ 64 : Nat) : Int) := by
  rw [u64mod, ← Int.natCast_add]; rfl
theorem u64m (x y : Nat) : IntKind.u64.wrap ((x : Int) * (y : Int)) = (((x * y) % 2 ^ 64 : Nat) : Int) := by
  rw [u64mod, ← Int.natCast_mul]; rfl

/-- A part of a slice. -/
theorem Cells.shift {H : Hp} {A : Option Addr} {vs : List Value} (h : Cells H A vs) {m l : Nat} (hm : vs.length ≤ m) : Cells H (slA A m l 1) (vs.drop l) := fun i v hi => by
  rw [List.getElem?_drop] at hi
  have hlt := (List.getElem?_eq_some_iff.1 hi).1
  unfold slA
  rw [if_neg (by omega)]
  obtain ⟨a, rfl, hc⟩ := h _ _ hi
  exact ⟨_, rfl, by rw [add_add, Nat.mul_one]; exact hc⟩
theorem Cells.take {H : Hp} {A : Option Addr} {vs : List Value} (h : Cells H A vs) (n : Nat) : Cells H A (vs.take n) := fun i v hi => by
  rw [List.getElem?_take] at hi
  split at hi
  · exact h i v hi
  · cases hi

/-- A number in bytes, the lowest first. -/
def leN : List UInt8 → Nat
  | [] => 0
  | b :: l => b.toNat + 256 * leN l

theorem leN_lt : ∀ l : List UInt8, leN l < 256 ^ l.length
  | [] => by simp [leN]
  | b :: l => by
    have h1 := leN_lt l
    have h2 : b.toNat < 256 := b.toNat_lt
    unfold leN
    rw [List.length_cons, Nat.pow_succ]
    have : 256 * leN l + 256 ≤ 256 ^ l.length * 256 := by
      have : leN l + 1 ≤ 256 ^ l.length := h1
      omega
    omega

theorem leN_drop {l : List UInt8} {j : Nat} (h : j < l.length) : leN (l.drop j) = l[j].toNat + 256 * leN (l.drop (j + 1)) := by
  rw [List.drop_eq_getElem_cons h]; rfl

theorem leN_lt8 {l : List UInt8} (h : l.length ≤ 8) : leN l < 2 ^ 64 := by
  have h1 := leN_lt l
  have h2 : 256 ^ l.length ≤ 256 ^ 8 := Nat.pow_le_pow_right (by omega) h
  rw [show (2 : Nat) ^ 64 = 256 ^ 8 by decide]
  omega

theorem leN_eq_iff : ∀ {a b : List UInt8}, a.length = b.length → (leN a = leN b ↔ a = b)
  | [], [], _ => by simp
  | x :: a, y :: b, h => by
    have ih := leN_eq_iff (a := a) (b := b) (by simpa using h)
    have h1 : x.toNat < 256 := x.toNat_lt
    have h2 : y.toNat < 256 := y.toNat_lt
    unfold leN
    constructor
    · intro e
      have e1 : x.toNat = y.toNat := by omega
      have e2 : leN a = leN b := by omega
      rw [ih.1 e2, UInt8.toNat_inj.1 e1]
    · intro e
      injection e with e1 e2
      rw [e1, e2]

/-- Bytes of a number: so many. -/
def bytesN : Nat → Nat → List UInt8
  | 0, _ => []
  | n + 1, x => UInt8.ofNat x :: bytesN n (x / 256)

theorem bytesN_length : ∀ n x, (bytesN n x).length = n
  | 0, _ => rfl
  | n + 1, x => by simp [bytesN, bytesN_length n]
theorem leN_bytesN : ∀ n x, leN (bytesN n x) = x % 256 ^ n
  | 0, x => by simp [bytesN, leN, Nat.mod_one]
  | n + 1, x => by
    unfold bytesN leN
    rw [leN_bytesN n, UInt8.toNat_ofNat', show (256 : Nat) ^ (n + 1) = 256 * 256 ^ n by rw [Nat.pow_succ, Nat.mul_comm], Nat.mod_mul]
theorem bytesN_leN : ∀ (l : List UInt8), bytesN l.length (leN l) = l
  | [] => rfl
  | b :: l => by
    have h : b.toNat < 256 := b.toNat_lt
    unfold leN
    rw [List.length_cons]
    unfold bytesN
    rw [show (b.toNat + 256 * leN l) / 256 = leN l by omega, bytesN_leN l]
    congr 1
    apply UInt8.toNat_inj.1
    rw [UInt8.toNat_ofNat']
    show (b.toNat + 256 * leN l) % 256 = b.toNat
    omega

theorem range_bytes (n : Nat) : ∀ x, (List.range n).map (fun k => UInt8.ofNat (x / 256 ^ k)) = bytesN n x := by
  induction n with
  | zero => intro x; rfl
  | succ n ih =>
    intro x
    rw [List.range_succ_eq_map]
    simp only [List.map_cons, List.map_map, Nat.pow_zero, Nat.div_one]
    unfold bytesN
    rw [← ih (x / 256)]
    congr 1
    apply List.map_congr_left
    intro k _
    simp only [Function.comp]
    rw [Nat.div_div_eq_div_mul, Nat.pow_succ, Nat.mul_comm]

end Go.Hw

end
section
/-! LayU -/
/- Contracts of the library's functions, laid at this program (printed by lay2.py). -/
set_option maxRecDepth 100000
namespace Go.Proofs.YtlgpappgnndgiaaGreatDoor.Lib2
open Go Go.Proofs Go.Shelf Go.RowKit
def fmtL_ren : Go.Shelf.Ren := ⟨fun | 285 => 227 | n => n, fun | 37 => 92 | 53 => 60 | 3 => 3 | 4 => 4 | 51 => 40 | 9 => 9 | 5 => 5 | 0 => 0 | n => n, fun | n => n⟩
theorem fmtL : Go.Proofs.Lays.n285 Tryz.prog fmtL_ren where
  mixed := by kernel_rfl
  f285 := Tryz.func227.trans (congrArg some (by kernel_rfl))
  t0 := Tryz.underlying0
  a0 := Tryz.isAgg0
  z0 := Tryz.sizeOf0
  v0 := Tryz.zeroValue0
  t3 := Tryz.underlying3
  a3 := Tryz.isAgg3
  z3 := Tryz.sizeOf3
  v3 := Tryz.zeroValue3
  t4 := Tryz.underlying4
  a4 := Tryz.isAgg4
  z4 := Tryz.sizeOf4
  v4 := Tryz.zeroValue4
  t5 := Tryz.underlying5
  a5 := Tryz.isAgg5
  z5 := Tryz.sizeOf5
  v5 := Tryz.zeroValue5
  t9 := Tryz.underlying9
  a9 := Tryz.isAgg9
  z9 := Tryz.sizeOf9
  v9 := Tryz.zeroValue9
  t37 := Tryz.underlying92
  a37 := Tryz.isAgg92
  z37 := Tryz.sizeOf92
  v37 := Tryz.zeroValue92
  t51 := Tryz.underlying40
  a51 := Tryz.isAgg40
  z51 := Tryz.sizeOf40
  v51 := Tryz.zeroValue40
  t53 := Tryz.underlying60
  a53 := Tryz.isAgg60
  z53 := Tryz.sizeOf60
  v53 := Tryz.zeroValue60
def lenL_ren : Go.Shelf.Ren := ⟨fun | 129 => 173 | n => n, fun | 53 => 60 | 3 => 3 | 4 => 4 | 46 => 147 | 5 => 5 | 9 => 9 | n => n, fun | n => n⟩
theorem lenL : Go.Proofs.Lays.n129 Tryz.prog lenL_ren where
  mixed := by kernel_rfl
  f129 := Tryz.func173.trans (congrArg some (by kernel_rfl))
  t3 := Tryz.underlying3
  a3 := Tryz.isAgg3
  z3 := Tryz.sizeOf3
  v3 := Tryz.zeroValue3
  t4 := Tryz.underlying4
  a4 := Tryz.isAgg4
  z4 := Tryz.sizeOf4
  v4 := Tryz.zeroValue4
  t5 := Tryz.underlying5
  a5 := Tryz.isAgg5
  z5 := Tryz.sizeOf5
  v5 := Tryz.zeroValue5
  t9 := Tryz.underlying9
  a9 := Tryz.isAgg9
  z9 := Tryz.sizeOf9
  v9 := Tryz.zeroValue9
  t46 := Tryz.underlying147
  a46 := Tryz.isAgg147
  z46 := Tryz.sizeOf147
  v46 := Tryz.zeroValue147
  t53 := Tryz.underlying60
  a53 := Tryz.isAgg60
  z53 := Tryz.sizeOf60
  v53 := Tryz.zeroValue60
end Go.Proofs.YtlgpappgnndgiaaGreatDoor.Lib2

end
section
/-! HwU -/
/- The frame of the proofs: a number's decimal digits, as the library puts them. -/
set_option maxRecDepth 100000
set_option linter.unusedSimpArgs false
set_option linter.unusedVariables false
set_option linter.unnecessarySimpa false
set_option linter.unusedSectionVars false
namespace Go.Hw
open Go Go.Proofs Go.Proofs.YtlgpappgnndgiaaGreatDoor.Lib2 Go.RowKit Go.Shelf

/-- math/bits.Len64. -/
theorem Len64_hc (x : Nat) (hx : x < 18446744073709551616) (H : Hp) : HCalls Tryz.prog 173 #[.int .u64 (x : Int)] H (RetE (.int .i64 (Lib.bitLen x : Int)) H) := fun w hw => by
  refine (Any.bits_Len64 lenL (x : Int) w (by omega) (by omega)).mono ?_
  rintro e w' ⟨rfl, rfl⟩
  exact ⟨_, H, rfl, ⟨by rw [Int.toNat_natCast], rfl⟩, At.refl hw⟩

theorem At.drewN {H0 H : Hp} {w0 w : World} (h : At H0 w0 H w) (n : Nat) : At H0 w0 H (w.drewN n) := ⟨h.fits, h.size, h.os, h.tape, h.output, h.old⟩

def encB (b : UInt8) : Value := .int .u8 (b.toNat : Int)

/-- internal/strconv.formatBase10, into a block of one's own. -/
theorem format_at (b off cap u : Nat) (d : Array UInt8) (c : Array Value) (e : TypeId) (hc : ∀ j, j < d.size → c[off + j]? = some (encB d[j]!)) (hu : u < 10 ^ d.size) (hu64 : u < 18446744073709551616) (hsz : d.size ≤ 1000) {H : Hp} (hb : H b = some (.obj (.cells c e))) :
    HCalls Tryz.prog 227 #[.slice (some ⟨b, off, none⟩) d.size cap, .int .u64 (u : Int)] H fun v H' => v = .tuple #[] ∧ ∃ (v' : Nat) (dk : Array UInt8), Lib.FmtInv d.size u 0 v' dk ∧ H' = H.set b (.obj (.cells (Go.Sort.putCells encB off dk c) e)) := fun w hw => by
  obtain ⟨o', ho, hh⟩ := hw _ _ hb
  cases hh
  have hH : Go.Sort.Holds encB w b off d := fun j hj => by
    refine ⟨?_, ?_⟩
    · unfold World.cell?
      rw [ho]
      simpa using hc j hj
    · unfold World.frozen?
      rw [ho]
      simp
  refine (Any.internal_strconv_formatBase10 fmtL b off cap u d w hH hu hu64 (by omega)).mono ?_
  rintro e' w' ⟨rfl, n, v', dk, rfl, hf⟩
  refine ⟨_, _, rfl, ⟨rfl, v', dk, hf, rfl⟩, ?_⟩
  refine At.drewN ?_ n
  have hx : (Go.Sort.putRow encB w b off dk).heap[b]? = some (.cells (Go.Sort.putCells encB off dk c) e (0, 0)) := by
    show (w.heap.modify b (Go.Sort.onCells (Go.Sort.putCells encB off dk)))[b]? = _
    rw [getElem?_modify_self ho]
    rfl
  refine (At.refl hw).turn hb hx rfl (by simp [Go.Sort.putRow, Go.Sort.mapBlock]) rfl rfl rfl fun k hk => ?_
  show (w.heap.modify b _)[k]? = _
  rw [Array.getElem?_modify, if_neg (Ne.symm hk)]
theorem format_hc (b cap u : Nat) (d : Array UInt8) (c : Array Value) (e : TypeId) (hc : ∀ j, j < d.size → c[j]? = some (encB d[j]!)) (hu : u < 10 ^ d.size) (hu64 : u < 18446744073709551616) (hsz : d.size ≤ 1000) {H : Hp} (hb : H b = some (.obj (.cells c e))) :
    HCalls Tryz.prog 227 #[.slice (some ⟨b, 0, none⟩) d.size cap, .int .u64 (u : Int)] H fun v H' => v = .tuple #[] ∧ ∃ (v' : Nat) (dk : Array UInt8), Lib.FmtInv d.size u 0 v' dk ∧ H' = H.set b (.obj (.cells (Go.Sort.putCells encB 0 dk c) e)) :=
  format_at b 0 cap u d c e (fun j hj => by rw [Nat.zero_add]; exact hc j hj) hu hu64 hsz hb

end Go.Hw

end
