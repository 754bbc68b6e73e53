import Derived.WalkKit
import Derived.ProofKit
import Derived.OpenShut
import Derived.ShutString
import Derived.ChangeOld
import Derived.Below
import Derived.SizedLaws
import Derived.Lib.LaidTab
import Derived.Stop.LaidErr
import Derived.Test.YtbnhfcdagoigkaaDoorProg
import Derived.Laws.Externs
import Derived.Test.YtbnhfcdagoigkaaDoorPkGenLines1
section
/-! HwR -/
/- The frame of the proofs: from a law's contract over a view of memory to the given row; arguments that came in, opened. -/
set_option maxRecDepth 100000
set_option linter.unusedSimpArgs false
set_option linter.unusedVariables false
set_option linter.unnecessarySimpa false
set_option linter.unusedSectionVars false
namespace Go.Hw
open Go Go.RowKit Go.ChangeShapes Go.WideShapes Go.ChangeAt

theorem trodAll_below {H : Type} {enc : TypeId × Value → H} {P : Program} (hl : laidOutB P = true) {W W' : World} (hb : Below W.heap.size W W') :
    ∀ {ts : List TypeId} {vs : List Value} {ds : List (DataW H)} {ps : List MemPlace}, (ts.all fun t => P.readableRec t && decide (t < P.types.size)) = true → (∀ x ∈ ps, x.block < W.heap.size) →
      DataW.TrodAll enc P W 0 (fun _ => true) true ts vs ds ps → DataW.TrodAll enc P W' 0 (fun b => decide (b < W.heap.size)) true ts vs ds ps
  | [], [], [], _, _, _, h => h
  | [], _ :: _, _, _, _, _, h => h.elim
  | [], [], _ :: _, _, _, _, h => h.elim
  | _ :: _, [], _, _, _, _, h => h.elim
  | _ :: _, _ :: _, [], _, _, _, h => h.elim
  | t :: ts, v :: vs, d :: ds, ps, hr, hlt, h => by
    obtain ⟨p, q, h1, h2, rfl⟩ := h
    simp only [List.all_cons, Bool.and_eq_true, decide_eq_true_eq] at hr
    exact ⟨p, q, Below.trod hl hr.1.1 hr.1.2 h1 hb (fun x hx => hlt x (by simp [hx])), trodAll_below hl hb hr.2 (fun x hx => hlt x (by simp [hx])) h2, rfl⟩

/-- Each named variable's type can be read and is a row of the table. -/
def varsRowed' (P : Program) (ns : List String) : Bool :=
  ns.all fun n => match P.globalNamed n with
    | some g => match P.globals[g]? with | some gl => P.readableRec gl.type && decide (gl.type < P.types.size) | none => true
    | none => true

theorem trodVars_below {H : Type} {enc : TypeId × Value → H} {P : Program} (hl : laidOutB P = true) {W W' : World} (hb : Below W.heap.size W W') :
    ∀ {ns : List String} {gs : List (DataW H)} {ps : List MemPlace}, varsRowed' P ns = true → DataW.TrodVars enc P W (fun _ => true) ns gs ps → DataW.TrodVars enc P W' (fun b => decide (b < W.heap.size)) ns gs ps
  | [], [], _, _, h => h
  | [], _ :: _, _, _, h => h.elim
  | _ :: _, [], _, _, h => h.elim
  | n :: ns, d :: ds, ps, hv, h => by
    have hlt := h.lt
    obtain ⟨g, t, cs, fuel, p, q, h1, h2, h3, h4, hs, rfl⟩ := h
    simp only [varsRowed', List.all_cons, Bool.and_eq_true] at hv
    obtain ⟨gl, hg, rfl⟩ := Option.map_eq_some_iff.1 h2
    have ht := hv.1
    rw [h1] at ht
    simp only [hg, Bool.and_eq_true, decide_eq_true_eq] at ht
    have hp : ∀ x ∈ p, x.block < W.heap.size := fun x hx => hlt x (by simp [hx])
    have h3' : W'.var? P n = some cs := by
      unfold World.var? at h3 ⊢
      rw [h1] at h3 ⊢
      simp only [Option.bind_some] at h3 ⊢
      have hgs : g < W.heap.size := by
        cases hh : W.heap[g]? with
        | none => rw [hh] at h3; cases h3
        | some o => exact (Array.getElem?_eq_some_iff.1 hh).1
      rw [hb.block g hgs]; exact h3
    obtain ⟨fuel', h4'⟩ := Below.trod hl ht.1 ht.2 (v := .agg cs) ⟨fuel, h4⟩ hb hp
    exact ⟨g, gl.type, cs, fuel', p, q, h1, h2, h3', h4',
      trodVars_below hl hb (by simpa [varsRowed'] using hv.2) hs, rfl⟩

/-- A law's contract gives what its row asks behind the call. -/
theorem law_post {H : Type} {enc : TypeId × Value → H} {P : Program} {fn : Func} {s : ChangeSpec} {f : FuncId} {W : World} {args : Array Value} {ds gs : List (DataW H)} {before : List MemPlace} {tb : TypeId}
    (hl : laidOutB P = true) (hrt : fn.resultTypes = #[tb]) (hb : P.underlying tb = some .bool) (hrd : (fn.params.toList.all fun t => P.readableRec t && decide (t < P.types.size)) = true) (hv : varsRowed' P s.vars = true)
    (hs : s.fn H (ds ++ gs) = { results := [.lit (.bool true)], args := ds, vars := gs }) (hW : DataW.Whole enc P fn.params.toList s.vars false W args.toList ds gs before)
    (h : HCalls P f args (Full W) (Ret (.bool true) (Full W))) : Calls P f args W fun e W' => ∃ v, e = .returned v ∧ s.post enc P fn false true false false W args v W' := by
  refine (law_calls h).mono fun e W' ⟨he, bel⟩ => ⟨_, he, ?_⟩
  have hlt : ∀ x ∈ before, x.block < W.heap.size := fun x hx => by simpa using hW.lt x hx
  have hW' := hW
  obtain ⟨p, q, hA, hV, rfl, hfz, hnd⟩ := hW
  refine ⟨ds, gs, p ++ q, [], p, q, hW', ?_, ?_, ?_, bel.frame _, fun h => by cases h⟩
  · rw [hs, hrt]
    exact trodAll_mk1 (shut_bool hb _)
  · rw [hs]
    exact trodAll_below hl bel hrd (fun x hx => hlt x (by simp [hx])) hA
  · rw [hs]
    exact trodVars_below hl bel hv hV

theorem Full.cell' {w : World} {a : Addr} {v : Value} (h : w.cell? a = some v) : (Full w).cell? a = some v := by
  unfold World.cell? at h
  unfold Hp.cell? Full
  split at h
  · rename_i c e f hb
    simp only [hb, Option.map_some]
    exact h
  · cases h

theorem mapM_get {α β : Type} {f : α → Option β} : ∀ {l : List α} {ys : List β}, l.mapM f = some ys → ys.length = l.length ∧ ∀ (i : Nat) (x : α), l[i]? = some x → ∃ y, ys[i]? = some y ∧ f x = some y
  | [], ys, h => by
    simp at h; subst h; exact ⟨rfl, fun i x hx => by simp at hx⟩
  | x :: l, ys, h => by
    simp only [List.mapM_cons, Option.bind_eq_bind, Option.bind_eq_some_iff, Option.pure_def, Option.some.injEq] at h
    obtain ⟨y, hy, ys', hys, rfl⟩ := h
    obtain ⟨h1, h2⟩ := mapM_get hys
    refine ⟨by simp [h1], fun i x' hx => ?_⟩
    cases i with
    | zero => simp at hx; subst hx; exact ⟨y, rfl, hy⟩
    | succ i => simpa using h2 i x' (by simpa using hx)

/-- A slice that came in, element by element. -/
theorem trod_sl {H : Type} {enc : TypeId × Value → H} {P : Program} {W : World} {sp : Nat → Bool} {held : Bool} {fuel : Nat} {t e : TypeId} {cs : List Value} {d : DataW H} {ps : List MemPlace} (hu : P.underlying t = some (.slice e)) (h : DataW.trod enc P W 0 sp held fuel t cs = some (d, ps)) :
    ∃ A n c, cs = [.slice A n c] ∧ n ≤ c ∧ c ≤ maxLen ∧ ∃ rows : List (List Value), rows.length = n ∧ ∀ (i : Nat) (r : List Value), rows[i]? = some r → ∃ a, A = some a ∧ (∀ j v, r[j]? = some v → (Full W).cell? (a.add (i * P.cellsOf e + j)) = some v) ∧ r.length = P.cellsOf e ∧
      ∃ f d' p', DataW.trod enc P W 0 sp held f e r = some (d', p') := by
  cases fuel with
  | zero => simp [DataW.trod] at h
  | succ fuel =>
    unfold DataW.trod at h
    rw [hu] at h
    match cs, h with
    | [.slice none 0 0], h => exact ⟨none, 0, 0, rfl, Nat.le_refl _, Nat.zero_le _, [], rfl, fun i r hr => by simp at hr⟩
    | [.slice (some a) n c], h =>
      simp only at h
      split at h
      · rename_i hc
        obtain ⟨elems, he, h⟩ := Option.bind_eq_some_iff.1 h
        obtain ⟨hl, hg⟩ := mapM_get he
        have hrow : ∀ i, i < n → ∃ r, W.cells? 0 (a.add (i * P.cellsOf e)) (P.cellsOf e) = some r ∧ ∃ x, DataW.trod enc P W 0 sp held fuel e r = some x := fun i hi => by
          obtain ⟨y, _, hy⟩ := hg i i (by simp [hi])
          obtain ⟨r, hr, hy⟩ := Option.bind_eq_some_iff.1 hy
          exact ⟨r, hr, y, hy⟩
        have hr0 : ∀ i, i < n → ∃ r, W.cells? 0 (a.add (i * P.cellsOf e)) (P.cellsOf e) = some r := fun i hi => (hrow i hi).imp fun _ h => h.1
        let rows := (List.range n).map fun i => (W.cells? 0 (a.add (i * P.cellsOf e)) (P.cellsOf e)).getD []
        refine ⟨some a, n, c, rfl, hc.2.1, hc.2.2, rows, by simp [rows], fun i r hr => ⟨a, rfl, ?_⟩⟩
        have hi : i < n := by
          have := (List.getElem?_eq_some_iff.1 hr).1
          simpa [rows] using this
        obtain ⟨r', hr', x, hx⟩ := hrow i hi
        have : r = r' := by
          simp only [rows, List.getElem?_map, List.getElem?_range hi, Option.map_some, hr', Option.getD_some, Option.some.injEq] at hr
          exact hr.symm
        subst this
        unfold World.cells? at hr'
        rw [if_pos (Nat.zero_le _)] at hr'
        obtain ⟨hl', hg'⟩ := mapM_get hr'
        refine ⟨fun j v hv => ?_, by simpa using hl', fuel, x.1, x.2, hx⟩
        have hj : j < P.cellsOf e := by
          have := (List.getElem?_eq_some_iff.1 hv).1
          rw [hl'] at this; simpa using this
        obtain ⟨y, hy, hy'⟩ := hg' j j (by simp [hj])
        rw [hv] at hy; cases hy
        have ha : (a.add (i * P.cellsOf e)).add j = a.add (i * P.cellsOf e + j) := by
          unfold Addr.add
          by_cases h1 : i * P.cellsOf e = 0 <;> by_cases h2 : j = 0 <;> simp_all [Nat.add_assoc]
        rw [← ha]
        exact Full.cell' hy'
      · cases h
    | [.slice none (_ + 1) _], h => simp at h
    | [.slice none 0 (_ + 1)], h => simp at h
    | [], h => simp at h
    | _ :: _ :: _, h => simp at h
    | [.int ..], h => simp at h

/-- Elements of one cell, each of which is told. -/
theorem rows_cells {H : Hp} {A : Option Addr} {n : Nat} {α : Type} {g : α → Value} {q : α → Prop} {rows : List (List Value)} (hl : rows.length = n)
    (h : ∀ (i : Nat) (r : List Value), rows[i]? = some r → ∃ a, A = some a ∧ (∀ j v, r[j]? = some v → H.cell? (a.add (i * 1 + j)) = some v) ∧ ∃ x, r = [g x] ∧ q x) : ∃ l : List α, l.length = n ∧ Cells H A (l.map g) ∧ ∀ x ∈ l, q x := by
  have hx : ∀ i : Fin rows.length, ∃ x, rows[i] = [g x] ∧ q x := fun i => by
    obtain ⟨_, _, _, x, hx, hq⟩ := h i rows[i] (by simp)
    exact ⟨x, hx, hq⟩
  let f : Fin rows.length → α := fun i => Classical.choose (hx i)
  have hf : ∀ i : Fin rows.length, rows[i] = [g (f i)] ∧ q (f i) := fun i => Classical.choose_spec (hx i)
  refine ⟨List.ofFn f, by simp [hl], fun i v hv => ?_, fun x hx => ?_⟩
  · rw [List.getElem?_map] at hv
    obtain ⟨y, hy, rfl⟩ := Option.map_eq_some_iff.1 hv
    have hi : i < rows.length := by
      have := (List.getElem?_eq_some_iff.1 hy).1
      simpa using this
    have hy' : y = f ⟨i, hi⟩ := by
      rw [List.getElem?_ofFn] at hy
      simp only [hi, dif_pos, Option.some.injEq] at hy
      exact hy.symm
    subst hy'
    obtain ⟨a, ha, hc, _⟩ := h i rows[i] (by simp)
    refine ⟨a, ha, ?_⟩
    have := hc 0 (g (f ⟨i, hi⟩)) (by rw [show rows[i] = [g (f ⟨i, hi⟩)] from (hf ⟨i, hi⟩).1]; rfl)
    simpa using this
  · obtain ⟨i, rfl⟩ := List.mem_ofFn.1 hx
    exact (hf i).2

section
variable {H : Type} {enc : TypeId × Value → H} {P : Program} {W : World} {t e : TypeId} {v : Value} {d : DataW H} {ps : List MemPlace} {r : Reach} {base : Nat}

theorem trod_ints {fuel : Nat} {k : IntKind} {cs : List Value} (hu : P.underlying t = some (.slice e)) (he : P.underlying e = some (.int k)) (h1 : P.cellsOf e = 1) (h : DataW.trod enc P W 0 (fun _ => true) true fuel t cs = some (d, ps)) :
    ∃ A n c, cs = [.slice A n c] ∧ n ≤ c ∧ c ≤ maxLen ∧ ∃ ns : List Int, ns.length = n ∧ Cells (Full W) A (ns.map (.int k)) ∧ ∀ x ∈ ns, (Lit.int k x).wf = true := by
  obtain ⟨A, n, c, rfl, h2, h3, rows, hl, hr⟩ := trod_sl hu h
  refine ⟨A, n, c, rfl, h2, h3, ?_⟩
  refine rows_cells (g := fun x => Value.int k x) hl fun i r hi => ?_
  obtain ⟨a, ha, hc, hlen, f, d', p', hd⟩ := hr i r hi
  rw [h1] at hc
  obtain ⟨x, hx, _, hw⟩ := DataW.trod_int he hd
  exact ⟨a, ha, hc, x, hx, hw⟩

theorem trod_bytes {fuel : Nat} {cs : List Value} (hu : P.underlying t = some (.slice e)) (he : P.underlying e = some (.int .u8)) (h1 : P.cellsOf e = 1) (h : DataW.trod enc P W 0 (fun _ => true) true fuel t cs = some (d, ps)) :
    ∃ A n c, cs = [.slice A n c] ∧ n ≤ c ∧ c ≤ maxLen ∧ ∃ bs : List UInt8, bs.length = n ∧ Cells (Full W) A (byteVals bs) := by
  obtain ⟨A, n, c, rfl, h2, h3, ns, hl, hc, hw⟩ := trod_ints hu he h1 h
  refine ⟨A, n, c, rfl, h2, h3, ns.map fun x => UInt8.ofNat x.toNat, by simpa using hl, ?_⟩
  have : byteVals (ns.map fun x => UInt8.ofNat x.toNat) = ns.map (.int .u8) := by
    unfold byteVals
    rw [List.map_map]
    apply List.map_congr_left
    intro x hx
    have := hw x hx
    simp only [Lit.wf, Bool.and_eq_true, decide_eq_true_eq] at this
    obtain ⟨h4, h5⟩ := this
    have h4' : 0 ≤ x := h4
    have h5' : x ≤ 255 := h5
    simp only [Function.comp, Value.int.injEq, true_and]
    rw [UInt8.toNat_ofNat_of_lt' (by show x.toNat < 256; omega)]
    omega
  rw [this]; exact hc

theorem trod_words {fuel : Nat} {cs : List Value} (hu : P.underlying t = some (.slice e)) (he : P.underlying e = some (.int .u64)) (h1 : P.cellsOf e = 1) (h : DataW.trod enc P W 0 (fun _ => true) true fuel t cs = some (d, ps)) :
    ∃ A n c, cs = [.slice A n c] ∧ n ≤ c ∧ c ≤ maxLen ∧ ∃ l : List UInt64, l.length = n ∧ Cells (Full W) A (wordVals l) := by
  obtain ⟨A, n, c, rfl, h2, h3, ns, hl, hc, hw⟩ := trod_ints hu he h1 h
  refine ⟨A, n, c, rfl, h2, h3, ns.map fun x => UInt64.ofNat x.toNat, by simpa using hl, ?_⟩
  have : wordVals (ns.map fun x => UInt64.ofNat x.toNat) = ns.map (.int .u64) := by
    unfold wordVals
    rw [List.map_map]
    apply List.map_congr_left
    intro x hx
    have := hw x hx
    simp only [Lit.wf, Bool.and_eq_true, decide_eq_true_eq] at this
    obtain ⟨h4, h5⟩ := this
    have h4' : 0 ≤ x := h4
    have h5' : x ≤ 18446744073709551615 := h5
    simp only [Function.comp, Value.int.injEq, true_and]
    rw [UInt64.toNat_ofNat_of_lt' (by show x.toNat < 18446744073709551616; omega)]
    omega
  rw [this]; exact hc

theorem trod_bools {fuel : Nat} {cs : List Value} (hu : P.underlying t = some (.slice e)) (he : P.underlying e = some .bool) (h1 : P.cellsOf e = 1) (h : DataW.trod enc P W 0 (fun _ => true) true fuel t cs = some (d, ps)) :
    ∃ A n c, cs = [.slice A n c] ∧ n ≤ c ∧ c ≤ maxLen ∧ ∃ ns : List Bool, ns.length = n ∧ Cells (Full W) A (ns.map .bool) := by
  obtain ⟨A, n, c, rfl, h2, h3, rows, hl, hr⟩ := trod_sl hu h
  obtain ⟨ns, h4, h5, _⟩ := rows_cells (g := Value.bool) (q := fun _ => True) hl fun i r hi => by
    obtain ⟨a, ha, hc, hlen, f, d', p', hd⟩ := hr i r hi
    rw [h1] at hc
    obtain ⟨x, hx, _⟩ := DataW.trod_bool he hd
    exact ⟨a, ha, hc, x, hx, trivial⟩
  exact ⟨A, n, c, rfl, h2, h3, ns, h4, h5⟩

/-- Slices of bytes, of words. -/
theorem rows_bytes {A : Option Addr} {n : Nat} (hu : P.underlying t = some (.slice e)) (he : P.underlying e = some (.int .u8)) (h1 : P.cellsOf e = 1) (ht : P.cellsOf t = 1) {rows : List (List Value)} (hl : rows.length = n)
    (h : ∀ (i : Nat) (r : List Value), rows[i]? = some r → ∃ a, A = some a ∧ (∀ j v, r[j]? = some v → (Full W).cell? (a.add (i * P.cellsOf t + j)) = some v) ∧ r.length = P.cellsOf t ∧ ∃ f d' p', DataW.trod enc P W 0 (fun _ => true) true f t r = some (d', p')) :
    ∃ l : List (Option Addr × Nat × Nat × List UInt8), l.length = n ∧ Cells (Full W) A (l.map fun p => .slice p.1 p.2.1 p.2.2.1) ∧ ∀ p ∈ l, p.2.1 = p.2.2.2.length ∧ p.2.1 ≤ 9223372036854775807 ∧ Cells (Full W) p.1 (byteVals p.2.2.2) := by
  refine rows_cells hl fun i r hi => ?_
  obtain ⟨a, ha, hc, hlen, f, d', p', hd⟩ := h i r hi
  rw [ht] at hc
  obtain ⟨A', n', c', rfl, h3, h4, bs, h5, h6⟩ := trod_bytes hu he h1 hd
  exact ⟨a, ha, hc, (A', n', c', bs), rfl, h5.symm, Nat.le_trans h3 h4, h6⟩

theorem rows_words {A : Option Addr} {n : Nat} (hu : P.underlying t = some (.slice e)) (he : P.underlying e = some (.int .u64)) (h1 : P.cellsOf e = 1) (ht : P.cellsOf t = 1) {rows : List (List Value)} (hl : rows.length = n)
    (h : ∀ (i : Nat) (r : List Value), rows[i]? = some r → ∃ a, A = some a ∧ (∀ j v, r[j]? = some v → (Full W).cell? (a.add (i * P.cellsOf t + j)) = some v) ∧ r.length = P.cellsOf t ∧ ∃ f d' p', DataW.trod enc P W 0 (fun _ => true) true f t r = some (d', p')) :
    ∃ l : List (Option Addr × Nat × Nat × List UInt64), l.length = n ∧ Cells (Full W) A (l.map fun p => .slice p.1 p.2.1 p.2.2.1) ∧ ∀ p ∈ l, p.2.1 = p.2.2.2.length ∧ p.2.1 ≤ 9223372036854775807 ∧ Cells (Full W) p.1 (wordVals p.2.2.2) := by
  refine rows_cells hl fun i r hi => ?_
  obtain ⟨a, ha, hc, hlen, f, d', p', hd⟩ := h i r hi
  rw [ht] at hc
  obtain ⟨A', n', c', rfl, h3, h4, bs, h5, h6⟩ := trod_words hu he h1 hd
  exact ⟨a, ha, hc, (A', n', c', bs), rfl, h5.symm, Nat.le_trans h3 h4, h6⟩

/-- A slice that came in: its value. -/
theorem open_sl (hu : P.underlying t = some (.slice e)) (hval : Value.okWide P W r base t v) (h : DataW.Trod enc P W 0 (fun _ => true) true t v d ps) : ∃ A n c, v = .slice A n c ∧ ∃ fuel, DataW.trod enc P W 0 (fun _ => true) true fuel t [.slice A n c] = some (d, ps) := by
  obtain ⟨A, n, c, rfl⟩ := okWide_slice hu hval
  obtain ⟨fuel, h⟩ := h
  exact ⟨A, n, c, rfl, fuel, h⟩
end

theorem wf_int {k : IntKind} {n : Int} (h : (Lit.int k n).wf = true) : k.min ≤ n ∧ n ≤ k.max := by
  simpa [Lit.wf] using h

end Go.Hw

end
section
/-! HwS -/
/- The frame of the proofs: parts of memory side by side; a call over a part of what is known leaves the rest. -/
set_option maxRecDepth 100000
set_option linter.unusedSimpArgs false
set_option linter.unusedVariables false
set_option linter.unnecessarySimpa false
set_option linter.unusedSectionVars false
namespace Go.Hw
open Go

/-- What a call over a part of memory leaves of the whole. -/
def Hp.patch (H H1 H1' : Hp) : Hp := fun b => match H1' b with | some o => some o | none => match H1 b with | some _ => none | none => H b

theorem At.patch {H H1 H1' : Hp} {w w' : World} (hH : Fits H w) (hle : H1.le H) (h : At H1 w H1' w') : At H w (H.patch H1 H1') w' := by
  refine ⟨fun b o hb => ?_, h.size, h.os, h.tape, h.output, fun b hb h0 => ?_⟩
  · unfold Hp.patch at hb
    split at hb
    · rename_i o' ho'
      cases hb
      exact h.fits b _ ho'
    · rename_i hn
      split at hb
      · cases hb
      · rename_i h1
        obtain ⟨x, hx, hh⟩ := hH b o hb
        refine ⟨x, ?_, hh⟩
        rw [(h.old b (Array.getElem?_eq_some_iff.1 hx).1 h1).2]; exact hx
  · have h1 : H1 b = none := by
      cases e : H1 b with
      | none => rfl
      | some o => rw [hle b o e] at h0; cases h0
    obtain ⟨h2, h3⟩ := h.old b hb h1
    refine ⟨?_, h3⟩
    unfold Hp.patch
    rw [h2, h1]; exact h0

/-- A call over a part of what is known. -/
theorem HCalls.frame {P : Program} {f : FuncId} {args : Array Value} {H H1 : Hp} {R : Value → Hp → Prop} (h : HCalls P f args H1 R) (hle : H1.le H) :
    HCalls P f args H fun v H' => ∃ H1', R v H1' ∧ H' = H.patch H1 H1' ∧ ∀ b, H b ≠ none → H1 b = none → H1' b = none := fun w hw => by
  have hw1 : Fits H1 w := fun b o hb => hw b o (hle b o hb)
  refine (h w hw1).mono ?_
  rintro e w' ⟨v, H1', rfl, hr, hA⟩
  refine ⟨v, _, rfl, ⟨H1', hr, rfl, fun b hb h1 => ?_⟩, hA.patch hw hle⟩
  cases hq : H b with
  | none => exact absurd hq hb
  | some o =>
    obtain ⟨x, hx, _⟩ := hw b o hq
    exact (hA.old b (Array.getElem?_eq_some_iff.1 hx).1 h1).1

/-! ## Parts -/

abbrev As := Hp → Prop

def Apart (H1 H2 : Hp) : Prop := ∀ b, H1 b = none ∨ H2 b = none

def Hp.or (H1 H2 : Hp) : Hp := fun b => match H1 b with | some o => some o | none => H2 b

theorem Hp.le_none {H H' : Hp} {b : Nat} (h : H.le H') (hn : H' b = none) : H b = none := by
  cases e : H b with
  | none => rfl
  | some o => rw [h b o e] at hn; cases hn

theorem Apart.symm {H1 H2 : Hp} (h : Apart H1 H2) : Apart H2 H1 := fun b => (h b).symm
theorem Apart.le {H1 H2 H1' H2' : Hp} (h : Apart H1 H2) (h1 : H1'.le H1) (h2 : H2'.le H2) : Apart H1' H2' := fun b =>
  (h b).elim (fun e => .inl (Hp.le_none h1 e)) (fun e => .inr (Hp.le_none h2 e))
theorem Apart.or {H1 H2 H3 : Hp} (h : Apart H1 H3) (k : Apart H2 H3) : Apart (H1.or H2) H3 := fun b => by
  unfold Hp.or
  rcases h b with e | e
  · rw [e]; exact k b
  · exact .inr e
theorem Hp.or_le {H1 H2 H : Hp} (h1 : H1.le H) (h2 : H2.le H) : (H1.or H2).le H := fun b o ho => by
  unfold Hp.or at ho
  split at ho
  · rename_i o' e; cases ho; exact h1 b _ e
  · exact h2 b o ho
theorem Hp.le_or_left (H1 H2 : Hp) : H1.le (H1.or H2) := fun b o ho => by unfold Hp.or; rw [ho]
theorem Hp.le_or_right {H1 H2 : Hp} (h : Apart H1 H2) : H2.le (H1.or H2) := fun b o ho => by
  unfold Hp.or
  rcases h b with e | e
  · rw [e]; exact ho
  · rw [e] at ho; cases ho

/-- Parts of memory, side by side. -/
def Sep : List As → Hp → Prop
  | [], _ => True
  | A :: L, H => ∃ H1 H2, H1.le H ∧ H2.le H ∧ Apart H1 H2 ∧ A H1 ∧ Sep L H2

theorem Sep.up : ∀ {L : List As} {H H' : Hp}, Sep L H → H.le H' → Sep L H'
  | [], _, _, _, _ => trivial
  | _ :: _, _, _, ⟨H1, H2, h1, h2, h3, h4, h5⟩, k => ⟨H1, H2, Hp.le_trans h1 k, Hp.le_trans h2 k, h3, h4, h5⟩

theorem Sep.swap {A B : As} {L : List As} {H : Hp} : Sep (A :: B :: L) H → Sep (B :: A :: L) H
  | ⟨H1, H2, h1, h2, h3, h4, H3, H4, k1, k2, k3, k4, k5⟩ =>
    ⟨H3, H1.or H4, Hp.le_trans k1 h2, Hp.or_le h1 (Hp.le_trans k2 h2), (Apart.or (h3.le (Hp.le_refl _) k1) k3.symm).symm, k4, H1, H4, Hp.le_or_left _ _, Hp.le_or_right (h3.le (Hp.le_refl _) k2), h3.le (Hp.le_refl _) k2, h4, k5⟩

theorem Sep.perm {L L' : List As} (p : L.Perm L') : ∀ {H : Hp}, Sep L H → Sep L' H := by
  induction p with
  | nil => exact fun h => h
  | cons A _ ih => exact fun ⟨H1, H2, h1, h2, h3, h4, h5⟩ => ⟨H1, H2, h1, h2, h3, h4, ih h5⟩
  | swap A B L => exact fun h => h.swap
  | trans _ _ ih1 ih2 => exact fun h => ih2 (ih1 h)

theorem Sep.tail {A : As} {L : List As} {H : Hp} : Sep (A :: L) H → Sep L H
  | ⟨_, _, _, h2, _, _, h5⟩ => h5.up h2

theorem Sep.drop : ∀ {M L : List As} {H : Hp}, Sep (M ++ L) H → Sep L H
  | [], _, _, h => h
  | _ :: _, _, _, h => Sep.drop h.tail

theorem Sep.take {M L : List As} {H : Hp} (h : Sep (M ++ L) H) : Sep M H := Sep.drop (Sep.perm List.perm_append_comm h)

/-- A part is split, or put together, or said in other words. -/
theorem Sep.map {A : As} {L M : List As} {H : Hp} (h : Sep (A :: L) H) (k : ∀ H1, A H1 → Sep M H1) : Sep (M ++ L) H := by
  obtain ⟨H1, H2, h1, h2, h3, h4, h5⟩ := h
  have hM := k H1 h4
  clear h4 k
  induction M generalizing H1 H with
  | nil => exact h5.up h2
  | cons B M ih =>
    obtain ⟨H3, H4, k1, k2, k3, k4, k5⟩ := hM
    exact ⟨H3, H4.or H2, Hp.le_trans k1 h1, Hp.or_le (Hp.le_trans k2 h1) h2, (Apart.or k3.symm (h3.le k1 (Hp.le_refl _)).symm).symm, k4, ih (H4) (Hp.le_or_left _ _) (Hp.le_or_right (h3.le k2 (Hp.le_refl _))) (h3.le k2 (Hp.le_refl _)) k5⟩

theorem Sep.append {M L : List As} {H : Hp} (h : Sep (M ++ L) H) : ∃ H1 H2, H1.le H ∧ H2.le H ∧ Apart H1 H2 ∧ Sep M H1 ∧ Sep L H2 := by
  induction M generalizing H with
  | nil => exact ⟨fun _ => none, H, fun b o h => (by cases h), Hp.le_refl _, fun b => Or.inl rfl, trivial, h⟩
  | cons A M ih =>
    obtain ⟨H1, H2, h1, h2, h3, h4, h5⟩ := h
    obtain ⟨H3, H4, k1, k2, k3, k4, k5⟩ := ih h5
    exact ⟨H1.or H3, H4, Hp.or_le h1 (Hp.le_trans k1 h2), Hp.le_trans k2 h2, Apart.or (h3.le (Hp.le_refl _) k2) k3, ⟨H1, H3, Hp.le_or_left _ _, Hp.le_or_right (h3.le (Hp.le_refl _) k1), h3.le (Hp.le_refl _) k1, h4, k4⟩, k5⟩

theorem Sep.join {M L : List As} {H1 H2 H : Hp} (h1 : H1.le H) (h2 : H2.le H) (h3 : Apart H1 H2) (hM : Sep M H1) (hL : Sep L H2) : Sep (M ++ L) H := by
  have : Sep (Sep M :: L) H := ⟨H1, H2, h1, h2, h3, hM, hL⟩
  exact this.map (fun _ h => h)

def sel (L : List As) : List Nat → List As
  | [] => []
  | i :: is => match L[i]? with | some A => A :: sel L is | none => sel L is

def rest (L : List As) (is : List Nat) : List As := go 0 L
where go (k : Nat) : List As → List As
  | [] => []
  | A :: L => match is.contains k with | true => go (k + 1) L | false => A :: go (k + 1) L

theorem rest_nil (L : List As) : rest L [] = L := by
  have key : ∀ (L : List As) k, rest.go [] k L = L := by
    intro L
    induction L with
    | nil => intro k; rfl
    | cons A L ih => intro k; unfold rest.go; simp only [List.contains_nil]; rw [ih]
  exact key L 0

theorem perm_skip {o : Option As} {c : Prop} [Decidable c] {X : As → List As} {Y Z : List As} (hc : ¬ c) (h : Y.Perm Z) : (match o with | some A => if c then X A else Y | none => Y).Perm Z := by
  cases o with
  | none => exact h
  | some A => simp only [hc, if_false]; exact h
theorem perm_skip' {o : Option As} {c : Prop} [Decidable c] {X : As → List As} {Y Z : List As} (hc : ¬ c) (h : (match o with | some A => if c then X A else Y | none => Y).Perm Z) : Y.Perm Z := by
  cases o with
  | none => exact h
  | some A => simp only [hc, if_false] at h; exact h

theorem rest_cons (i : Nat) (is : List Nat) (hi : is.contains i = false) (L : List As) : (match L[i]? with | some A => (A :: rest L (i :: is)) | none => rest L (i :: is)).Perm (rest L is) := by
  have key : ∀ (L : List As) (k : Nat), (match L[i - k]? with | some A => if k ≤ i then (A :: rest.go (i :: is) k L) else rest.go (i :: is) k L | none => rest.go (i :: is) k L).Perm (rest.go is k L) := by
    intro L
    induction L with
    | nil => intro k; simp [rest.go]
    | cons A L ih =>
      intro k
      have ih := ih (k + 1)
      by_cases hk : k ≤ i
      · by_cases e : i = k
        · subst e
          have ih := perm_skip' (by omega) ih
          unfold rest.go
          simp only [Nat.sub_self, List.getElem?_cons_zero, Nat.le_refl, if_true]
          rw [show (i :: is).contains i = true by simp, hi]
          exact List.Perm.cons A ih
        · have hc : (i :: is).contains k = is.contains k := by
            rw [List.contains_cons, show (k == i) = false by simp; omega]; simp
          have h1 : i - k = (i - (k + 1)) + 1 := by omega
          rw [h1, List.getElem?_cons_succ]
          have hk' : k + 1 ≤ i := by omega
          simp only [hk', if_true] at ih
          simp only [hk, if_true]
          unfold rest.go
          rw [hc]
          cases hb : is.contains k with
          | true => exact ih
          | false =>
            simp only
            cases h : L[i - (k + 1)]? with
            | none => rw [h] at ih; exact List.Perm.cons A ih
            | some B => rw [h] at ih; exact (List.Perm.swap A B _).trans (List.Perm.cons A ih)
      · have ih := perm_skip' (by omega) ih
        refine perm_skip hk ?_
        have hc : (i :: is).contains k = is.contains k := by
          rw [List.contains_cons, show (k == i) = false by simp; omega]; simp
        unfold rest.go
        rw [hc]
        cases is.contains k
        · exact List.Perm.cons A ih
        · exact ih
  have := key L 0
  simpa [rest] using this

def nodupB : List Nat → Bool
  | [] => true
  | i :: is => !is.contains i && nodupB is

theorem sel_rest (L : List As) : ∀ (is : List Nat), nodupB is = true → (sel L is ++ rest L is).Perm L
  | [], _ => by rw [rest_nil]; exact .refl _
  | i :: is, h => by
    unfold nodupB at h
    simp only [Bool.and_eq_true, Bool.not_eq_true'] at h
    have ih := sel_rest L is h.2
    have hr := rest_cons i is h.1 L
    unfold sel
    cases e : L[i]? with
    | none => rw [e] at hr; exact (List.Perm.append_left _ hr).trans ih
    | some A =>
      rw [e] at hr
      refine List.Perm.trans ?_ ((List.Perm.append_left _ hr).trans ih)
      exact List.perm_middle.symm

/-- Parts in another order, or some of them only. -/
theorem Sep.re {L : List As} {H : Hp} (h : Sep L H) (is : List Nat) (hn : nodupB is = true) : Sep (sel L is) H :=
  Sep.take (Sep.perm (sel_rest L is hn).symm h)

theorem Sep.split {L : List As} {H : Hp} (h : Sep L H) (is : List Nat) (hn : nodupB is = true) : Sep (sel L is ++ rest L is) H := Sep.perm (sel_rest L is hn).symm h

theorem Sep.see {L : List As} {H : Hp} (h : Sep L H) (i : Nat) {A : As} (hi : L[i]? = some A) : ∃ H1, A H1 ∧ H1.le H := by
  have h1 : Sep [A] H := by
    have := h.re [i] rfl
    unfold sel at this
    rw [hi] at this
    exact this
  obtain ⟨H1, _, k1, _, _, k4, _⟩ := h1
  exact ⟨H1, k4, k1⟩

/-! ## One block -/

def pts (b : Nat) (o : AO) : As := fun H => H b = some o
/-- All that was known ahead stands. -/
def own (H0 : Hp) : As := fun H => H0.le H
/-- A fact. -/
def pur (p : Prop) : As := fun _ => p

theorem Sep.get {L : List As} {H : Hp} (h : Sep L H) (i : Nat) {b : Nat} {o : AO} (hi : L[i]? = some (pts b o)) : H b = some o := by
  obtain ⟨H1, h1, h2⟩ := h.see i hi
  exact h2 _ _ h1

theorem Sep.ow {L : List As} {H H0 : Hp} (h : Sep L H) (i : Nat) (hi : L[i]? = some (own H0)) : H0.le H := by
  obtain ⟨H1, h1, h2⟩ := h.see i hi
  exact Hp.le_trans h1 h2

theorem Sep.start (H : Hp) : Sep [own H] H := ⟨H, fun _ => none, Hp.le_refl _, fun b o h => (by cases h), fun b => Or.inr rfl, Hp.le_refl _, trivial⟩

theorem Sep.new {L : List As} {H : Hp} (h : Sep L H) {b : Nat} (hb : H b = none) (o : AO) : Sep (L ++ [pts b o]) (H.set b o) := by
  refine Sep.join (H1 := H) (H2 := fun c => if c = b then some o else none) (Hp.le_set hb) ?_ ?_ h ⟨_, fun _ => none, Hp.le_refl _, fun b o h => (by cases h), fun b => .inr rfl, (if_pos rfl : (if b = b then some o else none) = some o), trivial⟩
  · intro c q hq
    simp only at hq
    split at hq
    · rename_i e; subst e; rw [Hp.set_same]; exact hq
    · cases hq
  · intro c
    by_cases e : c = b
    · left; rw [e]; exact hb
    · right; simp only [e, if_false]

theorem Sep.put {L : List As} {H : Hp} (h : Sep L H) (i : Nat) {b : Nat} {o : AO} (o' : AO) (hi : L[i]? = some (pts b o)) : Sep (L.set i (pts b o')) (H.set b o') := by
  have key : ∀ (L : List As) (i : Nat) (H : Hp), Sep L H → L[i]? = some (pts b o) → Sep (L.set i (pts b o')) (H.set b o') := by
    intro L
    induction L with
    | nil => intro i H _ hi; simp at hi
    | cons A L ih =>
      intro i H h hi
      obtain ⟨H1, H2, h1, h2, h3, h4, h5⟩ := h
      cases i with
      | zero =>
        simp only [List.getElem?_cons_zero, Option.some.injEq] at hi
        subst hi
        have h4' : H1 b = some o := h4
        have hn : H2 b = none := (h3 b).resolve_left (by rw [h4']; simp)
        refine ⟨H1.set b o', H2, Hp.set_le h1 b o', fun c q hq => ?_, fun c => ?_, Hp.set_same _ _ _, h5⟩
        · rw [Hp.set_other _ _ (fun e => by rw [e, hn] at hq; cases hq)]; exact h2 c q hq
        · by_cases e : c = b
          · right; rw [e]; exact hn
          · rw [Hp.set_other _ _ e]; exact h3 c
      | succ i =>
        rw [List.getElem?_cons_succ] at hi
        have hb : H2 b = some o := Sep.get h5 i hi
        have hn : H1 b = none := (h3 b).resolve_right (by rw [hb]; simp)
        refine ⟨H1, H2.set b o', fun c q hq => ?_, Hp.set_le h2 b o', fun c => ?_, h4, ih i H2 h5 hi⟩
        · rw [Hp.set_other _ _ (fun e => by rw [e, hn] at hq; cases hq)]; exact h1 c q hq
        · by_cases e : c = b
          · left; rw [e]; exact hn
          · rw [Hp.set_other _ _ e]; exact h3 c
  exact key L i H h hi

theorem Sep.gone {L : List As} {H : Hp} (h : Sep L H) (i : Nat) {b : Nat} {o : AO} (hi : L[i]? = some (pts b o)) : Sep (rest L [i]) (H.erase b) := by
  have h1 := h.split [i] rfl
  unfold sel at h1
  rw [hi] at h1
  obtain ⟨H1, H2, k1, k2, k3, k4, k5⟩ := h1
  refine k5.up fun c q hq => ?_
  have hc : c ≠ b := fun e => by
    have k4' : H1 b = some o := k4
    rcases k3 b with e2 | e2
    · rw [k4'] at e2; cases e2
    · rw [e, e2] at hq; cases hq
  unfold Hp.erase
  rw [if_neg hc]
  exact k2 c q hq

/-! ## Steps of a formula -/

def nthV : List Value → Nat → Option Value
  | [], _ => none
  | v :: _, 0 => some v
  | _ :: l, n + 1 => nthV l n
theorem nthV_eq : ∀ (l : List Value) (i : Nat), nthV l i = l[i]?
  | [], _ => by simp [nthV]
  | v :: _, 0 => rfl
  | _ :: l, n + 1 => by simp [nthV, nthV_eq l n]

section
variable {L : List As} {H : Hp}

theorem Sep.nw (h : Sep L H) {o : AO} {K : Nat → Hp → Prop} (k : ∀ b H', Sep (L ++ [pts b o]) H' → K b H') : Nw H o K := fun b hb => k b _ (h.new hb o)

theorem Sep.ld (h : Sep L H) (i : Nat) {b j : Nat} {c : Array Value} {e : TypeId} {v : Value} {K : Value → Prop} (hi : L[i]? = some (pts b (.obj (.cells c e)))) (hv : nthV c.toList j = some v) (k : K v) : Ld H ⟨b, j, none⟩ K :=
  Ld_obj (h.get i hi) (by rw [nthV_eq, Array.getElem?_toList] at hv; exact hv) k
theorem Sep.ldr (h : Sep L H) (i : Nat) {b j : Nat} {xs : List Value} {e : TypeId} {m : Nat} {v : Value} {K : Value → Prop} (hi : L[i]? = some (pts b (.row xs e m))) (hv : xs[j]? = some v) (k : K v) : Ld H ⟨b, j, none⟩ K :=
  Ld_row (h.get i hi) hv k
theorem Sep.st (h : Sep L H) (i : Nat) {b j : Nat} {c : Array Value} {e : TypeId} {v : Value} {K : Hp → Prop} (hi : L[i]? = some (pts b (.obj (.cells c e)))) (hj : j < c.size) (hv : v.oneCell' = true)
    (k : ∀ H', Sep (L.set i (pts b (.obj (.cells (c.setIfInBounds j v) e)))) H' → K H') : St H ⟨b, j, none⟩ v K :=
  St_obj (h.get i hi) hj hv (k _ (h.put i _ hi))
theorem Sep.str (h : Sep L H) (i : Nat) {b j : Nat} {xs : List Value} {e : TypeId} {m : Nat} {v : Value} {K : Hp → Prop} (hi : L[i]? = some (pts b (.row xs e m))) (hj : j < xs.length) (hv : v.oneCell' = true)
    (k : ∀ H', Sep (L.set i (pts b (.row (xs.set j v) e m))) H' → K H') : St H ⟨b, j, none⟩ v K :=
  St_row (h.get i hi) hj hv (k _ (h.put i _ hi))
theorem Sep.lda (h : Sep L H) (i : Nat) {b off n : Nat} {c : Array Value} {e : TypeId} {K : List Value → Prop} (hi : L[i]? = some (pts b (.obj (.cells c e)))) (hn : off + n ≤ c.size) (k : K ((c.toList.drop off).take n)) : LdA H ⟨b, off, none⟩ n K :=
  LdA_at (h.get i hi) hn k
theorem Sep.sta (h : Sep L H) (i : Nat) {b off n : Nat} {c y : Array Value} {e : TypeId} {K : Hp → Prop} (hi : L[i]? = some (pts b (.obj (.cells c e)))) (hn : off + n ≤ c.size) (hy : y.size = n) (hv : y.toList.all (fun v => v.oneCell') = true)
    (k : ∀ H', Sep (L.set i (pts b (.obj (.cells (setAt c.toList off y.toList).toArray e)))) H' → K H') : StA H ⟨b, off, none⟩ y n K :=
  StA_lit (h.get i hi) hn hy hv (k _ (h.put i _ hi))
theorem Sep.mks (h : Sep L H) {P : Program} {e : TypeId} {s bs : Nat} {z : Array Value} (hi : cellInfo P e = some (s, bs, some z)) (hs : z.size = s) {l c : Int} {n m : Nat} (hl : l = n) (hc : c = m) (hnm : n ≤ m) (hm : bs * m ≤ 140737488355328) (hm2 : m ≤ 9223372036854775807) {K : Value → Hp → Prop}
    (k : ∀ b H', Sep (L ++ [pts b (.row (zeroRow z.toList n) e (m * s))]) H' → K (.slice (some ⟨b, 0, none⟩) n m) H') : MkS P e l c H K :=
  MkS_of hi hs hl hc hnm hm hm2 fun b hb => k b _ (h.new hb _)
end

/-! ## Contracts -/

/-- A call over parts of memory: what it answers, and which parts are left. -/
def Tr (P : Program) (f : FuncId) (args : Array Value) (Pre : List As) (Q : Value → List As → Prop) : Prop :=
  ∀ H, Sep Pre H → HCalls P f args H fun v H' => ∃ M, Q v M ∧ Sep M H'

theorem Tr.use {P : Program} {f : FuncId} {args : Array Value} {Pre : List As} {Q : Value → List As → Prop} (t : Tr P f args Pre Q) {L : List As} {H : Hp} (h : Sep L H) (is : List Nat) (hs : sel L is = Pre) (hn : nodupB is = true) {K : Value → Hp → Prop}
    (k : ∀ v M H', Q v M → Sep (M ++ rest L is) H' → K v H') : HCalls P f args H K := by
  have h1 := h.split is hn
  rw [hs] at h1
  obtain ⟨H1, H2, k1, k2, k3, k4, k5⟩ := h1.append
  refine ((t H1 k4).frame k1).mono ?_
  rintro v H' ⟨H1', ⟨M, hq, hM⟩, rfl, hfr⟩
  refine k v M _ hq (Sep.join (H1 := H1') (H2 := H2) (fun b o hb => ?_) (fun b o hb => ?_) (fun b => ?_) hM k5)
  · unfold Hp.patch; rw [hb]
  · have e1 : H1 b = none := (k3 b).resolve_right (by rw [hb]; simp)
    have e2 : H1' b = none := hfr b (by rw [k2 b o hb]; simp) e1
    unfold Hp.patch; rw [e2, e1]; exact k2 b o hb
  · cases e : H2 b with
    | none => exact .inr rfl
    | some o =>
      left
      exact hfr b (by rw [k2 b o e]; simp) ((k3 b).resolve_right (by rw [e]; simp))

/-! ## Deferred calls -/

theorem HCallsD.mono {P : Program} {f : FuncId} {args : Array Value} {H : Hp} {R R' : Value → Hp → Prop} (h : HCallsD P f args H R) (k : ∀ v H', R v H' → R' v H') : HCallsD P f args H R' := fun w hw c cs hc => by
  obtain ⟨e, u', w', fr, ⟨hu, v, H', rfl, hr, hA⟩, hx⟩ := h w hw c cs hc
  exact ⟨_, _, w', fr, ⟨hu, v, H', rfl, k v H' hr, hA⟩, hx⟩

theorem HCallsD.frame {P : Program} {f : FuncId} {args : Array Value} {H H1 : Hp} {R : Value → Hp → Prop} (h : HCallsD P f args H1 R) (hle : H1.le H) :
    HCallsD P f args H fun v H' => ∃ H1', R v H1' ∧ H' = H.patch H1 H1' ∧ ∀ b, H b ≠ none → H1 b = none → H1' b = none := fun w hw c cs hc => by
  have hw1 : Fits H1 w := fun b o hb => hw b o (hle b o hb)
  obtain ⟨e, u', w', fr, ⟨hu, v, H1', rfl, hr, hA⟩, hx⟩ := h w hw1 c cs hc
  refine ⟨_, _, w', fr, ⟨hu, v, _, rfl, ⟨H1', hr, rfl, fun b hb h1 => ?_⟩, hA.patch hw hle⟩, hx⟩
  cases hq : H b with
  | none => exact absurd hq hb
  | some o =>
    obtain ⟨x, hx, _⟩ := hw b o hq
    exact (hA.old b (Array.getElem?_eq_some_iff.1 hx).1 h1).1

def TrD (P : Program) (f : FuncId) (args : Array Value) (Pre : List As) (Q : Value → List As → Prop) : Prop :=
  ∀ H, Sep Pre H → HCallsD P f args H fun v H' => ∃ M, Q v M ∧ Sep M H'

theorem TrD.use {P : Program} {f : FuncId} {args : Array Value} {Pre : List As} {Q : Value → List As → Prop} (t : TrD P f args Pre Q) {L : List As} {H : Hp} (h : Sep L H) (is : List Nat) (hs : sel L is = Pre) (hn : nodupB is = true) {K : Value → Hp → Prop}
    (k : ∀ v M H', Q v M → Sep (M ++ rest L is) H' → K v H') : HCallsD P f args H K := by
  have h1 := h.split is hn
  rw [hs] at h1
  obtain ⟨H1, H2, k1, k2, k3, k4, k5⟩ := h1.append
  refine ((t H1 k4).frame k1).mono ?_
  rintro v H' ⟨H1', ⟨M, hq, hM⟩, rfl, hfr⟩
  refine k v M _ hq (Sep.join (H1 := H1') (H2 := H2) (fun b o hb => ?_) (fun b o hb => ?_) (fun b => ?_) hM k5)
  · unfold Hp.patch; rw [hb]
  · have e1 : H1 b = none := (k3 b).resolve_right (by rw [hb]; simp)
    have e2 : H1' b = none := hfr b (by rw [k2 b o hb]; simp) e1
    unfold Hp.patch; rw [e2, e1]; exact k2 b o hb
  · cases e : H2 b with
    | none => exact .inr rfl
    | some o =>
      left
      exact hfr b (by rw [k2 b o e]; simp) ((k3 b).resolve_right (by rw [e]; simp))

/-- A contract over memory that is left as it was. -/
theorem Tr.of_ret {P : Program} {f : FuncId} {args : Array Value} {Pre : List As} {v : Value} (h : ∀ H, Sep Pre H → HCalls P f args H (RetE v H)) : Tr P f args Pre fun v' M => v' = v ∧ M = Pre := fun H hs =>
  (h H hs).mono fun _ _ ⟨e1, e2⟩ => ⟨Pre, ⟨e1, rfl⟩, by rw [e2]; exact hs⟩

theorem Sep.fin {L : List As} {H H0 : Hp} (h : Sep L H) (i : Nat) (hi : L[i]? = some (own H0)) (v : Value) : Ret v H0 v H := ⟨rfl, h.ow i hi⟩

end Go.Hw

end
section
/-! HwO -/
/- The frame of the proofs: slices of one's own, as parts of memory; elements of several cells. -/
set_option maxRecDepth 100000
set_option linter.unusedSimpArgs false
set_option linter.unusedVariables false
set_option linter.unnecessarySimpa false
set_option linter.unusedSectionVars false
namespace Go.Hw
open Go

theorem erase_none {G : Hp} {q : Nat} (b : Nat) (h : G q = none) : G.erase b q = none := by
  unfold Hp.erase; split
  · rfl
  · exact h

/-- A slice of one's own: its elements' cells (s each), in a row of its own, or nil. -/
def Own (e : TypeId) (s : Nat) (A : Option Addr) (n m : Nat) (xs : List Value) : As := fun H =>
  xs.length = n * s ∧ ((A = none ∧ n = 0 ∧ m = 0) ∨ ∃ b mm, A = some ⟨b, 0, none⟩ ∧ H b = some (.row xs e mm) ∧ m * s ≤ mm)

theorem Own.up {e : TypeId} {s : Nat} {A : Option Addr} {n m : Nat} {xs : List Value} {H H' : Hp} (h : Own e s A n m xs H) (k : H.le H') : Own e s A n m xs H' := by
  obtain ⟨h1, h2⟩ := h
  refine ⟨h1, h2.imp id ?_⟩
  rintro ⟨b, mm, h3, h4, h5⟩
  exact ⟨b, mm, h3, k _ _ h4, h5⟩

theorem Own.none (e : TypeId) (s : Nat) (H : Hp) : Own e s .none 0 0 [] H := ⟨by simp, .inl ⟨rfl, rfl, rfl⟩⟩

section
variable {L : List As} {H : Hp}

theorem Sep.own (h : Sep L H) (i : Nat) {e : TypeId} {s : Nat} {A : Option Addr} {n m : Nat} {xs : List Value} (hi : L[i]? = some (Own e s A n m xs)) : Own e s A n m xs H := by
  obtain ⟨H1, h1, h2⟩ := h.see i hi
  exact h1.up h2

theorem Own.len {e : TypeId} {s : Nat} {A : Option Addr} {n m : Nat} {xs : List Value} (h : Own e s A n m xs H) : xs.length = n * s := h.1

/-- Put in some part's place. -/
theorem Sep.turn (h : Sep L H) (i : Nat) {A : As} (hi : L[i]? = some A) {B : As} (k : ∀ H1, A H1 → B H1) : Sep (L.set i B) H := by
  induction L generalizing i H with
  | nil => simp at hi
  | cons C L ih =>
    obtain ⟨H1, H2, h1, h2, h3, h4, h5⟩ := h
    cases i with
    | zero =>
      simp only [List.getElem?_cons_zero, Option.some.injEq] at hi
      subst hi
      exact ⟨H1, H2, h1, h2, h3, k _ h4, h5⟩
    | succ i => exact ⟨H1, H2, h1, h2, h3, h4, ih h5 i hi⟩

theorem Sep.turn' (h : Sep L H) (i : Nat) {A : As} (hi : L[i]? = some A) {B : As} (k : ∀ H1, H1.le H → A H1 → B H1) : Sep (L.set i B) H := by
  induction L generalizing i H with
  | nil => simp at hi
  | cons C L ih =>
    obtain ⟨H1, H2, h1, h2, h3, h4, h5⟩ := h
    cases i with
    | zero =>
      simp only [List.getElem?_cons_zero, Option.some.injEq] at hi
      subst hi
      exact ⟨H1, H2, h1, h2, h3, k _ h1 h4, h5⟩
    | succ i => exact ⟨H1, H2, h1, h2, h3, h4, ih h5 i hi fun G hG hA => k G (Hp.le_trans hG h2) hA⟩

/-- A slice of one's own is a row, or nil. -/
theorem Sep.unown (h : Sep L H) (i : Nat) {e : TypeId} {s : Nat} {A : Option Addr} {n m : Nat} {xs : List Value} (hi : L[i]? = some (Own e s A n m xs)) :
    (A = none ∧ n = 0 ∧ m = 0 ∧ xs = []) ∨ ∃ b mm, A = some ⟨b, 0, .none⟩ ∧ m * s ≤ mm ∧ xs.length = n * s ∧ Sep (L.set i (pts b (.row xs e mm))) H := by
  obtain ⟨h1, h2⟩ := h.own i hi
  rcases h2 with ⟨h2, h3, h4⟩ | ⟨b, mm, rfl, h4, h5⟩
  · refine .inl ⟨h2, h3, h4, ?_⟩
    rw [h3] at h1
    cases xs with
    | nil => rfl
    | cons x l => simp at h1
  · refine .inr ⟨b, mm, rfl, h5, h1, h.turn' i hi fun H1 hle hO => ?_⟩
    obtain ⟨_, k2⟩ := hO
    rcases k2 with ⟨k2, _⟩ | ⟨b', mm', k2, k3, _⟩
    · cases k2
    · cases k2
      have := hle _ _ k3
      rw [h4] at this; cases this
      exact k3

/-- A block of a part is turned within it. -/
theorem Sep.putIn (h : Sep L H) (i : Nat) {A : As} (hi : L[i]? = some A) {b : Nat} {o' : AO} {B : As} (k : ∀ H1, H1.le H → A H1 → ∃ o, H1 b = some o ∧ B (H1.set b o')) : Sep (L.set i B) (H.set b o') := by
  induction L generalizing i H with
  | nil => simp at hi
  | cons C L ih =>
    obtain ⟨H1, H2, h1, h2, h3, h4, h5⟩ := h
    cases i with
    | zero =>
      simp only [List.getElem?_cons_zero, Option.some.injEq] at hi
      subst hi
      obtain ⟨o, ho, hB⟩ := k H1 h1 h4
      have hn : H2 b = none := (h3 b).resolve_left (by rw [ho]; simp)
      refine ⟨H1.set b o', H2, Hp.set_le h1 b o', fun c q hq => ?_, fun c => ?_, hB, h5⟩
      · rw [Hp.set_other _ _ (fun e => by rw [e, hn] at hq; cases hq)]; exact h2 c q hq
      · by_cases e : c = b
        · right; rw [e]; exact hn
        · rw [Hp.set_other _ _ e]; exact h3 c
    | succ i =>
      rw [List.getElem?_cons_succ] at hi
      have ih' := ih h5 i hi (fun G hG hA => k G (Hp.le_trans hG h2) hA)
      have hb : ∃ o, H2 b = some o := by
        obtain ⟨G, hG, hle⟩ := h5.see i hi
        obtain ⟨o, ho, _⟩ := k G (Hp.le_trans hle h2) hG
        exact ⟨o, hle _ _ ho⟩
      obtain ⟨o, hb⟩ := hb
      have hn : H1 b = none := (h3 b).resolve_right (by rw [hb]; simp)
      refine ⟨H1, H2.set b o', fun c q hq => ?_, Hp.set_le h2 b o', fun c => ?_, h4, ih'⟩
      · rw [Hp.set_other _ _ (fun e => by rw [e, hn] at hq; cases hq)]; exact h1 c q hq
      · by_cases e : c = b
        · left; rw [e]; exact hn
        · rw [Hp.set_other _ _ e]; exact h3 c

/-- An element's cell is read. -/
theorem Own.rd {e : TypeId} {s : Nat} {A : Option Addr} {n m : Nat} {xs : List Value} (h : Own e s A n m xs H) {x : Int} {j : Nat} (hx : x = j) (k : Nat) (hk : k < s) {v : Value} (hv : xs[j * s + k]? = some v) {K : Value → Prop} (kk : K v) :
    ixI x n (NN A fun a => Ld H ((a.add (x.toNat * s)).add k) K) := by
  subst hx
  obtain ⟨h1, h2⟩ := h
  have hlt := (List.getElem?_eq_some_iff.1 hv).1
  have hj : j < n := by
    rw [h1] at hlt
    have h3 : j * s < n * s := by omega
    exact Nat.lt_of_mul_lt_mul_right h3
  refine ⟨by omega, by omega, ?_⟩
  rcases h2 with ⟨_, h3, _⟩ | ⟨b, mm, rfl, h4, _⟩
  · omega
  · refine Ld_of ?_ kk
    rw [Int.toNat_natCast, Addr.add_lit', Addr.add_lit', Nat.zero_add, cell_row h4]; exact hv
theorem Own.rd0 {e : TypeId} {s : Nat} {A : Option Addr} {n m : Nat} {xs : List Value} (h : Own e s A n m xs H) {x : Int} {j : Nat} (hx : x = j) (hs : 0 < s) {v : Value} (hv : xs[j * s]? = some v) {K : Value → Prop} (kk : K v) :
    ixI x n (NN A fun a => Ld H (a.add (x.toNat * s)) K) := h.rd hx 0 hs hv kk
/-- An element of one cell is read. -/
theorem Own.rd1 {e : TypeId} {A : Option Addr} {n m : Nat} {xs : List Value} (h : Own e 1 A n m xs H) {x : Int} {j : Nat} (hx : x = j) {v : Value} (hv : xs[j]? = some v) {K : Value → Prop} (kk : K v) :
    ixI x n (NN A fun a => Ld H (a.add (x.toNat * 1)) K) := h.rd0 hx (by omega) (by rw [Nat.mul_one]; exact hv) kk

/-- A whole element is read. -/
theorem Own.rdA {e : TypeId} {s : Nat} {A : Option Addr} {n m : Nat} {xs : List Value} (h : Own e s A n m xs H) {x : Int} {j : Nat} (hx : x = j) (hj : j < n) {ys : List Value} (hy : (xs.drop (j * s)).take s = ys) {K : List Value → Prop} (k : K ys) :
    ixI x n (NN A fun a => LdA H (a.add (x.toNat * s)) s K) := by
  subst hx
  obtain ⟨h1, h2⟩ := h
  refine ⟨by omega, by omega, ?_⟩
  rcases h2 with ⟨_, h3, _⟩ | ⟨b, mm, rfl, h4, _⟩
  · omega
  · have hle : j * s + s ≤ xs.length := by
      rw [h1]
      have : (j + 1) * s ≤ n * s := Nat.mul_le_mul_right s hj
      rw [Nat.succ_mul] at this; omega
    show LdA H _ s K
    unfold LdA
    rw [Int.toNat_natCast, Addr.add_lit', Nat.zero_add, cells_row h4 (j * s) s 0 (by omega), Nat.add_zero, hy]
    exact k

/-- An element's cell is written. -/
theorem Sep.wr (h : Sep L H) (i : Nat) {e : TypeId} {s : Nat} {A : Option Addr} {n m : Nat} {xs : List Value} (hi : L[i]? = some (Own e s A n m xs)) {x : Int} {j : Nat} (hx : x = j) (k : Nat) (hk : k < s) (hj : j < n) {v : Value} (hv : v.oneCell' = true) {K : Hp → Prop}
    (kk : ∀ H', Sep (L.set i (Own e s A n m (xs.set (j * s + k) v))) H' → K H') : ixI x n (NN A fun a => St H ((a.add (x.toNat * s)).add k) v K) := by
  subst hx
  refine ⟨by omega, by omega, ?_⟩
  obtain ⟨h1, h2⟩ := h.own i hi
  have hlt : j * s + k < xs.length := by
    rw [h1]
    have : (j + 1) * s ≤ n * s := Nat.mul_le_mul_right s hj
    rw [Nat.succ_mul] at this; omega
  rcases h2 with ⟨_, h3, _⟩ | ⟨b, mm, rfl, h4, h5⟩
  · omega
  · rw [Int.toNat_natCast]
    show St H _ v K
    rw [Addr.add_lit', Addr.add_lit', Nat.zero_add]
    refine St_row h4 hlt hv (kk _ (h.putIn i hi fun H1 hle hA => ?_))
    obtain ⟨g1, g2⟩ := hA
    rcases g2 with ⟨_, g3, _⟩ | ⟨b', mm', g3, g4, g5⟩
    · omega
    · cases g3
      have : mm = mm' := by
        have := hle _ _ g4
        rw [h4] at this; cases this; rfl
      subst this
      exact ⟨_, g4, by rw [List.length_set]; exact g1, .inr ⟨b, mm, rfl, Hp.set_same _ _ _, g5⟩⟩
theorem Sep.wr1 (h : Sep L H) (i : Nat) {e : TypeId} {A : Option Addr} {n m : Nat} {xs : List Value} (hi : L[i]? = some (Own e 1 A n m xs)) {x : Int} {j : Nat} (hx : x = j) (hj : j < n) {v : Value} (hv : v.oneCell' = true) {K : Hp → Prop}
    (kk : ∀ H', Sep (L.set i (Own e 1 A n m (xs.set j v))) H' → K H') : ixI x n (NN A fun a => St H ((a.add (x.toNat * 1)).add 0) v K) :=
  h.wr i hi hx 0 (by omega) hj hv (by rw [Nat.mul_one]; exact kk)

/-- An append onto a slice of one's own. -/
theorem Sep.app (h : Sep L H) (i : Nat) {P : Program} {e : TypeId} {s bs : Nat} {z : Array Value} {A : Option Addr} {n m k : Nat} {xs ys : List Value} {x : Value} (hi : L[i]? = some (Own e s A n m xs)) (hc : cellInfo P e = some (s, bs, some z)) (hz : z.size = s) (hbs : bs ≤ 1073741824) (hs : 0 < s)
    (hn : lenV x = some k) (hsrc : srcCells H s k x = some ys) (hy : ys.length = k * s) (hone : ys.all (fun y => y.oneCell') = true) (h1 : (n + k) * bs ≤ 35184372088832) (h2 : n + k ≤ 35184372088832) {K : Value → Hp → Prop}
    (kk : ∀ A' m' H', Sep (L.set i (Own e s A' (n + k) m' (xs ++ ys))) H' → K (.slice A' (n + k) m') H') : AppK P e (.slice A n m) x H K := by
  have hO := h.own i hi
  have hone' : ∀ y ∈ ys, y.oneCell' = true := fun y hy' => List.all_eq_true.1 hone y hy'
  obtain ⟨g1, g2⟩ := hO
  rcases g2 with ⟨rfl, rfl, rfl⟩ | ⟨b, mm, rfl, g4, g5⟩
  · rw [Nat.zero_add] at h1 h2
    obtain rfl : xs = [] := by cases xs <;> simp_all
    refine AppK_nil hc hz hbs hn hsrc hy hone' h1 h2 (fun h0 => ?_) (fun _ b c hbc hb => ?_)
    · have hys : ys = [] := by
        subst h0
        cases ys with
        | nil => rfl
        | cons y ys => simp at hy
      subst hys
      subst h0
      refine kk .none 0 H ?_
      have := h.turn i hi (B := Own e s .none (0 + 0) 0 ([] ++ [])) (fun H1 _ => Own.none e s H1)
      exact this
    · have : Sep (L.set i (pts b (.row ys e (c * s)))) (H.set b (.row ys e (c * s))) := by
        have h3 := (h.new hb (.row ys e (c * s)))
        have h4 : Sep ((L ++ [pts b (.row ys e (c * s))]).set i (fun _ => True)) (H.set b (.row ys e (c * s))) := Sep.turn h3 i (A := Own e s .none 0 0 []) (by rw [List.getElem?_append_left (List.getElem?_eq_some_iff.1 hi).1]; exact hi) (fun _ _ => trivial)
        have hlt := (List.getElem?_eq_some_iff.1 hi).1
        rw [List.set_append_left _ _ hlt] at h4
        have hp : (L.set i (fun _ => True) ++ [pts b (.row ys e (c * s))]).Perm (L.set i (pts b (.row ys e (c * s))) ++ [fun _ => True]) := by
          rw [List.set_eq_take_append_cons_drop, List.set_eq_take_append_cons_drop]
          simp only [hlt, if_true, List.append_assoc, List.cons_append]
          refine List.Perm.append_left _ ?_
          have a1 : ∀ (X : As) (l : List As) (Y : As), (X :: (l ++ [Y])).Perm (Y :: (l ++ [X])) := fun X l Y => by
            have b1 : (X :: (l ++ [Y])).Perm (X :: Y :: l) := List.Perm.cons X (List.perm_append_comm (l₁ := l) (l₂ := [Y]))
            have b2 : (Y :: (l ++ [X])).Perm (Y :: X :: l) := List.Perm.cons Y (List.perm_append_comm (l₁ := l) (l₂ := [X]))
            exact b1.trans ((List.Perm.swap Y X l).trans b2.symm)
          exact a1 _ _ _
        exact Sep.take (Sep.perm hp h4)
      rw [show (k : Nat) = 0 + k by omega]
      refine kk _ c _ (this.turn i (A := pts b (.row ys e (c * s))) (by rw [List.getElem?_set]; simp [(List.getElem?_eq_some_iff.1 hi).1]) (B := Own e s (some ⟨b, 0, .none⟩) (0 + k) c ([] ++ ys)) (fun H1 hH1 => ⟨by simpa using hy, .inr ⟨b, _, rfl, (by rw [List.nil_append]; exact hH1 : H1 b = some (.row ([] ++ ys) e (c * s))), Nat.le_refl _⟩⟩) |> fun q => ?_)
      rw [List.set_set] at q
      exact q
  · refine AppK_own hc hz hbs g4 g1 g5 hn hsrc hy hone' h1 h2 fun b' c m' hc1 hc2 hb' => ?_
    refine kk _ c _ ?_
    -- the old row is given up, the new one made
    have hlt := (List.getElem?_eq_some_iff.1 hi).1
    have key : ∀ (L : List As) (i : Nat) (H : Hp), Sep L H → L[i]? = some (Own e s (some ⟨b, 0, .none⟩) n m xs) → 0 < s → (H.erase b) b' = none → Sep (L.set i (Own e s (some ⟨b', 0, .none⟩) (n + k) c (xs ++ ys))) ((H.erase b).set b' (.row (xs ++ ys) e m')) := by
      intro L
      induction L with
      | nil => intro i H _ hi; simp at hi
      | cons C L ih =>
        intro i H hS hi hs hb'
        obtain ⟨H1, H2, k1, k2, k3, k4, k5⟩ := hS
        have el : ∀ {G G' : Hp}, G.le G' → (G.erase b).le (G'.erase b) := fun hle c q hq => by
          unfold Hp.erase at hq ⊢
          split at hq
          · cases hq
          · rename_i hc; rw [if_neg hc]; exact hle c q hq
        have en : ∀ {G : Hp}, G b = .none → G.erase b = G := fun hG => by
          funext q; unfold Hp.erase; split
          · rename_i e; rw [e, hG]
          · rfl
        cases i with
        | zero =>
          simp only [List.getElem?_cons_zero, Option.some.injEq] at hi
          subst hi
          have hbs : ∃ o, H1 b = some o := by
            obtain ⟨_, q⟩ := k4
            rcases q with ⟨q, _⟩ | ⟨b2, mm2, q1, q2, _⟩
            · cases q
            · cases q1; exact ⟨_, q2⟩
          obtain ⟨o, hbs⟩ := hbs
          have hn2 : H2 b = .none := (k3 b).resolve_left (by rw [hbs]; simp)
          have hle2 : H2.le (H.erase b) := by have := el k2; rw [en hn2] at this; exact this
          refine ⟨(H1.erase b).set b' (.row (xs ++ ys) e m'), H2, Hp.set_le (el k1) _ _, Hp.le_trans hle2 (Hp.le_set hb'), fun q => ?_, ⟨by rw [List.length_append, g1, hy, Nat.add_mul], .inr ⟨b', m', rfl, Hp.set_same _ _ _, hc2⟩⟩, k5⟩
          by_cases e : q = b'
          · right; rw [e]; exact Hp.le_none hle2 hb'
          · rw [Hp.set_other _ _ e]
            rcases k3 q with e2 | e2
            · exact .inl (erase_none b e2)
            · exact .inr e2
        | succ i =>
          rw [List.getElem?_cons_succ] at hi
          have hbs : ∃ o, H2 b = some o := by
            obtain ⟨G, ⟨_, q⟩, hle⟩ := k5.see i hi
            rcases q with ⟨q, _⟩ | ⟨b2, mm2, q1, q2, _⟩
            · cases q
            · cases q1; exact ⟨_, hle _ _ q2⟩
          obtain ⟨o, hbs⟩ := hbs
          have hn1 : H1 b = .none := (k3 b).resolve_right (by rw [hbs]; simp)
          have hle1 : H1.le (H.erase b) := by have := el k1; rw [en hn1] at this; exact this
          refine ⟨H1, (H2.erase b).set b' (.row (xs ++ ys) e m'), Hp.le_trans hle1 (Hp.le_set hb'), Hp.set_le (el k2) _ _, fun q => ?_, k4, ih i H2 k5 hi hs (Hp.le_none (el k2) hb')⟩
          by_cases e : q = b'
          · left; rw [e]; exact Hp.le_none hle1 hb'
          · rw [Hp.set_other _ _ e]
            rcases k3 q with e2 | e2
            · exact .inl e2
            · exact .inr (erase_none b e2)
    exact key L i H h hi hs hb'

/-- .. of one element of several cells, as the compiler puts it. -/
theorem Sep.appS (h : Sep L H) (i : Nat) {P : Program} {e e' : TypeId} {s bs : Nat} {z : Array Value} {A : Option Addr} {n m : Nat} {xs ys : List Value} (hi : L[i]? = some (Own e s A n m xs)) (hc : cellInfo P e = some (s, bs, some z)) (hz : z.size = s) (hbs : bs ≤ 1073741824) (hs : 0 < s) (hy : ys.length = s) (hv : ys.all (fun y => y.oneCell') = true) (h2 : (n + 1) * bs ≤ 35184372088832) (h3 : n + 1 ≤ 35184372088832) {K : Value → Hp → Prop}
    (kk : ∀ A' m' H', Sep (L.set i (Own e s A' (n + 1) m' (xs ++ ys))) H' → K (.slice A' (n + 1) m') H') : Nw H (.row ys e' s) fun b H' => AppK P e (.slice A n m) (.slice (some ⟨b, 0, none⟩) 1 1) H' K := by
  refine h.nw fun b H' h' => ?_
  have hlt := (List.getElem?_eq_some_iff.1 hi).1
  refine h'.app i (k := 1) (ys := ys) (by rw [List.getElem?_append_left hlt]; exact hi) hc hz hbs hs rfl ?_ (by rw [hy, Nat.one_mul]) hv h2 h3 fun A' m' H'' h'' => ?_
  · show H'.cells? ⟨b, 0, none⟩ 0 (1 * s) = some ys
    rw [Nat.one_mul, cells_row (h'.get L.length (b := b) (o := .row ys e' s) (by simp)) 0 s 0 (by omega)]
    simp [← hy]
  · rw [List.set_append_left _ _ hlt] at h''
    exact kk A' m' H'' (Sep.take h'')

/-- .. of one element, as the compiler puts it. -/
theorem Sep.app1 (h : Sep L H) (i : Nat) {P : Program} {e e' : TypeId} {bs : Nat} {v0 : Value} {A : Option Addr} {n m : Nat} {xs : List Value} {v : Value} (hi : L[i]? = some (Own e 1 A n m xs)) (hc : cellInfo P e = some (1, bs, some #[v0])) (hbs : bs ≤ 1073741824) (hv : v.oneCell' = true) (h2 : (n + 1) * bs ≤ 35184372088832) (h3 : n + 1 ≤ 35184372088832) {K : Value → Hp → Prop}
    (kk : ∀ A' m' H', Sep (L.set i (Own e 1 A' (n + 1) m' (xs ++ [v]))) H' → K (.slice A' (n + 1) m') H') : Nw H (.row [v] e' 1) fun b H' => AppK P e (.slice A n m) (.slice (some ⟨b, 0, none⟩) 1 1) H' K := by
  refine h.nw fun b H' h' => ?_
  have hlt := (List.getElem?_eq_some_iff.1 hi).1
  refine h'.app i (k := 1) (ys := [v]) (by rw [List.getElem?_append_left hlt]; exact hi) hc rfl hbs (by omega) rfl (src_of (Cells.row (h'.get L.length (b := b) (o := .row [v] e' 1) (by simp)) 0 1) rfl) rfl (by simp [hv]) h2 h3 fun A' m' H'' h'' => ?_
  rw [List.set_append_left _ _ hlt] at h''
  exact kk A' m' H'' (Sep.take h'')
end

section
variable {L : List As} {H : Hp}
theorem Sep.ldw (h : Sep L H) (i : Nat) {b n : Nat} {c : Array Value} {e : TypeId} {K : List Value → Prop} (hi : L[i]? = some (pts b (.obj (.cells c e)))) (hn : c.size = n) (k : K c.toList) : LdA H ⟨b, 0, none⟩ n K := LdA_obj (h.get i hi) hn k
theorem Sep.stw (h : Sep L H) (i : Nat) {b n : Nat} {c y : Array Value} {e : TypeId} {K : Hp → Prop} (hi : L[i]? = some (pts b (.obj (.cells c e)))) (hn : c.size = n) (hy : y.size = n) (hv : y.toList.all (fun v => v.oneCell') = true)
    (k : ∀ H', Sep (L.set i (pts b (.obj (.cells y e)))) H' → K H') : StA H ⟨b, 0, none⟩ y n K := StA_all (h.get i hi) hn hy hv (k _ (h.put i _ hi))
end

section
variable {L : List As} {H : Hp}
/-- A cell of an array. -/
theorem Sep.ldx (h : Sep L H) (i : Nat) {b n j : Nat} {c : Array Value} {e : TypeId} {v : Value} {K : Value → Prop} (hi : L[i]? = some (pts b (.obj (.cells c e)))) {x : Int} (hx : x = (j : Nat)) (hj : j < n) (hv : nthV c.toList j = some v) (k : K v) : ixI x n (Ld H ((⟨b, 0, none⟩ : Addr).add (x.toNat * 1)) K) := by
  subst hx
  refine ⟨by omega, by omega, ?_⟩
  rw [Int.toNat_natCast, Nat.mul_one, Addr.add_lit', Nat.zero_add]
  exact h.ld i hi hv k
theorem Sep.stx (h : Sep L H) (i : Nat) {b n j : Nat} {c : Array Value} {e : TypeId} {v : Value} {K : Hp → Prop} (hi : L[i]? = some (pts b (.obj (.cells c e)))) {x : Int} (hx : x = (j : Nat)) (hj : j < n) (hc : j < c.size) (hv : v.oneCell' = true)
    (k : ∀ H', Sep (L.set i (pts b (.obj (.cells (c.setIfInBounds j v) e)))) H' → K H') : ixI x n (St H (((⟨b, 0, none⟩ : Addr).add (x.toNat * 1)).add 0) v K) := by
  subst hx
  refine ⟨by omega, by omega, ?_⟩
  rw [Int.toNat_natCast, Nat.mul_one, Addr.add_lit', Nat.zero_add, Addr.add_zero]
  exact h.st i hi hc hv k
end

theorem Cells.obj {H : Hp} {b : Nat} {c : Array Value} {e : TypeId} (h : H b = some (.obj (.cells c e))) (n : Nat) : Cells H (some ⟨b, 0, none⟩) (c.toList.take n) := fun i v hi => by
  refine ⟨_, rfl, ?_⟩
  rw [Addr.add_lit', Nat.zero_add, cell_obj h]
  rw [List.getElem?_take] at hi
  split at hi
  · rw [Array.getElem?_toList] at hi; exact hi
  · cases hi

theorem puts_row {e : TypeId} {b off m : Nat} : ∀ (l : List Value) (i : Nat) (H : Hp) (xs : List Value), H b = some (.row xs e m) → off + i + l.length ≤ xs.length → (∀ v ∈ l, v.oneCell' = true) →
    H.puts? ⟨b, off, none⟩ i l = some (H.set b (.row (setAt xs (off + i) l) e m))
  | [], i, H, xs, h, hi, _ => by simp [Hp.puts?, setAt_nil, Hp.set_id h]
  | v :: l, i, H, xs, h, hi, hv => by
    unfold Hp.puts?
    simp only [List.length_cons] at hi
    rw [Addr.add_lit', put_row h (by omega) (hv v (by simp))]
    simp only
    rw [puts_row l (i + 1) _ _ (Hp.set_same _ _ _) (by simp; omega) (fun u hu => hv u (by simp [hu])), Hp.set_set]
    congr 3
    apply List.ext_getElem?
    intro j
    rw [setAt_get (by simp; omega), setAt_get (by simp; omega), List.getElem?_set]
    simp only [List.length_cons]
    by_cases h1 : j < off + i
    · rw [if_pos (by omega), if_neg (by omega), if_pos h1]
    · rw [if_neg h1]
      by_cases h2 : j = off + i
      · subst h2; rw [if_pos (by omega), if_pos rfl, if_pos (by omega), if_pos (by omega)]; simp
      · rw [if_neg (by omega)]
        by_cases h3 : j < off + (i + 1) + l.length
        · rw [if_pos h3, if_pos (by omega), show j - (off + i) = (j - (off + (i + 1))) + 1 by omega, List.getElem?_cons_succ]
        · rw [if_neg h3, if_neg (by omega), if_neg (by omega)]

/-- A copy into a row of one's own. -/
theorem Sep.cp {L : List As} {H : Hp} (h : Sep L H) (i : Nat) {P : Program} {e e' : TypeId} {bs : Nat} {z : Array Value} {b off n c m k : Nat} {xs ys : List Value} {x : Value} (hi : L[i]? = some (pts b (.row xs e' m))) (hc : cellInfo P e = some (1, bs, some z))
    (hn : lenV x = some k) (hsrc : srcCells H 1 (Nat.min k n) x = some ys) (ho : off + ys.length ≤ xs.length) (hone : ∀ y ∈ ys, y.oneCell' = true) {K : Value → Hp → Prop}
    (kk : ∀ H', Sep (L.set i (pts b (.row (setAt xs off ys) e' m))) H' → K (.int .i64 (Nat.min k n : Nat)) H') : CpK P e (.slice (some ⟨b, off, none⟩) n c) x H K := by
  obtain ⟨j, zz, h3, h4, rfl, h5, rfl⟩ := cellInfo_out hc
  unfold CpK
  simp only [h3]
  rw [h4]
  exact ⟨k, ys, _, hn, hsrc, by simpa using puts_row ys 0 H xs (h.get i hi) (by omega) hone, kk _ (by simpa using h.put i _ hi)⟩

theorem slB_from {n m l : Nat} {x : Int} {K : Nat → Nat → Prop} (hx : x = l) (hl : l ≤ n) (k : K l n) : slB n m (some x) none K := by
  subst hx
  refine ⟨by omega, by omega, ?_⟩
  rw [Int.toNat_natCast]; exact k
theorem slB_to {n m r : Nat} {x : Int} {K : Nat → Nat → Prop} (hx : x = r) (hr : r ≤ m) (k : K 0 r) : slB n m none (some x) K := by
  subst hx
  refine ⟨by omega, by omega, ?_⟩
  rw [Int.toNat_natCast]; exact k
theorem slB_all {n m : Nat} {K : Nat → Nat → Prop} (k : K 0 n) : slB n m none none K := k
theorem slA_zero (b off m : Nat) : slA (some ⟨b, off, none⟩) m 0 1 = some ⟨b, off, none⟩ := by
  unfold slA; split
  · rfl
  · rfl
theorem slA_at {b off m l : Nat} (h : l < m) : slA (some ⟨b, off, none⟩) m l 1 = some ⟨b, off + l, none⟩ := by
  unfold slA; rw [if_neg (by omega)]
  show some ((⟨b, off, none⟩ : Addr).add (l * 1)) = _
  rw [Nat.mul_one, Addr.add_lit']

theorem setAt_append {xs us bs : List Value} {off : Nat} (h : off + us.length + bs.length ≤ xs.length) : setAt (setAt xs off us) (off + us.length) bs = setAt xs off (us ++ bs) := by
  apply List.ext_getElem?
  intro i
  have hl : (setAt xs off us).length = xs.length := setAt_length (by omega)
  rw [setAt_get (by omega), setAt_get (by omega), setAt_get (by rw [List.length_append]; omega), List.length_append]
  by_cases h1 : i < off
  · rw [if_pos (by omega), if_pos h1, if_pos h1]
  · rw [if_neg h1, if_neg h1]
    by_cases h2 : i < off + us.length
    · rw [if_pos h2, if_pos h2, if_pos (by omega), List.getElem?_append_left (by omega)]
    · rw [if_neg h2]
      by_cases h3 : i < off + us.length + bs.length
      · rw [if_pos h3, if_pos (by omega), List.getElem?_append_right (by omega)]
        congr 1; omega
      · rw [if_neg h3, if_neg h2, if_neg (by omega)]

/-! ## Elements of several cells that came in -/

def CellsS (s : Nat) (H : Hp) (A : Option Addr) (rows : List (List Value)) : Prop := ∀ i r, rows[i]? = some r → ∃ a, A = some a ∧ ∀ j v, r[j]? = some v → H.cell? (a.add (i * s + j)) = some v

theorem CellsS.le {s : Nat} {H H' : Hp} {A : Option Addr} {rows : List (List Value)} (h : CellsS s H A rows) (k : H.le H') : CellsS s H' A rows := fun i r hi => by
  obtain ⟨a, ha, hc⟩ := h i r hi
  exact ⟨a, ha, fun j v hj => k.cell (hc j v hj)⟩

theorem add_add (a : Addr) (i j : Nat) : (a.add i).add j = a.add (i + j) := by
  unfold Addr.add
  by_cases h1 : i = 0 <;> by_cases h2 : j = 0 <;> simp_all [Nat.add_assoc]

theorem CellsS.rd {s : Nat} {H : Hp} {A : Option Addr} {rows : List (List Value)} (h : CellsS s H A rows) {i : Nat} {r : List Value} (hi : rows[i]? = some r) {x : Int} (hx : x = i) {n : Nat} (hn : rows.length ≤ n) {j : Nat} {v : Value} (hj : r[j]? = some v) {K : Value → Prop} (k : K v) :
    ixI x n (NN A fun a => Ld H ((a.add (x.toNat * s)).add j) K) := by
  obtain ⟨a, rfl, hc⟩ := h i r hi
  subst hx
  have := (List.getElem?_eq_some_iff.1 hi).1
  refine ⟨by omega, by omega, ?_⟩
  rw [Int.toNat_natCast]
  refine Ld_of ?_ k
  rw [add_add]; exact hc j v hj
theorem CellsS.rd0 {s : Nat} {H : Hp} {A : Option Addr} {rows : List (List Value)} (h : CellsS s H A rows) {i : Nat} {r : List Value} (hi : rows[i]? = some r) {x : Int} (hx : x = i) {n : Nat} (hn : rows.length ≤ n) {v : Value} (hj : r[0]? = some v) {K : Value → Prop} (k : K v) :
    ixI x n (NN A fun a => Ld H (a.add (x.toNat * s)) K) := h.rd hi hx hn (j := 0) hj k

end Go.Hw

end
section
/-! HwQ -/
/- The frame of the proofs: structs that came in, opened. -/
set_option maxRecDepth 100000
set_option linter.unusedSimpArgs false
set_option linter.unusedVariables false
set_option linter.unnecessarySimpa false
set_option linter.unusedSectionVars false
namespace Go.Hw
open Go Go.RowKit Go.ChangeShapes Go.WideShapes Go.ChangeAt

/-- Elements that are told. -/
theorem rows_st {s : Nat} {H : Hp} {A : Option Addr} {n : Nat} {α : Type} {g : α → List Value} {q : α → Prop} {rows : List (List Value)} (hl : rows.length = n)
    (h : ∀ (i : Nat) (r : List Value), rows[i]? = some r → ∃ a, A = some a ∧ (∀ j v, r[j]? = some v → H.cell? (a.add (i * s + j)) = some v) ∧ ∃ x, r = g x ∧ q x) : ∃ l : List α, l.length = n ∧ CellsS s H A (l.map g) ∧ ∀ x ∈ l, q x := by
  have hx : ∀ i : Fin rows.length, ∃ x, rows[i] = g x ∧ q x := fun i => by
    obtain ⟨_, _, _, x, hx, hq⟩ := h i rows[i] (by simp)
    exact ⟨x, hx, hq⟩
  let f : Fin rows.length → α := fun i => Classical.choose (hx i)
  have hf : ∀ i : Fin rows.length, rows[i] = g (f i) ∧ q (f i) := fun i => Classical.choose_spec (hx i)
  refine ⟨List.ofFn f, by simp [hl], fun i r hr => ?_, fun x hx => ?_⟩
  · rw [List.getElem?_map] at hr
    obtain ⟨y, hy, rfl⟩ := Option.map_eq_some_iff.1 hr
    have hi : i < rows.length := by
      have := (List.getElem?_eq_some_iff.1 hy).1
      simpa using this
    have hy' : y = f ⟨i, hi⟩ := by
      rw [List.getElem?_ofFn] at hy
      simp only [hi, dif_pos, Option.some.injEq] at hy
      exact hy.symm
    subst hy'
    obtain ⟨a, ha, hc, _⟩ := h i rows[i] (by simp)
    refine ⟨a, ha, fun j v hj => hc j v ?_⟩
    rw [show rows[i] = g (f ⟨i, hi⟩) from (hf ⟨i, hi⟩).1]; exact hj
  · obtain ⟨i, rfl⟩ := List.mem_ofFn.1 hx
    exact (hf i).2

section
variable {H : Type} {enc : TypeId × Value → H} {P : Program} {W : World} {t e : TypeId} {cs : List Value} {d : DataW H} {ps : List MemPlace} {fuel : Nat}

theorem trod_st {fs : Array Field} (hu : P.underlying t = some (.struct fs)) (h : DataW.trod enc P W 0 (fun _ => true) true fuel t cs = some (d, ps)) :
    cs.length = P.cellsOf t ∧ ∃ f, ∀ (i : Nat) (fd : Field), fs[i]? = some fd → ∃ d' p', DataW.trod enc P W 0 (fun _ => true) true f fd.type ((cs.drop fd.offset).take (P.cellsOf fd.type)) = some (d', p') := by
  obtain ⟨xs, n, _, _, hl, hlen, hf⟩ := DataW.trod_struct hu h
  refine ⟨hl, n, fun i fd hi => ?_⟩
  have h1 := hf i fd hi
  have hlt : i < xs.length := by rw [hlen]; exact (Array.getElem?_eq_some_iff.1 hi).1
  rw [List.getElem?_eq_getElem hlt] at h1
  exact ⟨xs[i].1, xs[i].2, h1⟩

theorem take1 {cs : List Value} {o : Nat} {v : Value} (h : (cs.drop o).take 1 = [v]) : cs[o]? = some v := by
  have : ((cs.drop o).take 1)[0]? = some v := by rw [h]; rfl
  rw [List.getElem?_take, if_pos (by omega), List.getElem?_drop, Nat.add_zero] at this
  exact this

theorem trod_fint {o : Nat} {k : IntKind} (he : P.underlying e = some (.int k)) (h1 : P.cellsOf e = 1) (h : ∃ d' p', DataW.trod enc P W 0 (fun _ => true) true fuel e ((cs.drop o).take (P.cellsOf e)) = some (d', p')) : ∃ x, cs[o]? = some (.int k x) ∧ (Lit.int k x).wf = true := by
  obtain ⟨d', p', h⟩ := h
  rw [h1] at h
  obtain ⟨x, hx, _, hw⟩ := DataW.trod_int he h
  exact ⟨x, take1 hx, hw⟩
theorem trod_fbool {o : Nat} (he : P.underlying e = some .bool) (h1 : P.cellsOf e = 1) (h : ∃ d' p', DataW.trod enc P W 0 (fun _ => true) true fuel e ((cs.drop o).take (P.cellsOf e)) = some (d', p')) : ∃ x, cs[o]? = some (.bool x) := by
  obtain ⟨d', p', h⟩ := h
  rw [h1] at h
  obtain ⟨x, hx, _⟩ := DataW.trod_bool he h
  exact ⟨x, take1 hx⟩
theorem trod_fsl {o : Nat} {e' : TypeId} (he : P.underlying e = some (.slice e')) (h1 : P.cellsOf e = 1) (h : ∃ d' p', DataW.trod enc P W 0 (fun _ => true) true fuel e ((cs.drop o).take (P.cellsOf e)) = some (d', p')) :
    ∃ A n c d' p', cs[o]? = some (.slice A n c) ∧ DataW.trod enc P W 0 (fun _ => true) true fuel e [.slice A n c] = some (d', p') := by
  obtain ⟨d', p', h⟩ := h
  rw [h1] at h
  obtain ⟨A, n, c, hx, _⟩ := trod_sl he h
  rw [hx] at h
  exact ⟨A, n, c, d', p', take1 hx, h⟩
end

def EqAll (cs : List Value) : Nat → List Value → Prop
  | _, [] => True
  | i, v :: l => cs[i]? = some v ∧ EqAll cs (i + 1) l
theorem EqAll.out {cs l : List Value} (h : EqAll cs 0 l) (hl : cs.length = l.length) : cs = l := by
  have key : ∀ (l : List Value) (i : Nat), EqAll cs i l → ∀ j, j < l.length → cs[i + j]? = l[j]? := by
    intro l
    induction l with
    | nil => intro i _ j hj; simp at hj
    | cons v l ih =>
      intro i ⟨h1, h2⟩ j hj
      cases j with
      | zero => simpa using h1
      | succ j =>
        rw [show i + (j + 1) = i + 1 + j by omega, ih (i + 1) h2 j (by simpa using hj)]
        simp
  apply List.ext_getElem?
  intro j
  by_cases hj : j < l.length
  · simpa using key l 0 h j hj
  · rw [List.getElem?_eq_none (by omega), List.getElem?_eq_none (by omega)]

section
variable {H : Type} {enc : TypeId × Value → H} {P : Program} {W : World} {t e : TypeId} {v : Value} {d : DataW H} {ps : List MemPlace} {r : Reach} {base : Nat}
/-- A struct that came in. -/
theorem open_st {fs : Array Field} (hu : P.underlying t = some (.struct fs)) (hval : Value.okWide P W r base t v) (h : DataW.Trod enc P W 0 (fun _ => true) true t v d ps) :
    ∃ cs : List Value, v = .agg cs.toArray ∧ cs.length = P.cellsOf t ∧ ∃ f, ∀ (i : Nat) (fd : Field), fs[i]? = some fd → ∃ d' p', DataW.trod enc P W 0 (fun _ => true) true f fd.type ((cs.drop fd.offset).take (P.cellsOf fd.type)) = some (d', p') := by
  obtain ⟨cs, rfl, _⟩ := okWide_struct hu hval
  obtain ⟨fuel, h⟩ := h
  refine ⟨cs.toList, by rw [Array.toArray_toList], ?_⟩
  exact trod_st hu h
theorem sub_get {cs : List Value} {o n i : Nat} {v : Value} (h : ((cs.drop o).take n)[i]? = some v) : cs[o + i]? = some v := by
  rw [List.getElem?_take] at h
  split at h
  · rw [List.getElem?_drop] at h; exact h
  · cases h
end

theorem list2 {r : List Value} {a b : Value} (hl : r.length = 2) (h0 : r[0]? = some a) (h1 : r[1]? = some b) : r = [a, b] := by
  match r, hl with
  | [x, y], _ => simp at h0 h1; rw [h0, h1]
theorem list3 {r : List Value} {a b c : Value} (hl : r.length = 3) (h0 : r[0]? = some a) (h1 : r[1]? = some b) (h2 : r[2]? = some c) : r = [a, b, c] := by
  match r, hl with
  | [x, y, z], _ => simp at h0 h1 h2; rw [h0, h1, h2]
theorem list4 {r : List Value} {a b c d : Value} (hl : r.length = 4) (h0 : r[0]? = some a) (h1 : r[1]? = some b) (h2 : r[2]? = some c) (h3 : r[3]? = some d) : r = [a, b, c, d] := by
  match r, hl with
  | [x, y, z, w], _ => simp at h0 h1 h2 h3; rw [h0, h1, h2, h3]

end Go.Hw

end
section
/-! HwG -/
/- The frame of the proofs: package variables that are laid: what their cells hold. -/
set_option maxRecDepth 100000
set_option linter.unusedSimpArgs false
set_option linter.unusedVariables false
set_option linter.unnecessarySimpa false
set_option linter.unusedSectionVars false
namespace Go.Hw
open Go Go.RowKit

/-- A datum's cells. -/
def flatF : Nat → DataW Unit → List Value
  | 0, _ => []
  | _ + 1, .lit (.int k n) => [.int k n]
  | _ + 1, .lit (.string bs) => [.string ⟨bs.toArray⟩]
  | _ + 1, .lit (.bool b) => [.bool b]
  | f + 1, .agg ds => (ds.map (flatF f)).flatten
  | _ + 1, _ => []

def conts (P : Program) : List Field → Nat → Option Nat
  | [], o => some o
  | f :: l, o => if f.offset = o then conts P l (o + P.cellsOf f.type) else none

/-- A type whose data are cells side by side. -/
def flatOK (P : Program) : Nat → TypeId → Bool
  | 0, _ => false
  | f + 1, t =>
    match P.underlying t with
    | some (.int _) => true
    | some .string => true
    | some .bool => true
    | some (.array n e) => flatOK P f e && (P.cellsOf t == n * P.cellsOf e)
    | some (.struct fs) => fs.toList.all (fun x => flatOK P f x.type) && (conts P fs.toList 0 == some (P.cellsOf t))
    | _ => false

theorem chunks {α : Type} (k : Nat) : ∀ (n : Nat) (cs : List α) (ys : List (List α)), cs.length = n * k → ys.length = n → (∀ i, (h : i < ys.length) → (cs.drop (i * k)).take k = ys[i]) → cs = ys.flatten
  | 0, cs, ys, hl, hy, _ => by
    rw [Nat.zero_mul] at hl
    rw [List.length_eq_zero_iff.1 hl, List.length_eq_zero_iff.1 hy]; rfl
  | n + 1, cs, [], _, hy, _ => by simp at hy
  | n + 1, cs, y :: ys, hl, hy, h => by
    have h0 := h 0 (by simp)
    rw [Nat.zero_mul, List.drop_zero, List.getElem_cons_zero] at h0
    have ih := chunks k n (cs.drop k) ys (by rw [List.length_drop, hl, Nat.succ_mul]; omega) (by simpa using hy) fun i hi => by
      have := h (i + 1) (by simpa using hi)
      rw [List.getElem_cons_succ] at this
      rw [List.drop_drop, ← this, Nat.succ_mul, Nat.add_comm]
    rw [List.flatten_cons, ← ih, ← h0, List.take_append_drop]

theorem conts_flat {P : Program} : ∀ (l : List Field) (ys : List (List Value)) (o e : Nat) (cs : List Value), conts P l o = some e → cs.length = e → ys.length = l.length →
    (∀ (i : Nat) (f : Field), l[i]? = some f → ∃ y, ys[i]? = some y ∧ (cs.drop f.offset).take (P.cellsOf f.type) = y) → cs.drop o = ys.flatten
  | [], ys, o, e, cs, h, hl, hy, _ => by
    unfold conts at h
    cases h
    rw [List.drop_eq_nil_of_le (by omega), List.length_eq_zero_iff.1 hy]; rfl
  | f :: l, [], o, e, cs, h, hl, hy, _ => by simp at hy
  | f :: l, y :: ys, o, e, cs, h, hl, hy, hh => by
    unfold conts at h
    split at h
    · rename_i ho
      obtain ⟨y', e1, e2⟩ := hh 0 f (by simp)
      simp only [List.getElem?_cons_zero, Option.some.injEq] at e1
      subst e1
      have ih := conts_flat l ys _ e cs h hl (by simpa using hy) fun i f' hf => by
        have := hh (i + 1) f' (by simpa using hf)
        simpa using this
      rw [List.flatten_cons, ← ih, ← e2, ho, ← List.drop_drop, List.take_append_drop]
    · cases h

theorem flat_of_trod {enc : TypeId × Value → Unit} {P : Program} {w : World} {base : Nat} {sp : Nat → Bool} {held : Bool} : ∀ (f : Nat) {fuel : Nat} {t : TypeId} {cs : List Value} {d : DataW Unit} {p : List MemPlace},
    flatOK P f t = true → DataW.trod enc P w base sp held fuel t cs = some (d, p) → cs = flatF f d
  | 0, _, _, _, _, _, h, _ => by cases h
  | f + 1, fuel, t, cs, d, p, h, ht => by
    unfold flatOK at h
    split at h
    · rename_i k hu
      obtain ⟨n, rfl, e, _⟩ := DataW.trod_int hu ht
      cases e; rfl
    · rename_i hu
      obtain ⟨s, rfl, e, _⟩ := DataW.trod_string hu ht
      cases e; simp [flatF]
    · rename_i hu
      obtain ⟨b, rfl, e⟩ := DataW.trod_bool hu ht
      cases e; rfl
    · rename_i n e hu
      simp only [Bool.and_eq_true, beq_iff_eq] at h
      obtain ⟨xs, m, _, ex, hl, hn, hel⟩ := DataW.trod_array hu ht
      cases ex
      show cs = (((xs.map (·.1))).map (flatF f)).flatten
      refine chunks (P.cellsOf e) n cs _ (by rw [hl, h.2]) (by simpa using hn) fun i hi => ?_
      have hi' : i < xs.length := by simpa using hi
      have h1 := hel i (by omega)
      rw [List.getElem?_eq_getElem hi'] at h1
      have := flat_of_trod f (d := xs[i].1) (p := xs[i].2) h.1 h1
      rw [this]
      simp
    · rename_i fs hu
      simp only [Bool.and_eq_true, beq_iff_eq] at h
      obtain ⟨xs, m, _, ex, hl, hn, hel⟩ := DataW.trod_struct hu ht
      cases ex
      show cs = (((xs.map (·.1))).map (flatF f)).flatten
      have := conts_flat fs.toList (((xs.map (·.1))).map (flatF f)) 0 _ cs h.2 hl (by simpa using hn) fun i fd hi => by
        have hi2 : fs[i]? = some fd := by simpa using hi
        have h1 := hel i fd hi2
        have hi' : i < xs.length := by
          rw [hn]; exact (Array.getElem?_eq_some_iff.1 hi2).1
        rw [List.getElem?_eq_getElem hi'] at h1
        have hall := List.all_eq_true.1 h.1 fd (List.mem_of_getElem? hi)
        exact ⟨flatF f xs[i].1, by simp [hi'], flat_of_trod f (d := xs[i].1) (p := xs[i].2) hall h1⟩
      rw [List.drop_zero] at this
      exact this
    · cases h

/-- What a laid variable's cells hold. -/
theorem laid_at {P : Program} {W : World} {name : String} {d : DataW Unit} {g : Nat} {t : TypeId} (hg : P.globalNamed name = some g) (hty : (P.globals[g]?).map (·.type) = some t) (ho : flatOK P 9 t = true) :
    ∀ {l : List (String × DataW Unit)} (i : Nat), laidMet P l W → l[i]? = some (name, d) → Cells (Full W) (some ⟨g, 0, none⟩) (flatF 9 d)
  | [], i, _, h => by simp at h
  | x :: l, 0, hL, h => by
    simp only [List.getElem?_cons_zero, Option.some.injEq] at h
    subst h
    obtain ⟨ps, ⟨g', t', cs, fuel, p, q, hg', ht', hvar, hd, _, _⟩, _⟩ := hL
    obtain rfl := Option.some.inj (hg.symm.trans hg')
    obtain rfl := Option.some.inj (hty.symm.trans ht')
    have e := flat_of_trod 9 ho hd
    intro j v hj
    refine ⟨_, rfl, ?_⟩
    rw [← e] at hj
    have := World.var?_cell hg hvar j
    rw [Addr.add_lit', Nat.zero_add]
    refine Full.cell ?_
    rw [this]
    simpa using hj
  | x :: l, i + 1, hL, h => laid_at hg hty ho i hL.tail (by simpa using h)

/-- A block is cut out of what was known ahead. -/
theorem cutOwn {L : List As} {H H0 : Hp} (h : Sep (own H0 :: L) H) {g : Nat} {o : AO} (hg : H0 g = some o) : Sep (pts g o :: own (H0.erase g) :: L) H := by
  obtain ⟨H1, H2, h1, h2, h3, h4, h5⟩ := h
  have h4 : H0.le H1 := h4
  have hg1 := h4 g o hg
  refine ⟨fun c => if c = g then some o else none, (fun c => if c = g then H2 c else H c), fun c q hq => ?_, fun c q hq => ?_, fun c => ?_, by simp [pts], ?_⟩
  · simp only at hq
    split at hq
    · rename_i e; subst e; cases hq; exact h1 _ _ hg1
    · cases hq
  · simp only at hq
    split at hq
    · exact h2 _ _ hq
    · exact hq
  · by_cases e : c = g
    · right; simp only [e, if_true]; exact (h3 g).resolve_left (by rw [hg1]; simp)
    · left; simp [e]
  · refine ⟨fun c => if c = g then none else H1 c, H2, fun c q hq => ?_, fun c q hq => ?_, fun c => ?_, fun c q hq => ?_, h5⟩
    · simp only at hq
      split at hq
      · cases hq
      · rename_i e; simp only [e, if_false]; exact h1 _ _ hq
    · show (if c = g then H2 c else H c) = some q
      split
      · exact hq
      · exact h2 _ _ hq
    · rcases h3 c with e | e
      · left; simp only; split <;> first | rfl | exact e
      · exact .inr e
    · unfold Hp.erase at hq
      split at hq
      · cases hq
      · rename_i e; simp only [e, if_false]; exact h4 _ _ hq

theorem own_back {H H0 : Hp} {g : Nat} {o : AO} (hg : H0 g = some o) (h1 : H g = some o) (h2 : (H0.erase g).le H) : H0.le H := fun c q hq => by
  by_cases e : c = g
  · subst e; rw [hg] at hq; cases hq; exact h1
  · exact h2 c q (by unfold Hp.erase; rw [if_neg e]; exact hq)

/-- A table: a block whose first cells are told. -/
theorem Cells.block {H : Hp} {g : Nat} {v : Value} {vs : List Value} (h : Cells H (some ⟨g, 0, none⟩) (v :: vs)) : ∃ o, H g = some o := by
  obtain ⟨a, ha, hc⟩ := h 0 v rfl
  cases ha
  unfold Hp.cell? at hc
  rw [Addr.add_lit'] at hc
  cases e : H g with
  | none => simp only [e] at hc; cases hc
  | some o => exact ⟨o, rfl⟩

def Tab (g : Nat) (vs : List Value) : As := fun H => Cells H (some ⟨g, 0, none⟩) vs
theorem Tab.up {g : Nat} {vs : List Value} {H H' : Hp} (h : Tab g vs H) (k : H.le H') : Tab g vs H' := Cells.le h k

theorem Tab.of_pts {g : Nat} {o : AO} {vs : List Value} {H0 : Hp} (hg : H0 g = some o) (h : Cells H0 (some ⟨g, 0, none⟩) vs) {H : Hp} (hp : H g = some o) : Tab g vs H := fun i v hi => by
  obtain ⟨a, ha, hc⟩ := h i v hi
  cases ha
  refine ⟨_, rfl, ?_⟩
  rw [Addr.add_lit'] at hc ⊢
  unfold Hp.cell? at hc ⊢
  simp only [hg] at hc
  simp only [hp]
  exact hc

/-- A part that is only read. -/
theorem Sep.tab {L : List As} {H : Hp} (h : Sep L H) (i : Nat) {g : Nat} {vs : List Value} (hi : L[i]? = some (Tab g vs)) : Cells H (some ⟨g, 0, none⟩) vs := by
  obtain ⟨H1, h1, h2⟩ := h.see i hi
  exact Cells.le h1 h2

section
variable {L : List As} {H : Hp}
/-- A field is read, is written. -/
theorem Sep.ldf (h : Sep L H) (i : Nat) {b j : Nat} {c : Array Value} {e : TypeId} {v : Value} {K : Value → Prop} (hi : L[i]? = some (pts b (.obj (.cells c e)))) (hv : nthV c.toList j = some v) (k : K v) : Ld H ((⟨b, 0, none⟩ : Addr).add j) K := by
  rw [Addr.add_lit', Nat.zero_add]; exact h.ld i hi hv k
theorem Sep.ldg (h : Sep L H) (i : Nat) {b j k : Nat} {c : Array Value} {e : TypeId} {v : Value} {K : Value → Prop} (hi : L[i]? = some (pts b (.obj (.cells c e)))) (hv : nthV c.toList (j + k) = some v) (kk : K v) : Ld H (((⟨b, 0, none⟩ : Addr).add j).add k) K := by
  rw [Addr.add_lit', Addr.add_lit', Nat.zero_add]; exact h.ld i hi hv kk
theorem Sep.stf (h : Sep L H) (i : Nat) {b j : Nat} {c : Array Value} {e : TypeId} {v : Value} {K : Hp → Prop} (hi : L[i]? = some (pts b (.obj (.cells c e)))) (hj : j < c.size) (hv : v.oneCell' = true)
    (k : ∀ H', Sep (L.set i (pts b (.obj (.cells (c.setIfInBounds j v) e)))) H' → K H') : St H (((⟨b, 0, none⟩ : Addr).add j).add 0) v K := by
  rw [Addr.add_lit', Addr.add_lit', Nat.zero_add, Nat.add_zero]; exact h.st i hi hj hv k
end

end Go.Hw

end
section
/-! HwW -/
/- The frame of the proofs: words as natural numbers. -/
set_option maxRecDepth 100000
set_option linter.unusedSimpArgs false
set_option linter.unusedVariables false
set_option linter.unnecessarySimpa false
set_option linter.unusedSectionVars false
namespace Go.Hw
open Go

theorem ofNat64 {x : Nat} (h : x < 2 ^ 64) : (BitVec.ofInt 64 (x : Int)).toNat = x := by
  rw [BitVec.ofInt_natCast, BitVec.toNat_ofNat, Nat.mod_eq_of_lt h]
theorem or_lt {x y n : Nat} (hx : x < 2 ^ n) (hy : y < 2 ^ n) : x ||| y < 2 ^ n := Nat.or_lt_two_pow hx hy
theorem orN {x y : Nat} (hx : x < 2 ^ 64) (hy : y < 2 ^ 64) : bOr .u64 (x : Int) (y : Int) = ((x ||| y : Nat) : Int) := by
  unfold bOr
  rw [show IntKind.u64.bits = 64 from rfl, BitVec.toNat_or, ofNat64 hx, ofNat64 hy]
  have := or_lt hx hy
  exact u64n (by omega)
theorem andN {x y : Nat} (hx : x < 2 ^ 64) (hy : y < 2 ^ 64) : bAnd .u64 (x : Int) (y : Int) = ((x &&& y : Nat) : Int) := by
  unfold bAnd
  rw [show IntKind.u64.bits = 64 from rfl, BitVec.toNat_and, ofNat64 hx, ofNat64 hy]
  have : x &&& y ≤ x := Nat.and_le_left
  exact u64n (by omega)
theorem shlN {x : Nat} {i : Int} {n : Nat} (h : i = n) (hn : n ≤ 64) : shlI .u64 (x : Int) i = ((x * 2 ^ n % 2 ^ 64 : Nat) : Int) := by
  subst h
  unfold shlI
  rw [Int.toNat_natCast, show IntKind.u64.bits = 64 from rfl, Nat.min_eq_left hn, u64mod, show ((2 : Int) ^ n) = ((2 ^ n : Nat) : Int) by simp, ← Int.natCast_mul]
  rfl
theorem shrN {k : IntKind} {a : Nat} {i : Int} {n : Nat} (h : i = n) (hn : n ≤ k.bits) : shrI k (a : Int) i = ((a / 2 ^ n : Nat) : Int) := by
  rw [shrNat a h hn, Nat.shiftRight_eq_div_pow]
theorem u64a {x : Nat} (y : Nat) : IntKind.u64.wrap ((x : Int) + (y : Int)) = (((x + y) % 2 ^ 64 : Nat) : Int) := by
  rw [u64mod, ← Int.natCast_add]; rfl
theorem u64m (x y : Nat) : IntKind.u64.wrap ((x : Int) * (y : Int)) = (((x * y) % 2 ^ 64 : Nat) : Int) := by
  rw [u64mod, ← Int.natCast_mul]; rfl

/-- A part of a slice. -/
theorem Cells.shift {H : Hp} {A : Option Addr} {vs : List Value} (h : Cells H A vs) {m l : Nat} (hm : vs.length ≤ m) : Cells H (slA A m l 1) (vs.drop l) := fun i v hi => by
  rw [List.getElem?_drop] at hi
  have hlt := (List.getElem?_eq_some_iff.1 hi).1
  unfold slA
  rw [if_neg (by omega)]
  obtain ⟨a, rfl, hc⟩ := h _ _ hi
  exact ⟨_, rfl, by rw [add_add, Nat.mul_one]; exact hc⟩
theorem Cells.take {H : Hp} {A : Option Addr} {vs : List Value} (h : Cells H A vs) (n : Nat) : Cells H A (vs.take n) := fun i v hi => by
  rw [List.getElem?_take] at hi
  split at hi
  · exact h i v hi
  · cases hi

/-- A number in bytes, the lowest first. -/
def leN : List UInt8 → Nat
  | [] => 0
  | b :: l => b.toNat + 256 * leN l

theorem leN_lt : ∀ l : List UInt8, leN l < 256 ^ l.length
  | [] => by simp [leN]
  | b :: l => by
    have h1 := leN_lt l
    have h2 : b.toNat < 256 := b.toNat_lt
    unfold leN
    rw [List.length_cons, Nat.pow_succ]
    have : 256 * leN l + 256 ≤ 256 ^ l.length * 256 := by
      have : leN l + 1 ≤ 256 ^ l.length := h1
      omega
    omega

theorem leN_drop {l : List UInt8} {j : Nat} (h : j < l.length) : leN (l.drop j) = l[j].toNat + 256 * leN (l.drop (j + 1)) := by
  rw [List.drop_eq_getElem_cons h]; rfl

theorem leN_lt8 {l : List UInt8} (h : l.length ≤ 8) : leN l < 2 ^ 64 := by
  have h1 := leN_lt l
  have h2 : 256 ^ l.length ≤ 256 ^ 8 := Nat.pow_le_pow_right (by omega) h
  rw [show (2 : Nat) ^ 64 = 256 ^ 8 by decide]
  omega

theorem leN_eq_iff : ∀ {a b : List UInt8}, a.length = b.length → (leN a = leN b ↔ a = b)
  | [], [], _ => by simp
  | x :: a, y :: b, h => by
    have ih := leN_eq_iff (a := a) (b := b) (by simpa using h)
    have h1 : x.toNat < 256 := x.toNat_lt
    have h2 : y.toNat < 256 := y.toNat_lt
    unfold leN
    constructor
    · intro e
      have e1 : x.toNat = y.toNat := by omega
      have e2 : leN a = leN b := by omega
      rw [ih.1 e2, UInt8.toNat_inj.1 e1]
    · intro e
      injection e with e1 e2
      rw [e1, e2]

/-- Bytes of a number: so many. -/
def bytesN : Nat → Nat → List UInt8
  | 0, _ => []
  | n + 1, x => UInt8.ofNat x :: bytesN n (x / 256)

theorem bytesN_length : ∀ n x, (bytesN n x).length = n
  | 0, _ => rfl
  | n + 1, x => by simp [bytesN, bytesN_length n]
theorem leN_bytesN : ∀ n x, leN (bytesN n x) = x % 256 ^ n
  | 0, x => by simp [bytesN, leN, Nat.mod_one]
  | n + 1, x => by
    unfold bytesN leN
    rw [leN_bytesN n, UInt8.toNat_ofNat', show (256 : Nat) ^ (n + 1) = 256 * 256 ^ n by rw [Nat.pow_succ, Nat.mul_comm], Nat.mod_mul]
theorem bytesN_leN : ∀ (l : List UInt8), bytesN l.length (leN l) = l
  | [] => rfl
  | b :: l => by
    have h : b.toNat < 256 := b.toNat_lt
    unfold leN
    rw [List.length_cons]
    unfold bytesN
    rw [show (b.toNat + 256 * leN l) / 256 = leN l by omega, bytesN_leN l]
    congr 1
    apply UInt8.toNat_inj.1
    rw [UInt8.toNat_ofNat']
    show (b.toNat + 256 * leN l) % 256 = b.toNat
    omega

theorem range_bytes (n : Nat) : ∀ x, (List.range n).map (fun k => UInt8.ofNat (x / 256 ^ k)) = bytesN n x := by
  induction n with
  | zero => intro x; rfl
  | succ n ih =>
    intro x
    rw [List.range_succ_eq_map]
    simp only [List.map_cons, List.map_map, Nat.pow_zero, Nat.div_one]
    unfold bytesN
    rw [← ih (x / 256)]
    congr 1
    apply List.map_congr_left
    intro k _
    simp only [Function.comp]
    rw [Nat.div_div_eq_div_mul, Nat.pow_succ, Nat.mul_comm]

end Go.Hw

end
section
/-! Wgold -/
/- Formulas of functions, printed by wip/tools/hwp.py. -/
set_option maxRecDepth 100000
set_option linter.unusedVariables false
namespace Go.Proofs.YtbnhfcdagoigkaaDoor.W
open Go Go.Hw

theorem mixWgold : Tryd.prog.follows .mixedOrders = true := by kernel_rfl
-- gold.Good
def W_gold_Good (x1 : Int) (H : Hp) (K : Value → Hp → Prop) : Prop :=
  K (.bool (decide (x1 < (18446744069414584321 : Int)))) H
def W_gold_Good.Λ (_ : Value → Hp → Prop) : Cuts := Cuts.none (fun _ => none)
theorem W_gold_Good.ok (x1 : Int) (H : Hp) (K : Value → Hp → Prop) (h : W_gold_Good x1 H K) : HCalls Tryd.prog 85 #[.int .u64 x1] H K :=
  hcalls Tryd.func85 rfl (Nat.le_of_ble_eq_true rfl) (hw_safe (Λ := Cuts.none (fun _ => none)) mixWgold _ _ _ _ _ (Eq.mp (by kernel_rfl) h) (obs_none _ _ _ _ _))

-- gold.Inv
def W_gold_Inv (x1 : Int) (H : Hp) (K : Value → Hp → Prop) : Prop :=
  HCalls Tryd.prog 180 #[.int .u64 x1] H fun v1 H1 => DI .u64 v1 fun x2 => BIf (x2 == (0 : Int)) (K (.tuple #[.int .u64 (0 : Int), .int .i64 (13 : Int)]) H1) (HCalls Tryd.prog 181 #[.int .u64 x1, .int .u64 (18446744069414584319 : Int)] H1 fun v2 H2 => DI .u64 v2 fun x3 => K (.tuple #[.int .u64 x3, .int .i64 (0 : Int)]) H2)
def W_gold_Inv.Λ (_ : Value → Hp → Prop) : Cuts := Cuts.none (fun _ => none)
theorem W_gold_Inv.ok (x1 : Int) (H : Hp) (K : Value → Hp → Prop) (h : W_gold_Inv x1 H K) : HCalls Tryd.prog 143 #[.int .u64 x1] H K :=
  hcalls Tryd.func143 rfl (Nat.le_of_ble_eq_true rfl) (hw_safe (Λ := Cuts.none (fun _ => none)) mixWgold _ _ _ _ _ (Eq.mp (by kernel_rfl) h) (obs_none _ _ _ _ _))

-- gold.Mul
def W_gold_Mul (x1 : Int) (x2 : Int) (H : Hp) (K : Value → Hp → Prop) : Prop :=
  HCalls Tryd.prog 212 #[.int .u64 x1, .int .u64 x2] H fun v1 H1 => DA v1 fun y1 => HCalls Tryd.prog 211 #[.agg y1] H1 fun v2 H2 => DI .u64 v2 fun x3 => K (.int .u64 x3) H2
def W_gold_Mul.Λ (_ : Value → Hp → Prop) : Cuts := Cuts.none (fun _ => none)
theorem W_gold_Mul.ok (x1 : Int) (x2 : Int) (H : Hp) (K : Value → Hp → Prop) (h : W_gold_Mul x1 x2 H K) : HCalls Tryd.prog 179 #[.int .u64 x1, .int .u64 x2] H K :=
  hcalls Tryd.func179 rfl (Nat.le_of_ble_eq_true rfl) (hw_safe (Λ := Cuts.none (fun _ => none)) mixWgold _ _ _ _ _ (Eq.mp (by kernel_rfl) h) (obs_none _ _ _ _ _))

-- gold.Of
def W_gold_Of (x1 : Int) (H : Hp) (K : Value → Hp → Prop) : Prop :=
  BIf (decide (x1 ≥ (18446744069414584321 : Int))) (K (.int .u64 (IntKind.u64.wrap (x1 - (18446744069414584321 : Int)))) H) (K (.int .u64 x1) H)
def W_gold_Of.Λ (_ : Value → Hp → Prop) : Cuts := Cuts.none (fun _ => none)
theorem W_gold_Of.ok (x1 : Int) (H : Hp) (K : Value → Hp → Prop) (h : W_gold_Of x1 H K) : HCalls Tryd.prog 180 #[.int .u64 x1] H K :=
  hcalls Tryd.func180 rfl (Nat.le_of_ble_eq_true rfl) (hw_safe (Λ := Cuts.none (fun _ => none)) mixWgold _ _ _ _ _ (Eq.mp (by kernel_rfl) h) (obs_none _ _ _ _ _))

-- gold.Pow
def W_gold_Pow.l2 (K : Value → Hp → Prop) : Nat → Int → Int → Int → Hp → Prop
  | 0, _, _, _, _ => False
  | k + 1, x4, x5, x6, H =>
    let R2 := W_gold_Pow.l2 K k
    BIf (decide (x4 > (0 : Int))) (BIf ((bAnd .u64 x4 (1 : Int)) == (1 : Int)) (HCalls Tryd.prog 179 #[.int .u64 x5, .int .u64 x6] H fun v2 H2 => DI .u64 v2 fun x7 => HCalls Tryd.prog 179 #[.int .u64 x6, .int .u64 x6] H2 fun v3 H3 => DI .u64 v3 fun x8 => (0 ≤ (1 : Int) ∧ R2 (shrI .u64 x4 (1 : Int)) x7 x8 H3)) (HCalls Tryd.prog 179 #[.int .u64 x6, .int .u64 x6] H fun v4 H4 => DI .u64 v4 fun x9 => (0 ≤ (1 : Int) ∧ R2 (shrI .u64 x4 (1 : Int)) x5 x9 H4))) (K (.int .u64 x5) H)
def W_gold_Pow (x1 : Int) (x2 : Int) (H : Hp) (K : Value → Hp → Prop) : Prop :=
  HCalls Tryd.prog 180 #[.int .u64 x1] H fun v1 H1 => DI .u64 v1 fun x3 => (∃ k, W_gold_Pow.l2 K k x2 (1 : Int) x3 H1)
def W_gold_Pow.l2.L (K : Value → Hp → Prop) (k : Nat) : Mid := fun E D H =>
  DG (E.get? 1) fun w1 => DI .u64 w1 fun x4 => DG (E.get? 5) fun w5 => DI .u64 w5 fun x5 => DG (E.get? 6) fun w6 => DI .u64 w6 fun x6 => DNilD D (W_gold_Pow.l2 K k x4 x5 x6 H)
def W_gold_Pow.Λ2 (_ : Value → Hp → Prop) (_R2 : Int → Int → Int → Hp → Prop) : Cuts := Cuts.none (fun _ => none)
def W_gold_Pow.Λ (K : Value → Hp → Prop) : Cuts := ⟨fun i => none, fun i => match Nat.beq i 2 with | true => some (fun E D H => ∃ k, W_gold_Pow.l2.L K k E D H) | false => none, (fun _ => none)⟩
theorem W_gold_Pow.ok (x1 : Int) (x2 : Int) (H : Hp) (K : Value → Hp → Prop) (h : W_gold_Pow x1 x2 H K) : HCalls Tryd.prog 181 #[.int .u64 x1, .int .u64 x2] H K :=
  hcalls Tryd.func181 rfl (Nat.le_of_ble_eq_true rfl) (hw_safe (Λ := (W_gold_Pow.Λ K)) mixWgold _ _ _ _ _ (Eq.mp (by kernel_rfl) h) (obs_seq obs_region rfl (obs_seq obs_region rfl (obs_seq (obs_block (obs_loop rfl (fun E D H h => by
      refine Safe.loop' (W_gold_Pow.l2.L K) (fun E D H h => ?_) (fun k E D H h => ?_) E D H h
      · obtain ⟨w1, e1, g1⟩ := DG.out h; obtain ⟨x4, rfl, g2⟩ := DI.out g1; obtain ⟨w5, e5, g3⟩ := DG.out g2; obtain ⟨x5, rfl, g4⟩ := DI.out g3; obtain ⟨w6, e6, g5⟩ := DG.out g4; obtain ⟨x6, rfl, g6⟩ := DI.out g5; obtain ⟨rfl, h'⟩ := DNilD.out g6; exact h'
      · obtain ⟨w1, e1, g1⟩ := DG.out h
        obtain ⟨x4, rfl, g2⟩ := DI.out g1
        obtain ⟨w5, e5, g3⟩ := DG.out g2
        obtain ⟨x5, rfl, g4⟩ := DI.out g3
        obtain ⟨w6, e6, g5⟩ := DG.out g4
        obtain ⟨x6, rfl, g6⟩ := DI.out g5
        obtain ⟨rfl, h'⟩ := DNilD.out g6
        exact (hw_safe (Λ := (W_gold_Pow.Λ2 K (W_gold_Pow.l2 K k))) mixWgold _ _ [(1, .int .u64 x4), (5, .int .u64 x5), (6, .int .u64 x6)] [] H (Eq.mp (by kernel_rfl) h') (obs_seq (obs_seq obs_region rfl (obs_cond obs_skip obs_exit)) rfl (obs_seq (obs_block (obs_seq (obs_seq obs_region rfl (obs_cond obs_region obs_skip)) rfl obs_region)) rfl obs_region))).weaken (EnvLe.cons e1 (EnvLe.cons e5 (EnvLe.cons e6 (EnvLe.nil _)))) (Hp.le_refl _)))) rfl (obs_seq obs_region rfl obs_ret)))))

-- gold.Add
def W_gold_Add (x1 : Int) (x2 : Int) (H : Hp) (K : Value → Hp → Prop) : Prop :=
  HCalls Tryd.prog 180 #[.int .u64 x1] H fun v1 H1 => DI .u64 v1 fun x3 => HCalls Tryd.prog 180 #[.int .u64 x2] H1 fun v2 H2 => DI .u64 v2 fun x4 => HCalls Tryd.prog 158 #[.agg #[.int .u64 (0 : Int), .int .u64 x3], .agg #[.int .u64 (0 : Int), .int .u64 x4]] H2 fun v3 H3 => DTup v3 fun l1 => DCons l1 fun v4 l2 => DA v4 fun y1 => DCons l2 fun v5 l3 => DI .u64 v5 fun x5 => DNil l3 (Nw H3 (.obj (.cells #[.int .u64 (0 : Int), .int .u64 (0 : Int)] 223)) fun b1 H4 => StA H4 (⟨b1, 0, none⟩ : Addr) y1 2 fun H5 => LdA H5 (⟨b1, 0, none⟩ : Addr) 2 fun l4 => HCalls Tryd.prog 211 #[.agg l4.toArray] H5 fun v6 H6 => DI .u64 v6 fun x6 => K (.int .u64 x6) H6)
def W_gold_Add.Λ (_ : Value → Hp → Prop) : Cuts := Cuts.none (fun _ => none)
theorem W_gold_Add.ok (x1 : Int) (x2 : Int) (H : Hp) (K : Value → Hp → Prop) (h : W_gold_Add x1 x2 H K) : HCalls Tryd.prog 198 #[.int .u64 x1, .int .u64 x2] H K :=
  hcalls Tryd.func198 rfl (Nat.le_of_ble_eq_true rfl) (hw_safe (Λ := Cuts.none (fun _ => none)) mixWgold _ _ _ _ _ (Eq.mp (by kernel_rfl) h) (obs_none _ _ _ _ _))

-- gold.Reduce
def W_gold_Reduce.j5 (K : Value → Hp → Prop) (x7 : Int) (x8 : Int) (H : Hp) : Prop :=
  BIf (decide ((IntKind.u64.wrap (x8 + (IntKind.u64.wrap (x7 * (4294967295 : Int))))) < (IntKind.u64.wrap (x7 * (4294967295 : Int))))) (HCalls Tryd.prog 180 #[.int .u64 (IntKind.u64.wrap ((IntKind.u64.wrap (x8 + (IntKind.u64.wrap (x7 * (4294967295 : Int))))) + (4294967295 : Int)))] H fun v5 H2 => DI .u64 v5 fun x9 => K (.int .u64 x9) H2) (HCalls Tryd.prog 180 #[.int .u64 (IntKind.u64.wrap (x8 + (IntKind.u64.wrap (x7 * (4294967295 : Int)))))] H fun v6 H3 => DI .u64 v6 fun x10 => K (.int .u64 x10) H3)
def W_gold_Reduce (x1 : Int) (x2 : Int) (H : Hp) (K : Value → Hp → Prop) : Prop :=
  Nw H (.obj (.cells #[.int .u64 x1, .int .u64 x2] 223)) fun b1 H1 => Ld H1 ((⟨b1, 0, none⟩ : Addr).add 0) fun v1 => DI .u64 v1 fun x3 => (0 ≤ (32 : Int) ∧ Ld H1 ((⟨b1, 0, none⟩ : Addr).add 0) fun v2 => DI .u64 v2 fun x4 => Ld H1 ((⟨b1, 0, none⟩ : Addr).add 1) fun v3 => DI .u64 v3 fun x5 => Ld H1 ((⟨b1, 0, none⟩ : Addr).add 1) fun v4 => DI .u64 v4 fun x6 => BIf (decide (x6 < (shrI .u64 x3 (32 : Int)))) (W_gold_Reduce.j5 K (bAnd .u64 x4 (4294967295 : Int)) (IntKind.u64.wrap ((IntKind.u64.wrap (x5 - (shrI .u64 x3 (32 : Int)))) - (4294967295 : Int))) H1) (W_gold_Reduce.j5 K (bAnd .u64 x4 (4294967295 : Int)) (IntKind.u64.wrap (x5 - (shrI .u64 x3 (32 : Int)))) H1))
def W_gold_Reduce.Λ (K : Value → Hp → Prop) : Cuts := ⟨fun i => match Nat.beq i 5 with | true => some (fun E D H => DG (E.get? 4) fun w4 => DI .u64 w4 fun x7 => DG (E.get? 5) fun w5 => DI .u64 w5 fun x8 => DNilD D (W_gold_Reduce.j5 K x7 x8 H)) | false => none, fun i => none, (fun _ => none)⟩
theorem W_gold_Reduce.ok (x1 : Int) (x2 : Int) (H : Hp) (K : Value → Hp → Prop) (h : W_gold_Reduce x1 x2 H K) : HCalls Tryd.prog 211 #[.agg #[.int .u64 x1, .int .u64 x2]] H K :=
  hcalls Tryd.func211 rfl (Nat.le_of_ble_eq_true rfl) (hw_safe (Λ := (W_gold_Reduce.Λ K)) mixWgold _ _ _ _ _ (Eq.mp (by kernel_rfl) h) (obs_seq obs_region rfl (obs_seq obs_region rfl (obs_seq obs_region rfl (obs_seqc (obs_seq obs_region rfl (obs_cond obs_region obs_skip)) rfl (fun E D H h => by
      obtain ⟨w4, e4, g1⟩ := DG.out h
      obtain ⟨x7, rfl, g2⟩ := DI.out g1
      obtain ⟨w5, e5, g3⟩ := DG.out g2
      obtain ⟨x8, rfl, g4⟩ := DI.out g3
      obtain ⟨rfl, h'⟩ := DNilD.out g4
      exact (hw_safe (Λ := (W_gold_Reduce.Λ K)) mixWgold _ _ [(4, .int .u64 x7), (5, .int .u64 x8)] [] H (Eq.mp (by kernel_rfl) h') (obs_seq obs_region rfl (obs_seq obs_region rfl (obs_seq (obs_seq obs_region rfl (obs_cond obs_region obs_skip)) rfl (obs_seq obs_region rfl obs_ret))))).weaken (EnvLe.cons e4 (EnvLe.cons e5 (EnvLe.nil _))) (Hp.le_refl _)))))))

-- gold.Sub
def W_gold_Sub (x1 : Int) (x2 : Int) (H : Hp) (K : Value → Hp → Prop) : Prop :=
  HCalls Tryd.prog 229 #[.int .u64 x2] H fun v1 H1 => DI .u64 v1 fun x3 => HCalls Tryd.prog 198 #[.int .u64 x1, .int .u64 x3] H1 fun v2 H2 => DI .u64 v2 fun x4 => K (.int .u64 x4) H2
def W_gold_Sub.Λ (_ : Value → Hp → Prop) : Cuts := Cuts.none (fun _ => none)
theorem W_gold_Sub.ok (x1 : Int) (x2 : Int) (H : Hp) (K : Value → Hp → Prop) (h : W_gold_Sub x1 x2 H K) : HCalls Tryd.prog 226 #[.int .u64 x1, .int .u64 x2] H K :=
  hcalls Tryd.func226 rfl (Nat.le_of_ble_eq_true rfl) (hw_safe (Λ := Cuts.none (fun _ => none)) mixWgold _ _ _ _ _ (Eq.mp (by kernel_rfl) h) (obs_none _ _ _ _ _))

-- gold.Neg
def W_gold_Neg (x1 : Int) (H : Hp) (K : Value → Hp → Prop) : Prop :=
  HCalls Tryd.prog 180 #[.int .u64 x1] H fun v1 H1 => DI .u64 v1 fun x2 => BIf (x2 == (0 : Int)) (K (.int .u64 (0 : Int)) H1) (K (.int .u64 (IntKind.u64.wrap ((18446744069414584321 : Int) - x2))) H1)
def W_gold_Neg.Λ (_ : Value → Hp → Prop) : Cuts := Cuts.none (fun _ => none)
theorem W_gold_Neg.ok (x1 : Int) (H : Hp) (K : Value → Hp → Prop) (h : W_gold_Neg x1 H K) : HCalls Tryd.prog 229 #[.int .u64 x1] H K :=
  hcalls Tryd.func229 rfl (Nat.le_of_ble_eq_true rfl) (hw_safe (Λ := Cuts.none (fun _ => none)) mixWgold _ _ _ _ _ (Eq.mp (by kernel_rfl) h) (obs_none _ _ _ _ _))

end Go.Proofs.YtbnhfcdagoigkaaDoor.W

end
section
/-! Wwide -/
/- Formulas of functions, printed by wip/tools/hwp.py. -/
set_option maxRecDepth 100000
set_option linter.unusedVariables false
namespace Go.Proofs.YtbnhfcdagoigkaaDoor.W
open Go Go.Hw

theorem mixWwide : Tryd.prog.follows .mixedOrders = true := by kernel_rfl
-- wide.Sum
def W_wide_Sum.l2 (K : Value → Hp → Prop) : Nat → Addr → Option Addr → Nat → Nat → Int → Int → Hp → Prop
  | 0, _, _, _, _, _, _, _ => False
  | k + 1, a1, A2, n2, m2, x1, x2, H =>
    let R2 := W_wide_Sum.l2 K k
    BIf (decide (x2 < x1)) (ixI x2 n2 (NN A2 fun a2 => LdA H (a2.add (x2.toNat * 2)) 2 fun l1 => Nw H (.obj (.cells #[.int .u64 (0 : Int), .int .u64 (0 : Int)] 223)) fun b2 H2 => StA H2 (⟨b2, 0, none⟩ : Addr) l1.toArray 2 fun H3 => LdA H3 a1 2 fun l2 => LdA H3 (⟨b2, 0, none⟩ : Addr) 2 fun l3 => HCalls Tryd.prog 158 #[.agg l2.toArray, .agg l3.toArray] H3 fun v1 H4 => DTup v1 fun l4 => DCons l4 fun v2 l5 => DA v2 fun y1 => DCons l5 fun v3 l6 => DI .u64 v3 fun x3 => DNil l6 (StA H4 a1 y1 2 fun H5 => R2 a1 A2 n2 m2 x1 (IntKind.i64.wrap (x2 + (1 : Int))) H5))) (LdA H a1 2 fun l7 => StA H a1 l7.toArray 2 fun H6 => LdA H6 a1 2 fun l8 => K (.agg l8.toArray) H6)
def W_wide_Sum (A1 : Option Addr) (n1 : Nat) (m1 : Nat) (H : Hp) (K : Value → Hp → Prop) : Prop :=
  Nw H (.obj (.cells #[.int .u64 (0 : Int), .int .u64 (0 : Int)] 223)) fun b1 H1 => (∃ k, W_wide_Sum.l2 K k (⟨b1, 0, none⟩ : Addr) A1 n1 m1 ((n1 : Nat) : Int) (0 : Int) H1)
def W_wide_Sum.l2.L (K : Value → Hp → Prop) (k : Nat) : Mid := fun E D H =>
  DG (E.get? 2) fun w2 => DP w2 fun pw2 => NN pw2 fun a1 => DG (E.get? 5) fun w5 => DSl w5 fun A2 n2 m2 => DG (E.get? 6) fun w6 => DI .i64 w6 fun x1 => DG (E.get? 7) fun w7 => DI .i64 w7 fun x2 => DNilD D (W_wide_Sum.l2 K k a1 A2 n2 m2 x1 x2 H)
def W_wide_Sum.Λ2 (_ : Value → Hp → Prop) (_R2 : Addr → Option Addr → Nat → Nat → Int → Int → Hp → Prop) : Cuts := Cuts.none (fun _ => none)
def W_wide_Sum.Λ (K : Value → Hp → Prop) : Cuts := ⟨fun i => none, fun i => match Nat.beq i 2 with | true => some (fun E D H => ∃ k, W_wide_Sum.l2.L K k E D H) | false => none, (fun _ => none)⟩
theorem W_wide_Sum.ok (A1 : Option Addr) (n1 : Nat) (m1 : Nat) (H : Hp) (K : Value → Hp → Prop) (h : W_wide_Sum A1 n1 m1 H K) : HCalls Tryd.prog 120 #[.slice A1 n1 m1] H K :=
  hcalls Tryd.func120 rfl (Nat.le_of_ble_eq_true rfl) (hw_safe (Λ := (W_wide_Sum.Λ K)) mixWwide _ _ _ _ _ (Eq.mp (by kernel_rfl) h) (obs_seq obs_region rfl (obs_seq (obs_seq obs_region rfl (obs_block (obs_loop rfl (fun E D H h => by
      refine Safe.loop' (W_wide_Sum.l2.L K) (fun E D H h => ?_) (fun k E D H h => ?_) E D H h
      · obtain ⟨w2, e2, g1⟩ := DG.out h; obtain ⟨pw2, rfl, g2⟩ := DP.out g1; obtain ⟨a1, rfl, g3⟩ := NN.out g2; obtain ⟨w5, e5, g4⟩ := DG.out g3; obtain ⟨A2, n2, m2, rfl, g5⟩ := DSl.out g4; obtain ⟨w6, e6, g6⟩ := DG.out g5; obtain ⟨x1, rfl, g7⟩ := DI.out g6; obtain ⟨w7, e7, g8⟩ := DG.out g7; obtain ⟨x2, rfl, g9⟩ := DI.out g8; obtain ⟨rfl, h'⟩ := DNilD.out g9; exact h'
      · obtain ⟨w2, e2, g1⟩ := DG.out h
        obtain ⟨pw2, rfl, g2⟩ := DP.out g1
        obtain ⟨a1, rfl, g3⟩ := NN.out g2
        obtain ⟨w5, e5, g4⟩ := DG.out g3
        obtain ⟨A2, n2, m2, rfl, g5⟩ := DSl.out g4
        obtain ⟨w6, e6, g6⟩ := DG.out g5
        obtain ⟨x1, rfl, g7⟩ := DI.out g6
        obtain ⟨w7, e7, g8⟩ := DG.out g7
        obtain ⟨x2, rfl, g9⟩ := DI.out g8
        obtain ⟨rfl, h'⟩ := DNilD.out g9
        exact (hw_safe (Λ := (W_wide_Sum.Λ2 K (W_wide_Sum.l2 K k))) mixWwide _ _ [(2, .pointer (some a1)), (5, .slice A2 n2 m2), (6, .int .i64 x1), (7, .int .i64 x2)] [] H (Eq.mp (by kernel_rfl) h') (obs_seq obs_region rfl (obs_seq (obs_cond obs_skip obs_exit) rfl (obs_seq (obs_block (obs_seq obs_region rfl obs_region)) rfl obs_region)))).weaken (EnvLe.cons e2 (EnvLe.cons e5 (EnvLe.cons e6 (EnvLe.cons e7 (EnvLe.nil _))))) (Hp.le_refl _))))) rfl (obs_seq obs_region rfl obs_ret))))

-- wide.Shl
def W_wide_Shl (x1 : Int) (x2 : Int) (x3 : Int) (H : Hp) (K : Value → Hp → Prop) : Prop :=
  Nw H (.obj (.cells #[.int .u64 x1, .int .u64 x2] 223)) fun b1 H1 => Nw H1 (.obj (.cells #[.int .u64 (0 : Int), .int .u64 (0 : Int)] 223)) fun b2 H2 => BIf (decide (x3 ≤ (0 : Int))) (LdA H2 (⟨b1, 0, none⟩ : Addr) 2 fun l1 => StA H2 (⟨b2, 0, none⟩ : Addr) l1.toArray 2 fun H3 => LdA H3 (⟨b2, 0, none⟩ : Addr) 2 fun l2 => K (.agg l2.toArray) H3) (BIf (decide (x3 ≥ (64 : Int))) (Ld H2 ((⟨b1, 0, none⟩ : Addr).add 1) fun v1 => DI .u64 v1 fun x4 => (0 ≤ (IntKind.u64.wrap (IntKind.i64.wrap (x3 - (64 : Int)))) ∧ StA H2 (⟨b2, 0, none⟩ : Addr) #[.int .u64 (shlI .u64 x4 (IntKind.u64.wrap (IntKind.i64.wrap (x3 - (64 : Int))))), .int .u64 (0 : Int)] 2 fun H4 => LdA H4 (⟨b2, 0, none⟩ : Addr) 2 fun l3 => K (.agg l3.toArray) H4)) (Ld H2 ((⟨b1, 0, none⟩ : Addr).add 0) fun v2 => DI .u64 v2 fun x5 => (0 ≤ (IntKind.u64.wrap x3) ∧ Ld H2 ((⟨b1, 0, none⟩ : Addr).add 1) fun v3 => DI .u64 v3 fun x6 => (0 ≤ (IntKind.u64.wrap (IntKind.i64.wrap ((64 : Int) - x3))) ∧ Ld H2 ((⟨b1, 0, none⟩ : Addr).add 1) fun v4 => DI .u64 v4 fun x7 => (0 ≤ (IntKind.u64.wrap x3) ∧ StA H2 (⟨b2, 0, none⟩ : Addr) #[.int .u64 (bOr .u64 (shlI .u64 x5 (IntKind.u64.wrap x3)) (shrI .u64 x6 (IntKind.u64.wrap (IntKind.i64.wrap ((64 : Int) - x3))))), .int .u64 (shlI .u64 x7 (IntKind.u64.wrap x3))] 2 fun H5 => LdA H5 (⟨b2, 0, none⟩ : Addr) 2 fun l4 => K (.agg l4.toArray) H5)))))
def W_wide_Shl.Λ (_ : Value → Hp → Prop) : Cuts := Cuts.none (fun _ => none)
theorem W_wide_Shl.ok (x1 : Int) (x2 : Int) (x3 : Int) (H : Hp) (K : Value → Hp → Prop) (h : W_wide_Shl x1 x2 x3 H K) : HCalls Tryd.prog 121 #[.agg #[.int .u64 x1, .int .u64 x2], .int .i64 x3] H K :=
  hcalls Tryd.func121 rfl (Nat.le_of_ble_eq_true rfl) (hw_safe (Λ := Cuts.none (fun _ => none)) mixWwide _ _ _ _ _ (Eq.mp (by kernel_rfl) h) (obs_none _ _ _ _ _))

-- wide.Add
def W_wide_Add (x1 : Int) (x2 : Int) (x3 : Int) (x4 : Int) (H : Hp) (K : Value → Hp → Prop) : Prop :=
  Nw H (.obj (.cells #[.int .u64 x1, .int .u64 x2] 223)) fun b1 H1 => Nw H1 (.obj (.cells #[.int .u64 x3, .int .u64 x4] 223)) fun b2 H2 => Nw H2 (.obj (.cells #[.int .u64 (0 : Int), .int .u64 (0 : Int)] 223)) fun b3 H3 => Ld H3 ((⟨b1, 0, none⟩ : Addr).add 1) fun v1 => DI .u64 v1 fun x5 => Ld H3 ((⟨b2, 0, none⟩ : Addr).add 1) fun v2 => DI .u64 v2 fun x6 => ExC Tryd.prog 194 #[.int .u64 x5, .int .u64 x6, .int .u64 (0 : Int)] H3 fun v3 H4 => DTup v3 fun l1 => DCons l1 fun v4 l2 => DI .u64 v4 fun x7 => DCons l2 fun v5 l3 => DI .u64 v5 fun x8 => DNil l3 (St H4 (((⟨b3, 0, none⟩ : Addr).add 1).add 0) (.int .u64 x7) fun H5 => Ld H5 ((⟨b1, 0, none⟩ : Addr).add 0) fun v6 => DI .u64 v6 fun x9 => Ld H5 ((⟨b2, 0, none⟩ : Addr).add 0) fun v7 => DI .u64 v7 fun x10 => ExC Tryd.prog 194 #[.int .u64 x9, .int .u64 x10, .int .u64 x8] H5 fun v8 H6 => DTup v8 fun l4 => DCons l4 fun v9 l5 => DI .u64 v9 fun x11 => DCons l5 fun v10 l6 => DI .u64 v10 fun x12 => DNil l6 (St H6 (((⟨b3, 0, none⟩ : Addr).add 0).add 0) (.int .u64 x11) fun H7 => LdA H7 (⟨b3, 0, none⟩ : Addr) 2 fun l7 => StA H7 (⟨b3, 0, none⟩ : Addr) l7.toArray 2 fun H8 => LdA H8 (⟨b3, 0, none⟩ : Addr) 2 fun l8 => K (.tuple #[.agg l8.toArray, .int .u64 x12]) H8))
def W_wide_Add.Λ (_ : Value → Hp → Prop) : Cuts := Cuts.none (fun _ => none)
theorem W_wide_Add.ok (x1 : Int) (x2 : Int) (x3 : Int) (x4 : Int) (H : Hp) (K : Value → Hp → Prop) (h : W_wide_Add x1 x2 x3 x4 H K) : HCalls Tryd.prog 158 #[.agg #[.int .u64 x1, .int .u64 x2], .agg #[.int .u64 x3, .int .u64 x4]] H K :=
  hcalls Tryd.func158 rfl (Nat.le_of_ble_eq_true rfl) (hw_safe (Λ := Cuts.none (fun _ => none)) mixWwide _ _ _ _ _ (Eq.mp (by kernel_rfl) h) (obs_none _ _ _ _ _))

-- wide.Mul
def W_wide_Mul (x1 : Int) (x2 : Int) (H : Hp) (K : Value → Hp → Prop) : Prop :=
  Nw H (.obj (.cells #[.int .u64 (0 : Int), .int .u64 (0 : Int)] 223)) fun b1 H1 => HCalls Tryd.prog 224 #[.int .u64 x1, .int .u64 x2] H1 fun v1 H2 => DTup v1 fun l1 => DCons l1 fun v2 l2 => DI .u64 v2 fun x3 => DCons l2 fun v3 l3 => DI .u64 v3 fun x4 => DNil l3 (StA H2 (⟨b1, 0, none⟩ : Addr) #[.int .u64 x3, .int .u64 x4] 2 fun H3 => LdA H3 (⟨b1, 0, none⟩ : Addr) 2 fun l4 => K (.agg l4.toArray) H3)
def W_wide_Mul.Λ (_ : Value → Hp → Prop) : Cuts := Cuts.none (fun _ => none)
theorem W_wide_Mul.ok (x1 : Int) (x2 : Int) (H : Hp) (K : Value → Hp → Prop) (h : W_wide_Mul x1 x2 H K) : HCalls Tryd.prog 212 #[.int .u64 x1, .int .u64 x2] H K :=
  hcalls Tryd.func212 rfl (Nat.le_of_ble_eq_true rfl) (hw_safe (Λ := Cuts.none (fun _ => none)) mixWwide _ _ _ _ _ (Eq.mp (by kernel_rfl) h) (obs_none _ _ _ _ _))

end Go.Proofs.YtbnhfcdagoigkaaDoor.W

end
section
/-! Wlbits -/
/- Formulas of functions, printed by wip/tools/hwp.py. -/
set_option maxRecDepth 100000
set_option linter.unusedVariables false
namespace Go.Proofs.YtbnhfcdagoigkaaDoor.W
open Go Go.Hw

theorem mixWlbits : Tryd.prog.follows .mixedOrders = true := by kernel_rfl
-- math/bits.TrailingZeros
def W_math_bits_TrailingZeros (x1 : Int) (H : Hp) (K : Value → Hp → Prop) : Prop :=
  HCalls Tryd.prog 109 #[.int .u64 x1] H fun v1 H1 => DI .i64 v1 fun x2 => K (.int .i64 x2) H1
def W_math_bits_TrailingZeros.Λ (_ : Value → Hp → Prop) : Cuts := Cuts.none (fun _ => none)
theorem W_math_bits_TrailingZeros.ok (x1 : Int) (H : Hp) (K : Value → Hp → Prop) (h : W_math_bits_TrailingZeros x1 H K) : HCalls Tryd.prog 69 #[.int .u64 x1] H K :=
  hcalls Tryd.func69 rfl (Nat.le_of_ble_eq_true rfl) (hw_safe (Λ := Cuts.none (fun _ => none)) mixWlbits _ _ _ _ _ (Eq.mp (by kernel_rfl) h) (obs_none _ _ _ _ _))

-- math/bits.TrailingZeros32
def W_math_bits_TrailingZeros32 (x1 : Int) (H : Hp) (K : Value → Hp → Prop) : Prop :=
  BIf (x1 == (0 : Int)) (K (.int .i64 (32 : Int)) H) ((0 ≤ (27 : Int) ∧ ixI (shrI .u32 (IntKind.u32.wrap ((bAnd .u32 x1 (IntKind.u32.wrap (0 - x1))) * (125613361 : Int))) (27 : Int)) 32 (Ld H ((⟨2, 0, none⟩ : Addr).add ((shrI .u32 (IntKind.u32.wrap ((bAnd .u32 x1 (IntKind.u32.wrap (0 - x1))) * (125613361 : Int))) (27 : Int)).toNat * 1)) fun v1 => DI .u8 v1 fun x2 => K (.int .i64 (IntKind.i64.wrap x2)) H)))
def W_math_bits_TrailingZeros32.Λ (_ : Value → Hp → Prop) : Cuts := Cuts.none (fun _ => none)
theorem W_math_bits_TrailingZeros32.ok (x1 : Int) (H : Hp) (K : Value → Hp → Prop) (h : W_math_bits_TrailingZeros32 x1 H K) : HCalls Tryd.prog 108 #[.int .u32 x1] H K :=
  hcalls Tryd.func108 rfl (Nat.le_of_ble_eq_true rfl) (hw_safe (Λ := Cuts.none (fun _ => none)) mixWlbits _ _ _ _ _ (Eq.mp (by kernel_rfl) h) (obs_none _ _ _ _ _))

-- math/bits.TrailingZeros64
def W_math_bits_TrailingZeros64 (x1 : Int) (H : Hp) (K : Value → Hp → Prop) : Prop :=
  BIf (x1 == (0 : Int)) (K (.int .i64 (64 : Int)) H) ((0 ≤ (58 : Int) ∧ ixI (shrI .u64 (IntKind.u64.wrap ((bAnd .u64 x1 (IntKind.u64.wrap (0 - x1))) * (285870213051353865 : Int))) (58 : Int)) 64 (Ld H ((⟨3, 0, none⟩ : Addr).add ((shrI .u64 (IntKind.u64.wrap ((bAnd .u64 x1 (IntKind.u64.wrap (0 - x1))) * (285870213051353865 : Int))) (58 : Int)).toNat * 1)) fun v1 => DI .u8 v1 fun x2 => K (.int .i64 (IntKind.i64.wrap x2)) H)))
def W_math_bits_TrailingZeros64.Λ (_ : Value → Hp → Prop) : Cuts := Cuts.none (fun _ => none)
theorem W_math_bits_TrailingZeros64.ok (x1 : Int) (H : Hp) (K : Value → Hp → Prop) (h : W_math_bits_TrailingZeros64 x1 H K) : HCalls Tryd.prog 109 #[.int .u64 x1] H K :=
  hcalls Tryd.func109 rfl (Nat.le_of_ble_eq_true rfl) (hw_safe (Λ := Cuts.none (fun _ => none)) mixWlbits _ _ _ _ _ (Eq.mp (by kernel_rfl) h) (obs_none _ _ _ _ _))

-- math/bits.Len64
def W_math_bits_Len64.j7 (K : Value → Hp → Prop) (x4 : Int) (x5 : Int) (H : Hp) : Prop :=
  BIf (decide (x4 ≥ (256 : Int))) ((0 ≤ (8 : Int) ∧ (0 ≤ (IntKind.u8.wrap (shrI .u64 x4 (8 : Int))) ∧ ixB ((⟨#[0, 1, 2, 2, 3, 3, 3, 3, 4, 4, 4, 4, 4, 4, 4, 4, 5, 5, 5, 5, 5, 5, 5, 5, 5, 5, 5, 5, 5, 5, 5, 5, 6, 6, 6, 6, 6, 6, 6, 6, 6, 6, 6, 6, 6, 6, 6, 6, 6, 6, 6, 6, 6, 6, 6, 6, 6, 6, 6, 6, 6, 6, 6, 6, 7, 7, 7, 7, 7, 7, 7, 7, 7, 7, 7, 7, 7, 7, 7, 7, 7, 7, 7, 7, 7, 7, 7, 7, 7, 7, 7, 7, 7, 7, 7, 7, 7, 7, 7, 7, 7, 7, 7, 7, 7, 7, 7, 7, 7, 7, 7, 7, 7, 7, 7, 7, 7, 7, 7, 7, 7, 7, 7, 7, 7, 7, 7, 7, 8, 8, 8, 8, 8, 8, 8, 8, 8, 8, 8, 8, 8, 8, 8, 8, 8, 8, 8, 8, 8, 8, 8, 8, 8, 8, 8, 8, 8, 8, 8, 8, 8, 8, 8, 8, 8, 8, 8, 8, 8, 8, 8, 8, 8, 8, 8, 8, 8, 8, 8, 8, 8, 8, 8, 8, 8, 8, 8, 8, 8, 8, 8, 8, 8, 8, 8, 8, 8, 8, 8, 8, 8, 8, 8, 8, 8, 8, 8, 8, 8, 8, 8, 8, 8, 8, 8, 8, 8, 8, 8, 8, 8, 8, 8, 8, 8, 8, 8, 8, 8, 8, 8, 8, 8, 8, 8, 8, 8, 8, 8, 8, 8, 8, 8, 8, 8, 8, 8, 8, 8, 8, 8, 8, 8, 8, 8, 8]⟩) : ByteArray) (IntKind.u8.wrap (shrI .u64 x4 (8 : Int))).toNat fun x6 => K (.int .i64 (IntKind.i64.wrap ((IntKind.i64.wrap (x5 + (8 : Int))) + (IntKind.i64.wrap x6)))) H))) ((0 ≤ (IntKind.u8.wrap x4) ∧ ixB ((⟨#[0, 1, 2, 2, 3, 3, 3, 3, 4, 4, 4, 4, 4, 4, 4, 4, 5, 5, 5, 5, 5, 5, 5, 5, 5, 5, 5, 5, 5, 5, 5, 5, 6, 6, 6, 6, 6, 6, 6, 6, 6, 6, 6, 6, 6, 6, 6, 6, 6, 6, 6, 6, 6, 6, 6, 6, 6, 6, 6, 6, 6, 6, 6, 6, 7, 7, 7, 7, 7, 7, 7, 7, 7, 7, 7, 7, 7, 7, 7, 7, 7, 7, 7, 7, 7, 7, 7, 7, 7, 7, 7, 7, 7, 7, 7, 7, 7, 7, 7, 7, 7, 7, 7, 7, 7, 7, 7, 7, 7, 7, 7, 7, 7, 7, 7, 7, 7, 7, 7, 7, 7, 7, 7, 7, 7, 7, 7, 7, 8, 8, 8, 8, 8, 8, 8, 8, 8, 8, 8, 8, 8, 8, 8, 8, 8, 8, 8, 8, 8, 8, 8, 8, 8, 8, 8, 8, 8, 8, 8, 8, 8, 8, 8, 8, 8, 8, 8, 8, 8, 8, 8, 8, 8, 8, 8, 8, 8, 8, 8, 8, 8, 8, 8, 8, 8, 8, 8, 8, 8, 8, 8, 8, 8, 8, 8, 8, 8, 8, 8, 8, 8, 8, 8, 8, 8, 8, 8, 8, 8, 8, 8, 8, 8, 8, 8, 8, 8, 8, 8, 8, 8, 8, 8, 8, 8, 8, 8, 8, 8, 8, 8, 8, 8, 8, 8, 8, 8, 8, 8, 8, 8, 8, 8, 8, 8, 8, 8, 8, 8, 8, 8, 8, 8, 8, 8, 8]⟩) : ByteArray) (IntKind.u8.wrap x4).toNat fun x7 => K (.int .i64 (IntKind.i64.wrap (x5 + (IntKind.i64.wrap x7)))) H))
def W_math_bits_Len64.j4 (K : Value → Hp → Prop) (x2 : Int) (x3 : Int) (H : Hp) : Prop :=
  BIf (decide (x2 ≥ (65536 : Int))) ((0 ≤ (16 : Int) ∧ W_math_bits_Len64.j7 K (shrI .u64 x2 (16 : Int)) (IntKind.i64.wrap (x3 + (16 : Int))) H)) (W_math_bits_Len64.j7 K x2 x3 H)
def W_math_bits_Len64 (x1 : Int) (H : Hp) (K : Value → Hp → Prop) : Prop :=
  BIf (decide (x1 ≥ (4294967296 : Int))) ((0 ≤ (32 : Int) ∧ W_math_bits_Len64.j4 K (shrI .u64 x1 (32 : Int)) (32 : Int) H)) (W_math_bits_Len64.j4 K x1 (0 : Int) H)
def W_math_bits_Len64.Λ (K : Value → Hp → Prop) : Cuts := ⟨fun i => match Nat.beq i 7 with | true => some (fun E D H => DG (E.get? 0) fun w0 => DI .u64 w0 fun x4 => DG (E.get? 2) fun w2 => DI .i64 w2 fun x5 => DNilD D (W_math_bits_Len64.j7 K x4 x5 H)) | false => match Nat.beq i 4 with | true => some (fun E D H => DG (E.get? 0) fun w0 => DI .u64 w0 fun x2 => DG (E.get? 2) fun w2 => DI .i64 w2 fun x3 => DNilD D (W_math_bits_Len64.j4 K x2 x3 H)) | false => none, fun i => none, (fun _ => none)⟩
theorem W_math_bits_Len64.ok (x1 : Int) (H : Hp) (K : Value → Hp → Prop) (h : W_math_bits_Len64 x1 H K) : HCalls Tryd.prog 187 #[.int .u64 x1] H K :=
  hcalls Tryd.func187 rfl (Nat.le_of_ble_eq_true rfl) (hw_safe (Λ := (W_math_bits_Len64.Λ K)) mixWlbits _ _ _ _ _ (Eq.mp (by kernel_rfl) h) (obs_seq obs_region rfl (obs_seqc (obs_seq obs_region rfl (obs_cond (obs_seq obs_region rfl obs_region) obs_skip)) rfl (fun E D H h => by
      obtain ⟨w0, e0, g1⟩ := DG.out h
      obtain ⟨x2, rfl, g2⟩ := DI.out g1
      obtain ⟨w2, e2, g3⟩ := DG.out g2
      obtain ⟨x3, rfl, g4⟩ := DI.out g3
      obtain ⟨rfl, h'⟩ := DNilD.out g4
      exact (hw_safe (Λ := (W_math_bits_Len64.Λ K)) mixWlbits _ _ [(0, .int .u64 x2), (2, .int .i64 x3)] [] H (Eq.mp (by kernel_rfl) h') (obs_seqc (obs_seq obs_region rfl (obs_cond (obs_seq obs_region rfl obs_region) obs_skip)) rfl (fun E D H h => by
          obtain ⟨w0, e0, g1⟩ := DG.out h
          obtain ⟨x4, rfl, g2⟩ := DI.out g1
          obtain ⟨w2, e2, g3⟩ := DG.out g2
          obtain ⟨x5, rfl, g4⟩ := DI.out g3
          obtain ⟨rfl, h'⟩ := DNilD.out g4
          exact (hw_safe (Λ := (W_math_bits_Len64.Λ K)) mixWlbits _ _ [(0, .int .u64 x4), (2, .int .i64 x5)] [] H (Eq.mp (by kernel_rfl) h') (obs_seq (obs_seq obs_region rfl (obs_cond (obs_seq obs_region rfl obs_region) obs_skip)) rfl (obs_seq obs_region rfl obs_ret))).weaken (EnvLe.cons e0 (EnvLe.cons e2 (EnvLe.nil _))) (Hp.le_refl _)))).weaken (EnvLe.cons e0 (EnvLe.cons e2 (EnvLe.nil _))) (Hp.le_refl _)))))

-- math/bits.Mul64
def W_math_bits_Mul64 (x1 : Int) (x2 : Int) (H : Hp) (K : Value → Hp → Prop) : Prop :=
  (0 ≤ (32 : Int) ∧ (0 ≤ (32 : Int) ∧ (0 ≤ (32 : Int) ∧ (0 ≤ (32 : Int) ∧ (0 ≤ (32 : Int) ∧ K (.tuple #[.int .u64 (IntKind.u64.wrap ((IntKind.u64.wrap ((IntKind.u64.wrap ((shrI .u64 x1 (32 : Int)) * (shrI .u64 x2 (32 : Int)))) + (shrI .u64 (IntKind.u64.wrap ((IntKind.u64.wrap ((shrI .u64 x1 (32 : Int)) * (bAnd .u64 x2 (4294967295 : Int)))) + (shrI .u64 (IntKind.u64.wrap ((bAnd .u64 x1 (4294967295 : Int)) * (bAnd .u64 x2 (4294967295 : Int)))) (32 : Int)))) (32 : Int)))) + (shrI .u64 (IntKind.u64.wrap ((bAnd .u64 (IntKind.u64.wrap ((IntKind.u64.wrap ((shrI .u64 x1 (32 : Int)) * (bAnd .u64 x2 (4294967295 : Int)))) + (shrI .u64 (IntKind.u64.wrap ((bAnd .u64 x1 (4294967295 : Int)) * (bAnd .u64 x2 (4294967295 : Int)))) (32 : Int)))) (4294967295 : Int)) + (IntKind.u64.wrap ((bAnd .u64 x1 (4294967295 : Int)) * (shrI .u64 x2 (32 : Int)))))) (32 : Int)))), .int .u64 (IntKind.u64.wrap (x1 * x2))]) H)))))
def W_math_bits_Mul64.Λ (_ : Value → Hp → Prop) : Cuts := Cuts.none (fun _ => none)
theorem W_math_bits_Mul64.ok (x1 : Int) (x2 : Int) (H : Hp) (K : Value → Hp → Prop) (h : W_math_bits_Mul64 x1 x2 H K) : HCalls Tryd.prog 224 #[.int .u64 x1, .int .u64 x2] H K :=
  hcalls Tryd.func224 rfl (Nat.le_of_ble_eq_true rfl) (hw_safe (Λ := Cuts.none (fun _ => none)) mixWlbits _ _ _ _ _ (Eq.mp (by kernel_rfl) h) (obs_none _ _ _ _ _))

-- math/bits.Reverse64
def W_math_bits_Reverse64 (x1 : Int) (H : Hp) (K : Value → Hp → Prop) : Prop :=
  (0 ≤ (1 : Int) ∧ (0 ≤ (1 : Int) ∧ (0 ≤ (2 : Int) ∧ (0 ≤ (2 : Int) ∧ (0 ≤ (4 : Int) ∧ (0 ≤ (4 : Int) ∧ HCalls Tryd.prog 228 #[.int .u64 (bOr .u64 (bAnd .u64 (shrI .u64 (bOr .u64 (bAnd .u64 (shrI .u64 (bOr .u64 (bAnd .u64 (shrI .u64 x1 (1 : Int)) (6148914691236517205 : Int)) (shlI .u64 (bAnd .u64 x1 (6148914691236517205 : Int)) (1 : Int))) (2 : Int)) (3689348814741910323 : Int)) (shlI .u64 (bAnd .u64 (bOr .u64 (bAnd .u64 (shrI .u64 x1 (1 : Int)) (6148914691236517205 : Int)) (shlI .u64 (bAnd .u64 x1 (6148914691236517205 : Int)) (1 : Int))) (3689348814741910323 : Int)) (2 : Int))) (4 : Int)) (1085102592571150095 : Int)) (shlI .u64 (bAnd .u64 (bOr .u64 (bAnd .u64 (shrI .u64 (bOr .u64 (bAnd .u64 (shrI .u64 x1 (1 : Int)) (6148914691236517205 : Int)) (shlI .u64 (bAnd .u64 x1 (6148914691236517205 : Int)) (1 : Int))) (2 : Int)) (3689348814741910323 : Int)) (shlI .u64 (bAnd .u64 (bOr .u64 (bAnd .u64 (shrI .u64 x1 (1 : Int)) (6148914691236517205 : Int)) (shlI .u64 (bAnd .u64 x1 (6148914691236517205 : Int)) (1 : Int))) (3689348814741910323 : Int)) (2 : Int))) (1085102592571150095 : Int)) (4 : Int)))] H fun v1 H1 => DI .u64 v1 fun x2 => K (.int .u64 x2) H1))))))
def W_math_bits_Reverse64.Λ (_ : Value → Hp → Prop) : Cuts := Cuts.none (fun _ => none)
theorem W_math_bits_Reverse64.ok (x1 : Int) (H : Hp) (K : Value → Hp → Prop) (h : W_math_bits_Reverse64 x1 H K) : HCalls Tryd.prog 225 #[.int .u64 x1] H K :=
  hcalls Tryd.func225 rfl (Nat.le_of_ble_eq_true rfl) (hw_safe (Λ := Cuts.none (fun _ => none)) mixWlbits _ _ _ _ _ (Eq.mp (by kernel_rfl) h) (obs_none _ _ _ _ _))

-- math/bits.ReverseBytes64
def W_math_bits_ReverseBytes64 (x1 : Int) (H : Hp) (K : Value → Hp → Prop) : Prop :=
  (0 ≤ (8 : Int) ∧ (0 ≤ (8 : Int) ∧ (0 ≤ (16 : Int) ∧ (0 ≤ (16 : Int) ∧ (0 ≤ (32 : Int) ∧ (0 ≤ (32 : Int) ∧ K (.int .u64 (bOr .u64 (shrI .u64 (bOr .u64 (bAnd .u64 (shrI .u64 (bOr .u64 (bAnd .u64 (shrI .u64 x1 (8 : Int)) (71777214294589695 : Int)) (shlI .u64 (bAnd .u64 x1 (71777214294589695 : Int)) (8 : Int))) (16 : Int)) (281470681808895 : Int)) (shlI .u64 (bAnd .u64 (bOr .u64 (bAnd .u64 (shrI .u64 x1 (8 : Int)) (71777214294589695 : Int)) (shlI .u64 (bAnd .u64 x1 (71777214294589695 : Int)) (8 : Int))) (281470681808895 : Int)) (16 : Int))) (32 : Int)) (shlI .u64 (bOr .u64 (bAnd .u64 (shrI .u64 (bOr .u64 (bAnd .u64 (shrI .u64 x1 (8 : Int)) (71777214294589695 : Int)) (shlI .u64 (bAnd .u64 x1 (71777214294589695 : Int)) (8 : Int))) (16 : Int)) (281470681808895 : Int)) (shlI .u64 (bAnd .u64 (bOr .u64 (bAnd .u64 (shrI .u64 x1 (8 : Int)) (71777214294589695 : Int)) (shlI .u64 (bAnd .u64 x1 (71777214294589695 : Int)) (8 : Int))) (281470681808895 : Int)) (16 : Int))) (32 : Int)))) H))))))
def W_math_bits_ReverseBytes64.Λ (_ : Value → Hp → Prop) : Cuts := Cuts.none (fun _ => none)
theorem W_math_bits_ReverseBytes64.ok (x1 : Int) (H : Hp) (K : Value → Hp → Prop) (h : W_math_bits_ReverseBytes64 x1 H K) : HCalls Tryd.prog 228 #[.int .u64 x1] H K :=
  hcalls Tryd.func228 rfl (Nat.le_of_ble_eq_true rfl) (hw_safe (Λ := Cuts.none (fun _ => none)) mixWlbits _ _ _ _ _ (Eq.mp (by kernel_rfl) h) (obs_none _ _ _ _ _))

end Go.Proofs.YtbnhfcdagoigkaaDoor.W

end
section
/-! Wabacistref02 -/
/- Formulas of functions, printed by wip/tools/hwp.py. -/
set_option maxRecDepth 100000
set_option linter.unusedVariables false
namespace Go.Proofs.YtbnhfcdagoigkaaDoor.W
open Go Go.Hw

theorem mixWabacistref02 : Tryd.prog.follows .mixedOrders = true := by kernel_rfl
-- abacistref02.Pow
def W_abacistref02_Pow.l3 (K : Value → Hp → Prop) : Nat → Int → Int → Int → Hp → Prop
  | 0, _, _, _, _ => False
  | k + 1, x4, x5, x6, H =>
    let R3 := W_abacistref02_Pow.l3 K k
    BIf (decide (x5 > (0 : Int))) (((2 : Int) ≠ 0 ∧ IntKind.u64 = IntKind.u64 ∧ BIf ((Int.tmod x5 (2 : Int)) == (1 : Int)) (HCalls Tryd.prog 113 #[.int .u64 x6, .int .u64 x4] H fun v2 H2 => DI .u64 v2 fun x7 => HCalls Tryd.prog 113 #[.int .u64 x4, .int .u64 x4] H2 fun v3 H3 => DI .u64 v3 fun x8 => ((2 : Int) ≠ 0 ∧ IntKind.u64 = IntKind.u64 ∧ R3 x8 (IntKind.u64.wrap (Int.tdiv x5 (2 : Int))) x7 H3)) (HCalls Tryd.prog 113 #[.int .u64 x4, .int .u64 x4] H fun v4 H4 => DI .u64 v4 fun x9 => ((2 : Int) ≠ 0 ∧ IntKind.u64 = IntKind.u64 ∧ R3 x9 (IntKind.u64.wrap (Int.tdiv x5 (2 : Int))) x6 H4)))) (K (.int .u64 x6) H)
def W_abacistref02_Pow (x1 : Int) (x2 : Int) (H : Hp) (K : Value → Hp → Prop) : Prop :=
  HCalls Tryd.prog 112 #[.int .u64 x1] H fun v1 H1 => DI .u64 v1 fun x3 => (∃ k, W_abacistref02_Pow.l3 K k x3 x2 (1 : Int) H1)
def W_abacistref02_Pow.l3.L (K : Value → Hp → Prop) (k : Nat) : Mid := fun E D H =>
  DG (E.get? 0) fun w0 => DI .u64 w0 fun x4 => DG (E.get? 1) fun w1 => DI .u64 w1 fun x5 => DG (E.get? 5) fun w5 => DI .u64 w5 fun x6 => DNilD D (W_abacistref02_Pow.l3 K k x4 x5 x6 H)
def W_abacistref02_Pow.Λ3 (_ : Value → Hp → Prop) (_R3 : Int → Int → Int → Hp → Prop) : Cuts := Cuts.none (fun _ => none)
def W_abacistref02_Pow.Λ (K : Value → Hp → Prop) : Cuts := ⟨fun i => none, fun i => match Nat.beq i 3 with | true => some (fun E D H => ∃ k, W_abacistref02_Pow.l3.L K k E D H) | false => none, (fun _ => none)⟩
theorem W_abacistref02_Pow.ok (x1 : Int) (x2 : Int) (H : Hp) (K : Value → Hp → Prop) (h : W_abacistref02_Pow x1 x2 H K) : HCalls Tryd.prog 73 #[.int .u64 x1, .int .u64 x2] H K :=
  hcalls Tryd.func73 rfl (Nat.le_of_ble_eq_true rfl) (hw_safe (Λ := (W_abacistref02_Pow.Λ K)) mixWabacistref02 _ _ _ _ _ (Eq.mp (by kernel_rfl) h) (obs_seq obs_region rfl (obs_seq obs_region rfl (obs_seq obs_region rfl (obs_seq (obs_block (obs_loop rfl (fun E D H h => by
      refine Safe.loop' (W_abacistref02_Pow.l3.L K) (fun E D H h => ?_) (fun k E D H h => ?_) E D H h
      · obtain ⟨w0, e0, g1⟩ := DG.out h; obtain ⟨x4, rfl, g2⟩ := DI.out g1; obtain ⟨w1, e1, g3⟩ := DG.out g2; obtain ⟨x5, rfl, g4⟩ := DI.out g3; obtain ⟨w5, e5, g5⟩ := DG.out g4; obtain ⟨x6, rfl, g6⟩ := DI.out g5; obtain ⟨rfl, h'⟩ := DNilD.out g6; exact h'
      · obtain ⟨w0, e0, g1⟩ := DG.out h
        obtain ⟨x4, rfl, g2⟩ := DI.out g1
        obtain ⟨w1, e1, g3⟩ := DG.out g2
        obtain ⟨x5, rfl, g4⟩ := DI.out g3
        obtain ⟨w5, e5, g5⟩ := DG.out g4
        obtain ⟨x6, rfl, g6⟩ := DI.out g5
        obtain ⟨rfl, h'⟩ := DNilD.out g6
        exact (hw_safe (Λ := (W_abacistref02_Pow.Λ3 K (W_abacistref02_Pow.l3 K k))) mixWabacistref02 _ _ [(0, .int .u64 x4), (1, .int .u64 x5), (5, .int .u64 x6)] [] H (Eq.mp (by kernel_rfl) h') (obs_seq (obs_seq obs_region rfl (obs_cond obs_skip obs_exit)) rfl (obs_block (obs_seq (obs_seq obs_region rfl (obs_cond obs_region obs_skip)) rfl (obs_seq obs_region rfl obs_region))))).weaken (EnvLe.cons e0 (EnvLe.cons e1 (EnvLe.cons e5 (EnvLe.nil _)))) (Hp.le_refl _)))) rfl (obs_seq obs_region rfl obs_ret))))))

-- abacistref02.Of
def W_abacistref02_Of (x1 : Int) (H : Hp) (K : Value → Hp → Prop) : Prop :=
  ((18446744069414584321 : Int) ≠ 0 ∧ IntKind.u64 = IntKind.u64 ∧ K (.int .u64 (Int.tmod x1 (18446744069414584321 : Int))) H)
def W_abacistref02_Of.Λ (_ : Value → Hp → Prop) : Cuts := Cuts.none (fun _ => none)
theorem W_abacistref02_Of.ok (x1 : Int) (H : Hp) (K : Value → Hp → Prop) (h : W_abacistref02_Of x1 H K) : HCalls Tryd.prog 112 #[.int .u64 x1] H K :=
  hcalls Tryd.func112 rfl (Nat.le_of_ble_eq_true rfl) (hw_safe (Λ := Cuts.none (fun _ => none)) mixWabacistref02 _ _ _ _ _ (Eq.mp (by kernel_rfl) h) (obs_none _ _ _ _ _))

-- abacistref02.Mul
def W_abacistref02_Mul.l3 (K : Value → Hp → Prop) : Nat → Int → Int → Int → Hp → Prop
  | 0, _, _, _, _ => False
  | k + 1, x4, x5, x6, H =>
    let R3 := W_abacistref02_Mul.l3 K k
    BIf (decide (x5 > (0 : Int))) (((2 : Int) ≠ 0 ∧ IntKind.u64 = IntKind.u64 ∧ BIf ((Int.tmod x5 (2 : Int)) == (1 : Int)) (HCalls Tryd.prog 148 #[.int .u64 x6, .int .u64 x4] H fun v2 H2 => DI .u64 v2 fun x7 => HCalls Tryd.prog 148 #[.int .u64 x4, .int .u64 x4] H2 fun v3 H3 => DI .u64 v3 fun x8 => ((2 : Int) ≠ 0 ∧ IntKind.u64 = IntKind.u64 ∧ R3 x8 (IntKind.u64.wrap (Int.tdiv x5 (2 : Int))) x7 H3)) (HCalls Tryd.prog 148 #[.int .u64 x4, .int .u64 x4] H fun v4 H4 => DI .u64 v4 fun x9 => ((2 : Int) ≠ 0 ∧ IntKind.u64 = IntKind.u64 ∧ R3 x9 (IntKind.u64.wrap (Int.tdiv x5 (2 : Int))) x6 H4)))) (K (.int .u64 x6) H)
def W_abacistref02_Mul (x1 : Int) (x2 : Int) (H : Hp) (K : Value → Hp → Prop) : Prop :=
  HCalls Tryd.prog 112 #[.int .u64 x1] H fun v1 H1 => DI .u64 v1 fun x3 => (∃ k, W_abacistref02_Mul.l3 K k x3 x2 (0 : Int) H1)
def W_abacistref02_Mul.l3.L (K : Value → Hp → Prop) (k : Nat) : Mid := fun E D H =>
  DG (E.get? 0) fun w0 => DI .u64 w0 fun x4 => DG (E.get? 1) fun w1 => DI .u64 w1 fun x5 => DG (E.get? 5) fun w5 => DI .u64 w5 fun x6 => DNilD D (W_abacistref02_Mul.l3 K k x4 x5 x6 H)
def W_abacistref02_Mul.Λ3 (_ : Value → Hp → Prop) (_R3 : Int → Int → Int → Hp → Prop) : Cuts := Cuts.none (fun _ => none)
def W_abacistref02_Mul.Λ (K : Value → Hp → Prop) : Cuts := ⟨fun i => none, fun i => match Nat.beq i 3 with | true => some (fun E D H => ∃ k, W_abacistref02_Mul.l3.L K k E D H) | false => none, (fun _ => none)⟩
theorem W_abacistref02_Mul.ok (x1 : Int) (x2 : Int) (H : Hp) (K : Value → Hp → Prop) (h : W_abacistref02_Mul x1 x2 H K) : HCalls Tryd.prog 113 #[.int .u64 x1, .int .u64 x2] H K :=
  hcalls Tryd.func113 rfl (Nat.le_of_ble_eq_true rfl) (hw_safe (Λ := (W_abacistref02_Mul.Λ K)) mixWabacistref02 _ _ _ _ _ (Eq.mp (by kernel_rfl) h) (obs_seq obs_region rfl (obs_seq obs_region rfl (obs_seq obs_region rfl (obs_seq (obs_block (obs_loop rfl (fun E D H h => by
      refine Safe.loop' (W_abacistref02_Mul.l3.L K) (fun E D H h => ?_) (fun k E D H h => ?_) E D H h
      · obtain ⟨w0, e0, g1⟩ := DG.out h; obtain ⟨x4, rfl, g2⟩ := DI.out g1; obtain ⟨w1, e1, g3⟩ := DG.out g2; obtain ⟨x5, rfl, g4⟩ := DI.out g3; obtain ⟨w5, e5, g5⟩ := DG.out g4; obtain ⟨x6, rfl, g6⟩ := DI.out g5; obtain ⟨rfl, h'⟩ := DNilD.out g6; exact h'
      · obtain ⟨w0, e0, g1⟩ := DG.out h
        obtain ⟨x4, rfl, g2⟩ := DI.out g1
        obtain ⟨w1, e1, g3⟩ := DG.out g2
        obtain ⟨x5, rfl, g4⟩ := DI.out g3
        obtain ⟨w5, e5, g5⟩ := DG.out g4
        obtain ⟨x6, rfl, g6⟩ := DI.out g5
        obtain ⟨rfl, h'⟩ := DNilD.out g6
        exact (hw_safe (Λ := (W_abacistref02_Mul.Λ3 K (W_abacistref02_Mul.l3 K k))) mixWabacistref02 _ _ [(0, .int .u64 x4), (1, .int .u64 x5), (5, .int .u64 x6)] [] H (Eq.mp (by kernel_rfl) h') (obs_seq (obs_seq obs_region rfl (obs_cond obs_skip obs_exit)) rfl (obs_block (obs_seq (obs_seq obs_region rfl (obs_cond obs_region obs_skip)) rfl (obs_seq obs_region rfl obs_region))))).weaken (EnvLe.cons e0 (EnvLe.cons e1 (EnvLe.cons e5 (EnvLe.nil _)))) (Hp.le_refl _)))) rfl (obs_seq obs_region rfl obs_ret))))))

-- abacistref02.Add
def W_abacistref02_Add (x1 : Int) (x2 : Int) (H : Hp) (K : Value → Hp → Prop) : Prop :=
  HCalls Tryd.prog 112 #[.int .u64 x1] H fun v1 H1 => DI .u64 v1 fun x3 => HCalls Tryd.prog 112 #[.int .u64 x2] H1 fun v2 H2 => DI .u64 v2 fun x4 => BIf (decide (x3 ≥ (IntKind.u64.wrap ((18446744069414584321 : Int) - x4)))) (K (.int .u64 (IntKind.u64.wrap (x3 - (IntKind.u64.wrap ((18446744069414584321 : Int) - x4))))) H2) (K (.int .u64 (IntKind.u64.wrap (x3 + x4))) H2)
def W_abacistref02_Add.Λ (_ : Value → Hp → Prop) : Cuts := Cuts.none (fun _ => none)
theorem W_abacistref02_Add.ok (x1 : Int) (x2 : Int) (H : Hp) (K : Value → Hp → Prop) (h : W_abacistref02_Add x1 x2 H K) : HCalls Tryd.prog 148 #[.int .u64 x1, .int .u64 x2] H K :=
  hcalls Tryd.func148 rfl (Nat.le_of_ble_eq_true rfl) (hw_safe (Λ := Cuts.none (fun _ => none)) mixWabacistref02 _ _ _ _ _ (Eq.mp (by kernel_rfl) h) (obs_none _ _ _ _ _))

end Go.Proofs.YtbnhfcdagoigkaaDoor.W

end
section
/-! GolA -/
/- gold: the field's words; the reference's. -/
set_option maxRecDepth 100000
set_option linter.unusedSimpArgs false
set_option linter.unusedVariables false
set_option linter.unnecessarySimpa false
set_option linter.unusedSectionVars false
namespace Go.Proofs.YtbnhfcdagoigkaaDoor.Gol
open Go Go.Hw Go.Proofs.YtbnhfcdagoigkaaDoor.W

theorem ExC_add64 (x y c : Nat) (hc : c ≤ 1) {H : Hp} {K : Value → Hp → Prop} (k : K (.tuple #[.int .u64 (((x + y + c) % 18446744073709551616 : Nat) : Int), .int .u64 (((x + y + c) / 18446744073709551616 : Nat) : Int)]) H) :
    ExC Tryd.prog 194 #[.int .u64 (x : Int), .int .u64 (y : Int), .int .u64 (c : Int)] H K := fun H0 w0 w hA => by
  refine ⟨.value _, H, w, ?_, k, hA⟩
  rw [run_callFunc_extern Tryd.func194 (by kernel_rfl) (by kernel_rfl) (by kernel_rfl) (e := add64Entry) (by kernel_rfl), run_add64 (x : Int) (y : Int) (c : Int) (by omega) (by omega) (by omega) (by omega)]
  simp only [Result.andThen]
  congr 5 <;> omega

theorem maskN {x : Nat} (hx : x < 2 ^ 64) : bAnd .u64 (x : Int) 4294967295 = ((x % 4294967296 : Nat) : Int) := by
  rw [show (4294967295 : Int) = ((4294967295 : Nat) : Int) from rfl, andN hx (by omega), show 4294967295 = 2 ^ 32 - 1 from rfl, Nat.and_two_pow_sub_one_eq_mod]
theorem shr32 {x : Nat} : shrI .u64 (x : Int) 32 = ((x / 4294967296 : Nat) : Int) := by
  rw [shrN (k := .u64) (a := x) (i := 32) (n := 32) rfl (by decide)]
theorem mulw {x y : Nat} (hx : x < 4294967296) (hy : y < 4294967296) : IntKind.u64.wrap ((x : Int) * (y : Int)) = ((x * y : Nat) : Int) := by
  have : x * y ≤ 4294967295 * 4294967295 := Nat.mul_le_mul (by omega) (by omega)
  rw [u64m, Nat.mod_eq_of_lt (by omega)]
theorem addw {x y : Nat} (h : x + y < 18446744073709551616) : IntKind.u64.wrap ((x : Int) + (y : Int)) = ((x + y : Nat) : Int) := by
  rw [u64a, Nat.mod_eq_of_lt (by omega)]

theorem Mul64_ok {a b : Nat} (ha : a < 2 ^ 64) (hb : b < 2 ^ 64) (H : Hp) : HCalls Tryd.prog 224 #[.int .u64 (a : Int), .int .u64 (b : Int)] H (RetE (.tuple #[.int .u64 ((a * b / 18446744073709551616 : Nat) : Int), .int .u64 ((a * b % 18446744073709551616 : Nat) : Int)]) H) := by
  apply W_math_bits_Mul64.ok
  unfold W_math_bits_Mul64
  refine ⟨by decide, by decide, by decide, by decide, by decide, ?_⟩
  rw [u64m a b, shr32 (x := a), shr32 (x := b), maskN ha, maskN hb]
  have ea : a = 4294967296 * (a / 4294967296) + a % 4294967296 := by omega
  have eb : b = 4294967296 * (b / 4294967296) + b % 4294967296 := by omega
  have h1 : a / 4294967296 < 4294967296 := by omega
  have h2 : b / 4294967296 < 4294967296 := by omega
  have h3 : a % 4294967296 < 4294967296 := by omega
  have h4 : b % 4294967296 < 4294967296 := by omega
  have hab : a * b = 18446744073709551616 * ((a / 4294967296) * (b / 4294967296)) + 4294967296 * ((a / 4294967296) * (b % 4294967296)) + 4294967296 * ((a % 4294967296) * (b / 4294967296)) + (a % 4294967296) * (b % 4294967296) := by
    conv => lhs; rw [ea, eb]
    rw [Nat.add_mul, Nat.mul_add, Nat.mul_add]
    rw [show 4294967296 * (a / 4294967296) * (4294967296 * (b / 4294967296)) = 18446744073709551616 * ((a / 4294967296) * (b / 4294967296)) by rw [Nat.mul_mul_mul_comm],
      show 4294967296 * (a / 4294967296) * (b % 4294967296) = 4294967296 * ((a / 4294967296) * (b % 4294967296)) by rw [Nat.mul_assoc],
      show a % 4294967296 * (4294967296 * (b / 4294967296)) = 4294967296 * ((a % 4294967296) * (b / 4294967296)) by rw [Nat.mul_left_comm]]
    omega
  rw [mulw h1 h2, mulw h1 h4, mulw h3 h4, mulw h3 h2]
  have k1 : (a / 4294967296) * (b / 4294967296) ≤ 4294967295 * 4294967295 := Nat.mul_le_mul (by omega) (by omega)
  have k2 : (a / 4294967296) * (b % 4294967296) ≤ 4294967295 * 4294967295 := Nat.mul_le_mul (by omega) (by omega)
  have k3 : (a % 4294967296) * (b / 4294967296) ≤ 4294967295 * 4294967295 := Nat.mul_le_mul (by omega) (by omega)
  have k4 : (a % 4294967296) * (b % 4294967296) ≤ 4294967295 * 4294967295 := Nat.mul_le_mul (by omega) (by omega)
  clear ea eb
  generalize (a / 4294967296) * (b / 4294967296) = p11 at *
  generalize (a / 4294967296) * (b % 4294967296) = p10 at *
  generalize (a % 4294967296) * (b / 4294967296) = p01 at *
  generalize (a % 4294967296) * (b % 4294967296) = p00 at *
  rw [shr32 (x := p00), addw (x := p10) (y := p00 / 4294967296) (by omega), maskN (by omega), addw (by omega), shr32, shr32, addw (by omega), addw (by omega)]
  refine ⟨?_, rfl⟩
  rw [hab]
  have : p11 + (p10 + p00 / 4294967296) / 4294967296 + ((p10 + p00 / 4294967296) % 4294967296 + p01) / 4294967296 = (18446744073709551616 * p11 + 4294967296 * p10 + 4294967296 * p01 + p00) / 18446744073709551616 := by omega
  rw [this]

theorem Of_ok {a : Nat} (ha : a < 2 ^ 64) (H : Hp) : HCalls Tryd.prog 180 #[.int .u64 (a : Int)] H (RetE (.int .u64 ((a % 18446744069414584321 : Nat) : Int)) H) := by
  apply W_gold_Of.ok
  unfold W_gold_Of
  by_cases h : a ≥ 18446744069414584321
  · refine BIf_dpos (by omega) ?_
    rw [u64w (by omega) (by omega)]
    refine ⟨?_, rfl⟩
    have : (a : Int) - 18446744069414584321 = ((a % 18446744069414584321 : Nat) : Int) := by omega
    rw [this]
  · refine BIf_dneg (by omega) ⟨?_, rfl⟩
    rw [Nat.mod_eq_of_lt (by omega)]

theorem Reduce_j5 {mid t : Nat} (hm : mid < 4294967296) (ht : t < 18446744073709551616) {H : Hp} {K : Value → Hp → Prop} (k : K (.int .u64 (((t + mid * 4294967295) % 18446744069414584321 : Nat) : Int)) H) : W_gold_Reduce.j5 K (mid : Int) (t : Int) H := by
  unfold W_gold_Reduce.j5
  have em : IntKind.u64.wrap ((mid : Int) * 4294967295) = ((mid * 4294967295 : Nat) : Int) := by
    rw [u64w (by omega) (by omega)]; omega
  rw [em]
  by_cases h : t + mid * 4294967295 < 18446744073709551616
  · rw [addw h]
    refine BIf_dneg (by omega) ?_
    refine HCalls.use (Of_ok (by omega) H) ?_
    simp only [DI_int', DB_bool, DS_string, DP_pointer, DSl_slice, DM_map, DA_agg, DTup_tuple, DCons_cons, DNil_nil, NN_some, BIf_true, BIf_false, BIf_same, List.toList_toArray, Bool.not_true, Bool.not_false]
    exact k
  · have e1 : IntKind.u64.wrap ((t : Int) + ((mid * 4294967295 : Nat) : Int)) = ((t + mid * 4294967295 - 18446744073709551616 : Nat) : Int) := by
      rw [u64a]; omega
    rw [e1]
    refine BIf_dpos (by omega) ?_
    rw [show (4294967295 : Int) = ((4294967295 : Nat) : Int) from rfl, addw (by omega)]
    refine HCalls.use (Of_ok (by omega) H) ?_
    simp only [DI_int', DB_bool, DS_string, DP_pointer, DSl_slice, DM_map, DA_agg, DTup_tuple, DCons_cons, DNil_nil, NN_some, BIf_true, BIf_false, BIf_same, List.toList_toArray, Bool.not_true, Bool.not_false]
    have : (t + mid * 4294967295 - 18446744073709551616 + 4294967295) % 18446744069414584321 = (t + mid * 4294967295) % 18446744069414584321 := by omega
    rw [this]
    exact k

theorem Reduce_ok {hi lo : Nat} (hh : hi < 2 ^ 64) (hl : lo < 2 ^ 64) (H : Hp) : HCalls Tryd.prog 211 #[.agg #[.int .u64 (hi : Int), .int .u64 (lo : Int)]] H (RetE (.int .u64 (((hi * 18446744073709551616 + lo) % 18446744069414584321 : Nat) : Int)) H) := HCalls.ret (by
  apply W_gold_Reduce.ok
  unfold W_gold_Reduce
  refine (Sep.start H).nw fun b1 H1 hs => ?_
  first | refine hs.ldf 1 rfl rfl ?_ | refine hs.ldg 1 rfl rfl ?_
  try simp only [DI_int', DB_bool, DS_string, DP_pointer, DSl_slice, DM_map, DA_agg, DTup_tuple, DCons_cons, DNil_nil, NN_some, BIf_true, BIf_false, BIf_same, List.toList_toArray, Bool.not_true, Bool.not_false]
  refine ⟨by decide, ?_⟩
  first | refine hs.ldf 1 rfl rfl ?_ | refine hs.ldg 1 rfl rfl ?_
  try simp only [DI_int', DB_bool, DS_string, DP_pointer, DSl_slice, DM_map, DA_agg, DTup_tuple, DCons_cons, DNil_nil, NN_some, BIf_true, BIf_false, BIf_same, List.toList_toArray, Bool.not_true, Bool.not_false]
  first | refine hs.ldf 1 rfl rfl ?_ | refine hs.ldg 1 rfl rfl ?_
  try simp only [DI_int', DB_bool, DS_string, DP_pointer, DSl_slice, DM_map, DA_agg, DTup_tuple, DCons_cons, DNil_nil, NN_some, BIf_true, BIf_false, BIf_same, List.toList_toArray, Bool.not_true, Bool.not_false]
  first | refine hs.ldf 1 rfl rfl ?_ | refine hs.ldg 1 rfl rfl ?_
  try simp only [DI_int', DB_bool, DS_string, DP_pointer, DSl_slice, DM_map, DA_agg, DTup_tuple, DCons_cons, DNil_nil, NN_some, BIf_true, BIf_false, BIf_same, List.toList_toArray, Bool.not_true, Bool.not_false]
  rw [shr32, maskN hh]
  by_cases h : lo < hi / 4294967296
  · refine BIf_dpos (by omega) ?_
    have e1 : IntKind.u64.wrap (IntKind.u64.wrap ((lo : Int) - ((hi / 4294967296 : Nat) : Int)) - 4294967295) = ((lo + 18446744069414584321 - hi / 4294967296 : Nat) : Int) := by
      rw [u64mod, u64mod]; omega
    rw [e1]
    refine Reduce_j5 (by omega) (by omega) ?_
    have : (lo + 18446744069414584321 - hi / 4294967296 + hi % 4294967296 * 4294967295) % 18446744069414584321 = (hi * 18446744073709551616 + lo) % 18446744069414584321 := by omega
    rw [this]
    exact hs.fin 0 rfl _
  · refine BIf_dneg (by omega) ?_
    have e1 : IntKind.u64.wrap ((lo : Int) - ((hi / 4294967296 : Nat) : Int)) = ((lo - hi / 4294967296 : Nat) : Int) := by
      rw [u64mod]; omega
    rw [e1]
    refine Reduce_j5 (by omega) (by omega) ?_
    have : (lo - hi / 4294967296 + hi % 4294967296 * 4294967295) % 18446744069414584321 = (hi * 18446744073709551616 + lo) % 18446744069414584321 := by omega
    rw [this]
    exact hs.fin 0 rfl _)

theorem wMul_ok {a b : Nat} (ha : a < 2 ^ 64) (hb : b < 2 ^ 64) (H : Hp) : HCalls Tryd.prog 212 #[.int .u64 (a : Int), .int .u64 (b : Int)] H (RetE (.agg #[.int .u64 ((a * b / 18446744073709551616 : Nat) : Int), .int .u64 ((a * b % 18446744073709551616 : Nat) : Int)]) H) := HCalls.ret (by
  apply W_wide_Mul.ok
  unfold W_wide_Mul
  refine (Sep.start H).nw fun b1 H1 hs => ?_
  refine HCalls.use (Mul64_ok ha hb H1) ?_
  simp only [DI_int', DB_bool, DS_string, DP_pointer, DSl_slice, DM_map, DA_agg, DTup_tuple, DCons_cons, DNil_nil, NN_some, BIf_true, BIf_false, BIf_same, List.toList_toArray, Bool.not_true, Bool.not_false]
  refine hs.stw 1 rfl rfl rfl rfl fun H1 hs => ?_
  refine hs.ldw 1 rfl rfl ?_
  exact hs.fin 0 rfl _)

theorem Mul_ok {a b : Nat} (ha : a < 2 ^ 64) (hb : b < 2 ^ 64) (H : Hp) : HCalls Tryd.prog 179 #[.int .u64 (a : Int), .int .u64 (b : Int)] H (RetE (.int .u64 ((a * b % 18446744069414584321 : Nat) : Int)) H) := by
  apply W_gold_Mul.ok
  unfold W_gold_Mul
  refine HCalls.use (wMul_ok ha hb H) ?_
  simp only [DI_int', DB_bool, DS_string, DP_pointer, DSl_slice, DM_map, DA_agg, DTup_tuple, DCons_cons, DNil_nil, NN_some, BIf_true, BIf_false, BIf_same, List.toList_toArray, Bool.not_true, Bool.not_false]
  have hab : a * b ≤ 18446744073709551615 * 18446744073709551615 := Nat.mul_le_mul (by omega) (by omega)
  generalize a * b = n at *
  refine HCalls.use (Reduce_ok (hi := n / 18446744073709551616) (lo := n % 18446744073709551616) (by omega) (by omega) H) ?_
  simp only [DI_int', DB_bool, DS_string, DP_pointer, DSl_slice, DM_map, DA_agg, DTup_tuple, DCons_cons, DNil_nil, NN_some, BIf_true, BIf_false, BIf_same, List.toList_toArray, Bool.not_true, Bool.not_false]
  have : n / 18446744073709551616 * 18446744073709551616 + n % 18446744073709551616 = n := by omega
  rw [this]
  exact RetE.mk _ _

/-- Low words are added. -/
theorem wAdd_ok {a b : Nat} (ha : a < 2 ^ 64) (hb : b < 2 ^ 64) (H : Hp) : HCalls Tryd.prog 158 #[.agg #[.int .u64 0, .int .u64 (a : Int)], .agg #[.int .u64 0, .int .u64 (b : Int)]] H (RetE (.tuple #[.agg #[.int .u64 (((a + b) / 18446744073709551616 : Nat) : Int), .int .u64 (((a + b) % 18446744073709551616 : Nat) : Int)], .int .u64 0]) H) := HCalls.ret (by
  apply W_wide_Add.ok
  unfold W_wide_Add
  refine (Sep.start H).nw fun b1 H1 hs => ?_
  refine hs.nw fun b2 H1 hs => ?_
  refine hs.nw fun b3 H1 hs => ?_
  first | refine hs.ldf 1 rfl rfl ?_ | refine hs.ldg 1 rfl rfl ?_
  try simp only [DI_int', DB_bool, DS_string, DP_pointer, DSl_slice, DM_map, DA_agg, DTup_tuple, DCons_cons, DNil_nil, NN_some, BIf_true, BIf_false, BIf_same, List.toList_toArray, Bool.not_true, Bool.not_false]
  first | refine hs.ldf 2 rfl rfl ?_ | refine hs.ldg 2 rfl rfl ?_
  try simp only [DI_int', DB_bool, DS_string, DP_pointer, DSl_slice, DM_map, DA_agg, DTup_tuple, DCons_cons, DNil_nil, NN_some, BIf_true, BIf_false, BIf_same, List.toList_toArray, Bool.not_true, Bool.not_false]
  refine ExC_add64 a b 0 (by omega) ?_
  simp only [DI_int', DB_bool, DS_string, DP_pointer, DSl_slice, DM_map, DA_agg, DTup_tuple, DCons_cons, DNil_nil, NN_some, BIf_true, BIf_false, BIf_same, List.toList_toArray, Bool.not_true, Bool.not_false]
  refine hs.stf 3 rfl (Nat.lt_of_sub_eq_succ rfl) rfl fun H1 hs => ?_
  first | refine hs.ldf 1 rfl rfl ?_ | refine hs.ldg 1 rfl rfl ?_
  try simp only [DI_int', DB_bool, DS_string, DP_pointer, DSl_slice, DM_map, DA_agg, DTup_tuple, DCons_cons, DNil_nil, NN_some, BIf_true, BIf_false, BIf_same, List.toList_toArray, Bool.not_true, Bool.not_false]
  first | refine hs.ldf 2 rfl rfl ?_ | refine hs.ldg 2 rfl rfl ?_
  try simp only [DI_int', DB_bool, DS_string, DP_pointer, DSl_slice, DM_map, DA_agg, DTup_tuple, DCons_cons, DNil_nil, NN_some, BIf_true, BIf_false, BIf_same, List.toList_toArray, Bool.not_true, Bool.not_false]
  refine ExC_add64 0 0 ((a + b + 0) / 18446744073709551616) (by omega) ?_
  simp only [DI_int', DB_bool, DS_string, DP_pointer, DSl_slice, DM_map, DA_agg, DTup_tuple, DCons_cons, DNil_nil, NN_some, BIf_true, BIf_false, BIf_same, List.toList_toArray, Bool.not_true, Bool.not_false]
  refine hs.stf 3 rfl (Nat.lt_of_sub_eq_succ rfl) rfl fun H1 hs => ?_
  refine hs.ldw 3 rfl rfl ?_
  refine hs.stw 3 rfl rfl rfl rfl fun H1 hs => ?_
  refine hs.ldw 3 rfl rfl ?_
  have e1 : (0 + 0 + (a + b + 0) / 18446744073709551616) % 18446744073709551616 = (a + b) / 18446744073709551616 := by omega
  have e2 : (0 + 0 + (a + b + 0) / 18446744073709551616) / 18446744073709551616 = 0 := by omega
  rw [e2]
  have hv : Ret (.tuple #[.agg #[.int .u64 (((0 + 0 + (a + b + 0) / 18446744073709551616) % 18446744073709551616 : Nat) : Int), .int .u64 (((a + b + 0) % 18446744073709551616 : Nat) : Int)], .int .u64 ((0 : Nat) : Int)]) H (.tuple #[.agg #[.int .u64 (((0 + 0 + (a + b + 0) / 18446744073709551616) % 18446744073709551616 : Nat) : Int), .int .u64 (((a + b + 0) % 18446744073709551616 : Nat) : Int)], .int .u64 ((0 : Nat) : Int)]) H1 := hs.fin 0 rfl _
  rw [e1] at hv
  rw [e1]
  exact hv)

theorem Add_ok {a b : Nat} (ha : a < 2 ^ 64) (hb : b < 2 ^ 64) (H : Hp) : HCalls Tryd.prog 198 #[.int .u64 (a : Int), .int .u64 (b : Int)] H (RetE (.int .u64 (((a + b) % 18446744069414584321 : Nat) : Int)) H) := HCalls.ret (by
  apply W_gold_Add.ok
  unfold W_gold_Add
  have hs := Sep.start H
  refine HCalls.use (Of_ok ha H) ?_
  simp only [DI_int', DB_bool, DS_string, DP_pointer, DSl_slice, DM_map, DA_agg, DTup_tuple, DCons_cons, DNil_nil, NN_some, BIf_true, BIf_false, BIf_same, List.toList_toArray, Bool.not_true, Bool.not_false]
  refine HCalls.use (Of_ok hb H) ?_
  simp only [DI_int', DB_bool, DS_string, DP_pointer, DSl_slice, DM_map, DA_agg, DTup_tuple, DCons_cons, DNil_nil, NN_some, BIf_true, BIf_false, BIf_same, List.toList_toArray, Bool.not_true, Bool.not_false]
  refine HCalls.use (wAdd_ok (a := a % 18446744069414584321) (b := b % 18446744069414584321) (by omega) (by omega) H) ?_
  simp only [DI_int', DB_bool, DS_string, DP_pointer, DSl_slice, DM_map, DA_agg, DTup_tuple, DCons_cons, DNil_nil, NN_some, BIf_true, BIf_false, BIf_same, List.toList_toArray, Bool.not_true, Bool.not_false]
  refine hs.nw fun b1 H1 hs => ?_
  refine hs.stw 1 rfl rfl rfl rfl fun H1 hs => ?_
  refine hs.ldw 1 rfl rfl ?_
  refine HCalls.use (Reduce_ok (hi := (a % 18446744069414584321 + b % 18446744069414584321) / 18446744073709551616) (lo := (a % 18446744069414584321 + b % 18446744069414584321) % 18446744073709551616) (by omega) (by omega) H1) ?_
  simp only [DI_int', DB_bool, DS_string, DP_pointer, DSl_slice, DM_map, DA_agg, DTup_tuple, DCons_cons, DNil_nil, NN_some, BIf_true, BIf_false, BIf_same, List.toList_toArray, Bool.not_true, Bool.not_false]
  have : ((a % 18446744069414584321 + b % 18446744069414584321) / 18446744073709551616 * 18446744073709551616 + (a % 18446744069414584321 + b % 18446744069414584321) % 18446744073709551616) % 18446744069414584321 = (a + b) % 18446744069414584321 := by omega
  rw [this]
  exact hs.fin 0 rfl _)

end Go.Proofs.YtbnhfcdagoigkaaDoor.Gol

end
section
/-! GolB -/
/- gold: Pow, Neg, Sub, Inv, Div; the reference's Of, Add, Mul, Pow. -/
set_option maxRecDepth 100000
set_option linter.unusedSimpArgs false
set_option linter.unusedVariables false
set_option linter.unnecessarySimpa false
set_option linter.unusedSectionVars false
namespace Go.Proofs.YtbnhfcdagoigkaaDoor.Gol
open Go Go.Hw Go.Proofs.YtbnhfcdagoigkaaDoor.W

theorem mod_add_mul (p x y q : Nat) : (x % p + y % p * q) % p = (x + y * q) % p := by
  rw [Nat.add_mod, Nat.mod_mod, Nat.mul_mod, Nat.mod_mod, ← Nat.mul_mod, ← Nat.add_mod]
theorem mod_mul_pow (p x y q : Nat) : x % p * (y % p) ^ q % p = x * y ^ q % p := by
  rw [Nat.mul_mod, Nat.mod_mod, ← Nat.pow_mod, ← Nat.mul_mod]
theorem mod_mul_pow' (p x y q : Nat) : x * (y % p) ^ q % p = x * y ^ q % p := by
  rw [Nat.mul_mod, ← Nat.pow_mod, ← Nat.mul_mod]
theorem mod_mul_r (p x y : Nat) : x * (y % p) % p = x * y % p := by rw [Nat.mul_mod, Nat.mod_mod, ← Nat.mul_mod]
theorem mod_mul_l (p x y : Nat) : x % p * y % p = x * y % p := by rw [Nat.mul_mod, Nat.mod_mod, ← Nat.mul_mod]

theorem Pow_loop (H : Hp) : ∀ (f n out base : Nat), n < 2 ^ f → f ≤ 64 → out < 18446744069414584321 → base < 18446744069414584321 → W_gold_Pow.l2 (RetE (.int .u64 ((out * base ^ n % 18446744069414584321 : Nat) : Int)) H) (f + 1) (n : Int) (out : Int) (base : Int) H := fun f => by
  generalize hp : 18446744069414584321 = p
  induction f with
  | zero =>
    intro n out base hn hf ho hb
    obtain rfl : n = 0 := by omega
    unfold W_gold_Pow.l2
    refine BIf_dneg (by omega) ?_
    rw [Nat.pow_zero, Nat.mul_one, Nat.mod_eq_of_lt ho]
    exact RetE.mk _ _
  | succ f ih =>
    intro n out base hn hf ho hb
    have hp0 : 0 < p := by omega
    have h64 : 2 ^ (f + 1) ≤ 2 ^ 64 := Nat.pow_le_pow_right (by omega) hf
    have hs : 2 ^ (f + 1) = 2 * 2 ^ f := by rw [Nat.pow_succ]; omega
    have hn2 : n / 2 < 2 ^ f := by omega
    unfold W_gold_Pow.l2
    by_cases h0 : n = 0
    · subst h0
      refine BIf_dneg (by omega) ?_
      rw [Nat.pow_zero, Nat.mul_one, Nat.mod_eq_of_lt ho]
      exact RetE.mk _ _
    refine BIf_dpos (by omega) ?_
    have hand : bAnd .u64 (n : Int) 1 = ((n % 2 : Nat) : Int) := by
      rw [show (1 : Int) = ((1 : Nat) : Int) from rfl, andN (by omega) (by omega), Nat.and_one_is_mod]
    have hshr : shrI .u64 (n : Int) 1 = ((n / 2 : Nat) : Int) := by
      rw [shrN (k := .u64) (a := n) (i := 1) (n := 1) rfl (by decide)]
    rw [hand, hshr]
    have hq := Nat.mod_lt (base * base) hp0
    have hq2 := Nat.mod_lt (out * base) hp0
    by_cases h1 : n % 2 = 1
    · refine BIf_beqp (by omega) ?_
      refine HCalls.use (Mul_ok (a := out) (b := base) (by omega) (by omega) H) ?_
      rw [hp]
      simp only [DI_int', DB_bool, DS_string, DP_pointer, DSl_slice, DM_map, DA_agg, DTup_tuple, DCons_cons, DNil_nil, NN_some, BIf_true, BIf_false, BIf_same, List.toList_toArray, Bool.not_true, Bool.not_false]
      refine HCalls.use (Mul_ok (a := base) (b := base) (by omega) (by omega) H) ?_
      rw [hp]
      simp only [DI_int', DB_bool, DS_string, DP_pointer, DSl_slice, DM_map, DA_agg, DTup_tuple, DCons_cons, DNil_nil, NN_some, BIf_true, BIf_false, BIf_same, List.toList_toArray, Bool.not_true, Bool.not_false]
      refine ⟨by decide, ?_⟩
      have := ih (n / 2) (out * base % p) (base * base % p) hn2 (by omega) hq2 hq
      rw [mod_mul_pow, show out * base * (base * base) ^ (n / 2) = out * base ^ n by
        rw [← Nat.pow_two, ← Nat.pow_mul, Nat.mul_assoc, ← Nat.pow_succ', Nat.succ_eq_add_one, show 2 * (n / 2) + 1 = n by omega]] at this
      exact this
    · refine BIf_beqn (by omega) ?_
      refine HCalls.use (Mul_ok (a := base) (b := base) (by omega) (by omega) H) ?_
      rw [hp]
      simp only [DI_int', DB_bool, DS_string, DP_pointer, DSl_slice, DM_map, DA_agg, DTup_tuple, DCons_cons, DNil_nil, NN_some, BIf_true, BIf_false, BIf_same, List.toList_toArray, Bool.not_true, Bool.not_false]
      refine ⟨by decide, ?_⟩
      have := ih (n / 2) out (base * base % p) hn2 (by omega) ho hq
      rw [mod_mul_pow', show out * (base * base) ^ (n / 2) = out * base ^ n by
        rw [← Nat.pow_two, ← Nat.pow_mul, show 2 * (n / 2) = n by omega]] at this
      exact this

theorem Pow_ok {a n : Nat} (ha : a < 2 ^ 64) (hn : n < 2 ^ 64) (H : Hp) : HCalls Tryd.prog 181 #[.int .u64 (a : Int), .int .u64 (n : Int)] H (RetE (.int .u64 ((a ^ n % 18446744069414584321 : Nat) : Int)) H) := by
  apply W_gold_Pow.ok
  unfold W_gold_Pow
  refine HCalls.use (Of_ok ha H) ?_
  simp only [DI_int', DB_bool, DS_string, DP_pointer, DSl_slice, DM_map, DA_agg, DTup_tuple, DCons_cons, DNil_nil, NN_some, BIf_true, BIf_false, BIf_same, List.toList_toArray, Bool.not_true, Bool.not_false]
  refine ⟨65, ?_⟩
  have := Pow_loop H 64 n 1 (a % 18446744069414584321) hn (by omega) (by omega) (by omega)
  rw [Nat.one_mul, ← Nat.pow_mod] at this
  exact this

def neg (a : Nat) : Nat := (18446744069414584321 - a % 18446744069414584321) % 18446744069414584321
theorem Neg_ok {a : Nat} (ha : a < 2 ^ 64) (H : Hp) : HCalls Tryd.prog 229 #[.int .u64 (a : Int)] H (RetE (.int .u64 ((neg a : Nat) : Int)) H) := by
  apply W_gold_Neg.ok
  unfold W_gold_Neg neg
  refine HCalls.use (Of_ok ha H) ?_
  simp only [DI_int', DB_bool, DS_string, DP_pointer, DSl_slice, DM_map, DA_agg, DTup_tuple, DCons_cons, DNil_nil, NN_some, BIf_true, BIf_false, BIf_same, List.toList_toArray, Bool.not_true, Bool.not_false]
  by_cases h : a % 18446744069414584321 = 0
  · rw [h]
    exact BIf_beqp rfl (RetE.mk _ _)
  · refine BIf_beqn (by omega) ?_
    rw [u64w (by omega) (by omega)]
    have : (18446744069414584321 : Int) - ((a % 18446744069414584321 : Nat) : Int) = (((18446744069414584321 - a % 18446744069414584321) % 18446744069414584321 : Nat) : Int) := by omega
    rw [this]
    exact RetE.mk _ _

def sub (a b : Nat) : Nat := (a + neg b) % 18446744069414584321
theorem Sub_ok {a b : Nat} (ha : a < 2 ^ 64) (hb : b < 2 ^ 64) (H : Hp) : HCalls Tryd.prog 226 #[.int .u64 (a : Int), .int .u64 (b : Int)] H (RetE (.int .u64 ((sub a b : Nat) : Int)) H) := by
  apply W_gold_Sub.ok
  unfold W_gold_Sub
  refine HCalls.use (Neg_ok hb H) ?_
  simp only [DI_int', DB_bool, DS_string, DP_pointer, DSl_slice, DM_map, DA_agg, DTup_tuple, DCons_cons, DNil_nil, NN_some, BIf_true, BIf_false, BIf_same, List.toList_toArray, Bool.not_true, Bool.not_false]
  refine HCalls.use (Add_ok (a := a) (b := neg b) ha (by unfold neg; omega) H) ?_
  simp only [DI_int', DB_bool, DS_string, DP_pointer, DSl_slice, DM_map, DA_agg, DTup_tuple, DCons_cons, DNil_nil, NN_some, BIf_true, BIf_false, BIf_same, List.toList_toArray, Bool.not_true, Bool.not_false]
  exact RetE.mk _ _

/-- The inverse. -/
def eInv : Nat := 18446744069414584319
def ginv (a : Nat) : Nat := a ^ eInv % 18446744069414584321
theorem ginv_lt (a : Nat) : ginv a < 18446744069414584321 := by
  unfold ginv
  generalize a ^ eInv = z
  omega
theorem inv_pow {a : Nat} (ha : a < 2 ^ 64) (e : Nat) (he : e = 18446744069414584319) (H : Hp) : HCalls Tryd.prog 181 #[.int .u64 (a : Int), .int .u64 (e : Int)] H (RetE (.int .u64 ((a ^ e % 18446744069414584321 : Nat) : Int)) H) := Pow_ok ha (by omega) H
theorem Inv_ok {a : Nat} (ha : a < 2 ^ 64) (h0 : a % 18446744069414584321 ≠ 0) (H : Hp) : HCalls Tryd.prog 143 #[.int .u64 (a : Int)] H (RetE (.tuple #[.int .u64 ((ginv a : Nat) : Int), .int .i64 0]) H) := by
  apply W_gold_Inv.ok
  unfold W_gold_Inv
  refine HCalls.use (Of_ok ha H) ?_
  simp only [DI_int', DB_bool, DS_string, DP_pointer, DSl_slice, DM_map, DA_agg, DTup_tuple, DCons_cons, DNil_nil, NN_some, BIf_true, BIf_false, BIf_same, List.toList_toArray, Bool.not_true, Bool.not_false]
  refine BIf_beqn (by omega) ?_
  have hP : HCalls Tryd.prog 181 #[.int .u64 (a : Int), .int .u64 18446744069414584319] H (RetE (.int .u64 ((ginv a : Nat) : Int)) H) := by
    have h := inv_pow ha eInv rfl H
    unfold ginv
    rw [show (18446744069414584319 : Int) = ((eInv : Nat) : Int) from rfl]
    exact h
  refine HCalls.use hP ?_
  simp only [DI_int', DB_bool, DS_string, DP_pointer, DSl_slice, DM_map, DA_agg, DTup_tuple, DCons_cons, DNil_nil, NN_some, BIf_true, BIf_false, BIf_same, List.toList_toArray, Bool.not_true, Bool.not_false]
  exact RetE.mk _ _
theorem Inv_no {a : Nat} (ha : a < 2 ^ 64) (h0 : a % 18446744069414584321 = 0) (H : Hp) : HCalls Tryd.prog 143 #[.int .u64 (a : Int)] H (RetE (.tuple #[.int .u64 0, .int .i64 13]) H) := by
  apply W_gold_Inv.ok
  unfold W_gold_Inv
  refine HCalls.use (Of_ok ha H) ?_
  simp only [DI_int', DB_bool, DS_string, DP_pointer, DSl_slice, DM_map, DA_agg, DTup_tuple, DCons_cons, DNil_nil, NN_some, BIf_true, BIf_false, BIf_same, List.toList_toArray, Bool.not_true, Bool.not_false]
  exact BIf_beqp (by omega) (RetE.mk _ _)

/-! ## The reference -/

theorem rOf_ok {a : Nat} (H : Hp) : HCalls Tryd.prog 112 #[.int .u64 (a : Int)] H (RetE (.int .u64 ((a % 18446744069414584321 : Nat) : Int)) H) := by
  apply W_abacistref02_Of.ok
  unfold W_abacistref02_Of
  exact ⟨by decide, by simp, RetE.mk _ _⟩

theorem rAdd_ok {a b : Nat} (H : Hp) : HCalls Tryd.prog 148 #[.int .u64 (a : Int), .int .u64 (b : Int)] H (RetE (.int .u64 (((a + b) % 18446744069414584321 : Nat) : Int)) H) := by
  apply W_abacistref02_Add.ok
  unfold W_abacistref02_Add
  refine HCalls.use (rOf_ok (a := a) H) ?_
  simp only [DI_int', DB_bool, DS_string, DP_pointer, DSl_slice, DM_map, DA_agg, DTup_tuple, DCons_cons, DNil_nil, NN_some, BIf_true, BIf_false, BIf_same, List.toList_toArray, Bool.not_true, Bool.not_false]
  refine HCalls.use (rOf_ok (a := b) H) ?_
  simp only [DI_int', DB_bool, DS_string, DP_pointer, DSl_slice, DM_map, DA_agg, DTup_tuple, DCons_cons, DNil_nil, NN_some, BIf_true, BIf_false, BIf_same, List.toList_toArray, Bool.not_true, Bool.not_false]
  rw [u64w (x := 18446744069414584321 - ((b % 18446744069414584321 : Nat) : Int)) (by omega) (by omega)]
  by_cases h : ((a % 18446744069414584321 : Nat) : Int) ≥ 18446744069414584321 - ((b % 18446744069414584321 : Nat) : Int)
  · refine BIf_dpos h ?_
    rw [u64w (by omega) (by omega)]
    have : ((a % 18446744069414584321 : Nat) : Int) - (18446744069414584321 - ((b % 18446744069414584321 : Nat) : Int)) = (((a + b) % 18446744069414584321 : Nat) : Int) := by omega
    rw [this]
    exact RetE.mk _ _
  · refine BIf_dneg h ?_
    rw [u64w (by omega) (by omega)]
    have : ((a % 18446744069414584321 : Nat) : Int) + ((b % 18446744069414584321 : Nat) : Int) = (((a + b) % 18446744069414584321 : Nat) : Int) := by omega
    rw [this]
    exact RetE.mk _ _

theorem rMul_loop (H : Hp) : ∀ (f n out base : Nat), n < 2 ^ f → f ≤ 64 → out < 18446744069414584321 → W_abacistref02_Mul.l3 (RetE (.int .u64 (((out + base * n) % 18446744069414584321 : Nat) : Int)) H) (f + 1) (base : Int) (n : Int) (out : Int) H := fun f => by
  generalize hp : 18446744069414584321 = p
  induction f with
  | zero =>
    intro n out base hn hf ho
    obtain rfl : n = 0 := by omega
    unfold W_abacistref02_Mul.l3
    refine BIf_dneg (by omega) ?_
    rw [Nat.mul_zero, Nat.add_zero, Nat.mod_eq_of_lt ho]
    exact RetE.mk _ _
  | succ f ih =>
    intro n out base hn hf ho
    have hp0 : 0 < p := by omega
    have h64 : 2 ^ (f + 1) ≤ 2 ^ 64 := Nat.pow_le_pow_right (by omega) hf
    have hs : 2 ^ (f + 1) = 2 * 2 ^ f := by rw [Nat.pow_succ]; omega
    have hn2 : n / 2 < 2 ^ f := by omega
    unfold W_abacistref02_Mul.l3
    by_cases h0 : n = 0
    · subst h0
      refine BIf_dneg (by omega) ?_
      rw [Nat.mul_zero, Nat.add_zero, Nat.mod_eq_of_lt ho]
      exact RetE.mk _ _
    refine BIf_dpos (by omega) ⟨by decide, by simp, ?_⟩
    have hm : Int.tmod (n : Int) 2 = ((n % 2 : Nat) : Int) := rfl
    have hd : IntKind.u64.wrap (Int.tdiv (n : Int) 2) = ((n / 2 : Nat) : Int) := by
      rw [show Int.tdiv (n : Int) 2 = ((n / 2 : Nat) : Int) from rfl, u64n (by omega)]
    rw [hm, hd]
    have hq2 := Nat.mod_lt (out + base) hp0
    by_cases h1 : n % 2 = 1
    · refine BIf_beqp (by omega) ?_
      refine HCalls.use (rAdd_ok (a := out) (b := base) H) ?_
      rw [hp]
      simp only [DI_int', DB_bool, DS_string, DP_pointer, DSl_slice, DM_map, DA_agg, DTup_tuple, DCons_cons, DNil_nil, NN_some, BIf_true, BIf_false, BIf_same, List.toList_toArray, Bool.not_true, Bool.not_false]
      refine HCalls.use (rAdd_ok (a := base) (b := base) H) ?_
      rw [hp]
      simp only [DI_int', DB_bool, DS_string, DP_pointer, DSl_slice, DM_map, DA_agg, DTup_tuple, DCons_cons, DNil_nil, NN_some, BIf_true, BIf_false, BIf_same, List.toList_toArray, Bool.not_true, Bool.not_false]
      refine ⟨by decide, by simp, ?_⟩
      have := ih (n / 2) ((out + base) % p) ((base + base) % p) hn2 (by omega) hq2
      rw [mod_add_mul, show out + base + (base + base) * (n / 2) = out + base * n by
        rw [← Nat.two_mul, Nat.mul_comm 2, Nat.mul_assoc, Nat.add_assoc, Nat.add_comm base, ← Nat.mul_succ, Nat.succ_eq_add_one, show 2 * (n / 2) + 1 = n by omega]] at this
      exact this
    · refine BIf_beqn (by omega) ?_
      refine HCalls.use (rAdd_ok (a := base) (b := base) H) ?_
      rw [hp]
      simp only [DI_int', DB_bool, DS_string, DP_pointer, DSl_slice, DM_map, DA_agg, DTup_tuple, DCons_cons, DNil_nil, NN_some, BIf_true, BIf_false, BIf_same, List.toList_toArray, Bool.not_true, Bool.not_false]
      refine ⟨by decide, by simp, ?_⟩
      have := ih (n / 2) out ((base + base) % p) hn2 (by omega) ho
      have e := mod_add_mul p out (base + base) (n / 2)
      rw [Nat.mod_eq_of_lt ho] at e
      rw [e, show out + (base + base) * (n / 2) = out + base * n by
        rw [← Nat.two_mul, Nat.mul_comm 2, Nat.mul_assoc, show 2 * (n / 2) = n by omega]] at this
      exact this

theorem rMul_ok {a b : Nat} (hb : b < 2 ^ 64) (H : Hp) : HCalls Tryd.prog 113 #[.int .u64 (a : Int), .int .u64 (b : Int)] H (RetE (.int .u64 ((a * b % 18446744069414584321 : Nat) : Int)) H) := by
  apply W_abacistref02_Mul.ok
  unfold W_abacistref02_Mul
  refine HCalls.use (rOf_ok (a := a) H) ?_
  simp only [DI_int', DB_bool, DS_string, DP_pointer, DSl_slice, DM_map, DA_agg, DTup_tuple, DCons_cons, DNil_nil, NN_some, BIf_true, BIf_false, BIf_same, List.toList_toArray, Bool.not_true, Bool.not_false]
  refine ⟨65, ?_⟩
  have := rMul_loop H 64 b 0 (a % 18446744069414584321) hb (by omega) (by omega)
  rw [Nat.zero_add, mod_mul_l] at this
  exact this

theorem rPow_loop (H : Hp) : ∀ (f n out base : Nat), n < 2 ^ f → f ≤ 64 → out < 18446744069414584321 → base < 18446744069414584321 → W_abacistref02_Pow.l3 (RetE (.int .u64 ((out * base ^ n % 18446744069414584321 : Nat) : Int)) H) (f + 1) (base : Int) (n : Int) (out : Int) H := fun f => by
  generalize hp : 18446744069414584321 = p
  induction f with
  | zero =>
    intro n out base hn hf ho hb
    obtain rfl : n = 0 := by omega
    unfold W_abacistref02_Pow.l3
    refine BIf_dneg (by omega) ?_
    rw [Nat.pow_zero, Nat.mul_one, Nat.mod_eq_of_lt ho]
    exact RetE.mk _ _
  | succ f ih =>
    intro n out base hn hf ho hb
    have hp0 : 0 < p := by omega
    have h64 : 2 ^ (f + 1) ≤ 2 ^ 64 := Nat.pow_le_pow_right (by omega) hf
    have hs : 2 ^ (f + 1) = 2 * 2 ^ f := by rw [Nat.pow_succ]; omega
    have hn2 : n / 2 < 2 ^ f := by omega
    unfold W_abacistref02_Pow.l3
    by_cases h0 : n = 0
    · subst h0
      refine BIf_dneg (by omega) ?_
      rw [Nat.pow_zero, Nat.mul_one, Nat.mod_eq_of_lt ho]
      exact RetE.mk _ _
    refine BIf_dpos (by omega) ⟨by decide, by simp, ?_⟩
    have hm : Int.tmod (n : Int) 2 = ((n % 2 : Nat) : Int) := rfl
    have hd : IntKind.u64.wrap (Int.tdiv (n : Int) 2) = ((n / 2 : Nat) : Int) := by
      rw [show Int.tdiv (n : Int) 2 = ((n / 2 : Nat) : Int) from rfl, u64n (by omega)]
    rw [hm, hd]
    have hq := Nat.mod_lt (base * base) hp0
    have hq2 := Nat.mod_lt (out * base) hp0
    by_cases h1 : n % 2 = 1
    · refine BIf_beqp (by omega) ?_
      refine HCalls.use (rMul_ok (a := out) (b := base) (by omega) H) ?_
      rw [hp]
      simp only [DI_int', DB_bool, DS_string, DP_pointer, DSl_slice, DM_map, DA_agg, DTup_tuple, DCons_cons, DNil_nil, NN_some, BIf_true, BIf_false, BIf_same, List.toList_toArray, Bool.not_true, Bool.not_false]
      refine HCalls.use (rMul_ok (a := base) (b := base) (by omega) H) ?_
      rw [hp]
      simp only [DI_int', DB_bool, DS_string, DP_pointer, DSl_slice, DM_map, DA_agg, DTup_tuple, DCons_cons, DNil_nil, NN_some, BIf_true, BIf_false, BIf_same, List.toList_toArray, Bool.not_true, Bool.not_false]
      refine ⟨by decide, by simp, ?_⟩
      have := ih (n / 2) (out * base % p) (base * base % p) hn2 (by omega) hq2 hq
      rw [mod_mul_pow, show out * base * (base * base) ^ (n / 2) = out * base ^ n by
        rw [← Nat.pow_two, ← Nat.pow_mul, Nat.mul_assoc, ← Nat.pow_succ', Nat.succ_eq_add_one, show 2 * (n / 2) + 1 = n by omega]] at this
      exact this
    · refine BIf_beqn (by omega) ?_
      refine HCalls.use (rMul_ok (a := base) (b := base) (by omega) H) ?_
      rw [hp]
      simp only [DI_int', DB_bool, DS_string, DP_pointer, DSl_slice, DM_map, DA_agg, DTup_tuple, DCons_cons, DNil_nil, NN_some, BIf_true, BIf_false, BIf_same, List.toList_toArray, Bool.not_true, Bool.not_false]
      refine ⟨by decide, by simp, ?_⟩
      have := ih (n / 2) out (base * base % p) hn2 (by omega) ho hq
      rw [mod_mul_pow', show out * (base * base) ^ (n / 2) = out * base ^ n by
        rw [← Nat.pow_two, ← Nat.pow_mul, show 2 * (n / 2) = n by omega]] at this
      exact this

theorem rPow_ok {a n : Nat} (hn : n < 2 ^ 64) (H : Hp) : HCalls Tryd.prog 73 #[.int .u64 (a : Int), .int .u64 (n : Int)] H (RetE (.int .u64 ((a ^ n % 18446744069414584321 : Nat) : Int)) H) := by
  apply W_abacistref02_Pow.ok
  unfold W_abacistref02_Pow
  refine HCalls.use (rOf_ok (a := a) H) ?_
  simp only [DI_int', DB_bool, DS_string, DP_pointer, DSl_slice, DM_map, DA_agg, DTup_tuple, DCons_cons, DNil_nil, NN_some, BIf_true, BIf_false, BIf_same, List.toList_toArray, Bool.not_true, Bool.not_false]
  refine ⟨65, ?_⟩
  have := rPow_loop H 64 n 1 (a % 18446744069414584321) hn (by omega) (by omega) (by omega)
  rw [Nat.one_mul, ← Nat.pow_mod] at this
  exact this

end Go.Proofs.YtbnhfcdagoigkaaDoor.Gol

end
section
/-! Wlslices -/
/- Formulas of functions, printed by wip/tools/hwp.py. -/
set_option maxRecDepth 100000
set_option linter.unusedVariables false
namespace Go.Proofs.YtbnhfcdagoigkaaDoor.W
open Go Go.Hw

theorem mixWlslices : Tryd.prog.follows .mixedOrders = true := by kernel_rfl
-- slices.IndexFunc[[]uint64,uint64]
def W_slices_IndexFunc_uint64_uint64.l2 (K : Value → Hp → Prop) : Nat → Option Addr → Nat → Nat → FuncId → Array Value → Array Value → Int → Int → Hp → Prop
  | 0, _, _, _, _, _, _, _, _, _ => False
  | k + 1, A2, n2, m2, fd2, F2, C2, x1, x2, H =>
    let R2 := W_slices_IndexFunc_uint64_uint64.l2 K k
    BIf (decide (x2 < x1)) (ixI x2 n2 (NN A2 fun a1 => Ld H (a1.add (x2.toNat * 1)) fun v1 => DI .u64 v1 fun x3 => CallK Tryd.prog fd2 ((F2 ++ #[.int .u64 x3]) ++ C2) H fun v2 H1 => DR Tryd.prog (resTypes Tryd.prog fd2) v2 fun v3 => DB v3 fun c1 => BIf c1 (K (.int .i64 x2) H1) (R2 A2 n2 m2 fd2 F2 C2 x1 (IntKind.i64.wrap (x2 + (1 : Int))) H1))) (K (.int .i64 (-1 : Int)) H)
def W_slices_IndexFunc_uint64_uint64 (A1 : Option Addr) (n1 : Nat) (m1 : Nat) (fd1 : FuncId) (F1 : Array Value) (C1 : Array Value) (H : Hp) (K : Value → Hp → Prop) : Prop :=
  (∃ k, W_slices_IndexFunc_uint64_uint64.l2 K k A1 n1 m1 fd1 F1 C1 ((n1 : Nat) : Int) (0 : Int) H)
def W_slices_IndexFunc_uint64_uint64.l2.L (K : Value → Hp → Prop) (k : Nat) : Mid := fun E D H =>
  DG (E.get? 0) fun w0 => DSl w0 fun A2 n2 m2 => DG (E.get? 1) fun w1 => DFn w1 fun fd2 F2 C2 => DG (E.get? 7) fun w7 => DI .i64 w7 fun x1 => DG (E.get? 8) fun w8 => DI .i64 w8 fun x2 => DNilD D (W_slices_IndexFunc_uint64_uint64.l2 K k A2 n2 m2 fd2 F2 C2 x1 x2 H)
def W_slices_IndexFunc_uint64_uint64.Λ2 (_ : Value → Hp → Prop) (_R2 : Option Addr → Nat → Nat → FuncId → Array Value → Array Value → Int → Int → Hp → Prop) : Cuts := Cuts.none (fun _ => none)
def W_slices_IndexFunc_uint64_uint64.Λ (K : Value → Hp → Prop) : Cuts := ⟨fun i => none, fun i => match Nat.beq i 2 with | true => some (fun E D H => ∃ k, W_slices_IndexFunc_uint64_uint64.l2.L K k E D H) | false => none, (fun _ => none)⟩
theorem W_slices_IndexFunc_uint64_uint64.ok (A1 : Option Addr) (n1 : Nat) (m1 : Nat) (fd1 : FuncId) (F1 : Array Value) (C1 : Array Value) (H : Hp) (K : Value → Hp → Prop) (h : W_slices_IndexFunc_uint64_uint64 A1 n1 m1 fd1 F1 C1 H K) : HCalls Tryd.prog 83 #[.slice A1 n1 m1, .func (.func fd1) F1 C1] H K :=
  hcalls Tryd.func83 rfl (Nat.le_of_ble_eq_true rfl) (hw_safe (Λ := (W_slices_IndexFunc_uint64_uint64.Λ K)) mixWlslices _ _ _ _ _ (Eq.mp (by kernel_rfl) h) (obs_seq obs_region rfl (obs_seq (obs_seq obs_region rfl (obs_block (obs_loop rfl (fun E D H h => by
      refine Safe.loop' (W_slices_IndexFunc_uint64_uint64.l2.L K) (fun E D H h => ?_) (fun k E D H h => ?_) E D H h
      · obtain ⟨w0, e0, g1⟩ := DG.out h; obtain ⟨A2, n2, m2, rfl, g2⟩ := DSl.out g1; obtain ⟨w1, e1, g3⟩ := DG.out g2; obtain ⟨fd2, F2, C2, rfl, g4⟩ := DFn.out g3; obtain ⟨w7, e7, g5⟩ := DG.out g4; obtain ⟨x1, rfl, g6⟩ := DI.out g5; obtain ⟨w8, e8, g7⟩ := DG.out g6; obtain ⟨x2, rfl, g8⟩ := DI.out g7; obtain ⟨rfl, h'⟩ := DNilD.out g8; exact h'
      · obtain ⟨w0, e0, g1⟩ := DG.out h
        obtain ⟨A2, n2, m2, rfl, g2⟩ := DSl.out g1
        obtain ⟨w1, e1, g3⟩ := DG.out g2
        obtain ⟨fd2, F2, C2, rfl, g4⟩ := DFn.out g3
        obtain ⟨w7, e7, g5⟩ := DG.out g4
        obtain ⟨x1, rfl, g6⟩ := DI.out g5
        obtain ⟨w8, e8, g7⟩ := DG.out g6
        obtain ⟨x2, rfl, g8⟩ := DI.out g7
        obtain ⟨rfl, h'⟩ := DNilD.out g8
        exact (hw_safe (Λ := (W_slices_IndexFunc_uint64_uint64.Λ2 K (W_slices_IndexFunc_uint64_uint64.l2 K k))) mixWlslices _ _ [(0, .slice A2 n2 m2), (1, .func (.func fd2) F2 C2), (7, .int .i64 x1), (8, .int .i64 x2)] [] H (Eq.mp (by kernel_rfl) h') (obs_seq obs_region rfl (obs_seq (obs_cond obs_skip obs_exit) rfl (obs_seq (obs_block (obs_seq obs_region rfl (obs_seq obs_region rfl (obs_cond (obs_seq obs_region rfl obs_ret) obs_skip)))) rfl obs_region)))).weaken (EnvLe.cons e0 (EnvLe.cons e1 (EnvLe.cons e7 (EnvLe.cons e8 (EnvLe.nil _))))) (Hp.le_refl _))))) rfl (obs_seq obs_region rfl obs_ret))))

end Go.Proofs.YtbnhfcdagoigkaaDoor.W

end
section
/-! Wcodec -/
/- Formulas of functions, printed by wip/tools/hwp.py. -/
set_option maxRecDepth 100000
set_option linter.unusedVariables false
namespace Go.Proofs.YtbnhfcdagoigkaaDoor.W
open Go Go.Hw

theorem mixWcodec : Tryd.prog.follows .mixedOrders = true := by kernel_rfl
-- codec.Text
def W_codec_Text.l3 (K : Value → Hp → Prop) : Nat → Option Addr → Nat → Nat → Option Addr → Nat → Nat → Int → Int → Hp → Prop
  | 0, _, _, _, _, _, _, _, _, _ => False
  | k + 1, A2, n2, m2, A3, n3, m3, x1, x2, H =>
    let R3 := W_codec_Text.l3 K k
    BIf (decide (x2 < x1)) (ixI x2 n3 (NN A3 fun a1 => Ld H (a1.add (x2.toNat * 1)) fun v1 => DI .u64 v1 fun x3 => HCalls Tryd.prog 77 #[.int .u64 x3, .int .i64 (10 : Int)] H fun v2 H1 => DS v2 fun s1 => Nw H1 (.row [.string s1] 9 1) fun b1 H2 => AppK Tryd.prog 9 (.slice A2 n2 m2) (.slice (some ⟨b1, 0, none⟩) 1 1) H2 fun v3 H3 => DSl v3 fun A4 n4 m4 => R3 A4 n4 m4 A3 n3 m3 x1 (IntKind.i64.wrap (x2 + (1 : Int))) H3)) (HCalls Tryd.prog 78 #[.slice A2 n2 m2, .string (⟨#[32]⟩)] H fun v4 H4 => DS v4 fun s2 => K (.string s2) H4)
def W_codec_Text (A1 : Option Addr) (n1 : Nat) (m1 : Nat) (H : Hp) (K : Value → Hp → Prop) : Prop :=
  (∃ k, W_codec_Text.l3 K k none 0 0 A1 n1 m1 ((n1 : Nat) : Int) (0 : Int) H)
def W_codec_Text.l3.L (K : Value → Hp → Prop) (k : Nat) : Mid := fun E D H =>
  DG (E.get? 3) fun w3 => DSl w3 fun A2 n2 m2 => DG (E.get? 6) fun w6 => DSl w6 fun A3 n3 m3 => DG (E.get? 7) fun w7 => DI .i64 w7 fun x1 => DG (E.get? 8) fun w8 => DI .i64 w8 fun x2 => DNilD D (W_codec_Text.l3 K k A2 n2 m2 A3 n3 m3 x1 x2 H)
def W_codec_Text.Λ3 (_ : Value → Hp → Prop) (_R3 : Option Addr → Nat → Nat → Option Addr → Nat → Nat → Int → Int → Hp → Prop) : Cuts := Cuts.none (fun _ => none)
def W_codec_Text.Λ (K : Value → Hp → Prop) : Cuts := ⟨fun i => none, fun i => match Nat.beq i 3 with | true => some (fun E D H => ∃ k, W_codec_Text.l3.L K k E D H) | false => none, (fun _ => none)⟩
theorem W_codec_Text.ok (A1 : Option Addr) (n1 : Nat) (m1 : Nat) (H : Hp) (K : Value → Hp → Prop) (h : W_codec_Text A1 n1 m1 H K) : HCalls Tryd.prog 33 #[.slice A1 n1 m1] H K :=
  hcalls Tryd.func33 rfl (Nat.le_of_ble_eq_true rfl) (hw_safe (Λ := (W_codec_Text.Λ K)) mixWcodec _ _ _ _ _ (Eq.mp (by kernel_rfl) h) (obs_seq obs_region rfl (obs_seq obs_region rfl (obs_seq (obs_seq obs_region rfl (obs_block (obs_loop rfl (fun E D H h => by
      refine Safe.loop' (W_codec_Text.l3.L K) (fun E D H h => ?_) (fun k E D H h => ?_) E D H h
      · obtain ⟨w3, e3, g1⟩ := DG.out h; obtain ⟨A2, n2, m2, rfl, g2⟩ := DSl.out g1; obtain ⟨w6, e6, g3⟩ := DG.out g2; obtain ⟨A3, n3, m3, rfl, g4⟩ := DSl.out g3; obtain ⟨w7, e7, g5⟩ := DG.out g4; obtain ⟨x1, rfl, g6⟩ := DI.out g5; obtain ⟨w8, e8, g7⟩ := DG.out g6; obtain ⟨x2, rfl, g8⟩ := DI.out g7; obtain ⟨rfl, h'⟩ := DNilD.out g8; exact h'
      · obtain ⟨w3, e3, g1⟩ := DG.out h
        obtain ⟨A2, n2, m2, rfl, g2⟩ := DSl.out g1
        obtain ⟨w6, e6, g3⟩ := DG.out g2
        obtain ⟨A3, n3, m3, rfl, g4⟩ := DSl.out g3
        obtain ⟨w7, e7, g5⟩ := DG.out g4
        obtain ⟨x1, rfl, g6⟩ := DI.out g5
        obtain ⟨w8, e8, g7⟩ := DG.out g6
        obtain ⟨x2, rfl, g8⟩ := DI.out g7
        obtain ⟨rfl, h'⟩ := DNilD.out g8
        exact (hw_safe (Λ := (W_codec_Text.Λ3 K (W_codec_Text.l3 K k))) mixWcodec _ _ [(3, .slice A2 n2 m2), (6, .slice A3 n3 m3), (7, .int .i64 x1), (8, .int .i64 x2)] [] H (Eq.mp (by kernel_rfl) h') (obs_seq obs_region rfl (obs_seq (obs_cond obs_skip obs_exit) rfl (obs_seq (obs_block (obs_seq obs_region rfl obs_region)) rfl obs_region)))).weaken (EnvLe.cons e3 (EnvLe.cons e6 (EnvLe.cons e7 (EnvLe.cons e8 (EnvLe.nil _))))) (Hp.le_refl _))))) rfl (obs_seq obs_region rfl obs_ret)))))

-- codec.Read
def W_codec_Read.l4 (K : Value → Hp → Prop) : Nat → Option Addr → Nat → Nat → Int → Option Addr → Nat → Nat → Int → Int → Hp → Prop
  | 0, _, _, _, _, _, _, _, _, _, _ => False
  | k + 1, A2, n2, m2, x1, A3, n3, m3, x2, x3, H =>
    let R4 := W_codec_Read.l4 K k
    BIf (decide (x3 < x2)) (ixI x3 n3 (NN A3 fun a1 => Ld H (a1.add (x3.toNat * 1)) fun v2 => DS v2 fun s2 => HCalls Tryd.prog 80 #[.string s2] H fun v3 H2 => DTup v3 fun l1 => DCons l1 fun v4 l2 => DI .u64 v4 fun x4 => DCons l2 fun v5 l3 => DI .i64 v5 fun x5 => DNil l3 (BIf (x5 != (0 : Int)) (K (.tuple #[.slice none 0 0, .int .i64 x1, .int .i64 x5]) H2) (Nw H2 (.row [.int .u64 x4] 22 1) fun b1 H3 => AppK Tryd.prog 22 (.slice A2 n2 m2) (.slice (some ⟨b1, 0, none⟩) 1 1) H3 fun v6 H4 => DSl v6 fun A4 n4 m4 => R4 A4 n4 m4 (IntKind.i64.wrap (x1 + (IntKind.i64.wrap (((s2.size : Nat) : Int) + (1 : Int))))) A3 n3 m3 x2 (IntKind.i64.wrap (x3 + (1 : Int))) H4)))) (K (.tuple #[.slice A2 n2 m2, .int .i64 (0 : Int), .int .i64 (0 : Int)]) H)
def W_codec_Read (s1 : ByteArray) (H : Hp) (K : Value → Hp → Prop) : Prop :=
  BIf (s1.toList == ((⟨#[]⟩) : ByteArray).toList) (K (.tuple #[.slice none 0 0, .int .i64 (0 : Int), .int .i64 (0 : Int)]) H) (HCalls Tryd.prog 79 #[.string s1, .string (⟨#[32]⟩)] H fun v1 H1 => DSl v1 fun A1 n1 m1 => (∃ k, W_codec_Read.l4 K k none 0 0 (0 : Int) A1 n1 m1 ((n1 : Nat) : Int) (0 : Int) H1))
def W_codec_Read.l4.L (K : Value → Hp → Prop) (k : Nat) : Mid := fun E D H =>
  DG (E.get? 2) fun w2 => DSl w2 fun A2 n2 m2 => DG (E.get? 3) fun w3 => DI .i64 w3 fun x1 => DG (E.get? 12) fun w12 => DSl w12 fun A3 n3 m3 => DG (E.get? 13) fun w13 => DI .i64 w13 fun x2 => DG (E.get? 14) fun w14 => DI .i64 w14 fun x3 => DNilD D (W_codec_Read.l4 K k A2 n2 m2 x1 A3 n3 m3 x2 x3 H)
def W_codec_Read.Λ4 (_ : Value → Hp → Prop) (_R4 : Option Addr → Nat → Nat → Int → Option Addr → Nat → Nat → Int → Int → Hp → Prop) : Cuts := Cuts.none (fun _ => none)
def W_codec_Read.Λ (K : Value → Hp → Prop) : Cuts := ⟨fun i => none, fun i => match Nat.beq i 4 with | true => some (fun E D H => ∃ k, W_codec_Read.l4.L K k E D H) | false => none, (fun _ => none)⟩
theorem W_codec_Read.ok (s1 : ByteArray) (H : Hp) (K : Value → Hp → Prop) (h : W_codec_Read s1 H K) : HCalls Tryd.prog 34 #[.string s1] H K :=
  hcalls Tryd.func34 rfl (Nat.le_of_ble_eq_true rfl) (hw_safe (Λ := (W_codec_Read.Λ K)) mixWcodec _ _ _ _ _ (Eq.mp (by kernel_rfl) h) (obs_seq obs_region rfl (obs_seq (obs_seq obs_region rfl (obs_cond (obs_seq obs_region rfl obs_ret) obs_skip)) rfl (obs_seq (obs_seq obs_region rfl (obs_block (obs_loop rfl (fun E D H h => by
      refine Safe.loop' (W_codec_Read.l4.L K) (fun E D H h => ?_) (fun k E D H h => ?_) E D H h
      · obtain ⟨w2, e2, g1⟩ := DG.out h; obtain ⟨A2, n2, m2, rfl, g2⟩ := DSl.out g1; obtain ⟨w3, e3, g3⟩ := DG.out g2; obtain ⟨x1, rfl, g4⟩ := DI.out g3; obtain ⟨w12, e12, g5⟩ := DG.out g4; obtain ⟨A3, n3, m3, rfl, g6⟩ := DSl.out g5; obtain ⟨w13, e13, g7⟩ := DG.out g6; obtain ⟨x2, rfl, g8⟩ := DI.out g7; obtain ⟨w14, e14, g9⟩ := DG.out g8; obtain ⟨x3, rfl, g10⟩ := DI.out g9; obtain ⟨rfl, h'⟩ := DNilD.out g10; exact h'
      · obtain ⟨w2, e2, g1⟩ := DG.out h
        obtain ⟨A2, n2, m2, rfl, g2⟩ := DSl.out g1
        obtain ⟨w3, e3, g3⟩ := DG.out g2
        obtain ⟨x1, rfl, g4⟩ := DI.out g3
        obtain ⟨w12, e12, g5⟩ := DG.out g4
        obtain ⟨A3, n3, m3, rfl, g6⟩ := DSl.out g5
        obtain ⟨w13, e13, g7⟩ := DG.out g6
        obtain ⟨x2, rfl, g8⟩ := DI.out g7
        obtain ⟨w14, e14, g9⟩ := DG.out g8
        obtain ⟨x3, rfl, g10⟩ := DI.out g9
        obtain ⟨rfl, h'⟩ := DNilD.out g10
        exact (hw_safe (Λ := (W_codec_Read.Λ4 K (W_codec_Read.l4 K k))) mixWcodec _ _ [(2, .slice A2 n2 m2), (3, .int .i64 x1), (12, .slice A3 n3 m3), (13, .int .i64 x2), (14, .int .i64 x3)] [] H (Eq.mp (by kernel_rfl) h') (obs_seq obs_region rfl (obs_seq (obs_cond obs_skip obs_exit) rfl (obs_seq (obs_block (obs_seq obs_region rfl (obs_seq obs_region rfl (obs_seq (obs_seq obs_region rfl (obs_cond (obs_seq obs_region rfl obs_ret) obs_skip)) rfl (obs_seq obs_region rfl obs_region))))) rfl obs_region)))).weaken (EnvLe.cons e2 (EnvLe.cons e3 (EnvLe.cons e12 (EnvLe.cons e13 (EnvLe.cons e14 (EnvLe.nil _)))))) (Hp.le_refl _))))) rfl (obs_seq obs_region rfl obs_ret)))))

-- codec.Check
def W_codec_Check (A1 : Option Addr) (n1 : Nat) (m1 : Nat) (H : Hp) (K : Value → Hp → Prop) : Prop :=
  HCalls Tryd.prog 83 #[.slice A1 n1 m1, .func (.func 84) #[] #[]] H fun v1 H1 => DI .i64 v1 fun x1 => K (.tuple #[.int .i64 (if (0 : Int) > x1 then (0 : Int) else x1), .bool (decide (x1 < (0 : Int)))]) H1
def W_codec_Check.Λ (_ : Value → Hp → Prop) : Cuts := Cuts.none (fun _ => none)
theorem W_codec_Check.ok (A1 : Option Addr) (n1 : Nat) (m1 : Nat) (H : Hp) (K : Value → Hp → Prop) (h : W_codec_Check A1 n1 m1 H K) : HCalls Tryd.prog 37 #[.slice A1 n1 m1] H K :=
  hcalls Tryd.func37 rfl (Nat.le_of_ble_eq_true rfl) (hw_safe (Λ := Cuts.none (fun _ => none)) mixWcodec _ _ _ _ _ (Eq.mp (by kernel_rfl) h) (obs_none _ _ _ _ _))

-- codec.Word
def W_codec_Word (A1 : Option Addr) (n1 : Nat) (m1 : Nat) (x1 : Int) (H : Hp) (K : Value → Hp → Prop) : Prop :=
  HCalls Tryd.prog 87 #[.slice A1 n1 m1, .int .i64 x1] H fun v1 H1 => DB v1 fun c1 => BIf (!c1) (K (.tuple #[.int .u64 (0 : Int), .int .i64 (2 : Int)]) H1) (slB n1 m1 (some (IntKind.i64.wrap ((8 : Int) * x1))) none fun n2 n3 => HCalls Tryd.prog 88 #[.slice (slA A1 m1 n2 1) (n3 - n2) (m1 - n2)] H1 fun v2 H2 => DI .u64 v2 fun x2 => K (.tuple #[.int .u64 x2, .int .i64 (0 : Int)]) H2)
def W_codec_Word.Λ (_ : Value → Hp → Prop) : Cuts := Cuts.none (fun _ => none)
theorem W_codec_Word.ok (A1 : Option Addr) (n1 : Nat) (m1 : Nat) (x1 : Int) (H : Hp) (K : Value → Hp → Prop) (h : W_codec_Word A1 n1 m1 x1 H K) : HCalls Tryd.prog 41 #[.slice A1 n1 m1, .int .i64 x1] H K :=
  hcalls Tryd.func41 rfl (Nat.le_of_ble_eq_true rfl) (hw_safe (Λ := Cuts.none (fun _ => none)) mixWcodec _ _ _ _ _ (Eq.mp (by kernel_rfl) h) (obs_none _ _ _ _ _))

-- codec.Set
def W_codec_Set (A1 : Option Addr) (n1 : Nat) (m1 : Nat) (x1 : Int) (x2 : Int) (H : Hp) (K : Value → Hp → Prop) : Prop :=
  HCalls Tryd.prog 87 #[.slice A1 n1 m1, .int .i64 x1] H fun v1 H1 => DB v1 fun c1 => BIf (!c1) (K (.int .i64 (2 : Int)) H1) (slB n1 m1 (some (IntKind.i64.wrap ((8 : Int) * x1))) none fun n2 n3 => HCalls Tryd.prog 89 #[.slice (slA A1 m1 n2 1) (n3 - n2) (m1 - n2), .int .u64 x2] H1 fun v2 H2 => K (.int .i64 (0 : Int)) H2)
def W_codec_Set.Λ (_ : Value → Hp → Prop) : Cuts := Cuts.none (fun _ => none)
theorem W_codec_Set.ok (A1 : Option Addr) (n1 : Nat) (m1 : Nat) (x1 : Int) (x2 : Int) (H : Hp) (K : Value → Hp → Prop) (h : W_codec_Set A1 n1 m1 x1 x2 H K) : HCalls Tryd.prog 42 #[.slice A1 n1 m1, .int .i64 x1, .int .u64 x2] H K :=
  hcalls Tryd.func42 rfl (Nat.le_of_ble_eq_true rfl) (hw_safe (Λ := Cuts.none (fun _ => none)) mixWcodec _ _ _ _ _ (Eq.mp (by kernel_rfl) h) (obs_none _ _ _ _ _))

-- codec.Put
def W_codec_Put.l3 (K : Value → Hp → Prop) : Nat → Option Addr → Nat → Nat → Option Addr → Nat → Nat → Int → Int → Hp → Prop
  | 0, _, _, _, _, _, _, _, _, _ => False
  | k + 1, A3, n3, m3, A4, n4, m4, x1, x2, H =>
    let R3 := W_codec_Put.l3 K k
    BIf (decide (x2 < x1)) (ixI x2 n4 (NN A4 fun a1 => Ld H (a1.add (x2.toNat * 1)) fun v2 => DI .u64 v2 fun x3 => slB n3 m3 (some (IntKind.i64.wrap ((8 : Int) * x2))) none fun n5 n6 => HCalls Tryd.prog 89 #[.slice (slA A3 m3 n5 1) (n6 - n5) (m3 - n5), .int .u64 x3] H fun v3 H2 => R3 A3 n3 m3 A4 n4 m4 x1 (IntKind.i64.wrap (x2 + (1 : Int))) H2)) (K (.slice A3 n3 m3) H)
def W_codec_Put (A1 : Option Addr) (n1 : Nat) (m1 : Nat) (H : Hp) (K : Value → Hp → Prop) : Prop :=
  MkS Tryd.prog 5 (IntKind.i64.wrap ((8 : Int) * ((n1 : Nat) : Int))) (IntKind.i64.wrap ((8 : Int) * ((n1 : Nat) : Int))) H fun v1 H1 => DSl v1 fun A2 n2 m2 => (∃ k, W_codec_Put.l3 K k A2 n2 m2 A1 n1 m1 ((n1 : Nat) : Int) (0 : Int) H1)
def W_codec_Put.l3.L (K : Value → Hp → Prop) (k : Nat) : Mid := fun E D H =>
  DG (E.get? 3) fun w3 => DSl w3 fun A3 n3 m3 => DG (E.get? 10) fun w10 => DSl w10 fun A4 n4 m4 => DG (E.get? 11) fun w11 => DI .i64 w11 fun x1 => DG (E.get? 12) fun w12 => DI .i64 w12 fun x2 => DNilD D (W_codec_Put.l3 K k A3 n3 m3 A4 n4 m4 x1 x2 H)
def W_codec_Put.Λ3 (_ : Value → Hp → Prop) (_R3 : Option Addr → Nat → Nat → Option Addr → Nat → Nat → Int → Int → Hp → Prop) : Cuts := Cuts.none (fun _ => none)
def W_codec_Put.Λ (K : Value → Hp → Prop) : Cuts := ⟨fun i => none, fun i => match Nat.beq i 3 with | true => some (fun E D H => ∃ k, W_codec_Put.l3.L K k E D H) | false => none, (fun _ => none)⟩
theorem W_codec_Put.ok (A1 : Option Addr) (n1 : Nat) (m1 : Nat) (H : Hp) (K : Value → Hp → Prop) (h : W_codec_Put A1 n1 m1 H K) : HCalls Tryd.prog 45 #[.slice A1 n1 m1] H K :=
  hcalls Tryd.func45 rfl (Nat.le_of_ble_eq_true rfl) (hw_safe (Λ := (W_codec_Put.Λ K)) mixWcodec _ _ _ _ _ (Eq.mp (by kernel_rfl) h) (obs_seq obs_region rfl (obs_seq obs_region rfl (obs_seq (obs_seq obs_region rfl (obs_block (obs_loop rfl (fun E D H h => by
      refine Safe.loop' (W_codec_Put.l3.L K) (fun E D H h => ?_) (fun k E D H h => ?_) E D H h
      · obtain ⟨w3, e3, g1⟩ := DG.out h; obtain ⟨A3, n3, m3, rfl, g2⟩ := DSl.out g1; obtain ⟨w10, e10, g3⟩ := DG.out g2; obtain ⟨A4, n4, m4, rfl, g4⟩ := DSl.out g3; obtain ⟨w11, e11, g5⟩ := DG.out g4; obtain ⟨x1, rfl, g6⟩ := DI.out g5; obtain ⟨w12, e12, g7⟩ := DG.out g6; obtain ⟨x2, rfl, g8⟩ := DI.out g7; obtain ⟨rfl, h'⟩ := DNilD.out g8; exact h'
      · obtain ⟨w3, e3, g1⟩ := DG.out h
        obtain ⟨A3, n3, m3, rfl, g2⟩ := DSl.out g1
        obtain ⟨w10, e10, g3⟩ := DG.out g2
        obtain ⟨A4, n4, m4, rfl, g4⟩ := DSl.out g3
        obtain ⟨w11, e11, g5⟩ := DG.out g4
        obtain ⟨x1, rfl, g6⟩ := DI.out g5
        obtain ⟨w12, e12, g7⟩ := DG.out g6
        obtain ⟨x2, rfl, g8⟩ := DI.out g7
        obtain ⟨rfl, h'⟩ := DNilD.out g8
        exact (hw_safe (Λ := (W_codec_Put.Λ3 K (W_codec_Put.l3 K k))) mixWcodec _ _ [(3, .slice A3 n3 m3), (10, .slice A4 n4 m4), (11, .int .i64 x1), (12, .int .i64 x2)] [] H (Eq.mp (by kernel_rfl) h') (obs_seq obs_region rfl (obs_seq (obs_cond obs_skip obs_exit) rfl (obs_seq (obs_block (obs_seq obs_region rfl obs_region)) rfl obs_region)))).weaken (EnvLe.cons e3 (EnvLe.cons e10 (EnvLe.cons e11 (EnvLe.cons e12 (EnvLe.nil _))))) (Hp.le_refl _))))) rfl (obs_seq obs_region rfl obs_ret)))))

-- codec.Take
def W_codec_Take.l5 (K : Value → Hp → Prop) : Nat → Option Addr → Nat → Nat → Option Addr → Nat → Nat → Int → Int → Hp → Prop
  | 0, _, _, _, _, _, _, _, _, _ => False
  | k + 1, A3, n3, m3, A4, n4, m4, x1, x2, H =>
    let R5 := W_codec_Take.l5 K k
    BIf (decide (x2 < x1)) (slB n3 m3 (some (IntKind.i64.wrap ((8 : Int) * x2))) none fun n5 n6 => HCalls Tryd.prog 88 #[.slice (slA A3 m3 n5 1) (n6 - n5) (m3 - n5)] H fun v2 H2 => DI .u64 v2 fun x3 => ixI x2 n4 (NN A4 fun a1 => St H2 ((a1.add (x2.toNat * 1)).add 0) (.int .u64 x3) fun H3 => R5 A3 n3 m3 A4 n4 m4 x1 (IntKind.i64.wrap (x2 + (1 : Int))) H3)) (HCalls Tryd.prog 37 #[.slice A4 n4 m4] H fun v3 H4 => DTup v3 fun l1 => DCons l1 fun v4 l2 => DI .i64 v4 fun x4 => DCons l2 fun v5 l3 => DB v5 fun c1 => DNil l3 (BIf (!c1) (K (.tuple #[.slice none 0 0, .int .i64 (IntKind.i64.wrap ((8 : Int) * x4)), .int .i64 (3 : Int)]) H4) (K (.tuple #[.slice A4 n4 m4, .int .i64 (0 : Int), .int .i64 (0 : Int)]) H4)))
def W_codec_Take (A1 : Option Addr) (n1 : Nat) (m1 : Nat) (H : Hp) (K : Value → Hp → Prop) : Prop :=
  ((8 : Int) ≠ 0 ∧ IntKind.i64 = IntKind.i64 ∧ BIf ((Int.tmod ((n1 : Nat) : Int) (8 : Int)) != (0 : Int)) (((8 : Int) ≠ 0 ∧ IntKind.i64 = IntKind.i64 ∧ K (.tuple #[.slice none 0 0, .int .i64 (IntKind.i64.wrap (((n1 : Nat) : Int) - (Int.tmod ((n1 : Nat) : Int) (8 : Int)))), .int .i64 (15 : Int)]) H)) (((8 : Int) ≠ 0 ∧ IntKind.i64 = IntKind.i64 ∧ MkS Tryd.prog 22 (IntKind.i64.wrap (Int.tdiv ((n1 : Nat) : Int) (8 : Int))) (IntKind.i64.wrap (Int.tdiv ((n1 : Nat) : Int) (8 : Int))) H fun v1 H1 => DSl v1 fun A2 n2 m2 => (∃ k, W_codec_Take.l5 K k A1 n1 m1 A2 n2 m2 ((n2 : Nat) : Int) (0 : Int) H1))))
def W_codec_Take.l5.L (K : Value → Hp → Prop) (k : Nat) : Mid := fun E D H =>
  DG (E.get? 0) fun w0 => DSl w0 fun A3 n3 m3 => DG (E.get? 2) fun w2 => DSl w2 fun A4 n4 m4 => DG (E.get? 23) fun w23 => DI .i64 w23 fun x1 => DG (E.get? 24) fun w24 => DI .i64 w24 fun x2 => DNilD D (W_codec_Take.l5 K k A3 n3 m3 A4 n4 m4 x1 x2 H)
def W_codec_Take.Λ5 (_ : Value → Hp → Prop) (_R5 : Option Addr → Nat → Nat → Option Addr → Nat → Nat → Int → Int → Hp → Prop) : Cuts := Cuts.none (fun _ => none)
def W_codec_Take.Λ (K : Value → Hp → Prop) : Cuts := ⟨fun i => none, fun i => match Nat.beq i 5 with | true => some (fun E D H => ∃ k, W_codec_Take.l5.L K k E D H) | false => none, (fun _ => none)⟩
theorem W_codec_Take.ok (A1 : Option Addr) (n1 : Nat) (m1 : Nat) (H : Hp) (K : Value → Hp → Prop) (h : W_codec_Take A1 n1 m1 H K) : HCalls Tryd.prog 46 #[.slice A1 n1 m1] H K :=
  hcalls Tryd.func46 rfl (Nat.le_of_ble_eq_true rfl) (hw_safe (Λ := (W_codec_Take.Λ K)) mixWcodec _ _ _ _ _ (Eq.mp (by kernel_rfl) h) (obs_seq obs_region rfl (obs_seq (obs_seq obs_region rfl (obs_cond (obs_seq obs_region rfl obs_ret) obs_skip)) rfl (obs_seq obs_region rfl (obs_seq (obs_seq obs_region rfl (obs_block (obs_loop rfl (fun E D H h => by
      refine Safe.loop' (W_codec_Take.l5.L K) (fun E D H h => ?_) (fun k E D H h => ?_) E D H h
      · obtain ⟨w0, e0, g1⟩ := DG.out h; obtain ⟨A3, n3, m3, rfl, g2⟩ := DSl.out g1; obtain ⟨w2, e2, g3⟩ := DG.out g2; obtain ⟨A4, n4, m4, rfl, g4⟩ := DSl.out g3; obtain ⟨w23, e23, g5⟩ := DG.out g4; obtain ⟨x1, rfl, g6⟩ := DI.out g5; obtain ⟨w24, e24, g7⟩ := DG.out g6; obtain ⟨x2, rfl, g8⟩ := DI.out g7; obtain ⟨rfl, h'⟩ := DNilD.out g8; exact h'
      · obtain ⟨w0, e0, g1⟩ := DG.out h
        obtain ⟨A3, n3, m3, rfl, g2⟩ := DSl.out g1
        obtain ⟨w2, e2, g3⟩ := DG.out g2
        obtain ⟨A4, n4, m4, rfl, g4⟩ := DSl.out g3
        obtain ⟨w23, e23, g5⟩ := DG.out g4
        obtain ⟨x1, rfl, g6⟩ := DI.out g5
        obtain ⟨w24, e24, g7⟩ := DG.out g6
        obtain ⟨x2, rfl, g8⟩ := DI.out g7
        obtain ⟨rfl, h'⟩ := DNilD.out g8
        exact (hw_safe (Λ := (W_codec_Take.Λ5 K (W_codec_Take.l5 K k))) mixWcodec _ _ [(0, .slice A3 n3 m3), (2, .slice A4 n4 m4), (23, .int .i64 x1), (24, .int .i64 x2)] [] H (Eq.mp (by kernel_rfl) h') (obs_seq obs_region rfl (obs_seq (obs_cond obs_skip obs_exit) rfl (obs_seq (obs_block (obs_seq obs_region rfl obs_region)) rfl obs_region)))).weaken (EnvLe.cons e0 (EnvLe.cons e2 (EnvLe.cons e23 (EnvLe.cons e24 (EnvLe.nil _))))) (Hp.le_refl _))))) rfl (obs_seq (obs_seq obs_region rfl (obs_seq obs_region rfl (obs_cond (obs_seq obs_region rfl obs_ret) obs_skip))) rfl (obs_seq obs_region rfl obs_ret)))))))

-- codec.numeral
def W_codec_numeral.l7 (K : Value → Hp → Prop) : Nat → Addr → Option Addr → Nat → Nat → Int → Int → Hp → Prop
  | 0, _, _, _, _, _, _, _ => False
  | k + 1, a1, A2, n2, m2, x2, x3, H =>
    let R7 := W_codec_numeral.l7 K k
    BIf (decide (x3 < x2)) (ixI x3 n2 (NN A2 fun a2 => Ld H (a2.add (x3.toNat * 1)) fun v3 => DI .u8 v3 fun x4 => LdA H a1 2 fun l1 => QCall Tryd.prog 121 #[.agg l1.toArray, .int .i64 (3 : Int)] H fun v4 => DA v4 fun y1 => LdA H a1 2 fun l2 => QCall Tryd.prog 121 #[.agg l2.toArray, .int .i64 (1 : Int)] H fun v5 => DA v5 fun y2 => DCons y1.toList fun v6 l3 => DI .u64 v6 fun x5 => DCons l3 fun v7 l4 => DI .u64 v7 fun x6 => DNil l4 (DCons y2.toList fun v8 l5 => DI .u64 v8 fun x7 => DCons l5 fun v9 l6 => DI .u64 v9 fun x8 => DNil l6 (Nw H (.row [.int .u64 x5, .int .u64 x6, .int .u64 x7, .int .u64 x8, .int .u64 (0 : Int), .int .u64 (IntKind.u64.wrap (IntKind.u8.wrap (x4 - (48 : Int))))] 223 6) fun b2 H4 => HCalls Tryd.prog 120 #[.slice (some ⟨b2, 0, none⟩) 3 3] H4 fun v10 H5 => DA v10 fun y3 => StA H5 a1 y3 2 fun H6 => R7 a1 A2 n2 m2 x2 (IntKind.i64.wrap (x3 + (1 : Int))) H6)))) (Ld H (a1.add 0) fun v11 => DI .u64 v11 fun x9 => BIf (decide (x9 > (0 : Int))) (K (.tuple #[.int .u64 (0 : Int), .int .i64 (3 : Int)]) H) (Ld H (a1.add 1) fun v12 => DI .u64 v12 fun x10 => HCalls Tryd.prog 85 #[.int .u64 x10] H fun v13 H7 => DB v13 fun c1 => BIf (!c1) (K (.tuple #[.int .u64 (0 : Int), .int .i64 (3 : Int)]) H7) (Ld H7 (a1.add 1) fun v14 => DI .u64 v14 fun x11 => K (.tuple #[.int .u64 x11, .int .i64 (0 : Int)]) H7)))
def W_codec_numeral.j5 (K : Value → Hp → Prop) (s3 : ByteArray) (H : Hp) : Prop :=
  Nw H (.obj (.cells #[.int .u64 (0 : Int), .int .u64 (0 : Int)] 223)) fun b1 H2 => StB 5 s3 H2 fun v2 H3 => DSl v2 fun A1 n1 m1 => (∃ k, W_codec_numeral.l7 K k (⟨b1, 0, none⟩ : Addr) A1 n1 m1 ((n1 : Nat) : Int) (0 : Int) H3)
def W_codec_numeral (s1 : ByteArray) (H : Hp) (K : Value → Hp → Prop) : Prop :=
  BIf (s1.toList == ((⟨#[]⟩) : ByteArray).toList) (K (.tuple #[.int .u64 (0 : Int), .int .i64 (17 : Int)]) H) (HCalls Tryd.prog 96 #[.string s1, .string (⟨#[48, 49, 50, 51, 52, 53, 54, 55, 56, 57]⟩)] H fun v1 H1 => DS v1 fun s2 => BIf (!(s2.toList == ((⟨#[]⟩) : ByteArray).toList)) (K (.tuple #[.int .u64 (0 : Int), .int .i64 (17 : Int)]) H1) ((0 ≤ (0 : Int) ∧ ixB s1 (0 : Int).toNat fun x1 => BIf (x1 == (48 : Int)) (BIf (decide (((s1.size : Nat) : Int) > (1 : Int))) (K (.tuple #[.int .u64 (0 : Int), .int .i64 (17 : Int)]) H1) (BIf (decide (((s1.size : Nat) : Int) > (20 : Int))) (K (.tuple #[.int .u64 (0 : Int), .int .i64 (14 : Int)]) H1) (W_codec_numeral.j5 K s1 H1))) (BIf (decide (((s1.size : Nat) : Int) > (20 : Int))) (K (.tuple #[.int .u64 (0 : Int), .int .i64 (14 : Int)]) H1) (W_codec_numeral.j5 K s1 H1)))))
def W_codec_numeral.l7.L (K : Value → Hp → Prop) (k : Nat) : Mid := fun E D H =>
  DG (E.get? 4) fun w4 => DP w4 fun pw4 => NN pw4 fun a1 => DG (E.get? 30) fun w30 => DSl w30 fun A2 n2 m2 => DG (E.get? 31) fun w31 => DI .i64 w31 fun x2 => DG (E.get? 32) fun w32 => DI .i64 w32 fun x3 => DNilD D (W_codec_numeral.l7 K k a1 A2 n2 m2 x2 x3 H)
def W_codec_numeral.Λ7 (_ : Value → Hp → Prop) (_R7 : Addr → Option Addr → Nat → Nat → Int → Int → Hp → Prop) : Cuts := Cuts.none (fun i => match Nat.beq i 9 with | true => some ([], [0, 1, 2, 3, 4, 5, 6, 7], 8) | false => none)
def W_codec_numeral.Λ (K : Value → Hp → Prop) : Cuts := ⟨fun i => match Nat.beq i 5 with | true => some (fun E D H => DG (E.get? 0) fun w0 => DS w0 fun s3 => DNilD D (W_codec_numeral.j5 K s3 H)) | false => none, fun i => match Nat.beq i 7 with | true => some (fun E D H => ∃ k, W_codec_numeral.l7.L K k E D H) | false => none, (fun i => match Nat.beq i 9 with | true => some ([], [0, 1, 2, 3, 4, 5, 6, 7], 8) | false => none)⟩
theorem W_codec_numeral.ok (s1 : ByteArray) (H : Hp) (K : Value → Hp → Prop) (h : W_codec_numeral s1 H K) : HCalls Tryd.prog 80 #[.string s1] H K :=
  hcalls Tryd.func80 rfl (Nat.le_of_ble_eq_true rfl) (hw_safe (Λ := (W_codec_numeral.Λ K)) mixWcodec _ _ _ _ _ (Eq.mp (by kernel_rfl) h) (obs_seq obs_region rfl (obs_seqc (obs_block (obs_seq obs_region rfl (obs_cond (obs_seq obs_region rfl obs_ret) (obs_seq obs_region rfl (obs_cond (obs_seq obs_region rfl obs_ret) obs_skip))))) rfl (fun E D H h => by
      obtain ⟨w0, e0, g1⟩ := DG.out h
      obtain ⟨s3, rfl, g2⟩ := DS.out g1
      obtain ⟨rfl, h'⟩ := DNilD.out g2
      exact (hw_safe (Λ := (W_codec_numeral.Λ K)) mixWcodec _ _ [(0, .string s3)] [] H (Eq.mp (by kernel_rfl) h') (obs_seq obs_region rfl (obs_seq (obs_seq obs_region rfl (obs_block (obs_loop rfl (fun E D H h => by
          refine Safe.loop' (W_codec_numeral.l7.L K) (fun E D H h => ?_) (fun k E D H h => ?_) E D H h
          · obtain ⟨w4, e4, g1⟩ := DG.out h; obtain ⟨pw4, rfl, g2⟩ := DP.out g1; obtain ⟨a1, rfl, g3⟩ := NN.out g2; obtain ⟨w30, e30, g4⟩ := DG.out g3; obtain ⟨A2, n2, m2, rfl, g5⟩ := DSl.out g4; obtain ⟨w31, e31, g6⟩ := DG.out g5; obtain ⟨x2, rfl, g7⟩ := DI.out g6; obtain ⟨w32, e32, g8⟩ := DG.out g7; obtain ⟨x3, rfl, g9⟩ := DI.out g8; obtain ⟨rfl, h'⟩ := DNilD.out g9; exact h'
          · obtain ⟨w4, e4, g1⟩ := DG.out h
            obtain ⟨pw4, rfl, g2⟩ := DP.out g1
            obtain ⟨a1, rfl, g3⟩ := NN.out g2
            obtain ⟨w30, e30, g4⟩ := DG.out g3
            obtain ⟨A2, n2, m2, rfl, g5⟩ := DSl.out g4
            obtain ⟨w31, e31, g6⟩ := DG.out g5
            obtain ⟨x2, rfl, g7⟩ := DI.out g6
            obtain ⟨w32, e32, g8⟩ := DG.out g7
            obtain ⟨x3, rfl, g9⟩ := DI.out g8
            obtain ⟨rfl, h'⟩ := DNilD.out g9
            exact (hw_safe (Λ := (W_codec_numeral.Λ7 K (W_codec_numeral.l7 K k))) mixWcodec _ _ [(4, .pointer (some a1)), (30, .slice A2 n2 m2), (31, .int .i64 x2), (32, .int .i64 x3)] [] H (Eq.mp (by kernel_rfl) h') (obs_seq obs_region rfl (obs_seq (obs_cond obs_skip obs_exit) rfl (obs_seq (obs_block (obs_seq obs_region rfl obs_region)) rfl obs_region)))).weaken (EnvLe.cons e4 (EnvLe.cons e30 (EnvLe.cons e31 (EnvLe.cons e32 (EnvLe.nil _))))) (Hp.le_refl _))))) rfl (obs_seq (obs_seq obs_region rfl (obs_cond (obs_seq obs_region rfl obs_ret) obs_skip)) rfl (obs_seq obs_region rfl obs_ret))))).weaken (EnvLe.cons e0 (EnvLe.nil _)) (Hp.le_refl _)))))

-- codec.Check$1
def W_codec_Check_1 (x1 : Int) (H : Hp) (K : Value → Hp → Prop) : Prop :=
  HCalls Tryd.prog 85 #[.int .u64 x1] H fun v1 H1 => DB v1 fun c1 => K (.bool (!c1)) H1
def W_codec_Check_1.Λ (_ : Value → Hp → Prop) : Cuts := Cuts.none (fun _ => none)
theorem W_codec_Check_1.ok (x1 : Int) (H : Hp) (K : Value → Hp → Prop) (h : W_codec_Check_1 x1 H K) : HCalls Tryd.prog 84 #[.int .u64 x1] H K :=
  hcalls Tryd.func84 rfl (Nat.le_of_ble_eq_true rfl) (hw_safe (Λ := Cuts.none (fun _ => none)) mixWcodec _ _ _ _ _ (Eq.mp (by kernel_rfl) h) (obs_none _ _ _ _ _))

-- codec.inside
def W_codec_inside (A1 : Option Addr) (n1 : Nat) (m1 : Nat) (x1 : Int) (H : Hp) (K : Value → Hp → Prop) : Prop :=
  BIf (decide (x1 ≥ (0 : Int))) (((8 : Int) ≠ 0 ∧ IntKind.i64 = IntKind.i64 ∧ K (.bool (decide (x1 < (IntKind.i64.wrap (Int.tdiv ((n1 : Nat) : Int) (8 : Int)))))) H)) (K (.bool false) H)
def W_codec_inside.Λ (_ : Value → Hp → Prop) : Cuts := Cuts.none (fun _ => none)
theorem W_codec_inside.ok (A1 : Option Addr) (n1 : Nat) (m1 : Nat) (x1 : Int) (H : Hp) (K : Value → Hp → Prop) (h : W_codec_inside A1 n1 m1 x1 H K) : HCalls Tryd.prog 87 #[.slice A1 n1 m1, .int .i64 x1] H K :=
  hcalls Tryd.func87 rfl (Nat.le_of_ble_eq_true rfl) (hw_safe (Λ := Cuts.none (fun _ => none)) mixWcodec _ _ _ _ _ (Eq.mp (by kernel_rfl) h) (obs_none _ _ _ _ _))

-- codec.word
def W_codec_word.l3 (K : Value → Hp → Prop) : Nat → Option Addr → Nat → Nat → Int → Int → Hp → Prop
  | 0, _, _, _, _, _, _ => False
  | k + 1, A2, n2, m2, x1, x2, H =>
    let R3 := W_codec_word.l3 K k
    BIf (decide (x2 ≥ (0 : Int))) ((0 ≤ (8 : Int) ∧ ixI x2 n2 (NN A2 fun a1 => Ld H (a1.add (x2.toNat * 1)) fun v1 => DI .u8 v1 fun x3 => R3 A2 n2 m2 (bOr .u64 (shlI .u64 x1 (8 : Int)) (IntKind.u64.wrap x3)) (IntKind.i64.wrap (x2 - (1 : Int))) H))) (K (.int .u64 x1) H)
def W_codec_word (A1 : Option Addr) (n1 : Nat) (m1 : Nat) (H : Hp) (K : Value → Hp → Prop) : Prop :=
  (∃ k, W_codec_word.l3 K k A1 n1 m1 (0 : Int) (7 : Int) H)
def W_codec_word.l3.L (K : Value → Hp → Prop) (k : Nat) : Mid := fun E D H =>
  DG (E.get? 0) fun w0 => DSl w0 fun A2 n2 m2 => DG (E.get? 3) fun w3 => DI .u64 w3 fun x1 => DG (E.get? 4) fun w4 => DI .i64 w4 fun x2 => DNilD D (W_codec_word.l3 K k A2 n2 m2 x1 x2 H)
def W_codec_word.Λ3 (_ : Value → Hp → Prop) (_R3 : Option Addr → Nat → Nat → Int → Int → Hp → Prop) : Cuts := Cuts.none (fun _ => none)
def W_codec_word.Λ (K : Value → Hp → Prop) : Cuts := ⟨fun i => none, fun i => match Nat.beq i 3 with | true => some (fun E D H => ∃ k, W_codec_word.l3.L K k E D H) | false => none, (fun _ => none)⟩
theorem W_codec_word.ok (A1 : Option Addr) (n1 : Nat) (m1 : Nat) (H : Hp) (K : Value → Hp → Prop) (h : W_codec_word A1 n1 m1 H K) : HCalls Tryd.prog 88 #[.slice A1 n1 m1] H K :=
  hcalls Tryd.func88 rfl (Nat.le_of_ble_eq_true rfl) (hw_safe (Λ := (W_codec_word.Λ K)) mixWcodec _ _ _ _ _ (Eq.mp (by kernel_rfl) h) (obs_seq obs_region rfl (obs_seq obs_region rfl (obs_seq (obs_seq obs_region rfl (obs_block (obs_loop rfl (fun E D H h => by
      refine Safe.loop' (W_codec_word.l3.L K) (fun E D H h => ?_) (fun k E D H h => ?_) E D H h
      · obtain ⟨w0, e0, g1⟩ := DG.out h; obtain ⟨A2, n2, m2, rfl, g2⟩ := DSl.out g1; obtain ⟨w3, e3, g3⟩ := DG.out g2; obtain ⟨x1, rfl, g4⟩ := DI.out g3; obtain ⟨w4, e4, g5⟩ := DG.out g4; obtain ⟨x2, rfl, g6⟩ := DI.out g5; obtain ⟨rfl, h'⟩ := DNilD.out g6; exact h'
      · obtain ⟨w0, e0, g1⟩ := DG.out h
        obtain ⟨A2, n2, m2, rfl, g2⟩ := DSl.out g1
        obtain ⟨w3, e3, g3⟩ := DG.out g2
        obtain ⟨x1, rfl, g4⟩ := DI.out g3
        obtain ⟨w4, e4, g5⟩ := DG.out g4
        obtain ⟨x2, rfl, g6⟩ := DI.out g5
        obtain ⟨rfl, h'⟩ := DNilD.out g6
        exact (hw_safe (Λ := (W_codec_word.Λ3 K (W_codec_word.l3 K k))) mixWcodec _ _ [(0, .slice A2 n2 m2), (3, .int .u64 x1), (4, .int .i64 x2)] [] H (Eq.mp (by kernel_rfl) h') (obs_seq (obs_seq obs_region rfl (obs_cond obs_skip obs_exit)) rfl (obs_seq (obs_block obs_region) rfl obs_region))).weaken (EnvLe.cons e0 (EnvLe.cons e3 (EnvLe.cons e4 (EnvLe.nil _)))) (Hp.le_refl _))))) rfl (obs_seq obs_region rfl obs_ret)))))

-- codec.set
def W_codec_set.l1 (K : Value → Hp → Prop) : Nat → Option Addr → Nat → Nat → Int → Int → Hp → Prop
  | 0, _, _, _, _, _, _ => False
  | k + 1, A2, n2, m2, x2, x3, H =>
    let R1 := W_codec_set.l1 K k
    BIf (decide (x3 < (8 : Int))) ((0 ≤ (IntKind.u64.wrap (IntKind.i64.wrap ((8 : Int) * x3))) ∧ ixI x3 n2 (NN A2 fun a1 => St H ((a1.add (x3.toNat * 1)).add 0) (.int .u8 (IntKind.u8.wrap (shrI .u64 x2 (IntKind.u64.wrap (IntKind.i64.wrap ((8 : Int) * x3)))))) fun H1 => R1 A2 n2 m2 x2 (IntKind.i64.wrap (x3 + (1 : Int))) H1))) (K (.tuple #[]) H)
def W_codec_set (A1 : Option Addr) (n1 : Nat) (m1 : Nat) (x1 : Int) (H : Hp) (K : Value → Hp → Prop) : Prop :=
  (∃ k, W_codec_set.l1 K k A1 n1 m1 x1 (0 : Int) H)
def W_codec_set.l1.L (K : Value → Hp → Prop) (k : Nat) : Mid := fun E D H =>
  DG (E.get? 0) fun w0 => DSl w0 fun A2 n2 m2 => DG (E.get? 1) fun w1 => DI .u64 w1 fun x2 => DG (E.get? 5) fun w5 => DI .i64 w5 fun x3 => DNilD D (W_codec_set.l1 K k A2 n2 m2 x2 x3 H)
def W_codec_set.Λ1 (_ : Value → Hp → Prop) (_R1 : Option Addr → Nat → Nat → Int → Int → Hp → Prop) : Cuts := Cuts.none (fun _ => none)
def W_codec_set.Λ (K : Value → Hp → Prop) : Cuts := ⟨fun i => none, fun i => match Nat.beq i 1 with | true => some (fun E D H => ∃ k, W_codec_set.l1.L K k E D H) | false => none, (fun _ => none)⟩
theorem W_codec_set.ok (A1 : Option Addr) (n1 : Nat) (m1 : Nat) (x1 : Int) (H : Hp) (K : Value → Hp → Prop) (h : W_codec_set A1 n1 m1 x1 H K) : HCalls Tryd.prog 89 #[.slice A1 n1 m1, .int .u64 x1] H K :=
  hcalls Tryd.func89 rfl (Nat.le_of_ble_eq_true rfl) (hw_safe (Λ := (W_codec_set.Λ K)) mixWcodec _ _ _ _ _ (Eq.mp (by kernel_rfl) h) (obs_seq obs_region rfl (obs_block (obs_loop rfl (fun E D H h => by
      refine Safe.loop' (W_codec_set.l1.L K) (fun E D H h => ?_) (fun k E D H h => ?_) E D H h
      · obtain ⟨w0, e0, g1⟩ := DG.out h; obtain ⟨A2, n2, m2, rfl, g2⟩ := DSl.out g1; obtain ⟨w1, e1, g3⟩ := DG.out g2; obtain ⟨x2, rfl, g4⟩ := DI.out g3; obtain ⟨w5, e5, g5⟩ := DG.out g4; obtain ⟨x3, rfl, g6⟩ := DI.out g5; obtain ⟨rfl, h'⟩ := DNilD.out g6; exact h'
      · obtain ⟨w0, e0, g1⟩ := DG.out h
        obtain ⟨A2, n2, m2, rfl, g2⟩ := DSl.out g1
        obtain ⟨w1, e1, g3⟩ := DG.out g2
        obtain ⟨x2, rfl, g4⟩ := DI.out g3
        obtain ⟨w5, e5, g5⟩ := DG.out g4
        obtain ⟨x3, rfl, g6⟩ := DI.out g5
        obtain ⟨rfl, h'⟩ := DNilD.out g6
        exact (hw_safe (Λ := (W_codec_set.Λ1 K (W_codec_set.l1 K k))) mixWcodec _ _ [(0, .slice A2 n2 m2), (1, .int .u64 x2), (5, .int .i64 x3)] [] H (Eq.mp (by kernel_rfl) h') (obs_seq obs_region rfl (obs_seq (obs_cond obs_skip obs_exit) rfl (obs_seq (obs_block (obs_seq obs_region rfl obs_region)) rfl obs_region)))).weaken (EnvLe.cons e0 (EnvLe.cons e1 (EnvLe.cons e5 (EnvLe.nil _)))) (Hp.le_refl _))))))

end Go.Proofs.YtbnhfcdagoigkaaDoor.W

end
section
/-! Wgen -/
/- Formulas of functions, printed by wip/tools/hwp.py. -/
set_option maxRecDepth 100000
set_option linter.unusedVariables false
namespace Go.Proofs.YtbnhfcdagoigkaaDoor.W
open Go Go.Hw

theorem mixWgen : Tryd.prog.follows .mixedOrders = true := by kernel_rfl
-- gen.Line
def W_gen_Line (x1 : Int) (x2 : Int) (x3 : Int) (x4 : Int) (H : Hp) (K : Value → Hp → Prop) : Prop :=
  Nw H (.obj (.cells #[.int .i64 x1, .int .u64 x2, .int .u64 x3, .int .u64 x4] 102)) fun b1 H1 => LdA H1 (⟨b1, 0, none⟩ : Addr) 4 fun l1 => HCalls Tryd.prog 91 #[.agg l1.toArray] H1 fun v1 H2 => DB v1 fun c1 => BIf (!c1) (K (.string (⟨#[]⟩)) H2) (Ld H2 ((⟨b1, 0, none⟩ : Addr).add 0) fun v2 => DI .i64 v2 fun x5 => ixI x5 6 (LdA H2 ((⟨1, 0, none⟩ : Addr).add (x5.toNat * 2)) 2 fun l2 => Nw H2 (.obj (.cells #[.string ByteArray.empty, .int .i64 (0 : Int)] 170)) fun b2 H3 => StA H3 (⟨b2, 0, none⟩ : Addr) l2.toArray 2 fun H4 => Ld H4 ((⟨b1, 0, none⟩ : Addr).add 1) fun v3 => DI .u64 v3 fun x6 => Ld H4 ((⟨b1, 0, none⟩ : Addr).add 2) fun v4 => DI .u64 v4 fun x7 => Ld H4 ((⟨b1, 0, none⟩ : Addr).add 3) fun v5 => DI .u64 v5 fun x8 => Ld H4 ((⟨b2, 0, none⟩ : Addr).add 1) fun v6 => DI .i64 v6 fun x9 => (Ld H4 ((⟨b2, 0, none⟩ : Addr).add 0) fun v7 => DS v7 fun s1 => (s1.size + ((⟨#[32]⟩) : ByteArray).size ≤ 4611686018427387904 ∧ Nw H4 (.row [.int .u64 x6, .int .u64 x7, .int .u64 x8] 22 3) fun b3 H5 => slB 3 3 none (some x9) fun n1 n2 => HCalls Tryd.prog 33 #[.slice (slA (some ⟨b3, 0, none⟩) 3 n1 1) (n2 - n1) (3 - n1)] H5 fun v8 H6 => DS v8 fun s2 => ((s1 ++ (⟨#[32]⟩)).size + s2.size ≤ 4611686018427387904 ∧ K (.string ((s1 ++ (⟨#[32]⟩)) ++ s2)) H6))) ∧ (Nw H4 (.row [.int .u64 x6, .int .u64 x7, .int .u64 x8] 22 3) fun b4 H7 => slB 3 3 none (some x9) fun n3 n4 => (Ld H7 ((⟨b2, 0, none⟩ : Addr).add 0) fun v9 => DS v9 fun s3 => (s3.size + ((⟨#[32]⟩) : ByteArray).size ≤ 4611686018427387904 ∧ HCalls Tryd.prog 33 #[.slice (slA (some ⟨b4, 0, none⟩) 3 n3 1) (n4 - n3) (3 - n3)] H7 fun v10 H8 => DS v10 fun s4 => ((s3 ++ (⟨#[32]⟩)).size + s4.size ≤ 4611686018427387904 ∧ K (.string ((s3 ++ (⟨#[32]⟩)) ++ s4)) H8))) ∧ (HCalls Tryd.prog 33 #[.slice (slA (some ⟨b4, 0, none⟩) 3 n3 1) (n4 - n3) (3 - n3)] H7 fun v11 H9 => DS v11 fun s5 => Ld H9 ((⟨b2, 0, none⟩ : Addr).add 0) fun v12 => DS v12 fun s6 => (s6.size + ((⟨#[32]⟩) : ByteArray).size ≤ 4611686018427387904 ∧ ((s6 ++ (⟨#[32]⟩)).size + s5.size ≤ 4611686018427387904 ∧ K (.string ((s6 ++ (⟨#[32]⟩)) ++ s5)) H9))))))
def W_gen_Line.Λ (_ : Value → Hp → Prop) : Cuts := Cuts.none (fun i => match Nat.beq i 4 with | true => some ([1, 4, 6, 8, 11], [0, 1, 3, 0, 8, 0, 32, 0, 128, 504, 0, 1024, 4088, 8184, 16383, 32767], 0) | false => none)
theorem W_gen_Line.ok (x1 : Int) (x2 : Int) (x3 : Int) (x4 : Int) (H : Hp) (K : Value → Hp → Prop) (h : W_gen_Line x1 x2 x3 x4 H K) : HCalls Tryd.prog 49 #[.agg #[.int .i64 x1, .int .u64 x2, .int .u64 x3, .int .u64 x4]] H K :=
  hcalls Tryd.func49 rfl (Nat.le_of_ble_eq_true rfl) (hw_safe (Λ := Cuts.none (fun i => match Nat.beq i 4 with | true => some ([1, 4, 6, 8, 11], [0, 1, 3, 0, 8, 0, 32, 0, 128, 504, 0, 1024, 4088, 8184, 16383, 32767], 0) | false => none)) mixWgen _ _ _ _ _ (Eq.mp (by kernel_rfl) h) (obs_none _ _ _ _ _))

-- gen.Read
def W_gen_Read.l3 (K : Value → Hp → Prop) : Nat → Addr → ByteArray → ByteArray → Array Value → Int → Hp → Prop
  | 0, _, _, _, _, _, _ => False
  | k + 1, a1, s4, s5, y1, x1, H =>
    let R3 := W_gen_Read.l3 K k
    BIf (decide (x1 < (6 : Int))) (ixI x1 6 (Nw H (.obj (.cells #[.string ByteArray.empty, .int .i64 (0 : Int)] 170)) fun b2 H3 => StA H3 (⟨b2, 0, none⟩ : Addr) (y1.extract (x1.toNat * 2) (x1.toNat * 2 + 2)) 2 fun H4 => BIf (x1 == (0 : Int)) (R3 a1 s4 s5 y1 (IntKind.i64.wrap (x1 + (1 : Int))) H4) (Ld H4 ((⟨b2, 0, none⟩ : Addr).add 0) fun v5 => DS v5 fun s6 => BIf (!(s6.toList == s4.toList)) (R3 a1 s4 s5 y1 (IntKind.i64.wrap (x1 + (1 : Int))) H4) (HCalls Tryd.prog 34 #[.string s5] H4 fun v6 H5 => DTup v6 fun l6 => DCons l6 fun v7 l7 => DSl v7 fun A1 n1 m1 => DCons l7 fun v8 l8 => DI .i64 v8 fun x2 => DCons l8 fun v9 l9 => DI .i64 v9 fun x3 => DNil l9 (BIf (x3 != (0 : Int)) (StA H5 a1 #[.int .i64 (0 : Int), .int .u64 (0 : Int), .int .u64 (0 : Int), .int .u64 (0 : Int)] 4 fun H6 => LdA H6 a1 4 fun l12 => K (.tuple #[.agg l12.toArray, .int .i64 x3]) H6) (Ld H5 ((⟨b2, 0, none⟩ : Addr).add 1) fun v10 => DI .i64 v10 fun x4 => BIf (((n1 : Nat) : Int) != x4) (StA H5 a1 #[.int .i64 (0 : Int), .int .u64 (0 : Int), .int .u64 (0 : Int), .int .u64 (0 : Int)] 4 fun H7 => LdA H7 a1 4 fun l13 => K (.tuple #[.agg l13.toArray, .int .i64 (17 : Int)]) H7) (Nw H5 (.obj (.cells #[.int .u64 (0 : Int), .int .u64 (0 : Int), .int .u64 (0 : Int)] 174)) fun b3 H8 => slB 3 3 none none fun n2 n3 => CpK Tryd.prog 22 (.slice (slA (some (⟨b3, 0, none⟩ : Addr)) 3 n2 1) (n3 - n2) (3 - n2)) (.slice A1 n1 m1) H8 fun v11 H9 => DI .i64 v11 fun x5 => ixI (0 : Int) 3 (Ld H9 ((⟨b3, 0, none⟩ : Addr).add ((0 : Int).toNat * 1)) fun v12 => DI .u64 v12 fun x6 => ixI (1 : Int) 3 (Ld H9 ((⟨b3, 0, none⟩ : Addr).add ((1 : Int).toNat * 1)) fun v13 => DI .u64 v13 fun x7 => ixI (2 : Int) 3 (Ld H9 ((⟨b3, 0, none⟩ : Addr).add ((2 : Int).toNat * 1)) fun v14 => DI .u64 v14 fun x8 => Nw H9 (.obj (.cells #[.int .i64 (0 : Int), .int .u64 (0 : Int), .int .u64 (0 : Int), .int .u64 (0 : Int)] 102)) fun b4 H10 => StA H10 (⟨b4, 0, none⟩ : Addr) #[.int .i64 x1, .int .u64 x6, .int .u64 x7, .int .u64 x8] 4 fun H11 => LdA H11 (⟨b4, 0, none⟩ : Addr) 4 fun l10 => HCalls Tryd.prog 91 #[.agg l10.toArray] H11 fun v15 H12 => DB v15 fun c2 => BIf (!c2) (StA H12 a1 #[.int .i64 (0 : Int), .int .u64 (0 : Int), .int .u64 (0 : Int), .int .u64 (0 : Int)] 4 fun H13 => LdA H13 a1 4 fun l14 => K (.tuple #[.agg l14.toArray, .int .i64 (18 : Int)]) H13) (LdA H12 (⟨b4, 0, none⟩ : Addr) 4 fun l11 => StA H12 a1 l11.toArray 4 fun H14 => LdA H14 a1 4 fun l15 => K (.tuple #[.agg l15.toArray, .int .i64 (0 : Int)]) H14))))))))))) (StA H a1 #[.int .i64 (0 : Int), .int .u64 (0 : Int), .int .u64 (0 : Int), .int .u64 (0 : Int)] 4 fun H15 => LdA H15 a1 4 fun l16 => K (.tuple #[.agg l16.toArray, .int .i64 (17 : Int)]) H15)
def W_gen_Read (s1 : ByteArray) (H : Hp) (K : Value → Hp → Prop) : Prop :=
  Nw H (.obj (.cells #[.int .i64 (0 : Int), .int .u64 (0 : Int), .int .u64 (0 : Int), .int .u64 (0 : Int)] 102)) fun b1 H1 => HCalls Tryd.prog 92 #[.string s1, .string (⟨#[32]⟩)] H1 fun v1 H2 => DTup v1 fun l1 => DCons l1 fun v2 l2 => DS v2 fun s2 => DCons l2 fun v3 l3 => DS v3 fun s3 => DCons l3 fun v4 l4 => DB v4 fun c1 => DNil l4 (LdA H2 (⟨1, 0, none⟩ : Addr) 12 fun l5 => (∃ k, W_gen_Read.l3 K k (⟨b1, 0, none⟩ : Addr) s2 s3 l5.toArray (0 : Int) H2))
def W_gen_Read.l3.L (K : Value → Hp → Prop) (k : Nat) : Mid := fun E D H =>
  DG (E.get? 2) fun w2 => DP w2 fun pw2 => NN pw2 fun a1 => DG (E.get? 4) fun w4 => DS w4 fun s4 => DG (E.get? 5) fun w5 => DS w5 fun s5 => DG (E.get? 20) fun w20 => DA w20 fun y1 => DG (E.get? 21) fun w21 => DI .i64 w21 fun x1 => DNilD D (W_gen_Read.l3 K k a1 s4 s5 y1 x1 H)
def W_gen_Read.Λ3 (_ : Value → Hp → Prop) (_R3 : Addr → ByteArray → ByteArray → Array Value → Int → Hp → Prop) : Cuts := Cuts.none (fun _ => none)
def W_gen_Read.Λ (K : Value → Hp → Prop) : Cuts := ⟨fun i => none, fun i => match Nat.beq i 3 with | true => some (fun E D H => ∃ k, W_gen_Read.l3.L K k E D H) | false => none, (fun _ => none)⟩
theorem W_gen_Read.ok (s1 : ByteArray) (H : Hp) (K : Value → Hp → Prop) (h : W_gen_Read s1 H K) : HCalls Tryd.prog 50 #[.string s1] H K :=
  hcalls Tryd.func50 rfl (Nat.le_of_ble_eq_true rfl) (hw_safe (Λ := (W_gen_Read.Λ K)) mixWgen _ _ _ _ _ (Eq.mp (by kernel_rfl) h) (obs_seq obs_region rfl (obs_seq obs_region rfl (obs_seq (obs_seq obs_region rfl (obs_block (obs_loop rfl (fun E D H h => by
      refine Safe.loop' (W_gen_Read.l3.L K) (fun E D H h => ?_) (fun k E D H h => ?_) E D H h
      · obtain ⟨w2, e2, g1⟩ := DG.out h; obtain ⟨pw2, rfl, g2⟩ := DP.out g1; obtain ⟨a1, rfl, g3⟩ := NN.out g2; obtain ⟨w4, e4, g4⟩ := DG.out g3; obtain ⟨s4, rfl, g5⟩ := DS.out g4; obtain ⟨w5, e5, g6⟩ := DG.out g5; obtain ⟨s5, rfl, g7⟩ := DS.out g6; obtain ⟨w20, e20, g8⟩ := DG.out g7; obtain ⟨y1, rfl, g9⟩ := DA.out g8; obtain ⟨w21, e21, g10⟩ := DG.out g9; obtain ⟨x1, rfl, g11⟩ := DI.out g10; obtain ⟨rfl, h'⟩ := DNilD.out g11; exact h'
      · obtain ⟨w2, e2, g1⟩ := DG.out h
        obtain ⟨pw2, rfl, g2⟩ := DP.out g1
        obtain ⟨a1, rfl, g3⟩ := NN.out g2
        obtain ⟨w4, e4, g4⟩ := DG.out g3
        obtain ⟨s4, rfl, g5⟩ := DS.out g4
        obtain ⟨w5, e5, g6⟩ := DG.out g5
        obtain ⟨s5, rfl, g7⟩ := DS.out g6
        obtain ⟨w20, e20, g8⟩ := DG.out g7
        obtain ⟨y1, rfl, g9⟩ := DA.out g8
        obtain ⟨w21, e21, g10⟩ := DG.out g9
        obtain ⟨x1, rfl, g11⟩ := DI.out g10
        obtain ⟨rfl, h'⟩ := DNilD.out g11
        exact (hw_safe (Λ := (W_gen_Read.Λ3 K (W_gen_Read.l3 K k))) mixWgen _ _ [(2, .pointer (some a1)), (4, .string s4), (5, .string s5), (20, .agg y1), (21, .int .i64 x1)] [] H (Eq.mp (by kernel_rfl) h') (obs_seq obs_region rfl (obs_seq (obs_cond obs_skip obs_exit) rfl (obs_seq (obs_block (obs_seq obs_region rfl (obs_seq (obs_seq obs_region rfl (obs_cond obs_exit obs_skip)) rfl (obs_seq obs_region rfl (obs_seq (obs_block (obs_seq obs_region rfl (obs_cond (obs_seq obs_region rfl obs_ret) (obs_seq obs_region rfl (obs_cond (obs_seq obs_region rfl obs_ret) obs_skip))))) rfl (obs_seq obs_region rfl (obs_seq obs_region rfl (obs_seq obs_region rfl (obs_seq (obs_seq obs_region rfl (obs_cond (obs_seq obs_region rfl obs_ret) obs_skip)) rfl (obs_seq obs_region rfl obs_ret)))))))))) rfl obs_region)))).weaken (EnvLe.cons e2 (EnvLe.cons e4 (EnvLe.cons e5 (EnvLe.cons e20 (EnvLe.cons e21 (EnvLe.nil _)))))) (Hp.le_refl _))))) rfl (obs_seq obs_region rfl obs_ret)))))

-- gen.Row
def W_gen_Row (x1 : Int) (x2 : Int) (x3 : Int) (x4 : Int) (x5 : Int) (H : Hp) (K : Value → Hp → Prop) : Prop :=
  Nw H (.obj (.cells #[.int .i64 x1, .int .u64 x2, .int .u64 x3, .int .u64 x4] 102)) fun b1 H1 => LdA H1 (⟨b1, 0, none⟩ : Addr) 4 fun l1 => HCalls Tryd.prog 124 #[.agg l1.toArray, .int .i64 (0 : Int), .int .i64 x5] H1 fun v1 H2 => DTup v1 fun l2 => DCons l2 fun v2 l3 => DSl v2 fun A1 n1 m1 => DCons l3 fun v3 l4 => DI .i64 v3 fun x6 => DNil l4 (K (.tuple #[.slice A1 n1 m1, .int .i64 x6]) H2)
def W_gen_Row.Λ (_ : Value → Hp → Prop) : Cuts := Cuts.none (fun _ => none)
theorem W_gen_Row.ok (x1 : Int) (x2 : Int) (x3 : Int) (x4 : Int) (x5 : Int) (H : Hp) (K : Value → Hp → Prop) (h : W_gen_Row x1 x2 x3 x4 x5 H K) : HCalls Tryd.prog 90 #[.agg #[.int .i64 x1, .int .u64 x2, .int .u64 x3, .int .u64 x4], .int .i64 x5] H K :=
  hcalls Tryd.func90 rfl (Nat.le_of_ble_eq_true rfl) (hw_safe (Λ := Cuts.none (fun _ => none)) mixWgen _ _ _ _ _ (Eq.mp (by kernel_rfl) h) (obs_none _ _ _ _ _))

-- gen.Good
def W_gen_Good (x1 : Int) (x2 : Int) (x3 : Int) (x4 : Int) (H : Hp) (K : Value → Hp → Prop) : Prop :=
  Nw H (.obj (.cells #[.int .i64 x1, .int .u64 x2, .int .u64 x3, .int .u64 x4] 102)) fun b1 H1 => Ld H1 ((⟨b1, 0, none⟩ : Addr).add 0) fun v1 => DI .i64 v1 fun x5 => BIf (decide (x5 < (1 : Int))) (K (.bool false) H1) (Ld H1 ((⟨b1, 0, none⟩ : Addr).add 0) fun v2 => DI .i64 v2 fun x6 => BIf (decide (x6 > (5 : Int))) (K (.bool false) H1) (Ld H1 ((⟨b1, 0, none⟩ : Addr).add 1) fun v3 => DI .u64 v3 fun x7 => Ld H1 ((⟨b1, 0, none⟩ : Addr).add 2) fun v4 => DI .u64 v4 fun x8 => Ld H1 ((⟨b1, 0, none⟩ : Addr).add 3) fun v5 => DI .u64 v5 fun x9 => Nw H1 (.row [.int .u64 x7, .int .u64 x8, .int .u64 x9] 22 3) fun b2 H2 => HCalls Tryd.prog 37 #[.slice (some ⟨b2, 0, none⟩) 3 3] H2 fun v6 H3 => DTup v6 fun l1 => DCons l1 fun v7 l2 => DI .i64 v7 fun x10 => DCons l2 fun v8 l3 => DB v8 fun c1 => DNil l3 (BIf c1 (Ld H3 ((⟨b1, 0, none⟩ : Addr).add 0) fun v9 => DI .i64 v9 fun x11 => BIf (x11 != (5 : Int)) (K (.bool true) H3) (Ld H3 ((⟨b1, 0, none⟩ : Addr).add 2) fun v10 => DI .u64 v10 fun x12 => BIf (decide (x12 < (4294967296 : Int))) (Ld H3 ((⟨b1, 0, none⟩ : Addr).add 3) fun v11 => DI .u64 v11 fun x13 => K (.bool (decide (x13 < (4294967296 : Int)))) H3) (K (.bool false) H3))) (K (.bool false) H3))))
def W_gen_Good.Λ (_ : Value → Hp → Prop) : Cuts := Cuts.none (fun _ => none)
theorem W_gen_Good.ok (x1 : Int) (x2 : Int) (x3 : Int) (x4 : Int) (H : Hp) (K : Value → Hp → Prop) (h : W_gen_Good x1 x2 x3 x4 H K) : HCalls Tryd.prog 91 #[.agg #[.int .i64 x1, .int .u64 x2, .int .u64 x3, .int .u64 x4]] H K :=
  hcalls Tryd.func91 rfl (Nat.le_of_ble_eq_true rfl) (hw_safe (Λ := Cuts.none (fun _ => none)) mixWgen _ _ _ _ _ (Eq.mp (by kernel_rfl) h) (obs_none _ _ _ _ _))

-- gen.Part
def W_gen_Part.l10 (K : Value → Hp → Prop) : Nat → Int → Addr → Option Addr → Nat → Nat → Int → Int → Int → Hp → Prop
  | 0, _, _, _, _, _, _, _, _, _ => False
  | k + 1, x8, a1, A2, n2, m2, x9, x10, x11, H =>
    let R10 := W_gen_Part.l10 K k
    BIf (decide (x11 < x10)) (ixI x11 n2 (NN A2 fun a2 => St H ((a2.add (x11.toNat * 1)).add 0) (.int .u64 x9) fun H5 => LdA H5 a1 4 fun l3 => HCalls Tryd.prog 166 #[.agg l3.toArray, .int .u64 x9, .int .i64 (IntKind.i64.wrap ((IntKind.i64.wrap (x8 + x11)) + (1 : Int)))] H5 fun v4 H6 => DI .u64 v4 fun x12 => R10 x8 a1 A2 n2 m2 x12 x10 (IntKind.i64.wrap (x11 + (1 : Int))) H6)) (K (.tuple #[.slice A2 n2 m2, .int .i64 (0 : Int)]) H)
def W_gen_Part (x1 : Int) (x2 : Int) (x3 : Int) (x4 : Int) (x5 : Int) (x6 : Int) (H : Hp) (K : Value → Hp → Prop) : Prop :=
  Nw H (.obj (.cells #[.int .i64 x1, .int .u64 x2, .int .u64 x3, .int .u64 x4] 102)) fun b1 H1 => LdA H1 (⟨b1, 0, none⟩ : Addr) 4 fun l1 => HCalls Tryd.prog 91 #[.agg l1.toArray] H1 fun v1 H2 => DB v1 fun c1 => BIf (!c1) (K (.tuple #[.slice none 0 0, .int .i64 (18 : Int)]) H2) (BIf (decide (x5 < (0 : Int))) (K (.tuple #[.slice none 0 0, .int .i64 (2 : Int)]) H2) (BIf (decide (x5 ≥ (4294967296 : Int))) (K (.tuple #[.slice none 0 0, .int .i64 (2 : Int)]) H2) (BIf (decide (x6 < (0 : Int))) (K (.tuple #[.slice none 0 0, .int .i64 (14 : Int)]) H2) (BIf (decide (x6 > (1048576 : Int))) (K (.tuple #[.slice none 0 0, .int .i64 (14 : Int)]) H2) (BIf (decide (x6 > (IntKind.i64.wrap ((4294967296 : Int) - x5)))) (K (.tuple #[.slice none 0 0, .int .i64 (14 : Int)]) H2) (MkS Tryd.prog 22 x6 x6 H2 fun v2 H3 => DSl v2 fun A1 n1 m1 => LdA H3 (⟨b1, 0, none⟩ : Addr) 4 fun l2 => HCalls Tryd.prog 165 #[.agg l2.toArray, .int .i64 x5] H3 fun v3 H4 => DI .u64 v3 fun x7 => (∃ k, W_gen_Part.l10 K k x5 (⟨b1, 0, none⟩ : Addr) A1 n1 m1 x7 ((n1 : Nat) : Int) (0 : Int) H4)))))))
def W_gen_Part.l10.L (K : Value → Hp → Prop) (k : Nat) : Mid := fun E D H =>
  DG (E.get? 1) fun w1 => DI .i64 w1 fun x8 => DG (E.get? 3) fun w3 => DP w3 fun pw3 => NN pw3 fun a1 => DG (E.get? 8) fun w8 => DSl w8 fun A2 n2 m2 => DG (E.get? 9) fun w9 => DI .u64 w9 fun x9 => DG (E.get? 41) fun w41 => DI .i64 w41 fun x10 => DG (E.get? 42) fun w42 => DI .i64 w42 fun x11 => DNilD D (W_gen_Part.l10 K k x8 a1 A2 n2 m2 x9 x10 x11 H)
def W_gen_Part.Λ10 (_ : Value → Hp → Prop) (_R10 : Int → Addr → Option Addr → Nat → Nat → Int → Int → Int → Hp → Prop) : Cuts := Cuts.none (fun _ => none)
def W_gen_Part.Λ (K : Value → Hp → Prop) : Cuts := ⟨fun i => none, fun i => match Nat.beq i 10 with | true => some (fun E D H => ∃ k, W_gen_Part.l10.L K k E D H) | false => none, (fun _ => none)⟩
theorem W_gen_Part.ok (x1 : Int) (x2 : Int) (x3 : Int) (x4 : Int) (x5 : Int) (x6 : Int) (H : Hp) (K : Value → Hp → Prop) (h : W_gen_Part x1 x2 x3 x4 x5 x6 H K) : HCalls Tryd.prog 124 #[.agg #[.int .i64 x1, .int .u64 x2, .int .u64 x3, .int .u64 x4], .int .i64 x5, .int .i64 x6] H K :=
  hcalls Tryd.func124 rfl (Nat.le_of_ble_eq_true rfl) (hw_safe (Λ := (W_gen_Part.Λ K)) mixWgen _ _ _ _ _ (Eq.mp (by kernel_rfl) h) (obs_seq obs_region rfl (obs_seq (obs_block (obs_seq obs_region rfl (obs_cond (obs_seq obs_region rfl obs_ret) (obs_seq obs_region rfl (obs_cond (obs_seq obs_region rfl obs_ret) (obs_seq obs_region rfl (obs_cond (obs_seq obs_region rfl obs_ret) obs_skip))))))) rfl (obs_seq obs_region rfl (obs_seq obs_region rfl (obs_seq (obs_seq obs_region rfl (obs_block (obs_loop rfl (fun E D H h => by
      refine Safe.loop' (W_gen_Part.l10.L K) (fun E D H h => ?_) (fun k E D H h => ?_) E D H h
      · obtain ⟨w1, e1, g1⟩ := DG.out h; obtain ⟨x8, rfl, g2⟩ := DI.out g1; obtain ⟨w3, e3, g3⟩ := DG.out g2; obtain ⟨pw3, rfl, g4⟩ := DP.out g3; obtain ⟨a1, rfl, g5⟩ := NN.out g4; obtain ⟨w8, e8, g6⟩ := DG.out g5; obtain ⟨A2, n2, m2, rfl, g7⟩ := DSl.out g6; obtain ⟨w9, e9, g8⟩ := DG.out g7; obtain ⟨x9, rfl, g9⟩ := DI.out g8; obtain ⟨w41, e41, g10⟩ := DG.out g9; obtain ⟨x10, rfl, g11⟩ := DI.out g10; obtain ⟨w42, e42, g12⟩ := DG.out g11; obtain ⟨x11, rfl, g13⟩ := DI.out g12; obtain ⟨rfl, h'⟩ := DNilD.out g13; exact h'
      · obtain ⟨w1, e1, g1⟩ := DG.out h
        obtain ⟨x8, rfl, g2⟩ := DI.out g1
        obtain ⟨w3, e3, g3⟩ := DG.out g2
        obtain ⟨pw3, rfl, g4⟩ := DP.out g3
        obtain ⟨a1, rfl, g5⟩ := NN.out g4
        obtain ⟨w8, e8, g6⟩ := DG.out g5
        obtain ⟨A2, n2, m2, rfl, g7⟩ := DSl.out g6
        obtain ⟨w9, e9, g8⟩ := DG.out g7
        obtain ⟨x9, rfl, g9⟩ := DI.out g8
        obtain ⟨w41, e41, g10⟩ := DG.out g9
        obtain ⟨x10, rfl, g11⟩ := DI.out g10
        obtain ⟨w42, e42, g12⟩ := DG.out g11
        obtain ⟨x11, rfl, g13⟩ := DI.out g12
        obtain ⟨rfl, h'⟩ := DNilD.out g13
        exact (hw_safe (Λ := (W_gen_Part.Λ10 K (W_gen_Part.l10 K k))) mixWgen _ _ [(1, .int .i64 x8), (3, .pointer (some a1)), (8, .slice A2 n2 m2), (9, .int .u64 x9), (41, .int .i64 x10), (42, .int .i64 x11)] [] H (Eq.mp (by kernel_rfl) h') (obs_seq obs_region rfl (obs_seq (obs_cond obs_skip obs_exit) rfl (obs_seq (obs_block (obs_seq obs_region rfl (obs_seq obs_region rfl obs_region))) rfl obs_region)))).weaken (EnvLe.cons e1 (EnvLe.cons e3 (EnvLe.cons e8 (EnvLe.cons e9 (EnvLe.cons e41 (EnvLe.cons e42 (EnvLe.nil _))))))) (Hp.le_refl _))))) rfl (obs_seq obs_region rfl obs_ret)))))))

-- gen.at
def W_gen_at (x1 : Int) (x2 : Int) (x3 : Int) (x4 : Int) (x5 : Int) (H : Hp) (K : Value → Hp → Prop) : Prop :=
  Nw H (.obj (.cells #[.int .i64 x1, .int .u64 x2, .int .u64 x3, .int .u64 x4] 102)) fun b1 H1 => Ld H1 ((⟨b1, 0, none⟩ : Addr).add 0) fun v1 => DI .i64 v1 fun x6 => BIf (x6 == (1 : Int)) (Ld H1 ((⟨b1, 0, none⟩ : Addr).add 1) fun v2 => DI .u64 v2 fun x7 => K (.int .u64 x7) H1) (BIf (x6 == (2 : Int)) (Ld H1 ((⟨b1, 0, none⟩ : Addr).add 1) fun v3 => DI .u64 v3 fun x8 => Ld H1 ((⟨b1, 0, none⟩ : Addr).add 2) fun v4 => DI .u64 v4 fun x9 => QCall Tryd.prog 179 #[.int .u64 x9, .int .u64 (IntKind.u64.wrap x5)] H1 fun v5 => DI .u64 v5 fun x10 => QCall Tryd.prog 198 #[.int .u64 x8, .int .u64 x10] H1 fun v6 => DI .u64 v6 fun x11 => K (.int .u64 x11) H1) (BIf (x6 == (3 : Int)) (Ld H1 ((⟨b1, 0, none⟩ : Addr).add 1) fun v7 => DI .u64 v7 fun x12 => Ld H1 ((⟨b1, 0, none⟩ : Addr).add 2) fun v8 => DI .u64 v8 fun x13 => QCall Tryd.prog 181 #[.int .u64 x13, .int .u64 (IntKind.u64.wrap x5)] H1 fun v9 => DI .u64 v9 fun x14 => QCall Tryd.prog 179 #[.int .u64 x12, .int .u64 x14] H1 fun v10 => DI .u64 v10 fun x15 => K (.int .u64 x15) H1) (BIf (x6 == (4 : Int)) (LdA H1 (⟨b1, 0, none⟩ : Addr) 4 fun l1 => HCalls Tryd.prog 199 #[.agg l1.toArray, .int .i64 x5] H1 fun v11 H2 => DI .u64 v11 fun x16 => K (.int .u64 x16) H2) (LdA H1 (⟨b1, 0, none⟩ : Addr) 4 fun l2 => HCalls Tryd.prog 200 #[.agg l2.toArray, .int .i64 x5] H1 fun v12 H3 => DB v12 fun c1 => BIf c1 (Ld H3 ((⟨b1, 0, none⟩ : Addr).add 1) fun v13 => DI .u64 v13 fun x17 => K (.int .u64 x17) H3) (K (.int .u64 (0 : Int)) H3)))))
def W_gen_at.Λ (_ : Value → Hp → Prop) : Cuts := Cuts.none (fun _ => none)
theorem W_gen_at.ok (x1 : Int) (x2 : Int) (x3 : Int) (x4 : Int) (x5 : Int) (H : Hp) (K : Value → Hp → Prop) (h : W_gen_at x1 x2 x3 x4 x5 H K) : HCalls Tryd.prog 165 #[.agg #[.int .i64 x1, .int .u64 x2, .int .u64 x3, .int .u64 x4], .int .i64 x5] H K :=
  hcalls Tryd.func165 rfl (Nat.le_of_ble_eq_true rfl) (hw_safe (Λ := Cuts.none (fun _ => none)) mixWgen _ _ _ _ _ (Eq.mp (by kernel_rfl) h) (obs_none _ _ _ _ _))

-- gen.next
def W_gen_next (x1 : Int) (x2 : Int) (x3 : Int) (x4 : Int) (x5 : Int) (x6 : Int) (H : Hp) (K : Value → Hp → Prop) : Prop :=
  Nw H (.obj (.cells #[.int .i64 x1, .int .u64 x2, .int .u64 x3, .int .u64 x4] 102)) fun b1 H1 => Ld H1 ((⟨b1, 0, none⟩ : Addr).add 0) fun v1 => DI .i64 v1 fun x7 => BIf (x7 == (2 : Int)) (Ld H1 ((⟨b1, 0, none⟩ : Addr).add 2) fun v2 => DI .u64 v2 fun x8 => HCalls Tryd.prog 198 #[.int .u64 x5, .int .u64 x8] H1 fun v3 H2 => DI .u64 v3 fun x9 => K (.int .u64 x9) H2) (BIf (x7 == (3 : Int)) (Ld H1 ((⟨b1, 0, none⟩ : Addr).add 2) fun v4 => DI .u64 v4 fun x10 => HCalls Tryd.prog 179 #[.int .u64 x5, .int .u64 x10] H1 fun v5 H3 => DI .u64 v5 fun x11 => K (.int .u64 x11) H3) (BIf (x7 == (4 : Int)) (Ld H1 ((⟨b1, 0, none⟩ : Addr).add 2) fun v6 => DI .u64 v6 fun x12 => QCall Tryd.prog 179 #[.int .u64 x5, .int .u64 x12] H1 fun v7 => DI .u64 v7 fun x13 => Ld H1 ((⟨b1, 0, none⟩ : Addr).add 3) fun v8 => DI .u64 v8 fun x14 => QCall Tryd.prog 198 #[.int .u64 x13, .int .u64 x14] H1 fun v9 => DI .u64 v9 fun x15 => K (.int .u64 x15) H1) (LdA H1 (⟨b1, 0, none⟩ : Addr) 4 fun l1 => HCalls Tryd.prog 165 #[.agg l1.toArray, .int .i64 x6] H1 fun v10 H4 => DI .u64 v10 fun x16 => K (.int .u64 x16) H4)))
def W_gen_next.Λ (_ : Value → Hp → Prop) : Cuts := Cuts.none (fun _ => none)
theorem W_gen_next.ok (x1 : Int) (x2 : Int) (x3 : Int) (x4 : Int) (x5 : Int) (x6 : Int) (H : Hp) (K : Value → Hp → Prop) (h : W_gen_next x1 x2 x3 x4 x5 x6 H K) : HCalls Tryd.prog 166 #[.agg #[.int .i64 x1, .int .u64 x2, .int .u64 x3, .int .u64 x4], .int .u64 x5, .int .i64 x6] H K :=
  hcalls Tryd.func166 rfl (Nat.le_of_ble_eq_true rfl) (hw_safe (Λ := Cuts.none (fun _ => none)) mixWgen _ _ _ _ _ (Eq.mp (by kernel_rfl) h) (obs_none _ _ _ _ _))

-- gen.chain
def W_gen_chain (x1 : Int) (x2 : Int) (x3 : Int) (x4 : Int) (x5 : Int) (H : Hp) (K : Value → Hp → Prop) : Prop :=
  Nw H (.obj (.cells #[.int .i64 x1, .int .u64 x2, .int .u64 x3, .int .u64 x4] 102)) fun b1 H1 => Ld H1 ((⟨b1, 0, none⟩ : Addr).add 2) fun v1 => DI .u64 v1 fun x6 => HCalls Tryd.prog 219 #[.int .u64 x6, .int .i64 x5] H1 fun v2 H2 => DTup v2 fun l1 => DCons l1 fun v3 l2 => DI .u64 v3 fun x7 => DCons l2 fun v4 l3 => DI .u64 v4 fun x8 => DNil l3 (Ld H2 ((⟨b1, 0, none⟩ : Addr).add 1) fun v5 => DI .u64 v5 fun x9 => QCall Tryd.prog 179 #[.int .u64 x9, .int .u64 x8] H2 fun v6 => DI .u64 v6 fun x10 => Ld H2 ((⟨b1, 0, none⟩ : Addr).add 3) fun v7 => DI .u64 v7 fun x11 => QCall Tryd.prog 179 #[.int .u64 x11, .int .u64 x7] H2 fun v8 => DI .u64 v8 fun x12 => QCall Tryd.prog 198 #[.int .u64 x10, .int .u64 x12] H2 fun v9 => DI .u64 v9 fun x13 => K (.int .u64 x13) H2)
def W_gen_chain.Λ (_ : Value → Hp → Prop) : Cuts := Cuts.none (fun _ => none)
theorem W_gen_chain.ok (x1 : Int) (x2 : Int) (x3 : Int) (x4 : Int) (x5 : Int) (H : Hp) (K : Value → Hp → Prop) (h : W_gen_chain x1 x2 x3 x4 x5 H K) : HCalls Tryd.prog 199 #[.agg #[.int .i64 x1, .int .u64 x2, .int .u64 x3, .int .u64 x4], .int .i64 x5] H K :=
  hcalls Tryd.func199 rfl (Nat.le_of_ble_eq_true rfl) (hw_safe (Λ := Cuts.none (fun _ => none)) mixWgen _ _ _ _ _ (Eq.mp (by kernel_rfl) h) (obs_none _ _ _ _ _))

-- gen.pulses
def W_gen_pulses (x1 : Int) (x2 : Int) (x3 : Int) (x4 : Int) (x5 : Int) (H : Hp) (K : Value → Hp → Prop) : Prop :=
  Nw H (.obj (.cells #[.int .i64 x1, .int .u64 x2, .int .u64 x3, .int .u64 x4] 102)) fun b1 H1 => Ld H1 ((⟨b1, 0, none⟩ : Addr).add 3) fun v1 => DI .u64 v1 fun x6 => BIf (x6 == (0 : Int)) (Ld H1 ((⟨b1, 0, none⟩ : Addr).add 2) fun v2 => DI .u64 v2 fun x7 => K (.bool ((IntKind.u64.wrap x5) == x7)) H1) (Ld H1 ((⟨b1, 0, none⟩ : Addr).add 3) fun v3 => DI .u64 v3 fun x8 => (x8 ≠ 0 ∧ IntKind.u64 = IntKind.u64 ∧ Ld H1 ((⟨b1, 0, none⟩ : Addr).add 2) fun v4 => DI .u64 v4 fun x9 => Ld H1 ((⟨b1, 0, none⟩ : Addr).add 3) fun v5 => DI .u64 v5 fun x10 => (x10 ≠ 0 ∧ IntKind.u64 = IntKind.u64 ∧ K (.bool ((Int.tmod (IntKind.u64.wrap x5) x8) == (Int.tmod x9 x10))) H1)))
def W_gen_pulses.Λ (_ : Value → Hp → Prop) : Cuts := Cuts.none (fun _ => none)
theorem W_gen_pulses.ok (x1 : Int) (x2 : Int) (x3 : Int) (x4 : Int) (x5 : Int) (H : Hp) (K : Value → Hp → Prop) (h : W_gen_pulses x1 x2 x3 x4 x5 H K) : HCalls Tryd.prog 200 #[.agg #[.int .i64 x1, .int .u64 x2, .int .u64 x3, .int .u64 x4], .int .i64 x5] H K :=
  hcalls Tryd.func200 rfl (Nat.le_of_ble_eq_true rfl) (hw_safe (Λ := Cuts.none (fun _ => none)) mixWgen _ _ _ _ _ (Eq.mp (by kernel_rfl) h) (obs_none _ _ _ _ _))

-- gen.ladder
def W_gen_ladder.l3 (K : Value → Hp → Prop) : Nat → Int → Int → Int → Int → Int → Hp → Prop
  | 0, _, _, _, _, _, _ => False
  | k + 1, x3, x4, x5, x6, x7, H =>
    let R3 := W_gen_ladder.l3 K k
    BIf (decide (x7 ≥ (0 : Int))) (HCalls Tryd.prog 179 #[.int .u64 x5, .int .u64 x6] H fun v1 H1 => DI .u64 v1 fun x8 => HCalls Tryd.prog 198 #[.int .u64 x5, .int .u64 x8] H1 fun v2 H2 => DI .u64 v2 fun x9 => HCalls Tryd.prog 179 #[.int .u64 x6, .int .u64 x6] H2 fun v3 H3 => DI .u64 v3 fun x10 => (0 ≤ (IntKind.u64.wrap x7) ∧ BIf ((bAnd .i64 (shrI .i64 x4 (IntKind.u64.wrap x7)) (1 : Int)) == (1 : Int)) (HCalls Tryd.prog 198 #[.int .u64 x9, .int .u64 x10] H3 fun v4 H4 => DI .u64 v4 fun x11 => HCalls Tryd.prog 179 #[.int .u64 x10, .int .u64 x3] H4 fun v5 H5 => DI .u64 v5 fun x12 => R3 x3 x4 x11 x12 (IntKind.i64.wrap (x7 - (1 : Int))) H5) (R3 x3 x4 x9 x10 (IntKind.i64.wrap (x7 - (1 : Int))) H3))) (K (.tuple #[.int .u64 x5, .int .u64 x6]) H)
def W_gen_ladder (x1 : Int) (x2 : Int) (H : Hp) (K : Value → Hp → Prop) : Prop :=
  (∃ k, W_gen_ladder.l3 K k x1 x2 (0 : Int) (1 : Int) (40 : Int) H)
def W_gen_ladder.l3.L (K : Value → Hp → Prop) (k : Nat) : Mid := fun E D H =>
  DG (E.get? 0) fun w0 => DI .u64 w0 fun x3 => DG (E.get? 1) fun w1 => DI .i64 w1 fun x4 => DG (E.get? 4) fun w4 => DI .u64 w4 fun x5 => DG (E.get? 5) fun w5 => DI .u64 w5 fun x6 => DG (E.get? 6) fun w6 => DI .i64 w6 fun x7 => DNilD D (W_gen_ladder.l3 K k x3 x4 x5 x6 x7 H)
def W_gen_ladder.Λ3 (_ : Value → Hp → Prop) (_R3 : Int → Int → Int → Int → Int → Hp → Prop) : Cuts := Cuts.none (fun _ => none)
def W_gen_ladder.Λ (K : Value → Hp → Prop) : Cuts := ⟨fun i => none, fun i => match Nat.beq i 3 with | true => some (fun E D H => ∃ k, W_gen_ladder.l3.L K k E D H) | false => none, (fun _ => none)⟩
theorem W_gen_ladder.ok (x1 : Int) (x2 : Int) (H : Hp) (K : Value → Hp → Prop) (h : W_gen_ladder x1 x2 H K) : HCalls Tryd.prog 219 #[.int .u64 x1, .int .i64 x2] H K :=
  hcalls Tryd.func219 rfl (Nat.le_of_ble_eq_true rfl) (hw_safe (Λ := (W_gen_ladder.Λ K)) mixWgen _ _ _ _ _ (Eq.mp (by kernel_rfl) h) (obs_seq obs_region rfl (obs_seq obs_region rfl (obs_seq (obs_seq obs_region rfl (obs_block (obs_loop rfl (fun E D H h => by
      refine Safe.loop' (W_gen_ladder.l3.L K) (fun E D H h => ?_) (fun k E D H h => ?_) E D H h
      · obtain ⟨w0, e0, g1⟩ := DG.out h; obtain ⟨x3, rfl, g2⟩ := DI.out g1; obtain ⟨w1, e1, g3⟩ := DG.out g2; obtain ⟨x4, rfl, g4⟩ := DI.out g3; obtain ⟨w4, e4, g5⟩ := DG.out g4; obtain ⟨x5, rfl, g6⟩ := DI.out g5; obtain ⟨w5, e5, g7⟩ := DG.out g6; obtain ⟨x6, rfl, g8⟩ := DI.out g7; obtain ⟨w6, e6, g9⟩ := DG.out g8; obtain ⟨x7, rfl, g10⟩ := DI.out g9; obtain ⟨rfl, h'⟩ := DNilD.out g10; exact h'
      · obtain ⟨w0, e0, g1⟩ := DG.out h
        obtain ⟨x3, rfl, g2⟩ := DI.out g1
        obtain ⟨w1, e1, g3⟩ := DG.out g2
        obtain ⟨x4, rfl, g4⟩ := DI.out g3
        obtain ⟨w4, e4, g5⟩ := DG.out g4
        obtain ⟨x5, rfl, g6⟩ := DI.out g5
        obtain ⟨w5, e5, g7⟩ := DG.out g6
        obtain ⟨x6, rfl, g8⟩ := DI.out g7
        obtain ⟨w6, e6, g9⟩ := DG.out g8
        obtain ⟨x7, rfl, g10⟩ := DI.out g9
        obtain ⟨rfl, h'⟩ := DNilD.out g10
        exact (hw_safe (Λ := (W_gen_ladder.Λ3 K (W_gen_ladder.l3 K k))) mixWgen _ _ [(0, .int .u64 x3), (1, .int .i64 x4), (4, .int .u64 x5), (5, .int .u64 x6), (6, .int .i64 x7)] [] H (Eq.mp (by kernel_rfl) h') (obs_seq (obs_seq obs_region rfl (obs_cond obs_skip obs_exit)) rfl (obs_seq (obs_block (obs_seq obs_region rfl (obs_seq obs_region rfl (obs_seq obs_region rfl (obs_cond (obs_seq obs_region rfl obs_region) obs_skip))))) rfl obs_region))).weaken (EnvLe.cons e0 (EnvLe.cons e1 (EnvLe.cons e4 (EnvLe.cons e5 (EnvLe.cons e6 (EnvLe.nil _)))))) (Hp.le_refl _))))) rfl (obs_seq obs_region rfl obs_ret)))))

end Go.Proofs.YtbnhfcdagoigkaaDoor.W

end
