/- The frame of the proofs: from a law's contract over a view of memory to the given row; arguments that came in, opened. -/
import Derived.Test.YtbnhfcdagoigkaaHwN
import Derived.WalkKit
import Derived.ProofKit
import Derived.OpenShut
import Derived.ShutString
import Derived.ChangeOld
import Derived.Below
import Derived.SizedLaws
set_option maxRecDepth 100000
set_option linter.unusedSimpArgs false
set_option linter.unusedVariables false
set_option linter.unnecessarySimpa false
set_option linter.unusedSectionVars false
namespace Go.Hw
open Go Go.RowKit Go.ChangeShapes Go.WideShapes Go.ChangeAt

theorem trodAll_below {H : Type} {enc : TypeId × Value → H} {P : Program} (hl : laidOutB P = true) {W W' : World} (hb : Below W.heap.size W W') :
    ∀ {ts : List TypeId} {vs : List Value} {ds : List (DataW H)} {ps : List MemPlace}, (ts.all fun t => P.readableRec t && decide (t < P.types.size)) = true → (∀ x ∈ ps, x.block < W.heap.size) →
      DataW.TrodAll enc P W 0 (fun _ => true) true ts vs ds ps → DataW.TrodAll enc P W' 0 (fun b => decide (b < W.heap.size)) true ts vs ds ps
  | [], [], [], _, _, _, h => h
  | [], _ :: _, _, _, _, _, h => h.elim
  | [], [], _ :: _, _, _, _, h => h.elim
  | _ :: _, [], _, _, _, _, h => h.elim
  | _ :: _, _ :: _, [], _, _, _, h => h.elim
  | t :: ts, v :: vs, d :: ds, ps, hr, hlt, h => by
    obtain ⟨p, q, h1, h2, rfl⟩ := h
    simp only [List.all_cons, Bool.and_eq_true, decide_eq_true_eq] at hr
    exact ⟨p, q, Below.trod hl hr.1.1 hr.1.2 h1 hb (fun x hx => hlt x (by simp [hx])), trodAll_below hl hb hr.2 (fun x hx => hlt x (by simp [hx])) h2, rfl⟩

/-- Each named variable's type can be read and is a row of the table. -/
def varsRowed' (P : Program) (ns : List String) : Bool :=
  ns.all fun n => match P.globalNamed n with
    | some g => match P.globals[g]? with | some gl => P.readableRec gl.type && decide (gl.type < P.types.size) | none => true
    | none => true

theorem trodVars_below {H : Type} {enc : TypeId × Value → H} {P : Program} (hl : laidOutB P = true) {W W' : World} (hb : Below W.heap.size W W') :
    ∀ {ns : List String} {gs : List (DataW H)} {ps : List MemPlace}, varsRowed' P ns = true → DataW.TrodVars enc P W (fun _ => true) ns gs ps → DataW.TrodVars enc P W' (fun b => decide (b < W.heap.size)) ns gs ps
  | [], [], _, _, h => h
  | [], _ :: _, _, _, h => h.elim
  | _ :: _, [], _, _, h => h.elim
  | n :: ns, d :: ds, ps, hv, h => by
    have hlt := h.lt
    obtain ⟨g, t, cs, fuel, p, q, h1, h2, h3, h4, hs, rfl⟩ := h
    simp only [varsRowed', List.all_cons, Bool.and_eq_true] at hv
    obtain ⟨gl, hg, rfl⟩ := Option.map_eq_some_iff.1 h2
    have ht := hv.1
    rw [h1] at ht
    simp only [hg, Bool.and_eq_true, decide_eq_true_eq] at ht
    have hp : ∀ x ∈ p, x.block < W.heap.size := fun x hx => hlt x (by simp [hx])
    have h3' : W'.var? P n = some cs := by
      unfold World.var? at h3 ⊢
      rw [h1] at h3 ⊢
      simp only [Option.bind_some] at h3 ⊢
      have hgs : g < W.heap.size := by
        cases hh : W.heap[g]? with
        | none => rw [hh] at h3; cases h3
        | some o => exact (Array.getElem?_eq_some_iff.1 hh).1
      rw [hb.block g hgs]; exact h3
    obtain ⟨fuel', h4'⟩ := Below.trod hl ht.1 ht.2 (v := .agg cs) ⟨fuel, h4⟩ hb hp
    exact ⟨g, gl.type, cs, fuel', p, q, h1, h2, h3', h4',
      trodVars_below hl hb (by simpa [varsRowed'] using hv.2) hs, rfl⟩

/-- A law's contract gives what its row asks behind the call. -/
theorem law_post {H : Type} {enc : TypeId × Value → H} {P : Program} {fn : Func} {s : ChangeSpec} {f : FuncId} {W : World} {args : Array Value} {ds gs : List (DataW H)} {before : List MemPlace} {tb : TypeId}
    (hl : laidOutB P = true) (hrt : fn.resultTypes = #[tb]) (hb : P.underlying tb = some .bool) (hrd : (fn.params.toList.all fun t => P.readableRec t && decide (t < P.types.size)) = true) (hv : varsRowed' P s.vars = true)
    (hs : s.fn H (ds ++ gs) = { results := [.lit (.bool true)], args := ds, vars := gs }) (hW : DataW.Whole enc P fn.params.toList s.vars false W args.toList ds gs before)
    (h : HCalls P f args (Full W) (Ret (.bool true) (Full W))) : Calls P f args W fun e W' => ∃ v, e = .returned v ∧ s.post enc P fn false true false false W args v W' := by
  refine (law_calls h).mono fun e W' ⟨he, bel⟩ => ⟨_, he, ?_⟩
  have hlt : ∀ x ∈ before, x.block < W.heap.size := fun x hx => by simpa using hW.lt x hx
  have hW' := hW
  obtain ⟨p, q, hA, hV, rfl, hfz, hnd⟩ := hW
  refine ⟨ds, gs, p ++ q, [], p, q, hW', ?_, ?_, ?_, bel.frame _, fun h => by cases h⟩
  · rw [hs, hrt]
    exact trodAll_mk1 (shut_bool hb _)
  · rw [hs]
    exact trodAll_below hl bel hrd (fun x hx => hlt x (by simp [hx])) hA
  · rw [hs]
    exact trodVars_below hl bel hv hV

theorem Full.cell' {w : World} {a : Addr} {v : Value} (h : w.cell? a = some v) : (Full w).cell? a = some v := by
  unfold World.cell? at h
  unfold Hp.cell? Full
  split at h
  · rename_i c e f hb
    simp only [hb, Option.map_some]
    exact h
  · cases h

theorem mapM_get {α β : Type} {f : α → Option β} : ∀ {l : List α} {ys : List β}, l.mapM f = some ys → ys.length = l.length ∧ ∀ (i : Nat) (x : α), l[i]? = some x → ∃ y, ys[i]? = some y ∧ f x = some y
  | [], ys, h => by
    simp at h; subst h; exact ⟨rfl, fun i x hx => by simp at hx⟩
  | x :: l, ys, h => by
    simp only [List.mapM_cons, Option.bind_eq_bind, Option.bind_eq_some_iff, Option.pure_def, Option.some.injEq] at h
    obtain ⟨y, hy, ys', hys, rfl⟩ := h
    obtain ⟨h1, h2⟩ := mapM_get hys
    refine ⟨by simp [h1], fun i x' hx => ?_⟩
    cases i with
    | zero => simp at hx; subst hx; exact ⟨y, rfl, hy⟩
    | succ i => simpa using h2 i x' (by simpa using hx)

/-- A slice that came in, element by element. -/
theorem trod_sl {H : Type} {enc : TypeId × Value → H} {P : Program} {W : World} {sp : Nat → Bool} {held : Bool} {fuel : Nat} {t e : TypeId} {cs : List Value} {d : DataW H} {ps : List MemPlace} (hu : P.underlying t = some (.slice e)) (h : DataW.trod enc P W 0 sp held fuel t cs = some (d, ps)) :
    ∃ A n c, cs = [.slice A n c] ∧ n ≤ c ∧ c ≤ maxLen ∧ ∃ rows : List (List Value), rows.length = n ∧ ∀ (i : Nat) (r : List Value), rows[i]? = some r → ∃ a, A = some a ∧ (∀ j v, r[j]? = some v → (Full W).cell? (a.add (i * P.cellsOf e + j)) = some v) ∧ r.length = P.cellsOf e ∧
      ∃ f d' p', DataW.trod enc P W 0 sp held f e r = some (d', p') := by
  cases fuel with
  | zero => simp [DataW.trod] at h
  | succ fuel =>
    unfold DataW.trod at h
    rw [hu] at h
    match cs, h with
    | [.slice none 0 0], h => exact ⟨none, 0, 0, rfl, Nat.le_refl _, Nat.zero_le _, [], rfl, fun i r hr => by simp at hr⟩
    | [.slice (some a) n c], h =>
      simp only at h
      split at h
      · rename_i hc
        obtain ⟨elems, he, h⟩ := Option.bind_eq_some_iff.1 h
        obtain ⟨hl, hg⟩ := mapM_get he
        have hrow : ∀ i, i < n → ∃ r, W.cells? 0 (a.add (i * P.cellsOf e)) (P.cellsOf e) = some r ∧ ∃ x, DataW.trod enc P W 0 sp held fuel e r = some x := fun i hi => by
          obtain ⟨y, _, hy⟩ := hg i i (by simp [hi])
          obtain ⟨r, hr, hy⟩ := Option.bind_eq_some_iff.1 hy
          exact ⟨r, hr, y, hy⟩
        have hr0 : ∀ i, i < n → ∃ r, W.cells? 0 (a.add (i * P.cellsOf e)) (P.cellsOf e) = some r := fun i hi => (hrow i hi).imp fun _ h => h.1
        let rows := (List.range n).map fun i => (W.cells? 0 (a.add (i * P.cellsOf e)) (P.cellsOf e)).getD []
        refine ⟨some a, n, c, rfl, hc.2.1, hc.2.2, rows, by simp [rows], fun i r hr => ⟨a, rfl, ?_⟩⟩
        have hi : i < n := by
          have := (List.getElem?_eq_some_iff.1 hr).1
          simpa [rows] using this
        obtain ⟨r', hr', x, hx⟩ := hrow i hi
        have : r = r' := by
          simp only [rows, List.getElem?_map, List.getElem?_range hi, Option.map_some, hr', Option.getD_some, Option.some.injEq] at hr
          exact hr.symm
        subst this
        unfold World.cells? at hr'
        rw [if_pos (Nat.zero_le _)] at hr'
        obtain ⟨hl', hg'⟩ := mapM_get hr'
        refine ⟨fun j v hv => ?_, by simpa using hl', fuel, x.1, x.2, hx⟩
        have hj : j < P.cellsOf e := by
          have := (List.getElem?_eq_some_iff.1 hv).1
          rw [hl'] at this; simpa using this
        obtain ⟨y, hy, hy'⟩ := hg' j j (by simp [hj])
        rw [hv] at hy; cases hy
        have ha : (a.add (i * P.cellsOf e)).add j = a.add (i * P.cellsOf e + j) := by
          unfold Addr.add
          by_cases h1 : i * P.cellsOf e = 0 <;> by_cases h2 : j = 0 <;> simp_all [Nat.add_assoc]
        rw [← ha]
        exact Full.cell' hy'
      · cases h
    | [.slice none (_ + 1) _], h => simp at h
    | [.slice none 0 (_ + 1)], h => simp at h
    | [], h => simp at h
    | _ :: _ :: _, h => simp at h
    | [.int ..], h => simp at h

/-- Elements of one cell, each of which is told. -/
theorem rows_cells {H : Hp} {A : Option Addr} {n : Nat} {α : Type} {g : α → Value} {q : α → Prop} {rows : List (List Value)} (hl : rows.length = n)
    (h : ∀ (i : Nat) (r : List Value), rows[i]? = some r → ∃ a, A = some a ∧ (∀ j v, r[j]? = some v → H.cell? (a.add (i * 1 + j)) = some v) ∧ ∃ x, r = [g x] ∧ q x) : ∃ l : List α, l.length = n ∧ Cells H A (l.map g) ∧ ∀ x ∈ l, q x := by
  have hx : ∀ i : Fin rows.length, ∃ x, rows[i] = [g x] ∧ q x := fun i => by
    obtain ⟨_, _, _, x, hx, hq⟩ := h i rows[i] (by simp)
    exact ⟨x, hx, hq⟩
  let f : Fin rows.length → α := fun i => Classical.choose (hx i)
  have hf : ∀ i : Fin rows.length, rows[i] = [g (f i)] ∧ q (f i) := fun i => Classical.choose_spec (hx i)
  refine ⟨List.ofFn f, by simp [hl], fun i v hv => ?_, fun x hx => ?_⟩
  · rw [List.getElem?_map] at hv
    obtain ⟨y, hy, rfl⟩ := Option.map_eq_some_iff.1 hv
    have hi : i < rows.length := by
      have := (List.getElem?_eq_some_iff.1 hy).1
      simpa using this
    have hy' : y = f ⟨i, hi⟩ := by
      rw [List.getElem?_ofFn] at hy
      simp only [hi, dif_pos, Option.some.injEq] at hy
      exact hy.symm
    subst hy'
    obtain ⟨a, ha, hc, _⟩ := h i rows[i] (by simp)
    refine ⟨a, ha, ?_⟩
    have := hc 0 (g (f ⟨i, hi⟩)) (by rw [show rows[i] = [g (f ⟨i, hi⟩)] from (hf ⟨i, hi⟩).1]; rfl)
    simpa using this
  · obtain ⟨i, rfl⟩ := List.mem_ofFn.1 hx
    exact (hf i).2

section
variable {H : Type} {enc : TypeId × Value → H} {P : Program} {W : World} {t e : TypeId} {v : Value} {d : DataW H} {ps : List MemPlace} {r : Reach} {base : Nat}

theorem trod_ints {fuel : Nat} {k : IntKind} {cs : List Value} (hu : P.underlying t = some (.slice e)) (he : P.underlying e = some (.int k)) (h1 : P.cellsOf e = 1) (h : DataW.trod enc P W 0 (fun _ => true) true fuel t cs = some (d, ps)) :
    ∃ A n c, cs = [.slice A n c] ∧ n ≤ c ∧ c ≤ maxLen ∧ ∃ ns : List Int, ns.length = n ∧ Cells (Full W) A (ns.map (.int k)) ∧ ∀ x ∈ ns, (Lit.int k x).wf = true := by
  obtain ⟨A, n, c, rfl, h2, h3, rows, hl, hr⟩ := trod_sl hu h
  refine ⟨A, n, c, rfl, h2, h3, ?_⟩
  refine rows_cells (g := fun x => Value.int k x) hl fun i r hi => ?_
  obtain ⟨a, ha, hc, hlen, f, d', p', hd⟩ := hr i r hi
  rw [h1] at hc
  obtain ⟨x, hx, _, hw⟩ := DataW.trod_int he hd
  exact ⟨a, ha, hc, x, hx, hw⟩

theorem trod_bytes {fuel : Nat} {cs : List Value} (hu : P.underlying t = some (.slice e)) (he : P.underlying e = some (.int .u8)) (h1 : P.cellsOf e = 1) (h : DataW.trod enc P W 0 (fun _ => true) true fuel t cs = some (d, ps)) :
    ∃ A n c, cs = [.slice A n c] ∧ n ≤ c ∧ c ≤ maxLen ∧ ∃ bs : List UInt8, bs.length = n ∧ Cells (Full W) A (byteVals bs) := by
  obtain ⟨A, n, c, rfl, h2, h3, ns, hl, hc, hw⟩ := trod_ints hu he h1 h
  refine ⟨A, n, c, rfl, h2, h3, ns.map fun x => UInt8.ofNat x.toNat, by simpa using hl, ?_⟩
  have : byteVals (ns.map fun x => UInt8.ofNat x.toNat) = ns.map (.int .u8) := by
    unfold byteVals
    rw [List.map_map]
    apply List.map_congr_left
    intro x hx
    have := hw x hx
    simp only [Lit.wf, Bool.and_eq_true, decide_eq_true_eq] at this
    obtain ⟨h4, h5⟩ := this
    have h4' : 0 ≤ x := h4
    have h5' : x ≤ 255 := h5
    simp only [Function.comp, Value.int.injEq, true_and]
    rw [UInt8.toNat_ofNat_of_lt' (by show x.toNat < 256; omega)]
    omega
  rw [this]; exact hc

theorem trod_words {fuel : Nat} {cs : List Value} (hu : P.underlying t = some (.slice e)) (he : P.underlying e = some (.int .u64)) (h1 : P.cellsOf e = 1) (h : DataW.trod enc P W 0 (fun _ => true) true fuel t cs = some (d, ps)) :
    ∃ A n c, cs = [.slice A n c] ∧ n ≤ c ∧ c ≤ maxLen ∧ ∃ l : List UInt64, l.length = n ∧ Cells (Full W) A (wordVals l) := by
  obtain ⟨A, n, c, rfl, h2, h3, ns, hl, hc, hw⟩ := trod_ints hu he h1 h
  refine ⟨A, n, c, rfl, h2, h3, ns.map fun x => UInt64.ofNat x.toNat, by simpa using hl, ?_⟩
  have : wordVals (ns.map fun x => UInt64.ofNat x.toNat) = ns.map (.int .u64) := by
    unfold wordVals
    rw [List.map_map]
    apply List.map_congr_left
    intro x hx
    have := hw x hx
    simp only [Lit.wf, Bool.and_eq_true, decide_eq_true_eq] at this
    obtain ⟨h4, h5⟩ := this
    have h4' : 0 ≤ x := h4
    have h5' : x ≤ 18446744073709551615 := h5
    simp only [Function.comp, Value.int.injEq, true_and]
    rw [UInt64.toNat_ofNat_of_lt' (by show x.toNat < 18446744073709551616; omega)]
    omega
  rw [this]; exact hc

theorem trod_bools {fuel : Nat} {cs : List Value} (hu : P.underlying t = some (.slice e)) (he : P.underlying e = some .bool) (h1 : P.cellsOf e = 1) (h : DataW.trod enc P W 0 (fun _ => true) true fuel t cs = some (d, ps)) :
    ∃ A n c, cs = [.slice A n c] ∧ n ≤ c ∧ c ≤ maxLen ∧ ∃ ns : List Bool, ns.length = n ∧ Cells (Full W) A (ns.map .bool) := by
  obtain ⟨A, n, c, rfl, h2, h3, rows, hl, hr⟩ := trod_sl hu h
  obtain ⟨ns, h4, h5, _⟩ := rows_cells (g := Value.bool) (q := fun _ => True) hl fun i r hi => by
    obtain ⟨a, ha, hc, hlen, f, d', p', hd⟩ := hr i r hi
    rw [h1] at hc
    obtain ⟨x, hx, _⟩ := DataW.trod_bool he hd
    exact ⟨a, ha, hc, x, hx, trivial⟩
  exact ⟨A, n, c, rfl, h2, h3, ns, h4, h5⟩

/-- Slices of bytes, of words. -/
theorem rows_bytes {A : Option Addr} {n : Nat} (hu : P.underlying t = some (.slice e)) (he : P.underlying e = some (.int .u8)) (h1 : P.cellsOf e = 1) (ht : P.cellsOf t = 1) {rows : List (List Value)} (hl : rows.length = n)
    (h : ∀ (i : Nat) (r : List Value), rows[i]? = some r → ∃ a, A = some a ∧ (∀ j v, r[j]? = some v → (Full W).cell? (a.add (i * P.cellsOf t + j)) = some v) ∧ r.length = P.cellsOf t ∧ ∃ f d' p', DataW.trod enc P W 0 (fun _ => true) true f t r = some (d', p')) :
    ∃ l : List (Option Addr × Nat × Nat × List UInt8), l.length = n ∧ Cells (Full W) A (l.map fun p => .slice p.1 p.2.1 p.2.2.1) ∧ ∀ p ∈ l, p.2.1 = p.2.2.2.length ∧ p.2.1 ≤ 9223372036854775807 ∧ Cells (Full W) p.1 (byteVals p.2.2.2) := by
  refine rows_cells hl fun i r hi => ?_
  obtain ⟨a, ha, hc, hlen, f, d', p', hd⟩ := h i r hi
  rw [ht] at hc
  obtain ⟨A', n', c', rfl, h3, h4, bs, h5, h6⟩ := trod_bytes hu he h1 hd
  exact ⟨a, ha, hc, (A', n', c', bs), rfl, h5.symm, Nat.le_trans h3 h4, h6⟩

theorem rows_words {A : Option Addr} {n : Nat} (hu : P.underlying t = some (.slice e)) (he : P.underlying e = some (.int .u64)) (h1 : P.cellsOf e = 1) (ht : P.cellsOf t = 1) {rows : List (List Value)} (hl : rows.length = n)
    (h : ∀ (i : Nat) (r : List Value), rows[i]? = some r → ∃ a, A = some a ∧ (∀ j v, r[j]? = some v → (Full W).cell? (a.add (i * P.cellsOf t + j)) = some v) ∧ r.length = P.cellsOf t ∧ ∃ f d' p', DataW.trod enc P W 0 (fun _ => true) true f t r = some (d', p')) :
    ∃ l : List (Option Addr × Nat × Nat × List UInt64), l.length = n ∧ Cells (Full W) A (l.map fun p => .slice p.1 p.2.1 p.2.2.1) ∧ ∀ p ∈ l, p.2.1 = p.2.2.2.length ∧ p.2.1 ≤ 9223372036854775807 ∧ Cells (Full W) p.1 (wordVals p.2.2.2) := by
  refine rows_cells hl fun i r hi => ?_
  obtain ⟨a, ha, hc, hlen, f, d', p', hd⟩ := h i r hi
  rw [ht] at hc
  obtain ⟨A', n', c', rfl, h3, h4, bs, h5, h6⟩ := trod_words hu he h1 hd
  exact ⟨a, ha, hc, (A', n', c', bs), rfl, h5.symm, Nat.le_trans h3 h4, h6⟩

/-- A slice that came in: its value. -/
theorem open_sl (hu : P.underlying t = some (.slice e)) (hval : Value.okWide P W r base t v) (h : DataW.Trod enc P W 0 (fun _ => true) true t v d ps) : ∃ A n c, v = .slice A n c ∧ ∃ fuel, DataW.trod enc P W 0 (fun _ => true) true fuel t [.slice A n c] = some (d, ps) := by
  obtain ⟨A, n, c, rfl⟩ := okWide_slice hu hval
  obtain ⟨fuel, h⟩ := h
  exact ⟨A, n, c, rfl, fuel, h⟩
end

theorem wf_int {k : IntKind} {n : Int} (h : (Lit.int k n).wf = true) : k.min ≤ n ∧ n ≤ k.max := by
  simpa [Lit.wf] using h

end Go.Hw
