import Derived.WalkKit
import Derived.ProofKit
import Derived.OpenShut
import Derived.ShutString
import Derived.ChangeOld
import Derived.Below
import Derived.SizedLaws
import Derived.LaidEql
import Derived.MapKept
import Derived.Test.YtghajiefpmcpmaaGreatDoorProg
import Derived.Test.YtghajiefpmcpmaaGreatDoorPkRingSafe1
section
/-! HwR -/
/- The frame of the proofs: from a law's contract over a view of memory to the given row; arguments that came in, opened. -/
set_option maxRecDepth 100000
set_option linter.unusedSimpArgs false
set_option linter.unusedVariables false
set_option linter.unnecessarySimpa false
set_option linter.unusedSectionVars false
namespace Go.Hw
open Go Go.RowKit Go.ChangeShapes Go.WideShapes Go.ChangeAt

theorem trodAll_below {H : Type} {enc : TypeId × Value → H} {P : Program} (hl : laidOutB P = true) {W W' : World} (hb : Below W.heap.size W W') :
    ∀ {ts : List TypeId} {vs : List Value} {ds : List (DataW H)} {ps : List MemPlace}, (ts.all fun t => P.readableRec t && decide (t < P.types.size)) = true → (∀ x ∈ ps, x.block < W.heap.size) →
      DataW.TrodAll enc P W 0 (fun _ => true) true ts vs ds ps → DataW.TrodAll enc P W' 0 (fun b => decide (b < W.heap.size)) true ts vs ds ps
  | [], [], [], _, _, _, h => h
  | [], _ :: _, _, _, _, _, h => h.elim
  | [], [], _ :: _, _, _, _, h => h.elim
  | _ :: _, [], _, _, _, _, h => h.elim
  | _ :: _, _ :: _, [], _, _, _, h => h.elim
  | t :: ts, v :: vs, d :: ds, ps, hr, hlt, h => by
    obtain ⟨p, q, h1, h2, rfl⟩ := h
    simp only [List.all_cons, Bool.and_eq_true, decide_eq_true_eq] at hr
    exact ⟨p, q, Below.trod hl hr.1.1 hr.1.2 h1 hb (fun x hx => hlt x (by simp [hx])), trodAll_below hl hb hr.2 (fun x hx => hlt x (by simp [hx])) h2, rfl⟩

/-- Each named variable's type can be read and is a row of the table. -/
def varsRowed' (P : Program) (ns : List String) : Bool :=
  ns.all fun n => match P.globalNamed n with
    | some g => match P.globals[g]? with | some gl => P.readableRec gl.type && decide (gl.type < P.types.size) | none => true
    | none => true

theorem trodVars_below {H : Type} {enc : TypeId × Value → H} {P : Program} (hl : laidOutB P = true) {W W' : World} (hb : Below W.heap.size W W') :
    ∀ {ns : List String} {gs : List (DataW H)} {ps : List MemPlace}, varsRowed' P ns = true → DataW.TrodVars enc P W (fun _ => true) ns gs ps → DataW.TrodVars enc P W' (fun b => decide (b < W.heap.size)) ns gs ps
  | [], [], _, _, h => h
  | [], _ :: _, _, _, h => h.elim
  | _ :: _, [], _, _, h => h.elim
  | n :: ns, d :: ds, ps, hv, h => by
    have hlt := h.lt
    obtain ⟨g, t, cs, fuel, p, q, h1, h2, h3, h4, hs, rfl⟩ := h
    simp only [varsRowed', List.all_cons, Bool.and_eq_true] at hv
    obtain ⟨gl, hg, rfl⟩ := Option.map_eq_some_iff.1 h2
    have ht := hv.1
    rw [h1] at ht
    simp only [hg, Bool.and_eq_true, decide_eq_true_eq] at ht
    have hp : ∀ x ∈ p, x.block < W.heap.size := fun x hx => hlt x (by simp [hx])
    have h3' : W'.var? P n = some cs := by
      unfold World.var? at h3 ⊢
      rw [h1] at h3 ⊢
      simp only [Option.bind_some] at h3 ⊢
      have hgs : g < W.heap.size := by
        cases hh : W.heap[g]? with
        | none => rw [hh] at h3; cases h3
        | some o => exact (Array.getElem?_eq_some_iff.1 hh).1
      rw [hb.block g hgs]; exact h3
    obtain ⟨fuel', h4'⟩ := Below.trod hl ht.1 ht.2 (v := .agg cs) ⟨fuel, h4⟩ hb hp
    exact ⟨g, gl.type, cs, fuel', p, q, h1, h2, h3', h4',
      trodVars_below hl hb (by simpa [varsRowed'] using hv.2) hs, rfl⟩

/-- A law's contract gives what its row asks behind the call. -/
theorem law_post {H : Type} {enc : TypeId × Value → H} {P : Program} {fn : Func} {s : ChangeSpec} {f : FuncId} {W : World} {args : Array Value} {ds gs : List (DataW H)} {before : List MemPlace} {tb : TypeId}
    (hl : laidOutB P = true) (hrt : fn.resultTypes = #[tb]) (hb : P.underlying tb = some .bool) (hrd : (fn.params.toList.all fun t => P.readableRec t && decide (t < P.types.size)) = true) (hv : varsRowed' P s.vars = true)
    (hs : s.fn H (ds ++ gs) = { results := [.lit (.bool true)], args := ds, vars := gs }) (hW : DataW.Whole enc P fn.params.toList s.vars false W args.toList ds gs before)
    (h : HCalls P f args (Full W) (Ret (.bool true) (Full W))) : Calls P f args W fun e W' => ∃ v, e = .returned v ∧ s.post enc P fn false true false false W args v W' := by
  refine (law_calls h).mono fun e W' ⟨he, bel⟩ => ⟨_, he, ?_⟩
  have hlt : ∀ x ∈ before, x.block < W.heap.size := fun x hx => by simpa using hW.lt x hx
  have hW' := hW
  obtain ⟨p, q, hA, hV, rfl, hfz, hnd⟩ := hW
  refine ⟨ds, gs, p ++ q, [], p, q, hW', ?_, ?_, ?_, bel.frame _, fun h => by cases h⟩
  · rw [hs, hrt]
    exact trodAll_mk1 (shut_bool hb _)
  · rw [hs]
    exact trodAll_below hl bel hrd (fun x hx => hlt x (by simp [hx])) hA
  · rw [hs]
    exact trodVars_below hl bel hv hV

theorem Full.cell' {w : World} {a : Addr} {v : Value} (h : w.cell? a = some v) : (Full w).cell? a = some v := by
  unfold World.cell? at h
  unfold Hp.cell? Full
  split at h
  · rename_i c e f hb
    simp only [hb, Option.map_some]
    exact h
  · cases h

theorem mapM_get {α β : Type} {f : α → Option β} : ∀ {l : List α} {ys : List β}, l.mapM f = some ys → ys.length = l.length ∧ ∀ (i : Nat) (x : α), l[i]? = some x → ∃ y, ys[i]? = some y ∧ f x = some y
  | [], ys, h => by
    simp at h; subst h; exact ⟨rfl, fun i x hx => by simp at hx⟩
  | x :: l, ys, h => by
    simp only [List.mapM_cons, Option.bind_eq_bind, Option.bind_eq_some_iff, Option.pure_def, Option.some.injEq] at h
    obtain ⟨y, hy, ys', hys, rfl⟩ := h
    obtain ⟨h1, h2⟩ := mapM_get hys
    refine ⟨by simp [h1], fun i x' hx => ?_⟩
    cases i with
    | zero => simp at hx; subst hx; exact ⟨y, rfl, hy⟩
    | succ i => simpa using h2 i x' (by simpa using hx)

/-- A slice that came in, element by element. -/
theorem trod_sl {H : Type} {enc : TypeId × Value → H} {P : Program} {W : World} {sp : Nat → Bool} {held : Bool} {fuel : Nat} {t e : TypeId} {cs : List Value} {d : DataW H} {ps : List MemPlace} (hu : P.underlying t = some (.slice e)) (h : DataW.trod enc P W 0 sp held fuel t cs = some (d, ps)) :
    ∃ A n c, cs = [.slice A n c] ∧ n ≤ c ∧ c ≤ maxLen ∧ ∃ rows : List (List Value), rows.length = n ∧ ∀ (i : Nat) (r : List Value), rows[i]? = some r → ∃ a, A = some a ∧ (∀ j v, r[j]? = some v → (Full W).cell? (a.add (i * P.cellsOf e + j)) = some v) ∧ r.length = P.cellsOf e ∧
      ∃ f d' p', DataW.trod enc P W 0 sp held f e r = some (d', p') := by
  cases fuel with
  | zero => simp [DataW.trod] at h
  | succ fuel =>
    unfold DataW.trod at h
    rw [hu] at h
    match cs, h with
    | [.slice none 0 0], h => exact ⟨none, 0, 0, rfl, Nat.le_refl _, Nat.zero_le _, [], rfl, fun i r hr => by simp at hr⟩
    | [.slice (some a) n c], h =>
      simp only at h
      split at h
      · rename_i hc
        obtain ⟨elems, he, h⟩ := Option.bind_eq_some_iff.1 h
        obtain ⟨hl, hg⟩ := mapM_get he
        have hrow : ∀ i, i < n → ∃ r, W.cells? 0 (a.add (i * P.cellsOf e)) (P.cellsOf e) = some r ∧ ∃ x, DataW.trod enc P W 0 sp held fuel e r = some x := fun i hi => by
          obtain ⟨y, _, hy⟩ := hg i i (by simp [hi])
          obtain ⟨r, hr, hy⟩ := Option.bind_eq_some_iff.1 hy
          exact ⟨r, hr, y, hy⟩
        have hr0 : ∀ i, i < n → ∃ r, W.cells? 0 (a.add (i * P.cellsOf e)) (P.cellsOf e) = some r := fun i hi => (hrow i hi).imp fun _ h => h.1
        let rows := (List.range n).map fun i => (W.cells? 0 (a.add (i * P.cellsOf e)) (P.cellsOf e)).getD []
        refine ⟨some a, n, c, rfl, hc.2.1, hc.2.2, rows, by simp [rows], fun i r hr => ⟨a, rfl, ?_⟩⟩
        have hi : i < n := by
          have := (List.getElem?_eq_some_iff.1 hr).1
          simpa [rows] using this
        obtain ⟨r', hr', x, hx⟩ := hrow i hi
        have : r = r' := by
          simp only [rows, List.getElem?_map, List.getElem?_range hi, Option.map_some, hr', Option.getD_some, Option.some.injEq] at hr
          exact hr.symm
        subst this
        unfold World.cells? at hr'
        rw [if_pos (Nat.zero_le _)] at hr'
        obtain ⟨hl', hg'⟩ := mapM_get hr'
        refine ⟨fun j v hv => ?_, by simpa using hl', fuel, x.1, x.2, hx⟩
        have hj : j < P.cellsOf e := by
          have := (List.getElem?_eq_some_iff.1 hv).1
          rw [hl'] at this; simpa using this
        obtain ⟨y, hy, hy'⟩ := hg' j j (by simp [hj])
        rw [hv] at hy; cases hy
        have ha : (a.add (i * P.cellsOf e)).add j = a.add (i * P.cellsOf e + j) := by
          unfold Addr.add
          by_cases h1 : i * P.cellsOf e = 0 <;> by_cases h2 : j = 0 <;> simp_all [Nat.add_assoc]
        rw [← ha]
        exact Full.cell' hy'
      · cases h
    | [.slice none (_ + 1) _], h => simp at h
    | [.slice none 0 (_ + 1)], h => simp at h
    | [], h => simp at h
    | _ :: _ :: _, h => simp at h
    | [.int ..], h => simp at h

/-- Elements of one cell, each of which is told. -/
theorem rows_cells {H : Hp} {A : Option Addr} {n : Nat} {α : Type} {g : α → Value} {q : α → Prop} {rows : List (List Value)} (hl : rows.length = n)
    (h : ∀ (i : Nat) (r : List Value), rows[i]? = some r → ∃ a, A = some a ∧ (∀ j v, r[j]? = some v → H.cell? (a.add (i * 1 + j)) = some v) ∧ ∃ x, r = [g x] ∧ q x) : ∃ l : List α, l.length = n ∧ Cells H A (l.map g) ∧ ∀ x ∈ l, q x := by
  have hx : ∀ i : Fin rows.length, ∃ x, rows[i] = [g x] ∧ q x := fun i => by
    obtain ⟨_, _, _, x, hx, hq⟩ := h i rows[i] (by simp)
    exact ⟨x, hx, hq⟩
  let f : Fin rows.length → α := fun i => Classical.choose (hx i)
  have hf : ∀ i : Fin rows.length, rows[i] = [g (f i)] ∧ q (f i) := fun i => Classical.choose_spec (hx i)
  refine ⟨List.ofFn f, by simp [hl], fun i v hv => ?_, fun x hx => ?_⟩
  · rw [List.getElem?_map] at hv
    obtain ⟨y, hy, rfl⟩ := Option.map_eq_some_iff.1 hv
    have hi : i < rows.length := by
      have := (List.getElem?_eq_some_iff.1 hy).1
      simpa using this
    have hy' : y = f ⟨i, hi⟩ := by
      rw [List.getElem?_ofFn] at hy
      simp only [hi, dif_pos, Option.some.injEq] at hy
      exact hy.symm
    subst hy'
    obtain ⟨a, ha, hc, _⟩ := h i rows[i] (by simp)
    refine ⟨a, ha, ?_⟩
    have := hc 0 (g (f ⟨i, hi⟩)) (by rw [show rows[i] = [g (f ⟨i, hi⟩)] from (hf ⟨i, hi⟩).1]; rfl)
    simpa using this
  · obtain ⟨i, rfl⟩ := List.mem_ofFn.1 hx
    exact (hf i).2

section
variable {H : Type} {enc : TypeId × Value → H} {P : Program} {W : World} {t e : TypeId} {v : Value} {d : DataW H} {ps : List MemPlace} {r : Reach} {base : Nat}

theorem trod_ints {fuel : Nat} {k : IntKind} {cs : List Value} (hu : P.underlying t = some (.slice e)) (he : P.underlying e = some (.int k)) (h1 : P.cellsOf e = 1) (h : DataW.trod enc P W 0 (fun _ => true) true fuel t cs = some (d, ps)) :
    ∃ A n c, cs = [.slice A n c] ∧ n ≤ c ∧ c ≤ maxLen ∧ ∃ ns : List Int, ns.length = n ∧ Cells (Full W) A (ns.map (.int k)) ∧ ∀ x ∈ ns, (Lit.int k x).wf = true := by
  obtain ⟨A, n, c, rfl, h2, h3, rows, hl, hr⟩ := trod_sl hu h
  refine ⟨A, n, c, rfl, h2, h3, ?_⟩
  refine rows_cells (g := fun x => Value.int k x) hl fun i r hi => ?_
  obtain ⟨a, ha, hc, hlen, f, d', p', hd⟩ := hr i r hi
  rw [h1] at hc
  obtain ⟨x, hx, _, hw⟩ := DataW.trod_int he hd
  exact ⟨a, ha, hc, x, hx, hw⟩

theorem trod_bytes {fuel : Nat} {cs : List Value} (hu : P.underlying t = some (.slice e)) (he : P.underlying e = some (.int .u8)) (h1 : P.cellsOf e = 1) (h : DataW.trod enc P W 0 (fun _ => true) true fuel t cs = some (d, ps)) :
    ∃ A n c, cs = [.slice A n c] ∧ n ≤ c ∧ c ≤ maxLen ∧ ∃ bs : List UInt8, bs.length = n ∧ Cells (Full W) A (byteVals bs) := by
  obtain ⟨A, n, c, rfl, h2, h3, ns, hl, hc, hw⟩ := trod_ints hu he h1 h
  refine ⟨A, n, c, rfl, h2, h3, ns.map fun x => UInt8.ofNat x.toNat, by simpa using hl, ?_⟩
  have : byteVals (ns.map fun x => UInt8.ofNat x.toNat) = ns.map (.int .u8) := by
    unfold byteVals
    rw [List.map_map]
    apply List.map_congr_left
    intro x hx
    have := hw x hx
    simp only [Lit.wf, Bool.and_eq_true, decide_eq_true_eq] at this
    obtain ⟨h4, h5⟩ := this
    have h4' : 0 ≤ x := h4
    have h5' : x ≤ 255 := h5
    simp only [Function.comp, Value.int.injEq, true_and]
    rw [UInt8.toNat_ofNat_of_lt' (by show x.toNat < 256; omega)]
    omega
  rw [this]; exact hc

theorem trod_words {fuel : Nat} {cs : List Value} (hu : P.underlying t = some (.slice e)) (he : P.underlying e = some (.int .u64)) (h1 : P.cellsOf e = 1) (h : DataW.trod enc P W 0 (fun _ => true) true fuel t cs = some (d, ps)) :
    ∃ A n c, cs = [.slice A n c] ∧ n ≤ c ∧ c ≤ maxLen ∧ ∃ l : List UInt64, l.length = n ∧ Cells (Full W) A (wordVals l) := by
  obtain ⟨A, n, c, rfl, h2, h3, ns, hl, hc, hw⟩ := trod_ints hu he h1 h
  refine ⟨A, n, c, rfl, h2, h3, ns.map fun x => UInt64.ofNat x.toNat, by simpa using hl, ?_⟩
  have : wordVals (ns.map fun x => UInt64.ofNat x.toNat) = ns.map (.int .u64) := by
    unfold wordVals
    rw [List.map_map]
    apply List.map_congr_left
    intro x hx
    have := hw x hx
    simp only [Lit.wf, Bool.and_eq_true, decide_eq_true_eq] at this
    obtain ⟨h4, h5⟩ := this
    have h4' : 0 ≤ x := h4
    have h5' : x ≤ 18446744073709551615 := h5
    simp only [Function.comp, Value.int.injEq, true_and]
    rw [UInt64.toNat_ofNat_of_lt' (by show x.toNat < 18446744073709551616; omega)]
    omega
  rw [this]; exact hc

theorem trod_bools {fuel : Nat} {cs : List Value} (hu : P.underlying t = some (.slice e)) (he : P.underlying e = some .bool) (h1 : P.cellsOf e = 1) (h : DataW.trod enc P W 0 (fun _ => true) true fuel t cs = some (d, ps)) :
    ∃ A n c, cs = [.slice A n c] ∧ n ≤ c ∧ c ≤ maxLen ∧ ∃ ns : List Bool, ns.length = n ∧ Cells (Full W) A (ns.map .bool) := by
  obtain ⟨A, n, c, rfl, h2, h3, rows, hl, hr⟩ := trod_sl hu h
  obtain ⟨ns, h4, h5, _⟩ := rows_cells (g := Value.bool) (q := fun _ => True) hl fun i r hi => by
    obtain ⟨a, ha, hc, hlen, f, d', p', hd⟩ := hr i r hi
    rw [h1] at hc
    obtain ⟨x, hx, _⟩ := DataW.trod_bool he hd
    exact ⟨a, ha, hc, x, hx, trivial⟩
  exact ⟨A, n, c, rfl, h2, h3, ns, h4, h5⟩

/-- Slices of bytes, of words. -/
theorem rows_bytes {A : Option Addr} {n : Nat} (hu : P.underlying t = some (.slice e)) (he : P.underlying e = some (.int .u8)) (h1 : P.cellsOf e = 1) (ht : P.cellsOf t = 1) {rows : List (List Value)} (hl : rows.length = n)
    (h : ∀ (i : Nat) (r : List Value), rows[i]? = some r → ∃ a, A = some a ∧ (∀ j v, r[j]? = some v → (Full W).cell? (a.add (i * P.cellsOf t + j)) = some v) ∧ r.length = P.cellsOf t ∧ ∃ f d' p', DataW.trod enc P W 0 (fun _ => true) true f t r = some (d', p')) :
    ∃ l : List (Option Addr × Nat × Nat × List UInt8), l.length = n ∧ Cells (Full W) A (l.map fun p => .slice p.1 p.2.1 p.2.2.1) ∧ ∀ p ∈ l, p.2.1 = p.2.2.2.length ∧ p.2.1 ≤ 9223372036854775807 ∧ Cells (Full W) p.1 (byteVals p.2.2.2) := by
  refine rows_cells hl fun i r hi => ?_
  obtain ⟨a, ha, hc, hlen, f, d', p', hd⟩ := h i r hi
  rw [ht] at hc
  obtain ⟨A', n', c', rfl, h3, h4, bs, h5, h6⟩ := trod_bytes hu he h1 hd
  exact ⟨a, ha, hc, (A', n', c', bs), rfl, h5.symm, Nat.le_trans h3 h4, h6⟩

theorem rows_words {A : Option Addr} {n : Nat} (hu : P.underlying t = some (.slice e)) (he : P.underlying e = some (.int .u64)) (h1 : P.cellsOf e = 1) (ht : P.cellsOf t = 1) {rows : List (List Value)} (hl : rows.length = n)
    (h : ∀ (i : Nat) (r : List Value), rows[i]? = some r → ∃ a, A = some a ∧ (∀ j v, r[j]? = some v → (Full W).cell? (a.add (i * P.cellsOf t + j)) = some v) ∧ r.length = P.cellsOf t ∧ ∃ f d' p', DataW.trod enc P W 0 (fun _ => true) true f t r = some (d', p')) :
    ∃ l : List (Option Addr × Nat × Nat × List UInt64), l.length = n ∧ Cells (Full W) A (l.map fun p => .slice p.1 p.2.1 p.2.2.1) ∧ ∀ p ∈ l, p.2.1 = p.2.2.2.length ∧ p.2.1 ≤ 9223372036854775807 ∧ Cells (Full W) p.1 (wordVals p.2.2.2) := by
  refine rows_cells hl fun i r hi => ?_
  obtain ⟨a, ha, hc, hlen, f, d', p', hd⟩ := h i r hi
  rw [ht] at hc
  obtain ⟨A', n', c', rfl, h3, h4, bs, h5, h6⟩ := trod_words hu he h1 hd
  exact ⟨a, ha, hc, (A', n', c', bs), rfl, h5.symm, Nat.le_trans h3 h4, h6⟩

/-- A slice that came in: its value. -/
theorem open_sl (hu : P.underlying t = some (.slice e)) (hval : Value.okWide P W r base t v) (h : DataW.Trod enc P W 0 (fun _ => true) true t v d ps) : ∃ A n c, v = .slice A n c ∧ ∃ fuel, DataW.trod enc P W 0 (fun _ => true) true fuel t [.slice A n c] = some (d, ps) := by
  obtain ⟨A, n, c, rfl⟩ := okWide_slice hu hval
  obtain ⟨fuel, h⟩ := h
  exact ⟨A, n, c, rfl, fuel, h⟩
end

theorem wf_int {k : IntKind} {n : Int} (h : (Lit.int k n).wf = true) : k.min ≤ n ∧ n ≤ k.max := by
  simpa [Lit.wf] using h

end Go.Hw

end
section
/-! HwS -/
/- The frame of the proofs: parts of memory side by side; a call over a part of what is known leaves the rest. -/
set_option maxRecDepth 100000
set_option linter.unusedSimpArgs false
set_option linter.unusedVariables false
set_option linter.unnecessarySimpa false
set_option linter.unusedSectionVars false
namespace Go.Hw
open Go

/-- What a call over a part of memory leaves of the whole. -/
def Hp.patch (H H1 H1' : Hp) : Hp := fun b => match H1' b with | some o => some o | none => match H1 b with | some _ => none | none => H b

theorem At.patch {H H1 H1' : Hp} {w w' : World} (hH : Fits H w) (hle : H1.le H) (h : At H1 w H1' w') : At H w (H.patch H1 H1') w' := by
  refine ⟨fun b o hb => ?_, h.size, h.os, h.tape, h.output, fun b hb h0 => ?_⟩
  · unfold Hp.patch at hb
    split at hb
    · rename_i o' ho'
      cases hb
      exact h.fits b _ ho'
    · rename_i hn
      split at hb
      · cases hb
      · rename_i h1
        obtain ⟨x, hx, hh⟩ := hH b o hb
        refine ⟨x, ?_, hh⟩
        rw [(h.old b (Array.getElem?_eq_some_iff.1 hx).1 h1).2]; exact hx
  · have h1 : H1 b = none := by
      cases e : H1 b with
      | none => rfl
      | some o => rw [hle b o e] at h0; cases h0
    obtain ⟨h2, h3⟩ := h.old b hb h1
    refine ⟨?_, h3⟩
    unfold Hp.patch
    rw [h2, h1]; exact h0

/-- A call over a part of what is known. -/
theorem HCalls.frame {P : Program} {f : FuncId} {args : Array Value} {H H1 : Hp} {R : Value → Hp → Prop} (h : HCalls P f args H1 R) (hle : H1.le H) :
    HCalls P f args H fun v H' => ∃ H1', R v H1' ∧ H' = H.patch H1 H1' ∧ ∀ b, H b ≠ none → H1 b = none → H1' b = none := fun w hw => by
  have hw1 : Fits H1 w := fun b o hb => hw b o (hle b o hb)
  refine (h w hw1).mono ?_
  rintro e w' ⟨v, H1', rfl, hr, hA⟩
  refine ⟨v, _, rfl, ⟨H1', hr, rfl, fun b hb h1 => ?_⟩, hA.patch hw hle⟩
  cases hq : H b with
  | none => exact absurd hq hb
  | some o =>
    obtain ⟨x, hx, _⟩ := hw b o hq
    exact (hA.old b (Array.getElem?_eq_some_iff.1 hx).1 h1).1

/-! ## Parts -/

abbrev As := Hp → Prop

def Apart (H1 H2 : Hp) : Prop := ∀ b, H1 b = none ∨ H2 b = none

def Hp.or (H1 H2 : Hp) : Hp := fun b => match H1 b with | some o => some o | none => H2 b

theorem Hp.le_none {H H' : Hp} {b : Nat} (h : H.le H') (hn : H' b = none) : H b = none := by
  cases e : H b with
  | none => rfl
  | some o => rw [h b o e] at hn; cases hn

theorem Apart.symm {H1 H2 : Hp} (h : Apart H1 H2) : Apart H2 H1 := fun b => (h b).symm
theorem Apart.le {H1 H2 H1' H2' : Hp} (h : Apart H1 H2) (h1 : H1'.le H1) (h2 : H2'.le H2) : Apart H1' H2' := fun b =>
  (h b).elim (fun e => .inl (Hp.le_none h1 e)) (fun e => .inr (Hp.le_none h2 e))
theorem Apart.or {H1 H2 H3 : Hp} (h : Apart H1 H3) (k : Apart H2 H3) : Apart (H1.or H2) H3 := fun b => by
  unfold Hp.or
  rcases h b with e | e
  · rw [e]; exact k b
  · exact .inr e
theorem Hp.or_le {H1 H2 H : Hp} (h1 : H1.le H) (h2 : H2.le H) : (H1.or H2).le H := fun b o ho => by
  unfold Hp.or at ho
  split at ho
  · rename_i o' e; cases ho; exact h1 b _ e
  · exact h2 b o ho
theorem Hp.le_or_left (H1 H2 : Hp) : H1.le (H1.or H2) := fun b o ho => by unfold Hp.or; rw [ho]
theorem Hp.le_or_right {H1 H2 : Hp} (h : Apart H1 H2) : H2.le (H1.or H2) := fun b o ho => by
  unfold Hp.or
  rcases h b with e | e
  · rw [e]; exact ho
  · rw [e] at ho; cases ho

/-- Parts of memory, side by side. -/
def Sep : List As → Hp → Prop
  | [], _ => True
  | A :: L, H => ∃ H1 H2, H1.le H ∧ H2.le H ∧ Apart H1 H2 ∧ A H1 ∧ Sep L H2

theorem Sep.up : ∀ {L : List As} {H H' : Hp}, Sep L H → H.le H' → Sep L H'
  | [], _, _, _, _ => trivial
  | _ :: _, _, _, ⟨H1, H2, h1, h2, h3, h4, h5⟩, k => ⟨H1, H2, Hp.le_trans h1 k, Hp.le_trans h2 k, h3, h4, h5⟩

theorem Sep.swap {A B : As} {L : List As} {H : Hp} : Sep (A :: B :: L) H → Sep (B :: A :: L) H
  | ⟨H1, H2, h1, h2, h3, h4, H3, H4, k1, k2, k3, k4, k5⟩ =>
    ⟨H3, H1.or H4, Hp.le_trans k1 h2, Hp.or_le h1 (Hp.le_trans k2 h2), (Apart.or (h3.le (Hp.le_refl _) k1) k3.symm).symm, k4, H1, H4, Hp.le_or_left _ _, Hp.le_or_right (h3.le (Hp.le_refl _) k2), h3.le (Hp.le_refl _) k2, h4, k5⟩

theorem Sep.perm {L L' : List As} (p : L.Perm L') : ∀ {H : Hp}, Sep L H → Sep L' H := by
  induction p with
  | nil => exact fun h => h
  | cons A _ ih => exact fun ⟨H1, H2, h1, h2, h3, h4, h5⟩ => ⟨H1, H2, h1, h2, h3, h4, ih h5⟩
  | swap A B L => exact fun h => h.swap
  | trans _ _ ih1 ih2 => exact fun h => ih2 (ih1 h)

theorem Sep.tail {A : As} {L : List As} {H : Hp} : Sep (A :: L) H → Sep L H
  | ⟨_, _, _, h2, _, _, h5⟩ => h5.up h2

theorem Sep.drop : ∀ {M L : List As} {H : Hp}, Sep (M ++ L) H → Sep L H
  | [], _, _, h => h
  | _ :: _, _, _, h => Sep.drop h.tail

theorem Sep.take {M L : List As} {H : Hp} (h : Sep (M ++ L) H) : Sep M H := Sep.drop (Sep.perm List.perm_append_comm h)

/-- A part is split, or put together, or said in other words. -/
theorem Sep.map {A : As} {L M : List As} {H : Hp} (h : Sep (A :: L) H) (k : ∀ H1, A H1 → Sep M H1) : Sep (M ++ L) H := by
  obtain ⟨H1, H2, h1, h2, h3, h4, h5⟩ := h
  have hM := k H1 h4
  clear h4 k
  induction M generalizing H1 H with
  | nil => exact h5.up h2
  | cons B M ih =>
    obtain ⟨H3, H4, k1, k2, k3, k4, k5⟩ := hM
    exact ⟨H3, H4.or H2, Hp.le_trans k1 h1, Hp.or_le (Hp.le_trans k2 h1) h2, (Apart.or k3.symm (h3.le k1 (Hp.le_refl _)).symm).symm, k4, ih (H4) (Hp.le_or_left _ _) (Hp.le_or_right (h3.le k2 (Hp.le_refl _))) (h3.le k2 (Hp.le_refl _)) k5⟩

theorem Sep.append {M L : List As} {H : Hp} (h : Sep (M ++ L) H) : ∃ H1 H2, H1.le H ∧ H2.le H ∧ Apart H1 H2 ∧ Sep M H1 ∧ Sep L H2 := by
  induction M generalizing H with
  | nil => exact ⟨fun _ => none, H, fun b o h => (by cases h), Hp.le_refl _, fun b => Or.inl rfl, trivial, h⟩
  | cons A M ih =>
    obtain ⟨H1, H2, h1, h2, h3, h4, h5⟩ := h
    obtain ⟨H3, H4, k1, k2, k3, k4, k5⟩ := ih h5
    exact ⟨H1.or H3, H4, Hp.or_le h1 (Hp.le_trans k1 h2), Hp.le_trans k2 h2, Apart.or (h3.le (Hp.le_refl _) k2) k3, ⟨H1, H3, Hp.le_or_left _ _, Hp.le_or_right (h3.le (Hp.le_refl _) k1), h3.le (Hp.le_refl _) k1, h4, k4⟩, k5⟩

theorem Sep.join {M L : List As} {H1 H2 H : Hp} (h1 : H1.le H) (h2 : H2.le H) (h3 : Apart H1 H2) (hM : Sep M H1) (hL : Sep L H2) : Sep (M ++ L) H := by
  have : Sep (Sep M :: L) H := ⟨H1, H2, h1, h2, h3, hM, hL⟩
  exact this.map (fun _ h => h)

def sel (L : List As) : List Nat → List As
  | [] => []
  | i :: is => match L[i]? with | some A => A :: sel L is | none => sel L is

def rest (L : List As) (is : List Nat) : List As := go 0 L
where go (k : Nat) : List As → List As
  | [] => []
  | A :: L => match is.contains k with | true => go (k + 1) L | false => A :: go (k + 1) L

theorem rest_nil (L : List As) : rest L [] = L := by
  have key : ∀ (L : List As) k, rest.go [] k L = L := by
    intro L
    induction L with
    | nil => intro k; rfl
    | cons A L ih => intro k; unfold rest.go; simp only [List.contains_nil]; rw [ih]
  exact key L 0

theorem perm_skip {o : Option As} {c : Prop} [Decidable c] {X : As → List As} {Y Z : List As} (hc : ¬ c) (h : Y.Perm Z) : (match o with | some A => if c then X A else Y | none => Y).Perm Z := by
  cases o with
  | none => exact h
  | some A => simp only [hc, if_false]; exact h
theorem perm_skip' {o : Option As} {c : Prop} [Decidable c] {X : As → List As} {Y Z : List As} (hc : ¬ c) (h : (match o with | some A => if c then X A else Y | none => Y).Perm Z) : Y.Perm Z := by
  cases o with
  | none => exact h
  | some A => simp only [hc, if_false] at h; exact h

theorem rest_cons (i : Nat) (is : List Nat) (hi : is.contains i = false) (L : List As) : (match L[i]? with | some A => (A :: rest L (i :: is)) | none => rest L (i :: is)).Perm (rest L is) := by
  have key : ∀ (L : List As) (k : Nat), (match L[i - k]? with | some A => if k ≤ i then (A :: rest.go (i :: is) k L) else rest.go (i :: is) k L | none => rest.go (i :: is) k L).Perm (rest.go is k L) := by
    intro L
    induction L with
    | nil => intro k; simp [rest.go]
    | cons A L ih =>
      intro k
      have ih := ih (k + 1)
      by_cases hk : k ≤ i
      · by_cases e : i = k
        · subst e
          have ih := perm_skip' (by omega) ih
          unfold rest.go
          simp only [Nat.sub_self, List.getElem?_cons_zero, Nat.le_refl, if_true]
          rw [show (i :: is).contains i = true by simp, hi]
          exact List.Perm.cons A ih
        · have hc : (i :: is).contains k = is.contains k := by
            rw [List.contains_cons, show (k == i) = false by simp; omega]; simp
          have h1 : i - k = (i - (k + 1)) + 1 := by omega
          rw [h1, List.getElem?_cons_succ]
          have hk' : k + 1 ≤ i := by omega
          simp only [hk', if_true] at ih
          simp only [hk, if_true]
          unfold rest.go
          rw [hc]
          cases hb : is.contains k with
          | true => exact ih
          | false =>
            simp only
            cases h : L[i - (k + 1)]? with
            | none => rw [h] at ih; exact List.Perm.cons A ih
            | some B => rw [h] at ih; exact (List.Perm.swap A B _).trans (List.Perm.cons A ih)
      · have ih := perm_skip' (by omega) ih
        refine perm_skip hk ?_
        have hc : (i :: is).contains k = is.contains k := by
          rw [List.contains_cons, show (k == i) = false by simp; omega]; simp
        unfold rest.go
        rw [hc]
        cases is.contains k
        · exact List.Perm.cons A ih
        · exact ih
  have := key L 0
  simpa [rest] using this

def nodupB : List Nat → Bool
  | [] => true
  | i :: is => !is.contains i && nodupB is

theorem sel_rest (L : List As) : ∀ (is : List Nat), nodupB is = true → (sel L is ++ rest L is).Perm L
  | [], _ => by rw [rest_nil]; exact .refl _
  | i :: is, h => by
    unfold nodupB at h
    simp only [Bool.and_eq_true, Bool.not_eq_true'] at h
    have ih := sel_rest L is h.2
    have hr := rest_cons i is h.1 L
    unfold sel
    cases e : L[i]? with
    | none => rw [e] at hr; exact (List.Perm.append_left _ hr).trans ih
    | some A =>
      rw [e] at hr
      refine List.Perm.trans ?_ ((List.Perm.append_left _ hr).trans ih)
      exact List.perm_middle.symm

/-- Parts in another order, or some of them only. -/
theorem Sep.re {L : List As} {H : Hp} (h : Sep L H) (is : List Nat) (hn : nodupB is = true) : Sep (sel L is) H :=
  Sep.take (Sep.perm (sel_rest L is hn).symm h)

theorem Sep.split {L : List As} {H : Hp} (h : Sep L H) (is : List Nat) (hn : nodupB is = true) : Sep (sel L is ++ rest L is) H := Sep.perm (sel_rest L is hn).symm h

theorem Sep.see {L : List As} {H : Hp} (h : Sep L H) (i : Nat) {A : As} (hi : L[i]? = some A) : ∃ H1, A H1 ∧ H1.le H := by
  have h1 : Sep [A] H := by
    have := h.re [i] rfl
    unfold sel at this
    rw [hi] at this
    exact this
  obtain ⟨H1, _, k1, _, _, k4, _⟩ := h1
  exact ⟨H1, k4, k1⟩

/-! ## One block -/

def pts (b : Nat) (o : AO) : As := fun H => H b = some o
/-- All that was known ahead stands. -/
def own (H0 : Hp) : As := fun H => H0.le H
/-- A fact. -/
def pur (p : Prop) : As := fun _ => p

theorem Sep.get {L : List As} {H : Hp} (h : Sep L H) (i : Nat) {b : Nat} {o : AO} (hi : L[i]? = some (pts b o)) : H b = some o := by
  obtain ⟨H1, h1, h2⟩ := h.see i hi
  exact h2 _ _ h1

theorem Sep.ow {L : List As} {H H0 : Hp} (h : Sep L H) (i : Nat) (hi : L[i]? = some (own H0)) : H0.le H := by
  obtain ⟨H1, h1, h2⟩ := h.see i hi
  exact Hp.le_trans h1 h2

theorem Sep.start (H : Hp) : Sep [own H] H := ⟨H, fun _ => none, Hp.le_refl _, fun b o h => (by cases h), fun b => Or.inr rfl, Hp.le_refl _, trivial⟩

theorem Sep.new {L : List As} {H : Hp} (h : Sep L H) {b : Nat} (hb : H b = none) (o : AO) : Sep (L ++ [pts b o]) (H.set b o) := by
  refine Sep.join (H1 := H) (H2 := fun c => if c = b then some o else none) (Hp.le_set hb) ?_ ?_ h ⟨_, fun _ => none, Hp.le_refl _, fun b o h => (by cases h), fun b => .inr rfl, (if_pos rfl : (if b = b then some o else none) = some o), trivial⟩
  · intro c q hq
    simp only at hq
    split at hq
    · rename_i e; subst e; rw [Hp.set_same]; exact hq
    · cases hq
  · intro c
    by_cases e : c = b
    · left; rw [e]; exact hb
    · right; simp only [e, if_false]

theorem Sep.put {L : List As} {H : Hp} (h : Sep L H) (i : Nat) {b : Nat} {o : AO} (o' : AO) (hi : L[i]? = some (pts b o)) : Sep (L.set i (pts b o')) (H.set b o') := by
  have key : ∀ (L : List As) (i : Nat) (H : Hp), Sep L H → L[i]? = some (pts b o) → Sep (L.set i (pts b o')) (H.set b o') := by
    intro L
    induction L with
    | nil => intro i H _ hi; simp at hi
    | cons A L ih =>
      intro i H h hi
      obtain ⟨H1, H2, h1, h2, h3, h4, h5⟩ := h
      cases i with
      | zero =>
        simp only [List.getElem?_cons_zero, Option.some.injEq] at hi
        subst hi
        have h4' : H1 b = some o := h4
        have hn : H2 b = none := (h3 b).resolve_left (by rw [h4']; simp)
        refine ⟨H1.set b o', H2, Hp.set_le h1 b o', fun c q hq => ?_, fun c => ?_, Hp.set_same _ _ _, h5⟩
        · rw [Hp.set_other _ _ (fun e => by rw [e, hn] at hq; cases hq)]; exact h2 c q hq
        · by_cases e : c = b
          · right; rw [e]; exact hn
          · rw [Hp.set_other _ _ e]; exact h3 c
      | succ i =>
        rw [List.getElem?_cons_succ] at hi
        have hb : H2 b = some o := Sep.get h5 i hi
        have hn : H1 b = none := (h3 b).resolve_right (by rw [hb]; simp)
        refine ⟨H1, H2.set b o', fun c q hq => ?_, Hp.set_le h2 b o', fun c => ?_, h4, ih i H2 h5 hi⟩
        · rw [Hp.set_other _ _ (fun e => by rw [e, hn] at hq; cases hq)]; exact h1 c q hq
        · by_cases e : c = b
          · left; rw [e]; exact hn
          · rw [Hp.set_other _ _ e]; exact h3 c
  exact key L i H h hi

theorem Sep.gone {L : List As} {H : Hp} (h : Sep L H) (i : Nat) {b : Nat} {o : AO} (hi : L[i]? = some (pts b o)) : Sep (rest L [i]) (H.erase b) := by
  have h1 := h.split [i] rfl
  unfold sel at h1
  rw [hi] at h1
  obtain ⟨H1, H2, k1, k2, k3, k4, k5⟩ := h1
  refine k5.up fun c q hq => ?_
  have hc : c ≠ b := fun e => by
    have k4' : H1 b = some o := k4
    rcases k3 b with e2 | e2
    · rw [k4'] at e2; cases e2
    · rw [e, e2] at hq; cases hq
  unfold Hp.erase
  rw [if_neg hc]
  exact k2 c q hq

/-! ## Steps of a formula -/

def nthV : List Value → Nat → Option Value
  | [], _ => none
  | v :: _, 0 => some v
  | _ :: l, n + 1 => nthV l n
theorem nthV_eq : ∀ (l : List Value) (i : Nat), nthV l i = l[i]?
  | [], _ => by simp [nthV]
  | v :: _, 0 => rfl
  | _ :: l, n + 1 => by simp [nthV, nthV_eq l n]

section
variable {L : List As} {H : Hp}

theorem Sep.nw (h : Sep L H) {o : AO} {K : Nat → Hp → Prop} (k : ∀ b H', Sep (L ++ [pts b o]) H' → K b H') : Nw H o K := fun b hb => k b _ (h.new hb o)

theorem Sep.ld (h : Sep L H) (i : Nat) {b j : Nat} {c : Array Value} {e : TypeId} {v : Value} {K : Value → Prop} (hi : L[i]? = some (pts b (.obj (.cells c e)))) (hv : nthV c.toList j = some v) (k : K v) : Ld H ⟨b, j, none⟩ K :=
  Ld_obj (h.get i hi) (by rw [nthV_eq, Array.getElem?_toList] at hv; exact hv) k
theorem Sep.ldr (h : Sep L H) (i : Nat) {b j : Nat} {xs : List Value} {e : TypeId} {m : Nat} {v : Value} {K : Value → Prop} (hi : L[i]? = some (pts b (.row xs e m))) (hv : xs[j]? = some v) (k : K v) : Ld H ⟨b, j, none⟩ K :=
  Ld_row (h.get i hi) hv k
theorem Sep.st (h : Sep L H) (i : Nat) {b j : Nat} {c : Array Value} {e : TypeId} {v : Value} {K : Hp → Prop} (hi : L[i]? = some (pts b (.obj (.cells c e)))) (hj : j < c.size) (hv : v.oneCell' = true)
    (k : ∀ H', Sep (L.set i (pts b (.obj (.cells (c.setIfInBounds j v) e)))) H' → K H') : St H ⟨b, j, none⟩ v K :=
  St_obj (h.get i hi) hj hv (k _ (h.put i _ hi))
theorem Sep.str (h : Sep L H) (i : Nat) {b j : Nat} {xs : List Value} {e : TypeId} {m : Nat} {v : Value} {K : Hp → Prop} (hi : L[i]? = some (pts b (.row xs e m))) (hj : j < xs.length) (hv : v.oneCell' = true)
    (k : ∀ H', Sep (L.set i (pts b (.row (xs.set j v) e m))) H' → K H') : St H ⟨b, j, none⟩ v K :=
  St_row (h.get i hi) hj hv (k _ (h.put i _ hi))
theorem Sep.lda (h : Sep L H) (i : Nat) {b off n : Nat} {c : Array Value} {e : TypeId} {K : List Value → Prop} (hi : L[i]? = some (pts b (.obj (.cells c e)))) (hn : off + n ≤ c.size) (k : K ((c.toList.drop off).take n)) : LdA H ⟨b, off, none⟩ n K :=
  LdA_at (h.get i hi) hn k
theorem Sep.sta (h : Sep L H) (i : Nat) {b off n : Nat} {c y : Array Value} {e : TypeId} {K : Hp → Prop} (hi : L[i]? = some (pts b (.obj (.cells c e)))) (hn : off + n ≤ c.size) (hy : y.size = n) (hv : y.toList.all (fun v => v.oneCell') = true)
    (k : ∀ H', Sep (L.set i (pts b (.obj (.cells (setAt c.toList off y.toList).toArray e)))) H' → K H') : StA H ⟨b, off, none⟩ y n K :=
  StA_lit (h.get i hi) hn hy hv (k _ (h.put i _ hi))
theorem Sep.mks (h : Sep L H) {P : Program} {e : TypeId} {s bs : Nat} {z : Array Value} (hi : cellInfo P e = some (s, bs, some z)) (hs : z.size = s) {l c : Int} {n m : Nat} (hl : l = n) (hc : c = m) (hnm : n ≤ m) (hm : bs * m ≤ 140737488355328) (hm2 : m ≤ 9223372036854775807) {K : Value → Hp → Prop}
    (k : ∀ b H', Sep (L ++ [pts b (.row (zeroRow z.toList n) e (m * s))]) H' → K (.slice (some ⟨b, 0, none⟩) n m) H') : MkS P e l c H K :=
  MkS_of hi hs hl hc hnm hm hm2 fun b hb => k b _ (h.new hb _)
end

/-! ## Contracts -/

/-- A call over parts of memory: what it answers, and which parts are left. -/
def Tr (P : Program) (f : FuncId) (args : Array Value) (Pre : List As) (Q : Value → List As → Prop) : Prop :=
  ∀ H, Sep Pre H → HCalls P f args H fun v H' => ∃ M, Q v M ∧ Sep M H'

theorem Tr.use {P : Program} {f : FuncId} {args : Array Value} {Pre : List As} {Q : Value → List As → Prop} (t : Tr P f args Pre Q) {L : List As} {H : Hp} (h : Sep L H) (is : List Nat) (hs : sel L is = Pre) (hn : nodupB is = true) {K : Value → Hp → Prop}
    (k : ∀ v M H', Q v M → Sep (M ++ rest L is) H' → K v H') : HCalls P f args H K := by
  have h1 := h.split is hn
  rw [hs] at h1
  obtain ⟨H1, H2, k1, k2, k3, k4, k5⟩ := h1.append
  refine ((t H1 k4).frame k1).mono ?_
  rintro v H' ⟨H1', ⟨M, hq, hM⟩, rfl, hfr⟩
  refine k v M _ hq (Sep.join (H1 := H1') (H2 := H2) (fun b o hb => ?_) (fun b o hb => ?_) (fun b => ?_) hM k5)
  · unfold Hp.patch; rw [hb]
  · have e1 : H1 b = none := (k3 b).resolve_right (by rw [hb]; simp)
    have e2 : H1' b = none := hfr b (by rw [k2 b o hb]; simp) e1
    unfold Hp.patch; rw [e2, e1]; exact k2 b o hb
  · cases e : H2 b with
    | none => exact .inr rfl
    | some o =>
      left
      exact hfr b (by rw [k2 b o e]; simp) ((k3 b).resolve_right (by rw [e]; simp))

/-! ## Deferred calls -/

theorem HCallsD.mono {P : Program} {f : FuncId} {args : Array Value} {H : Hp} {R R' : Value → Hp → Prop} (h : HCallsD P f args H R) (k : ∀ v H', R v H' → R' v H') : HCallsD P f args H R' := fun w hw c cs hc => by
  obtain ⟨e, u', w', fr, ⟨hu, v, H', rfl, hr, hA⟩, hx⟩ := h w hw c cs hc
  exact ⟨_, _, w', fr, ⟨hu, v, H', rfl, k v H' hr, hA⟩, hx⟩

theorem HCallsD.frame {P : Program} {f : FuncId} {args : Array Value} {H H1 : Hp} {R : Value → Hp → Prop} (h : HCallsD P f args H1 R) (hle : H1.le H) :
    HCallsD P f args H fun v H' => ∃ H1', R v H1' ∧ H' = H.patch H1 H1' ∧ ∀ b, H b ≠ none → H1 b = none → H1' b = none := fun w hw c cs hc => by
  have hw1 : Fits H1 w := fun b o hb => hw b o (hle b o hb)
  obtain ⟨e, u', w', fr, ⟨hu, v, H1', rfl, hr, hA⟩, hx⟩ := h w hw1 c cs hc
  refine ⟨_, _, w', fr, ⟨hu, v, _, rfl, ⟨H1', hr, rfl, fun b hb h1 => ?_⟩, hA.patch hw hle⟩, hx⟩
  cases hq : H b with
  | none => exact absurd hq hb
  | some o =>
    obtain ⟨x, hx, _⟩ := hw b o hq
    exact (hA.old b (Array.getElem?_eq_some_iff.1 hx).1 h1).1

def TrD (P : Program) (f : FuncId) (args : Array Value) (Pre : List As) (Q : Value → List As → Prop) : Prop :=
  ∀ H, Sep Pre H → HCallsD P f args H fun v H' => ∃ M, Q v M ∧ Sep M H'

theorem TrD.use {P : Program} {f : FuncId} {args : Array Value} {Pre : List As} {Q : Value → List As → Prop} (t : TrD P f args Pre Q) {L : List As} {H : Hp} (h : Sep L H) (is : List Nat) (hs : sel L is = Pre) (hn : nodupB is = true) {K : Value → Hp → Prop}
    (k : ∀ v M H', Q v M → Sep (M ++ rest L is) H' → K v H') : HCallsD P f args H K := by
  have h1 := h.split is hn
  rw [hs] at h1
  obtain ⟨H1, H2, k1, k2, k3, k4, k5⟩ := h1.append
  refine ((t H1 k4).frame k1).mono ?_
  rintro v H' ⟨H1', ⟨M, hq, hM⟩, rfl, hfr⟩
  refine k v M _ hq (Sep.join (H1 := H1') (H2 := H2) (fun b o hb => ?_) (fun b o hb => ?_) (fun b => ?_) hM k5)
  · unfold Hp.patch; rw [hb]
  · have e1 : H1 b = none := (k3 b).resolve_right (by rw [hb]; simp)
    have e2 : H1' b = none := hfr b (by rw [k2 b o hb]; simp) e1
    unfold Hp.patch; rw [e2, e1]; exact k2 b o hb
  · cases e : H2 b with
    | none => exact .inr rfl
    | some o =>
      left
      exact hfr b (by rw [k2 b o e]; simp) ((k3 b).resolve_right (by rw [e]; simp))

/-- A contract over memory that is left as it was. -/
theorem Tr.of_ret {P : Program} {f : FuncId} {args : Array Value} {Pre : List As} {v : Value} (h : ∀ H, Sep Pre H → HCalls P f args H (RetE v H)) : Tr P f args Pre fun v' M => v' = v ∧ M = Pre := fun H hs =>
  (h H hs).mono fun _ _ ⟨e1, e2⟩ => ⟨Pre, ⟨e1, rfl⟩, by rw [e2]; exact hs⟩

theorem Sep.fin {L : List As} {H H0 : Hp} (h : Sep L H) (i : Nat) (hi : L[i]? = some (own H0)) (v : Value) : Ret v H0 v H := ⟨rfl, h.ow i hi⟩

end Go.Hw

end
section
/-! HwO -/
/- The frame of the proofs: slices of one's own, as parts of memory; elements of several cells. -/
set_option maxRecDepth 100000
set_option linter.unusedSimpArgs false
set_option linter.unusedVariables false
set_option linter.unnecessarySimpa false
set_option linter.unusedSectionVars false
namespace Go.Hw
open Go

theorem erase_none {G : Hp} {q : Nat} (b : Nat) (h : G q = none) : G.erase b q = none := by
  unfold Hp.erase; split
  · rfl
  · exact h

/-- A slice of one's own: its elements' cells (s each), in a row of its own, or nil. -/
def Own (e : TypeId) (s : Nat) (A : Option Addr) (n m : Nat) (xs : List Value) : As := fun H =>
  xs.length = n * s ∧ ((A = none ∧ n = 0 ∧ m = 0) ∨ ∃ b mm, A = some ⟨b, 0, none⟩ ∧ H b = some (.row xs e mm) ∧ m * s ≤ mm)

theorem Own.up {e : TypeId} {s : Nat} {A : Option Addr} {n m : Nat} {xs : List Value} {H H' : Hp} (h : Own e s A n m xs H) (k : H.le H') : Own e s A n m xs H' := by
  obtain ⟨h1, h2⟩ := h
  refine ⟨h1, h2.imp id ?_⟩
  rintro ⟨b, mm, h3, h4, h5⟩
  exact ⟨b, mm, h3, k _ _ h4, h5⟩

theorem Own.none (e : TypeId) (s : Nat) (H : Hp) : Own e s .none 0 0 [] H := ⟨by simp, .inl ⟨rfl, rfl, rfl⟩⟩

section
variable {L : List As} {H : Hp}

theorem Sep.own (h : Sep L H) (i : Nat) {e : TypeId} {s : Nat} {A : Option Addr} {n m : Nat} {xs : List Value} (hi : L[i]? = some (Own e s A n m xs)) : Own e s A n m xs H := by
  obtain ⟨H1, h1, h2⟩ := h.see i hi
  exact h1.up h2

theorem Own.len {e : TypeId} {s : Nat} {A : Option Addr} {n m : Nat} {xs : List Value} (h : Own e s A n m xs H) : xs.length = n * s := h.1

/-- Put in some part's place. -/
theorem Sep.turn (h : Sep L H) (i : Nat) {A : As} (hi : L[i]? = some A) {B : As} (k : ∀ H1, A H1 → B H1) : Sep (L.set i B) H := by
  induction L generalizing i H with
  | nil => simp at hi
  | cons C L ih =>
    obtain ⟨H1, H2, h1, h2, h3, h4, h5⟩ := h
    cases i with
    | zero =>
      simp only [List.getElem?_cons_zero, Option.some.injEq] at hi
      subst hi
      exact ⟨H1, H2, h1, h2, h3, k _ h4, h5⟩
    | succ i => exact ⟨H1, H2, h1, h2, h3, h4, ih h5 i hi⟩

theorem Sep.turn' (h : Sep L H) (i : Nat) {A : As} (hi : L[i]? = some A) {B : As} (k : ∀ H1, H1.le H → A H1 → B H1) : Sep (L.set i B) H := by
  induction L generalizing i H with
  | nil => simp at hi
  | cons C L ih =>
    obtain ⟨H1, H2, h1, h2, h3, h4, h5⟩ := h
    cases i with
    | zero =>
      simp only [List.getElem?_cons_zero, Option.some.injEq] at hi
      subst hi
      exact ⟨H1, H2, h1, h2, h3, k _ h1 h4, h5⟩
    | succ i => exact ⟨H1, H2, h1, h2, h3, h4, ih h5 i hi fun G hG hA => k G (Hp.le_trans hG h2) hA⟩

/-- A slice of one's own is a row, or nil. -/
theorem Sep.unown (h : Sep L H) (i : Nat) {e : TypeId} {s : Nat} {A : Option Addr} {n m : Nat} {xs : List Value} (hi : L[i]? = some (Own e s A n m xs)) :
    (A = none ∧ n = 0 ∧ m = 0 ∧ xs = []) ∨ ∃ b mm, A = some ⟨b, 0, .none⟩ ∧ m * s ≤ mm ∧ xs.length = n * s ∧ Sep (L.set i (pts b (.row xs e mm))) H := by
  obtain ⟨h1, h2⟩ := h.own i hi
  rcases h2 with ⟨h2, h3, h4⟩ | ⟨b, mm, rfl, h4, h5⟩
  · refine .inl ⟨h2, h3, h4, ?_⟩
    rw [h3] at h1
    cases xs with
    | nil => rfl
    | cons x l => simp at h1
  · refine .inr ⟨b, mm, rfl, h5, h1, h.turn' i hi fun H1 hle hO => ?_⟩
    obtain ⟨_, k2⟩ := hO
    rcases k2 with ⟨k2, _⟩ | ⟨b', mm', k2, k3, _⟩
    · cases k2
    · cases k2
      have := hle _ _ k3
      rw [h4] at this; cases this
      exact k3

/-- A block of a part is turned within it. -/
theorem Sep.putIn (h : Sep L H) (i : Nat) {A : As} (hi : L[i]? = some A) {b : Nat} {o' : AO} {B : As} (k : ∀ H1, H1.le H → A H1 → ∃ o, H1 b = some o ∧ B (H1.set b o')) : Sep (L.set i B) (H.set b o') := by
  induction L generalizing i H with
  | nil => simp at hi
  | cons C L ih =>
    obtain ⟨H1, H2, h1, h2, h3, h4, h5⟩ := h
    cases i with
    | zero =>
      simp only [List.getElem?_cons_zero, Option.some.injEq] at hi
      subst hi
      obtain ⟨o, ho, hB⟩ := k H1 h1 h4
      have hn : H2 b = none := (h3 b).resolve_left (by rw [ho]; simp)
      refine ⟨H1.set b o', H2, Hp.set_le h1 b o', fun c q hq => ?_, fun c => ?_, hB, h5⟩
      · rw [Hp.set_other _ _ (fun e => by rw [e, hn] at hq; cases hq)]; exact h2 c q hq
      · by_cases e : c = b
        · right; rw [e]; exact hn
        · rw [Hp.set_other _ _ e]; exact h3 c
    | succ i =>
      rw [List.getElem?_cons_succ] at hi
      have ih' := ih h5 i hi (fun G hG hA => k G (Hp.le_trans hG h2) hA)
      have hb : ∃ o, H2 b = some o := by
        obtain ⟨G, hG, hle⟩ := h5.see i hi
        obtain ⟨o, ho, _⟩ := k G (Hp.le_trans hle h2) hG
        exact ⟨o, hle _ _ ho⟩
      obtain ⟨o, hb⟩ := hb
      have hn : H1 b = none := (h3 b).resolve_right (by rw [hb]; simp)
      refine ⟨H1, H2.set b o', fun c q hq => ?_, Hp.set_le h2 b o', fun c => ?_, h4, ih'⟩
      · rw [Hp.set_other _ _ (fun e => by rw [e, hn] at hq; cases hq)]; exact h1 c q hq
      · by_cases e : c = b
        · left; rw [e]; exact hn
        · rw [Hp.set_other _ _ e]; exact h3 c

/-- An element's cell is read. -/
theorem Own.rd {e : TypeId} {s : Nat} {A : Option Addr} {n m : Nat} {xs : List Value} (h : Own e s A n m xs H) {x : Int} {j : Nat} (hx : x = j) (k : Nat) (hk : k < s) {v : Value} (hv : xs[j * s + k]? = some v) {K : Value → Prop} (kk : K v) :
    ixI x n (NN A fun a => Ld H ((a.add (x.toNat * s)).add k) K) := by
  subst hx
  obtain ⟨h1, h2⟩ := h
  have hlt := (List.getElem?_eq_some_iff.1 hv).1
  have hj : j < n := by
    rw [h1] at hlt
    have h3 : j * s < n * s := by omega
    exact Nat.lt_of_mul_lt_mul_right h3
  refine ⟨by omega, by omega, ?_⟩
  rcases h2 with ⟨_, h3, _⟩ | ⟨b, mm, rfl, h4, _⟩
  · omega
  · refine Ld_of ?_ kk
    rw [Int.toNat_natCast, Addr.add_lit', Addr.add_lit', Nat.zero_add, cell_row h4]; exact hv
theorem Own.rd0 {e : TypeId} {s : Nat} {A : Option Addr} {n m : Nat} {xs : List Value} (h : Own e s A n m xs H) {x : Int} {j : Nat} (hx : x = j) (hs : 0 < s) {v : Value} (hv : xs[j * s]? = some v) {K : Value → Prop} (kk : K v) :
    ixI x n (NN A fun a => Ld H (a.add (x.toNat * s)) K) := h.rd hx 0 hs hv kk
/-- An element of one cell is read. -/
theorem Own.rd1 {e : TypeId} {A : Option Addr} {n m : Nat} {xs : List Value} (h : Own e 1 A n m xs H) {x : Int} {j : Nat} (hx : x = j) {v : Value} (hv : xs[j]? = some v) {K : Value → Prop} (kk : K v) :
    ixI x n (NN A fun a => Ld H (a.add (x.toNat * 1)) K) := h.rd0 hx (by omega) (by rw [Nat.mul_one]; exact hv) kk

/-- A whole element is read. -/
theorem Own.rdA {e : TypeId} {s : Nat} {A : Option Addr} {n m : Nat} {xs : List Value} (h : Own e s A n m xs H) {x : Int} {j : Nat} (hx : x = j) (hj : j < n) {ys : List Value} (hy : (xs.drop (j * s)).take s = ys) {K : List Value → Prop} (k : K ys) :
    ixI x n (NN A fun a => LdA H (a.add (x.toNat * s)) s K) := by
  subst hx
  obtain ⟨h1, h2⟩ := h
  refine ⟨by omega, by omega, ?_⟩
  rcases h2 with ⟨_, h3, _⟩ | ⟨b, mm, rfl, h4, _⟩
  · omega
  · have hle : j * s + s ≤ xs.length := by
      rw [h1]
      have : (j + 1) * s ≤ n * s := Nat.mul_le_mul_right s hj
      rw [Nat.succ_mul] at this; omega
    show LdA H _ s K
    unfold LdA
    rw [Int.toNat_natCast, Addr.add_lit', Nat.zero_add, cells_row h4 (j * s) s 0 (by omega), Nat.add_zero, hy]
    exact k

/-- An element's cell is written. -/
theorem Sep.wr (h : Sep L H) (i : Nat) {e : TypeId} {s : Nat} {A : Option Addr} {n m : Nat} {xs : List Value} (hi : L[i]? = some (Own e s A n m xs)) {x : Int} {j : Nat} (hx : x = j) (k : Nat) (hk : k < s) (hj : j < n) {v : Value} (hv : v.oneCell' = true) {K : Hp → Prop}
    (kk : ∀ H', Sep (L.set i (Own e s A n m (xs.set (j * s + k) v))) H' → K H') : ixI x n (NN A fun a => St H ((a.add (x.toNat * s)).add k) v K) := by
  subst hx
  refine ⟨by omega, by omega, ?_⟩
  obtain ⟨h1, h2⟩ := h.own i hi
  have hlt : j * s + k < xs.length := by
    rw [h1]
    have : (j + 1) * s ≤ n * s := Nat.mul_le_mul_right s hj
    rw [Nat.succ_mul] at this; omega
  rcases h2 with ⟨_, h3, _⟩ | ⟨b, mm, rfl, h4, h5⟩
  · omega
  · rw [Int.toNat_natCast]
    show St H _ v K
    rw [Addr.add_lit', Addr.add_lit', Nat.zero_add]
    refine St_row h4 hlt hv (kk _ (h.putIn i hi fun H1 hle hA => ?_))
    obtain ⟨g1, g2⟩ := hA
    rcases g2 with ⟨_, g3, _⟩ | ⟨b', mm', g3, g4, g5⟩
    · omega
    · cases g3
      have : mm = mm' := by
        have := hle _ _ g4
        rw [h4] at this; cases this; rfl
      subst this
      exact ⟨_, g4, by rw [List.length_set]; exact g1, .inr ⟨b, mm, rfl, Hp.set_same _ _ _, g5⟩⟩
theorem Sep.wr1 (h : Sep L H) (i : Nat) {e : TypeId} {A : Option Addr} {n m : Nat} {xs : List Value} (hi : L[i]? = some (Own e 1 A n m xs)) {x : Int} {j : Nat} (hx : x = j) (hj : j < n) {v : Value} (hv : v.oneCell' = true) {K : Hp → Prop}
    (kk : ∀ H', Sep (L.set i (Own e 1 A n m (xs.set j v))) H' → K H') : ixI x n (NN A fun a => St H ((a.add (x.toNat * 1)).add 0) v K) :=
  h.wr i hi hx 0 (by omega) hj hv (by rw [Nat.mul_one]; exact kk)

/-- An append onto a slice of one's own. -/
theorem Sep.app (h : Sep L H) (i : Nat) {P : Program} {e : TypeId} {s bs : Nat} {z : Array Value} {A : Option Addr} {n m k : Nat} {xs ys : List Value} {x : Value} (hi : L[i]? = some (Own e s A n m xs)) (hc : cellInfo P e = some (s, bs, some z)) (hz : z.size = s) (hbs : bs ≤ 1073741824) (hs : 0 < s)
    (hn : lenV x = some k) (hsrc : srcCells H s k x = some ys) (hy : ys.length = k * s) (hone : ys.all (fun y => y.oneCell') = true) (h1 : (n + k) * bs ≤ 35184372088832) (h2 : n + k ≤ 35184372088832) {K : Value → Hp → Prop}
    (kk : ∀ A' m' H', Sep (L.set i (Own e s A' (n + k) m' (xs ++ ys))) H' → K (.slice A' (n + k) m') H') : AppK P e (.slice A n m) x H K := by
  have hO := h.own i hi
  have hone' : ∀ y ∈ ys, y.oneCell' = true := fun y hy' => List.all_eq_true.1 hone y hy'
  obtain ⟨g1, g2⟩ := hO
  rcases g2 with ⟨rfl, rfl, rfl⟩ | ⟨b, mm, rfl, g4, g5⟩
  · rw [Nat.zero_add] at h1 h2
    obtain rfl : xs = [] := by cases xs <;> simp_all
    refine AppK_nil hc hz hbs hn hsrc hy hone' h1 h2 (fun h0 => ?_) (fun _ b c hbc hb => ?_)
    · have hys : ys = [] := by
        subst h0
        cases ys with
        | nil => rfl
        | cons y ys => simp at hy
      subst hys
      subst h0
      refine kk .none 0 H ?_
      have := h.turn i hi (B := Own e s .none (0 + 0) 0 ([] ++ [])) (fun H1 _ => Own.none e s H1)
      exact this
    · have : Sep (L.set i (pts b (.row ys e (c * s)))) (H.set b (.row ys e (c * s))) := by
        have h3 := (h.new hb (.row ys e (c * s)))
        have h4 : Sep ((L ++ [pts b (.row ys e (c * s))]).set i (fun _ => True)) (H.set b (.row ys e (c * s))) := Sep.turn h3 i (A := Own e s .none 0 0 []) (by rw [List.getElem?_append_left (List.getElem?_eq_some_iff.1 hi).1]; exact hi) (fun _ _ => trivial)
        have hlt := (List.getElem?_eq_some_iff.1 hi).1
        rw [List.set_append_left _ _ hlt] at h4
        have hp : (L.set i (fun _ => True) ++ [pts b (.row ys e (c * s))]).Perm (L.set i (pts b (.row ys e (c * s))) ++ [fun _ => True]) := by
          rw [List.set_eq_take_append_cons_drop, List.set_eq_take_append_cons_drop]
          simp only [hlt, if_true, List.append_assoc, List.cons_append]
          refine List.Perm.append_left _ ?_
          have a1 : ∀ (X : As) (l : List As) (Y : As), (X :: (l ++ [Y])).Perm (Y :: (l ++ [X])) := fun X l Y => by
            have b1 : (X :: (l ++ [Y])).Perm (X :: Y :: l) := List.Perm.cons X (List.perm_append_comm (l₁ := l) (l₂ := [Y]))
            have b2 : (Y :: (l ++ [X])).Perm (Y :: X :: l) := List.Perm.cons Y (List.perm_append_comm (l₁ := l) (l₂ := [X]))
            exact b1.trans ((List.Perm.swap Y X l).trans b2.symm)
          exact a1 _ _ _
        exact Sep.take (Sep.perm hp h4)
      rw [show (k : Nat) = 0 + k by omega]
      refine kk _ c _ (this.turn i (A := pts b (.row ys e (c * s))) (by rw [List.getElem?_set]; simp [(List.getElem?_eq_some_iff.1 hi).1]) (B := Own e s (some ⟨b, 0, .none⟩) (0 + k) c ([] ++ ys)) (fun H1 hH1 => ⟨by simpa using hy, .inr ⟨b, _, rfl, (by rw [List.nil_append]; exact hH1 : H1 b = some (.row ([] ++ ys) e (c * s))), Nat.le_refl _⟩⟩) |> fun q => ?_)
      rw [List.set_set] at q
      exact q
  · refine AppK_own hc hz hbs g4 g1 g5 hn hsrc hy hone' h1 h2 fun b' c m' hc1 hc2 hb' => ?_
    refine kk _ c _ ?_
    -- the old row is given up, the new one made
    have hlt := (List.getElem?_eq_some_iff.1 hi).1
    have key : ∀ (L : List As) (i : Nat) (H : Hp), Sep L H → L[i]? = some (Own e s (some ⟨b, 0, .none⟩) n m xs) → 0 < s → (H.erase b) b' = none → Sep (L.set i (Own e s (some ⟨b', 0, .none⟩) (n + k) c (xs ++ ys))) ((H.erase b).set b' (.row (xs ++ ys) e m')) := by
      intro L
      induction L with
      | nil => intro i H _ hi; simp at hi
      | cons C L ih =>
        intro i H hS hi hs hb'
        obtain ⟨H1, H2, k1, k2, k3, k4, k5⟩ := hS
        have el : ∀ {G G' : Hp}, G.le G' → (G.erase b).le (G'.erase b) := fun hle c q hq => by
          unfold Hp.erase at hq ⊢
          split at hq
          · cases hq
          · rename_i hc; rw [if_neg hc]; exact hle c q hq
        have en : ∀ {G : Hp}, G b = .none → G.erase b = G := fun hG => by
          funext q; unfold Hp.erase; split
          · rename_i e; rw [e, hG]
          · rfl
        cases i with
        | zero =>
          simp only [List.getElem?_cons_zero, Option.some.injEq] at hi
          subst hi
          have hbs : ∃ o, H1 b = some o := by
            obtain ⟨_, q⟩ := k4
            rcases q with ⟨q, _⟩ | ⟨b2, mm2, q1, q2, _⟩
            · cases q
            · cases q1; exact ⟨_, q2⟩
          obtain ⟨o, hbs⟩ := hbs
          have hn2 : H2 b = .none := (k3 b).resolve_left (by rw [hbs]; simp)
          have hle2 : H2.le (H.erase b) := by have := el k2; rw [en hn2] at this; exact this
          refine ⟨(H1.erase b).set b' (.row (xs ++ ys) e m'), H2, Hp.set_le (el k1) _ _, Hp.le_trans hle2 (Hp.le_set hb'), fun q => ?_, ⟨by rw [List.length_append, g1, hy, Nat.add_mul], .inr ⟨b', m', rfl, Hp.set_same _ _ _, hc2⟩⟩, k5⟩
          by_cases e : q = b'
          · right; rw [e]; exact Hp.le_none hle2 hb'
          · rw [Hp.set_other _ _ e]
            rcases k3 q with e2 | e2
            · exact .inl (erase_none b e2)
            · exact .inr e2
        | succ i =>
          rw [List.getElem?_cons_succ] at hi
          have hbs : ∃ o, H2 b = some o := by
            obtain ⟨G, ⟨_, q⟩, hle⟩ := k5.see i hi
            rcases q with ⟨q, _⟩ | ⟨b2, mm2, q1, q2, _⟩
            · cases q
            · cases q1; exact ⟨_, hle _ _ q2⟩
          obtain ⟨o, hbs⟩ := hbs
          have hn1 : H1 b = .none := (k3 b).resolve_right (by rw [hbs]; simp)
          have hle1 : H1.le (H.erase b) := by have := el k1; rw [en hn1] at this; exact this
          refine ⟨H1, (H2.erase b).set b' (.row (xs ++ ys) e m'), Hp.le_trans hle1 (Hp.le_set hb'), Hp.set_le (el k2) _ _, fun q => ?_, k4, ih i H2 k5 hi hs (Hp.le_none (el k2) hb')⟩
          by_cases e : q = b'
          · left; rw [e]; exact Hp.le_none hle1 hb'
          · rw [Hp.set_other _ _ e]
            rcases k3 q with e2 | e2
            · exact .inl e2
            · exact .inr (erase_none b e2)
    exact key L i H h hi hs hb'

/-- .. of one element of several cells, as the compiler puts it. -/
theorem Sep.appS (h : Sep L H) (i : Nat) {P : Program} {e e' : TypeId} {s bs : Nat} {z : Array Value} {A : Option Addr} {n m : Nat} {xs ys : List Value} (hi : L[i]? = some (Own e s A n m xs)) (hc : cellInfo P e = some (s, bs, some z)) (hz : z.size = s) (hbs : bs ≤ 1073741824) (hs : 0 < s) (hy : ys.length = s) (hv : ys.all (fun y => y.oneCell') = true) (h2 : (n + 1) * bs ≤ 35184372088832) (h3 : n + 1 ≤ 35184372088832) {K : Value → Hp → Prop}
    (kk : ∀ A' m' H', Sep (L.set i (Own e s A' (n + 1) m' (xs ++ ys))) H' → K (.slice A' (n + 1) m') H') : Nw H (.row ys e' s) fun b H' => AppK P e (.slice A n m) (.slice (some ⟨b, 0, none⟩) 1 1) H' K := by
  refine h.nw fun b H' h' => ?_
  have hlt := (List.getElem?_eq_some_iff.1 hi).1
  refine h'.app i (k := 1) (ys := ys) (by rw [List.getElem?_append_left hlt]; exact hi) hc hz hbs hs rfl ?_ (by rw [hy, Nat.one_mul]) hv h2 h3 fun A' m' H'' h'' => ?_
  · show H'.cells? ⟨b, 0, none⟩ 0 (1 * s) = some ys
    rw [Nat.one_mul, cells_row (h'.get L.length (b := b) (o := .row ys e' s) (by simp)) 0 s 0 (by omega)]
    simp [← hy]
  · rw [List.set_append_left _ _ hlt] at h''
    exact kk A' m' H'' (Sep.take h'')

/-- .. of one element, as the compiler puts it. -/
theorem Sep.app1 (h : Sep L H) (i : Nat) {P : Program} {e e' : TypeId} {bs : Nat} {v0 : Value} {A : Option Addr} {n m : Nat} {xs : List Value} {v : Value} (hi : L[i]? = some (Own e 1 A n m xs)) (hc : cellInfo P e = some (1, bs, some #[v0])) (hbs : bs ≤ 1073741824) (hv : v.oneCell' = true) (h2 : (n + 1) * bs ≤ 35184372088832) (h3 : n + 1 ≤ 35184372088832) {K : Value → Hp → Prop}
    (kk : ∀ A' m' H', Sep (L.set i (Own e 1 A' (n + 1) m' (xs ++ [v]))) H' → K (.slice A' (n + 1) m') H') : Nw H (.row [v] e' 1) fun b H' => AppK P e (.slice A n m) (.slice (some ⟨b, 0, none⟩) 1 1) H' K := by
  refine h.nw fun b H' h' => ?_
  have hlt := (List.getElem?_eq_some_iff.1 hi).1
  refine h'.app i (k := 1) (ys := [v]) (by rw [List.getElem?_append_left hlt]; exact hi) hc rfl hbs (by omega) rfl (src_of (Cells.row (h'.get L.length (b := b) (o := .row [v] e' 1) (by simp)) 0 1) rfl) rfl (by simp [hv]) h2 h3 fun A' m' H'' h'' => ?_
  rw [List.set_append_left _ _ hlt] at h''
  exact kk A' m' H'' (Sep.take h'')
end

section
variable {L : List As} {H : Hp}
theorem Sep.ldw (h : Sep L H) (i : Nat) {b n : Nat} {c : Array Value} {e : TypeId} {K : List Value → Prop} (hi : L[i]? = some (pts b (.obj (.cells c e)))) (hn : c.size = n) (k : K c.toList) : LdA H ⟨b, 0, none⟩ n K := LdA_obj (h.get i hi) hn k
theorem Sep.stw (h : Sep L H) (i : Nat) {b n : Nat} {c y : Array Value} {e : TypeId} {K : Hp → Prop} (hi : L[i]? = some (pts b (.obj (.cells c e)))) (hn : c.size = n) (hy : y.size = n) (hv : y.toList.all (fun v => v.oneCell') = true)
    (k : ∀ H', Sep (L.set i (pts b (.obj (.cells y e)))) H' → K H') : StA H ⟨b, 0, none⟩ y n K := StA_all (h.get i hi) hn hy hv (k _ (h.put i _ hi))
end

section
variable {L : List As} {H : Hp}
/-- A cell of an array. -/
theorem Sep.ldx (h : Sep L H) (i : Nat) {b n j : Nat} {c : Array Value} {e : TypeId} {v : Value} {K : Value → Prop} (hi : L[i]? = some (pts b (.obj (.cells c e)))) {x : Int} (hx : x = (j : Nat)) (hj : j < n) (hv : nthV c.toList j = some v) (k : K v) : ixI x n (Ld H ((⟨b, 0, none⟩ : Addr).add (x.toNat * 1)) K) := by
  subst hx
  refine ⟨by omega, by omega, ?_⟩
  rw [Int.toNat_natCast, Nat.mul_one, Addr.add_lit', Nat.zero_add]
  exact h.ld i hi hv k
theorem Sep.stx (h : Sep L H) (i : Nat) {b n j : Nat} {c : Array Value} {e : TypeId} {v : Value} {K : Hp → Prop} (hi : L[i]? = some (pts b (.obj (.cells c e)))) {x : Int} (hx : x = (j : Nat)) (hj : j < n) (hc : j < c.size) (hv : v.oneCell' = true)
    (k : ∀ H', Sep (L.set i (pts b (.obj (.cells (c.setIfInBounds j v) e)))) H' → K H') : ixI x n (St H (((⟨b, 0, none⟩ : Addr).add (x.toNat * 1)).add 0) v K) := by
  subst hx
  refine ⟨by omega, by omega, ?_⟩
  rw [Int.toNat_natCast, Nat.mul_one, Addr.add_lit', Nat.zero_add, Addr.add_zero]
  exact h.st i hi hc hv k
end

theorem Cells.obj {H : Hp} {b : Nat} {c : Array Value} {e : TypeId} (h : H b = some (.obj (.cells c e))) (n : Nat) : Cells H (some ⟨b, 0, none⟩) (c.toList.take n) := fun i v hi => by
  refine ⟨_, rfl, ?_⟩
  rw [Addr.add_lit', Nat.zero_add, cell_obj h]
  rw [List.getElem?_take] at hi
  split at hi
  · rw [Array.getElem?_toList] at hi; exact hi
  · cases hi

theorem puts_row {e : TypeId} {b off m : Nat} : ∀ (l : List Value) (i : Nat) (H : Hp) (xs : List Value), H b = some (.row xs e m) → off + i + l.length ≤ xs.length → (∀ v ∈ l, v.oneCell' = true) →
    H.puts? ⟨b, off, none⟩ i l = some (H.set b (.row (setAt xs (off + i) l) e m))
  | [], i, H, xs, h, hi, _ => by simp [Hp.puts?, setAt_nil, Hp.set_id h]
  | v :: l, i, H, xs, h, hi, hv => by
    unfold Hp.puts?
    simp only [List.length_cons] at hi
    rw [Addr.add_lit', put_row h (by omega) (hv v (by simp))]
    simp only
    rw [puts_row l (i + 1) _ _ (Hp.set_same _ _ _) (by simp; omega) (fun u hu => hv u (by simp [hu])), Hp.set_set]
    congr 3
    apply List.ext_getElem?
    intro j
    rw [setAt_get (by simp; omega), setAt_get (by simp; omega), List.getElem?_set]
    simp only [List.length_cons]
    by_cases h1 : j < off + i
    · rw [if_pos (by omega), if_neg (by omega), if_pos h1]
    · rw [if_neg h1]
      by_cases h2 : j = off + i
      · subst h2; rw [if_pos (by omega), if_pos rfl, if_pos (by omega), if_pos (by omega)]; simp
      · rw [if_neg (by omega)]
        by_cases h3 : j < off + (i + 1) + l.length
        · rw [if_pos h3, if_pos (by omega), show j - (off + i) = (j - (off + (i + 1))) + 1 by omega, List.getElem?_cons_succ]
        · rw [if_neg h3, if_neg (by omega), if_neg (by omega)]

/-- A copy into a row of one's own. -/
theorem Sep.cp {L : List As} {H : Hp} (h : Sep L H) (i : Nat) {P : Program} {e e' : TypeId} {bs : Nat} {z : Array Value} {b off n c m k : Nat} {xs ys : List Value} {x : Value} (hi : L[i]? = some (pts b (.row xs e' m))) (hc : cellInfo P e = some (1, bs, some z))
    (hn : lenV x = some k) (hsrc : srcCells H 1 (Nat.min k n) x = some ys) (ho : off + ys.length ≤ xs.length) (hone : ∀ y ∈ ys, y.oneCell' = true) {K : Value → Hp → Prop}
    (kk : ∀ H', Sep (L.set i (pts b (.row (setAt xs off ys) e' m))) H' → K (.int .i64 (Nat.min k n : Nat)) H') : CpK P e (.slice (some ⟨b, off, none⟩) n c) x H K := by
  obtain ⟨j, zz, h3, h4, rfl, h5, rfl⟩ := cellInfo_out hc
  unfold CpK
  simp only [h3]
  rw [h4]
  exact ⟨k, ys, _, hn, hsrc, by simpa using puts_row ys 0 H xs (h.get i hi) (by omega) hone, kk _ (by simpa using h.put i _ hi)⟩

theorem slB_from {n m l : Nat} {x : Int} {K : Nat → Nat → Prop} (hx : x = l) (hl : l ≤ n) (k : K l n) : slB n m (some x) none K := by
  subst hx
  refine ⟨by omega, by omega, ?_⟩
  rw [Int.toNat_natCast]; exact k
theorem slB_to {n m r : Nat} {x : Int} {K : Nat → Nat → Prop} (hx : x = r) (hr : r ≤ m) (k : K 0 r) : slB n m none (some x) K := by
  subst hx
  refine ⟨by omega, by omega, ?_⟩
  rw [Int.toNat_natCast]; exact k
theorem slB_all {n m : Nat} {K : Nat → Nat → Prop} (k : K 0 n) : slB n m none none K := k
theorem slA_zero (b off m : Nat) : slA (some ⟨b, off, none⟩) m 0 1 = some ⟨b, off, none⟩ := by
  unfold slA; split
  · rfl
  · rfl
theorem slA_at {b off m l : Nat} (h : l < m) : slA (some ⟨b, off, none⟩) m l 1 = some ⟨b, off + l, none⟩ := by
  unfold slA; rw [if_neg (by omega)]
  show some ((⟨b, off, none⟩ : Addr).add (l * 1)) = _
  rw [Nat.mul_one, Addr.add_lit']

theorem setAt_append {xs us bs : List Value} {off : Nat} (h : off + us.length + bs.length ≤ xs.length) : setAt (setAt xs off us) (off + us.length) bs = setAt xs off (us ++ bs) := by
  apply List.ext_getElem?
  intro i
  have hl : (setAt xs off us).length = xs.length := setAt_length (by omega)
  rw [setAt_get (by omega), setAt_get (by omega), setAt_get (by rw [List.length_append]; omega), List.length_append]
  by_cases h1 : i < off
  · rw [if_pos (by omega), if_pos h1, if_pos h1]
  · rw [if_neg h1, if_neg h1]
    by_cases h2 : i < off + us.length
    · rw [if_pos h2, if_pos h2, if_pos (by omega), List.getElem?_append_left (by omega)]
    · rw [if_neg h2]
      by_cases h3 : i < off + us.length + bs.length
      · rw [if_pos h3, if_pos (by omega), List.getElem?_append_right (by omega)]
        congr 1; omega
      · rw [if_neg h3, if_neg h2, if_neg (by omega)]

/-! ## Elements of several cells that came in -/

def CellsS (s : Nat) (H : Hp) (A : Option Addr) (rows : List (List Value)) : Prop := ∀ i r, rows[i]? = some r → ∃ a, A = some a ∧ ∀ j v, r[j]? = some v → H.cell? (a.add (i * s + j)) = some v

theorem CellsS.le {s : Nat} {H H' : Hp} {A : Option Addr} {rows : List (List Value)} (h : CellsS s H A rows) (k : H.le H') : CellsS s H' A rows := fun i r hi => by
  obtain ⟨a, ha, hc⟩ := h i r hi
  exact ⟨a, ha, fun j v hj => k.cell (hc j v hj)⟩

theorem add_add (a : Addr) (i j : Nat) : (a.add i).add j = a.add (i + j) := by
  unfold Addr.add
  by_cases h1 : i = 0 <;> by_cases h2 : j = 0 <;> simp_all [Nat.add_assoc]

theorem CellsS.rd {s : Nat} {H : Hp} {A : Option Addr} {rows : List (List Value)} (h : CellsS s H A rows) {i : Nat} {r : List Value} (hi : rows[i]? = some r) {x : Int} (hx : x = i) {n : Nat} (hn : rows.length ≤ n) {j : Nat} {v : Value} (hj : r[j]? = some v) {K : Value → Prop} (k : K v) :
    ixI x n (NN A fun a => Ld H ((a.add (x.toNat * s)).add j) K) := by
  obtain ⟨a, rfl, hc⟩ := h i r hi
  subst hx
  have := (List.getElem?_eq_some_iff.1 hi).1
  refine ⟨by omega, by omega, ?_⟩
  rw [Int.toNat_natCast]
  refine Ld_of ?_ k
  rw [add_add]; exact hc j v hj
theorem CellsS.rd0 {s : Nat} {H : Hp} {A : Option Addr} {rows : List (List Value)} (h : CellsS s H A rows) {i : Nat} {r : List Value} (hi : rows[i]? = some r) {x : Int} (hx : x = i) {n : Nat} (hn : rows.length ≤ n) {v : Value} (hj : r[0]? = some v) {K : Value → Prop} (k : K v) :
    ixI x n (NN A fun a => Ld H (a.add (x.toNat * s)) K) := h.rd hi hx hn (j := 0) hj k

end Go.Hw

end
section
/-! HwQ -/
/- The frame of the proofs: structs that came in, opened. -/
set_option maxRecDepth 100000
set_option linter.unusedSimpArgs false
set_option linter.unusedVariables false
set_option linter.unnecessarySimpa false
set_option linter.unusedSectionVars false
namespace Go.Hw
open Go Go.RowKit Go.ChangeShapes Go.WideShapes Go.ChangeAt

/-- Elements that are told. -/
theorem rows_st {s : Nat} {H : Hp} {A : Option Addr} {n : Nat} {α : Type} {g : α → List Value} {q : α → Prop} {rows : List (List Value)} (hl : rows.length = n)
    (h : ∀ (i : Nat) (r : List Value), rows[i]? = some r → ∃ a, A = some a ∧ (∀ j v, r[j]? = some v → H.cell? (a.add (i * s + j)) = some v) ∧ ∃ x, r = g x ∧ q x) : ∃ l : List α, l.length = n ∧ CellsS s H A (l.map g) ∧ ∀ x ∈ l, q x := by
  have hx : ∀ i : Fin rows.length, ∃ x, rows[i] = g x ∧ q x := fun i => by
    obtain ⟨_, _, _, x, hx, hq⟩ := h i rows[i] (by simp)
    exact ⟨x, hx, hq⟩
  let f : Fin rows.length → α := fun i => Classical.choose (hx i)
  have hf : ∀ i : Fin rows.length, rows[i] = g (f i) ∧ q (f i) := fun i => Classical.choose_spec (hx i)
  refine ⟨List.ofFn f, by simp [hl], fun i r hr => ?_, fun x hx => ?_⟩
  · rw [List.getElem?_map] at hr
    obtain ⟨y, hy, rfl⟩ := Option.map_eq_some_iff.1 hr
    have hi : i < rows.length := by
      have := (List.getElem?_eq_some_iff.1 hy).1
      simpa using this
    have hy' : y = f ⟨i, hi⟩ := by
      rw [List.getElem?_ofFn] at hy
      simp only [hi, dif_pos, Option.some.injEq] at hy
      exact hy.symm
    subst hy'
    obtain ⟨a, ha, hc, _⟩ := h i rows[i] (by simp)
    refine ⟨a, ha, fun j v hj => hc j v ?_⟩
    rw [show rows[i] = g (f ⟨i, hi⟩) from (hf ⟨i, hi⟩).1]; exact hj
  · obtain ⟨i, rfl⟩ := List.mem_ofFn.1 hx
    exact (hf i).2

section
variable {H : Type} {enc : TypeId × Value → H} {P : Program} {W : World} {t e : TypeId} {cs : List Value} {d : DataW H} {ps : List MemPlace} {fuel : Nat}

theorem trod_st {fs : Array Field} (hu : P.underlying t = some (.struct fs)) (h : DataW.trod enc P W 0 (fun _ => true) true fuel t cs = some (d, ps)) :
    cs.length = P.cellsOf t ∧ ∃ f, ∀ (i : Nat) (fd : Field), fs[i]? = some fd → ∃ d' p', DataW.trod enc P W 0 (fun _ => true) true f fd.type ((cs.drop fd.offset).take (P.cellsOf fd.type)) = some (d', p') := by
  obtain ⟨xs, n, _, _, hl, hlen, hf⟩ := DataW.trod_struct hu h
  refine ⟨hl, n, fun i fd hi => ?_⟩
  have h1 := hf i fd hi
  have hlt : i < xs.length := by rw [hlen]; exact (Array.getElem?_eq_some_iff.1 hi).1
  rw [List.getElem?_eq_getElem hlt] at h1
  exact ⟨xs[i].1, xs[i].2, h1⟩

theorem take1 {cs : List Value} {o : Nat} {v : Value} (h : (cs.drop o).take 1 = [v]) : cs[o]? = some v := by
  have : ((cs.drop o).take 1)[0]? = some v := by rw [h]; rfl
  rw [List.getElem?_take, if_pos (by omega), List.getElem?_drop, Nat.add_zero] at this
  exact this

theorem trod_fint {o : Nat} {k : IntKind} (he : P.underlying e = some (.int k)) (h1 : P.cellsOf e = 1) (h : ∃ d' p', DataW.trod enc P W 0 (fun _ => true) true fuel e ((cs.drop o).take (P.cellsOf e)) = some (d', p')) : ∃ x, cs[o]? = some (.int k x) ∧ (Lit.int k x).wf = true := by
  obtain ⟨d', p', h⟩ := h
  rw [h1] at h
  obtain ⟨x, hx, _, hw⟩ := DataW.trod_int he h
  exact ⟨x, take1 hx, hw⟩
theorem trod_fbool {o : Nat} (he : P.underlying e = some .bool) (h1 : P.cellsOf e = 1) (h : ∃ d' p', DataW.trod enc P W 0 (fun _ => true) true fuel e ((cs.drop o).take (P.cellsOf e)) = some (d', p')) : ∃ x, cs[o]? = some (.bool x) := by
  obtain ⟨d', p', h⟩ := h
  rw [h1] at h
  obtain ⟨x, hx, _⟩ := DataW.trod_bool he h
  exact ⟨x, take1 hx⟩
theorem trod_fsl {o : Nat} {e' : TypeId} (he : P.underlying e = some (.slice e')) (h1 : P.cellsOf e = 1) (h : ∃ d' p', DataW.trod enc P W 0 (fun _ => true) true fuel e ((cs.drop o).take (P.cellsOf e)) = some (d', p')) :
    ∃ A n c d' p', cs[o]? = some (.slice A n c) ∧ DataW.trod enc P W 0 (fun _ => true) true fuel e [.slice A n c] = some (d', p') := by
  obtain ⟨d', p', h⟩ := h
  rw [h1] at h
  obtain ⟨A, n, c, hx, _⟩ := trod_sl he h
  rw [hx] at h
  exact ⟨A, n, c, d', p', take1 hx, h⟩
end

def EqAll (cs : List Value) : Nat → List Value → Prop
  | _, [] => True
  | i, v :: l => cs[i]? = some v ∧ EqAll cs (i + 1) l
theorem EqAll.out {cs l : List Value} (h : EqAll cs 0 l) (hl : cs.length = l.length) : cs = l := by
  have key : ∀ (l : List Value) (i : Nat), EqAll cs i l → ∀ j, j < l.length → cs[i + j]? = l[j]? := by
    intro l
    induction l with
    | nil => intro i _ j hj; simp at hj
    | cons v l ih =>
      intro i ⟨h1, h2⟩ j hj
      cases j with
      | zero => simpa using h1
      | succ j =>
        rw [show i + (j + 1) = i + 1 + j by omega, ih (i + 1) h2 j (by simpa using hj)]
        simp
  apply List.ext_getElem?
  intro j
  by_cases hj : j < l.length
  · simpa using key l 0 h j hj
  · rw [List.getElem?_eq_none (by omega), List.getElem?_eq_none (by omega)]

section
variable {H : Type} {enc : TypeId × Value → H} {P : Program} {W : World} {t e : TypeId} {v : Value} {d : DataW H} {ps : List MemPlace} {r : Reach} {base : Nat}
/-- A struct that came in. -/
theorem open_st {fs : Array Field} (hu : P.underlying t = some (.struct fs)) (hval : Value.okWide P W r base t v) (h : DataW.Trod enc P W 0 (fun _ => true) true t v d ps) :
    ∃ cs : List Value, v = .agg cs.toArray ∧ cs.length = P.cellsOf t ∧ ∃ f, ∀ (i : Nat) (fd : Field), fs[i]? = some fd → ∃ d' p', DataW.trod enc P W 0 (fun _ => true) true f fd.type ((cs.drop fd.offset).take (P.cellsOf fd.type)) = some (d', p') := by
  obtain ⟨cs, rfl, _⟩ := okWide_struct hu hval
  obtain ⟨fuel, h⟩ := h
  refine ⟨cs.toList, by rw [Array.toArray_toList], ?_⟩
  exact trod_st hu h
theorem sub_get {cs : List Value} {o n i : Nat} {v : Value} (h : ((cs.drop o).take n)[i]? = some v) : cs[o + i]? = some v := by
  rw [List.getElem?_take] at h
  split at h
  · rw [List.getElem?_drop] at h; exact h
  · cases h
end

theorem list2 {r : List Value} {a b : Value} (hl : r.length = 2) (h0 : r[0]? = some a) (h1 : r[1]? = some b) : r = [a, b] := by
  match r, hl with
  | [x, y], _ => simp at h0 h1; rw [h0, h1]
theorem list3 {r : List Value} {a b c : Value} (hl : r.length = 3) (h0 : r[0]? = some a) (h1 : r[1]? = some b) (h2 : r[2]? = some c) : r = [a, b, c] := by
  match r, hl with
  | [x, y, z], _ => simp at h0 h1 h2; rw [h0, h1, h2]
theorem list4 {r : List Value} {a b c d : Value} (hl : r.length = 4) (h0 : r[0]? = some a) (h1 : r[1]? = some b) (h2 : r[2]? = some c) (h3 : r[3]? = some d) : r = [a, b, c, d] := by
  match r, hl with
  | [x, y, z, w], _ => simp at h0 h1 h2 h3; rw [h0, h1, h2, h3]

end Go.Hw

end
section
/-! HwM -/
/- The frame of the proofs: maps from pointers to whole blocks, with int values. -/
set_option maxRecDepth 100000
set_option linter.unusedSimpArgs false
set_option linter.unusedVariables false
set_option linter.unnecessarySimpa false
set_option linter.unusedSectionVars false
namespace Go.Hw
open Go

def ptrV (b : Nat) : Value := .pointer (some ⟨b, 0, none⟩)
def ent (x : Nat × Int × Nat) : MapEntry := { key := ptrV x.1, val := .int .i64 x.2.1, born := x.2.2 }
def mapO (l : List (Nat × Int × Nat)) (clock : Nat) : AO := .obj (.map (l.map ent).toArray clock)
def PlainB (H : Hp) (b : Nat) : Prop := ∃ c e, H b = some (.obj (.cells c e))

theorem PlainB.le {H H' : Hp} {b : Nat} (h : PlainB H b) (k : H.le H') : PlainB H' b := by
  obtain ⟨c, e, h⟩ := h; exact ⟨c, e, k _ _ h⟩

theorem PlainB.heap {H : Hp} {w : World} {b : Nat} (h : PlainB H b) (hw : Fits H w) : ∃ c e, w.heap[b]? = some (.cells c e (0, 0)) := by
  obtain ⟨c, e, h⟩ := h
  obtain ⟨o, ho, hh⟩ := hw _ _ h
  cases hh
  exact ⟨c, e, ho⟩

theorem mapO.heap {H : Hp} {w : World} {r clock : Nat} {l : List (Nat × Int × Nat)} (h : H r = some (mapO l clock)) (hw : Fits H w) : w.heap[r]? = some (.map (l.map ent).toArray clock) := by
  obtain ⟨o, ho, hh⟩ := hw _ _ h
  cases hh
  exact ho

section
variable {P : Program} {t te : TypeId} {j : TypeInfo} (ht : P.underlying t = some (.pointer te)) (hj : P.info? te = some j) (hs : j.size ≠ 0)
include ht hj hs

theorem equal_ptr_run {H : Hp} {w : World} (hw : Fits H w) {a b : Nat} (ha : PlainB H a) (hb : PlainB H b) : (Op.equal t (ptrV a) (ptrV b)).run P w = .ok (decide (a = b)) w := by
  obtain ⟨ca, ea, ha⟩ := ha.heap hw
  obtain ⟨cb, eb, hb⟩ := hb.heap hw
  unfold Op.equal Op.maxDepth Op.equalIn ptrV
  simp only [Sem.run_bind, underlying_run ht, Result.andThen_ok, sizeOf_run hj]
  rw [if_pos hs]
  by_cases e : a = b
  · subst e
    rw [run_sameAddr_same]; simp
  · rw [run_sameAddr_other w (a := ⟨a, 0, none⟩) (b := ⟨b, 0, none⟩) (by simpa using e) ha hb]; simp [e]

theorem equal_nil_run {w : World} {b : Nat} : (Op.equal t (.pointer none) (ptrV b)).run P w = .ok false w := by
  unfold Op.equal Op.maxDepth Op.equalIn ptrV
  simp [underlying_run ht]

def findR (a : Nat) : List (Nat × Int × Nat) → Nat → Option (Nat × Value)
  | [], _ => none
  | x :: l, i => if a = x.1 then some (i, .int .i64 x.2.1) else findR a l (i + 1)

theorem findAsk_run {H : Hp} {w : World} (hw : Fits H w) {a : Nat} (ha : PlainB H a) : ∀ (l : List (Nat × Int × Nat)) (i : Nat), (∀ x ∈ l, PlainB H x.1) → (Instr.findAsking t (ptrV a) (l.map ent) i).run P w = .ok (findR a l i) w
  | [], i, _ => by simp [Instr.findAsking, findR]
  | x :: l, i, h => by
    simp only [List.map_cons, Instr.findAsking, Sem.run_bind]
    rw [show (ent x).key = ptrV x.1 from rfl, equal_ptr_run ht hj hs hw ha (h x (by simp))]
    simp only [Result.andThen_ok, findR]
    by_cases e : a = x.1
    · simp [e, ent]
    · simp only [e, decide_false, Bool.false_eq_true, if_false]
      exact findAsk_run hw ha l (i + 1) (fun y hy => h y (by simp [hy]))

theorem findAsk_nil {w : World} : ∀ (l : List (Nat × Int × Nat)) (i : Nat), (Instr.findAsking t (.pointer none) (l.map ent) i).run P w = .ok none w
  | [], i => by simp [Instr.findAsking]
  | x :: l, i => by
    simp only [List.map_cons, Instr.findAsking, Sem.run_bind]
    rw [show (ent x).key = ptrV x.1 from rfl, equal_nil_run ht hj hs]
    simp only [Result.andThen_ok, Bool.false_eq_true, if_false]
    exact findAsk_nil l (i + 1)

theorem findKey_run {H : Hp} {w : World} (hw : Fits H w) {a : Nat} (ha : PlainB H a) (l : List (Nat × Int × Nat)) (h : ∀ x ∈ l, PlainB H x.1) : (Instr.findKey t (ptrV a) (l.map ent)).run P w = .ok (findR a l 0) w := by
  unfold Instr.findKey
  simp only [Sem.run_bind, underlying_run ht, Result.andThen_ok]
  cases l with
  | nil => simp [Instr.findNow, findR]
  | cons x l =>
    simp only [List.map_cons, Instr.findNow, Instr.sameNow]
    exact findAsk_run ht hj hs hw ha (x :: l) 0 h

theorem findKey_nil {w : World} (l : List (Nat × Int × Nat)) : (Instr.findKey t (.pointer none) (l.map ent)).run P w = .ok none w := by
  unfold Instr.findKey
  simp only [Sem.run_bind, underlying_run ht, Result.andThen_ok]
  cases l with
  | nil => simp [Instr.findNow]
  | cons x l =>
    simp only [List.map_cons, Instr.findNow, Instr.sameNow]
    exact findAsk_nil ht hj hs (x :: l) 0

theorem checkKey_run {w : World} (e : Bool) (p : Option Addr) : (Instr.checkKey e 10000 t (.pointer p)).run P w = .ok () w := by
  unfold Instr.checkKey
  simp [underlying_run ht]

variable {tm tv : TypeId} (hm : P.underlying tm = some (.map t tv))
include hm

theorem lookup_ptr {jv : TypeInfo} (hv : P.info? tv = some jv) (hz : jv.zero = some (.int .i64 0)) {H : Hp} {r clock a : Nat} {l : List (Nat × Int × Nat)} (hr : H r = some (mapO l clock)) (ha : PlainB H a) (hl : ∀ x ∈ l, PlainB H x.1) {K : Value → Prop}
    (k1 : ∀ i v, findR a l 0 = some (i, v) → K (.tuple #[v, .bool true])) (k2 : findR a l 0 = none → K (.tuple #[.int .i64 0, .bool false])) : SemV P (Instr.lookup tm (.map (some r)) (ptrV a) true) H K := by
  have hrun : ∀ w, Fits H w → (Instr.lookup tm (.map (some r)) (ptrV a) true).run P w = .ok (match findR a l 0 with | some (_, v) => .tuple #[v, .bool true] | none => .tuple #[.int .i64 0, .bool false]) w := fun w hw => by
    have hh := mapO.heap hr hw
    simp only [Instr.lookup, Sem.run_bind, underlying_run hm, Result.andThen_ok, MapKept.run_getObj_map hh, Sem.run_pure]
    rw [show ptrV a = .pointer (some ⟨a, 0, none⟩) from rfl, checkKey_run ht hj hs]
    simp only [Result.andThen_ok]
    rw [show (Value.pointer (some ⟨a, 0, none⟩)) = ptrV a from rfl, findKey_run ht hj hs hw ha l hl]
    simp only [Result.andThen_ok]
    cases findR a l 0 with
    | some x => simp
    | none => simp [zeroValue, typeInfo_run hv, hz]
  refine ⟨_, ?_, hrun⟩
  cases hf : findR a l 0 with
  | some x => exact k1 _ _ hf
  | none => exact k2 hf

theorem lookup_nilptr {jv : TypeInfo} (hv : P.info? tv = some jv) (hz : jv.zero = some (.int .i64 0)) {H : Hp} {r clock : Nat} {l : List (Nat × Int × Nat)} (hr : H r = some (mapO l clock)) {K : Value → Prop} (k2 : K (.tuple #[.int .i64 0, .bool false])) :
    SemV P (Instr.lookup tm (.map (some r)) (.pointer none) true) H K := by
  refine ⟨_, k2, fun w hw => ?_⟩
  have hh := mapO.heap hr hw
  simp only [Instr.lookup, Sem.run_bind, underlying_run hm, Result.andThen_ok, MapKept.run_getObj_map hh, Sem.run_pure]
  rw [checkKey_run ht hj hs]
  simp only [Result.andThen_ok]
  rw [findKey_nil ht hj hs]
  simp [zeroValue, typeInfo_run hv, hz]
end

theorem erase_map {α β : Type} (f : α → β) : ∀ (l : List α) (k : Nat), (l.map f).eraseIdx k = (l.eraseIdx k).map f
  | [], k => by simp
  | x :: l, 0 => by simp
  | x :: l, k + 1 => by simp [erase_map f l k]

theorem At.setMap {H0 H : Hp} {w0 w : World} {r clock : Nat} {l : List (Nat × Int × Nat)} (hA : At H0 w0 H w) (hr : H r = some (mapO l clock)) (o : Obj) : At H0 w0 (H.set r (.obj o)) { w with heap := w.heap.setIfInBounds r o } := by
  have hh := mapO.heap hr hA.fits
  have hlt : r < w.heap.size := (Array.getElem?_eq_some_iff.1 hh).1
  refine hA.turn hr (x' := o) ?_ rfl ?_ rfl rfl rfl (fun c hc => ?_)
  · show (w.heap.setIfInBounds r o)[r]? = some o
    simp [hlt]
  · show (w.heap.setIfInBounds r o).size = w.heap.size
    simp
  · show (w.heap.setIfInBounds r o)[c]? = w.heap[c]?
    rw [Array.getElem?_setIfInBounds_ne (Ne.symm hc)]

section
variable {P : Program} {t te : TypeId} {j : TypeInfo} (ht : P.underlying t = some (.pointer te)) (hj : P.info? te = some j) (hs : j.size ≠ 0)
variable {tm tv : TypeId} (hm : P.underlying tm = some (.map t tv))
include ht hj hs hm

theorem mapUpdate_new {H : Hp} {r clock a : Nat} {n : Int} {l : List (Nat × Int × Nat)} (hr : H r = some (mapO l clock)) (ha : PlainB H a) (hl : ∀ x ∈ l, PlainB H x.1) (hf : findR a l 0 = none) {K : Unit → Hp → Prop}
    (k : K () (H.set r (mapO (l ++ [(a, n, clock)]) (clock + 1)))) : SemK P (Instr.mapUpdate tm (.map (some r)) (ptrV a) (.int .i64 n)) H K := fun H0 w0 w hA => by
  have hh := mapO.heap hr hA.fits
  refine ⟨(), _, _, ?_, k, hA.setMap hr _⟩
  simp only [Instr.mapUpdate, Sem.run_bind, underlying_run hm, Result.andThen_ok, MapKept.run_getObj_map hh]
  rw [show ptrV a = .pointer (some ⟨a, 0, none⟩) from rfl, checkKey_run ht hj hs]
  simp only [Result.andThen_ok]
  rw [show (Value.pointer (some ⟨a, 0, none⟩)) = ptrV a from rfl, findKey_run ht hj hs hA.fits ha l hl, hf]
  simp only [Result.andThen_ok]
  rw [MapKept.run_setObj_map _ hh]
  simp [ent]

theorem findR_filter (a : Nat) : ∀ (l : List (Nat × Int × Nat)) (i k : Nat) (v : Value), (l.map (·.1)).Nodup → findR a l i = some (k, v) → i ≤ k ∧ l.eraseIdx (k - i) = l.filter (fun x => x.1 ≠ a) ∧ ∃ x ∈ l, x.1 = a ∧ v = .int .i64 x.2.1
  | [], i, k, v, _, h => by cases h
  | x :: l, i, k, v, hn, h => by
    unfold findR at h
    simp only [List.map_cons, List.nodup_cons] at hn
    by_cases e : a = x.1
    · rw [if_pos e] at h
      cases h
      refine ⟨Nat.le_refl _, ?_, x, by simp, e.symm, rfl⟩
      rw [Nat.sub_self, List.eraseIdx_cons_zero, List.filter_cons_of_neg (by simp [e])]
      symm
      rw [List.filter_eq_self]
      intro y hy
      have : y.1 ≠ a := fun e2 => hn.1 (by rw [← e, ← e2]; exact List.mem_map_of_mem hy)
      simpa using this
    · rw [if_neg e] at h
      obtain ⟨h1, h2, y, hy, h3, h4⟩ := findR_filter a l (i + 1) k v hn.2 h
      refine ⟨by omega, ?_, y, by simp [hy], h3, h4⟩
      rw [show k - i = (k - (i + 1)) + 1 by omega, List.eraseIdx_cons_succ, h2, List.filter_cons_of_pos (by simp; exact fun e2 => e e2.symm)]

theorem delete_ptr {ty : TypeId} {t2 : TypeId} {H : Hp} {r clock a k : Nat} {v : Value} {l : List (Nat × Int × Nat)} (hr : H r = some (mapO l clock)) (ha : PlainB H a) (hl : ∀ x ∈ l, PlainB H x.1) (hn : (l.map (·.1)).Nodup) (hf : findR a l 0 = some (k, v)) {K : Value → Hp → Prop}
    (kk : K (.tuple #[]) (H.set r (mapO (l.filter fun x => x.1 ≠ a) clock))) : SemK P (Builtin.delete_ #[tm, t2] ty #[.map (some r), ptrV a]) H K := fun H0 w0 w hA => by
  have hh := mapO.heap hr hA.fits
  obtain ⟨_, h2, _⟩ := findR_filter ht hj hs hm a l 0 k v hn hf
  rw [Nat.sub_zero] at h2
  refine ⟨_, _, _, ?_, kk, hA.setMap hr _⟩
  simp only [Builtin.delete_, Sem.run_bind, underlying_run hm, Result.andThen_ok, MapKept.run_getObj_map hh, List.getElem?_toArray, List.getElem?_cons_zero, List.getElem?_cons_succ]
  rw [show ptrV a = .pointer (some ⟨a, 0, none⟩) from rfl, checkKey_run ht hj hs]
  simp only [Result.andThen_ok]
  rw [show (Value.pointer (some ⟨a, 0, none⟩)) = ptrV a from rfl, findKey_run ht hj hs hA.fits ha l hl, hf]
  simp only [Result.andThen_ok]
  rw [Sem.run_bind, MapKept.run_setObj_map _ hh]
  rw [← h2, ← erase_map]
  simp

theorem clear_ptr {ty : TypeId} {H : Hp} {r clock : Nat} {l : List (Nat × Int × Nat)} (hr : H r = some (mapO l clock)) {K : Value → Hp → Prop} (kk : K (.tuple #[]) (H.set r (mapO [] clock))) : SemK P (Builtin.clear_ #[tm] ty #[.map (some r)]) H K := fun H0 w0 w hA => by
  have hh := mapO.heap hr hA.fits
  refine ⟨_, _, _, ?_, kk, hA.setMap hr _⟩
  simp only [Builtin.clear_, Sem.run_bind, underlying_run hm, Result.andThen_ok, List.getElem?_toArray, List.getElem?_cons_zero, MapKept.run_getObj_map hh]
  try rw [Sem.run_bind]
  rw [MapKept.run_setObj_map _ hh]
  simp
end

end Go.Hw

end
section
/-! Warena -/
/- Formulas of functions, printed by wip/tools/hwp.py. -/
set_option maxRecDepth 100000
set_option linter.unusedVariables false
namespace Go.Proofs.YtghajiefpmcpmaaGreatDoor.W
open Go Go.Hw

theorem mixWarena : Tryz.prog.follows .mixedOrders = true := by kernel_rfl
-- (*arena.meter).Peak
def W_arena_meter_Peak (p1 : Option Addr) (H : Hp) (K : Value → Hp → Prop) : Prop :=
  NN p1 fun a1 => Ld H (a1.add 2) fun v1 => DI .i64 v1 fun x1 => K (.int .i64 x1) H
def W_arena_meter_Peak.Λ (_ : Value → Hp → Prop) : Cuts := Cuts.none (fun _ => none)
theorem W_arena_meter_Peak.ok (p1 : Option Addr) (H : Hp) (K : Value → Hp → Prop) (h : W_arena_meter_Peak p1 H K) : HCalls Tryz.prog 25 #[.pointer p1] H K :=
  hcalls Tryz.func25 rfl (Nat.le_of_ble_eq_true rfl) (hw_safe (Λ := Cuts.none (fun _ => none)) mixWarena _ _ _ _ _ (Eq.mp (by kernel_rfl) h) (obs_none _ _ _ _ _))

-- arena.New
def W_arena_New (x1 : Int) (H : Hp) (K : Value → Hp → Prop) : Prop :=
  BIf (decide (x1 < (1 : Int))) (K (.pointer none) H) (BIf (decide (x1 > (16777216 : Int))) (K (.pointer none) H) (Nw H (.obj (.map #[] 0)) fun b1 H1 => Nw H1 (.obj (.cells #[.int .i64 x1, .int .i64 (0 : Int), .int .i64 (0 : Int), .map (some b1)] 73)) fun b2 H2 => K (.pointer (some (⟨b2, 0, none⟩ : Addr))) H2))
def W_arena_New.Λ (_ : Value → Hp → Prop) : Cuts := Cuts.none (fun _ => none)
theorem W_arena_New.ok (x1 : Int) (H : Hp) (K : Value → Hp → Prop) (h : W_arena_New x1 H K) : HCalls Tryz.prog 97 #[.int .i64 x1] H K :=
  hcalls Tryz.func97 rfl (Nat.le_of_ble_eq_true rfl) (hw_safe (Λ := Cuts.none (fun _ => none)) mixWarena _ _ _ _ _ (Eq.mp (by kernel_rfl) h) (obs_none _ _ _ _ _))

-- (*arena.Arena).Take
def W_arena_Arena_Take (p1 : Option Addr) (x1 : Int) (H : Hp) (K : Value → Hp → Prop) : Prop :=
  BIf (decide (x1 < (1 : Int))) (K (.tuple #[.pointer none, .int .i64 (1 : Int)]) H) (NN p1 fun a1 => HCalls Tryz.prog 229 #[.pointer (some (a1.add 0))] H fun v1 H1 => DI .i64 v1 fun x2 => BIf (decide (x1 > x2)) (K (.tuple #[.pointer none, .int .i64 (6 : Int)]) H1) (MkS Tryz.prog 60 x1 x1 H1 fun v2 H2 => DSl v2 fun A1 n1 m1 => Nw H2 (.obj (.cells #[.pointer p1, .slice A1 n1 m1] 316)) fun b1 H3 => NN p1 fun a2 => Ld H3 (a2.add 3) fun v3 => DM v3 fun r1 => SemK Tryz.prog (Instr.mapUpdate 71 (.map r1) (.pointer (some (⟨b1, 0, none⟩ : Addr))) (.int .i64 x1)) H3 fun _ H4 => NN p1 fun a3 => HCalls Tryz.prog 230 #[.pointer (some (a3.add 0)), .int .i64 x1] H4 fun v4 H5 => K (.tuple #[.pointer (some (⟨b1, 0, none⟩ : Addr)), .int .i64 (0 : Int)]) H5))
def W_arena_Arena_Take.Λ (_ : Value → Hp → Prop) : Cuts := Cuts.none (fun _ => none)
theorem W_arena_Arena_Take.ok (p1 : Option Addr) (x1 : Int) (H : Hp) (K : Value → Hp → Prop) (h : W_arena_Arena_Take p1 x1 H K) : HCalls Tryz.prog 170 #[.pointer p1, .int .i64 x1] H K :=
  hcalls Tryz.func170 rfl (Nat.le_of_ble_eq_true rfl) (hw_safe (Λ := Cuts.none (fun _ => none)) mixWarena _ _ _ _ _ (Eq.mp (by kernel_rfl) h) (obs_none _ _ _ _ _))

-- (*arena.Arena).Give
def W_arena_Arena_Give.l1 (K : Value → Hp → Prop) : Nat → Option Addr → Option Addr → Nat → Nat → Int → Int → Hp → Prop
  | 0, _, _, _, _, _, _, _ => False
  | k + 1, p2, A2, n2, m2, x1, x2, H =>
    let R1 := W_arena_Arena_Give.l1 K k
    BIf (decide (x2 < x1)) (ixI x2 n2 (NN A2 fun a1 => Ld H (a1.add (x2.toNat * 1)) fun v1 => DP v1 fun p3 => NN p2 fun a2 => Ld H (a2.add 3) fun v2 => DM v2 fun r1 => SemV Tryz.prog (Instr.lookup 71 (.map r1) (.pointer p3) true) H fun v3 => DTup v3 fun l1 => DCons l1 fun v4 l2 => DI .i64 v4 fun x3 => DCons l2 fun v5 l3 => DB v5 fun c1 => DNil l3 (BIf c1 (NN p2 fun a3 => Ld H (a3.add 3) fun v6 => DM v6 fun r2 => SemK Tryz.prog (Builtin.delete_ #[71, 256] 0 #[.map r2, .pointer p3]) H fun v7 H1 => NN p2 fun a4 => HCalls Tryz.prog 230 #[.pointer (some (a4.add 0)), .int .i64 (IntKind.i64.wrap (0 - x3))] H1 fun v8 H2 => NN p3 fun a5 => St H2 (((a5.add 0).add 1).add 0) (.slice none 0 0) fun H3 => R1 p2 A2 n2 m2 x1 (IntKind.i64.wrap (x2 + (1 : Int))) H3) (R1 p2 A2 n2 m2 x1 (IntKind.i64.wrap (x2 + (1 : Int))) H)))) (K (.tuple #[]) H)
def W_arena_Arena_Give (p1 : Option Addr) (A1 : Option Addr) (n1 : Nat) (m1 : Nat) (H : Hp) (K : Value → Hp → Prop) : Prop :=
  (∃ k, W_arena_Arena_Give.l1 K k p1 A1 n1 m1 ((n1 : Nat) : Int) (0 : Int) H)
def W_arena_Arena_Give.l1.L (K : Value → Hp → Prop) (k : Nat) : Mid := fun E D H =>
  DG (E.get? 0) fun w0 => DP w0 fun p2 => DG (E.get? 8) fun w8 => DSl w8 fun A2 n2 m2 => DG (E.get? 9) fun w9 => DI .i64 w9 fun x1 => DG (E.get? 10) fun w10 => DI .i64 w10 fun x2 => DNilD D (W_arena_Arena_Give.l1 K k p2 A2 n2 m2 x1 x2 H)
def W_arena_Arena_Give.Λ1 (_ : Value → Hp → Prop) (_R1 : Option Addr → Option Addr → Nat → Nat → Int → Int → Hp → Prop) : Cuts := Cuts.none (fun _ => none)
def W_arena_Arena_Give.Λ (K : Value → Hp → Prop) : Cuts := ⟨fun i => none, fun i => match Nat.beq i 1 with | true => some (fun E D H => ∃ k, W_arena_Arena_Give.l1.L K k E D H) | false => none, (fun _ => none)⟩
theorem W_arena_Arena_Give.ok (p1 : Option Addr) (A1 : Option Addr) (n1 : Nat) (m1 : Nat) (H : Hp) (K : Value → Hp → Prop) (h : W_arena_Arena_Give p1 A1 n1 m1 H K) : HCalls Tryz.prog 172 #[.pointer p1, .slice A1 n1 m1] H K :=
  hcalls Tryz.func172 rfl (Nat.le_of_ble_eq_true rfl) (hw_safe (Λ := (W_arena_Arena_Give.Λ K)) mixWarena _ _ _ _ _ (Eq.mp (by kernel_rfl) h) (obs_seq obs_region rfl (obs_block (obs_loop rfl (fun E D H h => by
      refine Safe.loop' (W_arena_Arena_Give.l1.L K) (fun E D H h => ?_) (fun k E D H h => ?_) E D H h
      · obtain ⟨w0, e0, g1⟩ := DG.out h; obtain ⟨p2, rfl, g2⟩ := DP.out g1; obtain ⟨w8, e8, g3⟩ := DG.out g2; obtain ⟨A2, n2, m2, rfl, g4⟩ := DSl.out g3; obtain ⟨w9, e9, g5⟩ := DG.out g4; obtain ⟨x1, rfl, g6⟩ := DI.out g5; obtain ⟨w10, e10, g7⟩ := DG.out g6; obtain ⟨x2, rfl, g8⟩ := DI.out g7; obtain ⟨rfl, h'⟩ := DNilD.out g8; exact h'
      · obtain ⟨w0, e0, g1⟩ := DG.out h
        obtain ⟨p2, rfl, g2⟩ := DP.out g1
        obtain ⟨w8, e8, g3⟩ := DG.out g2
        obtain ⟨A2, n2, m2, rfl, g4⟩ := DSl.out g3
        obtain ⟨w9, e9, g5⟩ := DG.out g4
        obtain ⟨x1, rfl, g6⟩ := DI.out g5
        obtain ⟨w10, e10, g7⟩ := DG.out g6
        obtain ⟨x2, rfl, g8⟩ := DI.out g7
        obtain ⟨rfl, h'⟩ := DNilD.out g8
        exact (hw_safe (Λ := (W_arena_Arena_Give.Λ1 K (W_arena_Arena_Give.l1 K k))) mixWarena _ _ [(0, .pointer p2), (8, .slice A2 n2 m2), (9, .int .i64 x1), (10, .int .i64 x2)] [] H (Eq.mp (by kernel_rfl) h') (obs_seq obs_region rfl (obs_seq (obs_cond obs_skip obs_exit) rfl (obs_seq (obs_block (obs_seq obs_region rfl (obs_seq obs_region rfl (obs_seq obs_region rfl (obs_cond (obs_seq obs_region rfl (obs_seq obs_region rfl obs_region)) obs_skip))))) rfl obs_region)))).weaken (EnvLe.cons e0 (EnvLe.cons e8 (EnvLe.cons e9 (EnvLe.cons e10 (EnvLe.nil _))))) (Hp.le_refl _))))))
theorem W_arena_Arena_Give.okD (p1 : Option Addr) (A1 : Option Addr) (n1 : Nat) (m1 : Nat) (H : Hp) (K : Value → Hp → Prop) (h : W_arena_Arena_Give p1 A1 n1 m1 H K) : HCallsD Tryz.prog 172 #[.pointer p1, .slice A1 n1 m1] H K :=
  hcallsD Tryz.func172 rfl (Nat.le_of_ble_eq_true rfl) (hw_safe (Λ := (W_arena_Arena_Give.Λ K)) mixWarena _ _ _ _ _ (Eq.mp (by kernel_rfl) h) (obs_seq obs_region rfl (obs_block (obs_loop rfl (fun E D H h => by
      refine Safe.loop' (W_arena_Arena_Give.l1.L K) (fun E D H h => ?_) (fun k E D H h => ?_) E D H h
      · obtain ⟨w0, e0, g1⟩ := DG.out h; obtain ⟨p2, rfl, g2⟩ := DP.out g1; obtain ⟨w8, e8, g3⟩ := DG.out g2; obtain ⟨A2, n2, m2, rfl, g4⟩ := DSl.out g3; obtain ⟨w9, e9, g5⟩ := DG.out g4; obtain ⟨x1, rfl, g6⟩ := DI.out g5; obtain ⟨w10, e10, g7⟩ := DG.out g6; obtain ⟨x2, rfl, g8⟩ := DI.out g7; obtain ⟨rfl, h'⟩ := DNilD.out g8; exact h'
      · obtain ⟨w0, e0, g1⟩ := DG.out h
        obtain ⟨p2, rfl, g2⟩ := DP.out g1
        obtain ⟨w8, e8, g3⟩ := DG.out g2
        obtain ⟨A2, n2, m2, rfl, g4⟩ := DSl.out g3
        obtain ⟨w9, e9, g5⟩ := DG.out g4
        obtain ⟨x1, rfl, g6⟩ := DI.out g5
        obtain ⟨w10, e10, g7⟩ := DG.out g6
        obtain ⟨x2, rfl, g8⟩ := DI.out g7
        obtain ⟨rfl, h'⟩ := DNilD.out g8
        exact (hw_safe (Λ := (W_arena_Arena_Give.Λ1 K (W_arena_Arena_Give.l1 K k))) mixWarena _ _ [(0, .pointer p2), (8, .slice A2 n2 m2), (9, .int .i64 x1), (10, .int .i64 x2)] [] H (Eq.mp (by kernel_rfl) h') (obs_seq obs_region rfl (obs_seq (obs_cond obs_skip obs_exit) rfl (obs_seq (obs_block (obs_seq obs_region rfl (obs_seq obs_region rfl (obs_seq obs_region rfl (obs_cond (obs_seq obs_region rfl (obs_seq obs_region rfl obs_region)) obs_skip))))) rfl obs_region)))).weaken (EnvLe.cons e0 (EnvLe.cons e8 (EnvLe.cons e9 (EnvLe.cons e10 (EnvLe.nil _))))) (Hp.le_refl _))))))

-- (*arena.Buffer).Words
def W_arena_Buffer_Words (p1 : Option Addr) (H : Hp) (K : Value → Hp → Prop) : Prop :=
  NN p1 fun a1 => Ld H ((a1.add 0).add 1) fun v1 => DSl v1 fun A1 n1 m1 => K (.slice A1 n1 m1) H
def W_arena_Buffer_Words.Λ (_ : Value → Hp → Prop) : Cuts := Cuts.none (fun _ => none)
theorem W_arena_Buffer_Words.ok (p1 : Option Addr) (H : Hp) (K : Value → Hp → Prop) (h : W_arena_Buffer_Words p1 H K) : HCalls Tryz.prog 174 #[.pointer p1] H K :=
  hcalls Tryz.func174 rfl (Nat.le_of_ble_eq_true rfl) (hw_safe (Λ := Cuts.none (fun _ => none)) mixWarena _ _ _ _ _ (Eq.mp (by kernel_rfl) h) (obs_none _ _ _ _ _))

-- (*arena.meter).Free
def W_arena_meter_Free (p1 : Option Addr) (H : Hp) (K : Value → Hp → Prop) : Prop :=
  NN p1 fun a1 => Ld H (a1.add 0) fun v1 => DI .i64 v1 fun x1 => NN p1 fun a2 => Ld H (a2.add 1) fun v2 => DI .i64 v2 fun x2 => K (.int .i64 (IntKind.i64.wrap (x1 - x2))) H
def W_arena_meter_Free.Λ (_ : Value → Hp → Prop) : Cuts := Cuts.none (fun _ => none)
theorem W_arena_meter_Free.ok (p1 : Option Addr) (H : Hp) (K : Value → Hp → Prop) (h : W_arena_meter_Free p1 H K) : HCalls Tryz.prog 229 #[.pointer p1] H K :=
  hcalls Tryz.func229 rfl (Nat.le_of_ble_eq_true rfl) (hw_safe (Λ := Cuts.none (fun _ => none)) mixWarena _ _ _ _ _ (Eq.mp (by kernel_rfl) h) (obs_none _ _ _ _ _))

-- (*arena.meter).add
def W_arena_meter_add (p1 : Option Addr) (x1 : Int) (H : Hp) (K : Value → Hp → Prop) : Prop :=
  NN p1 fun a1 => Ld H (a1.add 1) fun v1 => DI .i64 v1 fun x2 => NN p1 fun a2 => St H ((a2.add 1).add 0) (.int .i64 (IntKind.i64.wrap (x2 + x1))) fun H1 => NN p1 fun a3 => Ld H1 (a3.add 2) fun v2 => DI .i64 v2 fun x3 => NN p1 fun a4 => Ld H1 (a4.add 1) fun v3 => DI .i64 v3 fun x4 => NN p1 fun a5 => St H1 ((a5.add 2).add 0) (.int .i64 (if x4 > x3 then x4 else x3)) fun H2 => K (.tuple #[]) H2
def W_arena_meter_add.Λ (_ : Value → Hp → Prop) : Cuts := Cuts.none (fun i => match Nat.beq i 1 with | true => some ([], [0, 1, 2, 3, 4, 5, 6, 7, 8, 9, 10, 11], 12) | false => none)
theorem W_arena_meter_add.ok (p1 : Option Addr) (x1 : Int) (H : Hp) (K : Value → Hp → Prop) (h : W_arena_meter_add p1 x1 H K) : HCalls Tryz.prog 230 #[.pointer p1, .int .i64 x1] H K :=
  hcalls Tryz.func230 rfl (Nat.le_of_ble_eq_true rfl) (hw_safe (Λ := Cuts.none (fun i => match Nat.beq i 1 with | true => some ([], [0, 1, 2, 3, 4, 5, 6, 7, 8, 9, 10, 11], 12) | false => none)) mixWarena _ _ _ _ _ (Eq.mp (by kernel_rfl) h) (obs_none _ _ _ _ _))

end Go.Proofs.YtghajiefpmcpmaaGreatDoor.W

end
section
/-! AreA -/
/- arena: what its functions answer. -/
set_option maxRecDepth 100000
set_option linter.unusedSimpArgs false
set_option linter.unusedVariables false
set_option linter.unnecessarySimpa false
set_option linter.unusedSectionVars false
namespace Go.Proofs.YtghajiefpmcpmaaGreatDoor.Are
open Go Go.Hw Go.Proofs.YtghajiefpmcpmaaGreatDoor.W

def arenaO (cap used peak : Int) (mp : Nat) : AO := .obj (.cells #[.int .i64 cap, .int .i64 used, .int .i64 peak, .map (some mp)] 73)
def bufO (a : Nat) (A : Option Addr) (n m : Nat) : AO := .obj (.cells #[ptrV a, .slice A n m] 316)

theorem peak_ok (H : Hp) (a mp : Nat) (cap used peak : Int) (ha : H a = some (arenaO cap used peak mp)) : HCalls Tryz.prog 25 #[.pointer (some ⟨a, 0, none⟩)] H (RetE (.int .i64 peak) H) := by
  apply W_arena_meter_Peak.ok
  unfold W_arena_meter_Peak
  simp only [NN_some, Addr.add_lit', Nat.zero_add]
  refine Ld_obj ha (v := .int .i64 peak) rfl ?_
  simp only [DI_int', DB_bool, DS_string, DP_pointer, DSl_slice, DM_map, DA_agg, DTup_tuple, DCons_cons, DNil_nil, NN_some, BIf_true, BIf_false, BIf_same, List.toList_toArray, Bool.not_true, Bool.not_false]
  exact RetE.mk _ _
theorem free_ok (H : Hp) (a mp : Nat) (cap used peak : Int) (h1 : 0 ≤ used ∧ used ≤ cap ∧ cap ≤ 16777216) (ha : H a = some (arenaO cap used peak mp)) : HCalls Tryz.prog 229 #[.pointer (some ⟨a, 0, none⟩)] H (RetE (.int .i64 (cap - used)) H) := by
  apply W_arena_meter_Free.ok
  unfold W_arena_meter_Free
  simp only [NN_some, Addr.add_lit', Nat.zero_add]
  refine Ld_obj ha (v := .int .i64 cap) rfl ?_
  simp only [DI_int', DB_bool, DS_string, DP_pointer, DSl_slice, DM_map, DA_agg, DTup_tuple, DCons_cons, DNil_nil, NN_some, BIf_true, BIf_false, BIf_same, List.toList_toArray, Bool.not_true, Bool.not_false]
  refine Ld_obj ha (v := .int .i64 used) rfl ?_
  simp only [DI_int', DB_bool, DS_string, DP_pointer, DSl_slice, DM_map, DA_agg, DTup_tuple, DCons_cons, DNil_nil, NN_some, BIf_true, BIf_false, BIf_same, List.toList_toArray, Bool.not_true, Bool.not_false]
  rw [i64w (by omega) (by omega)]
  exact RetE.mk _ _
theorem add_ok (H : Hp) (a mp : Nat) (cap used peak n : Int) (h1 : 0 ≤ used ∧ used ≤ 16777216) (h2 : -16777216 ≤ n ∧ n ≤ 16777216) (ha : H a = some (arenaO cap used peak mp)) :
    HCalls Tryz.prog 230 #[.pointer (some ⟨a, 0, none⟩), .int .i64 n] H (RetE (.tuple #[]) (H.set a (arenaO cap (used + n) (if used + n > peak then used + n else peak) mp))) := by
  apply W_arena_meter_add.ok
  unfold W_arena_meter_add
  simp only [NN_some, Addr.add_lit', Nat.zero_add, Nat.add_zero]
  refine Ld_obj ha (v := .int .i64 used) rfl ?_
  simp only [DI_int', DB_bool, DS_string, DP_pointer, DSl_slice, DM_map, DA_agg, DTup_tuple, DCons_cons, DNil_nil, NN_some, BIf_true, BIf_false, BIf_same, List.toList_toArray, Bool.not_true, Bool.not_false]
  rw [i64w (by omega) (by omega)]
  refine St_obj ha (by simp) rfl ?_
  refine Ld_obj (Hp.set_same _ _ _) (v := .int .i64 peak) rfl ?_
  simp only [DI_int', DB_bool, DS_string, DP_pointer, DSl_slice, DM_map, DA_agg, DTup_tuple, DCons_cons, DNil_nil, NN_some, BIf_true, BIf_false, BIf_same, List.toList_toArray, Bool.not_true, Bool.not_false]
  refine Ld_obj (Hp.set_same _ _ _) (v := .int .i64 (used + n)) rfl ?_
  simp only [DI_int', DB_bool, DS_string, DP_pointer, DSl_slice, DM_map, DA_agg, DTup_tuple, DCons_cons, DNil_nil, NN_some, BIf_true, BIf_false, BIf_same, List.toList_toArray, Bool.not_true, Bool.not_false]
  refine St_obj (Hp.set_same _ _ _) (by simp) rfl ?_
  rw [Hp.set_set]
  exact RetE.mk _ _

theorem New_no (H : Hp) (x : Int) (h : x < 1 ∨ x > 16777216) : HCalls Tryz.prog 97 #[.int .i64 x] H (RetE (.pointer none) H) := by
  apply W_arena_New.ok
  unfold W_arena_New
  rw [BIf_decide, BIf_decide]
  split
  · exact RetE.mk _ _
  · rw [if_pos (by omega)]; exact RetE.mk _ _

theorem New_ok (H : Hp) (x : Int) (h : 1 ≤ x ∧ x ≤ 16777216) : HCalls Tryz.prog 97 #[.int .i64 x] H (fun v H' => ∃ mp a, H mp = none ∧ H a = none ∧ a ≠ mp ∧ v = ptrV a ∧ H' = (H.set mp (mapO [] 0)).set a (arenaO x 0 0 mp)) := by
  apply W_arena_New.ok
  unfold W_arena_New
  refine BIf_dneg (by omega) (BIf_dneg (by omega) ?_)
  intro mp hmp
  intro a ha
  obtain ⟨h1, h2⟩ := Hp.set_none ha
  exact ⟨mp, a, hmp, h2, h1, rfl, rfl⟩

theorem Words_ok (H : Hp) (b a : Nat) (A : Option Addr) (n m : Nat) (hb : H b = some (bufO a A n m)) : HCalls Tryz.prog 174 #[ptrV b] H (RetE (.slice A n m) H) := by
  apply W_arena_Buffer_Words.ok
  unfold W_arena_Buffer_Words
  simp only [NN_some, Addr.add_lit', Nat.zero_add, Nat.add_zero]
  refine Ld_obj hb (v := .slice A n m) rfl ?_
  simp only [DI_int', DB_bool, DS_string, DP_pointer, DSl_slice, DM_map, DA_agg, DTup_tuple, DCons_cons, DNil_nil, NN_some, BIf_true, BIf_false, BIf_same, List.toList_toArray, Bool.not_true, Bool.not_false]
  exact RetE.mk _ _
theorem t_ptr : Tryz.prog.underlying 256 = some (.pointer 316) := by kernel_rfl
theorem t_map : Tryz.prog.underlying 71 = some (.map 256 3) := by kernel_rfl
theorem t_buf : ∃ j, Tryz.prog.info? 316 = some j ∧ j.size ≠ 0 := by
  have h : (Tryz.prog.info? 316).map (·.size) = some 2 := by kernel_rfl
  obtain ⟨j, hj, h2⟩ := Option.map_eq_some_iff.1 h
  exact ⟨j, hj, by rw [h2]; omega⟩
theorem t_int : ∃ j, Tryz.prog.info? 3 = some j ∧ j.zero = some (.int .i64 0) := by
  have h : (Tryz.prog.info? 3).map (·.zero) = some (some (.int .i64 0)) := by kernel_rfl
  obtain ⟨j, hj, h2⟩ := Option.map_eq_some_iff.1 h
  exact ⟨j, hj, h2⟩
theorem cell_u64 : cellInfo Tryz.prog 60 = some (1, 8, some #[.int .u64 0]) := by kernel_rfl

theorem findR_none (a : Nat) : ∀ (l : List (Nat × Int × Nat)) (i : Nat), (∀ x ∈ l, x.1 ≠ a) → findR a l i = none
  | [], _, _ => rfl
  | x :: l, i, h => by unfold findR; rw [if_neg (fun e => h x (by simp) e.symm)]; exact findR_none a l (i + 1) (fun y hy => h y (by simp [hy]))

def zerosU64 (n : Nat) : List Value := zeroRow [.int .u64 0] n

/-- Take of what fits: two new blocks, and the arena counts them. -/
theorem Take_ok (H : Hp) (a mp : Nat) (cap used peak n : Int) (l : List (Nat × Int × Nat)) (clock : Nat) (h1 : 0 ≤ used ∧ used ≤ cap ∧ cap ≤ 16777216) (hn : 1 ≤ n ∧ n ≤ cap - used) (hne : a ≠ mp)
    (ha : H a = some (arenaO cap used peak mp)) (hm : H mp = some (mapO l clock)) (hl : ∀ x ∈ l, PlainB H x.1) :
    HCalls Tryz.prog 170 #[ptrV a, .int .i64 n] H (fun v H' => ∃ rb b, H rb = none ∧ H b = none ∧ b ≠ rb ∧ v = .tuple #[ptrV b, .int .i64 0] ∧
      H' = (((H.set rb (.row (zerosU64 n.toNat) 60 n.toNat)).set b (bufO a (some ⟨rb, 0, none⟩) n.toNat n.toNat)).set mp (mapO (l ++ [(b, n, clock)]) (clock + 1))).set a (arenaO cap (used + n) (if used + n > peak then used + n else peak) mp)) := by
  obtain ⟨jb, hjb, hsb⟩ := t_buf
  apply W_arena_Arena_Take.ok
  unfold W_arena_Arena_Take
  refine BIf_dneg (by omega) ?_
  simp only [NN_some, Addr.add_lit', Nat.zero_add, Nat.add_zero]
  refine HCalls.use (free_ok H a mp cap used peak h1 ha) ?_
  try simp only [DI_int', DB_bool, DS_string, DP_pointer, DSl_slice, DM_map, DA_agg, DTup_tuple, DCons_cons, DNil_nil, NN_some, BIf_true, BIf_false, BIf_same, List.toList_toArray, Bool.not_true, Bool.not_false]
  refine BIf_dneg (by omega) ?_
  refine MkS_of cell_u64 rfl (n := n.toNat) (m := n.toNat) (by omega) (by omega) (Nat.le_refl _) (by omega) (by omega) ?_
  intro rb hrb
  rw [Nat.mul_one]
  simp only [DI_int', DB_bool, DS_string, DP_pointer, DSl_slice, DM_map, DA_agg, DTup_tuple, DCons_cons, DNil_nil, NN_some, BIf_true, BIf_false, BIf_same, List.toList_toArray, Bool.not_true, Bool.not_false]
  intro b hb
  obtain ⟨hbr, hb'⟩ := Hp.set_none hb
  have har : a ≠ rb := fun e => by rw [e, hrb] at ha; cases ha
  have hab : a ≠ b := fun e => by rw [e, hb'] at ha; cases ha
  have hmr : mp ≠ rb := fun e => by rw [e, hrb] at hm; cases hm
  have hmb : mp ≠ b := fun e => by rw [e, hb'] at hm; cases hm
  have hle := Hp.le_trans (Hp.le_set (o := .row (zerosU64 n.toNat) 60 n.toNat) hrb) (Hp.le_set (o := bufO a (some ⟨rb, 0, none⟩) n.toNat n.toNat) hb)
  refine Ld_obj (hle _ _ ha) (v := .map (some mp)) rfl ?_
  simp only [DI_int', DB_bool, DS_string, DP_pointer, DSl_slice, DM_map, DA_agg, DTup_tuple, DCons_cons, DNil_nil, NN_some, BIf_true, BIf_false, BIf_same, List.toList_toArray, Bool.not_true, Bool.not_false]
  refine mapUpdate_new t_ptr hjb hsb t_map (hle _ _ hm) ⟨_, _, Hp.set_same _ _ _⟩ (fun x hx => (hl x hx).le hle) (findR_none b l 0 (fun x hx e => by
    obtain ⟨c, e', hxx⟩ := hl x hx
    rw [e, hb'] at hxx; cases hxx)) ?_
  refine HCalls.use (add_ok _ a mp cap used peak n (by omega) (by omega) (by rw [Hp.set_other _ _ hne]; exact hle _ _ ha)) ?_
  exact ⟨rb, b, hrb, hb', hbr, rfl, rfl⟩

theorem Take_arg (H : Hp) (a : Nat) (n : Int) (hn : n < 1) : HCalls Tryz.prog 170 #[ptrV a, .int .i64 n] H (RetE (.tuple #[.pointer none, .int .i64 1]) H) := by
  apply W_arena_Arena_Take.ok
  unfold W_arena_Arena_Take
  exact BIf_dpos hn (RetE.mk _ _)

theorem Take_full (H : Hp) (a mp : Nat) (cap used peak n : Int) (h1 : 0 ≤ used ∧ used ≤ cap ∧ cap ≤ 16777216) (hn : 1 ≤ n ∧ cap - used < n) (ha : H a = some (arenaO cap used peak mp)) :
    HCalls Tryz.prog 170 #[ptrV a, .int .i64 n] H (RetE (.tuple #[.pointer none, .int .i64 6]) H) := by
  apply W_arena_Arena_Take.ok
  unfold W_arena_Arena_Take
  refine BIf_dneg (by omega) ?_
  simp only [NN_some, Addr.add_lit', Nat.zero_add, Nat.add_zero]
  refine HCalls.use (free_ok H a mp cap used peak h1 ha) ?_
  try simp only [DI_int', DB_bool, DS_string, DP_pointer, DSl_slice, DM_map, DA_agg, DTup_tuple, DCons_cons, DNil_nil, NN_some, BIf_true, BIf_false, BIf_same, List.toList_toArray, Bool.not_true, Bool.not_false]
  exact BIf_dpos (by omega) (RetE.mk _ _)

end Go.Proofs.YtghajiefpmcpmaaGreatDoor.Are

end
section
/-! AreB -/
/- arena's law: awake, ArenaApart. -/
set_option maxRecDepth 100000
set_option linter.unusedSimpArgs false
set_option linter.unusedVariables false
set_option linter.unnecessarySimpa false
set_option linter.unusedSectionVars false

namespace Go.Proofs.YtghajiefpmcpmaaGreatDoor.Are
open Go Go.Hw Go.Proofs.YtghajiefpmcpmaaGreatDoor.W

def valF (i k : Nat) : Value := .int .u64 ((100 * i + k + 1 : Nat) : Int)
def vals (i n : Nat) : List Value := (List.range n).map (valF i)

theorem val_wrap {i k : Nat} (hi : i ≤ 100) (hk : k ≤ 100) : IntKind.u64.wrap (IntKind.i64.wrap (IntKind.i64.wrap (IntKind.i64.wrap (100 * (i : Int)) + (k : Int)) + 1)) = ((100 * i + k + 1 : Nat) : Int) := by
  rw [i64w (x := 100 * (i : Int)) (by omega) (by omega), i64w (x := 100 * (i : Int) + k) (by omega) (by omega), i64w (by omega) (by omega), u64w (by omega) (by omega)]
  omega

theorem zeros_filled (f : Nat → Value) (n : Nat) : zerosU64 n = (filled f (.int .u64 0) n 0).toList := by
  unfold zerosU64 filled
  rw [zeroRow_one]
  apply List.ext_getElem?
  intro j
  by_cases h : j < n <;> simp [h]

structure Inv (H0 H : Hp) (a mp cl : Nat) (tk : List (Nat × Int × Nat)) (used peak : Int) (bs : List (Nat × Nat × Nat)) (A : Option Addr) (n m : Nat) : Prop where
  le : H0.le H
  ne : a ≠ mp
  ha : H a = some (arenaO 1000 used peak mp)
  ha0 : H0 a = none
  hm : H mp = some (mapO tk cl)
  hm0 : H0 mp = none
  hl : ∀ x ∈ tk, PlainB H x.1
  hb : ∀ (j : Nat) (x : Nat × Nat × Nat), bs[j]? = some x → H x.1 = some (bufO a (some ⟨x.2.1, 0, none⟩) x.2.2 x.2.2) ∧ H x.2.1 = some (.row (vals j x.2.2) 60 x.2.2) ∧ x.2.2 ≤ 64
  hn : n = bs.length
  all : (A = none ∧ bs = [] ∧ m = 0) ∨ ∃ ab mm, A = some ⟨ab, 0, none⟩ ∧ H0 ab = none ∧ H ab = some (.row (bs.map fun x => ptrV x.1) 256 mm) ∧ m ≤ mm

theorem Inv.cells {H0 H : Hp} {a mp cl : Nat} {tk : List (Nat × Int × Nat)} {used peak : Int} {bs : List (Nat × Nat × Nat)} {A : Option Addr} {n m : Nat} (h : Inv H0 H a mp cl tk used peak bs A n m) : Cells H A (bs.map fun x => ptrV x.1) := by
  rcases h.all with ⟨rfl, rfl, _⟩ | ⟨ab, mm, rfl, _, hab, _⟩
  · exact Cells.nil _ _
  · have := Cells.row hab 0 bs.length
    rwa [List.drop_zero, List.take_of_length_le (by simp)] at this

end Go.Proofs.YtghajiefpmcpmaaGreatDoor.Are

end
section
/-! AreC -/
/- The law ArenaApart. -/
set_option maxRecDepth 100000
set_option linter.unusedSimpArgs false
set_option linter.unusedVariables false
set_option linter.unnecessarySimpa false
set_option linter.unusedSectionVars false
namespace Go.Proofs.YtghajiefpmcpmaaGreatDoor.Are
open Go Go.Hw Go.Proofs.YtghajiefpmcpmaaGreatDoor.W

theorem cell_ptr : cellInfo Tryz.prog 256 = some (1, 8, some #[.pointer none]) := by kernel_rfl

theorem Inv.next {H0 H H2 H4 : Hp} {a mp cl : Nat} {tk : List (Nat × Int × Nat)} {used peak : Int} {bs : List (Nat × Nat × Nat)} {A : Option Addr} {n m : Nat} (h : Inv H0 H a mp cl tk used peak bs A n m) {b rb w : Nat} (hw : 1 ≤ w ∧ w ≤ 64) {peak' : Int} (hrb : H rb = none) (hb : H b = none) (hbr : b ≠ rb)
    (h2 : H2 = ((((H.set rb (.row (zerosU64 w) 60 w)).set b (bufO a (some ⟨rb, 0, none⟩) w w)).set mp (mapO (tk ++ [(b, (w : Int), cl)]) (cl + 1))).set a (arenaO 1000 (used + w) peak' mp)).set rb (.row (vals bs.length w) 60 w))
    {b' c mm : Nat} (hb' : H0 b' = none) (h4 : H4 b' = some (.row ((bs ++ [(b, rb, w)]).map fun x => ptrV x.1) 256 mm)) (hc : c ≤ mm) (hk : ∀ q o, H2 q = some o → (∀ ab, A = some ⟨ab, 0, none⟩ → q ≠ ab) → H4 q = some o) :
    Inv H0 H4 a mp (cl + 1) (tk ++ [(b, (w : Int), cl)]) (used + w) peak' (bs ++ [(b, rb, w)]) (some ⟨b', 0, none⟩) (n + 1) c := by
  have har : a ≠ rb := fun e => by have := h.ha; rw [e, hrb] at this; cases this
  have hab : a ≠ b := fun e => by have := h.ha; rw [e, hb] at this; cases this
  have hmr : mp ≠ rb := fun e => by have := h.hm; rw [e, hrb] at this; cases this
  have hmb : mp ≠ b := fun e => by have := h.hm; rw [e, hb] at this; cases this
  have hne := h.ne
  have keep1 : ∀ q o, H q = some o → q ≠ a → q ≠ mp → H2 q = some o := fun q o hq h5 h6 => by
    have h7 : q ≠ rb := fun e => by rw [e, hrb] at hq; cases hq
    have h8 : q ≠ b := fun e => by rw [e, hb] at hq; cases hq
    rw [h2, Hp.set_other _ _ h7, Hp.set_other _ _ h5, Hp.set_other _ _ h6, Hp.set_other _ _ h8, Hp.set_other _ _ h7]
    exact hq
  have ga : H2 a = some (arenaO 1000 (used + w) peak' mp) := by rw [h2, Hp.set_other _ _ har]; exact Hp.set_same _ _ _
  have gm : H2 mp = some (mapO (tk ++ [(b, (w : Int), cl)]) (cl + 1)) := by rw [h2, Hp.set_other _ _ hmr, Hp.set_other _ _ (Ne.symm hne)]; exact Hp.set_same _ _ _
  have gb : H2 b = some (bufO a (some ⟨rb, 0, none⟩) w w) := by rw [h2, Hp.set_other _ _ hbr, Hp.set_other _ _ (Ne.symm hab), Hp.set_other _ _ (Ne.symm hmb)]; exact Hp.set_same _ _ _
  have gr : H2 rb = some (.row (vals bs.length w) 60 w) := by rw [h2]; exact Hp.set_same _ _ _
  have hA : ∀ ab, A = some ⟨ab, 0, none⟩ → H0 ab = none ∧ ∃ mm, H ab = some (.row (bs.map fun x => ptrV x.1) 256 mm) := fun ab e => by
    rcases h.all with ⟨h5, _⟩ | ⟨ab', mm', h5, h6, h7, _⟩
    · rw [h5] at e; cases e
    · rw [h5] at e; cases e; exact ⟨h6, mm', h7⟩
  have isRow : ∀ q o, H q = some o → (∀ xs mm, o ≠ .row xs 256 mm) → ∀ ab, A = some ⟨ab, 0, none⟩ → q ≠ ab := fun q o hq hno ab e e2 => by
    obtain ⟨_, mm, h7⟩ := hA ab e
    rw [e2, h7] at hq; cases hq
    exact hno _ _ rfl
  have fresh : ∀ q, H q = none → ∀ ab, A = some ⟨ab, 0, none⟩ → q ≠ ab := fun q hq ab e e2 => by
    obtain ⟨_, mm, h7⟩ := hA ab e
    rw [e2, h7] at hq; cases hq
  refine ⟨fun q o hq => ?_, hne, hk _ _ ga (isRow a _ h.ha (fun _ _ => by unfold arenaO; intro e; cases e)), h.ha0, hk _ _ gm (isRow mp _ h.hm (fun _ _ => by unfold mapO; intro e; cases e)), h.hm0, fun x hx => ?_, fun j x hj => ?_, ?_, .inr ⟨b', mm, rfl, hb', h4, hc⟩⟩
  · have h5 : q ≠ a := fun e => by rw [e, h.ha0] at hq; cases hq
    have h6 : q ≠ mp := fun e => by rw [e, h.hm0] at hq; cases hq
    exact hk _ _ (keep1 q o (h.le _ _ hq) h5 h6) (fun ab e e2 => by rw [e2, (hA ab e).1] at hq; cases hq)
  · rcases List.mem_append.1 hx with hx | hx
    · obtain ⟨c', e', h9⟩ := h.hl x hx
      by_cases e1 : x.1 = a
      · exact ⟨_, _, by rw [e1]; exact hk _ _ ga (isRow a _ h.ha (fun _ _ => by unfold arenaO; intro e; cases e))⟩
      · have e3 : x.1 ≠ mp := fun e => by have := h.hm; rw [← e, h9] at this; unfold mapO at this; cases this
        exact ⟨_, _, hk _ _ (keep1 _ _ h9 e1 e3) (isRow _ _ h9 (fun _ _ => by intro e; cases e))⟩
    · simp at hx; subst hx
      exact ⟨_, _, hk _ _ gb (fresh b hb)⟩
  · rw [List.getElem?_append] at hj
    split at hj
    · obtain ⟨g1, g2, g3⟩ := h.hb j x hj
      have e1 : x.1 ≠ a := fun e => by rw [e, h.ha] at g1; unfold arenaO bufO at g1; cases g1
      have e2 : x.1 ≠ mp := fun e => by rw [e, h.hm] at g1; unfold mapO bufO at g1; cases g1
      have e3 : x.2.1 ≠ a := fun e => by rw [e, h.ha] at g2; unfold arenaO at g2; cases g2
      have e4 : x.2.1 ≠ mp := fun e => by rw [e, h.hm] at g2; unfold mapO at g2; cases g2
      exact ⟨hk _ _ (keep1 _ _ g1 e1 e2) (isRow _ _ g1 (fun _ _ => by unfold bufO; intro e; cases e)), hk _ _ (keep1 _ _ g2 e3 e4) (isRow _ _ g2 (fun _ _ => by intro e; cases e)), g3⟩
    · rename_i hlt
      have hj0 : j = bs.length := by
        have := (List.getElem?_eq_some_iff.1 hj).1
        simp at this; omega
      subst hj0
      simp at hj; subst hj
      exact ⟨hk _ _ gb (fresh b hb), hk _ _ gr (fresh rb hrb), hw.2⟩
  · rw [List.length_append, h.hn]; rfl

end Go.Proofs.YtghajiefpmcpmaaGreatDoor.Are

end
section
/-! AreG -/
/- arena.Give. -/
set_option maxRecDepth 100000
set_option linter.unusedSimpArgs false
set_option linter.unusedVariables false
set_option linter.unnecessarySimpa false
set_option linter.unusedSectionVars false
namespace Go.Proofs.YtghajiefpmcpmaaGreatDoor.Are
open Go Go.Hw Go.Proofs.YtghajiefpmcpmaaGreatDoor.W

def optP (p : Option Nat) : Value := match p with | some b => ptrV b | none => .pointer none

def sumTk (tk : List (Nat × Int × Nat)) : Int := (tk.map fun x => x.2.1).sum

/-- An arena in memory. -/
structure AI (H : Hp) (a mp cl : Nat) (tk : List (Nat × Int × Nat)) (cap used peak : Int) : Prop where
  ne : a ≠ mp
  ha : H a = some (arenaO cap used peak mp)
  hm : H mp = some (mapO tk cl)
  nd : (tk.map (·.1)).Nodup
  hb : ∀ x ∈ tk, 1 ≤ x.2.1 ∧ ∃ A n m, H x.1 = some (bufO a A n m)
  hu : used = sumTk tk ∧ used ≤ cap ∧ cap ≤ 16777216
  bn : (tk.map (·.2.2)).Nodup ∧ ∀ x ∈ tk, x.2.2 < cl

theorem sum_nonneg : ∀ (tk : List (Nat × Int × Nat)), (∀ x ∈ tk, 1 ≤ x.2.1) → 0 ≤ sumTk tk
  | [], _ => by simp [sumTk]
  | x :: l, h => by
    have h1 := h x (by simp)
    have h2 := sum_nonneg l (fun y hy => h y (by simp [hy]))
    unfold sumTk at h2 ⊢
    simp only [List.map_cons, List.sum_cons]; omega

theorem sum_filter : ∀ (tk : List (Nat × Int × Nat)) (x : Nat × Int × Nat), (tk.map (·.1)).Nodup → x ∈ tk → sumTk (tk.filter fun y => y.1 ≠ x.1) = sumTk tk - x.2.1
  | [], x, _, h => by simp at h
  | y :: l, x, hn, h => by
    simp only [List.map_cons, List.nodup_cons] at hn
    rcases List.mem_cons.1 h with rfl | h
    · rw [List.filter_cons_of_neg (by simp)]
      have : l.filter (fun y => decide (y.1 ≠ x.1)) = l := by
        rw [List.filter_eq_self]
        intro z hz
        have : z.1 ≠ x.1 := fun e => hn.1 (by rw [← e]; exact List.mem_map_of_mem hz)
        simpa using this
      rw [this]
      unfold sumTk
      simp only [List.map_cons, List.sum_cons]; omega
    · have hne : y.1 ≠ x.1 := fun e => hn.1 (by rw [e]; exact List.mem_map_of_mem h)
      rw [List.filter_cons_of_pos (by simpa using hne)]
      have := sum_filter l x hn.2 h
      unfold sumTk at this ⊢
      simp only [List.map_cons, List.sum_cons, this]; omega

theorem findR_some (a : Nat) : ∀ (l : List (Nat × Int × Nat)) (i k : Nat) (v : Value), findR a l i = some (k, v) → ∃ x ∈ l, x.1 = a ∧ v = .int .i64 x.2.1
  | [], i, k, v, h => by cases h
  | x :: l, i, k, v, h => by
    unfold findR at h
    split at h
    · rename_i e; cases h; exact ⟨x, by simp, e.symm, rfl⟩
    · obtain ⟨y, hy, h2⟩ := findR_some a l (i + 1) k v h
      exact ⟨y, by simp [hy], h2⟩
theorem findR_nil (a : Nat) : ∀ (l : List (Nat × Int × Nat)) (i : Nat), findR a l i = none → ∀ x ∈ l, x.1 ≠ a
  | [], i, _ => by simp
  | x :: l, i, h => by
    unfold findR at h
    split at h
    · cases h
    · rename_i e
      intro y hy
      rcases List.mem_cons.1 hy with rfl | hy
      · exact fun e2 => e e2.symm
      · exact findR_nil a l (i + 1) h y hy

theorem AI.plain {H : Hp} {a mp cl : Nat} {tk : List (Nat × Int × Nat)} {cap used peak : Int} (h : AI H a mp cl tk cap used peak) : ∀ x ∈ tk, PlainB H x.1 := fun x hx => by
  obtain ⟨_, A, n, m, g⟩ := h.hb x hx
  exact ⟨_, _, g⟩

/-- What Give leaves: the arena without the buffers; these have no words; all else stands. -/
structure Gave (H H' : Hp) (a mp cl : Nat) (tk tk' : List (Nat × Int × Nat)) (cap peak : Int) (gone : Nat → Prop) : Prop where
  ai : AI H' a mp cl tk' cap (sumTk tk') peak
  mem : ∀ x, x ∈ tk' ↔ x ∈ tk ∧ ¬ gone x.1
  keep : ∀ q o, H q = some o → q ≠ a → q ≠ mp → (gone q → ∀ x ∈ tk, x.1 ≠ q) → H' q = some o
  nil : ∀ x ∈ tk, gone x.1 → H' x.1 = some (bufO a none 0 0)
  sle : sumTk tk' ≤ sumTk tk

theorem Gave.same {H H' : Hp} {a mp cl : Nat} {tk tk' : List (Nat × Int × Nat)} {cap peak : Int} {g g' : Nat → Prop} (h : Gave H H' a mp cl tk tk' cap peak g) (h1 : ∀ q, g q → g' q) (h2 : ∀ q, g' q → g q ∨ ∀ x ∈ tk', x.1 ≠ q) : Gave H H' a mp cl tk tk' cap peak g' where
  ai := h.ai
  mem := fun x => by
    rw [h.mem]
    constructor
    · intro ⟨h3, h4⟩
      refine ⟨h3, fun h5 => ?_⟩
      rcases h2 _ h5 with h6 | h6
      · exact h4 h6
      · exact h6 x ((h.mem x).2 ⟨h3, h4⟩) rfl
    · intro ⟨h3, h4⟩
      exact ⟨h3, fun h5 => h4 (h1 _ h5)⟩
  keep := fun q o hq h3 h4 h5 => h.keep q o hq h3 h4 (fun h6 => h5 (h1 _ h6))
  nil := fun x hx h3 => by
    by_cases h4 : g x.1
    · exact h.nil x hx h4
    · rcases h2 _ h3 with h6 | h6
      · exact absurd h6 h4
      · exact absurd rfl (h6 x ((h.mem x).2 ⟨hx, h4⟩))
  sle := h.sle

theorem Gave.one {H H' : Hp} {a mp cl : Nat} {tk tk' : List (Nat × Int × Nat)} {cap used peak : Int} {g g' : Nat → Prop} (h0 : AI H a mp cl tk cap used peak) (h : Gave H H' a mp cl tk tk' cap peak g) {x : Nat × Int × Nat} (hx : x ∈ tk') (hg : ∀ q, g' q ↔ g q ∨ q = x.1) :
    Gave H (((H'.set mp (mapO (tk'.filter fun y => y.1 ≠ x.1) cl)).set a (arenaO cap (sumTk tk' - x.2.1) peak mp)).set x.1 (bufO a none 0 0)) a mp cl tk (tk'.filter fun y => y.1 ≠ x.1) cap peak g' := by
  obtain ⟨g1, A, n, m, g2⟩ := h.ai.hb x hx
  have hxa : x.1 ≠ a := fun e => by rw [e, h.ai.ha] at g2; unfold arenaO bufO at g2; cases g2
  have hxm : x.1 ≠ mp := fun e => by rw [e, h.ai.hm] at g2; unfold mapO bufO at g2; cases g2
  have hne := h.ai.ne
  have hsum := sum_filter tk' x h.ai.nd hx
  have hsub : ∀ y, y ∈ (tk'.filter fun y => decide (y.1 ≠ x.1)) ↔ y ∈ tk' ∧ y.1 ≠ x.1 := fun y => by rw [List.mem_filter]; simp
  have hkeep : ∀ q o, H' q = some o → q ≠ a → q ≠ mp → q ≠ x.1 → (((H'.set mp (mapO (tk'.filter fun y => y.1 ≠ x.1) cl)).set a (arenaO cap (sumTk tk' - x.2.1) peak mp)).set x.1 (bufO a none 0 0)) q = some o := fun q o hq h1 h2 h3 => by
    rw [Hp.set_other _ _ h3, Hp.set_other _ _ h1, Hp.set_other _ _ h2]; exact hq
  refine ⟨⟨hne, ?_, ?_, ?_, ?_, ?_, List.Nodup.sublist (List.Sublist.map _ (List.filter_sublist)) h.ai.bn.1, fun y hy => h.ai.bn.2 y (List.mem_filter.1 hy).1⟩, fun y => ?_, fun q o hq h1 h2 h3 => ?_, fun y hy h1 => ?_, by rw [hsum]; have := h.sle; omega⟩
  · rw [Hp.set_other _ _ (Ne.symm hxa), hsum]; exact Hp.set_same _ _ _
  · rw [Hp.set_other _ _ (Ne.symm hxm), Hp.set_other _ _ (Ne.symm hne)]; exact Hp.set_same _ _ _
  · exact List.Nodup.sublist (List.Sublist.map _ (List.filter_sublist)) h.ai.nd
  · intro y hy
    obtain ⟨h1, h2⟩ := (hsub y).1 hy
    obtain ⟨h3, A', n', m', h4⟩ := h.ai.hb y h1
    refine ⟨h3, A', n', m', hkeep _ _ h4 (fun e => ?_) (fun e => ?_) h2⟩
    · rw [e, h.ai.ha] at h4; unfold arenaO bufO at h4; cases h4
    · rw [e, h.ai.hm] at h4; unfold mapO bufO at h4; cases h4
  · have := h.ai.hu
    exact ⟨rfl, by rw [hsum]; omega, this.2.2⟩
  · rw [hsub, h.mem, hg]
    constructor
    · rintro ⟨⟨h1, h2⟩, h3⟩; exact ⟨h1, fun h4 => h4.elim h2 h3⟩
    · rintro ⟨h1, h2⟩; exact ⟨⟨h1, fun h3 => h2 (.inl h3)⟩, fun h3 => h2 (.inr h3)⟩
  · have h4 := h.keep q o hq h1 h2 (fun h5 => h3 ((hg q).2 (.inl h5)))
    refine hkeep q o h4 h1 h2 (fun e => ?_)
    exact h3 ((hg q).2 (.inr e)) x ((h.mem x).1 hx).1 e.symm
  · by_cases e : y.1 = x.1
    · rw [e]; exact Hp.set_same _ _ _
    · have h2 : g y.1 := ((hg _).1 h1).resolve_right e
      have h3 := h.nil y hy h2
      refine hkeep _ _ h3 (fun e2 => ?_) (fun e2 => ?_) e
      · rw [e2, h.ai.ha] at h3; unfold arenaO bufO at h3; cases h3
      · rw [e2, h.ai.hm] at h3; unfold mapO bufO at h3; cases h3

theorem give_loop (K : Value → Hp → Prop) (a mp cl : Nat) (cap used peak : Int) (hpk : used ≤ peak) (tk : List (Nat × Int × Nat)) (H : Hp) (h0 : AI H a mp cl tk cap used peak) (A : Option Addr) (n m : Nat) (ps : List (Option Nat)) (hn : n = ps.length) (hn2 : n ≤ 9000000000000000000)
    (hcells : ∀ H', (∀ q xs e m, H q = some (.row xs e m) → H' q = some (.row xs e m)) → Cells H' A (ps.map optP)) (hps : ∀ b, some b ∈ ps → ∃ A n m, H b = some (bufO a A n m))
    (k : ∀ H' tk', Gave H H' a mp cl tk tk' cap peak (fun q => some q ∈ ps) → K (.tuple #[]) H') :
    ∀ (d j : Nat) (H' : Hp) (tk' : List (Nat × Int × Nat)), j + d = n → Gave H H' a mp cl tk tk' cap peak (fun q => some q ∈ ps.take j) → W_arena_Arena_Give.l1 K (d + 1) (some ⟨a, 0, none⟩) A n m (n : Int) (j : Int) H'
  | 0, j, H', tk', hj, hg => by
    unfold W_arena_Arena_Give.l1
    refine BIf_dneg (by omega) (k H' tk' ?_)
    rw [List.take_of_length_le (by omega)] at hg
    exact hg
  | d + 1, j, H', tk', hj, hg => by
    obtain ⟨jb, hjb, hsb⟩ := t_buf
    obtain ⟨ji, hji, hzi⟩ := t_int
    unfold W_arena_Arena_Give.l1
    refine BIf_dpos (by omega) ?_
    have hlt : j < ps.length := by omega
    have hrows : ∀ q xs e m, H q = some (.row xs e m) → H' q = some (.row xs e m) := fun q xs e m hq =>
      hg.keep q _ hq (fun e2 => by rw [e2, h0.ha] at hq; unfold arenaO at hq; cases hq) (fun e2 => by rw [e2, h0.hm] at hq; unfold mapO at hq; cases hq) (fun _ x hx e2 => by
        obtain ⟨_, A, n, m, g⟩ := h0.hb x hx
        rw [e2, hq] at g; unfold bufO at g; cases g)
    refine (hcells H' hrows).read (i := j) (v := optP ps[j]) (by rw [List.getElem?_map, List.getElem?_eq_getElem hlt]; rfl) rfl (by rw [List.length_map]; omega) ?_
    have htk : ps.take (j + 1) = ps.take j ++ [ps[j]] := List.take_succ_eq_append_getElem hlt
    have next := fun H'' tk'' hg' => give_loop K a mp cl cap used peak hpk tk H h0 A n m ps hn hn2 hcells hps k d (j + 1) H'' tk'' (by omega) hg'
    cases hp : ps[j] with
    | none =>
      unfold optP
      simp only [DI_int', DB_bool, DS_string, DP_pointer, DSl_slice, DM_map, DA_agg, DTup_tuple, DCons_cons, DNil_nil, NN_some, BIf_true, BIf_false, BIf_same, List.toList_toArray, Bool.not_true, Bool.not_false]
      simp only [Addr.add_lit', Nat.zero_add]
      refine Ld_obj hg.ai.ha (v := .map (some mp)) rfl ?_
      simp only [DI_int', DB_bool, DS_string, DP_pointer, DSl_slice, DM_map, DA_agg, DTup_tuple, DCons_cons, DNil_nil, NN_some, BIf_true, BIf_false, BIf_same, List.toList_toArray, Bool.not_true, Bool.not_false]
      refine lookup_nilptr t_ptr hjb hsb t_map hji hzi hg.ai.hm ?_
      simp only [DI_int', DB_bool, DS_string, DP_pointer, DSl_slice, DM_map, DA_agg, DTup_tuple, DCons_cons, DNil_nil, NN_some, BIf_true, BIf_false, BIf_same, List.toList_toArray, Bool.not_true, Bool.not_false]
      rw [i64w (x := (j : Int) + 1) (by omega) (by omega)]
      refine next H' tk' (hg.same (fun q hq => by show some q ∈ ps.take (j + 1); rw [htk]; exact List.mem_append_left _ hq) (fun q hq => ?_))
      rw [htk, hp] at hq
      simp at hq
      exact .inl hq
    | some b =>
      unfold optP ptrV
      simp only [DI_int', DB_bool, DS_string, DP_pointer, DSl_slice, DM_map, DA_agg, DTup_tuple, DCons_cons, DNil_nil, NN_some, BIf_true, BIf_false, BIf_same, List.toList_toArray, Bool.not_true, Bool.not_false]
      simp only [Addr.add_lit', Nat.zero_add, Nat.add_zero]
      refine Ld_obj hg.ai.ha (v := .map (some mp)) rfl ?_
      simp only [DI_int', DB_bool, DS_string, DP_pointer, DSl_slice, DM_map, DA_agg, DTup_tuple, DCons_cons, DNil_nil, NN_some, BIf_true, BIf_false, BIf_same, List.toList_toArray, Bool.not_true, Bool.not_false]
      have hpb : some b ∈ ps := by rw [← hp]; exact List.getElem_mem hlt
      obtain ⟨Ab, nb, mb, hb⟩ := hps b hpb
      have hba : b ≠ a := fun e => by rw [e, h0.ha] at hb; unfold arenaO bufO at hb; cases hb
      have hbm : b ≠ mp := fun e => by rw [e, h0.hm] at hb; unfold mapO bufO at hb; cases hb
      have hpl : PlainB H' b := by
        by_cases h1 : (some b ∈ ps.take j) ∧ ∃ x ∈ tk, x.1 = b
        · obtain ⟨h1, x, hx, rfl⟩ := h1
          exact ⟨_, _, hg.nil x hx h1⟩
        · exact ⟨_, _, hg.keep b _ hb hba hbm (fun h2 x hx e => h1 ⟨h2, x, hx, e⟩)⟩
      rw [show (Value.pointer (some ⟨b, 0, none⟩)) = ptrV b from rfl]
      refine lookup_ptr t_ptr hjb hsb t_map hji hzi hg.ai.hm hpl hg.ai.plain (fun k' v hf => ?_) (fun hf => ?_)
      · obtain ⟨x, hx, rfl, rfl⟩ := findR_some b tk' 0 k' v hf
        simp only [DI_int', DB_bool, DS_string, DP_pointer, DSl_slice, DM_map, DA_agg, DTup_tuple, DCons_cons, DNil_nil, NN_some, BIf_true, BIf_false, BIf_same, List.toList_toArray, Bool.not_true, Bool.not_false]
        refine Ld_obj hg.ai.ha (v := .map (some mp)) rfl ?_
        simp only [DI_int', DB_bool, DS_string, DP_pointer, DSl_slice, DM_map, DA_agg, DTup_tuple, DCons_cons, DNil_nil, NN_some, BIf_true, BIf_false, BIf_same, List.toList_toArray, Bool.not_true, Bool.not_false]
        refine delete_ptr t_ptr hjb hsb t_map hg.ai.hm hpl hg.ai.plain hg.ai.nd hf ?_
        have hx1 := (hg.ai.hb x hx).1
        have hs0 := sum_nonneg tk' (fun y hy => (hg.ai.hb y hy).1)
        have hsf := sum_filter tk' x hg.ai.nd hx
        have hs1 := sum_nonneg (tk'.filter fun y => y.1 ≠ x.1) (fun y hy => (hg.ai.hb y (List.mem_filter.1 hy).1).1)
        have hu := hg.ai.hu
        have hle := hg.sle
        have hu0 := h0.hu
        rw [i64w (x := 0 - x.2.1) (by omega) (by omega)]
        refine HCalls.use (add_ok _ a mp cap (sumTk tk') peak (0 - x.2.1) (by omega) (by omega) (by rw [Hp.set_other _ _ hg.ai.ne]; exact hg.ai.ha)) ?_
        rw [if_neg (by omega), show sumTk tk' + (0 - x.2.1) = sumTk tk' - x.2.1 by omega]
        obtain ⟨_, Ac, nc, mc, hbx⟩ := hg.ai.hb x hx
        refine St_obj (c := #[ptrV a, .slice Ac nc mc]) (e := 316) (by rw [Hp.set_other _ _ hba, Hp.set_other _ _ hbm]; exact hbx) (by simp) rfl ?_
        rw [i64w (x := (j : Int) + 1) (by omega) (by omega)]
        refine next _ _ (Gave.one h0 hg hx (fun q => ?_))
        show some q ∈ ps.take (j + 1) ↔ _
        rw [htk, hp, List.mem_append]
        simp
      · simp only [DI_int', DB_bool, DS_string, DP_pointer, DSl_slice, DM_map, DA_agg, DTup_tuple, DCons_cons, DNil_nil, NN_some, BIf_true, BIf_false, BIf_same, List.toList_toArray, Bool.not_true, Bool.not_false]
        rw [i64w (x := (j : Int) + 1) (by omega) (by omega)]
        refine next H' tk' (hg.same (fun q hq => by show some q ∈ ps.take (j + 1); rw [htk]; exact List.mem_append_left _ hq) (fun q hq => ?_))
        rw [htk, hp] at hq
        simp at hq
        rcases hq with hq | rfl
        · exact .inl hq
        · exact .inr (findR_nil q tk' 0 hf)

theorem Give_W (a mp cl : Nat) (cap used peak : Int) (hpk : used ≤ peak) (tk : List (Nat × Int × Nat)) (H : Hp) (h0 : AI H a mp cl tk cap used peak) (A : Option Addr) (n m : Nat) (ps : List (Option Nat)) (hn : n = ps.length) (hn2 : n ≤ 9000000000000000000)
    (hcells : ∀ H', (∀ q xs e m, H q = some (.row xs e m) → H' q = some (.row xs e m)) → Cells H' A (ps.map optP)) (hps : ∀ b, some b ∈ ps → ∃ A n m, H b = some (bufO a A n m)) :
    W_arena_Arena_Give (some ⟨a, 0, none⟩) A n m H (fun v H' => v = .tuple #[] ∧ ∃ tk', Gave H H' a mp cl tk tk' cap peak (fun q => some q ∈ ps)) := by
  refine ⟨n + 1, give_loop _ a mp cl cap used peak hpk tk H h0 A n m ps hn hn2 hcells hps (fun H' tk' hg => ⟨rfl, tk', hg⟩) n 0 H tk (by omega) ?_⟩
  refine ⟨by rw [← h0.hu.1]; exact h0, fun x => by simp, fun q o hq _ _ _ => hq, fun x _ h => by simp at h, Int.le_refl _⟩
theorem Give_ok (a mp cl : Nat) (cap used peak : Int) (hpk : used ≤ peak) (tk : List (Nat × Int × Nat)) (H : Hp) (h0 : AI H a mp cl tk cap used peak) (A : Option Addr) (n m : Nat) (ps : List (Option Nat)) (hn : n = ps.length) (hn2 : n ≤ 9000000000000000000)
    (hcells : ∀ H', (∀ q xs e m, H q = some (.row xs e m) → H' q = some (.row xs e m)) → Cells H' A (ps.map optP)) (hps : ∀ b, some b ∈ ps → ∃ A n m, H b = some (bufO a A n m)) :
    HCalls Tryz.prog 172 #[ptrV a, .slice A n m] H (fun v H' => v = .tuple #[] ∧ ∃ tk', Gave H H' a mp cl tk tk' cap peak (fun q => some q ∈ ps)) :=
  W_arena_Arena_Give.ok _ _ _ _ _ _ (Give_W a mp cl cap used peak hpk tk H h0 A n m ps hn hn2 hcells hps)

end Go.Proofs.YtghajiefpmcpmaaGreatDoor.Are

end
section
/-! HwI -/
/- The frame of the proofs: a map's entries, one after the other. -/
set_option maxRecDepth 100000
set_option linter.unusedSimpArgs false
set_option linter.unusedVariables false
set_option linter.unnecessarySimpa false
set_option linter.unusedSectionVars false
namespace Go.Hw
open Go

def iterO (mp since : Nat) (seen : Array Nat) (last : Nat) : AO := .obj (.mapIter (some mp) since seen last)

theorem iterO.heap {H : Hp} {w : World} {it mp since last : Nat} {seen : Array Nat} (h : H it = some (iterO mp since seen last)) (hw : Fits H w) : w.heap[it]? = some (.mapIter (some mp) since seen last) := by
  obtain ⟨o, ho, hh⟩ := hw _ _ h
  cases hh
  exact ho

theorem range_map {P : Program} {t k e : TypeId} (ht : P.underlying t = some (.map k e)) {H : Hp} {mp cl : Nat} {tk : List (Nat × Int × Nat)} (hm : H mp = some (mapO tk cl)) {K : Value → Hp → Prop}
    (kk : ∀ it, H it = none → K (.pointer (some ⟨it, 0, none⟩)) (H.set it (iterO mp cl #[] cl))) : SemK P (Instr.range t (.map (some mp))) H K := fun H0 w0 w hA => by
  have hh := mapO.heap hm hA.fits
  obtain ⟨hn, hA'⟩ := hA.new (o := iterO mp cl #[] cl) (x := .mapIter (some mp) cl #[] cl) rfl
  refine ⟨_, _, _, ?_, kk _ hn, hA'⟩
  simp only [Instr.range, Sem.run_bind, underlying_run ht, Result.andThen_ok, MapKept.run_getObj_map hh, Sem.run_pure]
  simp

theorem At.setIter {H0 H : Hp} {w0 w : World} {it mp since last : Nat} {seen : Array Nat} (hA : At H0 w0 H w) (hr : H it = some (iterO mp since seen last)) (o : Obj) : At H0 w0 (H.set it (.obj o)) { w with heap := w.heap.setIfInBounds it o } := by
  have hh := iterO.heap hr hA.fits
  have hlt : it < w.heap.size := (Array.getElem?_eq_some_iff.1 hh).1
  refine hA.turn hr (x' := o) ?_ rfl ?_ rfl rfl rfl (fun c hc => ?_)
  · show (w.heap.setIfInBounds it o)[it]? = some o
    simp [hlt]
  · show (w.heap.setIfInBounds it o).size = w.heap.size
    simp
  · show (w.heap.setIfInBounds it o)[c]? = w.heap[c]?
    rw [Array.getElem?_setIfInBounds_ne (Ne.symm hc)]

theorem choose_next {P : Program} {H0 H : Hp} {w0 w : World} (hA : At H0 w0 H w) (n : Nat) (hn : 0 < n) : ∃ i w', i < n ∧ (choose (.mapNext n)).run P w = .ok i w' ∧ At H0 w0 H w' := by
  by_cases h : n ≤ 1
  · exact ⟨0, w, hn, by simp [Question.forced, h], hA⟩
  · exact ⟨_, _, Nat.mod_lt _ hn, by simp [Question.forced, h, Question.cut]; rfl, hA.drew⟩

def unseen (tk : List (Nat × Int × Nat)) (seen : Array Nat) : List (Nat × Int × Nat) := tk.filter fun x => !seen.contains x.2.2

theorem next_map {P : Program} {ty : TypeId} {H : Hp} {it mp since last cl : Nat} {seen : Array Nat} {tk : List (Nat × Int × Nat)} (hi : H it = some (iterO mp since seen last)) (hm : H mp = some (mapO tk cl)) (hold : ∀ x ∈ tk, x.2.2 < since) (hlast : ∀ x ∈ tk, x.2.2 < last) {K : Value → Hp → Prop}
    (k1 : ∀ x ∈ unseen tk seen, K (.tuple #[.bool true, ptrV x.1, .int .i64 x.2.1]) (H.set it (iterO mp since (seen.push x.2.2) cl))) (k0 : unseen tk seen = [] → K (.tuple #[.bool false]) H) :
    SemK P (Instr.next (.pointer (some ⟨it, 0, none⟩)) false ty) H K := fun H0 w0 w hA => by
  have hh := iterO.heap hi hA.fits
  have hg := mapO.heap hm hA.fits
  have hgi : (getObj it).run P w = .ok (.mapIter (some mp) since seen last) w := by simp [getObj, Sem.run, hh]
  have hleft : ((tk.map ent).toArray.filter fun e => !seen.contains e.born) = ((unseen tk seen).map ent).toArray := by
    unfold unseen
    rw [List.filter_toArray, List.filter_map]
    rfl
  have hcond : (!seen.isEmpty && !(tk.map ent).toArray.isEmpty && (tk.map ent).toArray.all (fun e => decide (e.born ≥ last))) = false := by
    cases tk with
    | nil => simp
    | cons x l =>
      have := hlast x (by simp)
      have h2 : ¬ last ≤ x.2.2 := by omega
      simp [ent, h2]
  have hold' : (((unseen tk seen).map ent).toArray.filter fun e => decide (e.born < since)) = ((unseen tk seen).map ent).toArray := by
    rw [List.filter_toArray]
    congr 1
    rw [List.filter_eq_self]
    intro e he
    obtain ⟨x, hx, rfl⟩ := List.mem_map.1 he
    have := hold x (List.mem_filter.1 hx).1
    exact decide_eq_true this
  have hnew : (((unseen tk seen).map ent).toArray.filter fun e => decide (e.born ≥ since)) = #[] := by
    rw [List.filter_toArray]
    congr 1
    rw [List.filter_eq_nil_iff]
    intro e he
    obtain ⟨x, hx, rfl⟩ := List.mem_map.1 he
    have := hold x (List.mem_filter.1 hx).1
    simp [ent]; omega
  simp only [Instr.next, Sem.run_bind, hgi, Result.andThen_ok, MapKept.run_getObj_map hg, hcond, Bool.false_eq_true, if_false, hleft, hold', hnew, Sem.run_pure]
  cases hU : unseen tk seen with
  | nil =>
    obtain ⟨i, w', hi', hr, hA'⟩ := choose_next (P := P) hA 1 (by omega)
    obtain rfl : i = 0 := by omega
    refine ⟨_, H, w', ?_, k0 hU, hA'⟩
    rw [show ((if (List.map ent ([] : List (Nat × Int × Nat))).toArray.isEmpty = true then #[none] else #[]) ++ Array.map some ((List.map ent ([] : List (Nat × Int × Nat))).toArray ++ #[])) = (#[none] : Array (Option MapEntry)) by simp, show (#[none] : Array (Option MapEntry)).size = 1 from rfl, hr]
    rfl
  | cons x l =>
    obtain ⟨i, w', hi', hr, hA'⟩ := choose_next (P := P) hA (x :: l).length (by simp)
    have e : ((if (List.map ent (x :: l)).toArray.isEmpty = true then #[none] else #[]) ++ Array.map some ((List.map ent (x :: l)).toArray ++ #[])) = ((x :: l).map fun y => some (ent y)).toArray := by simp
    rw [e, show ((x :: l).map fun y => some (ent y)).toArray.size = (x :: l).length by simp, hr]
    have hy : (x :: l)[i] ∈ unseen tk seen := by rw [hU]; exact List.getElem_mem hi'
    refine ⟨_, _, _, ?_, k1 _ hy, hA'.setIter hi _⟩
    simp only [Result.andThen_ok, List.getElem?_toArray, List.getElem?_map, List.getElem?_eq_getElem hi', Option.map_some, Sem.run_bind]
    have hh' := iterO.heap hi hA'.fits
    rw [show (setObj it (Obj.mapIter (some mp) since (seen.push (ent (x :: l)[i]).born) cl)).run P w' = .ok () { w' with heap := w'.heap.setIfInBounds it (Obj.mapIter (some mp) since (seen.push (ent (x :: l)[i]).born) cl) } by simp [setObj, Sem.run, hh']]
    rfl

theorem find_born : ∀ (tk : List (Nat × Int × Nat)) (x : Nat × Int × Nat), x ∈ tk → (tk.map (·.2.2)).Nodup → (tk.map ent).find? (fun e => e.born == x.2.2) = some (ent x)
  | [], x, h, _ => by simp at h
  | y :: l, x, h, hn => by
    simp only [List.map_cons, List.nodup_cons] at hn
    simp only [List.map_cons, List.find?_cons]
    rcases List.mem_cons.1 h with rfl | h
    · simp [ent]
    · have : ¬ (y.2.2 = x.2.2) := fun e => hn.1 (by rw [e]; exact List.mem_map_of_mem h)
      rw [show ((ent y).born == x.2.2) = false by simpa [ent] using this]
      exact find_born l x h hn.2

theorem entry_map {P : Program} {H : Hp} {it mp since cl : Nat} {seen : Array Nat} {tk : List (Nat × Int × Nat)} (hi : H it = some (iterO mp since seen cl)) (hm : H mp = some (mapO tk cl)) {x : Nat × Int × Nat} (hx : x ∈ tk) (hb : seen.back? = some x.2.2) (hn : (tk.map (·.2.2)).Nodup) {K : Value → Hp → Prop}
    (k : K (.tuple #[ptrV x.1, .int .i64 x.2.1]) H) : SemK P (Instr.entry (.pointer (some ⟨it, 0, none⟩))) H K := fun H0 w0 w hA => by
  have hh := iterO.heap hi hA.fits
  have hg := mapO.heap hm hA.fits
  have hgi : (getObj it).run P w = .ok (.mapIter (some mp) since seen cl) w := by simp [getObj, Sem.run, hh]
  refine ⟨_, H, w, ?_, k, hA⟩
  simp only [Instr.entry, Sem.run_bind, hgi, Result.andThen_ok, hb, MapKept.run_getObj_map hg, bne_self_eq_false, Bool.false_eq_true, if_false, List.find?_toArray, find_born tk x hx hn]
  rfl

end Go.Hw

end
section
/-! AreS -/
/- An arena as a part of memory: contracts of its functions. -/
set_option maxRecDepth 100000
set_option linter.unusedSimpArgs false
set_option linter.unusedVariables false
set_option linter.unnecessarySimpa false
set_option linter.unusedSectionVars false
namespace Go.Proofs.YtghajiefpmcpmaaGreatDoor.Are
open Go Go.Hw Go.Proofs.YtghajiefpmcpmaaGreatDoor.W

theorem sum_nil (tk : List (Nat × Int × Nat)) (h : ∀ x ∈ tk, False) : sumTk tk = 0 := by
  cases tk with
  | nil => rfl
  | cons x l => exact (h x (by simp)).elim

/-- How many words are taken. -/
def sumB (l : List (Nat × Nat × Option Addr)) : Int := (l.map fun y => (y.2.1 : Int)).sum

/-- What is given back has no words. -/
def gaveB (g : Nat → Bool) (l : List (Nat × Nat × Option Addr)) : List (Nat × Nat × Option Addr) := l.map fun y => if g y.1 then (y.1, 0, none) else y

theorem gaveB_fst (g : Nat → Bool) (l : List (Nat × Nat × Option Addr)) : (gaveB g l).map (·.1) = l.map (·.1) := by
  unfold gaveB
  rw [List.map_map]
  apply List.map_congr_left
  intro y _
  simp only [Function.comp]
  split <;> rfl

theorem sumB_append (l l' : List (Nat × Nat × Option Addr)) : sumB (l ++ l') = sumB l + sumB l' := by simp [sumB]
theorem sumB_cons (y : Nat × Nat × Option Addr) (l : List (Nat × Nat × Option Addr)) : sumB (y :: l) = y.2.1 + sumB l := by simp [sumB]
theorem sumB_nil : sumB [] = 0 := rfl
theorem sumB_less (p : Nat × Nat × Option Addr → Bool) : ∀ (l : List (Nat × Nat × Option Addr)), (∀ y ∈ l, p y = false → y.2.1 = 0) → sumB (l.filter p) = sumB l
  | [], _ => rfl
  | y :: l, h => by
    have ih := sumB_less p l (fun z hz => h z (by simp [hz]))
    cases e : p y with
    | true => rw [List.filter_cons_of_pos e, sumB_cons, sumB_cons, ih]
    | false => rw [List.filter_cons_of_neg (by simp [e]), sumB_cons, ih, h y (by simp) e]; simp

theorem sum_eq : ∀ (bufs : List (Nat × Nat × Option Addr)) (tk : List (Nat × Int × Nat)), (tk.map (·.1)).Nodup → (bufs.map (·.1)).Nodup → (∀ x ∈ tk, 1 ≤ x.2.1) → (∀ x ∈ tk, ∃ A, (x.1, x.2.1.toNat, A) ∈ bufs) →
    (∀ y ∈ bufs, 1 ≤ y.2.1 → ∃ n, (y.1, (y.2.1 : Int), n) ∈ tk) → sumTk tk = sumB bufs
  | [], tk, _, _, _, h2, _ => by
    cases tk with
    | nil => rfl
    | cons x l => obtain ⟨A, hA⟩ := h2 x (by simp); simp at hA
  | y :: bs, tk, hn, hb, h1, h2, h3 => by
    simp only [List.map_cons, List.nodup_cons] at hb
    by_cases hy : 1 ≤ y.2.1
    · obtain ⟨k, hk⟩ := h3 y (by simp) hy
      have hs := sum_filter tk _ hn hk
      have ih := sum_eq bs (tk.filter fun z => z.1 ≠ y.1) (List.Nodup.sublist (List.Sublist.map _ List.filter_sublist) hn) hb.2 (fun x hx => h1 x (List.mem_filter.1 hx).1) (fun x hx => by
        obtain ⟨g1, g2⟩ := List.mem_filter.1 hx
        obtain ⟨A, hA⟩ := h2 x g1
        rcases List.mem_cons.1 hA with e | hA
        · have : x.1 = y.1 := by rw [← e]
          simp [this] at g2
        · exact ⟨A, hA⟩) (fun z hz hz1 => by
        obtain ⟨n, hn'⟩ := h3 z (by simp [hz]) hz1
        refine ⟨n, List.mem_filter.2 ⟨hn', ?_⟩⟩
        have : z.1 ≠ y.1 := fun e => hb.1 (by rw [← e]; exact List.mem_map_of_mem hz)
        simpa using this)
      rw [sumB_cons, ← ih]
      simp only at hs
      omega
    · have hy0 : y.2.1 = 0 := by omega
      have ih := sum_eq bs tk hn hb.2 h1 (fun x hx => by
        obtain ⟨A, hA⟩ := h2 x hx
        rcases List.mem_cons.1 hA with e | hA
        · have : x.2.1.toNat = y.2.1 := by rw [← e]
          have := h1 x hx; omega
        · exact ⟨A, hA⟩) (fun z hz hz1 => h3 z (by simp [hz]) hz1)
      rw [sumB_cons, hy0, ih]; simp

/-- An arena, and its buffers: of each its words' place, and how many there are (0: given back). -/
structure ArI (H : Hp) (a mp cl : Nat) (tk : List (Nat × Int × Nat)) (cap used peak : Int) (bufs : List (Nat × Nat × Option Addr)) : Prop where
  ai : AI H a mp cl tk cap used peak
  up : used ≤ peak
  hd : ∀ y ∈ bufs, H y.1 = some (bufO a y.2.2 y.2.1 y.2.1)
  tb : ∀ x ∈ tk, ∃ A, (x.1, x.2.1.toNat, A) ∈ bufs
  bt : ∀ y ∈ bufs, 1 ≤ y.2.1 → ∃ n, (y.1, (y.2.1 : Int), n) ∈ tk
  bn : (bufs.map (·.1)).Nodup
  hz : ∀ y ∈ bufs, y.2.1 = 0 → y.2.2 = none

def Ar (a : Nat) (cap peak : Int) (bufs : List (Nat × Nat × Option Addr)) : As := fun H => ∃ mp cl tk, ArI H a mp cl tk cap (sumB bufs) peak bufs

theorem AI.up {H H' : Hp} {a mp cl : Nat} {tk : List (Nat × Int × Nat)} {cap used peak : Int} (h : AI H a mp cl tk cap used peak) (k : H.le H') : AI H' a mp cl tk cap used peak :=
  ⟨h.ne, k _ _ h.ha, k _ _ h.hm, h.nd, fun x hx => by obtain ⟨h1, A, n, m, h2⟩ := h.hb x hx; exact ⟨h1, A, n, m, k _ _ h2⟩, h.hu, h.bn⟩

theorem ArI.upw {H H' : Hp} {a mp cl : Nat} {tk : List (Nat × Int × Nat)} {cap used peak : Int} {bufs : List (Nat × Nat × Option Addr)} (h : ArI H a mp cl tk cap used peak bufs) (k : H.le H') : ArI H' a mp cl tk cap used peak bufs :=
  ⟨AI.up h.ai k, h.up, fun y hy => k _ _ (h.hd y hy), h.tb, h.bt, h.bn, h.hz⟩

/-- What of the buffers isn't asked any more. -/
theorem ArI.less {H : Hp} {a mp cl : Nat} {tk : List (Nat × Int × Nat)} {cap used peak : Int} {bufs : List (Nat × Nat × Option Addr)} (h : ArI H a mp cl tk cap used peak bufs) (p : Nat × Nat × Option Addr → Bool) (hp : ∀ y ∈ bufs, p y = false → y.2.1 = 0) :
    ArI H a mp cl tk cap used peak (bufs.filter p) :=
  ⟨h.ai, h.up, fun y hy => h.hd y (List.mem_filter.1 hy).1, fun x hx => by
    obtain ⟨A, hA⟩ := h.tb x hx
    refine ⟨A, List.mem_filter.2 ⟨hA, ?_⟩⟩
    cases e : p (x.1, x.2.1.toNat, A) with
    | true => rfl
    | false => have := hp _ hA e; have := (h.ai.hb x hx).1; simp at *; omega, fun y hy => h.bt y (List.mem_filter.1 hy).1, List.Nodup.sublist (List.Sublist.map _ List.filter_sublist) h.bn, fun y hy => h.hz y (List.mem_filter.1 hy).1⟩

theorem Sep.ar {L : List As} {H : Hp} (h : Sep L H) (i : Nat) {a : Nat} {cap peak : Int} {bufs : List (Nat × Nat × Option Addr)} (hi : L[i]? = some (Ar a cap peak bufs)) : ∃ mp cl tk, ArI H a mp cl tk cap (sumB bufs) peak bufs := by
  obtain ⟨H1, ⟨mp, cl, tk, h1⟩, h2⟩ := h.see i hi
  exact ⟨mp, cl, tk, h1.upw h2⟩

section
variable {L : List As} {H : Hp} {a : Nat} {cap peak : Int} {bufs : List (Nat × Nat × Option Addr)}

theorem peak_s (h : Sep L H) (i : Nat) (hi : L[i]? = some (Ar a cap peak bufs)) : HCalls Tryz.prog 25 #[.pointer (some ⟨a, 0, none⟩)] H (RetE (.int .i64 peak) H) := by
  obtain ⟨mp, cl, tk, h⟩ := Sep.ar h i hi; exact peak_ok H a mp cap _ peak h.ai.ha
theorem ArI.nn {used : Int} {mp cl : Nat} {tk : List (Nat × Int × Nat)} (h : ArI H a mp cl tk cap used peak bufs) : 0 ≤ used ∧ used ≤ cap ∧ cap ≤ 16777216 ∧ used ≤ peak := by
  have h1 := sum_nonneg tk (fun x hx => (h.ai.hb x hx).1)
  have h2 := h.ai.hu
  exact ⟨by omega, h2.2.1, h2.2.2, h.up⟩
theorem Sep.arn (h : Sep L H) (i : Nat) (hi : L[i]? = some (Ar a cap peak bufs)) : 0 ≤ sumB bufs ∧ sumB bufs ≤ cap ∧ cap ≤ 16777216 ∧ sumB bufs ≤ peak := by
  obtain ⟨mp, cl, tk, h⟩ := Sep.ar h i hi; exact h.nn
theorem free_s (h : Sep L H) (i : Nat) (hi : L[i]? = some (Ar a cap peak bufs)) : HCalls Tryz.prog 229 #[.pointer (some ⟨a, 0, none⟩)] H (RetE (.int .i64 (cap - sumB bufs)) H) := by
  obtain ⟨mp, cl, tk, h⟩ := Sep.ar h i hi
  have := h.nn
  exact free_ok H a mp cap _ peak (by omega) h.ai.ha
theorem Words_s (h : Sep L H) (i : Nat) (hi : L[i]? = some (Ar a cap peak bufs)) {b n : Nat} {A : Option Addr} (hb : (b, n, A) ∈ bufs) : HCalls Tryz.prog 174 #[.pointer (some ⟨b, 0, none⟩)] H (RetE (.slice A n n) H) := by
  obtain ⟨mp, cl, tk, h⟩ := Sep.ar h i hi; exact Words_ok H b a A n n (h.hd _ hb)
end

theorem New_tr (x : Int) (h : 1 ≤ x ∧ x ≤ 16777216) : Tr Tryz.prog 97 #[.int .i64 x] [] fun v M => ∃ a, v = .pointer (some ⟨a, 0, none⟩) ∧ M = [Ar a x 0 []] := fun H _ => by
  refine (New_ok H x h).mono ?_
  rintro v H' ⟨mp, a, hmp, ha, hne, rfl, rfl⟩
  refine ⟨_, ⟨a, rfl, rfl⟩, Sep.up (H := Hp.set (Hp.set (fun _ => none) mp (mapO [] 0)) a (arenaO x 0 0 mp)) ?_ (Hp.set_le (Hp.set_le (H := fun _ => none) (fun _ _ h => nomatch h) _ _) _ _)⟩
  refine ⟨_, fun _ => none, Hp.le_refl _, fun b o h => (by cases h), fun b => .inr rfl, ⟨mp, 0, [], ⟨⟨hne, Hp.set_same _ _ _, by rw [Hp.set_other _ _ (Ne.symm hne)]; exact Hp.set_same _ _ _, by simp, fun x hx => by simp at hx, ⟨rfl, by rw [sumB_nil]; omega, by omega⟩, by simp⟩, Int.le_refl _, fun y hy => by simp at hy, fun x hx => by simp at hx, fun y hy => by simp at hy, by simp, fun y hy => by simp at hy⟩⟩, trivial⟩

theorem sum_append (l l' : List (Nat × Int × Nat)) : sumTk (l ++ l') = sumTk l + sumTk l' := by simp [sumTk]

theorem Take_tr {a : Nat} {cap peak : Int} {bufs : List (Nat × Nat × Option Addr)} {n : Nat} (hn : 1 ≤ n) (hc : (n : Int) ≤ cap - sumB bufs) :
    Tr Tryz.prog 170 #[.pointer (some ⟨a, 0, none⟩), .int .i64 n] [Ar a cap peak bufs] fun v M => ∃ b rb, v = .tuple #[.pointer (some ⟨b, 0, none⟩), .int .i64 0] ∧
      M = [Ar a cap (if sumB bufs + n > peak then sumB bufs + n else peak) (bufs ++ [(b, n, some ⟨rb, 0, none⟩)]), pts rb (.row (zerosU64 n) 60 n)] := fun H hs => by
  obtain ⟨mp, cl, tk, h⟩ := Sep.ar hs 0 rfl
  have hnn := h.nn
  refine (Take_ok H a mp cap (sumB bufs) peak n tk cl (by omega) (by omega) h.ai.ne h.ai.ha h.ai.hm h.ai.plain).mono ?_
  rintro v H' ⟨rb, b, hrb, hb, hbr, rfl, rfl⟩
  rw [Int.toNat_natCast]
  have har : a ≠ rb := fun e => by have := h.ai.ha; rw [e, hrb] at this; cases this
  have hab : a ≠ b := fun e => by have := h.ai.ha; rw [e, hb] at this; cases this
  have hmr : mp ≠ rb := fun e => by have := h.ai.hm; rw [e, hrb] at this; cases this
  have hmb : mp ≠ b := fun e => by have := h.ai.hm; rw [e, hb] at this; cases this
  have hne := h.ai.ne
  have keep : ∀ q o, H q = some o → q ≠ a → q ≠ mp → ((((H.set rb (.row (zerosU64 n) 60 n)).set b (bufO a (some ⟨rb, 0, none⟩) n n)).set mp (mapO (tk ++ [(b, (n : Int), cl)]) (cl + 1))).set a (arenaO cap (sumB bufs + n) (if sumB bufs + n > peak then sumB bufs + n else peak) mp)) q = some o := fun q o hq h1 h2 => by
    have h7 : q ≠ rb := fun e => by rw [e, hrb] at hq; cases hq
    have h8 : q ≠ b := fun e => by rw [e, hb] at hq; cases hq
    rw [Hp.set_other _ _ h1, Hp.set_other _ _ h2, Hp.set_other _ _ h8, Hp.set_other _ _ h7]; exact hq
  refine ⟨_, ⟨b, rb, rfl, rfl⟩, ?_⟩
  -- the arena's own part
  have hfr : ∀ y ∈ bufs, y.1 ≠ a ∧ y.1 ≠ mp ∧ y.1 ≠ b := fun y hy => by
    have h1 := h.hd y hy
    refine ⟨fun e => ?_, fun e => ?_, fun e => ?_⟩
    · rw [e, h.ai.ha] at h1; unfold arenaO bufO at h1; cases h1
    · rw [e, h.ai.hm] at h1; unfold mapO bufO at h1; cases h1
    · rw [e, hb] at h1; cases h1
  have hxf : ∀ x ∈ tk, x.1 ≠ a ∧ x.1 ≠ mp ∧ x.1 ≠ b := fun x hx => by
    obtain ⟨A, hA⟩ := h.tb x hx
    exact hfr _ hA
  let G : Hp := fun q => if q = rb then none else ((((H.set rb (.row (zerosU64 n) 60 n)).set b (bufO a (some ⟨rb, 0, none⟩) n n)).set mp (mapO (tk ++ [(b, (n : Int), cl)]) (cl + 1))).set a (arenaO cap (sumB bufs + n) (if sumB bufs + n > peak then sumB bufs + n else peak) mp)) q
  have hG : ∀ q o, q ≠ rb → ((((H.set rb (.row (zerosU64 n) 60 n)).set b (bufO a (some ⟨rb, 0, none⟩) n n)).set mp (mapO (tk ++ [(b, (n : Int), cl)]) (cl + 1))).set a (arenaO cap (sumB bufs + n) (if sumB bufs + n > peak then sumB bufs + n else peak) mp)) q = some o → G q = some o := fun q o h1 h2 => by
    show (if q = rb then none else _) = _
    rw [if_neg h1]; exact h2
  have gb := hG b (bufO a (some ⟨rb, 0, none⟩) n n) hbr (by rw [Hp.set_other _ _ (Ne.symm hab), Hp.set_other _ _ (Ne.symm hmb)]; exact Hp.set_same _ _ _)
  have nrb : ∀ q o, H q = some o → q ≠ rb := fun q o hq e => by rw [e, hrb] at hq; cases hq
  refine ⟨G, fun q => if q = rb then some (.row (zerosU64 n) 60 n) else none, fun q o hq => ?_, fun q o hq => ?_, fun q => ?_, ⟨mp, cl + 1, tk ++ [(b, (n : Int), cl)], ?_⟩, ⟨_, fun _ => none, Hp.le_refl _, fun b o h => (by cases h), fun b => .inr rfl, (if_pos rfl : (if rb = rb then some _ else none) = _), trivial⟩⟩
  · have hq' : (if q = rb then none else _) = some o := hq
    split at hq'
    · cases hq'
    · exact hq'
  · simp only at hq
    split at hq
    · rename_i e; subst e
      rw [Hp.set_other _ _ (Ne.symm har), Hp.set_other _ _ (Ne.symm hmr), Hp.set_other _ _ (Ne.symm hbr), Hp.set_same]; exact hq
    · cases hq
  · by_cases e : q = rb
    · left; show (if q = rb then none else _) = none; rw [if_pos e]
    · right; simp only [e, if_false]
  rw [show sumB (bufs ++ [(b, n, some ⟨rb, 0, none⟩)]) = sumB bufs + n by rw [sumB_append]; simp [sumB]]
  refine ⟨⟨hne, hG a _ har (Hp.set_same _ _ _), hG mp _ hmr (by rw [Hp.set_other _ _ (Ne.symm hne)]; exact Hp.set_same _ _ _), ?_, fun x hx => ?_, ⟨?_, by omega, by omega⟩, ?_, fun x hx => ?_⟩, by split <;> omega, fun y hy => ?_, fun x hx => ?_, fun y hy hy1 => ?_, ?_, fun y hy h0 => ?_⟩
  · rw [List.map_append, List.nodup_append]
    refine ⟨h.ai.nd, by simp, fun x hx y hy e => ?_⟩
    simp at hy; subst hy
    obtain ⟨z, hz, rfl⟩ := List.mem_map.1 hx
    exact (hxf z hz).2.2 e
  · rcases List.mem_append.1 hx with hx | hx
    · obtain ⟨h1, A, n', m', h2⟩ := h.ai.hb x hx
      exact ⟨h1, A, n', m', hG _ _ (nrb _ _ h2) (keep _ _ h2 (hxf x hx).1 (hxf x hx).2.1)⟩
    · simp at hx; subst hx
      exact ⟨by show (1 : Int) ≤ n; omega, _, _, _, gb⟩
  · rw [sum_append, ← h.ai.hu.1]; simp [sumTk]
  · rw [List.map_append, List.nodup_append]
    refine ⟨h.ai.bn.1, by simp, fun x hx y hy e => ?_⟩
    simp at hy; subst hy
    obtain ⟨z, hz, rfl⟩ := List.mem_map.1 hx
    have := h.ai.bn.2 z hz
    omega
  · rcases List.mem_append.1 hx with hx | hx
    · have := h.ai.bn.2 x hx; omega
    · simp at hx; subst hx; show cl < cl + 1; omega
  · rcases List.mem_append.1 hy with hy | hy
    · exact hG _ _ (nrb _ _ (h.hd y hy)) (keep _ _ (h.hd y hy) (hfr y hy).1 (hfr y hy).2.1)
    · simp at hy; subst hy; exact gb
  · rcases List.mem_append.1 hx with hx | hx
    · obtain ⟨A, hA⟩ := h.tb x hx
      exact ⟨A, List.mem_append_left _ hA⟩
    · simp at hx; subst hx
      exact ⟨some ⟨rb, 0, none⟩, by simp⟩
  · rcases List.mem_append.1 hy with hy | hy
    · obtain ⟨m, hm⟩ := h.bt y hy hy1
      exact ⟨m, List.mem_append_left _ hm⟩
    · simp at hy; subst hy
      exact ⟨cl, by simp⟩
  · rw [List.map_append, List.nodup_append]
    refine ⟨h.bn, by simp, fun x hx y hy e => ?_⟩
    simp at hy; subst hy
    obtain ⟨z, hz, rfl⟩ := List.mem_map.1 hx
    exact (hfr z hz).2.2 e
  · rcases List.mem_append.1 hy with hy | hy
    · exact h.hz y hy h0
    · simp at hy; subst hy; simp at h0; omega

theorem ArI.gave {H H' : Hp} {a mp cl : Nat} {tk tk' : List (Nat × Int × Nat)} {cap used peak : Int} {bufs : List (Nat × Nat × Option Addr)} {g : Nat → Prop} {gb : Nat → Bool} (h : ArI H a mp cl tk cap used peak bufs) (hg : Gave H H' a mp cl tk tk' cap peak g) (hgb : ∀ q, gb q = true ↔ g q) :
    ArI H' a mp cl tk' cap (sumB (gaveB gb bufs)) peak (gaveB gb bufs) := by
  have hu := h.ai.hu
  have hnd : ((gaveB gb bufs).map (·.1)).Nodup := by rw [gaveB_fst]; exact h.bn
  have hmem : ∀ y ∈ gaveB gb bufs, ∃ z ∈ bufs, y = if gb z.1 then (z.1, 0, none) else z := fun y hy => by
    obtain ⟨z, hz, rfl⟩ := List.mem_map.1 hy
    exact ⟨z, hz, rfl⟩
  have htb : ∀ x ∈ tk', ∃ A, (x.1, x.2.1.toNat, A) ∈ gaveB gb bufs := fun x hx => by
    obtain ⟨h1, h2⟩ := (hg.mem x).1 hx
    obtain ⟨A, hA⟩ := h.tb x h1
    refine ⟨A, List.mem_map.2 ⟨_, hA, ?_⟩⟩
    rw [if_neg (fun e => h2 ((hgb _).1 e))]
  have hbt : ∀ y ∈ gaveB gb bufs, 1 ≤ y.2.1 → ∃ n, (y.1, (y.2.1 : Int), n) ∈ tk' := fun y hy hy1 => by
    obtain ⟨z, hz, rfl⟩ := hmem y hy
    by_cases e : gb z.1 = true
    · rw [if_pos e] at hy1; simp at hy1
    · rw [if_neg e] at hy1 ⊢
      obtain ⟨n, hn⟩ := h.bt z hz hy1
      exact ⟨n, (hg.mem _).2 ⟨hn, fun e2 => e ((hgb _).2 e2)⟩⟩
  have hsum := sum_eq (gaveB gb bufs) tk' hg.ai.nd hnd (fun x hx => (hg.ai.hb x hx).1) htb hbt
  refine ⟨by rw [← hsum]; exact hg.ai, by rw [← hsum]; have := h.up; have := hg.sle; omega, fun y hy => ?_, htb, hbt, hnd, fun y hy h0 => ?_⟩
  rotate_left
  · obtain ⟨z, hz, rfl⟩ := hmem y hy
    by_cases e : gb z.1 = true
    · rw [if_pos e]
    · rw [if_neg e] at h0 ⊢; exact h.hz z hz h0
  obtain ⟨z, hz, rfl⟩ := hmem y hy
  have hz1 := h.hd z hz
  have e1 : z.1 ≠ a := fun e => by rw [e, h.ai.ha] at hz1; unfold arenaO bufO at hz1; cases hz1
  have e2 : z.1 ≠ mp := fun e => by rw [e, h.ai.hm] at hz1; unfold mapO bufO at hz1; cases hz1
  by_cases e : gb z.1 = true
  · rw [if_pos e]
    have hgz := (hgb _).1 e
    by_cases hx : ∃ x ∈ tk, x.1 = z.1
    · obtain ⟨x, hx, hxe⟩ := hx
      have := hg.nil x hx (by rw [hxe]; exact hgz)
      rw [hxe] at this; exact this
    · have h0 : z.2.1 = 0 := by
        by_cases h1 : 1 ≤ z.2.1
        · obtain ⟨n, hn⟩ := h.bt z hz h1
          exact absurd ⟨_, hn, rfl⟩ hx
        · omega
      have := hg.keep z.1 _ hz1 e1 e2 (fun _ x hx' e3 => hx ⟨x, hx', e3⟩)
      rw [h0, h.hz z hz h0] at this
      exact this
  · rw [if_neg e]
    exact hg.keep z.1 _ hz1 e1 e2 (fun e3 => absurd ((hgb _).2 e3) e)

end Go.Proofs.YtghajiefpmcpmaaGreatDoor.Are


end
section
/-! AreT -/
/- arena: Give and Reset, as contracts over parts of memory. -/
set_option maxRecDepth 100000
set_option linter.unusedSimpArgs false
set_option linter.unusedVariables false
set_option linter.unnecessarySimpa false
set_option linter.unusedSectionVars false
namespace Go.Proofs.YtghajiefpmcpmaaGreatDoor.Are
open Go Go.Hw Go.Proofs.YtghajiefpmcpmaaGreatDoor.W

theorem ArI.cut {H : Hp} {a mp cl : Nat} {tk : List (Nat × Int × Nat)} {cap used peak : Int} {bufs : List (Nat × Nat × Option Addr)} (h : ArI H a mp cl tk cap used peak bufs) (D : Nat → Bool) (h1 : D a = true) (h2 : D mp = true) (h3 : ∀ y ∈ bufs, D y.1 = true) :
    ArI (fun q => if D q = true then H q else none) a mp cl tk cap used peak bufs := by
  have g : ∀ q o, D q = true → H q = some o → (fun q => if D q = true then H q else none) q = some o := fun q o e1 e2 => by
    show (if D q = true then H q else none) = some o
    rw [if_pos e1]; exact e2
  refine ⟨⟨h.ai.ne, g _ _ h1 h.ai.ha, g _ _ h2 h.ai.hm, h.ai.nd, fun x hx => ?_, h.ai.hu, h.ai.bn⟩, h.up, fun y hy => g _ _ (h3 y hy) (h.hd y hy), h.tb, h.bt, h.bn, h.hz⟩
  obtain ⟨k1, A, n, m, k2⟩ := h.ai.hb x hx
  obtain ⟨A', hA'⟩ := h.tb x hx
  exact ⟨k1, A, n, m, g _ _ (h3 _ hA') k2⟩

theorem Sep.head {A : As} {L : List As} {H : Hp} : Sep (A :: L) H → ∃ H1 H2, H1.le H ∧ H2.le H ∧ Apart H1 H2 ∧ A H1 ∧ Sep L H2 := id

/-- What is left behind a change inside an arena. -/
theorem ArI.back {H H1 H2 H' : Hp} {a mp cl cl' : Nat} {tk tk' : List (Nat × Int × Nat)} {cap used used' peak peak' : Int} {bufs : List (Nat × Nat × Option Addr)} {g : Nat → Bool} {L : List As}
    (hle : H1.le H) (hap : Apart H1 H2) (h1 : ArI H1 a mp cl tk cap used peak bufs) (h' : ArI H' a mp cl' tk' cap used' peak' (gaveB g bufs)) (h2 : H2.le H') (hs : Sep L H2) (hu : used' = sumB (gaveB g bufs)) : Sep (Ar a cap peak' (gaveB g bufs) :: L) H' := by
  have hd : ∀ q o, H1 q = some o → (H1 q).isSome = true := fun q o h => by rw [h]; rfl
  refine ⟨fun q => if (H1 q).isSome = true then H' q else none, H2, fun q o hq => ?_, h2, fun q => ?_, ⟨mp, cl', tk', ?_⟩, hs⟩
  · simp only at hq
    split at hq
    · exact hq
    · cases hq
  · rcases hap q with e | e
    · left; simp [e]
    · exact .inr e
  · rw [← hu]
    refine h'.cut (fun q => (H1 q).isSome) (hd _ _ h1.ai.ha) (hd _ _ h1.ai.hm) (fun y hy => ?_)
    obtain ⟨z, hz, e⟩ := List.mem_map.1 (show y.1 ∈ bufs.map (·.1) by rw [← gaveB_fst g]; exact List.mem_map_of_mem hy)
    have := hd _ _ (h1.hd z hz)
    rw [e] at this; exact this

theorem give_core {a : Nat} {cap peak : Int} {bufs : List (Nat × Nat × Option Addr)} (vb n mm : Nat) (xs : List Value) (ps : List (Option Nat)) (hn : n = ps.length) (hn2 : n ≤ 9000000000000000000) (hx : xs.take n = ps.map optP) (hps : ∀ b, some b ∈ ps → ∃ n A, (b, n, A) ∈ bufs)
    {H : Hp} (hs : Sep [Ar a cap peak bufs, pts vb (.row xs 256 mm)] H) : ∃ mp cl tk, AI H a mp cl tk cap (sumB bufs) peak ∧ sumB bufs ≤ peak ∧ (∀ H', (∀ q xs e m, H q = some (.row xs e m) → H' q = some (.row xs e m)) → Cells H' (some ⟨vb, 0, none⟩) (ps.map optP)) ∧ (∀ b, some b ∈ ps → ∃ A n m, H b = some (bufO a A n m)) ∧
      ∀ H' tk', Gave H H' a mp cl tk tk' cap peak (fun q => some q ∈ ps) → Sep [Ar a cap peak (gaveB (fun q => decide (some q ∈ ps)) bufs), pts vb (.row xs 256 mm)] H' := by
  have hv := Sep.get hs 1 rfl
  obtain ⟨H1, H2, k1, k2, k3, ⟨mp, cl, tk, h1⟩, k5⟩ := hs
  have h := h1.upw k1
  refine ⟨mp, cl, tk, h.ai, h.up, fun H' hH' => ?_, fun b hb => ?_, fun H' tk' hg => ?_⟩
  · have := Cells.row (hH' vb xs _ _ hv) 0 n
    rw [List.drop_zero, hx] at this; exact this
  · obtain ⟨n, A, hb⟩ := hps b hb
    exact ⟨_, _, _, h.hd _ hb⟩
  have h' := h.gave hg (gb := fun q => decide (some q ∈ ps)) (fun q => by simp)
  have hvb : ∀ q, q ≠ vb ∨ H1 q = none := fun q => by
    by_cases e : q = vb
    · right; rw [e]
      have h2 : H2 vb = some (.row xs 256 mm) := Sep.get k5 0 rfl
      exact (k3 vb).resolve_right (by rw [h2]; simp)
    · exact .inl e
  refine ArI.back (H2 := fun q => if q = vb then some (.row xs 256 mm) else none) k1 (fun q => ?_) h1 h' (fun q o hq => ?_) ⟨_, fun _ => none, Hp.le_refl _, fun b o h => (by cases h), fun b => .inr rfl, (if_pos rfl : (if vb = vb then some _ else none) = _), trivial⟩ rfl
  · rcases hvb q with e | e
    · right; simp only [e, if_false]
    · exact .inl e
  · simp only at hq
    split at hq
    · rename_i e; subst e; cases hq
      refine hg.keep q _ hv (fun e => ?_) (fun e => ?_) (fun _ x hx' e => ?_)
      · rw [e, h.ai.ha] at hv; unfold arenaO at hv; cases hv
      · rw [e, h.ai.hm] at hv; unfold mapO at hv; cases hv
      · obtain ⟨_, A, n, m, k⟩ := h.ai.hb x hx'
        rw [e, hv] at k; unfold bufO at k; cases k
    · cases hq

theorem Give_tr {a : Nat} {cap peak : Int} {bufs : List (Nat × Nat × Option Addr)} (vb n m mm : Nat) (xs : List Value) (ps : List (Option Nat)) (hn : n = ps.length) (hn2 : n ≤ 9000000000000000000) (hx : xs.take n = ps.map optP) (hps : ∀ b, some b ∈ ps → ∃ n A, (b, n, A) ∈ bufs) :
    Tr Tryz.prog 172 #[.pointer (some ⟨a, 0, none⟩), .slice (some ⟨vb, 0, none⟩) n m] [Ar a cap peak bufs, pts vb (.row xs 256 mm)] fun v M =>
      v = .tuple #[] ∧ M = [Ar a cap peak (gaveB (fun q => decide (some q ∈ ps)) bufs), pts vb (.row xs 256 mm)] := fun H hs => by
  obtain ⟨mp, cl, tk, h1, h2, h3, h4, h5⟩ := give_core vb n mm xs ps hn hn2 hx hps hs
  refine (Give_ok a mp cl cap (sumB bufs) peak h2 tk H h1 (some ⟨vb, 0, none⟩) n m ps hn hn2 h3 h4).mono ?_
  rintro v H' ⟨rfl, tk', hg⟩
  exact ⟨_, ⟨rfl, rfl⟩, h5 H' tk' hg⟩

theorem Give_trD {a : Nat} {cap peak : Int} {bufs : List (Nat × Nat × Option Addr)} (vb n m mm : Nat) (xs : List Value) (ps : List (Option Nat)) (hn : n = ps.length) (hn2 : n ≤ 9000000000000000000) (hx : xs.take n = ps.map optP) (hps : ∀ b, some b ∈ ps → ∃ n A, (b, n, A) ∈ bufs) :
    TrD Tryz.prog 172 #[.pointer (some ⟨a, 0, none⟩), .slice (some ⟨vb, 0, none⟩) n m] [Ar a cap peak bufs, pts vb (.row xs 256 mm)] fun v M =>
      v = .tuple #[] ∧ M = [Ar a cap peak (gaveB (fun q => decide (some q ∈ ps)) bufs), pts vb (.row xs 256 mm)] := fun H hs => by
  obtain ⟨mp, cl, tk, h1, h2, h3, h4, h5⟩ := give_core vb n mm xs ps hn hn2 hx hps hs
  refine HCallsD.mono (W_arena_Arena_Give.okD _ _ _ _ _ _ (Give_W a mp cl cap (sumB bufs) peak h2 tk H h1 (some ⟨vb, 0, none⟩) n m ps hn hn2 h3 h4)) ?_
  rintro v H' ⟨rfl, tk', hg⟩
  exact ⟨_, ⟨rfl, rfl⟩, h5 H' tk' hg⟩

/-- One buffer is given back, and forgotten. -/
theorem Give_oneD {a : Nat} {cap peak : Int} {bufs : List (Nat × Nat × Option Addr)} (vb b n : Nat) (A : Option Addr) (hnew : ∀ y ∈ bufs, y.1 ≠ b) :
    TrD Tryz.prog 172 #[.pointer (some ⟨a, 0, none⟩), .slice (some ⟨vb, 0, none⟩) 1 1] [Ar a cap peak (bufs ++ [(b, n, A)]), pts vb (.row [.pointer (some ⟨b, 0, none⟩)] 256 1)] fun v M =>
      v = .tuple #[] ∧ M = [Ar a cap peak bufs] := fun H hs => by
  refine (Give_trD vb 1 1 1 _ [some b] rfl (by omega) rfl (fun q hq => ?_) H hs).mono ?_
  · simp at hq; subst hq
    exact ⟨n, A, by simp⟩
  · rintro v H' ⟨M, ⟨rfl, rfl⟩, hs⟩
    refine ⟨_, ⟨rfl, rfl⟩, ?_⟩
    have hs := hs.re [0] rfl
    have e : gaveB (fun q => decide (some q ∈ [some b])) (bufs ++ [(b, n, A)]) = bufs ++ [(b, 0, none)] := by
      unfold gaveB
      rw [List.map_append]
      congr 1
      · refine (List.map_congr_left (g := id) fun y hy => ?_).trans (List.map_id _)
        have := hnew y hy
        simp [this]
      · simp
    rw [e] at hs
    obtain ⟨H1, H2, k1, k2, k3, ⟨mp, cl, tk, h1⟩, k5⟩ := hs
    refine ⟨H1, H2, k1, k2, k3, ⟨mp, cl, tk, ?_⟩, k5⟩
    have h2 := h1.less (fun y => decide (y.1 ≠ b)) (fun y hy hp => by
      rcases List.mem_append.1 hy with hy | hy
      · simp at hp; exact absurd hp (hnew y hy)
      · simp at hy; subst hy; rfl)
    have e2 : (bufs ++ [(b, 0, none)]).filter (fun y => decide (y.1 ≠ b)) = bufs := by
      rw [List.filter_append]
      have h3 : bufs.filter (fun y => decide (y.1 ≠ b)) = bufs := by
        rw [List.filter_eq_self]
        intro y hy; simpa using hnew y hy
      rw [h3]; simp
    rw [e2] at h2
    have e3 : sumB (bufs ++ [(b, 0, none)]) = sumB bufs := by rw [sumB_append]; simp [sumB]
    rw [e3] at h2
    exact h2

/-- Give of none. -/
theorem Give_none {a : Nat} {H : Hp} {L : List As} {cap peak : Int} {bufs : List (Nat × Nat × Option Addr)} (h : Sep L H) (i : Nat) (hi : L[i]? = some (Ar a cap peak bufs)) :
    HCalls Tryz.prog 172 #[.pointer (some ⟨a, 0, none⟩), .slice none 0 0] H (RetE (.tuple #[]) H) := by
  apply W_arena_Arena_Give.ok
  refine ⟨1, ?_⟩
  unfold W_arena_Arena_Give.l1
  exact BIf_dneg (by omega) (RetE.mk _ _)

theorem unseen_lt {tk : List (Nat × Int × Nat)} {seen : Array Nat} {x : Nat × Int × Nat} (hx : x ∈ unseen tk seen) : (unseen tk (seen.push x.2.2)).length < (unseen tk seen).length := by
  have e : unseen tk (seen.push x.2.2) = (unseen tk seen).filter fun y => y.2.2 != x.2.2 := by
    unfold unseen
    rw [List.filter_filter]
    congr 1
    funext y
    rw [Array.contains_push]
    cases seen.contains y.2.2 <;> simp [bne]
  rw [e]
  have : ∀ l : List (Nat × Int × Nat), x ∈ l → (l.filter fun y => y.2.2 != x.2.2).length < l.length := by
    intro l hl
    induction l with
    | nil => simp at hl
    | cons y l ih =>
      rcases List.mem_cons.1 hl with rfl | hl
      · rw [List.filter_cons_of_neg (by simp)]
        have := List.length_filter_le (fun y : Nat × Int × Nat => y.2.2 != x.2.2) l
        simp only [List.length_cons]; omega
      · have := ih hl
        have := List.length_filter_le (fun y : Nat × Int × Nat => y.2.2 != x.2.2) l
        rw [List.filter_cons]
        split <;> simp only [List.length_cons] <;> omega
  exact this _ hx

theorem nodup_inj {α β : Type} {f : α → β} : ∀ {l : List α}, (l.map f).Nodup → ∀ {x y : α}, x ∈ l → y ∈ l → f x = f y → x = y
  | [], _, _, _, h, _, _ => by simp at h
  | z :: l, hn, x, y, hx, hy, e => by
    simp only [List.map_cons, List.nodup_cons] at hn
    rcases List.mem_cons.1 hx with e1 | hx2
    · rcases List.mem_cons.1 hy with e2 | hy2
      · rw [e1, e2]
      · exact absurd (by rw [← e1, e]; exact List.mem_map_of_mem hy2) hn.1
    · rcases List.mem_cons.1 hy with e2 | hy2
      · exact absurd (by rw [← e2, ← e]; exact List.mem_map_of_mem hx2) hn.1
      · exact nodup_inj hn.2 hx2 hy2 e

theorem gaveB_all_sum (l : List (Nat × Nat × Option Addr)) : sumB (gaveB (fun _ => true) l) = 0 := by
  induction l with
  | nil => rfl
  | cons y l ih =>
    show sumB ((y.1, 0, none) :: gaveB (fun _ => true) l) = 0
    rw [sumB_cons, ih]; rfl

end Go.Proofs.YtghajiefpmcpmaaGreatDoor.Are

end
section
/-! HwK -/
/- The frame of the proofs: maps whose keys are ints, as parts of memory. -/
set_option maxRecDepth 100000
set_option linter.unusedSimpArgs false
set_option linter.unusedVariables false
set_option linter.unnecessarySimpa false
set_option linter.unusedSectionVars false
namespace Go.Hw
open Go

def entK (x : Int × Value × Nat) : MapEntry := { key := .int .i64 x.1, val := x.2.1, born := x.2.2 }
def kmap (l : List (Int × Value × Nat)) (clock : Nat) : AO := .obj (.map (l.map entK).toArray clock)
def getK : List (Int × Value × Nat) → Int → Option Value
  | [], _ => none
  | x :: l, k => if k = x.1 then some x.2.1 else getK l k
def ixK (k : Int) : List (Int × Value × Nat) → Nat → Option (Nat × Value)
  | [], _ => none
  | x :: l, i => if k = x.1 then some (i, x.2.1) else ixK k l (i + 1)

structure OkK (l : List (Int × Value × Nat)) (clock : Nat) (m : Int → Option Value) : Prop where
  nd : (l.map (·.1)).Nodup
  bn : (l.map (·.2.2)).Nodup
  bl : ∀ x ∈ l, x.2.2 < clock
  get : ∀ k, getK l k = m k

/-- A map whose keys are ints. -/
def Mp (r : Nat) (m : Int → Option Value) : As := fun H => ∃ l clock, H r = some (kmap l clock) ∧ OkK l clock m

theorem ixK_get (k : Int) : ∀ (l : List (Int × Value × Nat)) (i : Nat), (ixK k l i).map (·.2) = getK l k
  | [], _ => rfl
  | x :: l, i => by
    unfold ixK getK
    split
    · rfl
    · exact ixK_get k l (i + 1)

theorem getK_none {l : List (Int × Value × Nat)} {k : Int} : getK l k = none ↔ ∀ x ∈ l, x.1 ≠ k := by
  induction l with
  | nil => simp [getK]
  | cons x l ih =>
    unfold getK
    split
    · rename_i h; simp [h]
    · rename_i h
      rw [ih]
      constructor
      · intro h2 y hy
        rcases List.mem_cons.1 hy with rfl | hy
        · exact fun e => h e.symm
        · exact h2 y hy
      · intro h2 y hy; exact h2 y (by simp [hy])

theorem getK_mem {l : List (Int × Value × Nat)} (hn : (l.map (·.1)).Nodup) {x : Int × Value × Nat} (hx : x ∈ l) : getK l x.1 = some x.2.1 := by
  induction l with
  | nil => simp at hx
  | cons y l ih =>
    simp only [List.map_cons, List.nodup_cons] at hn
    unfold getK
    rcases List.mem_cons.1 hx with rfl | hx
    · simp
    · rw [if_neg (fun e => hn.1 (by rw [← e]; exact List.mem_map_of_mem hx))]
      exact ih hn.2 hx

theorem getK_some {l : List (Int × Value × Nat)} {k : Int} {v : Value} (h : getK l k = some v) : ∃ b, (k, v, b) ∈ l := by
  induction l with
  | nil => simp [getK] at h
  | cons y l ih =>
    unfold getK at h
    split at h
    · rename_i e; cases h; exact ⟨y.2.2, by rw [e]; simp⟩
    · obtain ⟨b, hb⟩ := ih h; exact ⟨b, by simp [hb]⟩

theorem kmap.heap {H : Hp} {w : World} {r clock : Nat} {l : List (Int × Value × Nat)} (h : H r = some (kmap l clock)) (hw : Fits H w) : w.heap[r]? = some (.map (l.map entK).toArray clock) := by
  obtain ⟨o, ho, hh⟩ := hw _ _ h
  cases hh
  exact ho

theorem At.setK {H0 H : Hp} {w0 w : World} {r clock : Nat} {l : List (Int × Value × Nat)} (hA : At H0 w0 H w) (hr : H r = some (kmap l clock)) (o : Obj) : At H0 w0 (H.set r (.obj o)) { w with heap := w.heap.setIfInBounds r o } := by
  have hh := kmap.heap hr hA.fits
  have hlt : r < w.heap.size := (Array.getElem?_eq_some_iff.1 hh).1
  refine hA.turn hr (x' := o) ?_ rfl ?_ rfl rfl rfl (fun c hc => ?_)
  · show (w.heap.setIfInBounds r o)[r]? = some o
    simp [hlt]
  · show (w.heap.setIfInBounds r o).size = w.heap.size
    simp
  · show (w.heap.setIfInBounds r o)[c]? = w.heap[c]?
    rw [Array.getElem?_setIfInBounds_ne (Ne.symm hc)]

section
variable {P : Program} {t : TypeId} (ht : P.underlying t = some (.int .i64))
include ht

theorem findNowK (k : Int) : ∀ (l : List (Int × Value × Nat)) (i : Nat), Instr.findNow (.int .i64) (.int .i64 k) (l.map entK) i = some (ixK k l i)
  | [], _ => rfl
  | x :: l, i => by
    simp only [List.map_cons, Instr.findNow]
    rw [show Instr.sameNow (.int .i64) (.int .i64 k) (entK x).key = some (k == x.1) by simp [Instr.sameNow, entK]]
    unfold ixK
    by_cases h : k = x.1
    · simp [h, entK]
    · rw [show (k == x.1) = false by simpa using h]
      simp only [h, if_false]
      exact findNowK k l (i + 1)

theorem findKeyK {w : World} (k : Int) (l : List (Int × Value × Nat)) : (Instr.findKey t (.int .i64 k) (l.map entK)).run P w = .ok (ixK k l 0) w := by
  unfold Instr.findKey
  simp [underlying_run ht, findNowK ht k l 0]

theorem checkKeyK {w : World} (e : Bool) (k : Int) : (Instr.checkKey e 10000 t (.int .i64 k)).run P w = .ok () w := by
  unfold Instr.checkKey
  simp [underlying_run ht]

variable {tm tv : TypeId} (hm : P.underlying tm = some (.map t tv))
include hm

theorem lookupK {jv : TypeInfo} {z : Value} (hv : P.info? tv = some jv) (hz : jv.zero = some z) {H : Hp} {r clock : Nat} {l : List (Int × Value × Nat)} {k : Int} (hr : H r = some (kmap l clock)) (ok : Bool) {K : Value → Prop}
    (kk : K (match getK l k with | some v => if ok then .tuple #[v, .bool true] else v | none => if ok then .tuple #[z, .bool false] else z)) : SemV P (Instr.lookup tm (.map (some r)) (.int .i64 k) ok) H K := by
  refine ⟨_, kk, fun w hw => ?_⟩
  have hh := kmap.heap hr hw
  simp only [Instr.lookup, Sem.run_bind, underlying_run hm, Result.andThen_ok, MapKept.run_getObj_map hh, Sem.run_pure]
  rw [checkKeyK ht]
  simp only [Result.andThen_ok]
  rw [findKeyK ht]
  simp only [Result.andThen_ok]
  rw [← ixK_get k l 0]
  cases ixK k l 0 with
  | some x => cases ok <;> simp
  | none => cases ok <;> simp [zeroValue, typeInfo_run hv, hz]

theorem ixK_lt (k : Int) : ∀ (l : List (Int × Value × Nat)) (i j : Nat) (v : Value), ixK k l i = some (j, v) → i ≤ j ∧ ∃ x, l[j - i]? = some x ∧ x.1 = k ∧ x.2.1 = v
  | [], _, _, _, h => by cases h
  | x :: l, i, j, v, h => by
    unfold ixK at h
    split at h
    · rename_i e; cases h; exact ⟨Nat.le_refl _, x, by simp, e.symm, rfl⟩
    · obtain ⟨h1, y, h2, h3⟩ := ixK_lt k l (i + 1) j v h
      exact ⟨by omega, y, by rw [show j - i = (j - (i + 1)) + 1 by omega, List.getElem?_cons_succ]; exact h2, h3⟩

def updM (m : Int → Option Value) (k : Int) (v : Value) : Int → Option Value := fun j => if j = k then some v else m j

theorem getK_append (l : List (Int × Value × Nat)) (x : Int × Value × Nat) (h : getK l x.1 = none) (j : Int) : getK (l ++ [x]) j = updM (getK l) x.1 x.2.1 j := by
  induction l with
  | nil => simp [getK, updM]
  | cons y l ih =>
    unfold getK at h
    split at h
    · cases h
    · rename_i hne
      rw [List.cons_append]
      unfold getK updM
      have := ih h
      unfold updM at this
      by_cases e : j = x.1
      · rw [if_pos e, e, if_neg hne]
        rw [e, if_pos rfl] at this; exact this
      · rw [if_neg e]
        rw [if_neg e] at this
        rw [this]
        rfl

theorem getK_set : ∀ (l : List (Int × Value × Nat)) (i : Nat) (x : Int × Value × Nat) (v : Value), (l.map (·.1)).Nodup → l[i]? = some x → ∀ j, getK (l.set i (x.1, v, x.2.2)) j = updM (getK l) x.1 v j
  | [], i, x, v, _, h, j => by simp at h
  | y :: l, 0, x, v, hn, h, j => by
    simp at h; subst h
    simp only [List.set_cons_zero]
    unfold getK updM
    by_cases e : j = y.1
    · simp [e]
    · simp only [e, if_false, getK]
  | y :: l, i + 1, x, v, hn, h, j => by
    simp only [List.map_cons, List.nodup_cons] at hn
    rw [List.getElem?_cons_succ] at h
    have ih := getK_set l i x v hn.2 h j
    have hne : y.1 ≠ x.1 := fun e => hn.1 (by rw [e]; exact List.mem_map_of_mem (List.mem_of_getElem? h))
    simp only [List.set_cons_succ]
    unfold getK updM
    unfold updM at ih
    by_cases e : j = x.1
    · rw [if_pos e, e, if_neg (Ne.symm hne)]
      rw [e, if_pos rfl] at ih; exact ih
    · rw [if_neg e]
      rw [if_neg e] at ih
      rw [ih]
      rfl

theorem map_set_same {α β : Type} (f : α → β) : ∀ (l : List α) (i : Nat) (x y : α), l[i]? = some x → f y = f x → (l.set i y).map f = l.map f
  | [], _, _, _, h, _ => by simp at h
  | z :: l, 0, x, y, h, e => by simp at h; subst h; simp [e]
  | z :: l, i + 1, x, y, h, e => by
    simp only [List.set_cons_succ, List.map_cons]
    rw [map_set_same f l i x y (by simpa using h) e]

theorem Sep.upd {L : List As} {H : Hp} (h : Sep L H) (i : Nat) {r : Nat} {m : Int → Option Value} (hi : L[i]? = some (Mp r m)) {k : Int} {v : Value} {K : Unit → Hp → Prop} (kk : ∀ H', Sep (L.set i (Mp r (updM m k v))) H' → K () H') :
    SemK P (Instr.mapUpdate tm (.map (some r)) (.int .i64 k) v) H K := fun H0 w0 w hA => by
  obtain ⟨H1, ⟨l, clock, hr1, hok⟩, hle⟩ := h.see i hi
  have hr := hle _ _ hr1
  have hh := kmap.heap hr hA.fits
  cases hx : ixK k l 0 with
  | none =>
    have hg : getK l k = none := by rw [← ixK_get k l 0, hx]; rfl
    refine ⟨(), _, _, ?_, kk _ (h.putIn i hi (b := r) (o' := kmap (l ++ [(k, v, clock)]) (clock + 1)) fun H1' hle' hA' => ?_), hA.setK hr _⟩
    · simp only [Instr.mapUpdate, Sem.run_bind, underlying_run hm, Result.andThen_ok, MapKept.run_getObj_map hh]
      rw [checkKeyK ht]
      simp only [Result.andThen_ok]
      rw [findKeyK ht, hx]
      simp only [Result.andThen_ok]
      rw [MapKept.run_setObj_map _ hh]
      simp [entK]
    · obtain ⟨l', clock', hr', _⟩ := hA'
      refine ⟨_, hr', l ++ [(k, v, clock)], clock + 1, Hp.set_same _ _ _, ?_, ?_, fun x hx => ?_, fun j => ?_⟩
      · rw [List.map_append, List.nodup_append]
        refine ⟨hok.nd, by simp, fun a ha b hb e => ?_⟩
        simp at hb; subst hb
        obtain ⟨z, hz, rfl⟩ := List.mem_map.1 ha
        exact getK_none.1 hg z hz e
      · rw [List.map_append, List.nodup_append]
        refine ⟨hok.bn, by simp, fun a ha b hb e => ?_⟩
        simp at hb; subst hb
        obtain ⟨z, hz, rfl⟩ := List.mem_map.1 ha
        have := hok.bl z hz
        omega
      · rcases List.mem_append.1 hx with hx | hx
        · have := hok.bl x hx; omega
        · simp at hx; subst hx; show clock < clock + 1; omega
      · rw [getK_append ht hm l (k, v, clock) hg j]
        unfold updM
        simp only [hok.get]
  | some q =>
    obtain ⟨ix, u⟩ := q
    obtain ⟨_, x, hxl, hxk, hxv⟩ := ixK_lt ht hm k l 0 ix u hx
    rw [Nat.sub_zero] at hxl
    have hlt := (List.getElem?_eq_some_iff.1 hxl).1
    refine ⟨(), _, _, ?_, kk _ (h.putIn i hi (b := r) (o' := kmap (l.set ix (x.1, v, x.2.2)) clock) fun H1' hle' hA' => ?_), hA.setK hr _⟩
    · simp only [Instr.mapUpdate, Sem.run_bind, underlying_run hm, Result.andThen_ok, MapKept.run_getObj_map hh]
      rw [checkKeyK ht]
      simp only [Result.andThen_ok]
      rw [findKeyK ht, hx]
      simp only [Result.andThen_ok]
      have hkey : ((((l.map entK).toArray)[ix]?).map (·.key)).getD (Value.int .i64 k) = .int .i64 k := by
        simp [hxl, entK, hxk]
      rw [hkey]
      simp only [Instr.keyThatStays, Instr.sameBits, beq_self_eq_true, Bool.and_self, if_true, pure_bind]
      rw [MapKept.run_setObj_map _ hh]
      congr 3
      have e : ((l.map entK).toArray.modify ix fun e => { e with key := .int .i64 k, val := v }) = ((l.set ix (x.1, v, x.2.2)).map entK).toArray := by
        apply Array.ext'
        rw [Array.toList_modify]
        simp only
        apply List.ext_getElem?
        intro j
        rw [List.getElem?_modify, List.getElem?_map, List.getElem?_map, List.getElem?_set]
        by_cases ej : ix = j
        · subst ej
          have e2 : l[ix] = x := by
            have := List.getElem?_eq_getElem hlt
            rw [this] at hxl; exact Option.some.inj hxl
          simp [entK, hxk, hlt, e2]
        · simp [ej]
      rw [e]
    · obtain ⟨l', clock', hr', _⟩ := hA'
      refine ⟨_, hr', l.set ix (x.1, v, x.2.2), clock, Hp.set_same _ _ _, ?_, ?_, fun y hy => ?_, fun j => ?_⟩
      · rw [map_set_same ht hm (·.1) l ix x (x.1, v, x.2.2) hxl rfl]; exact hok.nd
      · rw [map_set_same ht hm (·.2.2) l ix x (x.1, v, x.2.2) hxl rfl]; exact hok.bn
      · have : y.2.2 ∈ (l.set ix (x.1, v, x.2.2)).map (·.2.2) := List.mem_map_of_mem hy
        rw [map_set_same ht hm (·.2.2) l ix x (x.1, v, x.2.2) hxl rfl] at this
        obtain ⟨z, hz, e⟩ := List.mem_map.1 this
        have := hok.bl z hz
        have e' : z.2.2 = y.2.2 := e
        omega
      · rw [getK_set ht hm l ix x v hok.nd hxl j]
        unfold updM
        simp only [hok.get, hxk]

theorem Sep.clearK {L : List As} {H : Hp} (h : Sep L H) (i : Nat) {r : Nat} {m : Int → Option Value} (hi : L[i]? = some (Mp r m)) {ty : TypeId} {K : Value → Hp → Prop} (kk : ∀ H', Sep (L.set i (Mp r fun _ => none)) H' → K (.tuple #[]) H') :
    SemK P (Builtin.clear_ #[tm] ty #[.map (some r)]) H K := fun H0 w0 w hA => by
  obtain ⟨H1, ⟨l, clock, hr1, hok⟩, hle⟩ := h.see i hi
  have hr := hle _ _ hr1
  have hh := kmap.heap hr hA.fits
  refine ⟨_, _, _, ?_, kk _ (h.putIn i hi (b := r) (o' := kmap [] clock) fun H1' hle' hA' => ?_), hA.setK hr _⟩
  · simp only [Builtin.clear_, Sem.run_bind, underlying_run hm, Result.andThen_ok, List.getElem?_toArray, List.getElem?_cons_zero, MapKept.run_getObj_map hh]
    try rw [Sem.run_bind]
    rw [MapKept.run_setObj_map _ hh]
    simp
  · obtain ⟨l', clock', hr', _⟩ := hA'
    exact ⟨_, hr', [], clock, Hp.set_same _ _ _, by simp, by simp, fun x hx => by simp at hx, fun j => rfl⟩

end

theorem Mp.new {L : List As} {H : Hp} {b : Nat} (h : Sep (L ++ [pts b (.obj (.map #[] 0))]) H) : Sep (L ++ [Mp b fun _ => none]) H := by
  have := h.turn L.length (A := pts b (.obj (.map #[] 0))) (by simp) (B := Mp b fun _ => none) fun H1 h1 => ⟨[], 0, h1, by simp, by simp, fun x hx => by simp at hx, fun j => rfl⟩
  simpa using this

/-! ## The entries, one after the other -/

def unseenK (tk : List (Int × Value × Nat)) (seen : Array Nat) : List (Int × Value × Nat) := tk.filter fun x => !seen.contains x.2.2

theorem range_K {P : Program} {t k e : TypeId} (ht : P.underlying t = some (.map k e)) {H : Hp} {mp cl : Nat} {tk : List (Int × Value × Nat)} (hm : H mp = some (kmap tk cl)) {K : Value → Hp → Prop}
    (kk : ∀ it, H it = none → K (.pointer (some ⟨it, 0, none⟩)) (H.set it (iterO mp cl #[] cl))) : SemK P (Instr.range t (.map (some mp))) H K := fun H0 w0 w hA => by
  have hh := kmap.heap hm hA.fits
  obtain ⟨hn, hA'⟩ := hA.new (o := iterO mp cl #[] cl) (x := .mapIter (some mp) cl #[] cl) rfl
  refine ⟨_, _, _, ?_, kk _ hn, hA'⟩
  simp only [Instr.range, Sem.run_bind, underlying_run ht, Result.andThen_ok, MapKept.run_getObj_map hh, Sem.run_pure]
  simp

theorem next_K {P : Program} {ty : TypeId} {H : Hp} {it mp since last cl : Nat} {seen : Array Nat} {tk : List (Int × Value × Nat)} (hi : H it = some (iterO mp since seen last)) (hm : H mp = some (kmap tk cl)) (hold : ∀ x ∈ tk, x.2.2 < since) (hlast : ∀ x ∈ tk, x.2.2 < last) {K : Value → Hp → Prop}
    (k1 : ∀ x ∈ unseenK tk seen, K (.tuple #[.bool true, .int .i64 x.1, x.2.1]) (H.set it (iterO mp since (seen.push x.2.2) cl))) (k0 : unseenK tk seen = [] → K (.tuple #[.bool false]) H) :
    SemK P (Instr.next (.pointer (some ⟨it, 0, none⟩)) false ty) H K := fun H0 w0 w hA => by
  have hh := iterO.heap hi hA.fits
  have hg := kmap.heap hm hA.fits
  have hgi : (getObj it).run P w = .ok (.mapIter (some mp) since seen last) w := by simp [getObj, Sem.run, hh]
  have hleft : ((tk.map entK).toArray.filter fun e => !seen.contains e.born) = ((unseenK tk seen).map entK).toArray := by
    unfold unseenK
    rw [List.filter_toArray, List.filter_map]
    rfl
  have hcond : (!seen.isEmpty && !(tk.map entK).toArray.isEmpty && (tk.map entK).toArray.all (fun e => decide (e.born ≥ last))) = false := by
    cases tk with
    | nil => simp
    | cons x l =>
      have := hlast x (by simp)
      have h2 : ¬ last ≤ x.2.2 := by omega
      simp [entK, h2]
  have hold' : (((unseenK tk seen).map entK).toArray.filter fun e => decide (e.born < since)) = ((unseenK tk seen).map entK).toArray := by
    rw [List.filter_toArray]
    congr 1
    rw [List.filter_eq_self]
    intro e he
    obtain ⟨x, hx, rfl⟩ := List.mem_map.1 he
    have := hold x (List.mem_filter.1 hx).1
    exact decide_eq_true this
  have hnew : (((unseenK tk seen).map entK).toArray.filter fun e => decide (e.born ≥ since)) = #[] := by
    rw [List.filter_toArray]
    congr 1
    rw [List.filter_eq_nil_iff]
    intro e he
    obtain ⟨x, hx, rfl⟩ := List.mem_map.1 he
    have := hold x (List.mem_filter.1 hx).1
    simp [entK]; omega
  simp only [Instr.next, Sem.run_bind, hgi, Result.andThen_ok, MapKept.run_getObj_map hg, hcond, Bool.false_eq_true, if_false, hleft, hold', hnew, Sem.run_pure]
  cases hU : unseenK tk seen with
  | nil =>
    obtain ⟨i, w', hi', hr, hA'⟩ := choose_next (P := P) hA 1 (by omega)
    obtain rfl : i = 0 := by omega
    refine ⟨_, H, w', ?_, k0 hU, hA'⟩
    rw [show ((if (List.map entK ([] : List (Int × Value × Nat))).toArray.isEmpty = true then #[none] else #[]) ++ Array.map some ((List.map entK ([] : List (Int × Value × Nat))).toArray ++ #[])) = (#[none] : Array (Option MapEntry)) by simp, show (#[none] : Array (Option MapEntry)).size = 1 from rfl, hr]
    rfl
  | cons x l =>
    obtain ⟨i, w', hi', hr, hA'⟩ := choose_next (P := P) hA (x :: l).length (by simp)
    have e : ((if (List.map entK (x :: l)).toArray.isEmpty = true then #[none] else #[]) ++ Array.map some ((List.map entK (x :: l)).toArray ++ #[])) = ((x :: l).map fun y => some (entK y)).toArray := by simp
    rw [e, show ((x :: l).map fun y => some (entK y)).toArray.size = (x :: l).length by simp, hr]
    have hy : (x :: l)[i] ∈ unseenK tk seen := by rw [hU]; exact List.getElem_mem hi'
    refine ⟨_, _, _, ?_, k1 _ hy, hA'.setIter hi _⟩
    simp only [Result.andThen_ok, List.getElem?_toArray, List.getElem?_map, List.getElem?_eq_getElem hi', Option.map_some, Sem.run_bind]
    have hh' := iterO.heap hi hA'.fits
    rw [show (setObj it (Obj.mapIter (some mp) since (seen.push (entK (x :: l)[i]).born) cl)).run P w' = .ok () { w' with heap := w'.heap.setIfInBounds it (Obj.mapIter (some mp) since (seen.push (entK (x :: l)[i]).born) cl) } by simp [setObj, Sem.run, hh']]
    rfl

theorem find_bornK : ∀ (tk : List (Int × Value × Nat)) (x : Int × Value × Nat), x ∈ tk → (tk.map (·.2.2)).Nodup → (tk.map entK).find? (fun e => e.born == x.2.2) = some (entK x)
  | [], x, h, _ => by simp at h
  | y :: l, x, h, hn => by
    simp only [List.map_cons, List.nodup_cons] at hn
    simp only [List.map_cons, List.find?_cons]
    rcases List.mem_cons.1 h with rfl | h
    · simp [entK]
    · have : ¬ (y.2.2 = x.2.2) := fun e => hn.1 (by rw [e]; exact List.mem_map_of_mem h)
      rw [show ((entK y).born == x.2.2) = false by simpa [entK] using this]
      exact find_bornK l x h hn.2

theorem entry_K {P : Program} {H : Hp} {it mp since cl : Nat} {seen : Array Nat} {tk : List (Int × Value × Nat)} (hi : H it = some (iterO mp since seen cl)) (hm : H mp = some (kmap tk cl)) {x : Int × Value × Nat} (hx : x ∈ tk) (hb : seen.back? = some x.2.2) (hn : (tk.map (·.2.2)).Nodup) {K : Value → Hp → Prop}
    (k : K (.tuple #[.int .i64 x.1, x.2.1]) H) : SemK P (Instr.entry (.pointer (some ⟨it, 0, none⟩))) H K := fun H0 w0 w hA => by
  have hh := iterO.heap hi hA.fits
  have hg := kmap.heap hm hA.fits
  have hgi : (getObj it).run P w = .ok (.mapIter (some mp) since seen cl) w := by simp [getObj, Sem.run, hh]
  refine ⟨_, H, w, ?_, k, hA⟩
  simp only [Instr.entry, Sem.run_bind, hgi, Result.andThen_ok, hb, MapKept.run_getObj_map hg, bne_self_eq_false, Bool.false_eq_true, if_false, List.find?_toArray, find_bornK tk x hx hn]
  rfl

theorem unseenK_lt {tk : List (Int × Value × Nat)} {seen : Array Nat} {x : Int × Value × Nat} (hx : x ∈ unseenK tk seen) : (unseenK tk (seen.push x.2.2)).length < (unseenK tk seen).length := by
  have e : unseenK tk (seen.push x.2.2) = (unseenK tk seen).filter fun y => y.2.2 != x.2.2 := by
    unfold unseenK
    rw [List.filter_filter]
    congr 1
    funext y
    rw [Array.contains_push]
    cases seen.contains y.2.2 <;> simp [bne]
  rw [e]
  have : ∀ l : List (Int × Value × Nat), x ∈ l → (l.filter fun y => y.2.2 != x.2.2).length < l.length := by
    intro l hl
    induction l with
    | nil => simp at hl
    | cons y l ih =>
      rcases List.mem_cons.1 hl with rfl | hl
      · rw [List.filter_cons_of_neg (by simp)]
        have := List.length_filter_le (fun y : Int × Value × Nat => y.2.2 != x.2.2) l
        simp only [List.length_cons]; omega
      · have := ih hl
        have := List.length_filter_le (fun y : Int × Value × Nat => y.2.2 != x.2.2) l
        rw [List.filter_cons]
        split <;> simp only [List.length_cons] <;> omega
  exact this _ hx

end Go.Hw

end
section
/-! HwW -/
/- The frame of the proofs: words as natural numbers. -/
set_option maxRecDepth 100000
set_option linter.unusedSimpArgs false
set_option linter.unusedVariables false
set_option linter.unnecessarySimpa false
set_option linter.unusedSectionVars false
namespace Go.Hw
open Go

theorem ofNat64 {x : Nat} (h : x < 2 ^ 64) : (BitVec.ofInt 64 (x : Int)).toNat = x := by
  rw [BitVec.ofInt_natCast, BitVec.toNat_ofNat, Nat.mod_eq_of_lt h]
theorem or_lt {x y n : Nat} (hx : x < 2 ^ n) (hy : y < 2 ^ n) : x ||| y < 2 ^ n := Nat.or_lt_two_pow hx hy
theorem orN {x y : Nat} (hx : x < 2 ^ 64) (hy : y < 2 ^ 64) : bOr .u64 (x : Int) (y : Int) = ((x ||| y : Nat) : Int) := by
  unfold bOr
  rw [show IntKind.u64.bits = 64 from rfl, BitVec.toNat_or, ofNat64 hx, ofNat64 hy]
  have := or_lt hx hy
  exact u64n (by omega)
theorem andN {x y : Nat} (hx : x < 2 ^ 64) (hy : y < 2 ^ 64) : bAnd .u64 (x : Int) (y : Int) = ((x &&& y : Nat) : Int) := by
  unfold bAnd
  rw [show IntKind.u64.bits = 64 from rfl, BitVec.toNat_and, ofNat64 hx, ofNat64 hy]
  have : x &&& y ≤ x := Nat.and_le_left
  exact u64n (by omega)
theorem shlN {x : Nat} {i : Int} {n : Nat} (h : i = n) (hn : n ≤ 64) : shlI .u64 (x : Int) i = ((x * 2 ^ n % 2 ^ 64 : Nat) : Int) := by
  subst h
  unfold shlI
  rw [Int.toNat_natCast, show IntKind.u64.bits = 64 from rfl, Nat.min_eq_left hn, u64mod, show ((2 : Int) ^ n) = ((2 ^ n : Nat) : Int) by simp, ← Int.natCast_mul]
  rfl
theorem shrN {k : IntKind} {a : Nat} {i : Int} {n : Nat} (h : i = n) (hn : n ≤ k.bits) : shrI k (a : Int) i = ((a / 2 ^ n : Nat) : Int) := by
  rw [shrNat a h hn, Nat.shiftRight_eq_div_pow]
theorem u64a {x : Nat} (y : Nat) : IntKind.u64.wrap ((x : Int) + (y : Int)) = (((x + y) % 2 ^ 64 : Nat) : Int) := by
  rw [u64mod, ← Int.natCast_add]; rfl
theorem u64m (x y : Nat) : IntKind.u64.wrap ((x : Int) * (y : Int)) = (((x * y) % 2 ^ 64 : Nat) : Int) := by
  rw [u64mod, ← Int.natCast_mul]; rfl

/-- A part of a slice. -/
theorem Cells.shift {H : Hp} {A : Option Addr} {vs : List Value} (h : Cells H A vs) {m l : Nat} (hm : vs.length ≤ m) : Cells H (slA A m l 1) (vs.drop l) := fun i v hi => by
  rw [List.getElem?_drop] at hi
  have hlt := (List.getElem?_eq_some_iff.1 hi).1
  unfold slA
  rw [if_neg (by omega)]
  obtain ⟨a, rfl, hc⟩ := h _ _ hi
  exact ⟨_, rfl, by rw [add_add, Nat.mul_one]; exact hc⟩
theorem Cells.take {H : Hp} {A : Option Addr} {vs : List Value} (h : Cells H A vs) (n : Nat) : Cells H A (vs.take n) := fun i v hi => by
  rw [List.getElem?_take] at hi
  split at hi
  · exact h i v hi
  · cases hi

/-- A number in bytes, the lowest first. -/
def leN : List UInt8 → Nat
  | [] => 0
  | b :: l => b.toNat + 256 * leN l

theorem leN_lt : ∀ l : List UInt8, leN l < 256 ^ l.length
  | [] => by simp [leN]
  | b :: l => by
    have h1 := leN_lt l
    have h2 : b.toNat < 256 := b.toNat_lt
    unfold leN
    rw [List.length_cons, Nat.pow_succ]
    have : 256 * leN l + 256 ≤ 256 ^ l.length * 256 := by
      have : leN l + 1 ≤ 256 ^ l.length := h1
      omega
    omega

theorem leN_drop {l : List UInt8} {j : Nat} (h : j < l.length) : leN (l.drop j) = l[j].toNat + 256 * leN (l.drop (j + 1)) := by
  rw [List.drop_eq_getElem_cons h]; rfl

theorem leN_lt8 {l : List UInt8} (h : l.length ≤ 8) : leN l < 2 ^ 64 := by
  have h1 := leN_lt l
  have h2 : 256 ^ l.length ≤ 256 ^ 8 := Nat.pow_le_pow_right (by omega) h
  rw [show (2 : Nat) ^ 64 = 256 ^ 8 by decide]
  omega

theorem leN_eq_iff : ∀ {a b : List UInt8}, a.length = b.length → (leN a = leN b ↔ a = b)
  | [], [], _ => by simp
  | x :: a, y :: b, h => by
    have ih := leN_eq_iff (a := a) (b := b) (by simpa using h)
    have h1 : x.toNat < 256 := x.toNat_lt
    have h2 : y.toNat < 256 := y.toNat_lt
    unfold leN
    constructor
    · intro e
      have e1 : x.toNat = y.toNat := by omega
      have e2 : leN a = leN b := by omega
      rw [ih.1 e2, UInt8.toNat_inj.1 e1]
    · intro e
      injection e with e1 e2
      rw [e1, e2]

/-- Bytes of a number: so many. -/
def bytesN : Nat → Nat → List UInt8
  | 0, _ => []
  | n + 1, x => UInt8.ofNat x :: bytesN n (x / 256)

theorem bytesN_length : ∀ n x, (bytesN n x).length = n
  | 0, _ => rfl
  | n + 1, x => by simp [bytesN, bytesN_length n]
theorem leN_bytesN : ∀ n x, leN (bytesN n x) = x % 256 ^ n
  | 0, x => by simp [bytesN, leN, Nat.mod_one]
  | n + 1, x => by
    unfold bytesN leN
    rw [leN_bytesN n, UInt8.toNat_ofNat', show (256 : Nat) ^ (n + 1) = 256 * 256 ^ n by rw [Nat.pow_succ, Nat.mul_comm], Nat.mod_mul]
theorem bytesN_leN : ∀ (l : List UInt8), bytesN l.length (leN l) = l
  | [] => rfl
  | b :: l => by
    have h : b.toNat < 256 := b.toNat_lt
    unfold leN
    rw [List.length_cons]
    unfold bytesN
    rw [show (b.toNat + 256 * leN l) / 256 = leN l by omega, bytesN_leN l]
    congr 1
    apply UInt8.toNat_inj.1
    rw [UInt8.toNat_ofNat']
    show (b.toNat + 256 * leN l) % 256 = b.toNat
    omega

theorem range_bytes (n : Nat) : ∀ x, (List.range n).map (fun k => UInt8.ofNat (x / 256 ^ k)) = bytesN n x := by
  induction n with
  | zero => intro x; rfl
  | succ n ih =>
    intro x
    rw [List.range_succ_eq_map]
    simp only [List.map_cons, List.map_map, Nat.pow_zero, Nat.div_one]
    unfold bytesN
    rw [← ih (x / 256)]
    congr 1
    apply List.map_congr_left
    intro k _
    simp only [Function.comp]
    rw [Nat.div_div_eq_div_mul, Nat.pow_succ, Nat.mul_comm]

end Go.Hw

end
section
/-! Wdisk -/
/- Formulas of functions, printed by wip/tools/hwp.py. -/
set_option maxRecDepth 100000
set_option linter.unusedVariables false
namespace Go.Proofs.YtghajiefpmcpmaaGreatDoor.W
open Go Go.Hw

theorem mixWdisk : Tryz.prog.follows .mixedOrders = true := by kernel_rfl
-- (*disk.counts).Count
def W_disk_counts_Count (p1 : Option Addr) (H : Hp) (K : Value → Hp → Prop) : Prop :=
  Nw H (.obj (.cells #[.int .i64 (0 : Int), .int .i64 (0 : Int), .int .i64 (0 : Int)] 43)) fun b1 H1 => NN p1 fun a1 => LdA H1 (a1.add 0) 3 fun l1 => StA H1 (⟨b1, 0, none⟩ : Addr) l1.toArray 3 fun H2 => LdA H2 (⟨b1, 0, none⟩ : Addr) 3 fun l2 => K (.agg l2.toArray) H2
def W_disk_counts_Count.Λ (_ : Value → Hp → Prop) : Cuts := Cuts.none (fun _ => none)
theorem W_disk_counts_Count.ok (p1 : Option Addr) (H : Hp) (K : Value → Hp → Prop) (h : W_disk_counts_Count p1 H K) : HCalls Tryz.prog 21 #[.pointer p1] H K :=
  hcalls Tryz.func21 rfl (Nat.le_of_ble_eq_true rfl) (hw_safe (Λ := Cuts.none (fun _ => none)) mixWdisk _ _ _ _ _ (Eq.mp (by kernel_rfl) h) (obs_none _ _ _ _ _))

-- disk.New
def W_disk_New (x1 : Int) (x2 : Int) (H : Hp) (K : Value → Hp → Prop) : Prop :=
  BIf (decide (x1 < (1 : Int))) (K (.pointer none) H) (BIf (decide (x1 > (1048576 : Int))) (K (.pointer none) H) (BIf (decide (x2 < (32 : Int))) (K (.pointer none) H) (BIf (decide (x2 > (4096 : Int))) (K (.pointer none) H) (BIf ((bAnd .i64 x2 (IntKind.i64.wrap (x2 - (1 : Int)))) != (0 : Int)) (K (.pointer none) H) ((x2 ≠ 0 ∧ IntKind.i64 = IntKind.i64 ∧ BIf (decide (x1 > (IntKind.i64.wrap (Int.tdiv (67108864 : Int) x2)))) (K (.pointer none) H) (Nw H (.obj (.map #[] 0)) fun b1 H1 => Nw H1 (.obj (.map #[] 0)) fun b2 H2 => Nw H2 (.obj (.map #[] 0)) fun b3 H3 => Nw H3 (.obj (.cells #[.int .i64 x1, .int .i64 x2, .map (some b1), .int .i64 (0 : Int), .int .i64 (0 : Int), .int .i64 (0 : Int), .map (some b2), .bool false, .int .i64 (0 : Int), .map (some b3)] 54)) fun b4 H4 => K (.pointer (some (⟨b4, 0, none⟩ : Addr))) H4)))))))
def W_disk_New.Λ (_ : Value → Hp → Prop) : Cuts := Cuts.none (fun _ => none)
theorem W_disk_New.ok (x1 : Int) (x2 : Int) (H : Hp) (K : Value → Hp → Prop) (h : W_disk_New x1 x2 H K) : HCalls Tryz.prog 31 #[.int .i64 x1, .int .i64 x2] H K :=
  hcalls Tryz.func31 rfl (Nat.le_of_ble_eq_true rfl) (hw_safe (Λ := Cuts.none (fun _ => none)) mixWdisk _ _ _ _ _ (Eq.mp (by kernel_rfl) h) (obs_none _ _ _ _ _))

-- (*disk.power).Fuse
def W_disk_power_Fuse (p1 : Option Addr) (x1 : Int) (H : Hp) (K : Value → Hp → Prop) : Prop :=
  NN p1 fun a1 => St H ((a1.add 1).add 0) (.int .i64 (if (0 : Int) > x1 then (0 : Int) else x1)) fun H1 => K (.tuple #[]) H1
def W_disk_power_Fuse.Λ (_ : Value → Hp → Prop) : Cuts := Cuts.none (fun _ => none)
theorem W_disk_power_Fuse.ok (p1 : Option Addr) (x1 : Int) (H : Hp) (K : Value → Hp → Prop) (h : W_disk_power_Fuse p1 x1 H K) : HCalls Tryz.prog 33 #[.pointer p1, .int .i64 x1] H K :=
  hcalls Tryz.func33 rfl (Nat.le_of_ble_eq_true rfl) (hw_safe (Λ := Cuts.none (fun _ => none)) mixWdisk _ _ _ _ _ (Eq.mp (by kernel_rfl) h) (obs_none _ _ _ _ _))

-- (*disk.power).Down
def W_disk_power_Down (p1 : Option Addr) (H : Hp) (K : Value → Hp → Prop) : Prop :=
  NN p1 fun a1 => Ld H (a1.add 0) fun v1 => DB v1 fun c1 => K (.bool c1) H
def W_disk_power_Down.Λ (_ : Value → Hp → Prop) : Cuts := Cuts.none (fun _ => none)
theorem W_disk_power_Down.ok (p1 : Option Addr) (H : Hp) (K : Value → Hp → Prop) (h : W_disk_power_Down p1 H K) : HCalls Tryz.prog 35 #[.pointer p1] H K :=
  hcalls Tryz.func35 rfl (Nat.le_of_ble_eq_true rfl) (hw_safe (Λ := Cuts.none (fun _ => none)) mixWdisk _ _ _ _ _ (Eq.mp (by kernel_rfl) h) (obs_none _ _ _ _ _))

-- (*disk.power).Crash
def W_disk_power_Crash (p1 : Option Addr) (H : Hp) (K : Value → Hp → Prop) : Prop :=
  NN p1 fun a1 => St H ((a1.add 0).add 0) (.bool true) fun H1 => NN p1 fun a2 => St H1 ((a2.add 1).add 0) (.int .i64 (0 : Int)) fun H2 => K (.tuple #[]) H2
def W_disk_power_Crash.Λ (_ : Value → Hp → Prop) : Cuts := Cuts.none (fun _ => none)
theorem W_disk_power_Crash.ok (p1 : Option Addr) (H : Hp) (K : Value → Hp → Prop) (h : W_disk_power_Crash p1 H K) : HCalls Tryz.prog 36 #[.pointer p1] H K :=
  hcalls Tryz.func36 rfl (Nat.le_of_ble_eq_true rfl) (hw_safe (Λ := Cuts.none (fun _ => none)) mixWdisk _ _ _ _ _ (Eq.mp (by kernel_rfl) h) (obs_none _ _ _ _ _))

-- (*disk.Disk).Boot
def W_disk_Disk_Boot.l4 (K : Value → Hp → Prop) : Nat → Option Addr → Option Addr → Nat → Nat → Option Addr → Nat → Nat → Int → Int → Hp → Prop
  | 0, _, _, _, _, _, _, _, _, _, _ => False
  | k + 1, p2, A3, n3, m3, A4, n4, m4, x1, x2, H =>
    let R4 := W_disk_Disk_Boot.l4 K k
    BIf (decide (x2 < x1)) (ixI x2 n4 (NN A4 fun a2 => Ld H (a2.add (x2.toNat * 1)) fun v3 => DI .i64 v3 fun x3 => BIf (decide (x2 < ((n3 : Nat) : Int))) (ixI x2 n3 (NN A3 fun a3 => Ld H (a3.add (x2.toNat * 1)) fun v4 => DB v4 fun c2 => BIf c2 (NN p2 fun a4 => Ld H ((a4.add 0).add 2) fun v5 => DM v5 fun r1 => NN p2 fun a5 => Ld H (a5.add 9) fun v6 => DM v6 fun r2 => SemV Tryz.prog (Instr.lookup 45 (.map r2) (.int .i64 x3) false) H fun v7 => DS v7 fun s1 => SemK Tryz.prog (Instr.mapUpdate 45 (.map r1) (.int .i64 x3) (.string s1)) H fun _ H2 => R4 p2 A3 n3 m3 A4 n4 m4 x1 (IntKind.i64.wrap (x2 + (1 : Int))) H2) (R4 p2 A3 n3 m3 A4 n4 m4 x1 (IntKind.i64.wrap (x2 + (1 : Int))) H))) (R4 p2 A3 n3 m3 A4 n4 m4 x1 (IntKind.i64.wrap (x2 + (1 : Int))) H))) (NN p2 fun a6 => Ld H (a6.add 9) fun v8 => DM v8 fun r3 => SemK Tryz.prog (Builtin.clear_ #[45] 0 #[.map r3]) H fun v9 H3 => NN p2 fun a7 => St H3 (((a7.add 7).add 0).add 0) (.bool false) fun H4 => K (.int .i64 (0 : Int)) H4)
def W_disk_Disk_Boot (p1 : Option Addr) (A1 : Option Addr) (n1 : Nat) (m1 : Nat) (H : Hp) (K : Value → Hp → Prop) : Prop :=
  NN p1 fun a1 => Ld H ((a1.add 7).add 0) fun v1 => DB v1 fun c1 => BIf (!c1) (K (.int .i64 (5 : Int)) H) (HCalls Tryz.prog 46 #[.pointer p1] H fun v2 H1 => DSl v2 fun A2 n2 m2 => (∃ k, W_disk_Disk_Boot.l4 K k p1 A1 n1 m1 A2 n2 m2 ((n2 : Nat) : Int) (0 : Int) H1))
def W_disk_Disk_Boot.l4.L (K : Value → Hp → Prop) (k : Nat) : Mid := fun E D H =>
  DG (E.get? 0) fun w0 => DP w0 fun p2 => DG (E.get? 1) fun w1 => DSl w1 fun A3 n3 m3 => DG (E.get? 14) fun w14 => DSl w14 fun A4 n4 m4 => DG (E.get? 15) fun w15 => DI .i64 w15 fun x1 => DG (E.get? 16) fun w16 => DI .i64 w16 fun x2 => DNilD D (W_disk_Disk_Boot.l4 K k p2 A3 n3 m3 A4 n4 m4 x1 x2 H)
def W_disk_Disk_Boot.Λ4 (_ : Value → Hp → Prop) (_R4 : Option Addr → Option Addr → Nat → Nat → Option Addr → Nat → Nat → Int → Int → Hp → Prop) : Cuts := Cuts.none (fun i => match Nat.beq i 7 with | true => some ([], [0, 1, 2, 3, 4, 5, 6, 7, 8, 9, 10, 11], 12) | false => none)
def W_disk_Disk_Boot.Λ (K : Value → Hp → Prop) : Cuts := ⟨fun i => none, fun i => match Nat.beq i 4 with | true => some (fun E D H => ∃ k, W_disk_Disk_Boot.l4.L K k E D H) | false => none, (fun i => match Nat.beq i 7 with | true => some ([], [0, 1, 2, 3, 4, 5, 6, 7, 8, 9, 10, 11], 12) | false => none)⟩
theorem W_disk_Disk_Boot.ok (p1 : Option Addr) (A1 : Option Addr) (n1 : Nat) (m1 : Nat) (H : Hp) (K : Value → Hp → Prop) (h : W_disk_Disk_Boot p1 A1 n1 m1 H K) : HCalls Tryz.prog 37 #[.pointer p1, .slice A1 n1 m1] H K :=
  hcalls Tryz.func37 rfl (Nat.le_of_ble_eq_true rfl) (hw_safe (Λ := (W_disk_Disk_Boot.Λ K)) mixWdisk _ _ _ _ _ (Eq.mp (by kernel_rfl) h) (obs_seq obs_region rfl (obs_seq (obs_seq obs_region rfl (obs_cond (obs_seq obs_region rfl obs_ret) obs_skip)) rfl (obs_seq (obs_seq obs_region rfl (obs_block (obs_loop rfl (fun E D H h => by
      refine Safe.loop' (W_disk_Disk_Boot.l4.L K) (fun E D H h => ?_) (fun k E D H h => ?_) E D H h
      · obtain ⟨w0, e0, g1⟩ := DG.out h; obtain ⟨p2, rfl, g2⟩ := DP.out g1; obtain ⟨w1, e1, g3⟩ := DG.out g2; obtain ⟨A3, n3, m3, rfl, g4⟩ := DSl.out g3; obtain ⟨w14, e14, g5⟩ := DG.out g4; obtain ⟨A4, n4, m4, rfl, g6⟩ := DSl.out g5; obtain ⟨w15, e15, g7⟩ := DG.out g6; obtain ⟨x1, rfl, g8⟩ := DI.out g7; obtain ⟨w16, e16, g9⟩ := DG.out g8; obtain ⟨x2, rfl, g10⟩ := DI.out g9; obtain ⟨rfl, h'⟩ := DNilD.out g10; exact h'
      · obtain ⟨w0, e0, g1⟩ := DG.out h
        obtain ⟨p2, rfl, g2⟩ := DP.out g1
        obtain ⟨w1, e1, g3⟩ := DG.out g2
        obtain ⟨A3, n3, m3, rfl, g4⟩ := DSl.out g3
        obtain ⟨w14, e14, g5⟩ := DG.out g4
        obtain ⟨A4, n4, m4, rfl, g6⟩ := DSl.out g5
        obtain ⟨w15, e15, g7⟩ := DG.out g6
        obtain ⟨x1, rfl, g8⟩ := DI.out g7
        obtain ⟨w16, e16, g9⟩ := DG.out g8
        obtain ⟨x2, rfl, g10⟩ := DI.out g9
        obtain ⟨rfl, h'⟩ := DNilD.out g10
        exact (hw_safe (Λ := (W_disk_Disk_Boot.Λ4 K (W_disk_Disk_Boot.l4 K k))) mixWdisk _ _ [(0, .pointer p2), (1, .slice A3 n3 m3), (14, .slice A4 n4 m4), (15, .int .i64 x1), (16, .int .i64 x2)] [] H (Eq.mp (by kernel_rfl) h') (obs_seq obs_region rfl (obs_seq (obs_cond obs_skip obs_exit) rfl (obs_seq (obs_block (obs_seq obs_region rfl (obs_seq obs_region rfl (obs_cond obs_region obs_skip)))) rfl obs_region)))).weaken (EnvLe.cons e0 (EnvLe.cons e1 (EnvLe.cons e14 (EnvLe.cons e15 (EnvLe.cons e16 (EnvLe.nil _)))))) (Hp.le_refl _))))) rfl (obs_seq obs_region rfl (obs_seq obs_region rfl (obs_seq obs_region rfl obs_ret)))))))

-- (*disk.Disk).Dirty
def W_disk_Disk_Dirty (p1 : Option Addr) (H : Hp) (K : Value → Hp → Prop) : Prop :=
  NN p1 fun a1 => Ld H (a1.add 9) fun v1 => DM v1 fun r1 => HCalls Tryz.prog 124 #[.map r1] H fun v2 H1 => HCalls Tryz.prog 123 #[v2] H1 fun v3 H2 => DSl v3 fun A1 n1 m1 => K (.slice A1 n1 m1) H2
def W_disk_Disk_Dirty.Λ (_ : Value → Hp → Prop) : Cuts := Cuts.none (fun _ => none)
theorem W_disk_Disk_Dirty.ok (p1 : Option Addr) (H : Hp) (K : Value → Hp → Prop) (h : W_disk_Disk_Dirty p1 H K) : HCalls Tryz.prog 46 #[.pointer p1] H K :=
  hcalls Tryz.func46 rfl (Nat.le_of_ble_eq_true rfl) (hw_safe (Λ := Cuts.none (fun _ => none)) mixWdisk _ _ _ _ _ (Eq.mp (by kernel_rfl) h) (obs_none _ _ _ _ _))

-- (*disk.Disk).Write
def W_disk_Disk_Write (p1 : Option Addr) (x1 : Int) (A1 : Option Addr) (n1 : Nat) (m1 : Nat) (H : Hp) (K : Value → Hp → Prop) : Prop :=
  HCalls Tryz.prog 125 #[.pointer p1, .int .i64 x1] H fun v1 H1 => DI .i64 v1 fun x2 => BIf (x2 != (0 : Int)) (K (.int .i64 x2) H1) (NN p1 fun a1 => Ld H1 ((a1.add 0).add 1) fun v2 => DI .i64 v2 fun x3 => BIf (((n1 : Nat) : Int) != x3) (K (.int .i64 (19 : Int)) H1) (NN p1 fun a2 => HCalls Tryz.prog 126 #[.pointer (some (a2.add 7))] H1 fun v3 H2 => DB v3 fun c1 => BIf c1 (K (.int .i64 (8 : Int)) H2) (NN p1 fun a3 => Ld H2 (((a3.add 3).add 0).add 1) fun v4 => DI .i64 v4 fun x4 => NN p1 fun a4 => St H2 ((((a4.add 3).add 0).add 1).add 0) (.int .i64 (IntKind.i64.wrap (x4 + (1 : Int)))) fun H3 => NN p1 fun a5 => Ld H3 ((a5.add 3).add 3) fun v5 => DM v5 fun r1 => SemK Tryz.prog (Instr.mapUpdate 48 (.map r1) (.int .i64 x1) (.int .i64 (1 : Int))) H3 fun _ H4 => NN p1 fun a6 => Ld H4 (a6.add 9) fun v6 => DM v6 fun r2 => BsK H4 A1 n1 fun s1 => SemK Tryz.prog (Instr.mapUpdate 45 (.map r2) (.int .i64 x1) (.string s1)) H4 fun _ H5 => K (.int .i64 (0 : Int)) H5)))
def W_disk_Disk_Write.Λ (_ : Value → Hp → Prop) : Cuts := Cuts.none (fun i => match Nat.beq i 10 with | true => some ([], [0, 1, 2, 3, 4, 5, 6], 7) | false => none)
theorem W_disk_Disk_Write.ok (p1 : Option Addr) (x1 : Int) (A1 : Option Addr) (n1 : Nat) (m1 : Nat) (H : Hp) (K : Value → Hp → Prop) (h : W_disk_Disk_Write p1 x1 A1 n1 m1 H K) : HCalls Tryz.prog 48 #[.pointer p1, .int .i64 x1, .slice A1 n1 m1] H K :=
  hcalls Tryz.func48 rfl (Nat.le_of_ble_eq_true rfl) (hw_safe (Λ := Cuts.none (fun i => match Nat.beq i 10 with | true => some ([], [0, 1, 2, 3, 4, 5, 6], 7) | false => none)) mixWdisk _ _ _ _ _ (Eq.mp (by kernel_rfl) h) (obs_none _ _ _ _ _))

-- (*disk.plates).Sectors
def W_disk_plates_Sectors (p1 : Option Addr) (H : Hp) (K : Value → Hp → Prop) : Prop :=
  NN p1 fun a1 => Ld H (a1.add 0) fun v1 => DI .i64 v1 fun x1 => K (.int .i64 x1) H
def W_disk_plates_Sectors.Λ (_ : Value → Hp → Prop) : Cuts := Cuts.none (fun _ => none)
theorem W_disk_plates_Sectors.ok (p1 : Option Addr) (H : Hp) (K : Value → Hp → Prop) (h : W_disk_plates_Sectors p1 H K) : HCalls Tryz.prog 99 #[.pointer p1] H K :=
  hcalls Tryz.func99 rfl (Nat.le_of_ble_eq_true rfl) (hw_safe (Λ := Cuts.none (fun _ => none)) mixWdisk _ _ _ _ _ (Eq.mp (by kernel_rfl) h) (obs_none _ _ _ _ _))

-- (*disk.Disk).Sync
def W_disk_Disk_Sync (p1 : Option Addr) (H : Hp) (K : Value → Hp → Prop) : Prop :=
  NN p1 fun a1 => Ld H ((a1.add 7).add 0) fun v1 => DB v1 fun c1 => BIf c1 (K (.int .i64 (8 : Int)) H) (NN p1 fun a2 => HCalls Tryz.prog 126 #[.pointer (some (a2.add 7))] H fun v2 H1 => DB v2 fun c2 => BIf c2 (K (.int .i64 (8 : Int)) H1) (NN p1 fun a3 => Ld H1 (((a3.add 3).add 0).add 2) fun v3 => DI .i64 v3 fun x1 => NN p1 fun a4 => St H1 ((((a4.add 3).add 0).add 2).add 0) (.int .i64 (IntKind.i64.wrap (x1 + (1 : Int)))) fun H2 => NN p1 fun a5 => Ld H2 ((a5.add 0).add 2) fun v4 => DM v4 fun r1 => NN p1 fun a6 => Ld H2 (a6.add 9) fun v5 => DM v5 fun r2 => HCalls Tryz.prog 176 #[.map r1, .map r2] H2 fun v6 H3 => NN p1 fun a7 => Ld H3 (a7.add 9) fun v7 => DM v7 fun r3 => SemK Tryz.prog (Builtin.clear_ #[45] 0 #[.map r3]) H3 fun v8 H4 => K (.int .i64 (0 : Int)) H4))
def W_disk_Disk_Sync.Λ (_ : Value → Hp → Prop) : Cuts := Cuts.none (fun i => match Nat.beq i 4 with | true => some ([], [0, 1, 2, 3, 4, 5, 6, 7, 8], 9) | false => none)
theorem W_disk_Disk_Sync.ok (p1 : Option Addr) (H : Hp) (K : Value → Hp → Prop) (h : W_disk_Disk_Sync p1 H K) : HCalls Tryz.prog 102 #[.pointer p1] H K :=
  hcalls Tryz.func102 rfl (Nat.le_of_ble_eq_true rfl) (hw_safe (Λ := Cuts.none (fun i => match Nat.beq i 4 with | true => some ([], [0, 1, 2, 3, 4, 5, 6, 7, 8], 9) | false => none)) mixWdisk _ _ _ _ _ (Eq.mp (by kernel_rfl) h) (obs_none _ _ _ _ _))

-- (*disk.plates).Size
def W_disk_plates_Size (p1 : Option Addr) (H : Hp) (K : Value → Hp → Prop) : Prop :=
  NN p1 fun a1 => Ld H (a1.add 1) fun v1 => DI .i64 v1 fun x1 => K (.int .i64 x1) H
def W_disk_plates_Size.Λ (_ : Value → Hp → Prop) : Cuts := Cuts.none (fun _ => none)
theorem W_disk_plates_Size.ok (p1 : Option Addr) (H : Hp) (K : Value → Hp → Prop) (h : W_disk_plates_Size p1 H K) : HCalls Tryz.prog 118 #[.pointer p1] H K :=
  hcalls Tryz.func118 rfl (Nat.le_of_ble_eq_true rfl) (hw_safe (Λ := Cuts.none (fun _ => none)) mixWdisk _ _ _ _ _ (Eq.mp (by kernel_rfl) h) (obs_none _ _ _ _ _))

-- (*disk.Disk).Read
def W_disk_Disk_Read (p1 : Option Addr) (x1 : Int) (H : Hp) (K : Value → Hp → Prop) : Prop :=
  HCalls Tryz.prog 125 #[.pointer p1, .int .i64 x1] H fun v1 H1 => DI .i64 v1 fun x2 => BIf (x2 != (0 : Int)) (K (.tuple #[.slice none 0 0, .int .i64 x2]) H1) (NN p1 fun a1 => HCalls Tryz.prog 126 #[.pointer (some (a1.add 7))] H1 fun v2 H2 => DB v2 fun c1 => BIf c1 (K (.tuple #[.slice none 0 0, .int .i64 (8 : Int)]) H2) (NN p1 fun a2 => Ld H2 (((a2.add 3).add 0).add 0) fun v3 => DI .i64 v3 fun x3 => NN p1 fun a3 => St H2 ((((a3.add 3).add 0).add 0).add 0) (.int .i64 (IntKind.i64.wrap (x3 + (1 : Int)))) fun H3 => NN p1 fun a4 => Ld H3 (a4.add 9) fun v4 => DM v4 fun r1 => SemV Tryz.prog (Instr.lookup 45 (.map r1) (.int .i64 x1) true) H3 fun v5 => DTup v5 fun l1 => DCons l1 fun v6 l2 => DS v6 fun s1 => DCons l2 fun v7 l3 => DB v7 fun c2 => DNil l3 (BIf c2 (StB 5 s1 H3 fun v8 H4 => DSl v8 fun A1 n1 m1 => K (.tuple #[.slice A1 n1 m1, .int .i64 (0 : Int)]) H4) (NN p1 fun a5 => HCalls Tryz.prog 203 #[.pointer (some (a5.add 0)), .int .i64 x1] H3 fun v9 H5 => DSl v9 fun A2 n2 m2 => K (.tuple #[.slice A2 n2 m2, .int .i64 (0 : Int)]) H5))))
def W_disk_Disk_Read.Λ (_ : Value → Hp → Prop) : Cuts := Cuts.none (fun _ => none)
theorem W_disk_Disk_Read.ok (p1 : Option Addr) (x1 : Int) (H : Hp) (K : Value → Hp → Prop) (h : W_disk_Disk_Read p1 x1 H K) : HCalls Tryz.prog 122 #[.pointer p1, .int .i64 x1] H K :=
  hcalls Tryz.func122 rfl (Nat.le_of_ble_eq_true rfl) (hw_safe (Λ := Cuts.none (fun _ => none)) mixWdisk _ _ _ _ _ (Eq.mp (by kernel_rfl) h) (obs_none _ _ _ _ _))

-- (*disk.Disk).check
def W_disk_Disk_check (p1 : Option Addr) (x1 : Int) (H : Hp) (K : Value → Hp → Prop) : Prop :=
  NN p1 fun a1 => Ld H ((a1.add 7).add 0) fun v1 => DB v1 fun c1 => BIf c1 (K (.int .i64 (8 : Int)) H) (BIf (decide (x1 < (0 : Int))) (K (.int .i64 (2 : Int)) H) (NN p1 fun a2 => Ld H ((a2.add 0).add 0) fun v2 => DI .i64 v2 fun x2 => BIf (decide (x1 ≥ x2)) (K (.int .i64 (2 : Int)) H) (K (.int .i64 (0 : Int)) H)))
def W_disk_Disk_check.Λ (_ : Value → Hp → Prop) : Cuts := Cuts.none (fun _ => none)
theorem W_disk_Disk_check.ok (p1 : Option Addr) (x1 : Int) (H : Hp) (K : Value → Hp → Prop) (h : W_disk_Disk_check p1 x1 H K) : HCalls Tryz.prog 125 #[.pointer p1, .int .i64 x1] H K :=
  hcalls Tryz.func125 rfl (Nat.le_of_ble_eq_true rfl) (hw_safe (Λ := Cuts.none (fun _ => none)) mixWdisk _ _ _ _ _ (Eq.mp (by kernel_rfl) h) (obs_none _ _ _ _ _))

-- (*disk.power).burns
def W_disk_power_burns (p1 : Option Addr) (H : Hp) (K : Value → Hp → Prop) : Prop :=
  NN p1 fun a1 => Ld H (a1.add 1) fun v1 => DI .i64 v1 fun x1 => BIf (x1 == (0 : Int)) (K (.bool false) H) (NN p1 fun a2 => Ld H (a2.add 1) fun v2 => DI .i64 v2 fun x2 => NN p1 fun a3 => St H ((a3.add 1).add 0) (.int .i64 (IntKind.i64.wrap (x2 - (1 : Int)))) fun H1 => NN p1 fun a4 => Ld H1 (a4.add 1) fun v3 => DI .i64 v3 fun x3 => NN p1 fun a5 => St H1 ((a5.add 0).add 0) (.bool (x3 == (0 : Int))) fun H2 => NN p1 fun a6 => Ld H2 (a6.add 0) fun v4 => DB v4 fun c1 => K (.bool c1) H2)
def W_disk_power_burns.Λ (_ : Value → Hp → Prop) : Cuts := Cuts.none (fun _ => none)
theorem W_disk_power_burns.ok (p1 : Option Addr) (H : Hp) (K : Value → Hp → Prop) (h : W_disk_power_burns p1 H K) : HCalls Tryz.prog 126 #[.pointer p1] H K :=
  hcalls Tryz.func126 rfl (Nat.le_of_ble_eq_true rfl) (hw_safe (Λ := Cuts.none (fun _ => none)) mixWdisk _ _ _ _ _ (Eq.mp (by kernel_rfl) h) (obs_none _ _ _ _ _))

-- (*disk.plates).get
def W_disk_plates_get (p1 : Option Addr) (x1 : Int) (H : Hp) (K : Value → Hp → Prop) : Prop :=
  NN p1 fun a1 => Ld H (a1.add 1) fun v1 => DI .i64 v1 fun x2 => MkS Tryz.prog 5 x2 x2 H fun v2 H1 => DSl v2 fun A1 n1 m1 => NN p1 fun a2 => Ld H1 (a2.add 2) fun v3 => DM v3 fun r1 => SemV Tryz.prog (Instr.lookup 45 (.map r1) (.int .i64 x1) false) H1 fun v4 => DS v4 fun s1 => CpK Tryz.prog 5 (.slice A1 n1 m1) (.string s1) H1 fun v5 H2 => DI .i64 v5 fun x3 => K (.slice A1 n1 m1) H2
def W_disk_plates_get.Λ (_ : Value → Hp → Prop) : Cuts := Cuts.none (fun _ => none)
theorem W_disk_plates_get.ok (p1 : Option Addr) (x1 : Int) (H : Hp) (K : Value → Hp → Prop) (h : W_disk_plates_get p1 x1 H K) : HCalls Tryz.prog 203 #[.pointer p1, .int .i64 x1] H K :=
  hcalls Tryz.func203 rfl (Nat.le_of_ble_eq_true rfl) (hw_safe (Λ := Cuts.none (fun _ => none)) mixWdisk _ _ _ _ _ (Eq.mp (by kernel_rfl) h) (obs_none _ _ _ _ _))

end Go.Proofs.YtghajiefpmcpmaaGreatDoor.W

end
section
/-! DskA -/
/- A disk as a part of memory: contracts of its functions. -/
set_option maxRecDepth 100000
set_option linter.unusedSimpArgs false
set_option linter.unusedVariables false
set_option linter.unnecessarySimpa false
set_option linter.unusedSectionVars false
namespace Go.Proofs.YtghajiefpmcpmaaGreatDoor.Dsk
open Go Go.Hw Go.Proofs.YtghajiefpmcpmaaGreatDoor.W

/-- What a disk is. -/
structure D where
  sec : Nat
  size : Nat
  safe : Int → Option (List UInt8)
  cache : Int → Option (List UInt8)
  tch : Int → Bool
  rd : Nat
  wr : Nat
  sy : Nat
  down : Bool
  fuse : Nat

def strV (l : List UInt8) : Value := .string ⟨l.toArray⟩
def strM (m : Int → Option (List UInt8)) : Int → Option Value := fun k => (m k).map strV
def tchM (m : Int → Bool) : Int → Option Value := fun k => if m k then some (.int .i64 1) else none
def dskO (d : D) (r1 r2 r3 : Nat) : AO := .obj (.cells #[.int .i64 d.sec, .int .i64 d.size, .map (some r1), .int .i64 d.rd, .int .i64 d.wr, .int .i64 d.sy, .map (some r2), .bool d.down, .int .i64 d.fuse, .map (some r3)] 54)

structure Ok (d : D) : Prop where
  sec : 1 ≤ d.sec ∧ d.sec ≤ 1048576
  size : 32 ≤ d.size ∧ d.size ≤ 4096
  big : d.sec * d.size ≤ 67108864
  per : d.size % 8 = 0
  safe : ∀ k b, d.safe k = some b → b.length = d.size
  cache : ∀ k b, d.cache k = some b → b.length = d.size
  fz : d.fuse ≤ 9223372036854775807

/-- A disk in memory. -/
def Dk (p : Nat) (d : D) : As := fun H => ∃ r1 r2 r3, Sep [pts p (dskO d r1 r2 r3), Mp r1 (strM d.safe), Mp r2 (tchM d.tch), Mp r3 (strM d.cache)] H

theorem Dk.up {p : Nat} {d : D} {H H' : Hp} (h : Dk p d H) (k : H.le H') : Dk p d H' := by
  obtain ⟨r1, r2, r3, h⟩ := h
  exact ⟨r1, r2, r3, h.up k⟩

theorem Sep.fold {M L : List As} {A : As} {H : Hp} (h : Sep (M ++ L) H) (k : ∀ H1, Sep M H1 → A H1) : Sep (A :: L) H := by
  obtain ⟨H1, H2, h1, h2, h3, h4, h5⟩ := h.append
  exact ⟨H1, H2, h1, h2, h3, k H1 h4, h5⟩

/-- A disk, opened. -/
theorem Dk.open {p : Nat} {d : D} {L : List As} {H : Hp} (h : Sep (Dk p d :: L) H) : ∃ r1 r2 r3, Sep (pts p (dskO d r1 r2 r3) :: Mp r1 (strM d.safe) :: Mp r2 (tchM d.tch) :: Mp r3 (strM d.cache) :: L) H := by
  obtain ⟨H1, H2, h1, h2, h3, ⟨r1, r2, r3, h4⟩, h5⟩ := h
  exact ⟨r1, r2, r3, Sep.join h1 h2 h3 h4 h5⟩
theorem Dk.shut {p : Nat} {d : D} {r1 r2 r3 : Nat} {L : List As} {H : Hp} (h : Sep (pts p (dskO d r1 r2 r3) :: Mp r1 (strM d.safe) :: Mp r2 (tchM d.tch) :: Mp r3 (strM d.cache) :: L) H) : Sep (Dk p d :: L) H :=
  Sep.fold (M := [pts p (dskO d r1 r2 r3), Mp r1 (strM d.safe), Mp r2 (tchM d.tch), Mp r3 (strM d.cache)]) h fun H1 h1 => ⟨r1, r2, r3, h1⟩

theorem Dk.see {p : Nat} {d : D} {L : List As} {H : Hp} (h : Sep L H) (i : Nat) (hi : L[i]? = some (Dk p d)) : ∃ r1 r2 r3, H p = some (dskO d r1 r2 r3) := by
  obtain ⟨H1, ⟨r1, r2, r3, h1⟩, hle⟩ := h.see i hi
  exact ⟨r1, r2, r3, hle _ _ (h1.get 0 rfl)⟩

section
variable {L : List As} {H : Hp} {p : Nat} {d : D}
theorem Sectors_s (h : Sep L H) (i : Nat) (hi : L[i]? = some (Dk p d)) : HCalls Tryz.prog 99 #[.pointer (some ⟨p, 0, none⟩)] H (RetE (.int .i64 (d.sec : Int)) H) := by
  obtain ⟨r1, r2, r3, hd⟩ := Dk.see h i hi
  apply W_disk_plates_Sectors.ok
  unfold W_disk_plates_Sectors
  simp only [NN_some, Addr.add_lit', Addr.add_zero, Nat.zero_add, Nat.add_zero]
  refine Ld_obj hd (v := .int .i64 d.sec) rfl ?_
  simp only [DI_int', DB_bool, DS_string, DP_pointer, DSl_slice, DM_map, DA_agg, DTup_tuple, DCons_cons, DNil_nil, NN_some, BIf_true, BIf_false, BIf_same, List.toList_toArray, Bool.not_true, Bool.not_false]
  exact RetE.mk _ _
theorem Size_s (h : Sep L H) (i : Nat) (hi : L[i]? = some (Dk p d)) : HCalls Tryz.prog 118 #[.pointer (some ⟨p, 0, none⟩)] H (RetE (.int .i64 (d.size : Int)) H) := by
  obtain ⟨r1, r2, r3, hd⟩ := Dk.see h i hi
  apply W_disk_plates_Size.ok
  unfold W_disk_plates_Size
  simp only [NN_some, Addr.add_lit', Addr.add_zero, Nat.zero_add, Nat.add_zero]
  refine Ld_obj hd (v := .int .i64 d.size) rfl ?_
  simp only [DI_int', DB_bool, DS_string, DP_pointer, DSl_slice, DM_map, DA_agg, DTup_tuple, DCons_cons, DNil_nil, NN_some, BIf_true, BIf_false, BIf_same, List.toList_toArray, Bool.not_true, Bool.not_false]
  exact RetE.mk _ _
theorem Down_s (h : Sep L H) (i : Nat) (hi : L[i]? = some (Dk p d)) : HCalls Tryz.prog 35 #[.pointer (some ⟨p, 7, none⟩)] H (RetE (.bool d.down) H) := by
  obtain ⟨r1, r2, r3, hd⟩ := Dk.see h i hi
  apply W_disk_power_Down.ok
  unfold W_disk_power_Down
  simp only [NN_some, Addr.add_lit', Addr.add_zero, Nat.zero_add, Nat.add_zero]
  refine Ld_obj hd (v := .bool d.down) rfl ?_
  simp only [DI_int', DB_bool, DS_string, DP_pointer, DSl_slice, DM_map, DA_agg, DTup_tuple, DCons_cons, DNil_nil, NN_some, BIf_true, BIf_false, BIf_same, List.toList_toArray, Bool.not_true, Bool.not_false]
  exact RetE.mk _ _
theorem Count_s (h : Sep L H) (i : Nat) (hi : L[i]? = some (Dk p d)) : HCalls Tryz.prog 21 #[.pointer (some ⟨p, 3, none⟩)] H (RetE (.agg #[.int .i64 (d.rd : Int), .int .i64 (d.wr : Int), .int .i64 (d.sy : Int)]) H) := by
  obtain ⟨r1, r2, r3, hd⟩ := Dk.see h i hi
  apply HCalls.ret
  apply W_disk_counts_Count.ok
  unfold W_disk_counts_Count
  refine (Sep.start H).nw fun b1 H' hs => ?_
  simp only [NN_some, Addr.add_lit', Addr.add_zero, Nat.zero_add, Nat.add_zero]
  refine LdA_at (hs.ow 0 rfl _ _ hd) (off := 3) (n := 3) (by show 3 + 3 ≤ 10; omega) ?_
  refine hs.stw 1 rfl rfl rfl rfl fun H' hs => ?_
  refine hs.ldw 1 rfl rfl ?_
  exact hs.fin 0 rfl _

/-- What is wrong with a sector. -/
def D.chk (d : D) (i : Int) : Int := if d.down then 8 else if i < 0 ∨ i ≥ d.sec then 2 else 0

theorem check_s (h : Sep L H) (i : Nat) (hi : L[i]? = some (Dk p d)) (x : Int) : HCalls Tryz.prog 125 #[.pointer (some ⟨p, 0, none⟩), .int .i64 x] H (RetE (.int .i64 (d.chk x)) H) := by
  obtain ⟨r1, r2, r3, hd⟩ := Dk.see h i hi
  apply W_disk_Disk_check.ok
  unfold W_disk_Disk_check
  simp only [NN_some, Addr.add_lit', Addr.add_zero, Nat.zero_add, Nat.add_zero]
  refine Ld_obj hd (v := .bool d.down) rfl ?_
  simp only [DI_int', DB_bool, DS_string, DP_pointer, DSl_slice, DM_map, DA_agg, DTup_tuple, DCons_cons, DNil_nil, NN_some, BIf_true, BIf_false, BIf_same, List.toList_toArray, Bool.not_true, Bool.not_false]
  unfold D.chk
  cases d.down with
  | true => exact RetE.mk _ _
  | false =>
    simp only [DI_int', DB_bool, DS_string, DP_pointer, DSl_slice, DM_map, DA_agg, DTup_tuple, DCons_cons, DNil_nil, NN_some, BIf_true, BIf_false, BIf_same, List.toList_toArray, Bool.not_true, Bool.not_false]
    rw [if_neg (by simp)]
    by_cases h1 : x < 0
    · rw [if_pos (.inl h1)]; exact BIf_dpos h1 (RetE.mk _ _)
    · refine BIf_dneg h1 ?_
      refine Ld_obj hd (v := .int .i64 d.sec) rfl ?_
      simp only [DI_int', DB_bool, DS_string, DP_pointer, DSl_slice, DM_map, DA_agg, DTup_tuple, DCons_cons, DNil_nil, NN_some, BIf_true, BIf_false, BIf_same, List.toList_toArray, Bool.not_true, Bool.not_false]
      by_cases h2 : x ≥ d.sec
      · rw [if_pos (.inr h2)]; exact BIf_dpos h2 (RetE.mk _ _)
      · rw [if_neg (by omega)]; exact BIf_dneg h2 (RetE.mk _ _)
end

/-- An operation is counted down. -/
def D.burnt (d : D) : D := if d.fuse = 0 then d else { d with fuse := d.fuse - 1, down := decide (d.fuse = 1) }
def D.burns (d : D) : Bool := decide (d.fuse = 1)

theorem burns_tr {p : Nat} {d : D} (hf : d.fuse ≤ 9223372036854775807) : Tr Tryz.prog 126 #[.pointer (some ⟨p, 7, none⟩)] [Dk p d] fun v M => v = .bool d.burns ∧ M = [Dk p d.burnt] := fun H hs => by
  obtain ⟨r1, r2, r3, hs⟩ := Dk.open hs
  apply W_disk_power_burns.ok
  unfold W_disk_power_burns
  simp only [NN_some, Addr.add_lit', Addr.add_zero, Nat.zero_add, Nat.add_zero]
  refine hs.ld 0 rfl rfl ?_
  simp only [DI_int', DB_bool, DS_string, DP_pointer, DSl_slice, DM_map, DA_agg, DTup_tuple, DCons_cons, DNil_nil, NN_some, BIf_true, BIf_false, BIf_same, List.toList_toArray, Bool.not_true, Bool.not_false]
  by_cases h0 : d.fuse = 0
  · refine BIf_beqp (by omega) ⟨_, ⟨?_, rfl⟩, ?_⟩
    · unfold D.burns; rw [h0]; rfl
    · have : d.burnt = d := by unfold D.burnt; rw [if_pos h0]
      rw [this]; exact Dk.shut hs
  · refine BIf_beqn (by omega) ?_
    refine hs.ld 0 rfl rfl ?_
    simp only [DI_int', DB_bool, DS_string, DP_pointer, DSl_slice, DM_map, DA_agg, DTup_tuple, DCons_cons, DNil_nil, NN_some, BIf_true, BIf_false, BIf_same, List.toList_toArray, Bool.not_true, Bool.not_false]
    refine hs.st 0 rfl (by show 8 < 10; omega) rfl fun H hs => ?_
    refine hs.ld 0 rfl rfl ?_
    simp only [DI_int', DB_bool, DS_string, DP_pointer, DSl_slice, DM_map, DA_agg, DTup_tuple, DCons_cons, DNil_nil, NN_some, BIf_true, BIf_false, BIf_same, List.toList_toArray, Bool.not_true, Bool.not_false]
    rw [i64w (x := (d.fuse : Int) - 1) (by omega) (by omega)] at hs ⊢
    refine hs.st 0 rfl (by show 7 < 10; omega) rfl fun H hs => ?_
    refine hs.ld 0 rfl rfl ?_
    simp only [DI_int', DB_bool, DS_string, DP_pointer, DSl_slice, DM_map, DA_agg, DTup_tuple, DCons_cons, DNil_nil, NN_some, BIf_true, BIf_false, BIf_same, List.toList_toArray, Bool.not_true, Bool.not_false]
    have e : ((d.fuse : Int) - 1 == 0) = d.burns := by
      unfold D.burns
      by_cases h1 : d.fuse = 1
      · simp [h1]
      · rw [decide_eq_false h1]; simp; omega
    rw [e] at hs ⊢
    refine ⟨_, ⟨rfl, rfl⟩, ?_⟩
    have hb : d.burnt = { d with fuse := d.fuse - 1, down := d.burns } := by unfold D.burnt; rw [if_neg h0]; rfl
    rw [hb]
    refine Dk.shut (r1 := r1) (r2 := r2) (r3 := r3) ?_
    have ef : ((d.fuse - 1 : Nat) : Int) = (d.fuse : Int) - 1 := by omega
    unfold dskO
    simp only [ef]
    exact hs

end Go.Proofs.YtghajiefpmcpmaaGreatDoor.Dsk

end
