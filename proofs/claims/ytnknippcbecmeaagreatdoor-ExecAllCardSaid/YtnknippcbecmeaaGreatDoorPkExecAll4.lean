import Derived.Test.YtnknippcbecmeaaGreatDoorProg
import Derived.DeepKeys
import Derived.Test.YtnknippcbecmeaaGreatDoorPkExecAll3
set_option maxRecDepth 100000
set_option linter.unusedSimpArgs false
set_option linter.unusedVariables false
set_option linter.unnecessarySimpa false
set_option linter.unusedSectionVars false
section
/- The frame of the proofs: maps whose keys are ints, as parts of memory. -/
namespace Go.Hw
open Go
def entK (x : Int × Value × Nat) : MapEntry := { key := .int .i64 x.1, val := x.2.1, born := x.2.2 }
def kmap (l : List (Int × Value × Nat)) (clock : Nat) : AO := .obj (.map (l.map entK).toArray clock)
def getK : List (Int × Value × Nat) → Int → Option Value
  | [], _ => none
  | x :: l, k => if k = x.1 then some x.2.1 else getK l k
def ixK (k : Int) : List (Int × Value × Nat) → Nat → Option (Nat × Value)
  | [], _ => none
  | x :: l, i => if k = x.1 then some (i, x.2.1) else ixK k l (i + 1)
structure OkK (l : List (Int × Value × Nat)) (clock : Nat) (m : Int → Option Value) : Prop where
  nd : (l.map (·.1)).Nodup
  bn : (l.map (·.2.2)).Nodup
  bl : ∀ x ∈ l, x.2.2 < clock
  get : ∀ k, getK l k = m k
def Mp (r : Nat) (m : Int → Option Value) : As := fun H => ∃ l clock, H r = some (kmap l clock) ∧ OkK l clock m
theorem ixK_get (k : Int) : ∀ (l : List (Int × Value × Nat)) (i : Nat), (ixK k l i).map (·.2) = getK l k
  | [], _ => rfl
  | x :: l, i => by
    unfold ixK getK
    split
    · rfl
    · exact ixK_get k l (i + 1)
theorem getK_none {l : List (Int × Value × Nat)} {k : Int} : getK l k = none ↔ ∀ x ∈ l, x.1 ≠ k := by
  induction l with
  | nil => simp [getK]
  | cons x l ih =>
    unfold getK
    split
    · rename_i h; simp [h]
    · rename_i h
      rw [ih]
      constructor
      · intro h2 y hy
        rcases List.mem_cons.1 hy with rfl | hy
        · exact fun e => h e.symm
        · exact h2 y hy
      · intro h2 y hy; exact h2 y (by simp [hy])
theorem getK_mem {l : List (Int × Value × Nat)} (hn : (l.map (·.1)).Nodup) {x : Int × Value × Nat} (hx : x ∈ l) : getK l x.1 = some x.2.1 := by
  induction l with
  | nil => simp at hx
  | cons y l ih =>
    simp only [List.map_cons, List.nodup_cons] at hn
    unfold getK
    rcases List.mem_cons.1 hx with rfl | hx
    · simp
    · rw [if_neg (fun e => hn.1 (by rw [← e]; exact List.mem_map_of_mem hx))]
      exact ih hn.2 hx
theorem kmap.heap {H : Hp} {w : World} {r clock : Nat} {l : List (Int × Value × Nat)} (h : H r = some (kmap l clock)) (hw : Fits H w) : w.heap[r]? = some (.map (l.map entK).toArray clock) := by
  obtain ⟨o, ho, hh⟩ := hw _ _ h
  cases hh
  exact ho
theorem At.setK {H0 H : Hp} {w0 w : World} {r clock : Nat} {l : List (Int × Value × Nat)} (hA : At H0 w0 H w) (hr : H r = some (kmap l clock)) (o : Obj) : At H0 w0 (H.set r (.obj o)) { w with heap := w.heap.setIfInBounds r o } := by
  have hh := kmap.heap hr hA.fits
  have hlt : r < w.heap.size := (Array.getElem?_eq_some_iff.1 hh).1
  refine hA.turn hr (x' := o) ?_ rfl ?_ rfl rfl rfl (fun c hc => ?_)
  · show (w.heap.setIfInBounds r o)[r]? = some o
    simp [hlt]
  · show (w.heap.setIfInBounds r o).size = w.heap.size
    simp
  · show (w.heap.setIfInBounds r o)[c]? = w.heap[c]?
    rw [Array.getElem?_setIfInBounds_ne (Ne.symm hc)]
section
variable {P : Program} {t : TypeId} (ht : P.underlying t = some (.int .i64))
include ht
theorem findNowK (k : Int) : ∀ (l : List (Int × Value × Nat)) (i : Nat), Instr.findNow (.int .i64) (.int .i64 k) (l.map entK) i = some (ixK k l i)
  | [], _ => rfl
  | x :: l, i => by
    simp only [List.map_cons, Instr.findNow]
    rw [show Instr.sameNow (.int .i64) (.int .i64 k) (entK x).key = some (k == x.1) by simp [Instr.sameNow, entK]]
    unfold ixK
    by_cases h : k = x.1
    · simp [h, entK]
    · rw [show (k == x.1) = false by simpa using h]
      simp only [h, if_false]
      exact findNowK k l (i + 1)
theorem findKeyK {w : World} (k : Int) (l : List (Int × Value × Nat)) : (Instr.findKey t (.int .i64 k) (l.map entK)).run P w = .ok (ixK k l 0) w := by
  unfold Instr.findKey
  simp [underlying_run ht, findNowK ht k l 0]
theorem checkKeyK {w : World} (e : Bool) (k : Int) : (Instr.checkKey e 10000 t (.int .i64 k)).run P w = .ok () w := by
  unfold Instr.checkKey
  simp [underlying_run ht]
variable {tm tv : TypeId} (hm : P.underlying tm = some (.map t tv))
include hm
theorem lookupK {jv : TypeInfo} {z : Value} (hv : P.info? tv = some jv) (hz : jv.zero = some z) {H : Hp} {r clock : Nat} {l : List (Int × Value × Nat)} {k : Int} (hr : H r = some (kmap l clock)) (ok : Bool) {K : Value → Prop}
    (kk : K (match getK l k with | some v => if ok then .tuple #[v, .bool true] else v | none => if ok then .tuple #[z, .bool false] else z)) : SemV P (Instr.lookup tm (.map (some r)) (.int .i64 k) ok) H K := by
  refine ⟨_, kk, fun w hw => ?_⟩
  have hh := kmap.heap hr hw
  simp only [Instr.lookup, Sem.run_bind, underlying_run hm, Result.andThen_ok, MapKept.run_getObj_map hh, Sem.run_pure]
  rw [checkKeyK ht]
  simp only [Result.andThen_ok]
  rw [findKeyK ht]
  simp only [Result.andThen_ok]
  rw [← ixK_get k l 0]
  cases ixK k l 0 with
  | some x => cases ok <;> simp
  | none => cases ok <;> simp [zeroValue, typeInfo_run hv, hz]
theorem ixK_lt (k : Int) : ∀ (l : List (Int × Value × Nat)) (i j : Nat) (v : Value), ixK k l i = some (j, v) → i ≤ j ∧ ∃ x, l[j - i]? = some x ∧ x.1 = k ∧ x.2.1 = v
  | [], _, _, _, h => by cases h
  | x :: l, i, j, v, h => by
    unfold ixK at h
    split at h
    · rename_i e; cases h; exact ⟨Nat.le_refl _, x, by simp, e.symm, rfl⟩
    · obtain ⟨h1, y, h2, h3⟩ := ixK_lt k l (i + 1) j v h
      exact ⟨by omega, y, by rw [show j - i = (j - (i + 1)) + 1 by omega, List.getElem?_cons_succ]; exact h2, h3⟩
def updM (m : Int → Option Value) (k : Int) (v : Value) : Int → Option Value := fun j => if j = k then some v else m j
theorem getK_append (l : List (Int × Value × Nat)) (x : Int × Value × Nat) (h : getK l x.1 = none) (j : Int) : getK (l ++ [x]) j = updM (getK l) x.1 x.2.1 j := by
  induction l with
  | nil => simp [getK, updM]
  | cons y l ih =>
    unfold getK at h
    split at h
    · cases h
    · rename_i hne
      rw [List.cons_append]
      unfold getK updM
      have := ih h
      unfold updM at this
      by_cases e : j = x.1
      · rw [if_pos e, e, if_neg hne]
        rw [e, if_pos rfl] at this; exact this
      · rw [if_neg e]
        rw [if_neg e] at this
        rw [this]
        rfl
theorem getK_set : ∀ (l : List (Int × Value × Nat)) (i : Nat) (x : Int × Value × Nat) (v : Value), (l.map (·.1)).Nodup → l[i]? = some x → ∀ j, getK (l.set i (x.1, v, x.2.2)) j = updM (getK l) x.1 v j
  | [], i, x, v, _, h, j => by simp at h
  | y :: l, 0, x, v, hn, h, j => by
    simp at h; subst h
    simp only [List.set_cons_zero]
    unfold getK updM
    by_cases e : j = y.1
    · simp [e]
    · simp only [e, if_false, getK]
  | y :: l, i + 1, x, v, hn, h, j => by
    simp only [List.map_cons, List.nodup_cons] at hn
    rw [List.getElem?_cons_succ] at h
    have ih := getK_set l i x v hn.2 h j
    have hne : y.1 ≠ x.1 := fun e => hn.1 (by rw [e]; exact List.mem_map_of_mem (List.mem_of_getElem? h))
    simp only [List.set_cons_succ]
    unfold getK updM
    unfold updM at ih
    by_cases e : j = x.1
    · rw [if_pos e, e, if_neg (Ne.symm hne)]
      rw [e, if_pos rfl] at ih; exact ih
    · rw [if_neg e]
      rw [if_neg e] at ih
      rw [ih]
      rfl
theorem map_set_same {α β : Type} (f : α → β) : ∀ (l : List α) (i : Nat) (x y : α), l[i]? = some x → f y = f x → (l.set i y).map f = l.map f
  | [], _, _, _, h, _ => by simp at h
  | z :: l, 0, x, y, h, e => by simp at h; subst h; simp [e]
  | z :: l, i + 1, x, y, h, e => by
    simp only [List.set_cons_succ, List.map_cons]
    rw [map_set_same f l i x y (by simpa using h) e]
theorem Sep.upd {L : List As} {H : Hp} (h : Sep L H) (i : Nat) {r : Nat} {m : Int → Option Value} (hi : L[i]? = some (Mp r m)) {k : Int} {v : Value} {K : Unit → Hp → Prop} (kk : ∀ H', Sep (L.set i (Mp r (updM m k v))) H' → K () H') :
    SemK P (Instr.mapUpdate tm (.map (some r)) (.int .i64 k) v) H K := fun H0 w0 w hA => by
  obtain ⟨H1, ⟨l, clock, hr1, hok⟩, hle⟩ := h.see i hi
  have hr := hle _ _ hr1
  have hh := kmap.heap hr hA.fits
  cases hx : ixK k l 0 with
  | none =>
    have hg : getK l k = none := by rw [← ixK_get k l 0, hx]; rfl
    refine ⟨(), _, _, ?_, kk _ (h.putIn i hi (b := r) (o' := kmap (l ++ [(k, v, clock)]) (clock + 1)) fun H1' hle' hA' => ?_), hA.setK hr _⟩
    · simp only [Instr.mapUpdate, Sem.run_bind, underlying_run hm, Result.andThen_ok, MapKept.run_getObj_map hh]
      rw [checkKeyK ht]
      simp only [Result.andThen_ok]
      rw [findKeyK ht, hx]
      simp only [Result.andThen_ok]
      rw [MapKept.run_setObj_map _ hh]
      simp [entK]
    · obtain ⟨l', clock', hr', _⟩ := hA'
      refine ⟨_, hr', l ++ [(k, v, clock)], clock + 1, Hp.set_same _ _ _, ?_, ?_, fun x hx => ?_, fun j => ?_⟩
      · rw [List.map_append, List.nodup_append]
        refine ⟨hok.nd, by simp, fun a ha b hb e => ?_⟩
        simp at hb; subst hb
        obtain ⟨z, hz, rfl⟩ := List.mem_map.1 ha
        exact getK_none.1 hg z hz e
      · rw [List.map_append, List.nodup_append]
        refine ⟨hok.bn, by simp, fun a ha b hb e => ?_⟩
        simp at hb; subst hb
        obtain ⟨z, hz, rfl⟩ := List.mem_map.1 ha
        have := hok.bl z hz
        omega
      · rcases List.mem_append.1 hx with hx | hx
        · have := hok.bl x hx; omega
        · simp at hx; subst hx; show clock < clock + 1; omega
      · rw [getK_append ht hm l (k, v, clock) hg j]
        unfold updM
        simp only [hok.get]
  | some q =>
    obtain ⟨ix, u⟩ := q
    obtain ⟨_, x, hxl, hxk, hxv⟩ := ixK_lt ht hm k l 0 ix u hx
    rw [Nat.sub_zero] at hxl
    have hlt := (List.getElem?_eq_some_iff.1 hxl).1
    refine ⟨(), _, _, ?_, kk _ (h.putIn i hi (b := r) (o' := kmap (l.set ix (x.1, v, x.2.2)) clock) fun H1' hle' hA' => ?_), hA.setK hr _⟩
    · simp only [Instr.mapUpdate, Sem.run_bind, underlying_run hm, Result.andThen_ok, MapKept.run_getObj_map hh]
      rw [checkKeyK ht]
      simp only [Result.andThen_ok]
      rw [findKeyK ht, hx]
      simp only [Result.andThen_ok]
      have hkey : ((((l.map entK).toArray)[ix]?).map (·.key)).getD (Value.int .i64 k) = .int .i64 k := by
        simp [hxl, entK, hxk]
      rw [hkey]
      simp only [Instr.keyThatStays, Instr.sameBits, beq_self_eq_true, Bool.and_self, if_true, pure_bind]
      rw [MapKept.run_setObj_map _ hh]
      congr 3
      have e : ((l.map entK).toArray.modify ix fun e => { e with key := .int .i64 k, val := v }) = ((l.set ix (x.1, v, x.2.2)).map entK).toArray := by
        apply Array.ext'
        rw [Array.toList_modify]
        simp only
        apply List.ext_getElem?
        intro j
        rw [List.getElem?_modify, List.getElem?_map, List.getElem?_map, List.getElem?_set]
        by_cases ej : ix = j
        · subst ej
          have e2 : l[ix] = x := by
            have := List.getElem?_eq_getElem hlt
            rw [this] at hxl; exact Option.some.inj hxl
          simp [entK, hxk, hlt, e2]
        · simp [ej]
      rw [e]
    · obtain ⟨l', clock', hr', _⟩ := hA'
      refine ⟨_, hr', l.set ix (x.1, v, x.2.2), clock, Hp.set_same _ _ _, ?_, ?_, fun y hy => ?_, fun j => ?_⟩
      · rw [map_set_same ht hm (·.1) l ix x (x.1, v, x.2.2) hxl rfl]; exact hok.nd
      · rw [map_set_same ht hm (·.2.2) l ix x (x.1, v, x.2.2) hxl rfl]; exact hok.bn
      · have : y.2.2 ∈ (l.set ix (x.1, v, x.2.2)).map (·.2.2) := List.mem_map_of_mem hy
        rw [map_set_same ht hm (·.2.2) l ix x (x.1, v, x.2.2) hxl rfl] at this
        obtain ⟨z, hz, e⟩ := List.mem_map.1 this
        have := hok.bl z hz
        have e' : z.2.2 = y.2.2 := e
        omega
      · rw [getK_set ht hm l ix x v hok.nd hxl j]
        unfold updM
        simp only [hok.get, hxk]
theorem Sep.clearK {L : List As} {H : Hp} (h : Sep L H) (i : Nat) {r : Nat} {m : Int → Option Value} (hi : L[i]? = some (Mp r m)) {ty : TypeId} {K : Value → Hp → Prop} (kk : ∀ H', Sep (L.set i (Mp r fun _ => none)) H' → K (.tuple #[]) H') :
    SemK P (Builtin.clear_ #[tm] ty #[.map (some r)]) H K := fun H0 w0 w hA => by
  obtain ⟨H1, ⟨l, clock, hr1, hok⟩, hle⟩ := h.see i hi
  have hr := hle _ _ hr1
  have hh := kmap.heap hr hA.fits
  refine ⟨_, _, _, ?_, kk _ (h.putIn i hi (b := r) (o' := kmap [] clock) fun H1' hle' hA' => ?_), hA.setK hr _⟩
  · simp only [Builtin.clear_, Sem.run_bind, underlying_run hm, Result.andThen_ok, List.getElem?_toArray, List.getElem?_cons_zero, MapKept.run_getObj_map hh]
    try rw [Sem.run_bind]
    rw [MapKept.run_setObj_map _ hh]
    simp
  · obtain ⟨l', clock', hr', _⟩ := hA'
    exact ⟨_, hr', [], clock, Hp.set_same _ _ _, by simp, by simp, fun x hx => by simp at hx, fun j => rfl⟩
end
theorem Mp.new {L : List As} {H : Hp} {b : Nat} (h : Sep (L ++ [pts b (.obj (.map #[] 0))]) H) : Sep (L ++ [Mp b fun _ => none]) H := by
  have := h.turn L.length (A := pts b (.obj (.map #[] 0))) (by simp) (B := Mp b fun _ => none) fun H1 h1 => ⟨[], 0, h1, by simp, by simp, fun x hx => by simp at hx, fun j => rfl⟩
  simpa using this
def unseenK (tk : List (Int × Value × Nat)) (seen : Array Nat) : List (Int × Value × Nat) := tk.filter fun x => !seen.contains x.2.2
theorem range_K {P : Program} {t k e : TypeId} (ht : P.underlying t = some (.map k e)) {H : Hp} {mp cl : Nat} {tk : List (Int × Value × Nat)} (hm : H mp = some (kmap tk cl)) {K : Value → Hp → Prop}
    (kk : ∀ it, H it = none → K (.pointer (some ⟨it, 0, none⟩)) (H.set it (iterO mp cl #[] cl))) : SemK P (Instr.range t (.map (some mp))) H K := fun H0 w0 w hA => by
  have hh := kmap.heap hm hA.fits
  obtain ⟨hn, hA'⟩ := hA.new (o := iterO mp cl #[] cl) (x := .mapIter (some mp) cl #[] cl) rfl
  refine ⟨_, _, _, ?_, kk _ hn, hA'⟩
  simp only [Instr.range, Sem.run_bind, underlying_run ht, Result.andThen_ok, MapKept.run_getObj_map hh, Sem.run_pure]
  simp
theorem next_K {P : Program} {ty : TypeId} {H : Hp} {it mp since last cl : Nat} {seen : Array Nat} {tk : List (Int × Value × Nat)} (hi : H it = some (iterO mp since seen last)) (hm : H mp = some (kmap tk cl)) (hold : ∀ x ∈ tk, x.2.2 < since) (hlast : ∀ x ∈ tk, x.2.2 < last) {K : Value → Hp → Prop}
    (k1 : ∀ x ∈ unseenK tk seen, K (.tuple #[.bool true, .int .i64 x.1, x.2.1]) (H.set it (iterO mp since (seen.push x.2.2) cl))) (k0 : unseenK tk seen = [] → K (.tuple #[.bool false]) H) :
    SemK P (Instr.next (.pointer (some ⟨it, 0, none⟩)) false ty) H K := fun H0 w0 w hA => by
  have hh := iterO.heap hi hA.fits
  have hg := kmap.heap hm hA.fits
  have hgi : (getObj it).run P w = .ok (.mapIter (some mp) since seen last) w := by simp [getObj, Sem.run, hh]
  have hleft : ((tk.map entK).toArray.filter fun e => !seen.contains e.born) = ((unseenK tk seen).map entK).toArray := by
    unfold unseenK
    rw [List.filter_toArray, List.filter_map]
    rfl
  have hcond : (!seen.isEmpty && !(tk.map entK).toArray.isEmpty && (tk.map entK).toArray.all (fun e => decide (e.born ≥ last))) = false := by
    cases tk with
    | nil => simp
    | cons x l =>
      have := hlast x (by simp)
      have h2 : ¬ last ≤ x.2.2 := by omega
      simp [entK, h2]
  have hold' : (((unseenK tk seen).map entK).toArray.filter fun e => decide (e.born < since)) = ((unseenK tk seen).map entK).toArray := by
    rw [List.filter_toArray]
    congr 1
    rw [List.filter_eq_self]
    intro e he
    obtain ⟨x, hx, rfl⟩ := List.mem_map.1 he
    have := hold x (List.mem_filter.1 hx).1
    exact decide_eq_true this
  have hnew : (((unseenK tk seen).map entK).toArray.filter fun e => decide (e.born ≥ since)) = #[] := by
    rw [List.filter_toArray]
    congr 1
    rw [List.filter_eq_nil_iff]
    intro e he
    obtain ⟨x, hx, rfl⟩ := List.mem_map.1 he
    have := hold x (List.mem_filter.1 hx).1
    simp [entK]; omega
  simp only [Instr.next, Sem.run_bind, hgi, Result.andThen_ok, MapKept.run_getObj_map hg, hcond, Bool.false_eq_true, if_false, hleft, hold', hnew, Sem.run_pure]
  cases hU : unseenK tk seen with
  | nil =>
    obtain ⟨i, w', hi', hr, hA'⟩ := choose_next (P := P) hA 1 (by omega)
    obtain rfl : i = 0 := by omega
    refine ⟨_, H, w', ?_, k0 hU, hA'⟩
    rw [show ((if (List.map entK ([] : List (Int × Value × Nat))).toArray.isEmpty = true then #[none] else #[]) ++ Array.map some ((List.map entK ([] : List (Int × Value × Nat))).toArray ++ #[])) = (#[none] : Array (Option MapEntry)) by simp, show (#[none] : Array (Option MapEntry)).size = 1 from rfl, hr]
    rfl
  | cons x l =>
    obtain ⟨i, w', hi', hr, hA'⟩ := choose_next (P := P) hA (x :: l).length (by simp)
    have e : ((if (List.map entK (x :: l)).toArray.isEmpty = true then #[none] else #[]) ++ Array.map some ((List.map entK (x :: l)).toArray ++ #[])) = ((x :: l).map fun y => some (entK y)).toArray := by simp
    rw [e, show ((x :: l).map fun y => some (entK y)).toArray.size = (x :: l).length by simp, hr]
    have hy : (x :: l)[i] ∈ unseenK tk seen := by rw [hU]; exact List.getElem_mem hi'
    refine ⟨_, _, _, ?_, k1 _ hy, hA'.setIter hi _⟩
    simp only [Result.andThen_ok, List.getElem?_toArray, List.getElem?_map, List.getElem?_eq_getElem hi', Option.map_some, Sem.run_bind]
    have hh' := iterO.heap hi hA'.fits
    rw [show (setObj it (Obj.mapIter (some mp) since (seen.push (entK (x :: l)[i]).born) cl)).run P w' = .ok () { w' with heap := w'.heap.setIfInBounds it (Obj.mapIter (some mp) since (seen.push (entK (x :: l)[i]).born) cl) } by simp [setObj, Sem.run, hh']]
    rfl
theorem find_bornK : ∀ (tk : List (Int × Value × Nat)) (x : Int × Value × Nat), x ∈ tk → (tk.map (·.2.2)).Nodup → (tk.map entK).find? (fun e => e.born == x.2.2) = some (entK x)
  | [], x, h, _ => by simp at h
  | y :: l, x, h, hn => by
    simp only [List.map_cons, List.nodup_cons] at hn
    simp only [List.map_cons, List.find?_cons]
    rcases List.mem_cons.1 h with rfl | h
    · simp [entK]
    · have : ¬ (y.2.2 = x.2.2) := fun e => hn.1 (by rw [e]; exact List.mem_map_of_mem h)
      rw [show ((entK y).born == x.2.2) = false by simpa [entK] using this]
      exact find_bornK l x h hn.2
theorem entry_K {P : Program} {H : Hp} {it mp since cl : Nat} {seen : Array Nat} {tk : List (Int × Value × Nat)} (hi : H it = some (iterO mp since seen cl)) (hm : H mp = some (kmap tk cl)) {x : Int × Value × Nat} (hx : x ∈ tk) (hb : seen.back? = some x.2.2) (hn : (tk.map (·.2.2)).Nodup) {K : Value → Hp → Prop}
    (k : K (.tuple #[.int .i64 x.1, x.2.1]) H) : SemK P (Instr.entry (.pointer (some ⟨it, 0, none⟩))) H K := fun H0 w0 w hA => by
  have hh := iterO.heap hi hA.fits
  have hg := kmap.heap hm hA.fits
  have hgi : (getObj it).run P w = .ok (.mapIter (some mp) since seen cl) w := by simp [getObj, Sem.run, hh]
  refine ⟨_, H, w, ?_, k, hA⟩
  simp only [Instr.entry, Sem.run_bind, hgi, Result.andThen_ok, hb, MapKept.run_getObj_map hg, bne_self_eq_false, Bool.false_eq_true, if_false, List.find?_toArray, find_bornK tk x hx hn]
  rfl
theorem unseenK_lt {tk : List (Int × Value × Nat)} {seen : Array Nat} {x : Int × Value × Nat} (hx : x ∈ unseenK tk seen) : (unseenK tk (seen.push x.2.2)).length < (unseenK tk seen).length := by
  have e : unseenK tk (seen.push x.2.2) = (unseenK tk seen).filter fun y => y.2.2 != x.2.2 := by
    unfold unseenK
    rw [List.filter_filter]
    congr 1
    funext y
    rw [Array.contains_push]
    cases seen.contains y.2.2 <;> simp [bne]
  rw [e]
  have : ∀ l : List (Int × Value × Nat), x ∈ l → (l.filter fun y => y.2.2 != x.2.2).length < l.length := by
    intro l hl
    induction l with
    | nil => simp at hl
    | cons y l ih =>
      rcases List.mem_cons.1 hl with rfl | hl
      · rw [List.filter_cons_of_neg (by simp)]
        have := List.length_filter_le (fun y : Int × Value × Nat => y.2.2 != x.2.2) l
        simp only [List.length_cons]; omega
      · have := ih hl
        have := List.length_filter_le (fun y : Int × Value × Nat => y.2.2 != x.2.2) l
        rw [List.filter_cons]
        split <;> simp only [List.length_cons] <;> omega
  exact this _ hx
end Go.Hw
end
section
/- Formulas of functions, printed by wip/tools/hwp.py. -/
namespace Go.Proofs.YtnknippcbecmeaaGreatDoor.W
open Go Go.Hw
theorem mixWdisk : Tryz.prog.follows .mixedOrders = true := by kernel_rfl
def W_disk_counts_Count (p1 : Option Addr) (H : Hp) (K : Value → Hp → Prop) : Prop :=
  Nw H (.obj (.cells #[.int .i64 0, .int .i64 0, .int .i64 0] 43)) fun b1 H1 => NN p1 fun a1 => LdA H1 (a1.add 0) 3 fun l1 => StA H1 (⟨b1, 0, none⟩ : Addr) l1.toArray 3 fun H2 => LdA H2 (⟨b1, 0, none⟩ : Addr) 3 fun l2 => K (.agg l2.toArray) H2
theorem W_disk_counts_Count.ok (p1 : Option Addr) (H : Hp) (K : Value → Hp → Prop) (h : W_disk_counts_Count p1 H K) : HCalls Tryz.prog 11 #[.pointer p1] H K :=
  hcalls Tryz.func11 rfl (Nat.le_of_ble_eq_true rfl) (hw_safe (Λ := Cuts.none (fun _ => none)) mixWdisk _ _ _ _ _ (Eq.mp (by kernel_rfl) h) (obs_none _ _ _ _ _))
def W_disk_New (x1 : Int) (x2 : Int) (H : Hp) (K : Value → Hp → Prop) : Prop :=
  BIf (decide (x1 < (1 : Int))) (K (.pointer none) H) (BIf (decide (x1 > (1048576 : Int))) (K (.pointer none) H) (BIf (decide (x2 < (32 : Int))) (K (.pointer none) H) (BIf (decide (x2 > (4096 : Int))) (K (.pointer none) H) (BIf ((bAnd .i64 x2 (IntKind.i64.wrap (x2 - (1 : Int)))) != (0 : Int)) (K (.pointer none) H) ((x2 ≠ 0 ∧ IntKind.i64 = IntKind.i64 ∧ BIf (decide (x1 > (IntKind.i64.wrap (Int.tdiv (67108864 : Int) x2)))) (K (.pointer none) H) (Nw H (.obj (.map #[] 0)) fun b1 H1 => Nw H1 (.obj (.map #[] 0)) fun b2 H2 => Nw H2 (.obj (.map #[] 0)) fun b3 H3 => Nw H3 (.obj (.cells #[.int .i64 x1, .int .i64 x2, .map (some b1), .int .i64 0, .int .i64 0, .int .i64 0, .map (some b2), .bool false, .int .i64 0, .map (some b3)] 54)) fun b4 H4 => K (.pointer (some (⟨b4, 0, none⟩ : Addr))) H4)))))))
theorem W_disk_New.ok (x1 : Int) (x2 : Int) (H : Hp) (K : Value → Hp → Prop) (h : W_disk_New x1 x2 H K) : HCalls Tryz.prog 21 #[.int .i64 x1, .int .i64 x2] H K :=
  hcalls Tryz.func21 rfl (Nat.le_of_ble_eq_true rfl) (hw_safe (Λ := Cuts.none (fun _ => none)) mixWdisk _ _ _ _ _ (Eq.mp (by kernel_rfl) h) (obs_none _ _ _ _ _))
def W_disk_Disk_Write (p1 : Option Addr) (x1 : Int) (A1 : Option Addr) (n1 : Nat) (m1 : Nat) (H : Hp) (K : Value → Hp → Prop) : Prop :=
  HCalls Tryz.prog 70 #[.pointer p1, .int .i64 x1] H fun v1 H1 => DI .i64 v1 fun x2 => BIf (x2 != (0 : Int)) (K (.int .i64 x2) H1) (NN p1 fun a1 => Ld H1 ((a1.add 0).add 1) fun v2 => DI .i64 v2 fun x3 => BIf (((n1 : Nat) : Int) != x3) (K (.int .i64 19) H1) (NN p1 fun a2 => HCalls Tryz.prog 71 #[.pointer (some (a2.add 7))] H1 fun v3 H2 => DB v3 fun c1 => BIf c1 (K (.int .i64 8) H2) (NN p1 fun a3 => Ld H2 (((a3.add 3).add 0).add 1) fun v4 => DI .i64 v4 fun x4 => NN p1 fun a4 => St H2 ((((a4.add 3).add 0).add 1).add 0) (.int .i64 (IntKind.i64.wrap (x4 + (1 : Int)))) fun H3 => NN p1 fun a5 => Ld H3 ((a5.add 3).add 3) fun v5 => DM v5 fun r1 => SemK Tryz.prog (Instr.mapUpdate 48 (.map r1) (.int .i64 x1) (.int .i64 1)) H3 fun _ H4 => NN p1 fun a6 => Ld H4 (a6.add 9) fun v6 => DM v6 fun r2 => BsK H4 A1 n1 fun s1 => SemK Tryz.prog (Instr.mapUpdate 45 (.map r2) (.int .i64 x1) (.string s1)) H4 fun _ H5 => K (.int .i64 0) H5)))
theorem W_disk_Disk_Write.ok (p1 : Option Addr) (x1 : Int) (A1 : Option Addr) (n1 : Nat) (m1 : Nat) (H : Hp) (K : Value → Hp → Prop) (h : W_disk_Disk_Write p1 x1 A1 n1 m1 H K) : HCalls Tryz.prog 35 #[.pointer p1, .int .i64 x1, .slice A1 n1 m1] H K :=
  hcalls Tryz.func35 rfl (Nat.le_of_ble_eq_true rfl) (hw_safe (Λ := Cuts.none (fun i => match Nat.beq i 10 with | true => some ([], [0, 1, 2, 3, 4, 5, 6], 7) | false => none)) mixWdisk _ _ _ _ _ (Eq.mp (by kernel_rfl) h) (obs_none _ _ _ _ _))
def W_disk_plates_Sectors (p1 : Option Addr) (H : Hp) (K : Value → Hp → Prop) : Prop :=
  NN p1 fun a1 => Ld H (a1.add 0) fun v1 => DI .i64 v1 fun x1 => K (.int .i64 x1) H
theorem W_disk_plates_Sectors.ok (p1 : Option Addr) (H : Hp) (K : Value → Hp → Prop) (h : W_disk_plates_Sectors p1 H K) : HCalls Tryz.prog 44 #[.pointer p1] H K :=
  hcalls Tryz.func44 rfl (Nat.le_of_ble_eq_true rfl) (hw_safe (Λ := Cuts.none (fun _ => none)) mixWdisk _ _ _ _ _ (Eq.mp (by kernel_rfl) h) (obs_none _ _ _ _ _))
def W_disk_Disk_Sync (p1 : Option Addr) (H : Hp) (K : Value → Hp → Prop) : Prop :=
  NN p1 fun a1 => Ld H ((a1.add 7).add 0) fun v1 => DB v1 fun c1 => BIf c1 (K (.int .i64 8) H) (NN p1 fun a2 => HCalls Tryz.prog 71 #[.pointer (some (a2.add 7))] H fun v2 H1 => DB v2 fun c2 => BIf c2 (K (.int .i64 8) H1) (NN p1 fun a3 => Ld H1 (((a3.add 3).add 0).add 2) fun v3 => DI .i64 v3 fun x1 => NN p1 fun a4 => St H1 ((((a4.add 3).add 0).add 2).add 0) (.int .i64 (IntKind.i64.wrap (x1 + (1 : Int)))) fun H2 => NN p1 fun a5 => Ld H2 ((a5.add 0).add 2) fun v4 => DM v4 fun r1 => NN p1 fun a6 => Ld H2 (a6.add 9) fun v5 => DM v5 fun r2 => HCalls Tryz.prog 88 #[.map r1, .map r2] H2 fun v6 H3 => NN p1 fun a7 => Ld H3 (a7.add 9) fun v7 => DM v7 fun r3 => SemK Tryz.prog (Builtin.clear_ #[45] 0 #[.map r3]) H3 fun v8 H4 => K (.int .i64 0) H4))
theorem W_disk_Disk_Sync.ok (p1 : Option Addr) (H : Hp) (K : Value → Hp → Prop) (h : W_disk_Disk_Sync p1 H K) : HCalls Tryz.prog 47 #[.pointer p1] H K :=
  hcalls Tryz.func47 rfl (Nat.le_of_ble_eq_true rfl) (hw_safe (Λ := Cuts.none (fun i => match Nat.beq i 4 with | true => some ([], [0, 1, 2, 3, 4, 5, 6, 7, 8], 9) | false => none)) mixWdisk _ _ _ _ _ (Eq.mp (by kernel_rfl) h) (obs_none _ _ _ _ _))
def W_disk_Disk_Read (p1 : Option Addr) (x1 : Int) (H : Hp) (K : Value → Hp → Prop) : Prop :=
  HCalls Tryz.prog 70 #[.pointer p1, .int .i64 x1] H fun v1 H1 => DI .i64 v1 fun x2 => BIf (x2 != (0 : Int)) (K (.tuple #[.slice none 0 0, .int .i64 x2]) H1) (NN p1 fun a1 => HCalls Tryz.prog 71 #[.pointer (some (a1.add 7))] H1 fun v2 H2 => DB v2 fun c1 => BIf c1 (K (.tuple #[.slice none 0 0, .int .i64 8]) H2) (NN p1 fun a2 => Ld H2 (((a2.add 3).add 0).add 0) fun v3 => DI .i64 v3 fun x3 => NN p1 fun a3 => St H2 ((((a3.add 3).add 0).add 0).add 0) (.int .i64 (IntKind.i64.wrap (x3 + (1 : Int)))) fun H3 => NN p1 fun a4 => Ld H3 (a4.add 9) fun v4 => DM v4 fun r1 => SemV Tryz.prog (Instr.lookup 45 (.map r1) (.int .i64 x1) true) H3 fun v5 => DTup v5 fun l1 => DCons l1 fun v6 l2 => DS v6 fun s1 => DCons l2 fun v7 l3 => DB v7 fun c2 => DNil l3 (BIf c2 (StB 5 s1 H3 fun v8 H4 => DSl v8 fun A1 n1 m1 => K (.tuple #[.slice A1 n1 m1, .int .i64 0]) H4) (NN p1 fun a5 => HCalls Tryz.prog 110 #[.pointer (some (a5.add 0)), .int .i64 x1] H3 fun v9 H5 => DSl v9 fun A2 n2 m2 => K (.tuple #[.slice A2 n2 m2, .int .i64 0]) H5))))
theorem W_disk_Disk_Read.ok (p1 : Option Addr) (x1 : Int) (H : Hp) (K : Value → Hp → Prop) (h : W_disk_Disk_Read p1 x1 H K) : HCalls Tryz.prog 63 #[.pointer p1, .int .i64 x1] H K :=
  hcalls Tryz.func63 rfl (Nat.le_of_ble_eq_true rfl) (hw_safe (Λ := Cuts.none (fun _ => none)) mixWdisk _ _ _ _ _ (Eq.mp (by kernel_rfl) h) (obs_none _ _ _ _ _))
def W_disk_plates_Size (p1 : Option Addr) (H : Hp) (K : Value → Hp → Prop) : Prop :=
  NN p1 fun a1 => Ld H (a1.add 1) fun v1 => DI .i64 v1 fun x1 => K (.int .i64 x1) H
theorem W_disk_plates_Size.ok (p1 : Option Addr) (H : Hp) (K : Value → Hp → Prop) (h : W_disk_plates_Size p1 H K) : HCalls Tryz.prog 65 #[.pointer p1] H K :=
  hcalls Tryz.func65 rfl (Nat.le_of_ble_eq_true rfl) (hw_safe (Λ := Cuts.none (fun _ => none)) mixWdisk _ _ _ _ _ (Eq.mp (by kernel_rfl) h) (obs_none _ _ _ _ _))
def W_disk_Disk_check (p1 : Option Addr) (x1 : Int) (H : Hp) (K : Value → Hp → Prop) : Prop :=
  NN p1 fun a1 => Ld H ((a1.add 7).add 0) fun v1 => DB v1 fun c1 => BIf c1 (K (.int .i64 8) H) (BIf (decide (x1 < (0 : Int))) (K (.int .i64 2) H) (NN p1 fun a2 => Ld H ((a2.add 0).add 0) fun v2 => DI .i64 v2 fun x2 => BIf (decide (x1 ≥ x2)) (K (.int .i64 2) H) (K (.int .i64 0) H)))
theorem W_disk_Disk_check.ok (p1 : Option Addr) (x1 : Int) (H : Hp) (K : Value → Hp → Prop) (h : W_disk_Disk_check p1 x1 H K) : HCalls Tryz.prog 70 #[.pointer p1, .int .i64 x1] H K :=
  hcalls Tryz.func70 rfl (Nat.le_of_ble_eq_true rfl) (hw_safe (Λ := Cuts.none (fun _ => none)) mixWdisk _ _ _ _ _ (Eq.mp (by kernel_rfl) h) (obs_none _ _ _ _ _))
def W_disk_power_burns (p1 : Option Addr) (H : Hp) (K : Value → Hp → Prop) : Prop :=
  NN p1 fun a1 => Ld H (a1.add 1) fun v1 => DI .i64 v1 fun x1 => BIf (x1 == (0 : Int)) (K (.bool false) H) (NN p1 fun a2 => Ld H (a2.add 1) fun v2 => DI .i64 v2 fun x2 => NN p1 fun a3 => St H ((a3.add 1).add 0) (.int .i64 (IntKind.i64.wrap (x2 - (1 : Int)))) fun H1 => NN p1 fun a4 => Ld H1 (a4.add 1) fun v3 => DI .i64 v3 fun x3 => NN p1 fun a5 => St H1 ((a5.add 0).add 0) (.bool (x3 == (0 : Int))) fun H2 => NN p1 fun a6 => Ld H2 (a6.add 0) fun v4 => DB v4 fun c1 => K (.bool c1) H2)
theorem W_disk_power_burns.ok (p1 : Option Addr) (H : Hp) (K : Value → Hp → Prop) (h : W_disk_power_burns p1 H K) : HCalls Tryz.prog 71 #[.pointer p1] H K :=
  hcalls Tryz.func71 rfl (Nat.le_of_ble_eq_true rfl) (hw_safe (Λ := Cuts.none (fun _ => none)) mixWdisk _ _ _ _ _ (Eq.mp (by kernel_rfl) h) (obs_none _ _ _ _ _))
def W_disk_plates_get (p1 : Option Addr) (x1 : Int) (H : Hp) (K : Value → Hp → Prop) : Prop :=
  NN p1 fun a1 => Ld H (a1.add 1) fun v1 => DI .i64 v1 fun x2 => MkS Tryz.prog 5 x2 x2 H fun v2 H1 => DSl v2 fun A1 n1 m1 => NN p1 fun a2 => Ld H1 (a2.add 2) fun v3 => DM v3 fun r1 => SemV Tryz.prog (Instr.lookup 45 (.map r1) (.int .i64 x1) false) H1 fun v4 => DS v4 fun s1 => CpK Tryz.prog 5 (.slice A1 n1 m1) (.string s1) H1 fun v5 H2 => DI .i64 v5 fun x3 => K (.slice A1 n1 m1) H2
theorem W_disk_plates_get.ok (p1 : Option Addr) (x1 : Int) (H : Hp) (K : Value → Hp → Prop) (h : W_disk_plates_get p1 x1 H K) : HCalls Tryz.prog 110 #[.pointer p1, .int .i64 x1] H K :=
  hcalls Tryz.func110 rfl (Nat.le_of_ble_eq_true rfl) (hw_safe (Λ := Cuts.none (fun _ => none)) mixWdisk _ _ _ _ _ (Eq.mp (by kernel_rfl) h) (obs_none _ _ _ _ _))
end Go.Proofs.YtnknippcbecmeaaGreatDoor.W
end
section
/- A disk as a part of memory: contracts of its functions. -/
namespace Go.Proofs.YtnknippcbecmeaaGreatDoor.Dsk
open Go Go.Hw W
structure D where
  sec : Nat
  size : Nat
  safe : Int → Option (List UInt8)
  cache : Int → Option (List UInt8)
  tch : Int → Bool
  rd : Nat
  wr : Nat
  sy : Nat
  down : Bool
  fuse : Nat
def strV (l : List UInt8) : Value := .string ⟨l.toArray⟩
def strM (m : Int → Option (List UInt8)) : Int → Option Value := fun k => (m k).map strV
def tchM (m : Int → Bool) : Int → Option Value := fun k => if m k then some (.int .i64 1) else none
def dskO (d : D) (r1 r2 r3 : Nat) : AO := .obj (.cells #[.int .i64 d.sec, .int .i64 d.size, .map (some r1), .int .i64 d.rd, .int .i64 d.wr, .int .i64 d.sy, .map (some r2), .bool d.down, .int .i64 d.fuse, .map (some r3)] 54)
structure Ok (d : D) : Prop where
  sec : 1 ≤ d.sec ∧ d.sec ≤ 1048576
  size : 32 ≤ d.size ∧ d.size ≤ 4096
  big : d.sec * d.size ≤ 67108864
  per : d.size % 8 = 0
  safe : ∀ k b, d.safe k = some b → b.length = d.size
  cache : ∀ k b, d.cache k = some b → b.length = d.size
  fz : d.fuse ≤ 9223372036854775807
def Dk (p : Nat) (d : D) : As := fun H => ∃ r1 r2 r3, Sep [pts p (dskO d r1 r2 r3), Mp r1 (strM d.safe), Mp r2 (tchM d.tch), Mp r3 (strM d.cache)] H
theorem Sep.fold {M L : List As} {A : As} {H : Hp} (h : Sep (M ++ L) H) (k : ∀ H1, Sep M H1 → A H1) : Sep (A :: L) H := by
  obtain ⟨H1, H2, h1, h2, h3, h4, h5⟩ := h.append
  exact ⟨H1, H2, h1, h2, h3, k H1 h4, h5⟩
theorem Dk.open {p : Nat} {d : D} {L : List As} {H : Hp} (h : Sep (Dk p d :: L) H) : ∃ r1 r2 r3, Sep (pts p (dskO d r1 r2 r3) :: Mp r1 (strM d.safe) :: Mp r2 (tchM d.tch) :: Mp r3 (strM d.cache) :: L) H := by
  obtain ⟨H1, H2, h1, h2, h3, ⟨r1, r2, r3, h4⟩, h5⟩ := h
  exact ⟨r1, r2, r3, Sep.join h1 h2 h3 h4 h5⟩
theorem Dk.shut {p : Nat} {d : D} {r1 r2 r3 : Nat} {L : List As} {H : Hp} (h : Sep (pts p (dskO d r1 r2 r3) :: Mp r1 (strM d.safe) :: Mp r2 (tchM d.tch) :: Mp r3 (strM d.cache) :: L) H) : Sep (Dk p d :: L) H :=
  Sep.fold (M := [pts p (dskO d r1 r2 r3), Mp r1 (strM d.safe), Mp r2 (tchM d.tch), Mp r3 (strM d.cache)]) h fun H1 h1 => ⟨r1, r2, r3, h1⟩
theorem Dk.see {p : Nat} {d : D} {L : List As} {H : Hp} (h : Sep L H) (i : Nat) (hi : L[i]? = some (Dk p d)) : ∃ r1 r2 r3, H p = some (dskO d r1 r2 r3) := by
  obtain ⟨H1, ⟨r1, r2, r3, h1⟩, hle⟩ := h.see i hi
  exact ⟨r1, r2, r3, hle _ _ (h1.get 0 rfl)⟩
section
variable {L : List As} {H : Hp} {p : Nat} {d : D}
theorem Sectors_s (h : Sep L H) (i : Nat) (hi : L[i]? = some (Dk p d)) : HCalls Tryz.prog 44 #[.pointer (some ⟨p, 0, none⟩)] H (RetE (.int .i64 (d.sec : Int)) H) := by
  obtain ⟨r1, r2, r3, hd⟩ := Dk.see h i hi
  apply W_disk_plates_Sectors.ok
  unfold W_disk_plates_Sectors
  simp only [NN_some, Addr.add_lit', Addr.add_zero, Nat.zero_add, Nat.add_zero]
  refine Ld_obj hd (v := .int .i64 d.sec) rfl ?_
  simp only [HV]
  exact RetE.mk _ _
theorem Size_s (h : Sep L H) (i : Nat) (hi : L[i]? = some (Dk p d)) : HCalls Tryz.prog 65 #[.pointer (some ⟨p, 0, none⟩)] H (RetE (.int .i64 (d.size : Int)) H) := by
  obtain ⟨r1, r2, r3, hd⟩ := Dk.see h i hi
  apply W_disk_plates_Size.ok
  unfold W_disk_plates_Size
  simp only [NN_some, Addr.add_lit', Addr.add_zero, Nat.zero_add, Nat.add_zero]
  refine Ld_obj hd (v := .int .i64 d.size) rfl ?_
  simp only [HV]
  exact RetE.mk _ _
theorem Count_s (h : Sep L H) (i : Nat) (hi : L[i]? = some (Dk p d)) : HCalls Tryz.prog 11 #[.pointer (some ⟨p, 3, none⟩)] H (RetE (.agg #[.int .i64 (d.rd : Int), .int .i64 (d.wr : Int), .int .i64 (d.sy : Int)]) H) := by
  obtain ⟨r1, r2, r3, hd⟩ := Dk.see h i hi
  apply HCalls.ret
  apply W_disk_counts_Count.ok
  unfold W_disk_counts_Count
  refine (Sep.start H).nw fun b1 H' hs => ?_
  simp only [NN_some, Addr.add_lit', Addr.add_zero, Nat.zero_add, Nat.add_zero]
  refine LdA_at (hs.ow 0 rfl _ _ hd) (off := 3) (n := 3) (by show 3 + 3 ≤ 10; omega) ?_
  refine hs.stw 1 rfl rfl rfl rfl fun H' hs => ?_
  refine hs.ldw 1 rfl rfl ?_
  exact hs.fin 0 rfl _
def D.chk (d : D) (i : Int) : Int := if d.down then 8 else if i < 0 ∨ i ≥ d.sec then 2 else 0
theorem check_s (h : Sep L H) (i : Nat) (hi : L[i]? = some (Dk p d)) (x : Int) : HCalls Tryz.prog 70 #[.pointer (some ⟨p, 0, none⟩), .int .i64 x] H (RetE (.int .i64 (d.chk x)) H) := by
  obtain ⟨r1, r2, r3, hd⟩ := Dk.see h i hi
  apply W_disk_Disk_check.ok
  unfold W_disk_Disk_check
  simp only [NN_some, Addr.add_lit', Addr.add_zero, Nat.zero_add, Nat.add_zero]
  refine Ld_obj hd (v := .bool d.down) rfl ?_
  simp only [HV]
  unfold D.chk
  cases d.down with
  | true => exact RetE.mk _ _
  | false =>
    simp only [HV]
    rw [if_neg (by simp)]
    by_cases h1 : x < 0
    · rw [if_pos (.inl h1)]; exact BIf_dpos h1 (RetE.mk _ _)
    · refine BIf_dneg h1 ?_
      refine Ld_obj hd (v := .int .i64 d.sec) rfl ?_
      simp only [HV]
      by_cases h2 : x ≥ d.sec
      · rw [if_pos (.inr h2)]; exact BIf_dpos h2 (RetE.mk _ _)
      · rw [if_neg (by omega)]; exact BIf_dneg h2 (RetE.mk _ _)
end
def D.burnt (d : D) : D := if d.fuse = 0 then d else { d with fuse := d.fuse - 1, down := decide (d.fuse = 1) }
def D.burns (d : D) : Bool := decide (d.fuse = 1)
theorem burns_tr {p : Nat} {d : D} (hf : d.fuse ≤ 9223372036854775807) : Tr Tryz.prog 71 #[.pointer (some ⟨p, 7, none⟩)] [Dk p d] fun v M => v = .bool d.burns ∧ M = [Dk p d.burnt] := fun H hs => by
  obtain ⟨r1, r2, r3, hs⟩ := Dk.open hs
  apply W_disk_power_burns.ok
  unfold W_disk_power_burns
  simp only [NN_some, Addr.add_lit', Addr.add_zero, Nat.zero_add, Nat.add_zero]
  refine hs.ld 0 rfl rfl ?_
  simp only [HV]
  by_cases h0 : d.fuse = 0
  · refine BIf_beqp (by omega) ⟨_, ⟨?_, rfl⟩, ?_⟩
    · unfold D.burns; rw [h0]; rfl
    · have : d.burnt = d := by unfold D.burnt; rw [if_pos h0]
      rw [this]; exact Dk.shut hs
  · refine BIf_beqn (by omega) ?_
    refine hs.ld 0 rfl rfl ?_
    simp only [HV]
    refine hs.st 0 rfl (by show 8 < 10; omega) rfl fun H hs => ?_
    refine hs.ld 0 rfl rfl ?_
    simp only [HV]
    rw [i64w (x := (d.fuse : Int) - 1) (by omega) (by omega)] at hs ⊢
    refine hs.st 0 rfl (by show 7 < 10; omega) rfl fun H hs => ?_
    refine hs.ld 0 rfl rfl ?_
    simp only [HV]
    have e : ((d.fuse : Int) - 1 == 0) = d.burns := by
      unfold D.burns
      by_cases h1 : d.fuse = 1
      · simp [h1]
      · rw [decide_eq_false h1]; simp; omega
    rw [e] at hs ⊢
    refine ⟨_, ⟨rfl, rfl⟩, ?_⟩
    have hb : d.burnt = { d with fuse := d.fuse - 1, down := d.burns } := by unfold D.burnt; rw [if_neg h0]; rfl
    rw [hb]
    refine Dk.shut (r1 := r1) (r2 := r2) (r3 := r3) ?_
    have ef : ((d.fuse - 1 : Nat) : Int) = (d.fuse : Int) - 1 := by omega
    unfold dskO
    simp only [ef]
    exact hs
end Go.Proofs.YtnknippcbecmeaaGreatDoor.Dsk
end
section
/- Formulas of functions, printed by wip/tools/hwp.py. -/
namespace Go.Proofs.YtnknippcbecmeaaGreatDoor.W
open Go Go.Hw
theorem mixWlmaps : Tryz.prog.follows .mixedOrders = true := by kernel_rfl
def W_maps_Copy_map_int_string_map_int_string_int_string.l1 (K : Value → Hp → Prop) : Nat → Option Nat → Value → Hp → Prop
  | 0, _, _, _ => False
  | k + 1, r3, v2, H =>
    let R1 := W_maps_Copy_map_int_string_map_int_string_int_string.l1 K k
    SemK Tryz.prog (Instr.next (v2) false 0) H fun v3 H2 => Ex v3 0 fun v4 => DB v4 fun c1 => BIf c1 (SemK Tryz.prog (Instr.entry (v2)) H2 fun v5 H3 => Ex v5 0 fun v6 => DI .i64 v6 fun x1 => Ex v5 1 fun v7 => DS v7 fun s1 => SemK Tryz.prog (Instr.mapUpdate 45 (.map r3) (.int .i64 x1) (.string s1)) H3 fun _ H4 => R1 r3 v2 H4) (K (.tuple #[]) H2)
def W_maps_Copy_map_int_string_map_int_string_int_string (r1 : Option Nat) (r2 : Option Nat) (H : Hp) (K : Value → Hp → Prop) : Prop :=
  SemK Tryz.prog (Instr.range 45 (.map r2)) H fun v1 H1 => (∃ k, W_maps_Copy_map_int_string_map_int_string_int_string.l1 K k r1 v1 H1)
def W_maps_Copy_map_int_string_map_int_string_int_string.l1.L (K : Value → Hp → Prop) (k : Nat) : Mid := fun E D H =>
  DG (E.get? 0) fun w0 => DM w0 fun r3 => DG (E.get? 7) fun w7 => (fun v2 => DNilD D (W_maps_Copy_map_int_string_map_int_string_int_string.l1 K k r3 v2 H)) w7
def W_maps_Copy_map_int_string_map_int_string_int_string.Λ1 (_ : Value → Hp → Prop) (_R1 : Option Nat → Value → Hp → Prop) : Cuts := Cuts.none (fun _ => none)
def W_maps_Copy_map_int_string_map_int_string_int_string.Λ (K : Value → Hp → Prop) : Cuts := ⟨fun i => none, fun i => match Nat.beq i 1 with | true => some (fun E D H => ∃ k, W_maps_Copy_map_int_string_map_int_string_int_string.l1.L K k E D H) | false => none, (fun _ => none)⟩
theorem W_maps_Copy_map_int_string_map_int_string_int_string.ok (r1 : Option Nat) (r2 : Option Nat) (H : Hp) (K : Value → Hp → Prop) (h : W_maps_Copy_map_int_string_map_int_string_int_string r1 r2 H K) : HCalls Tryz.prog 88 #[.map r1, .map r2] H K :=
  hcalls Tryz.func88 rfl (Nat.le_of_ble_eq_true rfl) (hw_safe (Λ := (W_maps_Copy_map_int_string_map_int_string_int_string.Λ K)) mixWlmaps _ _ _ _ _ (Eq.mp (by kernel_rfl) h) (obs_seq obs_region rfl (obs_block (obs_loop rfl (fun E D H h => by
      refine Safe.loop' (W_maps_Copy_map_int_string_map_int_string_int_string.l1.L K) (fun E D H h => ?_) (fun k E D H h => ?_) E D H h
      · obtain ⟨w0, e0, g1⟩ := DG.out h; obtain ⟨r3, rfl, g2⟩ := DM.out g1; obtain ⟨w7, e7, g3⟩ := DG.out g2; obtain ⟨v2, rfl⟩ : ∃ q, q = w7 := ⟨_, rfl⟩; obtain ⟨rfl, h'⟩ := DNilD.out g3; exact h'
      · obtain ⟨w0, e0, g1⟩ := DG.out h
        obtain ⟨r3, rfl, g2⟩ := DM.out g1
        obtain ⟨w7, e7, g3⟩ := DG.out g2
        obtain ⟨v2, rfl⟩ : ∃ q, q = w7 := ⟨_, rfl⟩
        obtain ⟨rfl, h'⟩ := DNilD.out g3
        exact (hw_safe (Λ := (W_maps_Copy_map_int_string_map_int_string_int_string.Λ1 K (W_maps_Copy_map_int_string_map_int_string_int_string.l1 K k))) mixWlmaps _ _ [(0, .map r3), (7, v2)] [] H (Eq.mp (by kernel_rfl) h') (obs_seq obs_region rfl (obs_seq (obs_cond obs_skip obs_exit) rfl (obs_block (obs_seq obs_region rfl obs_region))))).weaken (EnvLe.cons e0 (EnvLe.cons e7 (EnvLe.nil _))) (Hp.le_refl _))))))
end Go.Proofs.YtnknippcbecmeaaGreatDoor.W
end
section
/- disk: New, Read, Write, Sync. -/
namespace Go.Proofs.YtnknippcbecmeaaGreatDoor.Dsk
open Go Go.Hw W
theorem u_int : Tryz.prog.underlying 3 = some (.int .i64) := by kernel_rfl
theorem u_strm : Tryz.prog.underlying 45 = some (.map 3 9) := by kernel_rfl
theorem u_intm : Tryz.prog.underlying 48 = some (.map 3 3) := by kernel_rfl
theorem z_str : ∃ j, Tryz.prog.info? 9 = some j ∧ j.zero = some (.string ByteArray.empty) := by
  have h : (Tryz.prog.info? 9).map (·.zero) = some (some (.string ByteArray.empty)) := by kernel_rfl
  obtain ⟨j, hj, h2⟩ := Option.map_eq_some_iff.1 h
  exact ⟨j, hj, h2⟩
theorem c_u8 : cellInfo Tryz.prog 5 = some (1, 1, some #[.int .u8 0]) := by kernel_rfl
def D.fresh (sec size : Nat) : D := ⟨sec, size, fun _ => none, fun _ => none, fun _ => false, 0, 0, 0, false, 0⟩
def D.sat (d : D) (i : Int) : List UInt8 := (d.safe i).getD (List.replicate d.size 0)
def D.now (d : D) (i : Int) : List UInt8 := (d.cache i).getD (d.sat i)
theorem Ok.sat {d : D} (h : Ok d) (i : Int) : (d.sat i).length = d.size := by
  unfold D.sat
  cases e : d.safe i with
  | none => simp
  | some b => exact h.safe i b e
theorem Ok.now {d : D} (h : Ok d) (i : Int) : (d.now i).length = d.size := by
  unfold D.now
  cases e : d.cache i with
  | none => exact h.sat i
  | some b => exact h.cache i b e
theorem Ok.burnt {d : D} (h : Ok d) : Ok d.burnt := by
  unfold D.burnt
  split
  · exact h
  · exact ⟨h.sec, h.size, h.big, h.per, h.safe, h.cache, Nat.le_trans (Nat.sub_le _ _) h.fz⟩
theorem Ok.fresh {sec size : Nat} (h1 : 1 ≤ sec ∧ sec ≤ 1048576) (h2 : 0 < Lay.perN size) (h3 : sec * size ≤ 67108864) : Ok (D.fresh sec size) := by
  have h : size = 32 ∨ size = 64 ∨ size = 128 ∨ size = 256 ∨ size = 512 ∨ size = 1024 ∨ size = 2048 ∨ size = 4096 := by
    unfold Lay.perN at h2
    repeat' split at h2
    all_goals omega
  refine ⟨h1, ?_, h3, ?_, fun k b h => (by cases h), fun k b h => (by cases h), Nat.zero_le _⟩
  · show 32 ≤ size ∧ size ≤ 4096; omega
  · show size % 8 = 0; omega
theorem New_tr (sec size : Nat) (h1 : 1 ≤ sec ∧ sec ≤ 1048576) (h2 : 0 < Lay.perN size) (h3 : sec * size ≤ 67108864) : Tr Tryz.prog 21 #[.int .i64 sec, .int .i64 size] [] fun v M => ∃ p, v = .pointer (some ⟨p, 0, none⟩) ∧ M = [Dk p (D.fresh sec size)] := fun H hs => by
  apply W_disk_New.ok
  unfold W_disk_New
  have h32 : ¬ ((size : Int) < 32) := fun h => by rw [Lay.perN_small h] at h2; omega
  have h40 : ¬ ((size : Int) > 4096) := fun h => by rw [Lay.perN_great h] at h2; omega
  refine BIf_dneg (by omega) (BIf_dneg (by omega) (BIf_dneg h32 (BIf_dneg h40 ?_)))
  have ht := List.all_eq_true.1 Lay.pow_table size (by simp; omega)
  rw [if_pos (by omega)] at ht
  rw [show ((size : Int) - 1) = ((size - 1 : Nat) : Int) by omega, i64w (by omega) (by omega), Lay.bAnd_nat (by omega) (by omega)]
  split at ht
  · rename_i h4
    simp only [beq_iff_eq] at h4
    rw [h4]
    refine BIf_bnen rfl ⟨by omega, rfl, ?_⟩
    rw [show Int.tdiv 67108864 (size : Int) = ((67108864 / size : Nat) : Int) from rfl]
    have hd : sec ≤ 67108864 / size := (Nat.le_div_iff_mul_le (by omega)).2 h3
    have hle : 67108864 / size ≤ 67108864 := Nat.div_le_self _ _
    rw [i64n (by omega)]
    refine BIf_dneg (by omega) ?_
    refine hs.nw fun b1 H hs => ?_
    have hs := Mp.new hs
    refine hs.nw fun b2 H hs => ?_
    have hs := Mp.new hs
    refine hs.nw fun b3 H hs => ?_
    have hs := Mp.new hs
    refine hs.nw fun b4 H hs => ?_
    refine ⟨_, ⟨b4, rfl, rfl⟩, Dk.shut (r1 := b1) (r2 := b2) (r3 := b3) (hs.re [3, 0, 1, 2] rfl)⟩
  · simp only [beq_iff_eq] at ht
    omega
theorem get_tr {p : Nat} {d : D} (hok : Ok d) (i : Int) : Tr Tryz.prog 110 #[.pointer (some ⟨p, 0, none⟩), .int .i64 i] [Dk p d] fun v M => ∃ b, v = .slice (some ⟨b, 0, none⟩) d.size d.size ∧ M = [Dk p d, pts b (.row (byteVals (d.sat i)) 5 d.size)] := fun H hs => by
  obtain ⟨r1, r2, r3, hs⟩ := Dk.open hs
  obtain ⟨jz, hz1, hz2⟩ := z_str
  have hsz := hok.size
  apply W_disk_plates_get.ok
  unfold W_disk_plates_get
  simp only [NN_some, Addr.add_lit', Addr.add_zero, Nat.zero_add, Nat.add_zero]
  refine hs.ld 0 rfl rfl ?_
  simp only [HV]
  refine hs.mks c_u8 rfl (n := d.size) (m := d.size) rfl rfl (Nat.le_refl _) (by omega) (by omega) fun b H hs => ?_
  simp only [HV]
  refine hs.ld 0 rfl rfl ?_
  simp only [HV]
  obtain ⟨H1, ⟨l, clock, hr1, hgk⟩, hle⟩ := hs.see 1 rfl
  refine lookupK u_int u_strm hz1 hz2 (hle _ _ hr1) false ?_
  rw [hgk.get]
  have e : ∀ bs : List UInt8, (bs.length = d.size ∨ bs = []) → setAt (zeroRow [.int .u8 0] d.size) 0 (byteVals bs) = byteVals (if bs = [] then List.replicate d.size 0 else bs) := fun bs hb => by
    rw [zeroRow_one]
    rcases hb with hb | rfl
    · rw [setAt_all (by rw [byteVals_length, List.length_replicate]; exact hb), if_neg (fun e => by rw [e] at hb; simp at hb; omega)]
    · rw [show byteVals [] = [] from rfl, setAt_nil, if_pos rfl]
      simp [byteVals]
  have fin : ∀ bs : List UInt8, (bs.length = d.size ∨ bs = []) → (if bs = [] then List.replicate d.size 0 else bs) = d.sat i →
      CpK Tryz.prog 5 (.slice (some ⟨b, 0, none⟩) d.size d.size) (.string ⟨bs.toArray⟩) H fun v5 H2 => DI .i64 v5 fun x3 => ∃ M, (∃ b', (.slice (some ⟨b, 0, none⟩) d.size d.size : Value) = .slice (some ⟨b', 0, none⟩) d.size d.size ∧ M = [Dk p d, pts b' (.row (byteVals (d.sat i)) 5 d.size)]) ∧ Sep M H2 := fun bs hb hsat => by
    have hlb : bs.length ≤ d.size := by rcases hb with hb | rfl <;> simp_all
    refine hs.cp 4 (k := bs.length) (ys := byteVals bs) rfl c_u8 rfl ?_ (by rw [byteVals_length, zeroRow_length]; simp; omega) (fun y hy => ?_) fun H hs => ?_
    · rw [show Nat.min bs.length d.size = bs.length from Nat.min_eq_left hlb]
      show some (byteVals ((⟨bs.toArray⟩ : ByteArray).extract 0 bs.length).data.toList) = _
      congr 2
      simp [ByteArray.extract, ByteArray.copySlice]
    · obtain ⟨x, _, rfl⟩ := List.mem_map.1 hy; rfl
    · simp only [HV]
      refine ⟨_, ⟨b, rfl, rfl⟩, ?_⟩
      rw [e bs hb, hsat, Nat.mul_one] at hs
      exact Dk.shut (hs.re [0, 1, 2, 3, 4] rfl)
  unfold strM
  cases hsf : d.safe i with
  | none =>
    exact fin [] (.inr rfl) (by unfold D.sat; rw [hsf]; rfl)
  | some bs =>
    have := hok.safe i bs hsf
    exact fin bs (.inl this) (by unfold D.sat; rw [hsf, if_neg (fun e => by rw [e] at this; simp at this; omega)]; rfl)
def readQ (p : Nat) (d : D) (i : Int) (v : Value) (M : List As) : Prop :=
  (d.chk i ≠ 0 ∧ v = .tuple #[.slice none 0 0, .int .i64 (d.chk i)] ∧ M = [Dk p d]) ∨
  (d.chk i = 0 ∧ d.burns = true ∧ v = .tuple #[.slice none 0 0, .int .i64 8] ∧ M = [Dk p d.burnt]) ∨
  (d.chk i = 0 ∧ d.burns = false ∧ ∃ b c m, v = .tuple #[.slice (some ⟨b, 0, none⟩) d.size c, .int .i64 0] ∧ d.size ≤ c ∧ M = [Dk p { d.burnt with rd := d.rd + 1 }, pts b (.row (byteVals (d.now i)) 5 m)])
theorem burnt_rd (d : D) : d.burnt.rd = d.rd ∧ d.burnt.wr = d.wr ∧ d.burnt.sy = d.sy ∧ d.burnt.size = d.size ∧ d.burnt.sec = d.sec ∧ d.burnt.safe = d.safe ∧ d.burnt.cache = d.cache ∧ d.burnt.tch = d.tch := by
  unfold D.burnt; split <;> simp
theorem Read_tr {p : Nat} {d : D} (hok : Ok d) (ho : d.rd ≤ 4611686018427387904) (i : Int) : Tr Tryz.prog 63 #[.pointer (some ⟨p, 0, none⟩), .int .i64 i] [Dk p d] (readQ p d i) := fun H hs => by
  obtain ⟨jz, hz1, hz2⟩ := z_str
  have hsz := hok.size
  have hf := hok.fz
  apply W_disk_Disk_Read.ok
  unfold W_disk_Disk_Read
  simp only [NN_some, Addr.add_lit', Addr.add_zero, Nat.zero_add, Nat.add_zero]
  refine HCalls.use (check_s hs 0 rfl i) ?_
  try simp only [HV]
  by_cases hc : d.chk i = 0
  · refine BIf_bnen hc ?_
    refine (burns_tr hf).use hs [0] rfl rfl ?_
    rintro _ _ H ⟨rfl, rfl⟩ hs
    simp only [HV]
    cases hb : d.burns with
    | true => exact ⟨_, .inr (.inl ⟨hc, hb, rfl, rfl⟩), hs⟩
    | false =>
      simp only [HV]
      have hbr := burnt_rd d
      obtain ⟨r1, r2, r3, hs⟩ := Dk.open (L := []) hs
      refine hs.ld 0 rfl rfl ?_
      simp only [HV]
      refine hs.st 0 rfl (by show 3 < 10; omega) rfl fun H hs => ?_
      rw [hbr.1] at hs
      rw [i64w (x := (d.rd : Int) + 1) (by omega) (by omega)] at hs
      refine hs.ld 0 rfl rfl ?_
      simp only [HV]
      have hs : Sep [pts p (dskO { d.burnt with rd := d.rd + 1 } r1 r2 r3), Mp r1 (strM d.burnt.safe), Mp r2 (tchM d.burnt.tch), Mp r3 (strM d.burnt.cache)] H := hs
      obtain ⟨H1, ⟨l, clock, hr1, hgk⟩, hle⟩ := hs.see 3 rfl
      refine lookupK u_int u_strm hz1 hz2 (hle _ _ hr1) true ?_
      rw [hgk.get, hbr.2.2.2.2.2.2.1]
      unfold strM
      cases hcd : d.cache i with
      | some bs =>
        have hl := hok.cache i bs hcd
        simp only [Option.map_some, strV, if_true]
        simp only [HV]
        refine ⟨by show bs.toArray.size ≤ _; simp; omega, fun c hbc => ?_⟩
        refine hs.nw fun b H hs => ?_
        simp only [HV]
        have hsize : ((⟨bs.toArray⟩ : ByteArray).size) = d.size := by show bs.toArray.size = _; simpa using hl
        rw [hsize] at hbc ⊢
        refine ⟨_, .inr (.inr ⟨hc, hb, b, c, c, rfl, hbc, rfl⟩), ?_⟩
        have : d.now i = bs := by unfold D.now; rw [hcd]; rfl
        rw [this]
        exact Dk.shut hs
      | none =>
        simp only [Option.map_none, if_true]
        simp only [HV]
        have hs := Dk.shut (L := []) hs
        have hsat : (D.sat { d.burnt with rd := d.rd + 1 } i) = d.sat i := by unfold D.sat; rw [show ({ d.burnt with rd := d.rd + 1 } : D).safe = d.burnt.safe from rfl, hbr.2.2.2.2.2.1, show ({ d.burnt with rd := d.rd + 1 } : D).size = d.burnt.size from rfl, hbr.2.2.2.1]
        have hok2 : Ok { d.burnt with rd := d.rd + 1 } := ⟨hok.burnt.sec, hok.burnt.size, hok.burnt.big, hok.burnt.per, hok.burnt.safe, hok.burnt.cache, hok.burnt.fz⟩
        refine (get_tr hok2 i).use hs [0] rfl rfl ?_
        rintro _ _ H ⟨b, rfl, rfl⟩ hs
        simp only [HV]
        refine ⟨_, .inr (.inr ⟨hc, hb, b, d.size, d.size, ?_, Nat.le_refl _, rfl⟩), ?_⟩
        · show (Value.tuple #[.slice (some ⟨b, 0, none⟩) d.burnt.size d.burnt.size, .int .i64 0]) = _
          rw [hbr.2.2.2.1]
        · have : d.now i = d.sat i := by unfold D.now; rw [hcd]; rfl
          rw [this, ← hsat]
          have e : ({ d.burnt with rd := d.rd + 1 } : D).size = d.size := hbr.2.2.2.1
          rw [← e]
          exact hs
  · refine BIf_bnep hc ⟨_, .inl ⟨hc, rfl, rfl⟩, hs⟩
def updB (m : Int → Option (List UInt8)) (k : Int) (v : List UInt8) : Int → Option (List UInt8) := fun j => if j = k then some v else m j
def updT (m : Int → Bool) (k : Int) : Int → Bool := fun j => if j = k then true else m j
theorem updB_M (m : Int → Option (List UInt8)) (k : Int) (v : List UInt8) : updM (strM m) k (strV v) = strM (updB m k v) := by
  funext j
  unfold updM strM updB
  split <;> rfl
theorem updT_M (m : Int → Bool) (k : Int) : updM (tchM m) k (.int .i64 1) = tchM (updT m k) := by
  funext j
  unfold updM tchM updT
  split <;> rfl
def D.wrote (d : D) (i : Int) (bs : List UInt8) : D := { d.burnt with wr := d.wr + 1, tch := updT d.tch i, cache := updB d.cache i bs }
def D.writeE (d : D) (i : Int) (n : Nat) : Int := if d.chk i ≠ 0 then d.chk i else if n ≠ d.size then 19 else if d.burns then 8 else 0
def D.writeD (d : D) (i : Int) (bs : List UInt8) : D := if d.chk i ≠ 0 then d else if bs.length ≠ d.size then d else if d.burns then d.burnt else d.wrote i bs
theorem Write_tr {p : Nat} {d : D} (hok : Ok d) (ho : d.wr ≤ 4611686018427387904) (i : Int) (A : Option Addr) (n m : Nat) (bs : List UInt8) (hn : n = bs.length) (R : As) (hR : ∀ H, R H → Cells H A (byteVals bs)) :
    Tr Tryz.prog 35 #[.pointer (some ⟨p, 0, none⟩), .int .i64 i, .slice A n m] [Dk p d, R] fun v M => v = .int .i64 (d.writeE i n) ∧ M = [Dk p (d.writeD i bs), R] := fun H hs => by
  have hf := hok.fz
  have hsz := hok.size
  apply W_disk_Disk_Write.ok
  unfold W_disk_Disk_Write
  simp only [NN_some, Addr.add_lit', Addr.add_zero, Nat.zero_add, Nat.add_zero]
  refine HCalls.use (check_s hs 0 rfl i) ?_
  try simp only [HV]
  by_cases hc : d.chk i = 0
  · refine BIf_bnen hc ?_
    obtain ⟨r1, r2, r3, hd⟩ := Dk.see hs 0 rfl
    refine Ld_obj hd (v := .int .i64 d.size) rfl ?_
    simp only [HV]
    by_cases hnd : n = d.size
    · refine BIf_bnen (by omega) ?_
      have hnl : bs.length = d.size := by omega
      refine (burns_tr hf).use hs [0] rfl rfl ?_
      rintro _ _ H ⟨rfl, rfl⟩ hs
      simp only [HV]
      cases hb : d.burns with
      | true => exact ⟨_, ⟨by simp [D.writeE, hc, hnd, hb], by simp [D.writeD, hc, hnl, hb]; rfl⟩, hs⟩
      | false =>
        simp only [HV]
        have hbr := burnt_rd d
        obtain ⟨r1, r2, r3, hs⟩ := Dk.open hs
        refine hs.ld 0 rfl rfl ?_
        simp only [HV]
        refine hs.st 0 rfl (by show 4 < 10; omega) rfl fun H hs => ?_
        rw [hbr.2.1] at hs
        rw [i64w (x := (d.wr : Int) + 1) (by omega) (by omega)] at hs
        refine hs.ld 0 rfl rfl ?_
        simp only [HV]
        refine hs.upd u_int u_intm 2 rfl fun H hs => ?_
        rw [updT_M, hbr.2.2.2.2.2.2.2] at hs
        refine hs.ld 0 rfl rfl ?_
        simp only [HV]
        obtain ⟨H1, hR1, hle⟩ := hs.see 4 (A := R) rfl
        refine BsK_of ((hR H1 hR1).le hle) hn ?_
        refine hs.upd u_int u_strm 3 rfl fun H hs => ?_
        rw [show (Value.string ⟨bs.toArray⟩) = strV bs from rfl, updB_M, hbr.2.2.2.2.2.2.1] at hs
        refine ⟨_, ⟨by simp [D.writeE, hc, hnd, hb], by simp [D.writeD, hc, hnl, hb]; rfl⟩, ?_⟩
        exact Dk.shut (d := d.wrote i bs) (r1 := r1) (r2 := r2) (r3 := r3) hs
    · refine BIf_bnep (by omega) ?_
      have hnl : bs.length ≠ d.size := by omega
      exact ⟨_, ⟨by simp [D.writeE, hc, hnd], by simp [D.writeD, hc, hnl]⟩, hs⟩
  · refine BIf_bnep hc ?_
    exact ⟨_, ⟨by simp [D.writeE, hc], by simp [D.writeD, hc]⟩, hs⟩
theorem chk_in {d : D} {i : Int} (h : d.chk i = 0) : 0 ≤ i ∧ i < d.sec ∧ d.down = false := by
  unfold D.chk at h
  split at h
  · omega
  · split at h
    · omega
    · rename_i h1 h2
      exact ⟨by omega, by omega, by simpa using h1⟩
end Go.Proofs.YtnknippcbecmeaaGreatDoor.Dsk
end
section
/- layout: places; the law LayoutPlaces. -/
namespace Go.Proofs.YtnknippcbecmeaaGreatDoor.Lay
open Go Go.Hw W
def extV (f s w : Int) : Array Value := #[.int .i64 f, .int .i64 s, .int .i64 w]
def layV (k p : Nat) : Array Value :=
  let r : Int := roomN k p
  let w : Int := (2 ^ k : Nat)
  #[.int .i64 k, .int .i64 p, .int .i64 1, .int .i64 8, .int .i64 ((8 * p : Nat) : Int), .int .i64 9, .int .i64 r, .int .i64 w, .int .i64 (9 + r), .int .i64 r, .int .i64 w, .int .i64 (9 + 2 * r), .int .i64 r, .int .i64 w, .int .i64 (9 + 3 * r), .int .i64 r, .int .i64 w]
def layZ : Array Value := #[.int .i64 0, .int .i64 0, .int .i64 0, .int .i64 0, .int .i64 0, .int .i64 0, .int .i64 0, .int .i64 0, .int .i64 0, .int .i64 0, .int .i64 0, .int .i64 0, .int .i64 0, .int .i64 0, .int .i64 0, .int .i64 0, .int .i64 0]
theorem lay_round (K : Value → Hp → Prop) (d b1 b2 : Nat) (e : TypeId) (k : Nat) (hk : k ≤ 32) (H : Hp) (c : Array Value) (hc : c.size = 17) (x r : Int) (hx : 0 ≤ x ∧ x ≤ 100000000000) (hr : 0 ≤ r ∧ r ≤ 100000000000) (i : Nat) (hi : i < 4)
    (h : W_layout_lay.l4 K d (k : Int) ⟨b1, 0, none⟩ ⟨b2, 0, none⟩ (x + r) r ((i + 1 : Nat) : Int) (H.set b2 (.obj (.cells (setAt c.toList (5 + i * 3) (extV x r ((2 ^ k : Nat) : Int)).toList).toArray e)))) :
    W_layout_lay.l4 K (d + 1) (k : Int) ⟨b1, 0, none⟩ ⟨b2, 0, none⟩ x r (i : Int) (H.set b2 (.obj (.cells c e))) := by
  conv => unfold W_layout_lay.l4
  refine BIf_dpos (by omega) ⟨by rw [u64n (by omega)]; omega, by omega, by omega, ?_⟩
  simp only [Addr.add_lit', Int.toNat_natCast, Nat.zero_add]
  rw [u64n (by omega), shl_one (by omega)]
  refine StA_lit (Hp.set_same _ _ _) (by omega) (by rfl) (by rfl) ?_
  rw [Hp.set_set, i64w (x := x + r) (by omega) (by omega), i64w (x := (i : Int) + 1) (by omega) (by omega)]
  exact h
theorem lay_ok {k p : Nat} (hk : k ≤ 32) (hp : 0 < p) (hp2 : p ≤ 512) (H : Hp) : HCalls Tryz.prog 79 #[.int .i64 k, .int .i64 p] H (RetE (.agg (layV k p)) H) := by
  apply HCalls.ret
  apply W_layout_lay.ok
  unfold W_layout_lay
  intro b1 hb1
  intro b2 hb2'
  obtain ⟨hne, hb2⟩ := Hp.set_none hb2'
  refine StA_all (Hp.set_same _ _ _) (by rfl) (by rfl) (by rfl) ?_
  rw [Hp.set_set]
  refine HCalls.use (room_ok (k := k) (p := p) (by omega) hp (by omega) _) ?_
  try simp only [HV]
  have hr := roomN_le (k := k) (p := p) (by omega)
  have w8 : IntKind.i64.wrap (8 * (p : Int)) = ((8 * p : Nat) : Int) := by rw [i64w (by omega) (by omega)]; omega
  rw [w8]
  refine ⟨5, ?_⟩
  refine lay_round _ 4 b1 b2 _ k hk _ _ (by rfl) 9 _ (by omega) (by omega) 0 (by omega) ?_
  refine lay_round _ 3 b1 b2 _ k hk _ _ (by rfl) _ _ (by omega) (by omega) 1 (by omega) ?_
  refine lay_round _ 2 b1 b2 _ k hk _ _ (by rfl) _ _ (by omega) (by omega) 2 (by omega) ?_
  refine lay_round _ 1 b1 b2 _ k hk _ _ (by rfl) _ _ (by omega) (by omega) 3 (by omega) ?_
  unfold W_layout_lay.l4
  refine BIf_dneg (by decide) ?_
  have hv : (setAt (setAt (setAt (setAt (#[.int .i64 (k : Int), .int .i64 (p : Int), .int .i64 1, .int .i64 8, .int .i64 ((8 * p : Nat) : Int), .int .i64 0, .int .i64 0, .int .i64 0, .int .i64 0, .int .i64 0, .int .i64 0, .int .i64 0, .int .i64 0, .int .i64 0, .int .i64 0, .int .i64 0, .int .i64 0] : Array Value).toList
      (5 + 0 * 3) (extV 9 (roomN k p) ((2 ^ k : Nat) : Int)).toList).toArray.toList (5 + 1 * 3) (extV (9 + roomN k p) (roomN k p) ((2 ^ k : Nat) : Int)).toList).toArray.toList (5 + 2 * 3) (extV (9 + roomN k p + roomN k p) (roomN k p) ((2 ^ k : Nat) : Int)).toList).toArray.toList (5 + 3 * 3) (extV (9 + roomN k p + roomN k p + roomN k p) (roomN k p) ((2 ^ k : Nat) : Int)).toList).toArray = layV k p := by
    have e2 : (9 + (roomN k p : Int) + roomN k p) = 9 + 2 * roomN k p := by omega
    have e3 : (9 + 2 * (roomN k p : Int) + roomN k p) = 9 + 3 * roomN k p := by omega
    rw [e2, e3]
    rfl
  rw [hv]
  refine LdA_obj (Hp.set_same _ _ _) (by rfl) ?_
  refine StA_all (c := layZ) (y := (layV k p)) (by rw [Hp.set_other _ _ (Ne.symm hne)]; exact Hp.set_same _ _ _) (by rfl) (by rfl) (by rfl) ?_
  refine LdA_obj (Hp.set_same _ _ _) (by rfl) ?_
  exact ⟨rfl, fun b q hq => by
    have h1 : b ≠ b1 := fun e => by rw [e, hb1] at hq; cases hq
    have h2 : b ≠ b2 := fun e => by rw [e, hb2] at hq; cases hq
    rw [Hp.set_other _ _ h1, Hp.set_other _ _ h2, Hp.set_other _ _ h1]; exact hq⟩
def OfV (k sec s : Int) : Array Value × Int :=
  if 0 ≤ k ∧ k ≤ 32 ∧ 0 < perN s then (if sec < needN k.toNat (perN s) then (layZ, 7) else (layV k.toNat (perN s), 0)) else (layZ, 1)
theorem Of_ok (k sec s : Int) (H : Hp) : HCalls Tryz.prog 43 #[.int .i64 k, .int .i64 sec, .int .i64 s] H (RetE (.tuple #[.agg (OfV k sec s).1, .int .i64 (OfV k sec s).2]) H) := by
  apply HCalls.ret
  apply W_layout_Of.ok
  unfold W_layout_Of
  intro b hb
  have hle := fun o => Hp.le_set (o := o) hb
  refine HCalls.use (Need_ok k s _) ?_
  try simp only [HV]
  unfold OfV NeedV
  by_cases h : 0 ≤ k ∧ k ≤ 32 ∧ 0 < perN s
  · rw [if_pos h, if_pos h]
    refine BIf_neg (by rfl) ?_
    by_cases h2 : sec < (needN k.toNat (perN s) : Int)
    · rw [if_pos h2]
      refine BIf_dpos h2 ?_
      refine StA_all (Hp.set_same _ _ _) (by rfl) (by rfl) (by rfl) (LdA_obj (Hp.set_same _ _ _) (by rfl) ?_)
      rw [Hp.set_set]
      exact ⟨rfl, hle _⟩
    · rw [if_neg h2]
      refine BIf_dneg h2 ?_
      refine HCalls.use (per_ok s _) ?_
      try simp only [HV]
      obtain ⟨n, rfl⟩ := Int.eq_ofNat_of_zero_le h.1
      have := perN_le s
      refine HCalls.use (lay_ok (k := n) (p := perN s) (by omega) h.2.2 this _) ?_
      try simp only [HV]
      refine StA_all (Hp.set_same _ _ _) (by rfl) (by rfl) (by rfl) (LdA_obj (Hp.set_same _ _ _) (by rfl) ?_)
      rw [Hp.set_set]
      exact ⟨rfl, hle _⟩
  · rw [if_neg h, if_neg h]
    refine BIf_pos (by rfl) ?_
    refine StA_all (Hp.set_same _ _ _) (by rfl) (by rfl) (by rfl) (LdA_obj (Hp.set_same _ _ _) (by rfl) ?_)
    rw [Hp.set_set]
    exact ⟨rfl, hle _⟩
def SectorV (f s w p i : Int) : Int × Int × Int := if p < 1 ∨ i < 0 ∨ i ≥ w ∨ Int.tdiv i p ≥ s then (0, 0, 2) else (f + Int.tdiv i p, Int.tmod i p, 0)
theorem Sector_ok (f s w p i : Int) (hf : 0 ≤ f ∧ f ≤ 1000000000000) (hw : w ≤ 1000000000000) (H : Hp) :
    HCalls Tryz.prog 127 #[.agg (extV f s w), .int .i64 p, .int .i64 i] H (RetE (.tuple #[.int .i64 (SectorV f s w p i).1, .int .i64 (SectorV f s w p i).2.1, .int .i64 (SectorV f s w p i).2.2]) H) := by
  apply HCalls.ret
  apply W_layout_Sector.ok
  unfold W_layout_Sector
  intro b hb
  have hle := Hp.le_set (o := .obj (.cells #[.int .i64 f, .int .i64 s, .int .i64 w] 30)) hb
  simp only [Addr.add_lit', Nat.zero_add]
  have no : (p < 1 ∨ i < 0 ∨ i ≥ w ∨ Int.tdiv i p ≥ s) → Ret (.tuple #[.int .i64 (SectorV f s w p i).1, .int .i64 (SectorV f s w p i).2.1, .int .i64 (SectorV f s w p i).2.2]) H (.tuple #[.int .i64 0, .int .i64 0, .int .i64 2]) (H.set b (.obj (.cells #[.int .i64 f, .int .i64 s, .int .i64 w] 30))) := fun h => by
    unfold SectorV; rw [if_pos h]; exact ⟨rfl, hle⟩
  rw [BIf_decide, BIf_decide]
  split
  · exact no (by omega)
  split
  · exact no (by omega)
  refine Ld_obj (Hp.set_same _ _ _) (v := .int .i64 w) rfl ?_
  simp only [HV]
  rw [BIf_decide]
  split
  · exact no (by omega)
  refine ⟨by omega, by simp, ?_⟩
  refine Ld_obj (Hp.set_same _ _ _) (v := .int .i64 s) rfl ?_
  simp only [HV]
  have h1 : 0 ≤ Int.tdiv i p := Int.tdiv_nonneg (by omega) (by omega)
  have h2 : Int.tdiv i p ≤ i := by
    obtain ⟨a, rfl⟩ := Int.eq_ofNat_of_zero_le (show 0 ≤ i by omega)
    obtain ⟨c, rfl⟩ := Int.eq_ofNat_of_zero_le (show 0 ≤ p by omega)
    exact Int.ofNat_le.2 (Nat.div_le_self a c)
  rw [i64w (x := Int.tdiv i p) (by omega) (by omega), BIf_decide]
  split
  · rename_i h3; exact no (by omega)
  refine Ld_obj (Hp.set_same _ _ _) (v := .int .i64 f) rfl ?_
  simp only [HV]
  refine ⟨by omega, by simp, by omega, by simp, ?_⟩
  rw [i64w (x := f + Int.tdiv i p) (by omega) (by omega)]
  unfold SectorV
  rw [if_neg (by omega)]
  exact ⟨rfl, hle⟩
def exF (r : Int) (i : Nat) : Int := 9 + i * r
theorem lay_first (k p i : Nat) (hi : i < 4) : (layV k p)[5 + i * 3]? = some (.int .i64 (exF (roomN k p) i)) := by
  unfold exF
  rcases (by omega : i = 0 ∨ i = 1 ∨ i = 2 ∨ i = 3) with rfl | rfl | rfl | rfl <;> simp [layV]
section
variable (K : Value → Hp → Prop) (k p e : Nat) (hk : k ≤ 10) (b1 b2 : Nat) (H0 H : Hp) (hle : H0.le H) (h1 : H b1 = some (.obj (.cells (layV k p) 33))) (h2 : H b2 = some (.obj (.cells (extV (exF (roomN k p) e) (roomN k p) ((2 ^ k : Nat) : Int)) 30)))
include hk hle h1 h2
end
end Go.Proofs.YtnknippcbecmeaaGreatDoor.Lay
end
section
/- Formulas of functions, printed by wip/tools/hwp.py. -/
namespace Go.Proofs.YtnknippcbecmeaaGreatDoor.W
open Go Go.Hw
theorem mixWcodec : Tryz.prog.follows .mixedOrders = true := by kernel_rfl
def W_codec_Put.l3 (K : Value → Hp → Prop) : Nat → Option Addr → Nat → Nat → Option Addr → Nat → Nat → Int → Int → Hp → Prop
  | 0, _, _, _, _, _, _, _, _, _ => False
  | k + 1, A3, n3, m3, A4, n4, m4, x1, x2, H =>
    let R3 := W_codec_Put.l3 K k
    BIf (decide (x2 < x1)) (ixI x2 n4 (NN A4 fun a1 => Ld H (a1.add (x2.toNat * 1)) fun v2 => DI .u64 v2 fun x3 => slB n3 m3 (some (IntKind.i64.wrap ((8 : Int) * x2))) none fun n5 n6 => HCalls Tryz.prog 148 #[.slice (slA A3 m3 n5 1) (n6 - n5) (m3 - n5), .int .u64 x3] H fun v3 H2 => R3 A3 n3 m3 A4 n4 m4 x1 (IntKind.i64.wrap (x2 + (1 : Int))) H2)) (K (.slice A3 n3 m3) H)
def W_codec_Put (A1 : Option Addr) (n1 : Nat) (m1 : Nat) (H : Hp) (K : Value → Hp → Prop) : Prop :=
  MkS Tryz.prog 5 (IntKind.i64.wrap ((8 : Int) * ((n1 : Nat) : Int))) (IntKind.i64.wrap ((8 : Int) * ((n1 : Nat) : Int))) H fun v1 H1 => DSl v1 fun A2 n2 m2 => (∃ k, W_codec_Put.l3 K k A2 n2 m2 A1 n1 m1 ((n1 : Nat) : Int) (0 : Int) H1)
def W_codec_Put.l3.L (K : Value → Hp → Prop) (k : Nat) : Mid := fun E D H =>
  DG (E.get? 3) fun w3 => DSl w3 fun A3 n3 m3 => DG (E.get? 10) fun w10 => DSl w10 fun A4 n4 m4 => eI E 11 .i64 fun x1 => eI E 12 .i64 fun x2 => DNilD D (W_codec_Put.l3 K k A3 n3 m3 A4 n4 m4 x1 x2 H)
def W_codec_Put.Λ3 (_ : Value → Hp → Prop) (_R3 : Option Addr → Nat → Nat → Option Addr → Nat → Nat → Int → Int → Hp → Prop) : Cuts := Cuts.none (fun _ => none)
def W_codec_Put.Λ (K : Value → Hp → Prop) : Cuts := ⟨fun i => none, fun i => match Nat.beq i 3 with | true => some (fun E D H => ∃ k, W_codec_Put.l3.L K k E D H) | false => none, (fun _ => none)⟩
theorem W_codec_Put.ok (A1 : Option Addr) (n1 : Nat) (m1 : Nat) (H : Hp) (K : Value → Hp → Prop) (h : W_codec_Put A1 n1 m1 H K) : HCalls Tryz.prog 114 #[.slice A1 n1 m1] H K :=
  hcalls Tryz.func114 rfl (Nat.le_of_ble_eq_true rfl) (hw_safe (Λ := (W_codec_Put.Λ K)) mixWcodec _ _ _ _ _ (Eq.mp (by kernel_rfl) h) (obs_seq obs_region rfl (obs_seq obs_region rfl (obs_seq (obs_seq obs_region rfl (obs_block (obs_loop rfl (fun E D H h => by
      refine Safe.loop' (W_codec_Put.l3.L K) (fun E D H h => ?_) (fun k E D H h => ?_) E D H h
      · obtain ⟨w3, e3, g1⟩ := DG.out h; obtain ⟨A3, n3, m3, rfl, g2⟩ := DSl.out g1; obtain ⟨w10, e10, g3⟩ := DG.out g2; obtain ⟨A4, n4, m4, rfl, g4⟩ := DSl.out g3; obtain ⟨w11, e11, g5⟩ := DG.out g4; obtain ⟨x1, rfl, g6⟩ := DI.out g5; obtain ⟨w12, e12, g7⟩ := DG.out g6; obtain ⟨x2, rfl, g8⟩ := DI.out g7; obtain ⟨rfl, h'⟩ := DNilD.out g8; exact h'
      · obtain ⟨w3, e3, g1⟩ := DG.out h
        obtain ⟨A3, n3, m3, rfl, g2⟩ := DSl.out g1
        obtain ⟨w10, e10, g3⟩ := DG.out g2
        obtain ⟨A4, n4, m4, rfl, g4⟩ := DSl.out g3
        obtain ⟨x1, e11, g6⟩ := GI g4; obtain ⟨x2, e12, g8⟩ := GI g6; obtain ⟨rfl, h'⟩ := DNilD.out g8
        exact (hw_safe (Λ := (W_codec_Put.Λ3 K (W_codec_Put.l3 K k))) mixWcodec _ _ [(3, .slice A3 n3 m3), (10, .slice A4 n4 m4), (11, .int .i64 x1), (12, .int .i64 x2)] [] H (Eq.mp (by kernel_rfl) h') (obs_seq obs_region rfl (obs_seq (obs_cond obs_skip obs_exit) rfl (obs_seq (obs_block (obs_seq obs_region rfl obs_region)) rfl obs_region)))).weaken (EnvLe.cons e3 (EnvLe.cons e10 (EnvLe.cons e11 (EnvLe.cons e12 (EnvLe.nil _))))) (Hp.le_refl _))))) rfl (obs_seq obs_region rfl obs_ret)))))
def W_codec_Word (A1 : Option Addr) (n1 : Nat) (m1 : Nat) (x1 : Int) (H : Hp) (K : Value → Hp → Prop) : Prop :=
  HCalls Tryz.prog 163 #[.slice A1 n1 m1, .int .i64 x1] H fun v1 H1 => DB v1 fun c1 => BIf (!c1) (K (.tuple #[.int .u64 0, .int .i64 2]) H1) (slB n1 m1 (some (IntKind.i64.wrap ((8 : Int) * x1))) none fun n2 n3 => HCalls Tryz.prog 164 #[.slice (slA A1 m1 n2 1) (n3 - n2) (m1 - n2)] H1 fun v2 H2 => DI .u64 v2 fun x2 => K (.tuple #[.int .u64 x2, .int .i64 0]) H2)
theorem W_codec_Word.ok (A1 : Option Addr) (n1 : Nat) (m1 : Nat) (x1 : Int) (H : Hp) (K : Value → Hp → Prop) (h : W_codec_Word A1 n1 m1 x1 H K) : HCalls Tryz.prog 130 #[.slice A1 n1 m1, .int .i64 x1] H K :=
  hcalls Tryz.func130 rfl (Nat.le_of_ble_eq_true rfl) (hw_safe (Λ := Cuts.none (fun _ => none)) mixWcodec _ _ _ _ _ (Eq.mp (by kernel_rfl) h) (obs_none _ _ _ _ _))
def W_codec_set.l1 (K : Value → Hp → Prop) : Nat → Option Addr → Nat → Nat → Int → Int → Hp → Prop
  | 0, _, _, _, _, _, _ => False
  | k + 1, A2, n2, m2, x2, x3, H =>
    let R1 := W_codec_set.l1 K k
    BIf (decide (x3 < (8 : Int))) ((0 ≤ (IntKind.u64.wrap (IntKind.i64.wrap ((8 : Int) * x3))) ∧ ixI x3 n2 (NN A2 fun a1 => St H ((a1.add (x3.toNat * 1)).add 0) (.int .u8 (IntKind.u8.wrap (shrI .u64 x2 (IntKind.u64.wrap (IntKind.i64.wrap ((8 : Int) * x3)))))) fun H1 => R1 A2 n2 m2 x2 (IntKind.i64.wrap (x3 + (1 : Int))) H1))) (K (.tuple #[]) H)
def W_codec_set (A1 : Option Addr) (n1 : Nat) (m1 : Nat) (x1 : Int) (H : Hp) (K : Value → Hp → Prop) : Prop :=
  (∃ k, W_codec_set.l1 K k A1 n1 m1 x1 (0 : Int) H)
def W_codec_set.l1.L (K : Value → Hp → Prop) (k : Nat) : Mid := fun E D H =>
  DG (E.get? 0) fun w0 => DSl w0 fun A2 n2 m2 => eI E 1 .u64 fun x2 => eI E 5 .i64 fun x3 => DNilD D (W_codec_set.l1 K k A2 n2 m2 x2 x3 H)
def W_codec_set.Λ1 (_ : Value → Hp → Prop) (_R1 : Option Addr → Nat → Nat → Int → Int → Hp → Prop) : Cuts := Cuts.none (fun _ => none)
def W_codec_set.Λ (K : Value → Hp → Prop) : Cuts := ⟨fun i => none, fun i => match Nat.beq i 1 with | true => some (fun E D H => ∃ k, W_codec_set.l1.L K k E D H) | false => none, (fun _ => none)⟩
theorem W_codec_set.ok (A1 : Option Addr) (n1 : Nat) (m1 : Nat) (x1 : Int) (H : Hp) (K : Value → Hp → Prop) (h : W_codec_set A1 n1 m1 x1 H K) : HCalls Tryz.prog 148 #[.slice A1 n1 m1, .int .u64 x1] H K :=
  hcalls Tryz.func148 rfl (Nat.le_of_ble_eq_true rfl) (hw_safe (Λ := (W_codec_set.Λ K)) mixWcodec _ _ _ _ _ (Eq.mp (by kernel_rfl) h) (obs_seq obs_region rfl (obs_block (obs_loop rfl (fun E D H h => by
      refine Safe.loop' (W_codec_set.l1.L K) (fun E D H h => ?_) (fun k E D H h => ?_) E D H h
      · obtain ⟨w0, e0, g1⟩ := DG.out h; obtain ⟨A2, n2, m2, rfl, g2⟩ := DSl.out g1; obtain ⟨w1, e1, g3⟩ := DG.out g2; obtain ⟨x2, rfl, g4⟩ := DI.out g3; obtain ⟨w5, e5, g5⟩ := DG.out g4; obtain ⟨x3, rfl, g6⟩ := DI.out g5; obtain ⟨rfl, h'⟩ := DNilD.out g6; exact h'
      · obtain ⟨w0, e0, g1⟩ := DG.out h
        obtain ⟨A2, n2, m2, rfl, g2⟩ := DSl.out g1
        obtain ⟨x2, e1, g4⟩ := GI g2; obtain ⟨x3, e5, g6⟩ := GI g4; obtain ⟨rfl, h'⟩ := DNilD.out g6
        exact (hw_safe (Λ := (W_codec_set.Λ1 K (W_codec_set.l1 K k))) mixWcodec _ _ [(0, .slice A2 n2 m2), (1, .int .u64 x2), (5, .int .i64 x3)] [] H (Eq.mp (by kernel_rfl) h') (obs_seq obs_region rfl (obs_seq (obs_cond obs_skip obs_exit) rfl (obs_seq (obs_block (obs_seq obs_region rfl obs_region)) rfl obs_region)))).weaken (EnvLe.cons e0 (EnvLe.cons e1 (EnvLe.cons e5 (EnvLe.nil _)))) (Hp.le_refl _))))))
def W_codec_inside (A1 : Option Addr) (n1 : Nat) (m1 : Nat) (x1 : Int) (H : Hp) (K : Value → Hp → Prop) : Prop :=
  BIf (decide (x1 ≥ (0 : Int))) (((8 : Int) ≠ 0 ∧ IntKind.i64 = IntKind.i64 ∧ K (.bool (decide (x1 < (IntKind.i64.wrap (Int.tdiv ((n1 : Nat) : Int) (8 : Int)))))) H)) (K (.bool false) H)
theorem W_codec_inside.ok (A1 : Option Addr) (n1 : Nat) (m1 : Nat) (x1 : Int) (H : Hp) (K : Value → Hp → Prop) (h : W_codec_inside A1 n1 m1 x1 H K) : HCalls Tryz.prog 163 #[.slice A1 n1 m1, .int .i64 x1] H K :=
  hcalls Tryz.func163 rfl (Nat.le_of_ble_eq_true rfl) (hw_safe (Λ := Cuts.none (fun _ => none)) mixWcodec _ _ _ _ _ (Eq.mp (by kernel_rfl) h) (obs_none _ _ _ _ _))
def W_codec_word.l3 (K : Value → Hp → Prop) : Nat → Option Addr → Nat → Nat → Int → Int → Hp → Prop
  | 0, _, _, _, _, _, _ => False
  | k + 1, A2, n2, m2, x1, x2, H =>
    let R3 := W_codec_word.l3 K k
    BIf (decide (x2 ≥ (0 : Int))) ((0 ≤ (8 : Int) ∧ ixI x2 n2 (NN A2 fun a1 => Ld H (a1.add (x2.toNat * 1)) fun v1 => DI .u8 v1 fun x3 => R3 A2 n2 m2 (bOr .u64 (shlI .u64 x1 (8 : Int)) (IntKind.u64.wrap x3)) (IntKind.i64.wrap (x2 - (1 : Int))) H))) (K (.int .u64 x1) H)
def W_codec_word (A1 : Option Addr) (n1 : Nat) (m1 : Nat) (H : Hp) (K : Value → Hp → Prop) : Prop :=
  (∃ k, W_codec_word.l3 K k A1 n1 m1 (0 : Int) (7 : Int) H)
def W_codec_word.l3.L (K : Value → Hp → Prop) (k : Nat) : Mid := fun E D H =>
  DG (E.get? 0) fun w0 => DSl w0 fun A2 n2 m2 => eI E 3 .u64 fun x1 => eI E 4 .i64 fun x2 => DNilD D (W_codec_word.l3 K k A2 n2 m2 x1 x2 H)
def W_codec_word.Λ3 (_ : Value → Hp → Prop) (_R3 : Option Addr → Nat → Nat → Int → Int → Hp → Prop) : Cuts := Cuts.none (fun _ => none)
def W_codec_word.Λ (K : Value → Hp → Prop) : Cuts := ⟨fun i => none, fun i => match Nat.beq i 3 with | true => some (fun E D H => ∃ k, W_codec_word.l3.L K k E D H) | false => none, (fun _ => none)⟩
theorem W_codec_word.ok (A1 : Option Addr) (n1 : Nat) (m1 : Nat) (H : Hp) (K : Value → Hp → Prop) (h : W_codec_word A1 n1 m1 H K) : HCalls Tryz.prog 164 #[.slice A1 n1 m1] H K :=
  hcalls Tryz.func164 rfl (Nat.le_of_ble_eq_true rfl) (hw_safe (Λ := (W_codec_word.Λ K)) mixWcodec _ _ _ _ _ (Eq.mp (by kernel_rfl) h) (obs_seq obs_region rfl (obs_seq obs_region rfl (obs_seq (obs_seq obs_region rfl (obs_block (obs_loop rfl (fun E D H h => by
      refine Safe.loop' (W_codec_word.l3.L K) (fun E D H h => ?_) (fun k E D H h => ?_) E D H h
      · obtain ⟨w0, e0, g1⟩ := DG.out h; obtain ⟨A2, n2, m2, rfl, g2⟩ := DSl.out g1; obtain ⟨w3, e3, g3⟩ := DG.out g2; obtain ⟨x1, rfl, g4⟩ := DI.out g3; obtain ⟨w4, e4, g5⟩ := DG.out g4; obtain ⟨x2, rfl, g6⟩ := DI.out g5; obtain ⟨rfl, h'⟩ := DNilD.out g6; exact h'
      · obtain ⟨w0, e0, g1⟩ := DG.out h
        obtain ⟨A2, n2, m2, rfl, g2⟩ := DSl.out g1
        obtain ⟨x1, e3, g4⟩ := GI g2; obtain ⟨x2, e4, g6⟩ := GI g4; obtain ⟨rfl, h'⟩ := DNilD.out g6
        exact (hw_safe (Λ := (W_codec_word.Λ3 K (W_codec_word.l3 K k))) mixWcodec _ _ [(0, .slice A2 n2 m2), (3, .int .u64 x1), (4, .int .i64 x2)] [] H (Eq.mp (by kernel_rfl) h') (obs_seq (obs_seq obs_region rfl (obs_cond obs_skip obs_exit)) rfl (obs_seq (obs_block obs_region) rfl obs_region))).weaken (EnvLe.cons e0 (EnvLe.cons e3 (EnvLe.cons e4 (EnvLe.nil _)))) (Hp.le_refl _))))) rfl (obs_seq obs_region rfl obs_ret)))))
end Go.Proofs.YtnknippcbecmeaaGreatDoor.W
end
section
/- Formulas of functions, printed by wip/tools/hwp.py. -/
namespace Go.Proofs.YtnknippcbecmeaaGreatDoor.W
open Go Go.Hw
theorem mixWabacistref04 : Tryz.prog.follows .mixedOrders = true := by kernel_rfl
def W_abacistref04_Same.l4 (K : Value → Hp → Prop) : Nat → Option Addr → Nat → Nat → Option Addr → Nat → Nat → Int → Hp → Prop
  | 0, _, _, _, _, _, _, _, _ => False
  | k + 1, A3, n3, m3, A4, n4, m4, x1, H =>
    let R4 := W_abacistref04_Same.l4 K k
    BIf (decide (x1 < ((n3 : Nat) : Int))) (ixI x1 n3 (NN A3 fun a1 => Ld H (a1.add (x1.toNat * 1)) fun v1 => DI .u64 v1 fun x2 => ixI x1 n4 (NN A4 fun a2 => Ld H (a2.add (x1.toNat * 1)) fun v2 => DI .u64 v2 fun x3 => BIf (x2 != x3) (K (.bool false) H) (R4 A3 n3 m3 A4 n4 m4 (IntKind.i64.wrap (x1 + (1 : Int))) H)))) (K (.bool true) H)
def W_abacistref04_Same (A1 : Option Addr) (n1 : Nat) (m1 : Nat) (A2 : Option Addr) (n2 : Nat) (m2 : Nat) (H : Hp) (K : Value → Hp → Prop) : Prop :=
  BIf (((n1 : Nat) : Int) != ((n2 : Nat) : Int)) (K (.bool false) H) ((∃ k, W_abacistref04_Same.l4 K k A1 n1 m1 A2 n2 m2 (0 : Int) H))
def W_abacistref04_Same.l4.L (K : Value → Hp → Prop) (k : Nat) : Mid := fun E D H =>
  DG (E.get? 0) fun w0 => DSl w0 fun A3 n3 m3 => DG (E.get? 1) fun w1 => DSl w1 fun A4 n4 m4 => eI E 5 .i64 fun x1 => DNilD D (W_abacistref04_Same.l4 K k A3 n3 m3 A4 n4 m4 x1 H)
def W_abacistref04_Same.Λ4 (_ : Value → Hp → Prop) (_R4 : Option Addr → Nat → Nat → Option Addr → Nat → Nat → Int → Hp → Prop) : Cuts := Cuts.none (fun _ => none)
def W_abacistref04_Same.Λ (K : Value → Hp → Prop) : Cuts := ⟨fun i => none, fun i => match Nat.beq i 4 with | true => some (fun E D H => ∃ k, W_abacistref04_Same.l4.L K k E D H) | false => none, (fun _ => none)⟩
theorem W_abacistref04_Same.ok (A1 : Option Addr) (n1 : Nat) (m1 : Nat) (A2 : Option Addr) (n2 : Nat) (m2 : Nat) (H : Hp) (K : Value → Hp → Prop) (h : W_abacistref04_Same A1 n1 m1 A2 n2 m2 H K) : HCalls Tryz.prog 17 #[.slice A1 n1 m1, .slice A2 n2 m2] H K :=
  hcalls Tryz.func17 rfl (Nat.le_of_ble_eq_true rfl) (hw_safe (Λ := (W_abacistref04_Same.Λ K)) mixWabacistref04 _ _ _ _ _ (Eq.mp (by kernel_rfl) h) (obs_seq obs_region rfl (obs_seq (obs_seq obs_region rfl (obs_cond (obs_seq obs_region rfl obs_ret) obs_skip)) rfl (obs_seq (obs_seq obs_region rfl (obs_block (obs_loop rfl (fun E D H h => by
      refine Safe.loop' (W_abacistref04_Same.l4.L K) (fun E D H h => ?_) (fun k E D H h => ?_) E D H h
      · obtain ⟨w0, e0, g1⟩ := DG.out h; obtain ⟨A3, n3, m3, rfl, g2⟩ := DSl.out g1; obtain ⟨w1, e1, g3⟩ := DG.out g2; obtain ⟨A4, n4, m4, rfl, g4⟩ := DSl.out g3; obtain ⟨w5, e5, g5⟩ := DG.out g4; obtain ⟨x1, rfl, g6⟩ := DI.out g5; obtain ⟨rfl, h'⟩ := DNilD.out g6; exact h'
      · obtain ⟨w0, e0, g1⟩ := DG.out h
        obtain ⟨A3, n3, m3, rfl, g2⟩ := DSl.out g1
        obtain ⟨w1, e1, g3⟩ := DG.out g2
        obtain ⟨A4, n4, m4, rfl, g4⟩ := DSl.out g3
        obtain ⟨x1, e5, g6⟩ := GI g4
        obtain ⟨rfl, h'⟩ := DNilD.out g6
        exact (hw_safe (Λ := (W_abacistref04_Same.Λ4 K (W_abacistref04_Same.l4 K k))) mixWabacistref04 _ _ [(0, .slice A3 n3 m3), (1, .slice A4 n4 m4), (5, .int .i64 x1)] [] H (Eq.mp (by kernel_rfl) h') (obs_seq (obs_seq obs_region rfl (obs_cond obs_skip obs_exit)) rfl (obs_seq (obs_block (obs_seq obs_region rfl (obs_cond (obs_seq obs_region rfl obs_ret) obs_skip))) rfl obs_region))).weaken (EnvLe.cons e0 (EnvLe.cons e1 (EnvLe.cons e5 (EnvLe.nil _)))) (Hp.le_refl _))))) rfl (obs_seq obs_region rfl obs_ret)))))
def W_abacistref04_Put.l7 (K : Value → Hp → Prop) (R3 : Option Addr → Nat → Nat → ByteArray → Int → Hp → Prop) : Nat → Option Addr → Nat → Nat → ByteArray → Int → Int → Int → Hp → Prop
  | 0, _, _, _, _, _, _, _, _ => False
  | k + 1, A3, n3, m3, s2, x3, x4, x5, H =>
    let R7 := W_abacistref04_Put.l7 K R3 k
    BIf (decide (x5 < (8 : Int))) (((256 : Int) ≠ 0 ∧ IntKind.u64 = IntKind.u64 ∧ Nw H (.row [.int .u8 (IntKind.u8.wrap (Int.tmod x4 (256 : Int)))] 5 1) fun b1 H1 => BsK H1 (some ⟨b1, 0, none⟩) 1 fun s3 => (s2.size + s3.size ≤ 4611686018427387904 ∧ ((256 : Int) ≠ 0 ∧ IntKind.u64 = IntKind.u64 ∧ R7 A3 n3 m3 (s2 ++ s3) x3 (IntKind.u64.wrap (Int.tdiv x4 (256 : Int))) (IntKind.i64.wrap (x5 + (1 : Int))) H1)))) (R3 A3 n3 m3 s2 (IntKind.i64.wrap (x3 + (1 : Int))) H)
def W_abacistref04_Put.l3 (K : Value → Hp → Prop) : Nat → Option Addr → Nat → Nat → ByteArray → Int → Hp → Prop
  | 0, _, _, _, _, _, _ => False
  | k + 1, A2, n2, m2, s1, x1, H =>
    let R3 := W_abacistref04_Put.l3 K k
    BIf (decide (x1 < ((n2 : Nat) : Int))) (ixI x1 n2 (NN A2 fun a1 => Ld H (a1.add (x1.toNat * 1)) fun v1 => DI .u64 v1 fun x2 => (∃ k, W_abacistref04_Put.l7 K R3 k A2 n2 m2 s1 x1 x2 (0 : Int) H))) (K (.string s1) H)
def W_abacistref04_Put (A1 : Option Addr) (n1 : Nat) (m1 : Nat) (H : Hp) (K : Value → Hp → Prop) : Prop :=
  (∃ k, W_abacistref04_Put.l3 K k A1 n1 m1 (⟨#[]⟩) (0 : Int) H)
def W_abacistref04_Put.l3.L (K : Value → Hp → Prop) (k : Nat) : Mid := fun E D H =>
  DG (E.get? 0) fun w0 => DSl w0 fun A2 n2 m2 => DG (E.get? 3) fun w3 => DS w3 fun s1 => eI E 4 .i64 fun x1 => DNilD D (W_abacistref04_Put.l3 K k A2 n2 m2 s1 x1 H)
def W_abacistref04_Put.l7.L (K : Value → Hp → Prop) (R3 : Option Addr → Nat → Nat → ByteArray → Int → Hp → Prop) (k : Nat) : Mid := fun E D H =>
  DG (E.get? 0) fun w0 => DSl w0 fun A3 n3 m3 => DG (E.get? 3) fun w3 => DS w3 fun s2 => eI E 4 .i64 fun x3 => eI E 5 .u64 fun x4 => eI E 6 .i64 fun x5 => DNilD D (W_abacistref04_Put.l7 K R3 k A3 n3 m3 s2 x3 x4 x5 H)
def W_abacistref04_Put.Λ7 (_ : Value → Hp → Prop) (_R3 : Option Addr → Nat → Nat → ByteArray → Int → Hp → Prop) (_R7 : Option Addr → Nat → Nat → ByteArray → Int → Int → Int → Hp → Prop) : Cuts := Cuts.none (fun _ => none)
def W_abacistref04_Put.Λ3 (K : Value → Hp → Prop) (R3 : Option Addr → Nat → Nat → ByteArray → Int → Hp → Prop) : Cuts := ⟨fun i => none, fun i => match Nat.beq i 7 with | true => some (fun E D H => ∃ k, W_abacistref04_Put.l7.L K R3 k E D H) | false => none, (fun _ => none)⟩
def W_abacistref04_Put.Λ (K : Value → Hp → Prop) : Cuts := ⟨fun i => none, fun i => match Nat.beq i 3 with | true => some (fun E D H => ∃ k, W_abacistref04_Put.l3.L K k E D H) | false => none, (fun _ => none)⟩
theorem W_abacistref04_Put.ok (A1 : Option Addr) (n1 : Nat) (m1 : Nat) (H : Hp) (K : Value → Hp → Prop) (h : W_abacistref04_Put A1 n1 m1 H K) : HCalls Tryz.prog 50 #[.slice A1 n1 m1] H K :=
  hcalls Tryz.func50 rfl (Nat.le_of_ble_eq_true rfl) (hw_safe (Λ := (W_abacistref04_Put.Λ K)) mixWabacistref04 _ _ _ _ _ (Eq.mp (by kernel_rfl) h) (obs_seq obs_region rfl (obs_seq obs_region rfl (obs_seq (obs_seq obs_region rfl (obs_block (obs_loop rfl (fun E D H h => by
      refine Safe.loop' (W_abacistref04_Put.l3.L K) (fun E D H h => ?_) (fun k E D H h => ?_) E D H h
      · obtain ⟨w0, e0, g1⟩ := DG.out h; obtain ⟨A2, n2, m2, rfl, g2⟩ := DSl.out g1; obtain ⟨w3, e3, g3⟩ := DG.out g2; obtain ⟨s1, rfl, g4⟩ := DS.out g3; obtain ⟨w4, e4, g5⟩ := DG.out g4; obtain ⟨x1, rfl, g6⟩ := DI.out g5; obtain ⟨rfl, h'⟩ := DNilD.out g6; exact h'
      · obtain ⟨w0, e0, g1⟩ := DG.out h
        obtain ⟨A2, n2, m2, rfl, g2⟩ := DSl.out g1
        obtain ⟨w3, e3, g3⟩ := DG.out g2
        obtain ⟨s1, rfl, g4⟩ := DS.out g3
        obtain ⟨x1, e4, g6⟩ := GI g4
        obtain ⟨rfl, h'⟩ := DNilD.out g6
        exact (hw_safe (Λ := (W_abacistref04_Put.Λ3 K (W_abacistref04_Put.l3 K k))) mixWabacistref04 _ _ [(0, .slice A2 n2 m2), (3, .string s1), (4, .int .i64 x1)] [] H (Eq.mp (by kernel_rfl) h') (obs_seq (obs_seq obs_region rfl (obs_cond obs_skip obs_exit)) rfl (obs_seq (obs_block (obs_seq obs_region rfl (obs_seq obs_region rfl (obs_block (obs_loop rfl (fun E D H h => by
            refine Safe.loop' (W_abacistref04_Put.l7.L K (W_abacistref04_Put.l3 K k)) (fun E D H h => ?_) (fun k E D H h => ?_) E D H h
            · obtain ⟨w0, e0, g1⟩ := DG.out h; obtain ⟨A3, n3, m3, rfl, g2⟩ := DSl.out g1; obtain ⟨w3, e3, g3⟩ := DG.out g2; obtain ⟨s2, rfl, g4⟩ := DS.out g3; obtain ⟨w4, e4, g5⟩ := DG.out g4; obtain ⟨x3, rfl, g6⟩ := DI.out g5; obtain ⟨w5, e5, g7⟩ := DG.out g6; obtain ⟨x4, rfl, g8⟩ := DI.out g7; obtain ⟨w6, e6, g9⟩ := DG.out g8; obtain ⟨x5, rfl, g10⟩ := DI.out g9; obtain ⟨rfl, h'⟩ := DNilD.out g10; exact h'
            · obtain ⟨w0, e0, g1⟩ := DG.out h
              obtain ⟨A3, n3, m3, rfl, g2⟩ := DSl.out g1
              obtain ⟨w3, e3, g3⟩ := DG.out g2
              obtain ⟨s2, rfl, g4⟩ := DS.out g3
              obtain ⟨x3, e4, g6⟩ := GI g4; obtain ⟨x4, e5, g8⟩ := GI g6; obtain ⟨x5, e6, g10⟩ := GI g8; obtain ⟨rfl, h'⟩ := DNilD.out g10
              exact (hw_safe (Λ := (W_abacistref04_Put.Λ7 K (W_abacistref04_Put.l3 K k) (W_abacistref04_Put.l7 K (W_abacistref04_Put.l3 K k) k))) mixWabacistref04 _ _ [(0, .slice A3 n3 m3), (3, .string s2), (4, .int .i64 x3), (5, .int .u64 x4), (6, .int .i64 x5)] [] H (Eq.mp (by kernel_rfl) h') (obs_seq (obs_seq obs_region rfl (obs_cond obs_skip obs_exit)) rfl (obs_seq (obs_block (obs_seq obs_region rfl obs_region)) rfl obs_region))).weaken (EnvLe.cons e0 (EnvLe.cons e3 (EnvLe.cons e4 (EnvLe.cons e5 (EnvLe.cons e6 (EnvLe.nil _)))))) (Hp.le_refl _))))))) rfl obs_region))).weaken (EnvLe.cons e0 (EnvLe.cons e3 (EnvLe.cons e4 (EnvLe.nil _)))) (Hp.le_refl _))))) rfl (obs_seq obs_region rfl obs_ret)))))
end Go.Proofs.YtnknippcbecmeaaGreatDoor.W
end
section
/- Words' forms: codec's and the document's. -/
namespace Go.Form
open Go Go.Hw
def formW (w : UInt64) : List UInt8 := (List.range 8).map fun k => UInt8.ofNat (w.toNat / 256 ^ k)
def form (l : List UInt64) : List UInt8 := l.flatMap formW
theorem formW_length (w : UInt64) : (formW w).length = 8 := by simp [formW]
theorem form_length (l : List UInt64) : (form l).length = 8 * l.length := by
  induction l with
  | nil => rfl
  | cons w l ih => simp only [form, List.flatMap_cons, List.length_append, formW_length, List.length_cons]; rw [show (List.flatMap formW l).length = (form l).length from rfl, ih]; omega
theorem form_append (a b : List UInt64) : form (a ++ b) = form a ++ form b := by simp [form]
theorem form_succ (l : List UInt64) {i : Nat} (h : i < l.length) : form (l.take (i + 1)) = form (l.take i) ++ formW l[i] := by
  rw [List.take_succ_eq_append_getElem h, form_append]; simp [form]
theorem shr_byte (w : UInt64) (k : Nat) : IntKind.u8.wrap ((w.toNat >>> (8 * k) : Nat) : Int) = ((UInt8.ofNat (w.toNat / 256 ^ k)).toNat : Int) := by
  rw [u8mod, Nat.shiftRight_eq_div_pow, show (2 : Nat) ^ (8 * k) = 256 ^ k from by rw [Nat.pow_mul]]
  simp
end Go.Form
namespace Go.Proofs.YtnknippcbecmeaaGreatDoor.FormP
open Go Go.Hw Go.Form W
theorem set_loop (K : Value → Hp → Prop) (b off n m mm : Nat) (xs : List Value) (e : TypeId) (w : UInt64) (H0 : Hp) (ho : off + 8 ≤ xs.length) (hn : 8 ≤ n)
    (k : K (.tuple #[]) (H0.set b (.row (setAt xs off (byteVals (formW w))) e mm))) : ∀ (d j : Nat) (H : Hp), j + d = 8 → H = H0.set b (.row (setAt xs off ((byteVals (formW w)).take j)) e mm) →
      W_codec_set.l1 K (d + 1) (some ⟨b, off, none⟩) n m (w.toNat : Int) (j : Int) H
  | 0, j, H, hj, hH => by
    obtain rfl : j = 8 := by omega
    unfold W_codec_set.l1
    refine BIf_dneg (by omega) ?_
    rw [List.take_of_length_le (by rw [byteVals_length, formW_length]; omega)] at hH
    rw [hH]; exact k
  | d + 1, j, H, hj, hH => by
    unfold W_codec_set.l1
    refine BIf_dpos (by omega) ?_
    rw [i64w (x := 8 * (j : Int)) (by omega) (by omega), u64w (by omega) (by omega)]
    refine ⟨by omega, by omega, by omega, ?_⟩
    simp only [NN_some, Addr.add_lit', Int.toNat_natCast, Nat.mul_one, Nat.add_zero]
    rw [shrNat w.toNat (i := 8 * (j : Int)) (n := 8 * j) (by omega) (by show 8 * j ≤ 64; omega), shr_byte, i64w (by omega) (by omega)]
    have hlen : (byteVals (formW w)).length = 8 := by rw [byteVals_length, formW_length]
    have hb : H b = some (.row (setAt xs off ((byteVals (formW w)).take j)) e mm) := by rw [hH]; exact Hp.set_same _ _ _
    refine St_row hb (by rw [setAt_length (by rw [List.length_take, hlen]; omega)]; omega) rfl ?_
    refine set_loop K b off n m mm xs e w H0 ho hn k d (j + 1) _ (by omega) ?_
    rw [hH, Hp.set_set]
    congr 2
    have := setAt_step (xs := xs) (vs := byteVals (formW w)) (off := off) (k := j) (by rw [hlen]; exact ho) (by rw [hlen]; omega)
    rw [← this]
    congr 1
    simp [byteVals, formW]
theorem set_ok (b off n m mm : Nat) (xs : List Value) (e : TypeId) (w : UInt64) (H : Hp) (hb : H b = some (.row xs e mm)) (ho : off + 8 ≤ xs.length) (hn : 8 ≤ n) :
    HCalls Tryz.prog 148 #[.slice (some ⟨b, off, none⟩) n m, .int .u64 (w.toNat : Int)] H (RetE (.tuple #[]) (H.set b (.row (setAt xs off (byteVals (formW w))) e mm))) := by
  apply W_codec_set.ok
  refine ⟨9, set_loop _ b off n m mm xs e w H ho hn (RetE.mk _ _) 8 0 H rfl ?_⟩
  rw [List.take_zero, setAt_nil, Hp.set_id hb]
theorem slA_row (b m l : Nat) : slA (some ⟨b, 0, none⟩) m l 1 = if m = l then some ⟨b, 0, none⟩ else some ⟨b, l, none⟩ := by
  unfold slA; split
  · rfl
  · simp
theorem Put_loop (K : Value → Hp → Prop) (b : Nat) (e : TypeId) (A : Option Addr) (n m : Nat) (l : List UInt64) (hn : n = l.length) (hm : n ≤ 17592186044416) (H0 : Hp) (hb0 : H0 b = none) (hl : Cells H0 A (wordVals l)) (z : List Value) (hz : z.length = 8 * n)
    (k : ∀ H, H = H0.set b (.row (byteVals (form l)) e (8 * n)) → K (.slice (some ⟨b, 0, none⟩) (8 * n) (8 * n)) H) : ∀ (d j : Nat) (H : Hp), j + d = n → H = H0.set b (.row (setAt z 0 (byteVals (form (l.take j)))) e (8 * n)) →
      W_codec_Put.l3 K (d + 1) (some ⟨b, 0, none⟩) (8 * n) (8 * n) A n m (n : Int) (j : Int) H
  | 0, j, H, hj, hH => by
    unfold W_codec_Put.l3
    refine BIf_dneg (by omega) (k _ ?_)
    rw [hH, List.take_of_length_le (by omega), setAt_all (by rw [byteVals_length, form_length, hz, hn])]
  | d + 1, j, H, hj, hH => by
    unfold W_codec_Put.l3
    refine BIf_dpos (by omega) ?_
    have hlt : j < l.length := by omega
    have hle : H0.le H := by rw [hH]; exact Hp.le_set hb0
    refine (hl.le hle).read (i := j) (v := .int .u64 (l[j].toNat : Int)) (by rw [wordVals_get, List.getElem?_eq_getElem hlt]; rfl) rfl (by rw [wordVals_length]; omega) ?_
    simp only [HV]
    rw [i64w (x := 8 * (j : Int)) (by omega) (by omega)]
    refine ⟨by omega, by omega, ?_⟩
    dsimp only
    rw [show (8 * (j : Int)).toNat = 8 * j by omega, slA_row, if_neg (by omega)]
    have hlen : (byteVals (form (l.take j))).length = 8 * j := by rw [byteVals_length, form_length, List.length_take, Nat.min_eq_left (by omega)]
    have hb : H b = some (.row (setAt z 0 (byteVals (form (l.take j)))) e (8 * n)) := by rw [hH]; exact Hp.set_same _ _ _
    have hsl : (setAt z 0 (byteVals (form (l.take j)))).length = 8 * n := by rw [setAt_length (by omega), hz]
    refine HCalls.use (set_ok b (8 * j) _ _ _ _ e l[j] H hb (by omega) (by omega)) ?_
    rw [i64w (by omega) (by omega)]
    refine Put_loop K b e A n m l hn hm H0 hb0 hl z hz k d (j + 1) _ (by omega) ?_
    rw [hH, Hp.set_set]
    congr 2
    rw [form_succ l hlt, byteVals_append]
    have h8 : (byteVals (formW l[j])).length = 8 := by rw [byteVals_length, formW_length]
    rw [← setAt_setAt (by rw [hlen, h8]; omega), hlen]
theorem cell_u8 : cellInfo Tryz.prog 5 = some (1, 1, some #[.int .u8 0]) := by kernel_rfl
theorem Put_ok (A : Option Addr) (n m : Nat) (l : List UInt64) (hn : n = l.length) (hm : n ≤ 17592186044416) (H : Hp) (hl : Cells H A (wordVals l)) :
    HCalls Tryz.prog 114 #[.slice A n m] H (fun v H' => ∃ b, H b = none ∧ v = .slice (some ⟨b, 0, none⟩) (8 * n) (8 * n) ∧ H' = H.set b (.row (byteVals (form l)) 5 (8 * n))) := by
  apply W_codec_Put.ok
  unfold W_codec_Put
  rw [i64w (x := 8 * (n : Int)) (by omega) (by omega)]
  refine MkS_of cell_u8 rfl (n := 8 * n) (m := 8 * n) (by omega) (by omega) (Nat.le_refl _) (by omega) (by omega) ?_
  intro b hb
  rw [Nat.mul_one]
  simp only [HV]
  refine ⟨n + 1, ?_⟩
  refine Put_loop _ b 5 A n m l hn hm H hb hl (zeroRow [.int .u8 0] (8 * n)) (by rw [zeroRow_length]; simp) ?_ n 0 _ (by omega) ?_
  · intro H' hH; exact ⟨b, hb, rfl, hH⟩
  · rw [List.take_zero]; simp [form, byteVals, setAt_nil]
theorem bsize (bs : List UInt8) : (ByteArray.mk bs.toArray).size = bs.length := by simp [ByteArray.size]
theorem bappend (a b : List UInt8) : ByteArray.mk a.toArray ++ ByteArray.mk b.toArray = ByteArray.mk (a ++ b).toArray := by
  apply ByteArray.ext
  simp
theorem rput_inner (K : Value → Hp → Prop) (R3 : Option Addr → Nat → Nat → ByteArray → Int → Hp → Prop) (A : Option Addr) (n m : Nat) (x3 : Int) (H0 : Hp) (w : UInt64) (pre : List UInt8) (hp : pre.length ≤ 1000000000000)
    (k : ∀ H, H0.le H → R3 A n m ⟨(pre ++ formW w).toArray⟩ (IntKind.i64.wrap (x3 + 1)) H) : ∀ (d j : Nat) (H : Hp), j + d = 8 → H0.le H →
      W_abacistref04_Put.l7 K R3 (d + 1) A n m ⟨(pre ++ (formW w).take j).toArray⟩ x3 ((w.toNat / 256 ^ j : Nat) : Int) (j : Int) H
  | 0, j, H, hj, hle => by
    unfold W_abacistref04_Put.l7
    refine BIf_dneg (by omega) ?_
    rw [List.take_of_length_le (by rw [formW_length]; omega)]
    exact k H hle
  | d + 1, j, H, hj, hle => by
    unfold W_abacistref04_Put.l7
    refine BIf_dpos (by omega) ?_
    refine ⟨by omega, rfl, ?_⟩
    intro b hb
    have hlen := formW_length w
    have hbyte : IntKind.u8.wrap (Int.tmod ((w.toNat / 256 ^ j : Nat) : Int) 256) = (((formW w)[j]'(by omega)).toNat : Int) := by
      rw [show Int.tmod ((w.toNat / 256 ^ j : Nat) : Int) 256 = ((w.toNat / 256 ^ j % 256 : Nat) : Int) from rfl, u8n (by omega)]
      simp [formW]
    have hc : Cells (H.set b (.row [.int .u8 (((formW w)[j]'(by omega)).toNat : Int)] 5 1)) (some ⟨b, 0, none⟩) (byteVals [(formW w)[j]'(by omega)]) := by
      have := Cells.row (Hp.set_same H b (.row [.int .u8 (((formW w)[j]'(by omega)).toNat : Int)] 5 1)) 0 1
      simpa [byteVals] using this
    rw [hbyte]
    refine BsK_of hc rfl ?_
    rw [bsize, bsize, bappend]
    refine ⟨by simp; omega, by omega, rfl, ?_⟩
    have hdiv : IntKind.u64.wrap (Int.tdiv ((w.toNat / 256 ^ j : Nat) : Int) 256) = ((w.toNat / 256 ^ (j + 1) : Nat) : Int) := by
      rw [show Int.tdiv ((w.toNat / 256 ^ j : Nat) : Int) 256 = ((w.toNat / 256 ^ j / 256 : Nat) : Int) from rfl, Nat.div_div_eq_div_mul, show 256 ^ j * 256 = 256 ^ (j + 1) from (Nat.pow_succ ..).symm]
      exact u64n (by have := Nat.div_le_self w.toNat (256 ^ (j + 1)); have := w.toNat_lt; omega)
    rw [hdiv, i64w (by omega) (by omega), List.append_assoc, ← List.take_succ_eq_append_getElem (by omega)]
    exact rput_inner K R3 A n m x3 H0 w pre hp k d (j + 1) _ (by omega) (Hp.le_trans hle (Hp.le_set hb))
theorem rput_outer (K : Value → Hp → Prop) (A : Option Addr) (n m : Nat) (l : List UInt64) (hn : n = l.length) (hm : n ≤ 10000000000) (H0 : Hp) (hl : Cells H0 A (wordVals l)) (k : ∀ H, H0.le H → K (.string ⟨(form l).toArray⟩) H) : ∀ (d j : Nat) (H : Hp), j + d = n → H0.le H →
      W_abacistref04_Put.l3 K (d + 1) A n m ⟨(form (l.take j)).toArray⟩ (j : Int) H
  | 0, j, H, hj, hle => by
    unfold W_abacistref04_Put.l3
    refine BIf_dneg (by omega) ?_
    rw [List.take_of_length_le (by omega)]
    exact k H hle
  | d + 1, j, H, hj, hle => by
    unfold W_abacistref04_Put.l3
    refine BIf_dpos (by omega) ?_
    have hlt : j < l.length := by omega
    refine (hl.le hle).read (i := j) (v := .int .u64 (l[j].toNat : Int)) (by rw [wordVals_get, List.getElem?_eq_getElem hlt]; rfl) rfl (by rw [wordVals_length]; omega) ?_
    simp only [HV]
    refine ⟨9, ?_⟩
    have := rput_inner K (W_abacistref04_Put.l3 K (d + 1)) A n m (j : Int) H0 l[j] (form (l.take j)) (by rw [form_length, List.length_take]; omega) (fun H' hle' => by
      rw [i64w (by omega) (by omega), ← form_succ l hlt]
      exact rput_outer K A n m l hn hm H0 hl k d (j + 1) H' (by omega) hle') 8 0 H rfl hle
    simpa using this
theorem rPut_ok (A : Option Addr) (n m : Nat) (l : List UInt64) (hn : n = l.length) (hm : n ≤ 10000000000) (H : Hp) (hl : Cells H A (wordVals l)) :
    HCalls Tryz.prog 50 #[.slice A n m] H (RetE (.string ⟨(form l).toArray⟩) H) := by
  apply HCalls.ret
  apply W_abacistref04_Put.ok
  exact ⟨n + 1, rput_outer _ A n m l hn hm H hl (fun H' hle => ⟨rfl, hle⟩) n 0 H (by omega) (Hp.le_refl _)⟩
end Go.Proofs.YtnknippcbecmeaaGreatDoor.FormP
end
section
/- Words of bytes: codec's and the document's. -/
namespace Go.Form
open Go Go.Hw
theorem formW_bytes (w : UInt64) : formW w = bytesN 8 w.toNat := range_bytes 8 w.toNat
theorem leN_formW (w : UInt64) : leN (formW w) = w.toNat := by
  rw [formW_bytes, leN_bytesN]
  exact Nat.mod_eq_of_lt w.toNat_lt
def wordN (bs : List UInt8) (o : Nat) : Nat := leN ((bs.drop o).take 8)
theorem wordN_lt (bs : List UInt8) (o : Nat) : wordN bs o < 2 ^ 64 := leN_lt8 (by simp; omega)
theorem form_drop (l : List UInt64) (i : Nat) : (form l).drop (8 * i) = form (l.drop i) := by
  induction i generalizing l with
  | zero => simp
  | succ i ih =>
    cases l with
    | nil => simp [form]
    | cons w l =>
      rw [List.drop_succ_cons, ← ih]
      show List.drop (8 * (i + 1)) (formW w ++ form l) = _
      rw [show 8 * (i + 1) = (formW w).length + 8 * i by rw [formW_length]; omega, List.drop_append]
      simp
theorem wordN_form {l : List UInt64} {i : Nat} (h : i < l.length) (r : List UInt8) : wordN (form l ++ r) (8 * i) = l[i].toNat := by
  unfold wordN
  rw [List.drop_append_of_le_length (by rw [form_length]; omega), form_drop, List.drop_eq_getElem_cons h]
  show leN (((formW l[i] ++ form (l.drop (i + 1))) ++ r).take 8) = _
  rw [List.append_assoc, List.take_left' (formW_length _), leN_formW]
end Go.Form
namespace Go.Proofs.YtnknippcbecmeaaGreatDoor.FormP
open Go Go.Hw Go.Form W
theorem word_loop (K : Value → Hp → Prop) (A : Option Addr) (n m : Nat) (bs : List UInt8) (hl : bs.length = 8) (hn : 8 ≤ n) (H : Hp) (hb : Cells H A (byteVals bs)) (k : K (.int .u64 (leN bs : Nat)) H) : ∀ j : Nat, j ≤ 8 →
    W_codec_word.l3 K (j + 1) A n m ((leN (bs.drop j) : Nat) : Int) ((j : Int) - 1) H
  | 0, _ => by
    unfold W_codec_word.l3
    refine BIf_dneg (by omega) ?_
    exact k
  | j + 1, hj => by
    unfold W_codec_word.l3
    refine BIf_dpos (by omega) ⟨by omega, ?_⟩
    rw [show (((j + 1 : Nat) : Int) - 1) = (j : Int) by omega]
    have hlt : j < bs.length := by omega
    refine ⟨by omega, by omega, ?_⟩
    obtain ⟨a, rfl, hc⟩ := hb j (.int .u8 (bs[j].toNat : Int)) (by rw [byteVals_get, List.getElem?_eq_getElem hlt]; rfl)
    show Ld H _ _
    refine Ld_of (v := .int .u8 (bs[j].toNat : Int)) (by rw [Int.toNat_natCast, Nat.mul_one]; exact hc) ?_
    simp only [HV]
    have h1 : leN (bs.drop (j + 1)) < 256 ^ 7 := by
      have h1 := leN_lt (bs.drop (j + 1))
      have h2 : 256 ^ (bs.drop (j + 1)).length ≤ 256 ^ 7 := Nat.pow_le_pow_right (by omega) (by simp; omega)
      omega
    have h2 : bs[j].toNat < 256 := bs[j].toNat_lt
    have h3 : leN (bs.drop (j + 1)) * 2 ^ 8 < 2 ^ 64 := by
      rw [show (256 : Nat) ^ 7 = 2 ^ 56 by decide] at h1; omega
    rw [shlN (i := (8 : Int)) (n := 8) rfl (by omega), Nat.mod_eq_of_lt h3, u64n (by omega), orN h3 (by omega), i64w (by omega) (by omega)]
    rw [← Nat.shiftLeft_eq, ← Nat.shiftLeft_add_eq_or_of_lt (by omega : bs[j].toNat < 2 ^ 8), Nat.shiftLeft_eq]
    have e := leN_drop hlt
    rw [show leN (bs.drop (j + 1)) * 2 ^ 8 + bs[j].toNat = leN (bs.drop j) by rw [e]; omega]
    exact word_loop K _ n m bs hl hn H hb k j (by omega)
theorem word_ok (A : Option Addr) (n m : Nat) (bs : List UInt8) (hl : bs.length = 8) (hn : 8 ≤ n) (H : Hp) (hb : Cells H A (byteVals bs)) : HCalls Tryz.prog 164 #[.slice A n m] H (RetE (.int .u64 (leN bs : Nat)) H) := by
  apply W_codec_word.ok
  refine ⟨9, ?_⟩
  have := word_loop (RetE (.int .u64 (leN bs : Nat)) H) A n m bs hl hn H hb (RetE.mk _ _) 8 (Nat.le_refl _)
  rw [List.drop_eq_nil_of_le (by omega)] at this
  exact this
theorem inside_ok (A : Option Addr) (n m : Nat) (hn : n ≤ 9000000000000000000) (i : Int) (H : Hp) : HCalls Tryz.prog 163 #[.slice A n m, .int .i64 i] H (RetE (.bool (decide (0 ≤ i ∧ i < (n / 8 : Nat)))) H) := by
  apply W_codec_inside.ok
  unfold W_codec_inside
  rw [BIf_decide]
  split
  · refine ⟨by omega, rfl, RetE.of ?_⟩
    rw [show Int.tdiv ((n : Nat) : Int) 8 = ((n / 8 : Nat) : Int) from rfl, i64n (by omega)]
    congr 1; simp only [decide_eq_decide]; omega
  · refine RetE.of ?_
    congr 1
    exact (decide_eq_false (by omega)).symm
theorem Word_ok (A : Option Addr) (n m : Nat) (hnm : n ≤ m) (hm : n ≤ 9000000000000000000) (bs : List UInt8) (hl : n = bs.length) (i : Nat) (hi : 8 * i + 8 ≤ n) (H : Hp) (hb : Cells H A (byteVals bs)) :
    HCalls Tryz.prog 130 #[.slice A n m, .int .i64 i] H (RetE (.tuple #[.int .u64 (wordN bs (8 * i) : Nat), .int .i64 0]) H) := by
  apply W_codec_Word.ok
  unfold W_codec_Word
  refine HCalls.use (inside_ok A n m (by omega) i H) ?_
  try simp only [HV]
  refine BIf_neg (by simp; omega) ?_
  rw [i64w (x := 8 * (i : Int)) (by omega) (by omega)]
  refine ⟨by omega, by omega, ?_⟩
  rw [show (8 * (i : Int)).toNat = 8 * i by omega]
  have h1 := (hb.shift (m := m) (l := 8 * i) (by rw [byteVals_length]; omega)).take 8
  rw [show ((byteVals bs).drop (8 * i)).take 8 = byteVals ((bs.drop (8 * i)).take 8) by unfold byteVals; rw [List.map_take, List.map_drop]] at h1
  refine HCalls.use (word_ok _ (n - 8 * i) (m - 8 * i) ((bs.drop (8 * i)).take 8) (by simp; omega) (by omega) H h1) ?_
  try simp only [HV]
  exact RetE.mk _ _
end Go.Proofs.YtnknippcbecmeaaGreatDoor.FormP
end
section
/- The frame of the proofs: structs and arrays of plain cells, compared. -/
namespace Go.Hw
open Go
def litOk : Lf → Lit → Bool
  | .int k, .int k' n => decide (k' = k) && (Lit.int k n).wf
  | .bool, .bool _ => true
  | .str, .string l => decide (l.length ≤ maxLen)
  | _, _ => false
def okAll : List Lf → List Lit → Bool
  | [], [] => true
  | f :: fs, l :: ls => litOk f l && okAll fs ls
  | _, _ => false
def flatFs (P : Program) (g : TypeId → Option (List Lf)) : List Field → Nat → Option (List Lf)
  | [], _ => some []
  | f :: r, off => match f.name != "_" && Nat.beq f.offset off with
    | true => match g f.type with
      | some l => match Nat.beq l.length (P.cellsOf f.type) with
        | true => match flatFs P g r (off + l.length) with
          | some k => some (l ++ k)
          | none => none
        | false => none
      | none => none
    | false => none
def flat (P : Program) : Nat → TypeId → Option (List Lf)
  | 0, _ => none
  | d + 1, t => match P.underlying t with
    | some .bool => some [.bool]
    | some (.int q) => some [.int q]
    | some .string => some [.str]
    | some (.array n e) => match flat P d e with
      | some l => match Nat.beq l.length (P.cellsOf e) && Nat.beq (n * l.length) (P.cellsOf t) with
        | true => some (List.replicate n l).flatten
        | false => none
      | none => none
    | some (.struct fs) => match flatFs P (flat P d) fs.toList 0 with
      | some l => match Nat.beq l.length (P.cellsOf t) with
        | true => some l
        | false => none
      | none => none
    | _ => none
theorem okAll_len : ∀ {fs : List Lf} {ls : List Lit}, okAll fs ls = true → ls.length = fs.length
  | [], [], _ => rfl
  | _ :: fs, _ :: ls, h => by
    simp only [okAll, Bool.and_eq_true] at h
    simp [okAll_len h.2]
  | [], _ :: _, h => by cases h
  | _ :: _, [], h => by cases h
theorem okAll_split : ∀ {a b : List Lf} {ls : List Lit}, okAll (a ++ b) ls = true → ∃ x y, ls = x ++ y ∧ okAll a x = true ∧ okAll b y = true
  | [], b, ls, h => ⟨[], ls, rfl, rfl, h⟩
  | f :: a, b, [], h => by cases h
  | f :: a, b, l :: ls, h => by
    simp only [List.cons_append, okAll, Bool.and_eq_true] at h
    obtain ⟨x, y, rfl, h1, h2⟩ := okAll_split h.2
    exact ⟨l :: x, y, rfl, by simp [okAll, h.1, h1], h2⟩
theorem okAll_one {f : Lf} {ls : List Lit} (h : okAll [f] ls = true) : ∃ x, ls = [x] := by
  have := okAll_len h
  match ls, this with
  | [x], _ => exact ⟨x, rfl⟩
theorem keyLits_flat {P : Program} : ∀ (d : Nat) (t : TypeId) (ks : List Lf) (ls : List Lit), flat P d t = some ks → okAll ks ls = true → P.keyLits d t (ls.map Lit.value) = some ls
  | 0, _, _, _, h, _ => by cases h
  | d + 1, t, ks, ls, h, ho => by
    unfold flat at h
    unfold Program.keyLits
    split at h
    · rename_i hu
      cases h
      obtain ⟨x, rfl⟩ := okAll_one ho
      cases x <;> simp only [okAll, litOk, Bool.and_true, Bool.false_eq_true, Bool.false_and] at ho
      simp [hu, Lit.value]
    · rename_i q hu
      cases h
      obtain ⟨x, rfl⟩ := okAll_one ho
      cases x <;> simp only [okAll, litOk, Bool.and_eq_true, decide_eq_true_eq, Bool.and_true, Bool.false_eq_true, Bool.false_and] at ho
      obtain ⟨rfl, hw⟩ := ho
      simp [hu, Lit.value, hw]
    · rename_i hu
      cases h
      obtain ⟨x, rfl⟩ := okAll_one ho
      cases x <;> simp only [okAll, litOk, decide_eq_true_eq, Bool.and_true, Bool.false_eq_true, Bool.false_and] at ho
      simp [hu, Lit.value, ByteArray.size, ho]
    · rename_i n e hu
      split at h
      · rename_i l hl
        split at h
        · rename_i hb
          cases h
          simp only [Bool.and_eq_true] at hb
          have h1 := Nat.eq_of_beq_eq_true hb.1
          have h2 := Nat.eq_of_beq_eq_true hb.2
          simp only [hu]
          have hlen := okAll_len ho
          rw [if_pos (by rw [List.length_map, hlen, List.length_flatten]; simp [h2, ← h1] )]
          have key : ∀ (m i : Nat) (pre ls : List Lit), pre.length = i * l.length → okAll (List.replicate m l).flatten ls = true →
              ∃ out, (List.range' i m).mapM (fun i => P.keyLits d e ((((pre ++ ls).map Lit.value).drop (i * P.cellsOf e)).take (P.cellsOf e))) = some out ∧ out.flatten = ls := by
            intro m
            induction m with
            | zero =>
              intro i pre ls _ ho
              have : ls = [] := by have := okAll_len ho; simpa using this
              subst this
              exact ⟨[], by simp, rfl⟩
            | succ m ih =>
              intro i pre ls hp ho
              rw [List.replicate_succ, List.flatten_cons] at ho
              obtain ⟨x, y, rfl, hx, hy⟩ := okAll_split ho
              have lx := okAll_len hx
              obtain ⟨out, ho1, ho2⟩ := ih (i + 1) (pre ++ x) y (by rw [List.length_append, hp, lx, Nat.succ_mul]) hy
              refine ⟨x :: out, ?_, by rw [List.flatten_cons, ho2]⟩
              rw [List.range'_succ, List.mapM_cons]
              have e1 : ((((pre ++ (x ++ y)).map Lit.value).drop (i * P.cellsOf e)).take (P.cellsOf e)) = x.map Lit.value := by
                rw [← h1, ← hp, List.map_append, List.drop_left' (by simp), List.map_append, List.take_left' (by simp [lx])]
              rw [e1, keyLits_flat d e l x hl hx]
              rw [List.append_assoc] at ho1
              rw [ho1]; rfl
          obtain ⟨out, h3, h4⟩ := key n 0 [] ls (by simp) ho
          rw [List.range_eq_range']
          simp only [List.nil_append] at h3
          rw [h3]; simp [h4]
        · cases h
      · cases h
    · rename_i fs hu
      split at h
      · rename_i l hl
        split at h
        · rename_i hb
          cases h
          have h1 := Nat.eq_of_beq_eq_true hb
          have hlen := okAll_len ho
          have key : ∀ (fl : List Field) (off : Nat) (k : List Lf) (pre ls : List Lit), flatFs P (flat P d) fl off = some k → pre.length = off → okAll k ls = true →
              (fl.all (·.name != "_") = true) ∧ ∃ out, fl.mapM (fun f => P.keyLits d f.type ((((pre ++ ls).map Lit.value).drop f.offset).take (P.cellsOf f.type))) = some out ∧ out.flatten = ls := by
            intro fl
            induction fl with
            | nil =>
              intro off k pre ls hk _ ho
              cases hk
              have : ls = [] := by have := okAll_len ho; simpa using this
              subst this
              exact ⟨rfl, [], by simp, rfl⟩
            | cons f fl ih =>
              intro off k pre ls hk hp ho
              unfold flatFs at hk
              split at hk
              · rename_i hn
                simp only [Bool.and_eq_true] at hn
                have hoff := Nat.eq_of_beq_eq_true hn.2
                split at hk
                · rename_i kl hkl
                  split at hk
                  · rename_i hb2
                    have h2 := Nat.eq_of_beq_eq_true hb2
                    split at hk
                    · rename_i kr hkr
                      cases hk
                      obtain ⟨x, y, rfl, hx, hy⟩ := okAll_split ho
                      have lx := okAll_len hx
                      obtain ⟨hn2, out, ho1, ho2⟩ := ih (off + kl.length) kr (pre ++ x) y hkr (by rw [List.length_append, hp, lx]) hy
                      refine ⟨by rw [List.all_cons, hn.1, hn2]; rfl, x :: out, ?_, by rw [List.flatten_cons, ho2]⟩
                      rw [List.mapM_cons]
                      have e1 : ((((pre ++ (x ++ y)).map Lit.value).drop f.offset).take (P.cellsOf f.type)) = x.map Lit.value := by
                        rw [hoff, ← h2, ← hp, List.map_append, List.drop_left' (by simp), List.map_append, List.take_left' (by simp [lx])]
                      rw [e1, keyLits_flat d f.type kl x hkl hx]
                      rw [List.append_assoc] at ho1
                      rw [ho1]; rfl
                    · cases hk
                  · cases hk
                · cases hk
              · cases hk
          obtain ⟨hn, out, h3, h4⟩ := key fs.toList 0 ks [] ls hl rfl ho
          simp only [hu]
          rw [if_pos ⟨by rw [List.length_map, hlen, h1], by rw [← Array.all_toList]; exact hn⟩]
          simp only [List.nil_append] at h3
          rw [h3]; simp [h4]
        · cases h
      · cases h
    · cases h
theorem flat_len {P : Program} {d : Nat} {t : TypeId} {ks : List Lf} (ha : isArr P t = true) (h : flat P d t = some ks) : ks.length = P.cellsOf t := by
  cases d with
  | zero => cases h
  | succ d =>
    unfold flat at h
    unfold isArr at ha
    split at h
    · rename_i hu; rw [hu] at ha; cases ha
    · rename_i hu; rw [hu] at ha; cases ha
    · rename_i hu; rw [hu] at ha; cases ha
    · split at h
      · rename_i l hl
        split at h
        · rename_i hb
          cases h
          simp only [Bool.and_eq_true] at hb
          rw [← Nat.eq_of_beq_eq_true hb.2]; simp [List.length_flatten]
        · cases h
      · cases h
    · split at h
      · split at h
        · rename_i hb; cases h; exact Nat.eq_of_beq_eq_true hb
        · cases h
      · cases h
    · cases h
theorem equal_flat {P : Program} {d m : Nat} {t : TypeId} {ks : List Lf} (ha : isArr P t = true) (hf : flat P d t = some ks) (hk : P.keyTypeAt m t = true) (hm : m ≤ 10000) {lx ly : List Lit} (ox : okAll ks lx = true) (oy : okAll ks ly = true) {c : Bool} (hc : c = true ↔ lx = ly) (w : World) :
    (Op.equal t (.agg (lx.map Lit.value).toArray) (.agg (ly.map Lit.value).toArray)).run P w = .ok c w := by
  have hform : ∀ l : List Lit, okAll ks l = true → (Value.agg (l.map Lit.value).toArray).formed P t = true := fun l hl => by
    have := okAll_len hl
    have h2 := flat_len ha hf
    unfold Value.formed
    unfold isArr at ha
    split at ha
    · rename_i hu; rw [hu]; simp [this, h2]
    · rename_i hu; rw [hu]; simp [this, h2]
    · cases ha
  obtain ⟨r, hr, hiff⟩ := run_equalIn_deep (P := P) (10000 - m) m t hk w d d _ _ lx ly (hform lx ox) (hform ly oy) (by simpa [Value.cells] using keyLits_flat d t ks lx hf ox) (by simpa [Value.cells] using keyLits_flat d t ks ly hf oy)
  rw [show 10000 - m + m = 10000 by omega] at hr
  have : r = c := by
    cases r <;> cases c <;> simp_all
  rw [← this]
  exact hr
theorem wf64 {n : Int} (h0 : -9223372036854775808 ≤ n) (h1 : n ≤ 9223372036854775807) : (Lit.int .i64 n).wf = true := by
  simp only [Lit.wf, Bool.and_eq_true, decide_eq_true_eq]
  exact ⟨h0, h1⟩
theorem wfI {n : Int} (h : -9223372036854775808 ≤ n ∧ n ≤ 9223372036854775807) : (Lit.int .i64 n).wf = true := wf64 h.1 h.2
theorem ok64 : ∀ (n : Nat) (l : List Int), l.length = n → (∀ x ∈ l, -9223372036854775808 ≤ x ∧ x ≤ 9223372036854775807) → okAll (List.replicate n (.int .i64)) (l.map (Lit.int .i64)) = true
  | 0, [], _, _ => rfl
  | n + 1, x :: l, h, hr => by
    have h1 := wfI (hr x (by simp))
    have h2 := ok64 n l (by simpa using h) (fun y hy => hr y (by simp [hy]))
    rw [List.replicate_succ, List.map_cons]
    simp only [okAll, litOk, decide_true, Bool.true_and, Bool.and_eq_true]
    exact ⟨h1, h2⟩
section
variable {P : Program} {d m : Nat} {t : TypeId} {ks : List Lf} (ha : isArr P t = true) (hf : flat P d t = some ks) (hk : P.keyTypeAt m t = true) (hm : m ≤ 10000) (hg : P.eqGuardType P.depth t = false)
include ha hf hk hm hg
theorem EqV_eql {lx ly : List Lit} (ox : okAll ks lx = true) (oy : okAll ks ly = true) {cx cy : Array Value} (ex : cx = (lx.map Lit.value).toArray) (ey : cy = (ly.map Lit.value).toArray) {K : Bool → Prop} (c : Bool) (hc : c = true ↔ lx = ly) (k : K c) : EqV P .eql t (.agg cx) (.agg cy) K := by
  subst ex; subst ey
  refine ⟨_, k, fun xo yo w => ?_⟩
  have h := equal_flat ha hf hk hm ox oy hc w
  simp [eqGuard, binOp, h, hg]
theorem EqV_neq {lx ly : List Lit} (ox : okAll ks lx = true) (oy : okAll ks ly = true) {cx cy : Array Value} (ex : cx = (lx.map Lit.value).toArray) (ey : cy = (ly.map Lit.value).toArray) {K : Bool → Prop} (c : Bool) (hc : c = true ↔ lx = ly) (k : K (!c)) : EqV P .neq t (.agg cx) (.agg cy) K := by
  subst ex; subst ey
  refine ⟨_, k, fun xo yo w => ?_⟩
  have h := equal_flat ha hf hk hm ox oy hc w
  simp [eqGuard, binOp, h, hg]
end
def plain64 (P : Program) (t : TypeId) (n : Nat) : Prop := isArr P t = true ∧ flat P 9 t = some (List.replicate n (.int .i64)) ∧ P.keyTypeAt 9 t = true ∧ P.eqGuardType P.depth t = false
theorem map64 (l : List Int) : (l.map (Lit.int .i64)).map Lit.value = l.map (Value.int .i64) := by rw [List.map_map]; rfl
theorem inj64 {a b : List Int} : a.map (Lit.int .i64) = b.map (Lit.int .i64) ↔ a = b := by
  constructor
  · intro h
    have : ∀ {a b : List Int}, a.map (Lit.int .i64) = b.map (Lit.int .i64) → a = b := by
      intro a
      induction a with
      | nil => intro b h; cases b with
        | nil => rfl
        | cons _ _ => simp at h
      | cons x a ih => intro b h; cases b with
        | nil => simp at h
        | cons y b => simp at h; rw [h.1, ih (by simpa using h.2)]
    exact this h
  · intro h; rw [h]
theorem EqI_eql {P : Program} {t : TypeId} {n : Nat} (hp : plain64 P t n) {a b : List Int} (la : a.length = n) (lb : b.length = n) (ra : ∀ x ∈ a, -9223372036854775808 ≤ x ∧ x ≤ 9223372036854775807) (rb : ∀ x ∈ b, -9223372036854775808 ≤ x ∧ x ≤ 9223372036854775807)
    {cx cy : Array Value} (ex : cx = (a.map (Value.int .i64)).toArray) (ey : cy = (b.map (Value.int .i64)).toArray) {K : Bool → Prop} (k : K (decide (a = b))) : EqV P .eql t (.agg cx) (.agg cy) K :=
  EqV_eql hp.1 hp.2.1 hp.2.2.1 (by omega) hp.2.2.2 (ok64 n a la ra) (ok64 n b lb rb) (by rw [map64]; exact ex) (by rw [map64]; exact ey) _ (by rw [inj64]; simp) k
theorem EqI_neq {P : Program} {t : TypeId} {n : Nat} (hp : plain64 P t n) {a b : List Int} (la : a.length = n) (lb : b.length = n) (ra : ∀ x ∈ a, -9223372036854775808 ≤ x ∧ x ≤ 9223372036854775807) (rb : ∀ x ∈ b, -9223372036854775808 ≤ x ∧ x ≤ 9223372036854775807)
    {cx cy : Array Value} (ex : cx = (a.map (Value.int .i64)).toArray) (ey : cy = (b.map (Value.int .i64)).toArray) {K : Bool → Prop} (k : K (!decide (a = b))) : EqV P .neq t (.agg cx) (.agg cy) K :=
  EqV_neq hp.1 hp.2.1 hp.2.2.1 (by omega) hp.2.2.2 (ok64 n a la ra) (ok64 n b lb rb) (by rw [map64]; exact ex) (by rw [map64]; exact ey) _ (by rw [inj64]; simp) k
end Go.Hw
end
section
/- Formulas of functions, printed by wip/tools/hwp.py. -/
namespace Go.Proofs.YtnknippcbecmeaaGreatDoor.W
open Go Go.Hw
theorem mixWstream : Tryz.prog.follows .mixedOrders = true := by kernel_rfl
def W_stream_Pipe_Write.j15 (K : Value → Hp → Prop) (R9 : Option Addr → Option Addr → Nat → Nat → Option Addr → Option Addr → Nat → Nat → Int → Int → Option Addr → Option Addr → Nat → Nat → Hp → Prop) (p12 : Option Addr) (A8 : Option Addr) (n8 : Nat) (m8 : Nat) (p13 : Option Addr) (a7 : Addr) (A9 : Option Addr) (n9 : Nat) (m9 : Nat) (x14 : Int) (x15 : Int) (p14 : Option Addr) (A10 : Option Addr) (n10 : Nat) (m10 : Nat) (H : Hp) : Prop :=
  QCall Tryz.prog 86 #[.pointer p13] H fun v19 => DSl v19 fun A11 n11 m11 => Ld H (a7.add 1) fun v20 => DI .i64 v20 fun x16 => slB n11 m11 (some x16) none fun n12 n13 => Ld H (a7.add 2) fun v21 => DI .i64 v21 fun x17 => slB n8 m8 none (some x17) fun n14 n15 => CpK Tryz.prog 60 (.slice (slA A11 m11 n12 1) (n13 - n12) (m11 - n12)) (.slice (slA A8 m8 n14 1) (n15 - n14) (m8 - n14)) H fun v22 H10 => DI .i64 v22 fun x18 => NN p12 fun a8 => Ld H10 (a7.add 0) fun v23 => DI .i64 v23 fun x19 => HCalls Tryz.prog 87 #[.pointer (some (a8.add 0)), .int .i64 x19, .pointer p13] H10 fun v24 H11 => DI .i64 v24 fun x20 => BIf (x20 != (0 : Int)) (HCallsD Tryz.prog 84 #[.pointer p14, .slice A10 n10 m10] H11 fun _ H13 => K (.int .i64 x20) H13) (Ld H11 (a7.add 2) fun v25 => DI .i64 v25 fun x21 => slB n8 m8 (some x21) none fun n16 n17 => R9 p12 (slA A8 m8 n16 1) (n17 - n16) (m8 - n16) p13 A9 n9 m9 x14 (IntKind.i64.wrap (x15 + (1 : Int))) p14 A10 n10 m10 H11)
def W_stream_Pipe_Write.l9 (K : Value → Hp → Prop) : Nat → Option Addr → Option Addr → Nat → Nat → Option Addr → Option Addr → Nat → Nat → Int → Int → Option Addr → Option Addr → Nat → Nat → Hp → Prop
  | 0, _, _, _, _, _, _, _, _, _, _, _, _, _, _, _ => False
  | k + 1, p9, A5, n5, m5, p10, A6, n6, m6, x8, x9, p11, A7, n7, m7, H =>
    let R9 := W_stream_Pipe_Write.l9 K k
    BIf (decide (x9 < x8)) (ixI x9 n6 (NN A6 fun a4 => LdA H (a4.add (x9.toNat * 3)) 3 fun l10 => Nw H (.obj (.cells #[.int .i64 0, .int .i64 0, .int .i64 0] 173)) fun b2 H7 => StA H7 (⟨b2, 0, none⟩ : Addr) l10.toArray 3 fun H8 => Ld H8 ((⟨b2, 0, none⟩ : Addr).add 2) fun v15 => DI .i64 v15 fun x10 => NN p9 fun a5 => QCall Tryz.prog 83 #[.pointer (some (a5.add 0))] H8 fun v16 => DI .i64 v16 fun x11 => BIf (decide (x10 < x11)) (NN p9 fun a6 => Ld H8 ((⟨b2, 0, none⟩ : Addr).add 0) fun v17 => DI .i64 v17 fun x12 => HCalls Tryz.prog 85 #[.pointer (some (a6.add 0)), .int .i64 x12, .pointer p10] H8 fun v18 H9 => DI .i64 v18 fun x13 => BIf (x13 != (0 : Int)) (HCallsD Tryz.prog 84 #[.pointer p11, .slice A7 n7 m7] H9 fun _ H12 => K (.int .i64 x13) H12) (W_stream_Pipe_Write.j15 K R9 p9 A5 n5 m5 p10 (⟨b2, 0, none⟩ : Addr) A6 n6 m6 x8 x9 p11 A7 n7 m7 H9)) (W_stream_Pipe_Write.j15 K R9 p9 A5 n5 m5 p10 (⟨b2, 0, none⟩ : Addr) A6 n6 m6 x8 x9 p11 A7 n7 m7 H8))) (HCallsD Tryz.prog 84 #[.pointer p11, .slice A7 n7 m7] H fun _ H14 => K (.int .i64 0) H14)
def W_stream_Pipe_Write.j5 (K : Value → Hp → Prop) (p6 : Option Addr) (A3 : Option Addr) (n3 : Nat) (m3 : Nat) (A4 : Option Addr) (n4 : Nat) (m4 : Nat) (x7 : Int) (p7 : Option Addr) (H : Hp) : Prop :=
  BIf (x7 != (0 : Int)) (K (.int .i64 x7) H) (NN p6 fun a3 => Ld H ((a3.add 0).add 1) fun v14 => DP v14 fun p8 => Nw H (.row [.pointer p7] 164 1) fun b1 H6 => (∃ k, W_stream_Pipe_Write.l9 K k p6 A3 n3 m3 p7 A4 n4 m4 ((n4 : Nat) : Int) (0 : Int) p8 (some ⟨b1, 0, none⟩) 1 1 H6))
def W_stream_Pipe_Write (p1 : Option Addr) (x1 : Int) (A1 : Option Addr) (n1 : Nat) (m1 : Nat) (H : Hp) (K : Value → Hp → Prop) : Prop :=
  HCalls Tryz.prog 81 #[.pointer p1, .int .i64 x1, .int .i64 ((n1 : Nat) : Int)] H fun v1 H1 => DTup v1 fun l1 => DCons l1 fun v2 l2 => DSl v2 fun A2 n2 m2 => DCons l2 fun v3 l3 => DI .i64 v3 fun x2 => DNil l3 (BIf (x2 != (0 : Int)) (K (.int .i64 x2) H1) (BIf (((n1 : Nat) : Int) == (0 : Int)) (K (.int .i64 x2) H1) (NN p1 fun a1 => NN p1 fun a2 => (Ld H1 ((a1.add 0).add 1) fun v4 => DP v4 fun p2 => HCalls Tryz.prog 83 #[.pointer (some (a2.add 0))] H1 fun v5 H2 => DI .i64 v5 fun x3 => HCalls Tryz.prog 82 #[.pointer p2, .int .i64 x3] H2 fun v6 H3 => DTup v6 fun l4 => DCons l4 fun v7 l5 => DP v7 fun p3 => DCons l5 fun v8 l6 => DI .i64 v8 fun x4 => DNil l6 (W_stream_Pipe_Write.j5 K p1 A1 n1 m1 A2 n2 m2 x4 p3 H3)) ∧ (HCalls Tryz.prog 83 #[.pointer (some (a2.add 0))] H1 fun v9 H4 => DI .i64 v9 fun x5 => Ld H4 ((a1.add 0).add 1) fun v10 => DP v10 fun p4 => HCalls Tryz.prog 82 #[.pointer p4, .int .i64 x5] H4 fun v11 H5 => DTup v11 fun l7 => DCons l7 fun v12 l8 => DP v12 fun p5 => DCons l8 fun v13 l9 => DI .i64 v13 fun x6 => DNil l9 (W_stream_Pipe_Write.j5 K p1 A1 n1 m1 A2 n2 m2 x6 p5 H5)))))
def W_stream_Pipe_Write.l9.L (K : Value → Hp → Prop) (k : Nat) : Mid := fun E D H =>
  eP E 0 fun p9 => DG (E.get? 2) fun w2 => DSl w2 fun A5 n5 m5 => eP E 9 fun p10 => DG (E.get? 53) fun w53 => DSl w53 fun A6 n6 m6 => eI E 54 .i64 fun x8 => eI E 55 .i64 fun x9 => DDef 84 D fun dc0 da0 D1 => DNil dc0 (DCons da0 fun u0da0 r0da0 => DP u0da0 fun p11 => DCons r0da0 fun u1da0 r1da0 => DSl u1da0 fun A7 n7 m7 => DNil r1da0 (DNilD D1 (W_stream_Pipe_Write.l9 K k p9 A5 n5 m5 p10 A6 n6 m6 x8 x9 p11 A7 n7 m7 H)))
def W_stream_Pipe_Write.Λ9 (K : Value → Hp → Prop) (R9 : Option Addr → Option Addr → Nat → Nat → Option Addr → Option Addr → Nat → Nat → Int → Int → Option Addr → Option Addr → Nat → Nat → Hp → Prop) : Cuts := ⟨fun i => match Nat.beq i 15 with | true => some (fun E D H => eP E 0 fun p12 => DG (E.get? 2) fun w2 => DSl w2 fun A8 n8 m8 => eP E 9 fun p13 => eN E 11 fun a7 => DG (E.get? 53) fun w53 => DSl w53 fun A9 n9 m9 => eI E 54 .i64 fun x14 => eI E 55 .i64 fun x15 => DDef 84 D fun dc0 da0 D1 => DNil dc0 (DCons da0 fun u0da0 r0da0 => DP u0da0 fun p14 => DCons r0da0 fun u1da0 r1da0 => DSl u1da0 fun A10 n10 m10 => DNil r1da0 (DNilD D1 (W_stream_Pipe_Write.j15 K R9 p12 A8 n8 m8 p13 a7 A9 n9 m9 x14 x15 p14 A10 n10 m10 H)))) | false => none, fun i => none, (fun i => match Nat.beq i 16 with | true => some ([], [0, 1, 2, 3, 4, 5], 6) | false => match Nat.beq i 15 with | true => some ([], [0, 1, 2, 3, 4, 5, 6, 7, 8], 9) | false => match Nat.beq i 12 with | true => some ([], [0, 1, 2, 3, 4, 5], 6) | false => match Nat.beq i 4 with | true => some ([], [0, 1, 3, 7, 15, 0, 32, 96, 224, 511, 1023, 2047, 2047, 4095, 16383], 0) | false => none)⟩
def W_stream_Pipe_Write.Λ (K : Value → Hp → Prop) : Cuts := ⟨fun i => match Nat.beq i 5 with | true => some (fun E D H => eP E 0 fun p6 => DG (E.get? 2) fun w2 => DSl w2 fun A3 n3 m3 => DG (E.get? 7) fun w7 => DSl w7 fun A4 n4 m4 => eI E 8 .i64 fun x7 => eP E 9 fun p7 => DNilD D (W_stream_Pipe_Write.j5 K p6 A3 n3 m3 A4 n4 m4 x7 p7 H)) | false => none, fun i => match Nat.beq i 9 with | true => some (fun E D H => ∃ k, W_stream_Pipe_Write.l9.L K k E D H) | false => none, (fun i => match Nat.beq i 16 with | true => some ([], [0, 1, 2, 3, 4, 5], 6) | false => match Nat.beq i 15 with | true => some ([], [0, 1, 2, 3, 4, 5, 6, 7, 8], 9) | false => match Nat.beq i 12 with | true => some ([], [0, 1, 2, 3, 4, 5], 6) | false => match Nat.beq i 4 with | true => some ([], [0, 1, 3, 7, 15, 0, 32, 96, 224, 511, 1023, 2047, 2047, 4095, 16383], 0) | false => none)⟩
theorem W_stream_Pipe_Write.ok (p1 : Option Addr) (x1 : Int) (A1 : Option Addr) (n1 : Nat) (m1 : Nat) (H : Hp) (K : Value → Hp → Prop) (h : W_stream_Pipe_Write p1 x1 A1 n1 m1 H K) : HCalls Tryz.prog 46 #[.pointer p1, .int .i64 x1, .slice A1 n1 m1] H K :=
  hcalls Tryz.func46 rfl (Nat.le_of_ble_eq_true rfl) (hw_safe (Λ := (W_stream_Pipe_Write.Λ K)) mixWstream _ _ _ _ _ (Eq.mp (by kernel_rfl) h) (obs_seq obs_region rfl (obs_seq obs_region rfl (obs_seq (obs_seq obs_region rfl (obs_cond (obs_seq obs_region rfl obs_ret) obs_skip)) rfl (obs_seqc obs_region rfl (fun E D H h => by
      obtain ⟨p6, e0, g2⟩ := GP h
      obtain ⟨w2, e2, g3⟩ := DG.out g2
      obtain ⟨A3, n3, m3, rfl, g4⟩ := DSl.out g3
      obtain ⟨w7, e7, g5⟩ := DG.out g4
      obtain ⟨A4, n4, m4, rfl, g6⟩ := DSl.out g5
      obtain ⟨x7, e8, g8⟩ := GI g6; obtain ⟨p7, e9, g10⟩ := GP g8; obtain ⟨rfl, h'⟩ := DNilD.out g10
      exact (hw_safe (Λ := (W_stream_Pipe_Write.Λ K)) mixWstream _ _ [(0, .pointer p6), (2, .slice A3 n3 m3), (7, .slice A4 n4 m4), (8, .int .i64 x7), (9, .pointer p7)] [] H (Eq.mp (by kernel_rfl) h') (obs_seq (obs_seq obs_region rfl (obs_cond (obs_seq obs_region rfl obs_ret) obs_skip)) rfl (obs_seq obs_region rfl (obs_seq (obs_seq obs_region rfl (obs_block (obs_loop rfl (fun E D H h => by
          refine Safe.loop' (W_stream_Pipe_Write.l9.L K) (fun E D H h => ?_) (fun k E D H h => ?_) E D H h
          · obtain ⟨w0, e0, g1⟩ := DG.out h; obtain ⟨p9, rfl, g2⟩ := DP.out g1; obtain ⟨w2, e2, g3⟩ := DG.out g2; obtain ⟨A5, n5, m5, rfl, g4⟩ := DSl.out g3; obtain ⟨w9, e9, g5⟩ := DG.out g4; obtain ⟨p10, rfl, g6⟩ := DP.out g5; obtain ⟨w53, e53, g7⟩ := DG.out g6; obtain ⟨A6, n6, m6, rfl, g8⟩ := DSl.out g7; obtain ⟨w54, e54, g9⟩ := DG.out g8; obtain ⟨x8, rfl, g10⟩ := DI.out g9; obtain ⟨w55, e55, g11⟩ := DG.out g10; obtain ⟨x9, rfl, g12⟩ := DI.out g11; obtain ⟨dc0, da0, D1, rfl, g13⟩ := DDef.out g12; obtain ⟨rfl, g14⟩ := DNil.out g13; obtain ⟨u0da0, r0da0, rfl, g15⟩ := DCons.out g14; obtain ⟨p11, rfl, g16⟩ := DP.out g15; obtain ⟨u1da0, r1da0, rfl, g17⟩ := DCons.out g16; obtain ⟨A7, n7, m7, rfl, g18⟩ := DSl.out g17; obtain ⟨rfl, g19⟩ := DNil.out g18; obtain ⟨rfl, h'⟩ := DNilD.out g19; exact h'
          · obtain ⟨p9, e0, g2⟩ := GP h
            obtain ⟨w2, e2, g3⟩ := DG.out g2
            obtain ⟨A5, n5, m5, rfl, g4⟩ := DSl.out g3
            obtain ⟨p10, e9, g6⟩ := GP g4
            obtain ⟨w53, e53, g7⟩ := DG.out g6
            obtain ⟨A6, n6, m6, rfl, g8⟩ := DSl.out g7
            obtain ⟨x8, e54, g10⟩ := GI g8; obtain ⟨x9, e55, g12⟩ := GI g10; obtain ⟨dc0, da0, D1, rfl, g13⟩ := DDef.out g12
            obtain ⟨rfl, g14⟩ := DNil.out g13
            obtain ⟨u0da0, r0da0, rfl, g15⟩ := DCons.out g14
            obtain ⟨p11, rfl, g16⟩ := DP.out g15
            obtain ⟨u1da0, r1da0, rfl, g17⟩ := DCons.out g16
            obtain ⟨A7, n7, m7, rfl, g18⟩ := DSl.out g17
            obtain ⟨rfl, g19⟩ := DNil.out g18
            obtain ⟨rfl, h'⟩ := DNilD.out g19
            exact (hw_safe (Λ := (W_stream_Pipe_Write.Λ9 K (W_stream_Pipe_Write.l9 K k))) mixWstream _ _ [(0, .pointer p9), (2, .slice A5 n5 m5), (9, .pointer p10), (53, .slice A6 n6 m6), (54, .int .i64 x8), (55, .int .i64 x9)] [{ target := .fn (.func 84) #[], args := #[.pointer p11, .slice A7 n7 m7] }] H (Eq.mp (by kernel_rfl) h') (obs_seq obs_region rfl (obs_seq (obs_cond obs_skip obs_exit) rfl (obs_seq (obs_block (obs_seq obs_region rfl (obs_seqc (obs_seq obs_region rfl (obs_cond (obs_seq obs_region rfl (obs_seq obs_region rfl (obs_cond (obs_seq obs_region rfl obs_ret) obs_skip))) obs_skip)) rfl (fun E D H h => by
                obtain ⟨p12, e0, g2⟩ := GP h
                obtain ⟨w2, e2, g3⟩ := DG.out g2
                obtain ⟨A8, n8, m8, rfl, g4⟩ := DSl.out g3
                obtain ⟨p13, e9, g6⟩ := GP g4; obtain ⟨a7, e11, g9⟩ := GN g6; obtain ⟨w53, e53, g10⟩ := DG.out g9
                obtain ⟨A9, n9, m9, rfl, g11⟩ := DSl.out g10
                obtain ⟨x14, e54, g13⟩ := GI g11; obtain ⟨x15, e55, g15⟩ := GI g13; obtain ⟨dc0, da0, D1, rfl, g16⟩ := DDef.out g15
                obtain ⟨rfl, g17⟩ := DNil.out g16
                obtain ⟨u0da0, r0da0, rfl, g18⟩ := DCons.out g17
                obtain ⟨p14, rfl, g19⟩ := DP.out g18
                obtain ⟨u1da0, r1da0, rfl, g20⟩ := DCons.out g19
                obtain ⟨A10, n10, m10, rfl, g21⟩ := DSl.out g20
                obtain ⟨rfl, g22⟩ := DNil.out g21
                obtain ⟨rfl, h'⟩ := DNilD.out g22
                exact (hw_safe (Λ := (W_stream_Pipe_Write.Λ9 K (W_stream_Pipe_Write.l9 K k))) mixWstream _ _ [(0, .pointer p12), (2, .slice A8 n8 m8), (9, .pointer p13), (11, .pointer (some a7)), (53, .slice A9 n9 m9), (54, .int .i64 x14), (55, .int .i64 x15)] [{ target := .fn (.func 84) #[], args := #[.pointer p14, .slice A10 n10 m10] }] H (Eq.mp (by kernel_rfl) h') (obs_seq obs_region rfl (obs_seq (obs_seq obs_region rfl (obs_seq obs_region rfl (obs_cond (obs_seq obs_region rfl obs_ret) obs_skip))) rfl obs_region))).weaken (EnvLe.cons e0 (EnvLe.cons e2 (EnvLe.cons e9 (EnvLe.cons e11 (EnvLe.cons e53 (EnvLe.cons e54 (EnvLe.cons e55 (EnvLe.nil _)))))))) (Hp.le_refl _))))) rfl obs_region)))).weaken (EnvLe.cons e0 (EnvLe.cons e2 (EnvLe.cons e9 (EnvLe.cons e53 (EnvLe.cons e54 (EnvLe.cons e55 (EnvLe.nil _))))))) (Hp.le_refl _))))) rfl (obs_seq obs_region rfl obs_ret))))).weaken (EnvLe.cons e0 (EnvLe.cons e2 (EnvLe.cons e7 (EnvLe.cons e8 (EnvLe.cons e9 (EnvLe.nil _)))))) (Hp.le_refl _)))))))
def W_stream_Pipe_Sum (p1 : Option Addr) (H : Hp) (K : Value → Hp → Prop) : Prop :=
  Nw H (.obj (.cells #[.pointer p1] 116)) fun b1 H1 => Nw H1 (.obj (.cells #[.int .u32 0, .int .i64 0] 182)) fun b2 H2 => Ld H2 (⟨b1, 0, none⟩ : Addr) fun v1 => DP v1 fun p2 => HCalls Tryz.prog 93 #[.pointer p2, .func (.func 94) #[] #[.pointer (some (⟨b1, 0, none⟩ : Addr)), .pointer (some (⟨b2, 0, none⟩ : Addr))]] H2 fun v2 H3 => DI .i64 v2 fun x1 => BIf (x1 != (0 : Int)) (K (.tuple #[.int .u32 0, .int .i64 x1]) H3) (HCalls Tryz.prog 96 #[.pointer (some (⟨b2, 0, none⟩ : Addr))] H3 fun v3 H4 => DI .u32 v3 fun x2 => K (.tuple #[.int .u32 x2, .int .i64 0]) H4)
theorem W_stream_Pipe_Sum.ok (p1 : Option Addr) (H : Hp) (K : Value → Hp → Prop) (h : W_stream_Pipe_Sum p1 H K) : HCalls Tryz.prog 56 #[.pointer p1] H K :=
  hcalls Tryz.func56 rfl (Nat.le_of_ble_eq_true rfl) (hw_safe (Λ := Cuts.none (fun _ => none)) mixWstream _ _ _ _ _ (Eq.mp (by kernel_rfl) h) (obs_none _ _ _ _ _))
def W_stream_Pipe_Read.l9 (K : Value → Hp → Prop) : Nat → Option Addr → Option Addr → Nat → Nat → Option Addr → Option Addr → Nat → Nat → Int → Int → Option Addr → Option Addr → Nat → Nat → Hp → Prop
  | 0, _, _, _, _, _, _, _, _, _, _, _, _, _, _, _ => False
  | k + 1, p9, A5, n5, m5, p10, A6, n6, m6, x8, x9, p11, A7, n7, m7, H =>
    let R9 := W_stream_Pipe_Read.l9 K k
    BIf (decide (x9 < x8)) (ixI x9 n6 (NN A6 fun a4 => LdA H (a4.add (x9.toNat * 3)) 3 fun l10 => Nw H (.obj (.cells #[.int .i64 0, .int .i64 0, .int .i64 0] 173)) fun b2 H7 => StA H7 (⟨b2, 0, none⟩ : Addr) l10.toArray 3 fun H8 => NN p9 fun a5 => Ld H8 ((⟨b2, 0, none⟩ : Addr).add 0) fun v15 => DI .i64 v15 fun x10 => HCalls Tryz.prog 85 #[.pointer (some (a5.add 0)), .int .i64 x10, .pointer p10] H8 fun v16 H9 => DI .i64 v16 fun x11 => BIf (x11 != (0 : Int)) (HCallsD Tryz.prog 84 #[.pointer p11, .slice A7 n7 m7] H9 fun _ H11 => K (.int .i64 x11) H11) (Ld H9 ((⟨b2, 0, none⟩ : Addr).add 2) fun v17 => DI .i64 v17 fun x12 => slB n5 m5 none (some x12) fun n8 n9 => QCall Tryz.prog 86 #[.pointer p10] H9 fun v18 => DSl v18 fun A8 n10 m8 => Ld H9 ((⟨b2, 0, none⟩ : Addr).add 1) fun v19 => DI .i64 v19 fun x13 => slB n10 m8 (some x13) none fun n11 n12 => CpK Tryz.prog 60 (.slice (slA A5 m5 n8 1) (n9 - n8) (m5 - n8)) (.slice (slA A8 m8 n11 1) (n12 - n11) (m8 - n11)) H9 fun v20 H10 => DI .i64 v20 fun x14 => Ld H10 ((⟨b2, 0, none⟩ : Addr).add 2) fun v21 => DI .i64 v21 fun x15 => slB n5 m5 (some x15) none fun n13 n14 => R9 p9 (slA A5 m5 n13 1) (n14 - n13) (m5 - n13) p10 A6 n6 m6 x8 (IntKind.i64.wrap (x9 + (1 : Int))) p11 A7 n7 m7 H10))) (HCallsD Tryz.prog 84 #[.pointer p11, .slice A7 n7 m7] H fun _ H12 => K (.int .i64 0) H12)
def W_stream_Pipe_Read.j5 (K : Value → Hp → Prop) (p6 : Option Addr) (A3 : Option Addr) (n3 : Nat) (m3 : Nat) (A4 : Option Addr) (n4 : Nat) (m4 : Nat) (x7 : Int) (p7 : Option Addr) (H : Hp) : Prop :=
  BIf (x7 != (0 : Int)) (K (.int .i64 x7) H) (NN p6 fun a3 => Ld H ((a3.add 0).add 1) fun v14 => DP v14 fun p8 => Nw H (.row [.pointer p7] 164 1) fun b1 H6 => (∃ k, W_stream_Pipe_Read.l9 K k p6 A3 n3 m3 p7 A4 n4 m4 ((n4 : Nat) : Int) (0 : Int) p8 (some ⟨b1, 0, none⟩) 1 1 H6))
def W_stream_Pipe_Read (p1 : Option Addr) (x1 : Int) (A1 : Option Addr) (n1 : Nat) (m1 : Nat) (H : Hp) (K : Value → Hp → Prop) : Prop :=
  HCalls Tryz.prog 81 #[.pointer p1, .int .i64 x1, .int .i64 ((n1 : Nat) : Int)] H fun v1 H1 => DTup v1 fun l1 => DCons l1 fun v2 l2 => DSl v2 fun A2 n2 m2 => DCons l2 fun v3 l3 => DI .i64 v3 fun x2 => DNil l3 (BIf (x2 != (0 : Int)) (K (.int .i64 x2) H1) (BIf (((n1 : Nat) : Int) == (0 : Int)) (K (.int .i64 x2) H1) (NN p1 fun a1 => NN p1 fun a2 => (Ld H1 ((a1.add 0).add 1) fun v4 => DP v4 fun p2 => HCalls Tryz.prog 83 #[.pointer (some (a2.add 0))] H1 fun v5 H2 => DI .i64 v5 fun x3 => HCalls Tryz.prog 82 #[.pointer p2, .int .i64 x3] H2 fun v6 H3 => DTup v6 fun l4 => DCons l4 fun v7 l5 => DP v7 fun p3 => DCons l5 fun v8 l6 => DI .i64 v8 fun x4 => DNil l6 (W_stream_Pipe_Read.j5 K p1 A1 n1 m1 A2 n2 m2 x4 p3 H3)) ∧ (HCalls Tryz.prog 83 #[.pointer (some (a2.add 0))] H1 fun v9 H4 => DI .i64 v9 fun x5 => Ld H4 ((a1.add 0).add 1) fun v10 => DP v10 fun p4 => HCalls Tryz.prog 82 #[.pointer p4, .int .i64 x5] H4 fun v11 H5 => DTup v11 fun l7 => DCons l7 fun v12 l8 => DP v12 fun p5 => DCons l8 fun v13 l9 => DI .i64 v13 fun x6 => DNil l9 (W_stream_Pipe_Read.j5 K p1 A1 n1 m1 A2 n2 m2 x6 p5 H5)))))
def W_stream_Pipe_Read.l9.L (K : Value → Hp → Prop) (k : Nat) : Mid := fun E D H =>
  eP E 0 fun p9 => DG (E.get? 2) fun w2 => DSl w2 fun A5 n5 m5 => eP E 9 fun p10 => DG (E.get? 52) fun w52 => DSl w52 fun A6 n6 m6 => eI E 53 .i64 fun x8 => eI E 54 .i64 fun x9 => DDef 84 D fun dc0 da0 D1 => DNil dc0 (DCons da0 fun u0da0 r0da0 => DP u0da0 fun p11 => DCons r0da0 fun u1da0 r1da0 => DSl u1da0 fun A7 n7 m7 => DNil r1da0 (DNilD D1 (W_stream_Pipe_Read.l9 K k p9 A5 n5 m5 p10 A6 n6 m6 x8 x9 p11 A7 n7 m7 H)))
def W_stream_Pipe_Read.Λ9 (_ : Value → Hp → Prop) (_R9 : Option Addr → Option Addr → Nat → Nat → Option Addr → Option Addr → Nat → Nat → Int → Int → Option Addr → Option Addr → Nat → Nat → Hp → Prop) : Cuts := Cuts.none (fun i => match Nat.beq i 14 with | true => some ([], [0, 1, 2, 3, 4, 5, 6, 7, 8], 9) | false => match Nat.beq i 11 with | true => some ([], [0, 1, 2, 3, 4, 5], 6) | false => match Nat.beq i 4 with | true => some ([], [0, 1, 3, 7, 15, 0, 32, 96, 224, 511, 1023, 2047, 2047, 4095, 16383], 0) | false => none)
def W_stream_Pipe_Read.Λ (K : Value → Hp → Prop) : Cuts := ⟨fun i => match Nat.beq i 5 with | true => some (fun E D H => eP E 0 fun p6 => DG (E.get? 2) fun w2 => DSl w2 fun A3 n3 m3 => DG (E.get? 7) fun w7 => DSl w7 fun A4 n4 m4 => eI E 8 .i64 fun x7 => eP E 9 fun p7 => DNilD D (W_stream_Pipe_Read.j5 K p6 A3 n3 m3 A4 n4 m4 x7 p7 H)) | false => none, fun i => match Nat.beq i 9 with | true => some (fun E D H => ∃ k, W_stream_Pipe_Read.l9.L K k E D H) | false => none, (fun i => match Nat.beq i 14 with | true => some ([], [0, 1, 2, 3, 4, 5, 6, 7, 8], 9) | false => match Nat.beq i 11 with | true => some ([], [0, 1, 2, 3, 4, 5], 6) | false => match Nat.beq i 4 with | true => some ([], [0, 1, 3, 7, 15, 0, 32, 96, 224, 511, 1023, 2047, 2047, 4095, 16383], 0) | false => none)⟩
theorem W_stream_Pipe_Read.ok (p1 : Option Addr) (x1 : Int) (A1 : Option Addr) (n1 : Nat) (m1 : Nat) (H : Hp) (K : Value → Hp → Prop) (h : W_stream_Pipe_Read p1 x1 A1 n1 m1 H K) : HCalls Tryz.prog 59 #[.pointer p1, .int .i64 x1, .slice A1 n1 m1] H K :=
  hcalls Tryz.func59 rfl (Nat.le_of_ble_eq_true rfl) (hw_safe (Λ := (W_stream_Pipe_Read.Λ K)) mixWstream _ _ _ _ _ (Eq.mp (by kernel_rfl) h) (obs_seq obs_region rfl (obs_seq obs_region rfl (obs_seq (obs_seq obs_region rfl (obs_cond (obs_seq obs_region rfl obs_ret) obs_skip)) rfl (obs_seqc obs_region rfl (fun E D H h => by
      obtain ⟨p6, e0, g2⟩ := GP h
      obtain ⟨w2, e2, g3⟩ := DG.out g2
      obtain ⟨A3, n3, m3, rfl, g4⟩ := DSl.out g3
      obtain ⟨w7, e7, g5⟩ := DG.out g4
      obtain ⟨A4, n4, m4, rfl, g6⟩ := DSl.out g5
      obtain ⟨x7, e8, g8⟩ := GI g6; obtain ⟨p7, e9, g10⟩ := GP g8; obtain ⟨rfl, h'⟩ := DNilD.out g10
      exact (hw_safe (Λ := (W_stream_Pipe_Read.Λ K)) mixWstream _ _ [(0, .pointer p6), (2, .slice A3 n3 m3), (7, .slice A4 n4 m4), (8, .int .i64 x7), (9, .pointer p7)] [] H (Eq.mp (by kernel_rfl) h') (obs_seq (obs_seq obs_region rfl (obs_cond (obs_seq obs_region rfl obs_ret) obs_skip)) rfl (obs_seq obs_region rfl (obs_seq (obs_seq obs_region rfl (obs_block (obs_loop rfl (fun E D H h => by
          refine Safe.loop' (W_stream_Pipe_Read.l9.L K) (fun E D H h => ?_) (fun k E D H h => ?_) E D H h
          · obtain ⟨w0, e0, g1⟩ := DG.out h; obtain ⟨p9, rfl, g2⟩ := DP.out g1; obtain ⟨w2, e2, g3⟩ := DG.out g2; obtain ⟨A5, n5, m5, rfl, g4⟩ := DSl.out g3; obtain ⟨w9, e9, g5⟩ := DG.out g4; obtain ⟨p10, rfl, g6⟩ := DP.out g5; obtain ⟨w52, e52, g7⟩ := DG.out g6; obtain ⟨A6, n6, m6, rfl, g8⟩ := DSl.out g7; obtain ⟨w53, e53, g9⟩ := DG.out g8; obtain ⟨x8, rfl, g10⟩ := DI.out g9; obtain ⟨w54, e54, g11⟩ := DG.out g10; obtain ⟨x9, rfl, g12⟩ := DI.out g11; obtain ⟨dc0, da0, D1, rfl, g13⟩ := DDef.out g12; obtain ⟨rfl, g14⟩ := DNil.out g13; obtain ⟨u0da0, r0da0, rfl, g15⟩ := DCons.out g14; obtain ⟨p11, rfl, g16⟩ := DP.out g15; obtain ⟨u1da0, r1da0, rfl, g17⟩ := DCons.out g16; obtain ⟨A7, n7, m7, rfl, g18⟩ := DSl.out g17; obtain ⟨rfl, g19⟩ := DNil.out g18; obtain ⟨rfl, h'⟩ := DNilD.out g19; exact h'
          · obtain ⟨p9, e0, g2⟩ := GP h
            obtain ⟨w2, e2, g3⟩ := DG.out g2
            obtain ⟨A5, n5, m5, rfl, g4⟩ := DSl.out g3
            obtain ⟨p10, e9, g6⟩ := GP g4
            obtain ⟨w52, e52, g7⟩ := DG.out g6
            obtain ⟨A6, n6, m6, rfl, g8⟩ := DSl.out g7
            obtain ⟨x8, e53, g10⟩ := GI g8; obtain ⟨x9, e54, g12⟩ := GI g10; obtain ⟨dc0, da0, D1, rfl, g13⟩ := DDef.out g12
            obtain ⟨rfl, g14⟩ := DNil.out g13
            obtain ⟨u0da0, r0da0, rfl, g15⟩ := DCons.out g14
            obtain ⟨p11, rfl, g16⟩ := DP.out g15
            obtain ⟨u1da0, r1da0, rfl, g17⟩ := DCons.out g16
            obtain ⟨A7, n7, m7, rfl, g18⟩ := DSl.out g17
            obtain ⟨rfl, g19⟩ := DNil.out g18
            obtain ⟨rfl, h'⟩ := DNilD.out g19
            exact (hw_safe (Λ := (W_stream_Pipe_Read.Λ9 K (W_stream_Pipe_Read.l9 K k))) mixWstream _ _ [(0, .pointer p9), (2, .slice A5 n5 m5), (9, .pointer p10), (52, .slice A6 n6 m6), (53, .int .i64 x8), (54, .int .i64 x9)] [{ target := .fn (.func 84) #[], args := #[.pointer p11, .slice A7 n7 m7] }] H (Eq.mp (by kernel_rfl) h') (obs_seq obs_region rfl (obs_seq (obs_cond obs_skip obs_exit) rfl (obs_seq (obs_block (obs_seq obs_region rfl (obs_seq (obs_seq obs_region rfl (obs_seq obs_region rfl (obs_cond (obs_seq obs_region rfl obs_ret) obs_skip))) rfl (obs_seq obs_region rfl obs_region)))) rfl obs_region)))).weaken (EnvLe.cons e0 (EnvLe.cons e2 (EnvLe.cons e9 (EnvLe.cons e52 (EnvLe.cons e53 (EnvLe.cons e54 (EnvLe.nil _))))))) (Hp.le_refl _))))) rfl (obs_seq obs_region rfl obs_ret))))).weaken (EnvLe.cons e0 (EnvLe.cons e2 (EnvLe.cons e7 (EnvLe.cons e8 (EnvLe.cons e9 (EnvLe.nil _)))))) (Hp.le_refl _)))))))
def W_stream_New (p1 : Option Addr) (p2 : Option Addr) (x1 : Int) (x2 : Int) (x3 : Int) (H : Hp) (K : Value → Hp → Prop) : Prop :=
  Nw H (.obj (.cells #[.int .i64 x1, .int .i64 x2, .int .i64 x3] 30)) fun b1 H1 => BIf p1.isNone (K (.tuple #[.pointer none, .int .i64 1]) H1) (BIf p2.isNone (K (.tuple #[.pointer none, .int .i64 1]) H1) (LdA H1 (⟨b1, 0, none⟩ : Addr) 3 fun l1 => DCons l1.toArray.toList fun v1 l2 => DI .i64 v1 fun x4 => DCons l2 fun v2 l3 => DI .i64 v2 fun x5 => DCons l3 fun v3 l4 => DI .i64 v3 fun x6 => DNil l4 (Nw H1 (.obj (.cells #[.pointer p1, .pointer p2, .int .i64 x4, .int .i64 x5, .int .i64 x6] 169)) fun b2 H2 => Ld H2 ((⟨b1, 0, none⟩ : Addr).add 2) fun v4 => DI .i64 v4 fun x7 => BIf (decide (x7 < (1 : Int))) (K (.tuple #[.pointer none, .int .i64 2]) H2) (Ld H2 ((⟨b1, 0, none⟩ : Addr).add 0) fun v5 => DI .i64 v5 fun x8 => BIf (decide (x8 < (0 : Int))) (K (.tuple #[.pointer none, .int .i64 2]) H2) (Ld H2 ((⟨b1, 0, none⟩ : Addr).add 1) fun v6 => DI .i64 v6 fun x9 => BIf (decide (x9 < (1 : Int))) (K (.tuple #[.pointer none, .int .i64 2]) H2) (Ld H2 ((⟨b1, 0, none⟩ : Addr).add 0) fun v7 => DI .i64 v7 fun x10 => NN p1 fun a1 => QCall Tryz.prog 44 #[.pointer (some (a1.add 0))] H2 fun v8 => DI .i64 v8 fun x11 => BIf (decide (x10 ≥ x11)) (K (.tuple #[.pointer none, .int .i64 2]) H2) (Ld H2 ((⟨b1, 0, none⟩ : Addr).add 1) fun v9 => DI .i64 v9 fun x12 => NN p1 fun a2 => QCall Tryz.prog 44 #[.pointer (some (a2.add 0))] H2 fun v10 => DI .i64 v10 fun x13 => Ld H2 ((⟨b1, 0, none⟩ : Addr).add 0) fun v11 => DI .i64 v11 fun x14 => BIf (decide (x12 > (IntKind.i64.wrap (x13 - x14)))) (K (.tuple #[.pointer none, .int .i64 2]) H2) (Ld H2 ((⟨b1, 0, none⟩ : Addr).add 2) fun v12 => DI .i64 v12 fun x15 => Ld H2 ((⟨b1, 0, none⟩ : Addr).add 1) fun v13 => DI .i64 v13 fun x16 => QCall Tryz.prog 83 #[.pointer (some ((⟨b2, 0, none⟩ : Addr).add 0))] H2 fun v14 => DI .i64 v14 fun x17 => BIf (decide (x15 > (IntKind.i64.wrap (x16 * x17)))) (K (.tuple #[.pointer none, .int .i64 2]) H2) (K (.tuple #[.pointer (some (⟨b2, 0, none⟩ : Addr)), .int .i64 0]) H2)))))))))
theorem W_stream_New.ok (p1 : Option Addr) (p2 : Option Addr) (x1 : Int) (x2 : Int) (x3 : Int) (H : Hp) (K : Value → Hp → Prop) (h : W_stream_New p1 p2 x1 x2 x3 H K) : HCalls Tryz.prog 80 #[.pointer p1, .pointer p2, .agg #[.int .i64 x1, .int .i64 x2, .int .i64 x3]] H K :=
  hcalls Tryz.func80 rfl (Nat.le_of_ble_eq_true rfl) (hw_safe (Λ := Cuts.none (fun _ => none)) mixWstream _ _ _ _ _ (Eq.mp (by kernel_rfl) h) (obs_none _ _ _ _ _))
def W_stream_Pipe_pieces.l4 (K : Value → Hp → Prop) : Nat → Option Addr → Int → Int → Option Addr → Nat → Nat → Hp → Prop
  | 0, _, _, _, _, _, _, _ => False
  | k + 1, p2, x5, x6, A1, n1, m1, H =>
    let R4 := W_stream_Pipe_pieces.l4 K k
    BIf (decide (x6 > (0 : Int))) (NN p2 fun a1 => LdA H (a1.add 2) 3 fun l1 => NN p2 fun a2 => QCall Tryz.prog 83 #[.pointer (some (a2.add 0))] H fun v3 => DI .i64 v3 fun x7 => QCall Tryz.prog 127 #[.agg l1.toArray, .int .i64 x7, .int .i64 x5] H fun v4 => DTup v4 fun l2 => DCons l2 fun v5 l3 => DI .i64 v5 fun x8 => DCons l3 fun v6 l4 => DI .i64 v6 fun x9 => DCons l4 fun v7 l5 => DI .i64 v7 fun x10 => DNil l5 (BIf (x10 != (0 : Int)) (K (.tuple #[.slice none 0 0, .int .i64 x10]) H) (NN p2 fun a3 => HCalls Tryz.prog 83 #[.pointer (some (a3.add 0))] H fun v8 H3 => DI .i64 v8 fun x11 => Nw H3 (.row [.int .i64 x8, .int .i64 x9, .int .i64 (if (IntKind.i64.wrap (x11 - x9)) < x6 then (IntKind.i64.wrap (x11 - x9)) else x6)] 173 3) fun b1 H4 => AppK Tryz.prog 173 (.slice A1 n1 m1) (.slice (some ⟨b1, 0, none⟩) 1 1) H4 fun v9 H5 => DSl v9 fun A2 n2 m2 => R4 p2 (IntKind.i64.wrap (x5 + (if (IntKind.i64.wrap (x11 - x9)) < x6 then (IntKind.i64.wrap (x11 - x9)) else x6))) (IntKind.i64.wrap (x6 - (if (IntKind.i64.wrap (x11 - x9)) < x6 then (IntKind.i64.wrap (x11 - x9)) else x6))) A2 n2 m2 H5))) (K (.tuple #[.slice A1 n1 m1, .int .i64 0]) H)
def W_stream_Pipe_pieces (p1 : Option Addr) (x1 : Int) (x2 : Int) (H : Hp) (K : Value → Hp → Prop) : Prop :=
  BIf (decide (x1 < (0 : Int))) (K (.tuple #[.slice none 0 0, .int .i64 2]) H) (HCalls Tryz.prog 126 #[.pointer p1] H fun v1 H1 => DI .i64 v1 fun x3 => BIf (decide (x1 > x3)) (K (.tuple #[.slice none 0 0, .int .i64 2]) H1) (HCalls Tryz.prog 126 #[.pointer p1] H1 fun v2 H2 => DI .i64 v2 fun x4 => BIf (decide (x2 > (IntKind.i64.wrap (x4 - x1)))) (K (.tuple #[.slice none 0 0, .int .i64 2]) H2) ((∃ k, W_stream_Pipe_pieces.l4 K k p1 x1 x2 none 0 0 H2))))
def W_stream_Pipe_pieces.l4.L (K : Value → Hp → Prop) (k : Nat) : Mid := fun E D H =>
  eP E 0 fun p2 => eI E 1 .i64 fun x5 => eI E 2 .i64 fun x6 => DG (E.get? 8) fun w8 => DSl w8 fun A1 n1 m1 => DNilD D (W_stream_Pipe_pieces.l4 K k p2 x5 x6 A1 n1 m1 H)
def W_stream_Pipe_pieces.Λ4 (_ : Value → Hp → Prop) (_R4 : Option Addr → Int → Int → Option Addr → Nat → Nat → Hp → Prop) : Cuts := Cuts.none (fun _ => none)
def W_stream_Pipe_pieces.Λ (K : Value → Hp → Prop) : Cuts := ⟨fun i => none, fun i => match Nat.beq i 4 with | true => some (fun E D H => ∃ k, W_stream_Pipe_pieces.l4.L K k E D H) | false => none, (fun _ => none)⟩
theorem W_stream_Pipe_pieces.ok (p1 : Option Addr) (x1 : Int) (x2 : Int) (H : Hp) (K : Value → Hp → Prop) (h : W_stream_Pipe_pieces p1 x1 x2 H K) : HCalls Tryz.prog 81 #[.pointer p1, .int .i64 x1, .int .i64 x2] H K :=
  hcalls Tryz.func81 rfl (Nat.le_of_ble_eq_true rfl) (hw_safe (Λ := (W_stream_Pipe_pieces.Λ K)) mixWstream _ _ _ _ _ (Eq.mp (by kernel_rfl) h) (obs_seq obs_region rfl (obs_seq (obs_seq obs_region rfl (obs_cond (obs_seq obs_region rfl obs_ret) obs_skip)) rfl (obs_seq obs_region rfl (obs_seq (obs_block (obs_loop rfl (fun E D H h => by
      refine Safe.loop' (W_stream_Pipe_pieces.l4.L K) (fun E D H h => ?_) (fun k E D H h => ?_) E D H h
      · obtain ⟨w0, e0, g1⟩ := DG.out h; obtain ⟨p2, rfl, g2⟩ := DP.out g1; obtain ⟨w1, e1, g3⟩ := DG.out g2; obtain ⟨x5, rfl, g4⟩ := DI.out g3; obtain ⟨w2, e2, g5⟩ := DG.out g4; obtain ⟨x6, rfl, g6⟩ := DI.out g5; obtain ⟨w8, e8, g7⟩ := DG.out g6; obtain ⟨A1, n1, m1, rfl, g8⟩ := DSl.out g7; obtain ⟨rfl, h'⟩ := DNilD.out g8; exact h'
      · obtain ⟨p2, e0, g2⟩ := GP h
        obtain ⟨x5, e1, g4⟩ := GI g2; obtain ⟨x6, e2, g6⟩ := GI g4; obtain ⟨w8, e8, g7⟩ := DG.out g6
        obtain ⟨A1, n1, m1, rfl, g8⟩ := DSl.out g7
        obtain ⟨rfl, h'⟩ := DNilD.out g8
        exact (hw_safe (Λ := (W_stream_Pipe_pieces.Λ4 K (W_stream_Pipe_pieces.l4 K k))) mixWstream _ _ [(0, .pointer p2), (1, .int .i64 x5), (2, .int .i64 x6), (8, .slice A1 n1 m1)] [] H (Eq.mp (by kernel_rfl) h') (obs_seq (obs_seq obs_region rfl (obs_cond obs_skip obs_exit)) rfl (obs_block (obs_seq obs_region rfl (obs_seq (obs_seq obs_region rfl (obs_cond (obs_seq obs_region rfl obs_ret) obs_skip)) rfl (obs_seq obs_region rfl (obs_seq obs_region rfl obs_region))))))).weaken (EnvLe.cons e0 (EnvLe.cons e1 (EnvLe.cons e2 (EnvLe.cons e8 (EnvLe.nil _))))) (Hp.le_refl _)))) rfl (obs_seq obs_region rfl obs_ret))))))
def W_stream_means_per (p1 : Option Addr) (H : Hp) (K : Value → Hp → Prop) : Prop :=
  NN p1 fun a1 => Ld H (a1.add 0) fun v1 => DP v1 fun p2 => NN p2 fun a2 => HCalls Tryz.prog 65 #[.pointer (some (a2.add 0))] H fun v2 H1 => DI .i64 v2 fun x1 => ((8 : Int) ≠ 0 ∧ IntKind.i64 = IntKind.i64 ∧ K (.int .i64 (IntKind.i64.wrap (Int.tdiv x1 (8 : Int)))) H1)
theorem W_stream_means_per.ok (p1 : Option Addr) (H : Hp) (K : Value → Hp → Prop) (h : W_stream_means_per p1 H K) : HCalls Tryz.prog 83 #[.pointer p1] H K :=
  hcalls Tryz.func83 rfl (Nat.le_of_ble_eq_true rfl) (hw_safe (Λ := Cuts.none (fun _ => none)) mixWstream _ _ _ _ _ (Eq.mp (by kernel_rfl) h) (obs_none _ _ _ _ _))
def W_stream_means_load.l6 (K : Value → Hp → Prop) : Nat → Option Addr → Nat → Nat → Option Addr → Nat → Nat → Int → Int → Hp → Prop
  | 0, _, _, _, _, _, _, _, _, _ => False
  | k + 1, A3, n3, m3, A4, n4, m4, x3, x4, H =>
    let R6 := W_stream_means_load.l6 K k
    BIf (decide (x4 < x3)) (HCalls Tryz.prog 130 #[.slice A3 n3 m3, .int .i64 x4] H fun v6 H3 => DTup v6 fun l4 => DCons l4 fun v7 l5 => DI .u64 v7 fun x5 => DCons l5 fun v8 l6 => DI .i64 v8 fun x6 => DNil l6 (ixI x4 n4 (NN A4 fun a2 => St H3 ((a2.add (x4.toNat * 1)).add 0) (.int .u64 x5) fun H4 => R6 A3 n3 m3 A4 n4 m4 x3 (IntKind.i64.wrap (x4 + (1 : Int))) H4))) (K (.int .i64 0) H)
def W_stream_means_load (p1 : Option Addr) (x1 : Int) (p2 : Option Addr) (H : Hp) (K : Value → Hp → Prop) : Prop :=
  NN p1 fun a1 => Ld H (a1.add 0) fun v1 => DP v1 fun p3 => HCalls Tryz.prog 63 #[.pointer p3, .int .i64 x1] H fun v2 H1 => DTup v2 fun l1 => DCons l1 fun v3 l2 => DSl v3 fun A1 n1 m1 => DCons l2 fun v4 l3 => DI .i64 v4 fun x2 => DNil l3 (BIf (x2 != (0 : Int)) (K (.int .i64 x2) H1) (HCalls Tryz.prog 86 #[.pointer p2] H1 fun v5 H2 => DSl v5 fun A2 n2 m2 => (∃ k, W_stream_means_load.l6 K k A1 n1 m1 A2 n2 m2 ((n2 : Nat) : Int) (0 : Int) H2)))
def W_stream_means_load.l6.L (K : Value → Hp → Prop) (k : Nat) : Mid := fun E D H =>
  DG (E.get? 7) fun w7 => DSl w7 fun A3 n3 m3 => DG (E.get? 9) fun w9 => DSl w9 fun A4 n4 m4 => eI E 28 .i64 fun x3 => eI E 29 .i64 fun x4 => DNilD D (W_stream_means_load.l6 K k A3 n3 m3 A4 n4 m4 x3 x4 H)
def W_stream_means_load.Λ6 (_ : Value → Hp → Prop) (_R6 : Option Addr → Nat → Nat → Option Addr → Nat → Nat → Int → Int → Hp → Prop) : Cuts := Cuts.none (fun _ => none)
def W_stream_means_load.Λ (K : Value → Hp → Prop) : Cuts := ⟨fun i => none, fun i => match Nat.beq i 6 with | true => some (fun E D H => ∃ k, W_stream_means_load.l6.L K k E D H) | false => none, (fun _ => none)⟩
theorem W_stream_means_load.ok (p1 : Option Addr) (x1 : Int) (p2 : Option Addr) (H : Hp) (K : Value → Hp → Prop) (h : W_stream_means_load p1 x1 p2 H K) : HCalls Tryz.prog 85 #[.pointer p1, .int .i64 x1, .pointer p2] H K :=
  hcalls Tryz.func85 rfl (Nat.le_of_ble_eq_true rfl) (hw_safe (Λ := (W_stream_means_load.Λ K)) mixWstream _ _ _ _ _ (Eq.mp (by kernel_rfl) h) (obs_seq obs_region rfl (obs_seq obs_region rfl (obs_seq (obs_seq obs_region rfl (obs_cond (obs_seq obs_region rfl obs_ret) obs_skip)) rfl (obs_seq obs_region rfl (obs_seq (obs_seq obs_region rfl (obs_block (obs_loop rfl (fun E D H h => by
      refine Safe.loop' (W_stream_means_load.l6.L K) (fun E D H h => ?_) (fun k E D H h => ?_) E D H h
      · obtain ⟨w7, e7, g1⟩ := DG.out h; obtain ⟨A3, n3, m3, rfl, g2⟩ := DSl.out g1; obtain ⟨w9, e9, g3⟩ := DG.out g2; obtain ⟨A4, n4, m4, rfl, g4⟩ := DSl.out g3; obtain ⟨w28, e28, g5⟩ := DG.out g4; obtain ⟨x3, rfl, g6⟩ := DI.out g5; obtain ⟨w29, e29, g7⟩ := DG.out g6; obtain ⟨x4, rfl, g8⟩ := DI.out g7; obtain ⟨rfl, h'⟩ := DNilD.out g8; exact h'
      · obtain ⟨w7, e7, g1⟩ := DG.out h
        obtain ⟨A3, n3, m3, rfl, g2⟩ := DSl.out g1
        obtain ⟨w9, e9, g3⟩ := DG.out g2
        obtain ⟨A4, n4, m4, rfl, g4⟩ := DSl.out g3
        obtain ⟨x3, e28, g6⟩ := GI g4; obtain ⟨x4, e29, g8⟩ := GI g6; obtain ⟨rfl, h'⟩ := DNilD.out g8
        exact (hw_safe (Λ := (W_stream_means_load.Λ6 K (W_stream_means_load.l6 K k))) mixWstream _ _ [(7, .slice A3 n3 m3), (9, .slice A4 n4 m4), (28, .int .i64 x3), (29, .int .i64 x4)] [] H (Eq.mp (by kernel_rfl) h') (obs_seq obs_region rfl (obs_seq (obs_cond obs_skip obs_exit) rfl (obs_seq (obs_block (obs_seq obs_region rfl (obs_seq obs_region rfl obs_region))) rfl obs_region)))).weaken (EnvLe.cons e7 (EnvLe.cons e9 (EnvLe.cons e28 (EnvLe.cons e29 (EnvLe.nil _))))) (Hp.le_refl _))))) rfl (obs_seq obs_region rfl obs_ret)))))))
def W_stream_means_store (p1 : Option Addr) (x1 : Int) (p2 : Option Addr) (H : Hp) (K : Value → Hp → Prop) : Prop :=
  NN p1 fun a1 => (Ld H (a1.add 0) fun v1 => DP v1 fun p3 => HCalls Tryz.prog 86 #[.pointer p2] H fun v2 H1 => DSl v2 fun A1 n1 m1 => HCalls Tryz.prog 114 #[.slice A1 n1 m1] H1 fun v3 H2 => DSl v3 fun A2 n2 m2 => HCalls Tryz.prog 35 #[.pointer p3, .int .i64 x1, .slice A2 n2 m2] H2 fun v4 H3 => DI .i64 v4 fun x2 => K (.int .i64 x2) H3) ∧ (HCalls Tryz.prog 86 #[.pointer p2] H fun v5 H4 => DSl v5 fun A3 n3 m3 => (Ld H4 (a1.add 0) fun v6 => DP v6 fun p4 => HCalls Tryz.prog 114 #[.slice A3 n3 m3] H4 fun v7 H5 => DSl v7 fun A4 n4 m4 => HCalls Tryz.prog 35 #[.pointer p4, .int .i64 x1, .slice A4 n4 m4] H5 fun v8 H6 => DI .i64 v8 fun x3 => K (.int .i64 x3) H6) ∧ (HCalls Tryz.prog 114 #[.slice A3 n3 m3] H4 fun v9 H7 => DSl v9 fun A5 n5 m5 => Ld H7 (a1.add 0) fun v10 => DP v10 fun p5 => HCalls Tryz.prog 35 #[.pointer p5, .int .i64 x1, .slice A5 n5 m5] H7 fun v11 H8 => DI .i64 v11 fun x4 => K (.int .i64 x4) H8))
theorem W_stream_means_store.ok (p1 : Option Addr) (x1 : Int) (p2 : Option Addr) (H : Hp) (K : Value → Hp → Prop) (h : W_stream_means_store p1 x1 p2 H K) : HCalls Tryz.prog 87 #[.pointer p1, .int .i64 x1, .pointer p2] H K :=
  hcalls Tryz.func87 rfl (Nat.le_of_ble_eq_true rfl) (hw_safe (Λ := Cuts.none (fun i => match Nat.beq i 1 with | true => some ([], [0, 1, 3, 7, 0, 0, 32, 96, 255, 511], 0) | false => none)) mixWstream _ _ _ _ _ (Eq.mp (by kernel_rfl) h) (obs_none _ _ _ _ _))
def W_stream_Pipe_each.l6 (K : Value → Hp → Prop) : Nat → Option Addr → FuncId → Array Value → Array Value → Option Addr → Int → Int → Int → Option Addr → Option Addr → Nat → Nat → Hp → Prop
  | 0, _, _, _, _, _, _, _, _, _, _, _, _, _ => False
  | k + 1, p9, fd3, F3, C3, p10, x8, x9, x10, p11, A1, n1, m1, H =>
    let R6 := W_stream_Pipe_each.l6 K k
    BIf (decide (x9 > (0 : Int))) (BIf (x8 == (0 : Int)) (NN p9 fun a5 => HCalls Tryz.prog 83 #[.pointer (some (a5.add 0))] H fun v14 H6 => DI .i64 v14 fun x11 => CallK Tryz.prog fd3 ((F3 ++ #[.int .i64 x10, .int .i64 (if x11 < x9 then x11 else x9), .pointer p10]) ++ C3) H6 fun v15 H7 => DR Tryz.prog (resTypes Tryz.prog fd3) v15 fun v16 => DI .i64 v16 fun x12 => NN p9 fun a6 => HCalls Tryz.prog 83 #[.pointer (some (a6.add 0))] H7 fun v17 H8 => DI .i64 v17 fun x13 => R6 p9 fd3 F3 C3 p10 x12 (IntKind.i64.wrap (x9 - x13)) (IntKind.i64.wrap (x10 + (1 : Int))) p11 A1 n1 m1 H8) (HCallsD Tryz.prog 84 #[.pointer p11, .slice A1 n1 m1] H fun _ H9 => K (.int .i64 x8) H9)) (HCallsD Tryz.prog 84 #[.pointer p11, .slice A1 n1 m1] H fun _ H10 => K (.int .i64 x8) H10)
def W_stream_Pipe_each.j2 (K : Value → Hp → Prop) (p6 : Option Addr) (fd2 : FuncId) (F2 : Array Value) (C2 : Array Value) (p7 : Option Addr) (x5 : Int) (H : Hp) : Prop :=
  BIf (x5 != (0 : Int)) (K (.int .i64 x5) H) (NN p6 fun a3 => Ld H ((a3.add 0).add 1) fun v11 => DP v11 fun p8 => Nw H (.row [.pointer p7] 164 1) fun b1 H5 => QCall Tryz.prog 126 #[.pointer p6] H5 fun v12 => DI .i64 v12 fun x6 => NN p6 fun a4 => Ld H5 ((a4.add 2).add 0) fun v13 => DI .i64 v13 fun x7 => (∃ k, W_stream_Pipe_each.l6 K k p6 fd2 F2 C2 p7 x5 x6 x7 p8 (some ⟨b1, 0, none⟩) 1 1 H5))
def W_stream_Pipe_each (p1 : Option Addr) (fd1 : FuncId) (F1 : Array Value) (C1 : Array Value) (H : Hp) (K : Value → Hp → Prop) : Prop :=
  NN p1 fun a1 => NN p1 fun a2 => (Ld H ((a1.add 0).add 1) fun v1 => DP v1 fun p2 => HCalls Tryz.prog 83 #[.pointer (some (a2.add 0))] H fun v2 H1 => DI .i64 v2 fun x1 => HCalls Tryz.prog 82 #[.pointer p2, .int .i64 x1] H1 fun v3 H2 => DTup v3 fun l1 => DCons l1 fun v4 l2 => DP v4 fun p3 => DCons l2 fun v5 l3 => DI .i64 v5 fun x2 => DNil l3 (W_stream_Pipe_each.j2 K p1 fd1 F1 C1 p3 x2 H2)) ∧ (HCalls Tryz.prog 83 #[.pointer (some (a2.add 0))] H fun v6 H3 => DI .i64 v6 fun x3 => Ld H3 ((a1.add 0).add 1) fun v7 => DP v7 fun p4 => HCalls Tryz.prog 82 #[.pointer p4, .int .i64 x3] H3 fun v8 H4 => DTup v8 fun l4 => DCons l4 fun v9 l5 => DP v9 fun p5 => DCons l5 fun v10 l6 => DI .i64 v10 fun x4 => DNil l6 (W_stream_Pipe_each.j2 K p1 fd1 F1 C1 p5 x4 H4))
def W_stream_Pipe_each.l6.L (K : Value → Hp → Prop) (k : Nat) : Mid := fun E D H =>
  eP E 0 fun p9 => DG (E.get? 1) fun w1 => DFn w1 fun fd3 F3 C3 => eP E 5 fun p10 => eI E 6 .i64 fun x8 => eI E 7 .i64 fun x9 => eI E 8 .i64 fun x10 => DDef 84 D fun dc0 da0 D1 => DNil dc0 (DCons da0 fun u0da0 r0da0 => DP u0da0 fun p11 => DCons r0da0 fun u1da0 r1da0 => DSl u1da0 fun A1 n1 m1 => DNil r1da0 (DNilD D1 (W_stream_Pipe_each.l6 K k p9 fd3 F3 C3 p10 x8 x9 x10 p11 A1 n1 m1 H)))
def W_stream_Pipe_each.Λ6 (_ : Value → Hp → Prop) (_R6 : Option Addr → FuncId → Array Value → Array Value → Option Addr → Int → Int → Int → Option Addr → Option Addr → Nat → Nat → Hp → Prop) : Cuts := Cuts.none (fun i => match Nat.beq i 1 with | true => some ([], [0, 1, 3, 7, 15, 0, 32, 96, 224, 511, 1023, 2047, 2047, 4095, 16383], 0) | false => none)
def W_stream_Pipe_each.Λ (K : Value → Hp → Prop) : Cuts := ⟨fun i => match Nat.beq i 2 with | true => some (fun E D H => eP E 0 fun p6 => DG (E.get? 1) fun w1 => DFn w1 fun fd2 F2 C2 => eP E 5 fun p7 => eI E 6 .i64 fun x5 => DNilD D (W_stream_Pipe_each.j2 K p6 fd2 F2 C2 p7 x5 H)) | false => none, fun i => match Nat.beq i 6 with | true => some (fun E D H => ∃ k, W_stream_Pipe_each.l6.L K k E D H) | false => none, (fun i => match Nat.beq i 1 with | true => some ([], [0, 1, 3, 7, 15, 0, 32, 96, 224, 511, 1023, 2047, 2047, 4095, 16383], 0) | false => none)⟩
theorem W_stream_Pipe_each.ok (p1 : Option Addr) (fd1 : FuncId) (F1 : Array Value) (C1 : Array Value) (H : Hp) (K : Value → Hp → Prop) (h : W_stream_Pipe_each p1 fd1 F1 C1 H K) : HCalls Tryz.prog 93 #[.pointer p1, .func (.func fd1) F1 C1] H K :=
  hcalls Tryz.func93 rfl (Nat.le_of_ble_eq_true rfl) (hw_safe (Λ := (W_stream_Pipe_each.Λ K)) mixWstream _ _ _ _ _ (Eq.mp (by kernel_rfl) h) (obs_seq obs_region rfl (obs_seqc obs_region rfl (fun E D H h => by
      obtain ⟨p6, e0, g2⟩ := GP h
      obtain ⟨w1, e1, g3⟩ := DG.out g2
      obtain ⟨fd2, F2, C2, rfl, g4⟩ := DFn.out g3
      obtain ⟨p7, e5, g6⟩ := GP g4; obtain ⟨x5, e6, g8⟩ := GI g6; obtain ⟨rfl, h'⟩ := DNilD.out g8
      exact (hw_safe (Λ := (W_stream_Pipe_each.Λ K)) mixWstream _ _ [(0, .pointer p6), (1, .func (.func fd2) F2 C2), (5, .pointer p7), (6, .int .i64 x5)] [] H (Eq.mp (by kernel_rfl) h') (obs_seq (obs_seq obs_region rfl (obs_cond (obs_seq obs_region rfl obs_ret) obs_skip)) rfl (obs_seq obs_region rfl (obs_seq (obs_seq obs_region rfl (obs_block (obs_loop rfl (fun E D H h => by
          refine Safe.loop' (W_stream_Pipe_each.l6.L K) (fun E D H h => ?_) (fun k E D H h => ?_) E D H h
          · obtain ⟨w0, e0, g1⟩ := DG.out h; obtain ⟨p9, rfl, g2⟩ := DP.out g1; obtain ⟨w1, e1, g3⟩ := DG.out g2; obtain ⟨fd3, F3, C3, rfl, g4⟩ := DFn.out g3; obtain ⟨w5, e5, g5⟩ := DG.out g4; obtain ⟨p10, rfl, g6⟩ := DP.out g5; obtain ⟨w6, e6, g7⟩ := DG.out g6; obtain ⟨x8, rfl, g8⟩ := DI.out g7; obtain ⟨w7, e7, g9⟩ := DG.out g8; obtain ⟨x9, rfl, g10⟩ := DI.out g9; obtain ⟨w8, e8, g11⟩ := DG.out g10; obtain ⟨x10, rfl, g12⟩ := DI.out g11; obtain ⟨dc0, da0, D1, rfl, g13⟩ := DDef.out g12; obtain ⟨rfl, g14⟩ := DNil.out g13; obtain ⟨u0da0, r0da0, rfl, g15⟩ := DCons.out g14; obtain ⟨p11, rfl, g16⟩ := DP.out g15; obtain ⟨u1da0, r1da0, rfl, g17⟩ := DCons.out g16; obtain ⟨A1, n1, m1, rfl, g18⟩ := DSl.out g17; obtain ⟨rfl, g19⟩ := DNil.out g18; obtain ⟨rfl, h'⟩ := DNilD.out g19; exact h'
          · obtain ⟨p9, e0, g2⟩ := GP h
            obtain ⟨w1, e1, g3⟩ := DG.out g2
            obtain ⟨fd3, F3, C3, rfl, g4⟩ := DFn.out g3
            obtain ⟨p10, e5, g6⟩ := GP g4; obtain ⟨x8, e6, g8⟩ := GI g6; obtain ⟨x9, e7, g10⟩ := GI g8; obtain ⟨x10, e8, g12⟩ := GI g10; obtain ⟨dc0, da0, D1, rfl, g13⟩ := DDef.out g12
            obtain ⟨rfl, g14⟩ := DNil.out g13
            obtain ⟨u0da0, r0da0, rfl, g15⟩ := DCons.out g14
            obtain ⟨p11, rfl, g16⟩ := DP.out g15
            obtain ⟨u1da0, r1da0, rfl, g17⟩ := DCons.out g16
            obtain ⟨A1, n1, m1, rfl, g18⟩ := DSl.out g17
            obtain ⟨rfl, g19⟩ := DNil.out g18
            obtain ⟨rfl, h'⟩ := DNilD.out g19
            exact (hw_safe (Λ := (W_stream_Pipe_each.Λ6 K (W_stream_Pipe_each.l6 K k))) mixWstream _ _ [(0, .pointer p9), (1, .func (.func fd3) F3 C3), (5, .pointer p10), (6, .int .i64 x8), (7, .int .i64 x9), (8, .int .i64 x10)] [{ target := .fn (.func 84) #[], args := #[.pointer p11, .slice A1 n1 m1] }] H (Eq.mp (by kernel_rfl) h') (obs_seq (obs_seq obs_region rfl (obs_cond obs_skip obs_exit)) rfl (obs_seq (obs_block obs_region) rfl obs_region))).weaken (EnvLe.cons e0 (EnvLe.cons e1 (EnvLe.cons e5 (EnvLe.cons e6 (EnvLe.cons e7 (EnvLe.cons e8 (EnvLe.nil _))))))) (Hp.le_refl _))))) rfl (obs_seq obs_region rfl obs_ret))))).weaken (EnvLe.cons e0 (EnvLe.cons e1 (EnvLe.cons e5 (EnvLe.cons e6 (EnvLe.nil _))))) (Hp.le_refl _)))))
def W_stream_Pipe_Sum_1 (x1 : Int) (x2 : Int) (p1 : Option Addr) (p2 : Option Addr) (p3 : Option Addr) (H : Hp) (K : Value → Hp → Prop) : Prop :=
  NN p2 fun a1 => Ld H a1 fun v1 => DP v1 fun p4 => NN p4 fun a2 => HCalls Tryz.prog 85 #[.pointer (some (a2.add 0)), .int .i64 x1, .pointer p1] H fun v2 H1 => DI .i64 v2 fun x3 => BIf (x3 == (0 : Int)) (HCalls Tryz.prog 86 #[.pointer p1] H1 fun v3 H2 => DSl v3 fun A1 n1 m1 => slB n1 m1 none (some x2) fun n2 n3 => HCalls Tryz.prog 95 #[.pointer p3, .slice (slA A1 m1 n2 1) (n3 - n2) (m1 - n2)] H2 fun v4 H3 => K (.int .i64 x3) H3) (K (.int .i64 x3) H1)
theorem W_stream_Pipe_Sum_1.ok (x1 : Int) (x2 : Int) (p1 : Option Addr) (p2 : Option Addr) (p3 : Option Addr) (H : Hp) (K : Value → Hp → Prop) (h : W_stream_Pipe_Sum_1 x1 x2 p1 p2 p3 H K) : HCalls Tryz.prog 94 #[.int .i64 x1, .int .i64 x2, .pointer p1, .pointer p2, .pointer p3] H K :=
  hcalls Tryz.func94 rfl (Nat.le_of_ble_eq_true rfl) (hw_safe (Λ := Cuts.none (fun _ => none)) mixWstream _ _ _ _ _ (Eq.mp (by kernel_rfl) h) (obs_none _ _ _ _ _))
def W_stream_Pipe_Words (p1 : Option Addr) (H : Hp) (K : Value → Hp → Prop) : Prop :=
  NN p1 fun a1 => Ld H ((a1.add 2).add 2) fun v1 => DI .i64 v1 fun x1 => K (.int .i64 x1) H
theorem W_stream_Pipe_Words.ok (p1 : Option Addr) (H : Hp) (K : Value → Hp → Prop) (h : W_stream_Pipe_Words p1 H K) : HCalls Tryz.prog 126 #[.pointer p1] H K :=
  hcalls Tryz.func126 rfl (Nat.le_of_ble_eq_true rfl) (hw_safe (Λ := Cuts.none (fun _ => none)) mixWstream _ _ _ _ _ (Eq.mp (by kernel_rfl) h) (obs_none _ _ _ _ _))
end Go.Proofs.YtnknippcbecmeaaGreatDoor.W
end
section
/- stream: pipes; a sector's words loaded and stored. -/
namespace Go.Proofs.YtnknippcbecmeaaGreatDoor.Str
open Go Go.Hw Go.Form W Dsk Are
structure X where
  f : Nat
  s : Nat
  w : Nat
def pipO (dp ap : Nat) (x : X) : AO := .obj (.cells #[.pointer (some ⟨dp, 0, none⟩), .pointer (some ⟨ap, 0, none⟩), .int .i64 x.f, .int .i64 x.s, .int .i64 x.w] 169)
def D.per (d : D) : Nat := d.size / 8
structure On (d : D) (x : X) : Prop where
  w1 : 1 ≤ x.w
  s1 : 1 ≤ x.s
  fit : x.f + x.s ≤ d.sec
  room : x.w ≤ x.s * D.per d
theorem Ok.per_le {d : D} (h : Ok d) : 4 ≤ D.per d ∧ D.per d ≤ 512 ∧ 8 * D.per d = d.size := by
  have h1 := h.size
  have h2 := h.per
  unfold D.per
  omega
section
variable {L : List As} {H : Hp} {p dp ap : Nat} {d : D} {x : X}
theorem per_s (h : Sep L H) (i j : Nat) (hi : L[i]? = some (pts p (pipO dp ap x))) (hj : L[j]? = some (Dk dp d)) (hok : Ok d) : HCalls Tryz.prog 83 #[.pointer (some ⟨p, 0, none⟩)] H (RetE (.int .i64 (D.per d : Int)) H) := by
  have hsz := hok.size
  apply W_stream_means_per.ok
  unfold W_stream_means_per
  simp only [NN_some, Addr.add_lit', Addr.add_zero, Nat.zero_add, Nat.add_zero]
  refine Ld_obj (h.get i hi) (v := .pointer (some ⟨dp, 0, none⟩)) rfl ?_
  simp only [HV]
  try simp only [NN_some, Addr.add_lit', Addr.add_zero, Nat.zero_add, Nat.add_zero]
  refine HCalls.use (Size_s h j hj) ?_
  try simp only [HV]
  refine ⟨by decide, by simp, RetE.of ?_⟩
  rw [show Int.tdiv (d.size : Int) 8 = ((d.size / 8 : Nat) : Int) from rfl, i64n (by omega)]
  rfl
theorem words_s (h : Sep L H) (i : Nat) (hi : L[i]? = some (pts p (pipO dp ap x))) : HCalls Tryz.prog 126 #[.pointer (some ⟨p, 0, none⟩)] H (RetE (.int .i64 (x.w : Int)) H) := by
  apply W_stream_Pipe_Words.ok
  unfold W_stream_Pipe_Words
  simp only [NN_some, Addr.add_lit', Addr.add_zero, Nat.zero_add, Nat.add_zero]
  refine Ld_obj (h.get i hi) (v := .int .i64 x.w) rfl ?_
  simp only [HV]
  exact RetE.mk _ _
end
def wordsB (bs : List UInt8) : List UInt64 := (List.range (bs.length / 8)).map fun i => UInt64.ofNat (wordN bs (8 * i))
theorem wordsB_len (bs : List UInt8) : (wordsB bs).length = bs.length / 8 := by simp [wordsB]
theorem wordsB_get (bs : List UInt8) (i : Nat) (h : i < bs.length / 8) : (wordsB bs)[i]? = some (UInt64.ofNat (wordN bs (8 * i))) := by
  unfold wordsB
  rw [List.getElem?_map, List.getElem?_range h]; rfl
theorem wordsB_form (l : List UInt64) : wordsB (form l) = l := by
  apply List.ext_getElem?
  intro i
  by_cases h : i < l.length
  · rw [wordsB_get _ _ (by rw [form_length]; omega)]
    have := wordN_form h []
    rw [List.append_nil] at this
    rw [this, List.getElem?_eq_getElem h]
    simp
  · rw [List.getElem?_eq_none (by rw [wordsB_len, form_length]; omega), List.getElem?_eq_none (by omega)]
structure Calm (d : D) : Prop where
  down : d.down = false
  fuse : d.fuse = 0
def D.more (d : D) : D := { d with rd := d.rd + 1 }
theorem load_loop (K : Value → Hp → Prop) (A : Option Addr) (n c : Nat) (bs : List UInt8) (hn : n = bs.length) (hnc : n ≤ c) (hn2 : n ≤ 4096) (rb per m : Nat) (hper : 8 * per = n) {L : List As} (i : Nat)
    (hK : ∀ H, Sep (L.set i (pts rb (.row (wordVals (wordsB bs)) 60 m))) H → K (.int .i64 0) H) (hb : ∀ xs H, Sep (L.set i (pts rb (.row xs 60 m))) H → Cells H A (byteVals bs)) (hi : i < L.length) : ∀ (d j : Nat) (xs : List Value) (H : Hp), j + d = per → xs.length = per → xs.take j = (wordVals (wordsB bs)).take j →
      Sep (L.set i (pts rb (.row xs 60 m))) H → W_stream_means_load.l6 K (d + 1) A n c (some ⟨rb, 0, none⟩) per per (per : Int) (j : Int) H
  | 0, j, xs, H, hj, hl, hx, hs => by
    unfold W_stream_means_load.l6
    refine BIf_dneg (by omega) (hK H ?_)
    rw [List.take_of_length_le (by omega), List.take_of_length_le (by rw [wordVals_length, wordsB_len]; omega)] at hx
    rw [← hx]; exact hs
  | d + 1, j, xs, H, hj, hl, hx, hs => by
    unfold W_stream_means_load.l6
    refine BIf_dpos (by omega) ?_
    refine HCalls.use (FormP.Word_ok A n c hnc (by omega) bs hn j (by omega) H (hb xs H hs)) ?_
    try simp only [HV]
    refine ⟨by omega, by omega, ?_⟩
    rw [Int.toNat_natCast, Nat.mul_one]
    show St H _ _ _
    rw [Addr.add_lit', Nat.zero_add, Addr.add_zero]
    refine hs.str i (b := rb) (xs := xs) (e := 60) (m := m) (by rw [List.getElem?_set]; simp [hi]) (by omega) rfl fun H hs => ?_
    rw [List.set_set] at hs
    rw [i64w (x := (j : Int) + 1) (by omega) (by omega)]
    refine load_loop K A n c bs hn hnc hn2 rb per m hper i hK hb hi d (j + 1) _ H (by omega) (by rw [List.length_set]; exact hl) ?_ hs
    have hw : (wordVals (wordsB bs))[j]? = some (.int .u64 (wordN bs (8 * j) : Nat)) := by
      rw [wordVals_get, wordsB_get _ _ (by omega)]
      simp only [Option.map_some]
      rw [UInt64.toNat_ofNat_of_lt' (wordN_lt bs (8 * j))]
    obtain ⟨hlt, hg⟩ := List.getElem?_eq_some_iff.1 hw
    rw [List.take_succ_eq_append_getElem hlt, hg, ← hx, List.take_succ_eq_append_getElem (by rw [List.length_set]; omega), List.take_set_of_le (by omega), List.getElem_set_self]
end Go.Proofs.YtnknippcbecmeaaGreatDoor.Str
end
section
/- stream: store, New, pieces. -/
namespace Go.Proofs.YtnknippcbecmeaaGreatDoor.Str
open Go Go.Hw Go.Form W Dsk Are
def D.put (d : D) (i : Int) (ws : List UInt64) : D := { d with wr := d.wr + 1, tch := updT d.tch i, cache := updB d.cache i (form ws) }
def right (d : D) (f s w : Int) : Prop := 1 ≤ w ∧ 0 ≤ f ∧ 1 ≤ s ∧ f < d.sec ∧ s ≤ d.sec - f ∧ w ≤ s * D.per d
theorem New_tr {dp ap : Nat} {d : D} (hok : Ok d) (x : X) (hx : On d x) : Tr Tryz.prog 80 #[.pointer (some ⟨dp, 0, none⟩), .pointer (some ⟨ap, 0, none⟩), .agg #[.int .i64 x.f, .int .i64 x.s, .int .i64 x.w]] [Dk dp d] fun v M =>
    ∃ p, v = .tuple #[.pointer (some ⟨p, 0, none⟩), .int .i64 0] ∧ M = [Dk dp d, pts p (pipO dp ap x)] := fun H hs => by
  have hp := Ok.per_le hok
  have hsec := hok.sec
  obtain ⟨h1, h2, h3, h4⟩ := hx
  have hroom : x.s * D.per d ≤ 1048576 * 512 := Nat.mul_le_mul (by omega) (by omega)
  apply W_stream_New.ok
  unfold W_stream_New
  simp only [NN_some, Addr.add_lit', Addr.add_zero, Nat.zero_add, Nat.add_zero]
  refine hs.nw fun b1 H hs => BIf_neg rfl (BIf_neg rfl ?_)
  refine hs.ldw 1 rfl rfl ?_
  simp only [HV]
  refine hs.nw fun b2 H hs => ?_
  refine hs.ld 1 rfl rfl ?_
  simp only [HV]
  refine BIf_dneg (by omega) ?_
  refine hs.ld 1 rfl rfl ?_
  simp only [HV]
  refine BIf_dneg (by omega) ?_
  refine hs.ld 1 rfl rfl ?_
  simp only [HV]
  refine BIf_dneg (by omega) ?_
  refine hs.ld 1 rfl rfl ?_
  simp only [HV]
  refine QCall.use (Sectors_s hs 0 rfl) ?_
  try simp only [HV]
  refine BIf_dneg (by omega) ?_
  refine hs.ld 1 rfl rfl ?_
  simp only [HV]
  refine QCall.use (Sectors_s hs 0 rfl) ?_
  try simp only [HV]
  refine hs.ld 1 rfl rfl ?_
  simp only [HV]
  rw [i64w (x := (d.sec : Int) - x.f) (by omega) (by omega)]
  refine BIf_dneg (by omega) ?_
  refine hs.ld 1 rfl rfl ?_
  simp only [HV]
  refine hs.ld 1 rfl rfl ?_
  simp only [HV]
  refine QCall.use (per_s (p := b2) (dp := dp) (ap := ap) (x := x) hs 2 0 rfl rfl hok) ?_
  simp only [HV]
  rw [← Int.natCast_mul, i64n (by omega)]
  refine BIf_dneg (by omega) ?_
  exact ⟨_, ⟨b2, rfl, rfl⟩, hs.re [0, 2] rfl⟩
end Go.Proofs.YtnknippcbecmeaaGreatDoor.Str
end
section
/- stream: pieces, and Read. -/
namespace Go.Proofs.YtnknippcbecmeaaGreatDoor.Str
open Go Go.Hw Go.Form W Dsk Are
def cN (per fr n : Nat) : Nat := if per - fr % per < n then per - fr % per else n
def pcs (per f : Nat) : Nat → Nat → Nat → List (Nat × Nat × Nat)
  | 0, _, _ => []
  | k + 1, fr, n => if n = 0 then [] else (f + fr / per, fr % per, cN per fr n) :: pcs per f k (fr + cN per fr n) (n - cN per fr n)
def pcV (y : Nat × Nat × Nat) : List Value := [.int .i64 (y.1 : Int), .int .i64 (y.2.1 : Int), .int .i64 (y.2.2 : Int)]
theorem cN_le (per fr n : Nat) : cN per fr n ≤ n := by unfold cN; split <;> omega
theorem cN_pos {per fr n : Nat} (hp : 0 < per) (hn : 0 < n) : 0 < cN per fr n := by
  have := Nat.mod_lt fr hp
  unfold cN; split <;> omega
theorem cN_per {per fr n : Nat} (hp : 0 < per) : fr % per + cN per fr n ≤ per := by
  have := Nat.mod_lt fr hp
  unfold cN; split <;> omega
theorem cell_pc : cellInfo Tryz.prog 173 = some (3, 24, some #[.int .i64 0, .int .i64 0, .int .i64 0]) := by kernel_rfl
theorem pieces_loop (K : Value → Hp → Prop) {p dp ap : Nat} {d : D} {x : X} (hok : Ok d) (hx : On d x) :
    ∀ (k fr n : Nat) (A : Option Addr) (c m : Nat) (acc : List (Nat × Nat × Nat)) (H : Hp), n ≤ k → fr + n ≤ x.w → acc.length = c → c + n ≤ 1000000000 →
      (∀ A' m' H', Sep [pts p (pipO dp ap x), Dk dp d, Own 173 3 A' (acc ++ pcs (D.per d) x.f k fr n).length m' ((acc ++ pcs (D.per d) x.f k fr n).flatMap pcV)] H' → K (.tuple #[.slice A' (acc ++ pcs (D.per d) x.f k fr n).length m', .int .i64 0]) H') →
      Sep [pts p (pipO dp ap x), Dk dp d, Own 173 3 A c m (acc.flatMap pcV)] H → W_stream_Pipe_pieces.l4 K (k + 1) (some ⟨p, 0, none⟩) (fr : Int) (n : Int) A c m H
  | k, fr, 0, A, c, m, acc, H, hn, hf, hc, hcn, hk, hs => by
    unfold W_stream_Pipe_pieces.l4
    refine BIf_dneg (by omega) ?_
    have e : pcs (D.per d) x.f k fr 0 = [] := by cases k <;> simp [pcs]
    rw [e, List.append_nil, hc] at hk
    exact hk A m H hs
  | 0, fr, n + 1, A, c, m, acc, H, hn, hf, hc, hcn, hk, hs => by omega
  | k + 1, fr, n + 1, A, c, m, acc, H, hn, hf, hc, hcn, hk, hs => by
    have hp := Ok.per_le hok
    have hsec := hok.sec
    have hroom : x.s * D.per d ≤ 1048576 * 512 := Nat.mul_le_mul (by have := hx.fit; omega) (by omega)
    have h4 := hx.room
    have hfit := hx.fit
    unfold W_stream_Pipe_pieces.l4
    refine BIf_dpos (by omega) ?_
    simp only [NN_some, Addr.add_lit', Addr.add_zero, Nat.zero_add, Nat.add_zero]
    refine hs.lda 0 rfl (Nat.le_refl _) ?_
    refine QCall.use (per_s hs 0 1 rfl rfl hok) ?_
    simp only [HV]
    refine QCall.use (Lay.Sector_ok x.f x.s x.w (D.per d) fr ⟨by omega, by omega⟩ (by omega) H) ?_
    have hdiv : fr / D.per d < x.s := by
      rw [Nat.div_lt_iff_lt_mul (by omega)]; omega
    have hS : Lay.SectorV x.f x.s x.w (D.per d) fr = (((x.f + fr / D.per d : Nat) : Int), ((fr % D.per d : Nat) : Int), (0 : Int)) := by
      unfold Lay.SectorV
      have e : Int.tdiv (fr : Int) (D.per d : Int) = ((fr / D.per d : Nat) : Int) := rfl
      have e2 : Int.tmod (fr : Int) (D.per d : Int) = ((fr % D.per d : Nat) : Int) := rfl
      rw [e, e2, if_neg (by omega)]
      simp
    rw [hS]
    simp only [HV]
    refine BIf_bnen rfl ?_
    refine HCalls.use (per_s hs 0 1 rfl rfl hok) ?_
    try simp only [HV]
    have hmod := Nat.mod_lt fr (show 0 < D.per d by omega)
    rw [i64w (x := (D.per d : Int) - ((fr % D.per d : Nat) : Int)) (by omega) (by omega)]
    have hcN : (if (D.per d : Int) - ((fr % D.per d : Nat) : Int) < ((n + 1 : Nat) : Int) then (D.per d : Int) - ((fr % D.per d : Nat) : Int) else ((n + 1 : Nat) : Int)) = ((cN (D.per d) fr (n + 1) : Nat) : Int) := by
      unfold cN
      by_cases h : D.per d - fr % D.per d < n + 1
      · rw [if_pos h, if_pos (by omega)]; omega
      · rw [if_neg h, if_neg (by omega)]
    rw [hcN]
    have hcle := cN_le (D.per d) fr (n + 1)
    have hcpos := cN_pos (per := D.per d) (fr := fr) (n := n + 1) (by omega) (by omega)
    refine hs.appS 2 (by rfl) cell_pc rfl (by omega) (by omega) rfl (by rfl) (by omega) (by omega) fun A' m' H hs => ?_
    simp only [HV]
    rw [i64w (x := (fr : Int) + ((cN (D.per d) fr (n + 1) : Nat) : Int)) (by omega) (by omega), i64w (x := ((n + 1 : Nat) : Int) - ((cN (D.per d) fr (n + 1) : Nat) : Int)) (by omega) (by omega)]
    rw [show (fr : Int) + ((cN (D.per d) fr (n + 1) : Nat) : Int) = ((fr + cN (D.per d) fr (n + 1) : Nat) : Int) by omega, show ((n + 1 : Nat) : Int) - ((cN (D.per d) fr (n + 1) : Nat) : Int) = ((n + 1 - cN (D.per d) fr (n + 1) : Nat) : Int) by omega]
    have e : pcs (D.per d) x.f (k + 1) fr (n + 1) = (x.f + fr / D.per d, fr % D.per d, cN (D.per d) fr (n + 1)) :: pcs (D.per d) x.f k (fr + cN (D.per d) fr (n + 1)) (n + 1 - cN (D.per d) fr (n + 1)) := by
      show (if n + 1 = 0 then [] else _) = _
      rw [if_neg (by omega)]
    refine pieces_loop K (dp := dp) (ap := ap) hok hx k _ _ A' (c + 1) m' (acc ++ [(x.f + fr / D.per d, fr % D.per d, cN (D.per d) fr (n + 1))]) H (by omega) (by omega) (by rw [List.length_append]; simp; exact hc) (by omega) (fun A' m' H' hs => ?_) ?_
    · rw [List.append_assoc] at hs ⊢
      rw [show [(x.f + fr / D.per d, fr % D.per d, cN (D.per d) fr (n + 1))] ++ pcs (D.per d) x.f k (fr + cN (D.per d) fr (n + 1)) (n + 1 - cN (D.per d) fr (n + 1)) = pcs (D.per d) x.f (k + 1) fr (n + 1) by rw [e]; rfl] at hs ⊢
      exact hk A' m' H' hs
    · rw [List.flatMap_append]
      exact hs
theorem pieces_tr {p dp ap : Nat} {d : D} {x : X} (hok : Ok d) (hx : On d x) (fr n : Nat) (hf : fr + n ≤ x.w) : Tr Tryz.prog 81 #[.pointer (some ⟨p, 0, none⟩), .int .i64 fr, .int .i64 n] [pts p (pipO dp ap x), Dk dp d] fun v M =>
    ∃ A m, v = .tuple #[.slice A (pcs (D.per d) x.f n fr n).length m, .int .i64 0] ∧ M = [pts p (pipO dp ap x), Dk dp d, Own 173 3 A (pcs (D.per d) x.f n fr n).length m ((pcs (D.per d) x.f n fr n).flatMap pcV)] := fun H hs => by
  have hp := Ok.per_le hok
  have hsec := hok.sec
  have hroom : x.s * D.per d ≤ 1048576 * 512 := Nat.mul_le_mul (by have := hx.fit; omega) (by omega)
  have h4 := hx.room
  apply W_stream_Pipe_pieces.ok
  unfold W_stream_Pipe_pieces
  refine BIf_dneg (by omega) ?_
  refine HCalls.use (words_s hs 0 rfl) ?_
  try simp only [HV]
  refine BIf_dneg (by omega) ?_
  refine HCalls.use (words_s hs 0 rfl) ?_
  try simp only [HV]
  rw [i64w (x := (x.w : Int) - fr) (by omega) (by omega)]
  refine BIf_dneg (by omega) ⟨n + 1, ?_⟩
  have e0 : Sep [pts p (pipO dp ap x), Dk dp d, Own 173 3 none 0 0 (([] : List (Nat × Nat × Nat)).flatMap pcV)] H := by
    have : Sep (Own 173 3 none 0 0 [] :: [pts p (pipO dp ap x), Dk dp d]) H := ⟨fun _ => none, H, fun _ _ h => (nomatch h), Hp.le_refl _, fun _ => .inl rfl, Own.none _ _ _, hs⟩
    exact this.re [1, 2, 0] rfl
  refine pieces_loop _ (dp := dp) (ap := ap) hok hx n fr n none 0 0 [] H (Nat.le_refl _) hf rfl (by omega) (fun A' m' H' hs => ?_) e0
  exact ⟨_, ⟨A', m', rfl, rfl⟩, hs⟩
def pw (d : D) (x : X) (i : Nat) : UInt64 := ((wordsB (d.now ((x.f + i / D.per d : Nat) : Int)))[i % D.per d]?).getD 0
def pws (d : D) (x : X) (fr n : Nat) : List UInt64 := (List.range n).map fun i => pw d x (fr + i)
theorem pws_len (d : D) (x : X) (fr n : Nat) : (pws d x fr n).length = n := by simp [pws]
theorem pws_add (d : D) (x : X) (fr a b : Nat) : pws d x fr (a + b) = pws d x fr a ++ pws d x (fr + a) b := by
  unfold pws
  rw [List.range_add, List.map_append, List.map_map]
  congr 1
  apply List.map_congr_left
  intro i _
  simp only [Function.comp]
  congr 1; omega
theorem piece_words {d : D} (hok : Ok d) (x : X) {fr k : Nat} (h : fr % D.per d + k ≤ D.per d) : ((wordsB (d.now ((x.f + fr / D.per d : Nat) : Int))).drop (fr % D.per d)).take k = pws d x fr k := by
  have hp := Ok.per_le hok
  apply List.ext_getElem?
  intro i
  unfold pws
  rw [List.getElem?_take, List.getElem?_map]
  by_cases hi : i < k
  · rw [if_pos hi, List.getElem?_drop, List.getElem?_range hi]
    simp only [Option.map_some]
    have hlen : (wordsB (d.now ((x.f + fr / D.per d : Nat) : Int))).length = D.per d := by
      rw [wordsB_len, hok.now]; rfl
    unfold pw
    have e := Nat.div_add_mod fr (D.per d)
    have h1 : (fr + i) / D.per d = fr / D.per d := by
      rw [Nat.div_eq_of_lt_le]
      · rw [Nat.mul_comm]; omega
      · rw [Nat.succ_mul, Nat.mul_comm]; omega
    have h2 : (fr + i) % D.per d = fr % D.per d + i := by
      have := Nat.div_add_mod (fr + i) (D.per d)
      rw [h1] at this
      omega
    rw [h1, h2, List.getElem?_eq_getElem (by rw [hlen]; omega)]
    rfl
  · rw [if_neg hi, List.getElem?_eq_none (by simp; omega)]
    rfl
def D.rdN (d : D) (t : Nat) : D := { d with rd := d.rd + t }
theorem Ok.rdN {d : D} (h : Ok d) (t : Nat) : Ok (D.rdN d t) := ⟨h.sec, h.size, h.big, h.per, h.safe, h.cache, h.fz⟩
theorem pcs_sum (per f : Nat) (hp : 0 < per) : ∀ (k fr n : Nat), n ≤ k → ((pcs per f k fr n).map (·.2.2)).sum = n
  | k, fr, 0, _ => by cases k <;> simp [pcs]
  | 0, fr, n + 1, h => by omega
  | k + 1, fr, n + 1, h => by
    have hcle := cN_le per fr (n + 1)
    have hcpos := cN_pos (per := per) (fr := fr) (n := n + 1) hp (by omega)
    unfold pcs
    rw [if_neg (by omega), List.map_cons, List.sum_cons, pcs_sum per f hp k _ _ (by omega)]
    show cN per fr (n + 1) + _ = _
    omega
theorem pcs_len (per f : Nat) : ∀ (k fr n : Nat), (pcs per f k fr n).length ≤ k
  | 0, _, _ => by simp [pcs]
  | k + 1, fr, n => by
    unfold pcs
    split
    · simp
    · have := pcs_len per f k (fr + cN per fr n) (n - cN per fr n)
      simp only [List.length_cons]; omega
def mx (a b : Int) : Int := if b > a then b else a
end Go.Proofs.YtnknippcbecmeaaGreatDoor.Str
end
section
/- stream: Write. -/
namespace Go.Proofs.YtnknippcbecmeaaGreatDoor.Str
open Go Go.Hw Go.Form W Dsk Are
def setW (ws : List UInt64) (at' : Nat) (src : List UInt64) : List UInt64 := ws.take at' ++ src ++ ws.drop (at' + src.length)
theorem setW_len {ws src : List UInt64} {i : Nat} (h : i + src.length ≤ ws.length) : (setW ws i src).length = ws.length := by
  unfold setW; simp; omega
theorem setW_vals (ws src : List UInt64) (i : Nat) : setAt (wordVals ws) i (wordVals src) = wordVals (setW ws i src) := by
  unfold setAt setW wordVals
  simp
def wpc (d : D) (s : Nat) (at' : Nat) (src : List UInt64) : D := D.put (if src.length < D.per d then D.more d else d) s (setW (wordsB (d.now s)) at' src)
def wrs (d : D) (x : X) : Nat → Nat → List UInt64 → D
  | 0, _, _ => d
  | k + 1, fr, src => if src = [] then d else wrs (wpc d (x.f + fr / D.per d) (fr % D.per d) (src.take (cN (D.per d) fr src.length))) x k (fr + cN (D.per d) fr src.length) (src.drop (cN (D.per d) fr src.length))
theorem put_now (d : D) (s : Int) (ws : List UInt64) (i : Int) : (D.put d s ws).now i = if i = s then form ws else d.now i := by
  unfold D.put D.now updB
  by_cases h : i = s
  · simp [h]
  · simp only [h, if_false]; rfl
theorem Ok.put {d : D} (h : Ok d) (i : Int) {ws : List UInt64} (hw : ws.length = D.per d) : Ok (D.put d i ws) := by
  have hp := Ok.per_le h
  refine ⟨h.sec, h.size, h.big, h.per, h.safe, fun k b hb => ?_, h.fz⟩
  have hb' : (if k = i then some (form ws) else d.cache k) = some b := hb
  split at hb'
  · cases hb'
    rw [form_length]; show 8 * ws.length = d.size; omega
  · exact h.cache k b hb'
theorem Ok.more {d : D} (h : Ok d) : Ok (D.more d) := Ok.rdN h 1
theorem Calm.put {d : D} (h : Calm d) (i : Int) (ws : List UInt64) : Calm (D.put d i ws) := ⟨h.down, h.fuse⟩
theorem Calm.more {d : D} (h : Calm d) : Calm (D.more d) := ⟨h.down, h.fuse⟩
theorem wpc_ok {d : D} (h : Ok d) (s at' : Nat) {src : List UInt64} (hl : at' + src.length ≤ D.per d) : Ok (wpc d s at' src) := by
  have hwl : (wordsB (d.now (s : Int))).length = D.per d := by rw [wordsB_len, h.now]; rfl
  unfold wpc
  split
  · exact Ok.put (Ok.more h) _ (by rw [setW_len (by omega)]; exact hwl)
  · exact Ok.put h _ (by rw [setW_len (by omega)]; exact hwl)
theorem wpc_calm {d : D} (h : Calm d) (s at' : Nat) (src : List UInt64) : Calm (wpc d s at' src) := by
  unfold wpc
  split
  · exact Calm.put (Calm.more h) _ _
  · exact Calm.put h _ _
theorem wpc_size (d : D) (s at' : Nat) (src : List UInt64) : (wpc d s at' src).size = d.size ∧ (wpc d s at' src).sec = d.sec := by
  unfold wpc
  split <;> exact ⟨rfl, rfl⟩
theorem wpc_per (d : D) (s at' : Nat) (src : List UInt64) : D.per (wpc d s at' src) = D.per d := by unfold D.per; rw [(wpc_size d s at' src).1]
theorem wpc_cnt (d : D) (s at' : Nat) (src : List UInt64) : (wpc d s at' src).wr = d.wr + 1 ∧ (wpc d s at' src).rd = d.rd + (if src.length < D.per d then 1 else 0) ∧ (wpc d s at' src).sy = d.sy := by
  unfold wpc
  split
  · exact ⟨rfl, rfl, rfl⟩
  · exact ⟨rfl, rfl, rfl⟩
theorem wpc_now (d : D) (s at' : Nat) (src : List UInt64) (i : Int) : (wpc d s at' src).now i = if i = s then form (setW (wordsB (d.now s)) at' src) else d.now i := by
  unfold wpc
  rw [put_now]
  split
  · rfl
  · split <;> rfl
end Go.Proofs.YtnknippcbecmeaaGreatDoor.Str
end
section
/- stream, whatever the fuse: relations between disks; load, store. -/
namespace Go.Proofs.YtnknippcbecmeaaGreatDoor.Str
open Go Go.Hw Go.Form W Dsk Are
def D.mr (d : D) : D := { d with rd := d.rd + 1, fuse := d.fuse - 1 }
def D.pt (d : D) (i : Int) (ws : List UInt64) : D := { d with wr := d.wr + 1, tch := updT d.tch i, cache := updB d.cache i (form ws), fuse := d.fuse - 1 }
def D.dead (d : D) : D := { d with fuse := 0, down := true }
theorem burnt_one {d : D} (h : d.fuse = 1) : d.burnt = D.dead d := by
  unfold D.burnt D.dead
  rw [if_neg (by omega), h]; rfl
theorem burnt_live {d : D} (hl : d.down = false) (h : d.fuse ≠ 1) : d.burnt = { d with fuse := d.fuse - 1 } := by
  unfold D.burnt
  by_cases h0 : d.fuse = 0
  · rw [if_pos h0]
    cases d; simp_all
  · rw [if_neg h0]
    have : decide (d.fuse = 1) = d.down := by rw [hl]; exact decide_eq_false h
    rw [this]
theorem live_chk {d : D} (hl : d.down = false) {i : Int} (h0 : 0 ≤ i) (h1 : i < d.sec) : d.chk i = 0 := by
  unfold D.chk
  rw [hl, if_neg (by simp), if_neg (by omega)]
theorem Ok.dead {d : D} (h : Ok d) : Ok (D.dead d) := ⟨h.sec, h.size, h.big, h.per, h.safe, h.cache, Nat.zero_le _⟩
theorem Ok.mr {d : D} (h : Ok d) : Ok (D.mr d) := ⟨h.sec, h.size, h.big, h.per, h.safe, h.cache, Nat.le_trans (Nat.sub_le _ _) h.fz⟩
theorem Ok.pt {d : D} (h : Ok d) (i : Int) {ws : List UInt64} (hw : ws.length = D.per d) : Ok (D.pt d i ws) := by
  have := Ok.put h i hw
  exact ⟨this.sec, this.size, this.big, this.per, this.safe, this.cache, Nat.le_trans (Nat.sub_le _ _) h.fz⟩
structure Prog (S : Int → Prop) (d d' : D) (r w : Nat) : Prop where
  ok : Ok d'
  down : d'.down = false
  fuse : d'.fuse = d.fuse - (r + w)
  go : d.fuse = 0 ∨ r + w < d.fuse
  sec : d'.sec = d.sec
  size : d'.size = d.size
  safe : d'.safe = d.safe
  sy : d'.sy = d.sy
  cache : ∀ k, ¬ S k → d'.cache k = d.cache k
  tch : ∀ k, ¬ S k → d'.tch k = d.tch k
  rd : d'.rd = d.rd + r
  wr : d'.wr = d.wr + w
structure Dead (S : Int → Prop) (d d' : D) : Prop where
  ok : Ok d'
  down : d'.down = true
  fuse : d'.fuse = 0
  sec : d'.sec = d.sec
  size : d'.size = d.size
  safe : d'.safe = d.safe
  sy : d'.sy = d.sy
  cache : ∀ k, ¬ S k → d'.cache k = d.cache k
  tch : ∀ k, ¬ S k → d'.tch k = d.tch k
  cnt : d'.rd + d'.wr + 1 = d.rd + d.wr + d.fuse
  rd : d.rd ≤ d'.rd
  wr : d.wr ≤ d'.wr
section
variable {S : Int → Prop} {d d1 d2 : D}
theorem Prog.refl (S : Int → Prop) (h : Ok d) (hl : d.down = false) : Prog S d d 0 0 := ⟨h, hl, by omega, by omega, rfl, rfl, rfl, rfl, fun _ _ => rfl, fun _ _ => rfl, rfl, rfl⟩
theorem Prog.per {r w : Nat} (h : Prog S d d1 r w) : D.per d1 = D.per d := by unfold D.per; rw [h.size]
theorem Prog.trans {r w r' w' : Nat} (h : Prog S d d1 r w) (k : Prog S d1 d2 r' w') : Prog S d d2 (r + r') (w + w') := by
  have a1 := h.fuse; have a2 := h.go; have b1 := k.fuse; have b2 := k.go; have c1 := h.rd; have c2 := h.wr; have c3 := k.rd; have c4 := k.wr
  exact ⟨k.ok, k.down, by omega, by omega, k.sec.trans h.sec, k.size.trans h.size, k.safe.trans h.safe, k.sy.trans h.sy, fun i hi => (k.cache i hi).trans (h.cache i hi), fun i hi => (k.tch i hi).trans (h.tch i hi), by omega, by omega⟩
theorem Dead.mono {S' : Int → Prop} (h : Dead S d d1) (k : ∀ i, S i → S' i) : Dead S' d d1 := { h with cache := fun i hi => h.cache i fun hs => hi (k i hs), tch := fun i hi => h.tch i fun hs => hi (k i hs) }
theorem Prog.dead {r w : Nat} (h : Prog S d d1 r w) (k : Dead S d1 d2) : Dead S d d2 := by
  have a1 := h.fuse; have a2 := h.go; have c1 := h.rd; have c2 := h.wr; have c3 := k.rd; have c4 := k.wr; have c5 := k.cnt
  exact ⟨k.ok, k.down, k.fuse, k.sec.trans h.sec, k.size.trans h.size, k.safe.trans h.safe, k.sy.trans h.sy, fun i hi => (k.cache i hi).trans (h.cache i hi), fun i hi => (k.tch i hi).trans (h.tch i hi), by omega, by omega, by omega⟩
theorem Prog.mr (S : Int → Prop) (h : Ok d) (hl : d.down = false) (hf : d.fuse ≠ 1) : Prog S d (D.mr d) 1 0 :=
  ⟨Ok.mr h, hl, rfl, by omega, rfl, rfl, rfl, rfl, fun _ _ => rfl, fun _ _ => rfl, rfl, rfl⟩
theorem Prog.pt (S : Int → Prop) (h : Ok d) (hl : d.down = false) (hf : d.fuse ≠ 1) {i : Int} (hi : S i) {ws : List UInt64} (hw : ws.length = D.per d) : Prog S d (D.pt d i ws) 0 1 :=
  ⟨Ok.pt h i hw, hl, rfl, by omega, rfl, rfl, rfl, rfl, fun k hk => by
    show updB d.cache i (form ws) k = _
    unfold updB; exact if_neg fun (e : k = i) => hk (by rw [e]; exact hi), fun k hk => by
    show updT d.tch i k = _
    unfold updT; exact if_neg fun (e : k = i) => hk (by rw [e]; exact hi), rfl, rfl⟩
theorem Dead.one (S : Int → Prop) (h : Ok d) (hf : d.fuse = 1) : Dead S d (D.dead d) :=
  ⟨Ok.dead h, rfl, rfl, rfl, rfl, rfl, rfl, fun _ _ => rfl, fun _ _ => rfl, by show d.rd + d.wr + 1 = _; rw [hf], Nat.le_refl _, Nat.le_refl _⟩
end
theorem readG_tr {p : Nat} {d : D} (hok : Ok d) (hl : d.down = false) (ho : d.rd ≤ 4611686018427387904) (i : Int) (h0 : 0 ≤ i) (h1 : i < d.sec) : Tr Tryz.prog 63 #[.pointer (some ⟨p, 0, none⟩), .int .i64 i] [Dk p d] fun v M =>
    (d.fuse ≠ 1 ∧ ∃ b c m, v = .tuple #[.slice (some ⟨b, 0, none⟩) d.size c, .int .i64 0] ∧ d.size ≤ c ∧ M = [Dk p (D.mr d), pts b (.row (byteVals (d.now i)) 5 m)]) ∨
    (d.fuse = 1 ∧ v = .tuple #[.slice none 0 0, .int .i64 8] ∧ M = [Dk p (D.dead d)]) := fun H hs =>
  (Dsk.Read_tr hok ho i H hs).mono fun v H' ⟨M, hq, hM⟩ => by
    rcases hq with ⟨h, _⟩ | ⟨_, h, h2, h3⟩ | ⟨_, hb, b, c, m, h2, h3, h4⟩
    · exact absurd (live_chk hl h0 h1) h
    · have hf : d.fuse = 1 := by simpa [D.burns] using h
      rw [burnt_one hf] at h3
      exact ⟨M, .inr ⟨hf, h2, h3⟩, hM⟩
    · have hf : d.fuse ≠ 1 := by simpa [D.burns] using hb
      rw [burnt_live hl hf] at h4
      exact ⟨M, .inl ⟨hf, b, c, m, h2, h3, h4⟩, hM⟩
theorem load_g {p dp ap : Nat} {d : D} {x : X} {cap peak : Int} {bufs : List (Nat × Nat × Option Addr)} {b rb m : Nat} {xs : List Value} (hok : Ok d) (hl : d.down = false) (ho : d.rd ≤ 4611686018427387904) (i : Int) (h0 : 0 ≤ i) (h1 : i < d.sec)
    (hbm : (b, D.per d, some ⟨rb, 0, none⟩) ∈ bufs) (hxs : xs.length = D.per d) :
    Tr Tryz.prog 85 #[.pointer (some ⟨p, 0, none⟩), .int .i64 i, .pointer (some ⟨b, 0, none⟩)] [pts p (pipO dp ap x), Dk dp d, Ar ap cap peak bufs, pts rb (.row xs 60 m)] fun v M =>
      (d.fuse ≠ 1 ∧ v = .int .i64 0 ∧ M = [pts p (pipO dp ap x), Dk dp (D.mr d), Ar ap cap peak bufs, pts rb (.row (wordVals (wordsB (d.now i))) 60 m)]) ∨
      (d.fuse = 1 ∧ v = .int .i64 8 ∧ M = [pts p (pipO dp ap x), Dk dp (D.dead d), Ar ap cap peak bufs, pts rb (.row xs 60 m)]) := fun H hs => by
  have hp := Ok.per_le hok
  have hnow := hok.now i
  have hsz := hok.size
  apply W_stream_means_load.ok
  unfold W_stream_means_load
  simp only [NN_some, Addr.add_lit', Addr.add_zero, Nat.zero_add, Nat.add_zero]
  refine hs.ld 0 rfl rfl ?_
  simp only [HV]
  refine (readG_tr hok hl ho i h0 h1).use hs [1] rfl rfl ?_
  rintro _ _ H (⟨hf, br, c, mr, rfl, hcc, rfl⟩ | ⟨hf, rfl, rfl⟩) hs
  · simp only [HV]
    refine BIf_bnen rfl ?_
    refine HCalls.use (Words_s hs 3 rfl hbm) ?_
    try simp only [HV]
    refine ⟨D.per d + 1, ?_⟩
    refine load_loop _ (some ⟨br, 0, none⟩) d.size c (d.now i) hnow.symm hcc (by omega) rb (D.per d) m (by omega) (L := [Dk dp (D.mr d), pts br (.row (byteVals (d.now i)) 5 mr), pts p (pipO dp ap x), Ar ap cap peak bufs, pts rb (.row xs 60 m)]) 4 (fun H hs => ?_) (fun ys H hs => ?_) (by simp) (D.per d) 0 xs H (by omega) hxs (by simp) hs
    · exact ⟨_, .inl ⟨hf, rfl, rfl⟩, hs.re [2, 0, 3, 4] rfl⟩
    · have := Cells.row (hs.get 1 (b := br) (o := .row (byteVals (d.now i)) 5 mr) rfl) 0 d.size
      rw [List.drop_zero, List.take_of_length_le (by rw [byteVals_length]; omega)] at this
      exact this
  · simp only [HV]
    exact BIf_bnep (by decide) ⟨_, .inr ⟨hf, by trivial, rfl⟩, hs.re [1, 0, 2, 3] rfl⟩
theorem writeG_tr {p : Nat} {d : D} (hok : Ok d) (hl : d.down = false) (ho : d.wr ≤ 4611686018427387904) (i : Int) (h0 : 0 ≤ i) (h1 : i < d.sec) (ws : List UInt64) (hw : ws.length = D.per d) (b m : Nat) :
    Tr Tryz.prog 35 #[.pointer (some ⟨p, 0, none⟩), .int .i64 i, .slice (some ⟨b, 0, none⟩) (8 * ws.length) (8 * ws.length)] [Dk p d, pts b (.row (byteVals (form ws)) 5 m)] fun v M =>
      (d.fuse ≠ 1 ∧ v = .int .i64 0 ∧ M = [Dk p (D.pt d i ws), pts b (.row (byteVals (form ws)) 5 m)]) ∨
      (d.fuse = 1 ∧ v = .int .i64 8 ∧ M = [Dk p (D.dead d), pts b (.row (byteVals (form ws)) 5 m)]) := fun H hs => by
  have hp := Ok.per_le hok
  refine (Dsk.Write_tr hok ho i (some ⟨b, 0, none⟩) (8 * ws.length) (8 * ws.length) (form ws) (form_length ws).symm (pts b (.row (byteVals (form ws)) 5 m)) (fun H h => ?_) H hs).mono ?_
  · have := Cells.row h 0 (8 * ws.length)
    rw [List.drop_zero, List.take_of_length_le (by rw [byteVals_length, form_length]; omega)] at this
    exact this
  · rintro v H' ⟨M, ⟨rfl, rfl⟩, hM⟩
    have hc := live_chk hl h0 h1
    by_cases hf : d.fuse = 1
    · have hb : d.burns = true := by unfold D.burns; exact decide_eq_true hf
      have e1 : d.writeE i (8 * ws.length) = 8 := by
        unfold D.writeE
        rw [if_neg (by rw [hc]; simp), if_neg (by omega), hb]; rfl
      have e2 : d.writeD i (form ws) = D.dead d := by
        unfold D.writeD
        rw [if_neg (by rw [hc]; simp), if_neg (by rw [form_length]; omega), hb, if_pos rfl, burnt_one hf]
      rw [e1]
      rw [e2] at hM
      exact ⟨_, .inr ⟨hf, rfl, rfl⟩, hM⟩
    · have hb : d.burns = false := by unfold D.burns; exact decide_eq_false hf
      have e1 : d.writeE i (8 * ws.length) = 0 := by
        unfold D.writeE
        rw [if_neg (by rw [hc]; simp), if_neg (by omega), hb]; rfl
      have e2 : d.writeD i (form ws) = D.pt d i ws := by
        unfold D.writeD
        rw [if_neg (by rw [hc]; simp), if_neg (by rw [form_length]; omega), hb]
        unfold D.wrote D.pt
        rw [burnt_live hl hf]; rfl
      rw [e1]
      rw [e2] at hM
      exact ⟨_, .inl ⟨hf, rfl, rfl⟩, hM⟩
theorem store_g {p dp ap : Nat} {d : D} {x : X} {cap peak : Int} {bufs : List (Nat × Nat × Option Addr)} {b rb m : Nat} {ws : List UInt64} (hok : Ok d) (hl : d.down = false) (ho : d.wr ≤ 4611686018427387904) (i : Int) (h0 : 0 ≤ i) (h1 : i < d.sec)
    (hbm : (b, D.per d, some ⟨rb, 0, none⟩) ∈ bufs) (hw : ws.length = D.per d) :
    Tr Tryz.prog 87 #[.pointer (some ⟨p, 0, none⟩), .int .i64 i, .pointer (some ⟨b, 0, none⟩)] [pts p (pipO dp ap x), Dk dp d, Ar ap cap peak bufs, pts rb (.row (wordVals ws) 60 m)] fun v M =>
      (d.fuse ≠ 1 ∧ v = .int .i64 0 ∧ M = [pts p (pipO dp ap x), Dk dp (D.pt d i ws), Ar ap cap peak bufs, pts rb (.row (wordVals ws) 60 m)]) ∨
      (d.fuse = 1 ∧ v = .int .i64 8 ∧ M = [pts p (pipO dp ap x), Dk dp (D.dead d), Ar ap cap peak bufs, pts rb (.row (wordVals ws) 60 m)]) := fun H hs => by
  have hp := Ok.per_le hok
  have hcell : ∀ {L : List As} {H : Hp} (j : Nat), Sep L H → L[j]? = some (pts rb (.row (wordVals ws) 60 m)) → Cells H (some ⟨rb, 0, none⟩) (wordVals ws) := fun j hs hj => by
    have := Cells.row (hs.get j hj) 0 ws.length
    rw [List.drop_zero, List.take_of_length_le (by rw [wordVals_length]; exact Nat.le_refl _)] at this
    exact this
  apply W_stream_means_store.ok
  unfold W_stream_means_store
  simp only [NN_some, Addr.add_lit', Addr.add_zero, Nat.zero_add, Nat.add_zero]
  have put : ∀ (H : Hp) (K : Value → Hp → Prop), Sep [pts p (pipO dp ap x), Dk dp d, Ar ap cap peak bufs, pts rb (.row (wordVals ws) 60 m)] H →
      (∀ b' H', Sep [pts p (pipO dp ap x), Dk dp d, Ar ap cap peak bufs, pts rb (.row (wordVals ws) 60 m), pts b' (.row (byteVals (form ws)) 5 (8 * ws.length))] H' → K (.slice (some ⟨b', 0, none⟩) (8 * ws.length) (8 * ws.length)) H') →
      HCalls Tryz.prog 114 #[.slice (some ⟨rb, 0, none⟩) (D.per d) (D.per d)] H K := fun H K hs k => by
    rw [← hw]
    refine (FormP.Put_ok (some ⟨rb, 0, none⟩) ws.length ws.length ws rfl (by omega) H (hcell 3 hs rfl)).mono ?_
    rintro v H' ⟨b', hb', rfl, rfl⟩
    exact k b' _ (hs.new hb' _)
  have wr : ∀ (b' : Nat) (H : Hp), Sep [pts p (pipO dp ap x), Dk dp d, Ar ap cap peak bufs, pts rb (.row (wordVals ws) 60 m), pts b' (.row (byteVals (form ws)) 5 (8 * ws.length))] H →
      HCalls Tryz.prog 35 #[.pointer (some ⟨dp, 0, none⟩), .int .i64 i, .slice (some ⟨b', 0, none⟩) (8 * ws.length) (8 * ws.length)] H fun v4 H3 => DI .i64 v4 fun x2 => ∃ M, ((d.fuse ≠ 1 ∧ (.int .i64 x2 : Value) = .int .i64 0 ∧ M = [pts p (pipO dp ap x), Dk dp (D.pt d i ws), Ar ap cap peak bufs, pts rb (.row (wordVals ws) 60 m)]) ∨
        (d.fuse = 1 ∧ (.int .i64 x2 : Value) = .int .i64 8 ∧ M = [pts p (pipO dp ap x), Dk dp (D.dead d), Ar ap cap peak bufs, pts rb (.row (wordVals ws) 60 m)])) ∧ Sep M H3 := fun b' H hs => by
    refine (writeG_tr hok hl ho i h0 h1 ws hw b' (8 * ws.length)).use hs [1, 4] rfl rfl ?_
    rintro _ _ H (⟨hf, rfl, rfl⟩ | ⟨hf, rfl, rfl⟩) hs
    · exact ⟨_, .inl ⟨hf, rfl, rfl⟩, hs.re [2, 0, 3, 4] rfl⟩
    · exact ⟨_, .inr ⟨hf, rfl, rfl⟩, hs.re [2, 0, 3, 4] rfl⟩
  refine ⟨?_, ?_⟩
  · refine hs.ld 0 rfl rfl ?_
    simp only [HV]
    refine HCalls.use (Words_s hs 2 rfl hbm) ?_
    try simp only [HV]
    refine put H _ hs fun b' H hs => ?_
    simp only [HV]
    exact wr b' H hs
  · refine HCalls.use (Words_s hs 2 rfl hbm) ?_
    try simp only [HV]
    refine ⟨?_, ?_⟩
    · refine hs.ld 0 rfl rfl ?_
      simp only [HV]
      refine put H _ hs fun b' H hs => ?_
      simp only [HV]
      exact wr b' H hs
    · refine put H _ hs fun b' H hs => ?_
      simp only [HV]
      refine hs.ld 0 rfl rfl ?_
      simp only [HV]
      exact wr b' H hs
end Go.Proofs.YtnknippcbecmeaaGreatDoor.Str
end
