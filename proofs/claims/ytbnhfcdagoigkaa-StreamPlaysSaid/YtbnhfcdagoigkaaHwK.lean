/- The frame of the proofs: maps whose keys are ints, as parts of memory. -/
import Derived.Test.YtbnhfcdagoigkaaHwO
import Derived.Test.YtbnhfcdagoigkaaHwI
set_option maxRecDepth 100000
set_option linter.unusedSimpArgs false
set_option linter.unusedVariables false
set_option linter.unnecessarySimpa false
set_option linter.unusedSectionVars false
namespace Go.Hw
open Go

def entK (x : Int × Value × Nat) : MapEntry := { key := .int .i64 x.1, val := x.2.1, born := x.2.2 }
def kmap (l : List (Int × Value × Nat)) (clock : Nat) : AO := .obj (.map (l.map entK).toArray clock)
def getK : List (Int × Value × Nat) → Int → Option Value
  | [], _ => none
  | x :: l, k => if k = x.1 then some x.2.1 else getK l k
def ixK (k : Int) : List (Int × Value × Nat) → Nat → Option (Nat × Value)
  | [], _ => none
  | x :: l, i => if k = x.1 then some (i, x.2.1) else ixK k l (i + 1)

structure OkK (l : List (Int × Value × Nat)) (clock : Nat) (m : Int → Option Value) : Prop where
  nd : (l.map (·.1)).Nodup
  bn : (l.map (·.2.2)).Nodup
  bl : ∀ x ∈ l, x.2.2 < clock
  get : ∀ k, getK l k = m k

/-- A map whose keys are ints. -/
def Mp (r : Nat) (m : Int → Option Value) : As := fun H => ∃ l clock, H r = some (kmap l clock) ∧ OkK l clock m

theorem ixK_get (k : Int) : ∀ (l : List (Int × Value × Nat)) (i : Nat), (ixK k l i).map (·.2) = getK l k
  | [], _ => rfl
  | x :: l, i => by
    unfold ixK getK
    split
    · rfl
    · exact ixK_get k l (i + 1)

theorem getK_none {l : List (Int × Value × Nat)} {k : Int} : getK l k = none ↔ ∀ x ∈ l, x.1 ≠ k := by
  induction l with
  | nil => simp [getK]
  | cons x l ih =>
    unfold getK
    split
    · rename_i h; simp [h]
    · rename_i h
      rw [ih]
      constructor
      · intro h2 y hy
        rcases List.mem_cons.1 hy with rfl | hy
        · exact fun e => h e.symm
        · exact h2 y hy
      · intro h2 y hy; exact h2 y (by simp [hy])

theorem getK_mem {l : List (Int × Value × Nat)} (hn : (l.map (·.1)).Nodup) {x : Int × Value × Nat} (hx : x ∈ l) : getK l x.1 = some x.2.1 := by
  induction l with
  | nil => simp at hx
  | cons y l ih =>
    simp only [List.map_cons, List.nodup_cons] at hn
    unfold getK
    rcases List.mem_cons.1 hx with rfl | hx
    · simp
    · rw [if_neg (fun e => hn.1 (by rw [← e]; exact List.mem_map_of_mem hx))]
      exact ih hn.2 hx

theorem getK_some {l : List (Int × Value × Nat)} {k : Int} {v : Value} (h : getK l k = some v) : ∃ b, (k, v, b) ∈ l := by
  induction l with
  | nil => simp [getK] at h
  | cons y l ih =>
    unfold getK at h
    split at h
    · rename_i e; cases h; exact ⟨y.2.2, by rw [e]; simp⟩
    · obtain ⟨b, hb⟩ := ih h; exact ⟨b, by simp [hb]⟩

theorem kmap.heap {H : Hp} {w : World} {r clock : Nat} {l : List (Int × Value × Nat)} (h : H r = some (kmap l clock)) (hw : Fits H w) : w.heap[r]? = some (.map (l.map entK).toArray clock) := by
  obtain ⟨o, ho, hh⟩ := hw _ _ h
  cases hh
  exact ho

theorem At.setK {H0 H : Hp} {w0 w : World} {r clock : Nat} {l : List (Int × Value × Nat)} (hA : At H0 w0 H w) (hr : H r = some (kmap l clock)) (o : Obj) : At H0 w0 (H.set r (.obj o)) { w with heap := w.heap.setIfInBounds r o } := by
  have hh := kmap.heap hr hA.fits
  have hlt : r < w.heap.size := (Array.getElem?_eq_some_iff.1 hh).1
  refine hA.turn hr (x' := o) ?_ rfl ?_ rfl rfl rfl (fun c hc => ?_)
  · show (w.heap.setIfInBounds r o)[r]? = some o
    simp [hlt]
  · show (w.heap.setIfInBounds r o).size = w.heap.size
    simp
  · show (w.heap.setIfInBounds r o)[c]? = w.heap[c]?
    rw [Array.getElem?_setIfInBounds_ne (Ne.symm hc)]

section
variable {P : Program} {t : TypeId} (ht : P.underlying t = some (.int .i64))
include ht

theorem findNowK (k : Int) : ∀ (l : List (Int × Value × Nat)) (i : Nat), Instr.findNow (.int .i64) (.int .i64 k) (l.map entK) i = some (ixK k l i)
  | [], _ => rfl
  | x :: l, i => by
    simp only [List.map_cons, Instr.findNow]
    rw [show Instr.sameNow (.int .i64) (.int .i64 k) (entK x).key = some (k == x.1) by simp [Instr.sameNow, entK]]
    unfold ixK
    by_cases h : k = x.1
    · simp [h, entK]
    · rw [show (k == x.1) = false by simpa using h]
      simp only [h, if_false]
      exact findNowK k l (i + 1)

theorem findKeyK {w : World} (k : Int) (l : List (Int × Value × Nat)) : (Instr.findKey t (.int .i64 k) (l.map entK)).run P w = .ok (ixK k l 0) w := by
  unfold Instr.findKey
  simp [underlying_run ht, findNowK ht k l 0]

theorem checkKeyK {w : World} (e : Bool) (k : Int) : (Instr.checkKey e 10000 t (.int .i64 k)).run P w = .ok () w := by
  unfold Instr.checkKey
  simp [underlying_run ht]

variable {tm tv : TypeId} (hm : P.underlying tm = some (.map t tv))
include hm

theorem lookupK {jv : TypeInfo} {z : Value} (hv : P.info? tv = some jv) (hz : jv.zero = some z) {H : Hp} {r clock : Nat} {l : List (Int × Value × Nat)} {k : Int} (hr : H r = some (kmap l clock)) (ok : Bool) {K : Value → Prop}
    (kk : K (match getK l k with | some v => if ok then .tuple #[v, .bool true] else v | none => if ok then .tuple #[z, .bool false] else z)) : SemV P (Instr.lookup tm (.map (some r)) (.int .i64 k) ok) H K := by
  refine ⟨_, kk, fun w hw => ?_⟩
  have hh := kmap.heap hr hw
  simp only [Instr.lookup, Sem.run_bind, underlying_run hm, Result.andThen_ok, MapKept.run_getObj_map hh, Sem.run_pure]
  rw [checkKeyK ht]
  simp only [Result.andThen_ok]
  rw [findKeyK ht]
  simp only [Result.andThen_ok]
  rw [← ixK_get k l 0]
  cases ixK k l 0 with
  | some x => cases ok <;> simp
  | none => cases ok <;> simp [zeroValue, typeInfo_run hv, hz]

theorem ixK_lt (k : Int) : ∀ (l : List (Int × Value × Nat)) (i j : Nat) (v : Value), ixK k l i = some (j, v) → i ≤ j ∧ ∃ x, l[j - i]? = some x ∧ x.1 = k ∧ x.2.1 = v
  | [], _, _, _, h => by cases h
  | x :: l, i, j, v, h => by
    unfold ixK at h
    split at h
    · rename_i e; cases h; exact ⟨Nat.le_refl _, x, by simp, e.symm, rfl⟩
    · obtain ⟨h1, y, h2, h3⟩ := ixK_lt k l (i + 1) j v h
      exact ⟨by omega, y, by rw [show j - i = (j - (i + 1)) + 1 by omega, List.getElem?_cons_succ]; exact h2, h3⟩

def updM (m : Int → Option Value) (k : Int) (v : Value) : Int → Option Value := fun j => if j = k then some v else m j

theorem getK_append (l : List (Int × Value × Nat)) (x : Int × Value × Nat) (h : getK l x.1 = none) (j : Int) : getK (l ++ [x]) j = updM (getK l) x.1 x.2.1 j := by
  induction l with
  | nil => simp [getK, updM]
  | cons y l ih =>
    unfold getK at h
    split at h
    · cases h
    · rename_i hne
      rw [List.cons_append]
      unfold getK updM
      have := ih h
      unfold updM at this
      by_cases e : j = x.1
      · rw [if_pos e, e, if_neg hne]
        rw [e, if_pos rfl] at this; exact this
      · rw [if_neg e]
        rw [if_neg e] at this
        rw [this]
        rfl

theorem getK_set : ∀ (l : List (Int × Value × Nat)) (i : Nat) (x : Int × Value × Nat) (v : Value), (l.map (·.1)).Nodup → l[i]? = some x → ∀ j, getK (l.set i (x.1, v, x.2.2)) j = updM (getK l) x.1 v j
  | [], i, x, v, _, h, j => by simp at h
  | y :: l, 0, x, v, hn, h, j => by
    simp at h; subst h
    simp only [List.set_cons_zero]
    unfold getK updM
    by_cases e : j = y.1
    · simp [e]
    · simp only [e, if_false, getK]
  | y :: l, i + 1, x, v, hn, h, j => by
    simp only [List.map_cons, List.nodup_cons] at hn
    rw [List.getElem?_cons_succ] at h
    have ih := getK_set l i x v hn.2 h j
    have hne : y.1 ≠ x.1 := fun e => hn.1 (by rw [e]; exact List.mem_map_of_mem (List.mem_of_getElem? h))
    simp only [List.set_cons_succ]
    unfold getK updM
    unfold updM at ih
    by_cases e : j = x.1
    · rw [if_pos e, e, if_neg (Ne.symm hne)]
      rw [e, if_pos rfl] at ih; exact ih
    · rw [if_neg e]
      rw [if_neg e] at ih
      rw [ih]
      rfl

theorem map_set_same {α β : Type} (f : α → β) : ∀ (l : List α) (i : Nat) (x y : α), l[i]? = some x → f y = f x → (l.set i y).map f = l.map f
  | [], _, _, _, h, _ => by simp at h
  | z :: l, 0, x, y, h, e => by simp at h; subst h; simp [e]
  | z :: l, i + 1, x, y, h, e => by
    simp only [List.set_cons_succ, List.map_cons]
    rw [map_set_same f l i x y (by simpa using h) e]

theorem Sep.upd {L : List As} {H : Hp} (h : Sep L H) (i : Nat) {r : Nat} {m : Int → Option Value} (hi : L[i]? = some (Mp r m)) {k : Int} {v : Value} {K : Unit → Hp → Prop} (kk : ∀ H', Sep (L.set i (Mp r (updM m k v))) H' → K () H') :
    SemK P (Instr.mapUpdate tm (.map (some r)) (.int .i64 k) v) H K := fun H0 w0 w hA => by
  obtain ⟨H1, ⟨l, clock, hr1, hok⟩, hle⟩ := h.see i hi
  have hr := hle _ _ hr1
  have hh := kmap.heap hr hA.fits
  cases hx : ixK k l 0 with
  | none =>
    have hg : getK l k = none := by rw [← ixK_get k l 0, hx]; rfl
    refine ⟨(), _, _, ?_, kk _ (h.putIn i hi (b := r) (o' := kmap (l ++ [(k, v, clock)]) (clock + 1)) fun H1' hle' hA' => ?_), hA.setK hr _⟩
    · simp only [Instr.mapUpdate, Sem.run_bind, underlying_run hm, Result.andThen_ok, MapKept.run_getObj_map hh]
      rw [checkKeyK ht]
      simp only [Result.andThen_ok]
      rw [findKeyK ht, hx]
      simp only [Result.andThen_ok]
      rw [MapKept.run_setObj_map _ hh]
      simp [entK]
    · obtain ⟨l', clock', hr', _⟩ := hA'
      refine ⟨_, hr', l ++ [(k, v, clock)], clock + 1, Hp.set_same _ _ _, ?_, ?_, fun x hx => ?_, fun j => ?_⟩
      · rw [List.map_append, List.nodup_append]
        refine ⟨hok.nd, by simp, fun a ha b hb e => ?_⟩
        simp at hb; subst hb
        obtain ⟨z, hz, rfl⟩ := List.mem_map.1 ha
        exact getK_none.1 hg z hz e
      · rw [List.map_append, List.nodup_append]
        refine ⟨hok.bn, by simp, fun a ha b hb e => ?_⟩
        simp at hb; subst hb
        obtain ⟨z, hz, rfl⟩ := List.mem_map.1 ha
        have := hok.bl z hz
        omega
      · rcases List.mem_append.1 hx with hx | hx
        · have := hok.bl x hx; omega
        · simp at hx; subst hx; show clock < clock + 1; omega
      · rw [getK_append ht hm l (k, v, clock) hg j]
        unfold updM
        simp only [hok.get]
  | some q =>
    obtain ⟨ix, u⟩ := q
    obtain ⟨_, x, hxl, hxk, hxv⟩ := ixK_lt ht hm k l 0 ix u hx
    rw [Nat.sub_zero] at hxl
    have hlt := (List.getElem?_eq_some_iff.1 hxl).1
    refine ⟨(), _, _, ?_, kk _ (h.putIn i hi (b := r) (o' := kmap (l.set ix (x.1, v, x.2.2)) clock) fun H1' hle' hA' => ?_), hA.setK hr _⟩
    · simp only [Instr.mapUpdate, Sem.run_bind, underlying_run hm, Result.andThen_ok, MapKept.run_getObj_map hh]
      rw [checkKeyK ht]
      simp only [Result.andThen_ok]
      rw [findKeyK ht, hx]
      simp only [Result.andThen_ok]
      have hkey : ((((l.map entK).toArray)[ix]?).map (·.key)).getD (Value.int .i64 k) = .int .i64 k := by
        simp [hxl, entK, hxk]
      rw [hkey]
      simp only [Instr.keyThatStays, Instr.sameBits, beq_self_eq_true, Bool.and_self, if_true, pure_bind]
      rw [MapKept.run_setObj_map _ hh]
      congr 3
      have e : ((l.map entK).toArray.modify ix fun e => { e with key := .int .i64 k, val := v }) = ((l.set ix (x.1, v, x.2.2)).map entK).toArray := by
        apply Array.ext'
        rw [Array.toList_modify]
        simp only
        apply List.ext_getElem?
        intro j
        rw [List.getElem?_modify, List.getElem?_map, List.getElem?_map, List.getElem?_set]
        by_cases ej : ix = j
        · subst ej
          have e2 : l[ix] = x := by
            have := List.getElem?_eq_getElem hlt
            rw [this] at hxl; exact Option.some.inj hxl
          simp [entK, hxk, hlt, e2]
        · simp [ej]
      rw [e]
    · obtain ⟨l', clock', hr', _⟩ := hA'
      refine ⟨_, hr', l.set ix (x.1, v, x.2.2), clock, Hp.set_same _ _ _, ?_, ?_, fun y hy => ?_, fun j => ?_⟩
      · rw [map_set_same ht hm (·.1) l ix x (x.1, v, x.2.2) hxl rfl]; exact hok.nd
      · rw [map_set_same ht hm (·.2.2) l ix x (x.1, v, x.2.2) hxl rfl]; exact hok.bn
      · have : y.2.2 ∈ (l.set ix (x.1, v, x.2.2)).map (·.2.2) := List.mem_map_of_mem hy
        rw [map_set_same ht hm (·.2.2) l ix x (x.1, v, x.2.2) hxl rfl] at this
        obtain ⟨z, hz, e⟩ := List.mem_map.1 this
        have := hok.bl z hz
        have e' : z.2.2 = y.2.2 := e
        omega
      · rw [getK_set ht hm l ix x v hok.nd hxl j]
        unfold updM
        simp only [hok.get, hxk]

theorem Sep.clearK {L : List As} {H : Hp} (h : Sep L H) (i : Nat) {r : Nat} {m : Int → Option Value} (hi : L[i]? = some (Mp r m)) {ty : TypeId} {K : Value → Hp → Prop} (kk : ∀ H', Sep (L.set i (Mp r fun _ => none)) H' → K (.tuple #[]) H') :
    SemK P (Builtin.clear_ #[tm] ty #[.map (some r)]) H K := fun H0 w0 w hA => by
  obtain ⟨H1, ⟨l, clock, hr1, hok⟩, hle⟩ := h.see i hi
  have hr := hle _ _ hr1
  have hh := kmap.heap hr hA.fits
  refine ⟨_, _, _, ?_, kk _ (h.putIn i hi (b := r) (o' := kmap [] clock) fun H1' hle' hA' => ?_), hA.setK hr _⟩
  · simp only [Builtin.clear_, Sem.run_bind, underlying_run hm, Result.andThen_ok, List.getElem?_toArray, List.getElem?_cons_zero, MapKept.run_getObj_map hh]
    try rw [Sem.run_bind]
    rw [MapKept.run_setObj_map _ hh]
    simp
  · obtain ⟨l', clock', hr', _⟩ := hA'
    exact ⟨_, hr', [], clock, Hp.set_same _ _ _, by simp, by simp, fun x hx => by simp at hx, fun j => rfl⟩

end

theorem Mp.new {L : List As} {H : Hp} {b : Nat} (h : Sep (L ++ [pts b (.obj (.map #[] 0))]) H) : Sep (L ++ [Mp b fun _ => none]) H := by
  have := h.turn L.length (A := pts b (.obj (.map #[] 0))) (by simp) (B := Mp b fun _ => none) fun H1 h1 => ⟨[], 0, h1, by simp, by simp, fun x hx => by simp at hx, fun j => rfl⟩
  simpa using this

/-! ## The entries, one after the other -/

def unseenK (tk : List (Int × Value × Nat)) (seen : Array Nat) : List (Int × Value × Nat) := tk.filter fun x => !seen.contains x.2.2

theorem range_K {P : Program} {t k e : TypeId} (ht : P.underlying t = some (.map k e)) {H : Hp} {mp cl : Nat} {tk : List (Int × Value × Nat)} (hm : H mp = some (kmap tk cl)) {K : Value → Hp → Prop}
    (kk : ∀ it, H it = none → K (.pointer (some ⟨it, 0, none⟩)) (H.set it (iterO mp cl #[] cl))) : SemK P (Instr.range t (.map (some mp))) H K := fun H0 w0 w hA => by
  have hh := kmap.heap hm hA.fits
  obtain ⟨hn, hA'⟩ := hA.new (o := iterO mp cl #[] cl) (x := .mapIter (some mp) cl #[] cl) rfl
  refine ⟨_, _, _, ?_, kk _ hn, hA'⟩
  simp only [Instr.range, Sem.run_bind, underlying_run ht, Result.andThen_ok, MapKept.run_getObj_map hh, Sem.run_pure]
  simp

theorem next_K {P : Program} {ty : TypeId} {H : Hp} {it mp since last cl : Nat} {seen : Array Nat} {tk : List (Int × Value × Nat)} (hi : H it = some (iterO mp since seen last)) (hm : H mp = some (kmap tk cl)) (hold : ∀ x ∈ tk, x.2.2 < since) (hlast : ∀ x ∈ tk, x.2.2 < last) {K : Value → Hp → Prop}
    (k1 : ∀ x ∈ unseenK tk seen, K (.tuple #[.bool true, .int .i64 x.1, x.2.1]) (H.set it (iterO mp since (seen.push x.2.2) cl))) (k0 : unseenK tk seen = [] → K (.tuple #[.bool false]) H) :
    SemK P (Instr.next (.pointer (some ⟨it, 0, none⟩)) false ty) H K := fun H0 w0 w hA => by
  have hh := iterO.heap hi hA.fits
  have hg := kmap.heap hm hA.fits
  have hgi : (getObj it).run P w = .ok (.mapIter (some mp) since seen last) w := by simp [getObj, Sem.run, hh]
  have hleft : ((tk.map entK).toArray.filter fun e => !seen.contains e.born) = ((unseenK tk seen).map entK).toArray := by
    unfold unseenK
    rw [List.filter_toArray, List.filter_map]
    rfl
  have hcond : (!seen.isEmpty && !(tk.map entK).toArray.isEmpty && (tk.map entK).toArray.all (fun e => decide (e.born ≥ last))) = false := by
    cases tk with
    | nil => simp
    | cons x l =>
      have := hlast x (by simp)
      have h2 : ¬ last ≤ x.2.2 := by omega
      simp [entK, h2]
  have hold' : (((unseenK tk seen).map entK).toArray.filter fun e => decide (e.born < since)) = ((unseenK tk seen).map entK).toArray := by
    rw [List.filter_toArray]
    congr 1
    rw [List.filter_eq_self]
    intro e he
    obtain ⟨x, hx, rfl⟩ := List.mem_map.1 he
    have := hold x (List.mem_filter.1 hx).1
    exact decide_eq_true this
  have hnew : (((unseenK tk seen).map entK).toArray.filter fun e => decide (e.born ≥ since)) = #[] := by
    rw [List.filter_toArray]
    congr 1
    rw [List.filter_eq_nil_iff]
    intro e he
    obtain ⟨x, hx, rfl⟩ := List.mem_map.1 he
    have := hold x (List.mem_filter.1 hx).1
    simp [entK]; omega
  simp only [Instr.next, Sem.run_bind, hgi, Result.andThen_ok, MapKept.run_getObj_map hg, hcond, Bool.false_eq_true, if_false, hleft, hold', hnew, Sem.run_pure]
  cases hU : unseenK tk seen with
  | nil =>
    obtain ⟨i, w', hi', hr, hA'⟩ := choose_next (P := P) hA 1 (by omega)
    obtain rfl : i = 0 := by omega
    refine ⟨_, H, w', ?_, k0 hU, hA'⟩
    rw [show ((if (List.map entK ([] : List (Int × Value × Nat))).toArray.isEmpty = true then #[none] else #[]) ++ Array.map some ((List.map entK ([] : List (Int × Value × Nat))).toArray ++ #[])) = (#[none] : Array (Option MapEntry)) by simp, show (#[none] : Array (Option MapEntry)).size = 1 from rfl, hr]
    rfl
  | cons x l =>
    obtain ⟨i, w', hi', hr, hA'⟩ := choose_next (P := P) hA (x :: l).length (by simp)
    have e : ((if (List.map entK (x :: l)).toArray.isEmpty = true then #[none] else #[]) ++ Array.map some ((List.map entK (x :: l)).toArray ++ #[])) = ((x :: l).map fun y => some (entK y)).toArray := by simp
    rw [e, show ((x :: l).map fun y => some (entK y)).toArray.size = (x :: l).length by simp, hr]
    have hy : (x :: l)[i] ∈ unseenK tk seen := by rw [hU]; exact List.getElem_mem hi'
    refine ⟨_, _, _, ?_, k1 _ hy, hA'.setIter hi _⟩
    simp only [Result.andThen_ok, List.getElem?_toArray, List.getElem?_map, List.getElem?_eq_getElem hi', Option.map_some, Sem.run_bind]
    have hh' := iterO.heap hi hA'.fits
    rw [show (setObj it (Obj.mapIter (some mp) since (seen.push (entK (x :: l)[i]).born) cl)).run P w' = .ok () { w' with heap := w'.heap.setIfInBounds it (Obj.mapIter (some mp) since (seen.push (entK (x :: l)[i]).born) cl) } by simp [setObj, Sem.run, hh']]
    rfl

theorem find_bornK : ∀ (tk : List (Int × Value × Nat)) (x : Int × Value × Nat), x ∈ tk → (tk.map (·.2.2)).Nodup → (tk.map entK).find? (fun e => e.born == x.2.2) = some (entK x)
  | [], x, h, _ => by simp at h
  | y :: l, x, h, hn => by
    simp only [List.map_cons, List.nodup_cons] at hn
    simp only [List.map_cons, List.find?_cons]
    rcases List.mem_cons.1 h with rfl | h
    · simp [entK]
    · have : ¬ (y.2.2 = x.2.2) := fun e => hn.1 (by rw [e]; exact List.mem_map_of_mem h)
      rw [show ((entK y).born == x.2.2) = false by simpa [entK] using this]
      exact find_bornK l x h hn.2

theorem entry_K {P : Program} {H : Hp} {it mp since cl : Nat} {seen : Array Nat} {tk : List (Int × Value × Nat)} (hi : H it = some (iterO mp since seen cl)) (hm : H mp = some (kmap tk cl)) {x : Int × Value × Nat} (hx : x ∈ tk) (hb : seen.back? = some x.2.2) (hn : (tk.map (·.2.2)).Nodup) {K : Value → Hp → Prop}
    (k : K (.tuple #[.int .i64 x.1, x.2.1]) H) : SemK P (Instr.entry (.pointer (some ⟨it, 0, none⟩))) H K := fun H0 w0 w hA => by
  have hh := iterO.heap hi hA.fits
  have hg := kmap.heap hm hA.fits
  have hgi : (getObj it).run P w = .ok (.mapIter (some mp) since seen cl) w := by simp [getObj, Sem.run, hh]
  refine ⟨_, H, w, ?_, k, hA⟩
  simp only [Instr.entry, Sem.run_bind, hgi, Result.andThen_ok, hb, MapKept.run_getObj_map hg, bne_self_eq_false, Bool.false_eq_true, if_false, List.find?_toArray, find_bornK tk x hx hn]
  rfl

theorem unseenK_lt {tk : List (Int × Value × Nat)} {seen : Array Nat} {x : Int × Value × Nat} (hx : x ∈ unseenK tk seen) : (unseenK tk (seen.push x.2.2)).length < (unseenK tk seen).length := by
  have e : unseenK tk (seen.push x.2.2) = (unseenK tk seen).filter fun y => y.2.2 != x.2.2 := by
    unfold unseenK
    rw [List.filter_filter]
    congr 1
    funext y
    rw [Array.contains_push]
    cases seen.contains y.2.2 <;> simp [bne]
  rw [e]
  have : ∀ l : List (Int × Value × Nat), x ∈ l → (l.filter fun y => y.2.2 != x.2.2).length < l.length := by
    intro l hl
    induction l with
    | nil => simp at hl
    | cons y l ih =>
      rcases List.mem_cons.1 hl with rfl | hl
      · rw [List.filter_cons_of_neg (by simp)]
        have := List.length_filter_le (fun y : Int × Value × Nat => y.2.2 != x.2.2) l
        simp only [List.length_cons]; omega
      · have := ih hl
        have := List.length_filter_le (fun y : Int × Value × Nat => y.2.2 != x.2.2) l
        rw [List.filter_cons]
        split <;> simp only [List.length_cons] <;> omega
  exact this _ hx

end Go.Hw
