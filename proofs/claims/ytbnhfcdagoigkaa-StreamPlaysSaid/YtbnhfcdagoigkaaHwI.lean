/- The frame of the proofs: a map's entries, one after the other. -/
import Derived.Test.YtbnhfcdagoigkaaHwM
set_option maxRecDepth 100000
set_option linter.unusedSimpArgs false
set_option linter.unusedVariables false
set_option linter.unnecessarySimpa false
set_option linter.unusedSectionVars false
namespace Go.Hw
open Go

def iterO (mp since : Nat) (seen : Array Nat) (last : Nat) : AO := .obj (.mapIter (some mp) since seen last)

theorem iterO.heap {H : Hp} {w : World} {it mp since last : Nat} {seen : Array Nat} (h : H it = some (iterO mp since seen last)) (hw : Fits H w) : w.heap[it]? = some (.mapIter (some mp) since seen last) := by
  obtain ⟨o, ho, hh⟩ := hw _ _ h
  cases hh
  exact ho

theorem range_map {P : Program} {t k e : TypeId} (ht : P.underlying t = some (.map k e)) {H : Hp} {mp cl : Nat} {tk : List (Nat × Int × Nat)} (hm : H mp = some (mapO tk cl)) {K : Value → Hp → Prop}
    (kk : ∀ it, H it = none → K (.pointer (some ⟨it, 0, none⟩)) (H.set it (iterO mp cl #[] cl))) : SemK P (Instr.range t (.map (some mp))) H K := fun H0 w0 w hA => by
  have hh := mapO.heap hm hA.fits
  obtain ⟨hn, hA'⟩ := hA.new (o := iterO mp cl #[] cl) (x := .mapIter (some mp) cl #[] cl) rfl
  refine ⟨_, _, _, ?_, kk _ hn, hA'⟩
  simp only [Instr.range, Sem.run_bind, underlying_run ht, Result.andThen_ok, MapKept.run_getObj_map hh, Sem.run_pure]
  simp

theorem At.setIter {H0 H : Hp} {w0 w : World} {it mp since last : Nat} {seen : Array Nat} (hA : At H0 w0 H w) (hr : H it = some (iterO mp since seen last)) (o : Obj) : At H0 w0 (H.set it (.obj o)) { w with heap := w.heap.setIfInBounds it o } := by
  have hh := iterO.heap hr hA.fits
  have hlt : it < w.heap.size := (Array.getElem?_eq_some_iff.1 hh).1
  refine hA.turn hr (x' := o) ?_ rfl ?_ rfl rfl rfl (fun c hc => ?_)
  · show (w.heap.setIfInBounds it o)[it]? = some o
    simp [hlt]
  · show (w.heap.setIfInBounds it o).size = w.heap.size
    simp
  · show (w.heap.setIfInBounds it o)[c]? = w.heap[c]?
    rw [Array.getElem?_setIfInBounds_ne (Ne.symm hc)]

theorem choose_next {P : Program} {H0 H : Hp} {w0 w : World} (hA : At H0 w0 H w) (n : Nat) (hn : 0 < n) : ∃ i w', i < n ∧ (choose (.mapNext n)).run P w = .ok i w' ∧ At H0 w0 H w' := by
  by_cases h : n ≤ 1
  · exact ⟨0, w, hn, by simp [Question.forced, h], hA⟩
  · exact ⟨_, _, Nat.mod_lt _ hn, by simp [Question.forced, h, Question.cut]; rfl, hA.drew⟩

def unseen (tk : List (Nat × Int × Nat)) (seen : Array Nat) : List (Nat × Int × Nat) := tk.filter fun x => !seen.contains x.2.2

theorem next_map {P : Program} {ty : TypeId} {H : Hp} {it mp since last cl : Nat} {seen : Array Nat} {tk : List (Nat × Int × Nat)} (hi : H it = some (iterO mp since seen last)) (hm : H mp = some (mapO tk cl)) (hold : ∀ x ∈ tk, x.2.2 < since) (hlast : ∀ x ∈ tk, x.2.2 < last) {K : Value → Hp → Prop}
    (k1 : ∀ x ∈ unseen tk seen, K (.tuple #[.bool true, ptrV x.1, .int .i64 x.2.1]) (H.set it (iterO mp since (seen.push x.2.2) cl))) (k0 : unseen tk seen = [] → K (.tuple #[.bool false]) H) :
    SemK P (Instr.next (.pointer (some ⟨it, 0, none⟩)) false ty) H K := fun H0 w0 w hA => by
  have hh := iterO.heap hi hA.fits
  have hg := mapO.heap hm hA.fits
  have hgi : (getObj it).run P w = .ok (.mapIter (some mp) since seen last) w := by simp [getObj, Sem.run, hh]
  have hleft : ((tk.map ent).toArray.filter fun e => !seen.contains e.born) = ((unseen tk seen).map ent).toArray := by
    unfold unseen
    rw [List.filter_toArray, List.filter_map]
    rfl
  have hcond : (!seen.isEmpty && !(tk.map ent).toArray.isEmpty && (tk.map ent).toArray.all (fun e => decide (e.born ≥ last))) = false := by
    cases tk with
    | nil => simp
    | cons x l =>
      have := hlast x (by simp)
      have h2 : ¬ last ≤ x.2.2 := by omega
      simp [ent, h2]
  have hold' : (((unseen tk seen).map ent).toArray.filter fun e => decide (e.born < since)) = ((unseen tk seen).map ent).toArray := by
    rw [List.filter_toArray]
    congr 1
    rw [List.filter_eq_self]
    intro e he
    obtain ⟨x, hx, rfl⟩ := List.mem_map.1 he
    have := hold x (List.mem_filter.1 hx).1
    exact decide_eq_true this
  have hnew : (((unseen tk seen).map ent).toArray.filter fun e => decide (e.born ≥ since)) = #[] := by
    rw [List.filter_toArray]
    congr 1
    rw [List.filter_eq_nil_iff]
    intro e he
    obtain ⟨x, hx, rfl⟩ := List.mem_map.1 he
    have := hold x (List.mem_filter.1 hx).1
    simp [ent]; omega
  simp only [Instr.next, Sem.run_bind, hgi, Result.andThen_ok, MapKept.run_getObj_map hg, hcond, Bool.false_eq_true, if_false, hleft, hold', hnew, Sem.run_pure]
  cases hU : unseen tk seen with
  | nil =>
    obtain ⟨i, w', hi', hr, hA'⟩ := choose_next (P := P) hA 1 (by omega)
    obtain rfl : i = 0 := by omega
    refine ⟨_, H, w', ?_, k0 hU, hA'⟩
    rw [show ((if (List.map ent ([] : List (Nat × Int × Nat))).toArray.isEmpty = true then #[none] else #[]) ++ Array.map some ((List.map ent ([] : List (Nat × Int × Nat))).toArray ++ #[])) = (#[none] : Array (Option MapEntry)) by simp, show (#[none] : Array (Option MapEntry)).size = 1 from rfl, hr]
    rfl
  | cons x l =>
    obtain ⟨i, w', hi', hr, hA'⟩ := choose_next (P := P) hA (x :: l).length (by simp)
    have e : ((if (List.map ent (x :: l)).toArray.isEmpty = true then #[none] else #[]) ++ Array.map some ((List.map ent (x :: l)).toArray ++ #[])) = ((x :: l).map fun y => some (ent y)).toArray := by simp
    rw [e, show ((x :: l).map fun y => some (ent y)).toArray.size = (x :: l).length by simp, hr]
    have hy : (x :: l)[i] ∈ unseen tk seen := by rw [hU]; exact List.getElem_mem hi'
    refine ⟨_, _, _, ?_, k1 _ hy, hA'.setIter hi _⟩
    simp only [Result.andThen_ok, List.getElem?_toArray, List.getElem?_map, List.getElem?_eq_getElem hi', Option.map_some, Sem.run_bind]
    have hh' := iterO.heap hi hA'.fits
    rw [show (setObj it (Obj.mapIter (some mp) since (seen.push (ent (x :: l)[i]).born) cl)).run P w' = .ok () { w' with heap := w'.heap.setIfInBounds it (Obj.mapIter (some mp) since (seen.push (ent (x :: l)[i]).born) cl) } by simp [setObj, Sem.run, hh']]
    rfl

theorem find_born : ∀ (tk : List (Nat × Int × Nat)) (x : Nat × Int × Nat), x ∈ tk → (tk.map (·.2.2)).Nodup → (tk.map ent).find? (fun e => e.born == x.2.2) = some (ent x)
  | [], x, h, _ => by simp at h
  | y :: l, x, h, hn => by
    simp only [List.map_cons, List.nodup_cons] at hn
    simp only [List.map_cons, List.find?_cons]
    rcases List.mem_cons.1 h with rfl | h
    · simp [ent]
    · have : ¬ (y.2.2 = x.2.2) := fun e => hn.1 (by rw [e]; exact List.mem_map_of_mem h)
      rw [show ((ent y).born == x.2.2) = false by simpa [ent] using this]
      exact find_born l x h hn.2

theorem entry_map {P : Program} {H : Hp} {it mp since cl : Nat} {seen : Array Nat} {tk : List (Nat × Int × Nat)} (hi : H it = some (iterO mp since seen cl)) (hm : H mp = some (mapO tk cl)) {x : Nat × Int × Nat} (hx : x ∈ tk) (hb : seen.back? = some x.2.2) (hn : (tk.map (·.2.2)).Nodup) {K : Value → Hp → Prop}
    (k : K (.tuple #[ptrV x.1, .int .i64 x.2.1]) H) : SemK P (Instr.entry (.pointer (some ⟨it, 0, none⟩))) H K := fun H0 w0 w hA => by
  have hh := iterO.heap hi hA.fits
  have hg := mapO.heap hm hA.fits
  have hgi : (getObj it).run P w = .ok (.mapIter (some mp) since seen cl) w := by simp [getObj, Sem.run, hh]
  refine ⟨_, H, w, ?_, k, hA⟩
  simp only [Instr.entry, Sem.run_bind, hgi, Result.andThen_ok, hb, MapKept.run_getObj_map hg, bne_self_eq_false, Bool.false_eq_true, if_false, List.find?_toArray, find_born tk x hx hn]
  rfl

end Go.Hw
