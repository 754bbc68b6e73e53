/- The frame of the proofs: maps from pointers to whole blocks, with int values. -/
import Derived.Test.YtbnhfcdagoigkaaHwN
import Derived.LaidEql
import Derived.MapKept
set_option maxRecDepth 100000
set_option linter.unusedSimpArgs false
set_option linter.unusedVariables false
set_option linter.unnecessarySimpa false
set_option linter.unusedSectionVars false
namespace Go.Hw
open Go

def ptrV (b : Nat) : Value := .pointer (some ⟨b, 0, none⟩)
def ent (x : Nat × Int × Nat) : MapEntry := { key := ptrV x.1, val := .int .i64 x.2.1, born := x.2.2 }
def mapO (l : List (Nat × Int × Nat)) (clock : Nat) : AO := .obj (.map (l.map ent).toArray clock)
def PlainB (H : Hp) (b : Nat) : Prop := ∃ c e, H b = some (.obj (.cells c e))

theorem PlainB.le {H H' : Hp} {b : Nat} (h : PlainB H b) (k : H.le H') : PlainB H' b := by
  obtain ⟨c, e, h⟩ := h; exact ⟨c, e, k _ _ h⟩

theorem PlainB.heap {H : Hp} {w : World} {b : Nat} (h : PlainB H b) (hw : Fits H w) : ∃ c e, w.heap[b]? = some (.cells c e (0, 0)) := by
  obtain ⟨c, e, h⟩ := h
  obtain ⟨o, ho, hh⟩ := hw _ _ h
  cases hh
  exact ⟨c, e, ho⟩

theorem mapO.heap {H : Hp} {w : World} {r clock : Nat} {l : List (Nat × Int × Nat)} (h : H r = some (mapO l clock)) (hw : Fits H w) : w.heap[r]? = some (.map (l.map ent).toArray clock) := by
  obtain ⟨o, ho, hh⟩ := hw _ _ h
  cases hh
  exact ho

section
variable {P : Program} {t te : TypeId} {j : TypeInfo} (ht : P.underlying t = some (.pointer te)) (hj : P.info? te = some j) (hs : j.size ≠ 0)
include ht hj hs

theorem equal_ptr_run {H : Hp} {w : World} (hw : Fits H w) {a b : Nat} (ha : PlainB H a) (hb : PlainB H b) : (Op.equal t (ptrV a) (ptrV b)).run P w = .ok (decide (a = b)) w := by
  obtain ⟨ca, ea, ha⟩ := ha.heap hw
  obtain ⟨cb, eb, hb⟩ := hb.heap hw
  unfold Op.equal Op.maxDepth Op.equalIn ptrV
  simp only [Sem.run_bind, underlying_run ht, Result.andThen_ok, sizeOf_run hj]
  rw [if_pos hs]
  by_cases e : a = b
  · subst e
    rw [run_sameAddr_same]; simp
  · rw [run_sameAddr_other w (a := ⟨a, 0, none⟩) (b := ⟨b, 0, none⟩) (by simpa using e) ha hb]; simp [e]

theorem equal_nil_run {w : World} {b : Nat} : (Op.equal t (.pointer none) (ptrV b)).run P w = .ok false w := by
  unfold Op.equal Op.maxDepth Op.equalIn ptrV
  simp [underlying_run ht]

def findR (a : Nat) : List (Nat × Int × Nat) → Nat → Option (Nat × Value)
  | [], _ => none
  | x :: l, i => if a = x.1 then some (i, .int .i64 x.2.1) else findR a l (i + 1)

theorem findAsk_run {H : Hp} {w : World} (hw : Fits H w) {a : Nat} (ha : PlainB H a) : ∀ (l : List (Nat × Int × Nat)) (i : Nat), (∀ x ∈ l, PlainB H x.1) → (Instr.findAsking t (ptrV a) (l.map ent) i).run P w = .ok (findR a l i) w
  | [], i, _ => by simp [Instr.findAsking, findR]
  | x :: l, i, h => by
    simp only [List.map_cons, Instr.findAsking, Sem.run_bind]
    rw [show (ent x).key = ptrV x.1 from rfl, equal_ptr_run ht hj hs hw ha (h x (by simp))]
    simp only [Result.andThen_ok, findR]
    by_cases e : a = x.1
    · simp [e, ent]
    · simp only [e, decide_false, Bool.false_eq_true, if_false]
      exact findAsk_run hw ha l (i + 1) (fun y hy => h y (by simp [hy]))

theorem findAsk_nil {w : World} : ∀ (l : List (Nat × Int × Nat)) (i : Nat), (Instr.findAsking t (.pointer none) (l.map ent) i).run P w = .ok none w
  | [], i => by simp [Instr.findAsking]
  | x :: l, i => by
    simp only [List.map_cons, Instr.findAsking, Sem.run_bind]
    rw [show (ent x).key = ptrV x.1 from rfl, equal_nil_run ht hj hs]
    simp only [Result.andThen_ok, Bool.false_eq_true, if_false]
    exact findAsk_nil l (i + 1)

theorem findKey_run {H : Hp} {w : World} (hw : Fits H w) {a : Nat} (ha : PlainB H a) (l : List (Nat × Int × Nat)) (h : ∀ x ∈ l, PlainB H x.1) : (Instr.findKey t (ptrV a) (l.map ent)).run P w = .ok (findR a l 0) w := by
  unfold Instr.findKey
  simp only [Sem.run_bind, underlying_run ht, Result.andThen_ok]
  cases l with
  | nil => simp [Instr.findNow, findR]
  | cons x l =>
    simp only [List.map_cons, Instr.findNow, Instr.sameNow]
    exact findAsk_run ht hj hs hw ha (x :: l) 0 h

theorem findKey_nil {w : World} (l : List (Nat × Int × Nat)) : (Instr.findKey t (.pointer none) (l.map ent)).run P w = .ok none w := by
  unfold Instr.findKey
  simp only [Sem.run_bind, underlying_run ht, Result.andThen_ok]
  cases l with
  | nil => simp [Instr.findNow]
  | cons x l =>
    simp only [List.map_cons, Instr.findNow, Instr.sameNow]
    exact findAsk_nil ht hj hs (x :: l) 0

theorem checkKey_run {w : World} (e : Bool) (p : Option Addr) : (Instr.checkKey e 10000 t (.pointer p)).run P w = .ok () w := by
  unfold Instr.checkKey
  simp [underlying_run ht]

variable {tm tv : TypeId} (hm : P.underlying tm = some (.map t tv))
include hm

theorem lookup_ptr {jv : TypeInfo} (hv : P.info? tv = some jv) (hz : jv.zero = some (.int .i64 0)) {H : Hp} {r clock a : Nat} {l : List (Nat × Int × Nat)} (hr : H r = some (mapO l clock)) (ha : PlainB H a) (hl : ∀ x ∈ l, PlainB H x.1) {K : Value → Prop}
    (k1 : ∀ i v, findR a l 0 = some (i, v) → K (.tuple #[v, .bool true])) (k2 : findR a l 0 = none → K (.tuple #[.int .i64 0, .bool false])) : SemV P (Instr.lookup tm (.map (some r)) (ptrV a) true) H K := by
  have hrun : ∀ w, Fits H w → (Instr.lookup tm (.map (some r)) (ptrV a) true).run P w = .ok (match findR a l 0 with | some (_, v) => .tuple #[v, .bool true] | none => .tuple #[.int .i64 0, .bool false]) w := fun w hw => by
    have hh := mapO.heap hr hw
    simp only [Instr.lookup, Sem.run_bind, underlying_run hm, Result.andThen_ok, MapKept.run_getObj_map hh, Sem.run_pure]
    rw [show ptrV a = .pointer (some ⟨a, 0, none⟩) from rfl, checkKey_run ht hj hs]
    simp only [Result.andThen_ok]
    rw [show (Value.pointer (some ⟨a, 0, none⟩)) = ptrV a from rfl, findKey_run ht hj hs hw ha l hl]
    simp only [Result.andThen_ok]
    cases findR a l 0 with
    | some x => simp
    | none => simp [zeroValue, typeInfo_run hv, hz]
  refine ⟨_, ?_, hrun⟩
  cases hf : findR a l 0 with
  | some x => exact k1 _ _ hf
  | none => exact k2 hf

theorem lookup_nilptr {jv : TypeInfo} (hv : P.info? tv = some jv) (hz : jv.zero = some (.int .i64 0)) {H : Hp} {r clock : Nat} {l : List (Nat × Int × Nat)} (hr : H r = some (mapO l clock)) {K : Value → Prop} (k2 : K (.tuple #[.int .i64 0, .bool false])) :
    SemV P (Instr.lookup tm (.map (some r)) (.pointer none) true) H K := by
  refine ⟨_, k2, fun w hw => ?_⟩
  have hh := mapO.heap hr hw
  simp only [Instr.lookup, Sem.run_bind, underlying_run hm, Result.andThen_ok, MapKept.run_getObj_map hh, Sem.run_pure]
  rw [checkKey_run ht hj hs]
  simp only [Result.andThen_ok]
  rw [findKey_nil ht hj hs]
  simp [zeroValue, typeInfo_run hv, hz]
end

theorem erase_map {α β : Type} (f : α → β) : ∀ (l : List α) (k : Nat), (l.map f).eraseIdx k = (l.eraseIdx k).map f
  | [], k => by simp
  | x :: l, 0 => by simp
  | x :: l, k + 1 => by simp [erase_map f l k]

theorem At.setMap {H0 H : Hp} {w0 w : World} {r clock : Nat} {l : List (Nat × Int × Nat)} (hA : At H0 w0 H w) (hr : H r = some (mapO l clock)) (o : Obj) : At H0 w0 (H.set r (.obj o)) { w with heap := w.heap.setIfInBounds r o } := by
  have hh := mapO.heap hr hA.fits
  have hlt : r < w.heap.size := (Array.getElem?_eq_some_iff.1 hh).1
  refine hA.turn hr (x' := o) ?_ rfl ?_ rfl rfl rfl (fun c hc => ?_)
  · show (w.heap.setIfInBounds r o)[r]? = some o
    simp [hlt]
  · show (w.heap.setIfInBounds r o).size = w.heap.size
    simp
  · show (w.heap.setIfInBounds r o)[c]? = w.heap[c]?
    rw [Array.getElem?_setIfInBounds_ne (Ne.symm hc)]

section
variable {P : Program} {t te : TypeId} {j : TypeInfo} (ht : P.underlying t = some (.pointer te)) (hj : P.info? te = some j) (hs : j.size ≠ 0)
variable {tm tv : TypeId} (hm : P.underlying tm = some (.map t tv))
include ht hj hs hm

theorem mapUpdate_new {H : Hp} {r clock a : Nat} {n : Int} {l : List (Nat × Int × Nat)} (hr : H r = some (mapO l clock)) (ha : PlainB H a) (hl : ∀ x ∈ l, PlainB H x.1) (hf : findR a l 0 = none) {K : Unit → Hp → Prop}
    (k : K () (H.set r (mapO (l ++ [(a, n, clock)]) (clock + 1)))) : SemK P (Instr.mapUpdate tm (.map (some r)) (ptrV a) (.int .i64 n)) H K := fun H0 w0 w hA => by
  have hh := mapO.heap hr hA.fits
  refine ⟨(), _, _, ?_, k, hA.setMap hr _⟩
  simp only [Instr.mapUpdate, Sem.run_bind, underlying_run hm, Result.andThen_ok, MapKept.run_getObj_map hh]
  rw [show ptrV a = .pointer (some ⟨a, 0, none⟩) from rfl, checkKey_run ht hj hs]
  simp only [Result.andThen_ok]
  rw [show (Value.pointer (some ⟨a, 0, none⟩)) = ptrV a from rfl, findKey_run ht hj hs hA.fits ha l hl, hf]
  simp only [Result.andThen_ok]
  rw [MapKept.run_setObj_map _ hh]
  simp [ent]

theorem findR_filter (a : Nat) : ∀ (l : List (Nat × Int × Nat)) (i k : Nat) (v : Value), (l.map (·.1)).Nodup → findR a l i = some (k, v) → i ≤ k ∧ l.eraseIdx (k - i) = l.filter (fun x => x.1 ≠ a) ∧ ∃ x ∈ l, x.1 = a ∧ v = .int .i64 x.2.1
  | [], i, k, v, _, h => by cases h
  | x :: l, i, k, v, hn, h => by
    unfold findR at h
    simp only [List.map_cons, List.nodup_cons] at hn
    by_cases e : a = x.1
    · rw [if_pos e] at h
      cases h
      refine ⟨Nat.le_refl _, ?_, x, by simp, e.symm, rfl⟩
      rw [Nat.sub_self, List.eraseIdx_cons_zero, List.filter_cons_of_neg (by simp [e])]
      symm
      rw [List.filter_eq_self]
      intro y hy
      have : y.1 ≠ a := fun e2 => hn.1 (by rw [← e, ← e2]; exact List.mem_map_of_mem hy)
      simpa using this
    · rw [if_neg e] at h
      obtain ⟨h1, h2, y, hy, h3, h4⟩ := findR_filter a l (i + 1) k v hn.2 h
      refine ⟨by omega, ?_, y, by simp [hy], h3, h4⟩
      rw [show k - i = (k - (i + 1)) + 1 by omega, List.eraseIdx_cons_succ, h2, List.filter_cons_of_pos (by simp; exact fun e2 => e e2.symm)]

theorem delete_ptr {ty : TypeId} {t2 : TypeId} {H : Hp} {r clock a k : Nat} {v : Value} {l : List (Nat × Int × Nat)} (hr : H r = some (mapO l clock)) (ha : PlainB H a) (hl : ∀ x ∈ l, PlainB H x.1) (hn : (l.map (·.1)).Nodup) (hf : findR a l 0 = some (k, v)) {K : Value → Hp → Prop}
    (kk : K (.tuple #[]) (H.set r (mapO (l.filter fun x => x.1 ≠ a) clock))) : SemK P (Builtin.delete_ #[tm, t2] ty #[.map (some r), ptrV a]) H K := fun H0 w0 w hA => by
  have hh := mapO.heap hr hA.fits
  obtain ⟨_, h2, _⟩ := findR_filter ht hj hs hm a l 0 k v hn hf
  rw [Nat.sub_zero] at h2
  refine ⟨_, _, _, ?_, kk, hA.setMap hr _⟩
  simp only [Builtin.delete_, Sem.run_bind, underlying_run hm, Result.andThen_ok, MapKept.run_getObj_map hh, List.getElem?_toArray, List.getElem?_cons_zero, List.getElem?_cons_succ]
  rw [show ptrV a = .pointer (some ⟨a, 0, none⟩) from rfl, checkKey_run ht hj hs]
  simp only [Result.andThen_ok]
  rw [show (Value.pointer (some ⟨a, 0, none⟩)) = ptrV a from rfl, findKey_run ht hj hs hA.fits ha l hl, hf]
  simp only [Result.andThen_ok]
  rw [Sem.run_bind, MapKept.run_setObj_map _ hh]
  rw [← h2, ← erase_map]
  simp

theorem clear_ptr {ty : TypeId} {H : Hp} {r clock : Nat} {l : List (Nat × Int × Nat)} (hr : H r = some (mapO l clock)) {K : Value → Hp → Prop} (kk : K (.tuple #[]) (H.set r (mapO [] clock))) : SemK P (Builtin.clear_ #[tm] ty #[.map (some r)]) H K := fun H0 w0 w hA => by
  have hh := mapO.heap hr hA.fits
  refine ⟨_, _, _, ?_, kk, hA.setMap hr _⟩
  simp only [Builtin.clear_, Sem.run_bind, underlying_run hm, Result.andThen_ok, List.getElem?_toArray, List.getElem?_cons_zero, MapKept.run_getObj_map hh]
  try rw [Sem.run_bind]
  rw [MapKept.run_setObj_map _ hh]
  simp
end

end Go.Hw
