/- The frame of the proofs, fourth part: operations, regions and code over a view; a function's contract out of its code's reading. -/
import Derived.Test.YtbnhfcdagoigkaaHwC
set_option maxRecDepth 100000
set_option linter.unusedSimpArgs false
set_option linter.unusedVariables false
set_option linter.unnecessarySimpa false
set_option linter.unusedSectionVars false
namespace Go.Hw
open Go

abbrev Mid := Env → List Deferred → Hp → Prop
abbrev Post := Exit → Env → List Deferred → Hp → Prop

def callable (P : Program) (g : FuncId) : Bool :=
  match P.funcs[g]? with
  | some fn => fn.body.isSome && !(fn.name == "runtime.NumGoroutine")
  | none => false

def resTypes (P : Program) (g : FuncId) : List TypeId := match P.funcs[g]? with | some fn => fn.resultTypes.toList | none => []

def isStrT (P : Program) (t : TypeId) : Bool := match P.underlying t with | some .string => true | _ => false
def isSlT (P : Program) (t : TypeId) : Bool := match P.underlying t with | some (.slice _) => true | _ => false

/-- The cells of a slice literal. -/
def litCells (P : Program) (e : TypeId) (len : Nat) (parts : List (Nat × Value)) : Option (List Value) :=
  match P.info? e with
  | some i => match i.zero with
    | some z => match Nat.beq z.cells.size i.size, Nat.ble (len * i.size) 16777216 with
      | true, true => (Instr.fill (fun j => some (j * i.size, i.size)) (zeroRow z.cells.toList len).toArray parts).map (·.toList)
      | _, _ => none
    | none => none
  | none => none

def known (E : Env) (o : Oper) : Bool := o.op.operands.toList.all fun x => (E.ev x).isSome

/-- A run of which a proof tells what it comes to. -/
def SemK {α : Type} (P : Program) (s : Sem α) (H : Hp) (K : α → Hp → Prop) : Prop := ∀ H0 w0 w, At H0 w0 H w → ∃ a H' w', s.run P w = .ok a w' ∧ K a H' ∧ At H0 w0 H' w'

/-- A whole array is stored. -/
def StA (H : Hp) (a : Addr) (cs : Array Value) (n : Nat) (K : Hp → Prop) : Prop := cs.size = n ∧ match H.puts? a 0 cs.toList with | some H' => K H' | none => False

def isArr (P : Program) (t : TypeId) : Bool := match P.underlying t with | some (.array ..) => true | some (.struct _) => true | _ => false

/-- An operation that may turn memory. -/
def opE (P : Program) (n : Nat) (o : Oper) (E : Env) (D : List Deferred) (H : Hp) (K : Mid) : Prop :=
  match known E o with
  | false => False
  | true =>
  let put (v : Value) (H' : Hp) : Prop := Put n o.dst v E fun E' => K E' D H'
  match isV o with
  | true => opV P o E.at H fun v => put v H
  | false =>
  match o.op with
  | .convert s d x => match isStrT P s && isSlT P d, P.underlying d, E.at x with
    | true, some (.slice e), .string b => match P.underlying e with
      | some (.int .u8) => StB e b H fun v H' => DSl v fun a l c => put (.slice a l c) H'
      | _ => False
    | true, _, _ => False
    | false, _, _ => match isSlT P s && isSlT P d with
      | true => SemK P (convert s d (E.at x)) H fun v H' => DSl v fun a l c => put (.slice a l c) H'
      | false => opV P o E.at H fun v => put v H
  | .makeSlice t l c => match P.underlying t, E.at l, E.at c with
    | some (.slice e), .int _ l, .int _ c => MkS P e l c H fun v H' => DSl v fun a l c => put (.slice a l c) H'
    | _, _, _ => False
  | .buildSlice t len parts => match P.underlying t with
    | some (.slice e) => XpParts P (fun _ => e) (parts.toList.map fun (i, x) => (i, E.at x)) fun ps => match litCells P e len ps with
      | some xs => match P.info? e with
        | some i => Nw H (.row xs e (len * i.size)) fun b H' => put (.slice (some ⟨b, 0, none⟩) len len) H'
        | none => False
      | none => False
    | _ => False
  | .call c => match c.callee with
    | .value f => match E.at f with
      | .func (.func g) first cap => BIf (callable P g) (HCalls P g ((first ++ c.args.map E.at) ++ cap) H fun v H' => DR P (resTypes P g) v fun v => DT P o.type v fun v => put v H') False
      | _ => False
    | .builtin .append => match c.argTypes.toList, c.args.toList with
      | [t, t'], [s, x] => match P.underlying t with
        | some (.slice e) => BIf (isSlT P t' || isStrT P t') (AppK P e (E.at s) (E.at x) H fun v H' => DSl v fun a l c => put (.slice a l c) H') False
        | _ => False
      | _, _ => False
    | .builtin .copy => match c.argTypes.toList, c.args.toList with
      | [t, _], [d, x] => match P.underlying t with
        | some (.slice e) => CpK P e (E.at d) (E.at x) H fun v H' => DI .i64 v fun x => put (.int .i64 x) H'
        | _ => False
      | _, _ => False
    | .builtin .clear => SemK P (Builtin.clear_ c.argTypes o.type (c.args.map E.at)) H put
    | .builtin .delete => SemK P (Builtin.delete_ c.argTypes o.type (c.args.map E.at)) H put
    | .builtin _ => ef P (execOp E.at o) H fun nx H' => valueOf (fun v => put v H') nx
    | .invoke .. => False
  | .defer c => match c.callee with
    | .value f => match E.at f with
      | .func (.func g) first cap => Put n o.dst undef E fun E' => K E' ({ target := .fn (.func g) cap, args := first ++ c.args.map E.at } :: D) H
      | _ => False
    | _ => False
  | .select .. => False
  | .mapUpdate t m k x => SemK P (Instr.mapUpdate t (E.at m) (E.at k) (E.at x)) H fun _ H' => put undef H'
  | .insert t m k x => SemK P (Instr.mapUpdate t (E.at m) (E.at k) (E.at x)) H fun _ H' => put undef H'
  | .range t x => SemK P (Instr.range t (E.at x)) H put
  | .next it b => SemK P (Instr.next (E.at it) b o.type) H put
  | .entry it => SemK P (Instr.entry (E.at it)) H put
  | .store t x y => match E.at x with
    | .pointer p => NN p fun ad => match isArr P t with
      | true => match E.at y, P.info? t with
        | .agg cs, some i => StA H ad cs i.size fun H' => put undef H'
        | _, _ => False
      | false => ef P (storeVar t ad (E.at y)) H fun _ H' => put undef H'
    | _ => False
  | _ => ef P (execOp E.at o) H fun nx H' => match nx with | .value v => put v H' | .skip => put undef H' | _ => False

def Holds (H0 : Hp) (w0 : World) (n : Nat) (K : Mid) (a : Act) (w : World) : Prop := ∃ E D H, K E D H ∧ Agrees E n a ∧ a.defers = D ∧ At H0 w0 H w

theorem Put.holds {H0 : Hp} {w0 : World} {n : Nat} {dst : Option Tmp} {v : Value} {E : Env} {K : Mid} {D : List Deferred} {H : Hp} {a : Act} {w : World} (h : Put n dst v E fun E' => K E' D H) (ha : Agrees E n a) (hd : a.defers = D) (hA : At H0 w0 H w) :
    Holds H0 w0 n K (a.put dst v) w := by
  obtain ⟨E', hk, ha'⟩ := h.sound ha
  refine ⟨E', D, H, hk, ha', ?_, hA⟩
  cases dst <;> exact hd

theorem known_at {E : Env} {n : Nat} {a : Act} {o : Oper} (h : known E o = true) (ha : Agrees E n a) (hs : ∀ cs b, o.op ≠ .select cs b) : execOp a.eval o = execOp E.at o := by
  refine execOp_congr o hs fun x hx => ?_
  have := List.all_eq_true.1 h x (by simpa using hx)
  obtain ⟨v, hv⟩ := Option.isSome_iff_exists.1 this
  rw [ha.ev hv]
  unfold Env.at; rw [hv]

theorem callFunc_run {P : Program} {g : FuncId} (h : callable P g = true) (args : Array Value) (w : World) : (callFunc g args).run P w = .ok (.enter g args) w := by
  unfold callable at h
  split at h
  · rename_i fn hf
    rw [Bool.and_eq_true] at h
    obtain ⟨h1, h2⟩ := h
    have h3 : (fn.name == "runtime.NumGoroutine") = false := by simpa using h2
    have h4 : fn.body.isNone = false := by cases hb : fn.body <;> simp_all
    simp only [callFunc, Sem.run_bind, run_program, Result.andThen_ok, hf, h3, h4, Bool.false_eq_true, if_false]
    rfl
  · cases h

theorem isSlT_out {P : Program} {t : TypeId} (h : isSlT P t = true) : ∃ e, P.underlying t = some (.slice e) := by
  unfold isSlT at h; split at h
  · exact ⟨_, ‹_›⟩
  · cases h
theorem isStrT_out {P : Program} {t : TypeId} (h : isStrT P t = true) : P.underlying t = some .string := by
  unfold isStrT at h; split at h
  · assumption
  · cases h

theorem fill_size (place : Nat → Option (Nat × Nat)) : ∀ (parts : List (Nat × Value)) (cells out : Array Value), Instr.fill place cells parts = some out → out.size = cells.size
  | [], cells, out, h => by simp [Instr.fill] at h; rw [h]
  | (j, v) :: rest, cells, out, h => by
    unfold Instr.fill at h
    split at h
    · cases h
    · split at h
      · cases h
      · rw [fill_size place rest _ out h]
        have : ∀ (l : List (Value × Nat)) (cs : Array Value) (off : Nat), (l.foldl (fun cs (x : Value × Nat) => cs.setIfInBounds (off + x.2) x.1) cs).size = cs.size := by
          intro l; induction l with
          | nil => intro cs off; rfl
          | cons y l ih => intro cs off; rw [List.foldl_cons, ih]; simp
        rw [← Array.foldl_toList]
        exact this _ _ _

theorem lit_run {P : Program} {t e : TypeId} {len : Nat} {parts : Array (Nat × Value)} {xs : List Value} {i : TypeInfo} (hu : P.underlying t = some (.slice e)) (hi : P.info? e = some i) (h : litCells P e len parts.toList = some xs) (w : World) :
    (Instr.buildSlice t len parts).run P w = .ok (.slice (some ⟨w.heap.size, 0, none⟩) len len) (w.alloc (.cells xs.toArray e)) ∧ xs.length = len * i.size := by
  unfold litCells at h
  rw [hi] at h
  simp only at h
  cases hz : i.zero with
  | none => rw [hz] at h; cases h
  | some z =>
  rw [hz] at h
  simp only at h
  cases hb : Nat.beq z.cells.size i.size with
  | false => rw [hb] at h; simp at h
  | true =>
  cases hb2 : Nat.ble (len * i.size) 16777216 with
  | false => rw [hb, hb2] at h; simp at h
  | true =>
  rw [hb, hb2] at h
  simp only at h
  obtain ⟨out, ho, rfl⟩ := Option.map_eq_some_iff.1 h
  have hzs : z.cells.size = i.size := Nat.eq_of_beq_eq_true hb
  have hle : len * i.size ≤ 16777216 := Nat.le_of_ble_eq_true hb2
  have hsz := fill_size _ _ _ _ ho
  refine ⟨?_, by rw [Array.length_toList, hsz, List.size_toArray, zeroRow_length, Array.length_toList, hzs]⟩
  simp only [Instr.buildSlice, Sem.run_bind, underlying_run hu, Result.andThen_ok, sizeOf_run hi]
  rw [if_neg (by omega)]
  by_cases h0 : len * i.size = 0
  · have hzr : (zeroRow z.cells.toList len) = [] := List.eq_nil_of_length_eq_zero (by rw [zeroRow_length, Array.length_toList, hzs, h0])
    rw [hzr] at ho
    simp only [Sem.run_bind, h0, if_true, Sem.run_pure, Result.andThen_ok]
    rw [show (Array.map (fun x => (#[] : Array Value)[x % (#[] : Array Value).size]!) (Array.range 0)) = ([] : List Value).toArray from by simp, ho]
    simp only [Sem.run_bind, size_newRow, Result.andThen_ok, Sem.run_pure]
  · simp only [Sem.run_bind, h0, if_false, zeroValue, typeInfo_run hi, hz, Sem.run_pure, Result.andThen_ok, range_cells _ _ _ hzs, ho, size_newRow]

section
variable {P : Program} {ρ : Operand → Value} {o : Oper} {w : World}

theorem run_call_func {c : Call} {f : Operand} {g : FuncId} {first cap : Array Value} (ho : o.op = .call c) (hc : c.callee = .value f) (hf : ρ f = .func (.func g) first cap) (hg : callable P g = true) :
    (execOp ρ o).run P w = .ok (.enter g ((first ++ c.args.map ρ) ++ cap)) w := by
  simp only [execOp, ho, resolve, hc, hf, Deferred.ofValue, pure_bind, invoke]
  exact callFunc_run hg _ w

theorem run_call_builtin {c : Call} {b : Builtin} (ho : o.op = .call c) (hc : c.callee = .builtin b) :
    (execOp ρ o).run P w = (builtin b c.argTypes o.type (c.args.map fun | .const _ => true | _ => false) (c.args.map ρ)).run P w := by
  simp only [execOp, ho, resolve, hc, pure_bind, invoke]
  rfl

theorem run_defer {c : Call} {f : Operand} {g : FuncId} {first cap : Array Value} (ho : o.op = .defer c) (hc : c.callee = .value f) (hf : ρ f = .func (.func g) first cap) :
    (execOp ρ o).run P w = .ok (.defer { target := .fn (.func g) cap, args := first ++ c.args.map ρ }) w := by
  simp only [execOp, ho, resolve, hc, hf, Deferred.ofValue, pure_bind]; rfl
end

/-- What an operation comes to. -/
theorem opE_sound {P : Program} {n : Nat} {o : Oper} {E : Env} {D : List Deferred} {H0 H : Hp} {w0 w : World} {K : Mid} {a : Act} {next : Act → World → Prop} {Q : Exit → Act → World → Prop}
    (h : opE P n o E D H K) (ha : Agrees E n a) (hd : a.defers = D) (hA : At H0 w0 H w) (hn : ∀ a w, Holds H0 w0 n K a w → next a w) : o.wp P a w next Q := by
  unfold opE at h
  cases hk : known E o with
  | false => rw [hk] at h; exact h.elim
  | true =>
  rw [hk] at h
  simp only at h
  by_cases hs : ∃ cs b, o.op = .select cs b
  · obtain ⟨cs, b, hs⟩ := hs
    have hV : isV o = false := by unfold isV; rw [hs]
    rw [hV] at h
    simp only [hs] at h
  have hs' : ∀ cs b, o.op ≠ .select cs b := fun cs b e => hs ⟨cs, b, e⟩
  have hval : ∀ {v : Value} {w' : World} {H' : Hp}, (execOp E.at o).run P w = .ok (.value v) w' → (Put n o.dst v E fun E' => K E' D H') → At H0 w0 H' w' → o.wp P a w next Q := by
    intro v w' H' hr hp hA'
    unfold Oper.wp
    rw [known_at hk ha hs', hr]
    exact hn _ _ (hp.holds ha hd hA')
  have hef : ef P (execOp E.at o) H (fun nx H' => match nx with | .value v => Put n o.dst v E fun E' => K E' D H' | .skip => Put n o.dst undef E fun E' => K E' D H' | _ => False) → o.wp P a w next Q := by
    intro h
    obtain ⟨nx, H', w', hr, hp, hA'⟩ := ef_sound _ h hA
    unfold Oper.wp
    rw [known_at hk ha hs', hr]
    cases nx <;> first | exact hp.elim | exact hn _ _ (Put.holds hp ha hd hA')
  have hef2 : ef P (execOp E.at o) H (fun nx H' => valueOf (fun v => Put n o.dst v E fun E' => K E' D H') nx) → o.wp P a w next Q := by
    intro h
    obtain ⟨nx, H', w', hr, hp, hA'⟩ := ef_sound _ h hA
    cases nx <;> first | exact hp.elim | exact hval hr hp hA'
  have hopV : opV P o E.at H (fun v => Put n o.dst v E fun E' => K E' D H) → o.wp P a w next Q := by
    intro h
    obtain ⟨v, hp, hr⟩ := opV_sound h
    exact hval (hr w hA.fits) hp hA
  cases hV : isV o with
  | true => rw [hV] at h; exact hopV h
  | false =>
  rw [hV] at h
  simp only at h
  split at h
  · rename_i s d x hop
    split at h
    · rename_i e b h1 h2 h3
      rw [Bool.and_eq_true] at h1
      split at h
      · rename_i h4
        obtain ⟨v, H', w', hr, hp, hA'⟩ := StB_sound (P := P) h hA
        have hp' : Put n o.dst v E fun E' => K E' D H' := Dt.out (l := .sl) (K := fun v => Put n o.dst v E fun E' => K E' D H') hp
        refine hval ?_ hp' hA'
        simp only [execOp, hop, h3, convert, Sem.run_bind, underlying_run (isStrT_out h1.1), underlying_run h2, Result.andThen_ok, underlying_run h4, hr]
        rfl
      · exact h.elim
    · exact h.elim
    · split at h
      · obtain ⟨v, H', w', hr, hp, hA'⟩ := h H0 w0 w hA
        have hp' : Put n o.dst v E fun E' => K E' D H' := Dt.out (l := .sl) (K := fun v => Put n o.dst v E fun E' => K E' D H') hp
        refine hval ?_ hp' hA'
        simp only [execOp, hop, Sem.run_bind, hr]; rfl
      · exact hopV h
  · rename_i t l c hop
    split at h
    · rename_i e k l' k' c' hu hl hc
      obtain ⟨v, H', w', hr, hp, hA'⟩ := MkS_sound (k := k) (k' := k') hu h hA
      have hp' : Put n o.dst v E fun E' => K E' D H' := Dt.out (l := .sl) (K := fun v => Put n o.dst v E fun E' => K E' D H') hp
      refine hval ?_ hp' hA'
      simp only [execOp, hop, hl, hc, Sem.run_bind, hr]; rfl
    · exact h.elim
  · rename_i t len parts hop
    split at h
    · rename_i e hu
      replace h := h.out
      split at h
      · rename_i xs hx
        split at h
        · rename_i i hi
          have hx' : litCells P e len (parts.map fun (j, x) => (j, E.at x)).toList = some xs := by rw [← hx]; simp
          obtain ⟨hr, hxl⟩ := lit_run (w := w) hu hi hx'
          have hrow : (AO.row xs e (len * i.size)).holds (.cells xs.toArray e) := ⟨[], 0, 0, by simp, by simpa using hxl, .inl rfl⟩
          obtain ⟨hn', hA'⟩ := hA.new hrow
          refine hval ?_ (h _ hn') hA'
          simp only [execOp, hop, Sem.run_bind, hr]; rfl
        · exact h.elim
      · exact h.elim
    · exact h.elim
  · rename_i c hop
    split at h
    · rename_i f hc
      split at h
      · rename_i g first cap hf
        rcases BIf.out h with ⟨hg, h⟩ | ⟨_, h⟩
        · unfold Oper.wp
          rw [known_at hk ha hs', run_call_func hop hc hf hg]
          refine (h w hA.fits).mono fun e w' hh => ?_
          obtain ⟨v, H', rfl, hr, hA'⟩ := hh
          exact hn _ _ (Put.holds (DT.out hr.out) ha hd (hA.trans hA'))
        · exact h.elim
      · exact h.elim
    · rename_i hc
      split at h
      · rename_i t t' s x h1 h2
        split at h
        · rename_i e hu
          rcases BIf.out h with ⟨hb, h⟩ | ⟨_, h⟩
          · have hu' : (∃ e', P.underlying t' = some (.slice e')) ∨ P.underlying t' = some .string := by
              rw [Bool.or_eq_true] at hb
              exact hb.imp isSlT_out isStrT_out
            obtain ⟨v, H', w', hr, hp, hA'⟩ := AppK_sound (ty := o.type) hu hu' h hA
            have hp' : Put n o.dst v E fun E' => K E' D H' := Dt.out (l := .sl) (K := fun v => Put n o.dst v E fun E' => K E' D H') hp
            refine hval ?_ hp' hA'
            rw [run_call_builtin hop hc]
            have e1 : c.argTypes = #[t, t'] := by rw [← Array.toArray_toList (xs := c.argTypes), h1]
            have e2 : c.args = #[s, x] := by rw [← Array.toArray_toList (xs := c.args), h2]
            simp only [builtin, e1, e2, Sem.run_bind, List.map_toArray, List.map_cons, List.map_nil, hr]; rfl
          · exact h.elim
        · exact h.elim
      · exact h.elim
    · rename_i hc
      split at h
      · rename_i t t' s x h1 h2
        split at h
        · rename_i e hu
          obtain ⟨v, H', w', hr, hp, hA'⟩ := CpK_sound (t' := t') (ty := o.type) hu h hA
          have hp' : Put n o.dst v E fun E' => K E' D H' := Dt.out (l := .int .i64) (K := fun v => Put n o.dst v E fun E' => K E' D H') hp
          refine hval ?_ hp' hA'
          rw [run_call_builtin hop hc]
          have e1 : c.argTypes = #[t, t'] := by rw [← Array.toArray_toList (xs := c.argTypes), h1]
          have e2 : c.args = #[s, x] := by rw [← Array.toArray_toList (xs := c.args), h2]
          simp only [builtin, e1, e2, Sem.run_bind, List.map_toArray, List.map_cons, List.map_nil, hr]; rfl
        · exact h.elim
      · exact h.elim
    · rename_i hc
      obtain ⟨v, H', w', hr, hp, hA'⟩ := h H0 w0 w hA
      refine hval ?_ hp hA'
      rw [run_call_builtin hop hc]
      simp only [builtin, Sem.run_bind, hr]; rfl
    · rename_i hc
      obtain ⟨v, H', w', hr, hp, hA'⟩ := h H0 w0 w hA
      refine hval ?_ hp hA'
      rw [run_call_builtin hop hc]
      simp only [builtin, Sem.run_bind, hr]; rfl
    · exact hef2 h
    · exact h.elim
  · rename_i c hop
    split at h
    · rename_i f hc
      split at h
      · rename_i g first cap hf
        obtain ⟨E', hK, ha'⟩ := h.sound ha
        unfold Oper.wp
        rw [known_at hk ha hs', run_defer hop hc hf]
        refine hn _ _ ⟨E', _, H, hK, ?_, ?_, hA⟩
        · cases hdst : o.dst <;> (rw [hdst] at ha'; exact ha')
        · rw [← hd]; cases o.dst <;> rfl
      · exact h.elim
    · exact h.elim
  · exact h.elim
  · rename_i t m k x hop
    obtain ⟨v, H', w', hr, hp, hA'⟩ := h H0 w0 w hA
    unfold Oper.wp
    rw [known_at hk ha hs', show (execOp E.at o).run P w = .ok .skip w' from by simp only [execOp, hop, Sem.run_bind, hr]; rfl]
    exact hn _ _ (hp.holds ha hd hA')
  · rename_i t m k x hop
    obtain ⟨v, H', w', hr, hp, hA'⟩ := h H0 w0 w hA
    unfold Oper.wp
    rw [known_at hk ha hs', show (execOp E.at o).run P w = .ok .skip w' from by simp only [execOp, hop, Sem.run_bind, hr]; rfl]
    exact hn _ _ (hp.holds ha hd hA')
  · rename_i t x hop
    obtain ⟨v, H', w', hr, hp, hA'⟩ := h H0 w0 w hA
    refine hval ?_ hp hA'
    simp only [execOp, hop, Sem.run_bind, hr]; rfl
  · rename_i it b hop
    obtain ⟨v, H', w', hr, hp, hA'⟩ := h H0 w0 w hA
    refine hval ?_ hp hA'
    simp only [execOp, hop, Sem.run_bind, hr]; rfl
  · rename_i it hop
    obtain ⟨v, H', w', hr, hp, hA'⟩ := h H0 w0 w hA
    refine hval ?_ hp hA'
    simp only [execOp, hop, Sem.run_bind, hr]; rfl
  · rename_i t x y hop
    split at h
    · rename_i p hx
      obtain ⟨ad, rfl, h⟩ := NN.out h
      split at h
      · split at h
        · rename_i cs i hy hi
          obtain ⟨hsz, h⟩ := h
          split at h
          · rename_i H' hp
            obtain ⟨w', hr, hA'⟩ := puts_run (P := P) ad cs.toList 0 H H' w hA hp
            unfold Oper.wp
            rw [known_at hk ha hs', show (execOp E.at o).run P w = .ok .skip w' from by
              simp only [execOp, hop, hx, hy, Instr.storeAt, Instr.sureAddr, storeVar, Value.cells, pure_bind, Sem.run_bind, sizeOf_run hi, Result.andThen_ok]
              rw [if_neg (by simp [hsz])]
              simp only [hr, Result.andThen_ok]; rfl]
            exact hn _ _ (h.holds ha hd hA')
          · exact h.elim
        · exact h.elim
      · obtain ⟨u, H', w', hr, hp, hA'⟩ := ef_sound _ h hA
        unfold Oper.wp
        rw [known_at hk ha hs', show (execOp E.at o).run P w = .ok .skip w' from by
          simp only [execOp, hop, hx, Instr.storeAt, Instr.sureAddr, pure_bind, Sem.run_bind, hr, Result.andThen_ok]; rfl]
        exact hn _ _ (Put.holds hp ha hd hA')
    · exact h.elim
  · exact hef h

end Go.Hw
