/- The frame of the proofs, fifth part: regions, code, functions. -/
import Derived.Test.YtbnhfcdagoigkaaHwT
import Derived.Defers
set_option maxRecDepth 100000
set_option linter.unusedSimpArgs false
set_option linter.unusedVariables false
set_option linter.unnecessarySimpa false
set_option linter.unusedSectionVars false
namespace Go.Hw
open Go

def BG (c want : Bool) (X Y : Prop) : Prop := match want with | true => BIf c X Y | false => BIf c Y X

/-- An operation's guard. -/
def gd (ops : Array Oper) (o : Oper) (E : Env) (X Y : Env → Prop) : Prop :=
  match o.guard with
  | none => X E
  | some (j, want) => match (ops[j]?).bind (·.dst) with
    | some d => match E.get? d with
      | some (.bool c) => BG c want (X ((d, .bool want) :: E)) (Y ((d, .bool (!want)) :: E))
      | some (.tuple _) => Y E
      | _ => False
    | none => Y E

theorem Agrees.get {E : Env} {n : Nat} {a : Act} {d : Nat} {v : Value} (h : Agrees E n a) (hd : E.get? d = some v) : a.tmps.getD d undef = v := h.2 d v hd

theorem Agrees.cons_same {E : Env} {n : Nat} {a : Act} {d : Nat} {v : Value} (h : Agrees E n a) (hd : a.tmps.getD d undef = v) : Agrees ((d, v) :: E) n a := by
  refine ⟨h.1, fun t u ht => ?_⟩
  unfold Env.get? at ht
  split at ht
  · rename_i hb
    cases ht
    obtain rfl := Nat.eq_of_beq_eq_true hb
    exact hd
  · exact h.2 t u ht

theorem gd_sound {ops : Array Oper} {o : Oper} {E : Env} {X Y : Env → Prop} {n : Nat} {a : Act} (h : gd ops o E X Y) (ha : Agrees E n a) :
    (Region.wanted o (yielded ops a.tmps) = true ∧ ∃ E', X E' ∧ Agrees E' n a) ∨ (Region.wanted o (yielded ops a.tmps) = false ∧ ∃ E', Y E' ∧ Agrees E' n a) := by
  unfold gd at h
  unfold Region.wanted
  split at h
  · rename_i hg; rw [hg]; exact .inl ⟨rfl, E, h, ha⟩
  · rename_i j want hg
    rw [hg]
    simp only
    split at h
    · rename_i d hd
      have hy : yielded ops a.tmps j = match a.tmps[d]? with | some (.bool b) => some b | _ => none := by
        unfold yielded; rw [hd]; rfl
      split at h
      · rename_i c hc
        have hget := ha.get hc
        have hsome : a.tmps[d]? = some (.bool c) := by
          rw [Array.getD_eq_getD_getElem?] at hget
          cases hq : a.tmps[d]? with
          | none => rw [hq] at hget; simp [undef] at hget
          | some v => rw [hq] at hget; simp at hget; rw [hget]
        rw [hy, hsome]
        simp only
        unfold BG at h
        cases want <;> simp only at h <;> rcases BIf.out h with ⟨rfl, h⟩ | ⟨rfl, h⟩
        · exact .inr ⟨by simp, _, h, ha.cons_same hget⟩
        · exact .inl ⟨by simp, _, h, ha.cons_same hget⟩
        · exact .inl ⟨by simp, _, h, ha.cons_same hget⟩
        · exact .inr ⟨by simp, _, h, ha.cons_same hget⟩
      · rename_i vs hc
        have hget := ha.get hc
        have hnone : (match a.tmps[d]? with | some (.bool b) => some b | _ => none : Option Bool) = none := by
          rw [Array.getD_eq_getD_getElem?] at hget
          cases hq : a.tmps[d]? with
          | none => rfl
          | some v => rw [hq] at hget; simp at hget; rw [hget]
        rw [hy, hnone]
        exact .inr ⟨by simp, E, h, ha⟩
      · exact h.elim
    · rename_i hd
      have hy : yielded ops a.tmps j = none := by unfold yielded; rw [hd]; rfl
      rw [hy]
      exact .inr ⟨by simp, E, h, ha⟩

def opsE (P : Program) (n : Nat) (ops : Array Oper) (K : Mid) : List Oper → Mid
  | [], E, D, H => K E D H
  | o :: r, E, D, H => gd ops o E (fun E => opE P n o E D H (opsE P n ops K r)) (fun E => Put n o.dst undef E fun E => opsE P n ops K r E D H)

theorem opsE_sound {P : Program} {n : Nat} {ops : Array Oper} {K : Mid} {H0 : Hp} {w0 : World} {Q : Exit → Act → World → Prop} (hq : ∀ a w, Holds H0 w0 n K a w → Q .normal a w) :
    ∀ (l : List Oper) (a : Act) (w : World), Holds H0 w0 n (opsE P n ops K l) a w → wpList P ops Q l a w
  | [], a, w, h => hq a w h
  | o :: r, a, w, ⟨E, D, H, h, ha, hd, hA⟩ => by
    refine wpList_step fun K' hK' => ?_
    rcases gd_sound h ha with ⟨hw, E', h', ha'⟩ | ⟨hw, E', h', ha'⟩
    · rw [if_pos hw]
      exact opE_sound h' ha' hd hA fun a w hh => hK' a w (opsE_sound hq r a w hh)
    · rw [if_neg (by rw [hw]; exact Bool.false_ne_true)]
      exact hK' _ _ (opsE_sound hq r _ _ (Put.holds h' ha' hd hA))

/-- An operation that only reads, and leaves what is known of memory. -/
def opQ (P : Program) (o : Oper) (E : Env) (H : Hp) (K : Value → Prop) : Prop :=
  match known E o with
  | false => False
  | true =>
  match o.op with
  | .call c => match c.callee with
    | .value f => match E.at f with
      | .func (.func g) first cap => BIf (callable P g) (QCall P g ((first ++ c.args.map E.at) ++ cap) H fun v => DR P (resTypes P g) v K) False
      | _ => False
    | _ => opV P o E.at H K
  | .select .. => False
  | _ => opV P o E.at H K

def opsQ (P : Program) (n : Nat) (ops : Array Oper) (H : Hp) (K : Env → Prop) : List Oper → Env → Prop
  | [], E => K E
  | o :: r, E => gd ops o E (fun E => opQ P o E H fun v => Put n o.dst v E (opsQ P n ops H K r)) (fun E => Put n o.dst undef E (opsQ P n ops H K r))

theorem opQ_sound {P : Program} {n : Nat} {o : Oper} {E : Env} {H0 H : Hp} {w0 : World} {K : Value → Prop} {a : Act} {next : Act → Prop} (h : opQ P o E H K) (ha : Agrees E n a)
    (hn : ∀ v, K v → next (a.put o.dst v)) : o.quiet P a (fun w => At H0 w0 H w) next := by
  unfold opQ at h
  cases hk : known E o with
  | false => rw [hk] at h; exact h.elim
  | true =>
  rw [hk] at h
  simp only at h
  have hopV : (∀ cs b, o.op ≠ .select cs b) → opV P o E.at H K → o.quiet P a (fun w => At H0 w0 H w) next := by
    intro hs h
    obtain ⟨v, hp, hr⟩ := opV_sound h
    refine ⟨v, fun w hw => ?_, hn v hp⟩
    unfold Oper.quietAt
    rw [known_at hk ha hs, hr w hw.fits]
    exact ⟨rfl, rfl⟩
  split at h
  · rename_i c hop
    have hs : ∀ cs b, o.op ≠ .select cs b := fun cs b e => by rw [hop] at e; cases e
    split at h
    · rename_i f hc
      split at h
      · rename_i g first cap hf
        rcases BIf.out h with ⟨hg, h⟩ | ⟨_, h⟩
        · obtain ⟨v, hv, hc'⟩ := h
          refine ⟨v, fun w hw => ?_, hn v hv.out⟩
          unfold Oper.quietAt
          rw [known_at hk ha hs, run_call_func hop hc hf hg]
          refine ⟨rfl, (hc' w hw.fits).mono fun e w' hh => ?_⟩
          obtain ⟨v', H', rfl, ⟨rfl, hle⟩, hA'⟩ := hh
          exact ⟨rfl, (hw.trans hA').weaken hle⟩
        · exact h.elim
      · exact h.elim
    · exact hopV hs h
  · exact h.elim
  · rename_i hns
    exact hopV (fun cs b e => hns _ _ e) h

theorem opsQ_sound {P : Program} {n : Nat} {ops : Array Oper} {H0 H : Hp} {w0 : World} {K : Env → Prop} {D : List Deferred} {Q : Act → Prop} (hq : ∀ a E, K E → Agrees E n a → a.defers = D → Q a) :
    ∀ (l : List Oper) (a : Act) (E : Env), opsQ P n ops H K l E → Agrees E n a → a.defers = D → wpQuiet P ops (fun w => At H0 w0 H w) Q l a
  | [], a, E, h, ha, hd => hq a E h ha hd
  | o :: r, a, E, h, ha, hd => by
    unfold wpQuiet
    rcases gd_sound h ha with ⟨hw, E', h', ha'⟩ | ⟨hw, E', h', ha'⟩
    · rw [if_pos hw]
      refine opQ_sound h' ha' fun v hv => ?_
      obtain ⟨E2, h2, ha2⟩ := hv.sound ha'
      exact opsQ_sound hq r _ E2 h2 ha2 (by cases o.dst <;> exact hd)
    · rw [if_neg (by rw [hw]; exact Bool.false_ne_true)]
      obtain ⟨E2, h2, ha2⟩ := h'.sound ha'
      exact opsQ_sound hq r _ E2 h2 ha2 (by cases o.dst <;> exact hd)

/-! ## Every order -/

def Hp0 : Hp := fun _ => none
theorem Hp0.fits (w : World) : Fits Hp0 w := fun _ _ h => by cases h

/-- An operation that asks nothing of memory. -/
def isF : Oper → Bool := fun o => match o.op with
  | .move _ | .assign _ | .pick .. | .nilCheck _ | .binOp .. | .unOp .. | .indexAddr .. | .index .. | .slice .. | .field .. | .fieldAddr .. | .extract .. | .build .. | .makeFunc .. => true
  | .call { callee := .builtin .len, .. } | .call { callee := .builtin .min, .. } | .call { callee := .builtin .max, .. } => true
  | _ => false

def pickF (ops : Array Oper) (listed : Array Bool) : Option Nat :=
  (Region.ready .any ops listed).find? fun i => match ops[i]? with | some o => isF o && Region.free .any ops listed i | none => false

def freeE (P : Program) (n : Nat) (ops : Array Oper) (o : Oper) (E : Env) (K : Env → Prop) : Prop :=
  gd ops o E (fun E => match known E o with | true => opV P o E.at Hp0 fun v => Put n o.dst v E K | false => False) (fun E => Put n o.dst undef E K)

def allE (X : Nat → Prop) : List Nat → Prop
  | [] => True
  | [i] => X i
  | i :: r => X i ∧ allE X r

theorem allE.out {X : Nat → Prop} : ∀ {l : List Nat}, allE X l → ∀ i ∈ l, X i
  | [], _, _, h => by simp at h
  | [i], h, j, hj => by simp at hj; subst hj; exact h
  | i :: k :: r, h, j, hj => by
    obtain ⟨h1, h2⟩ := h
    rcases List.mem_cons.1 hj with rfl | hj
    · exact h1
    · exact allE.out h2 j hj

/-- What a region comes to, whatever its order. -/
def anyE (P : Program) (n : Nat) (ops : Array Oper) (K : Mid) : Nat → Array Bool → Mid
  | 0, listed, E, D, H => match Region.ready .any ops listed with | [] => K E D H | _ => False
  | f + 1, listed, E, D, H => match pickF ops listed with
    | some i => match ops[i]? with
      | some o => freeE P n ops o E fun E => anyE P n ops K f (listed.setIfInBounds i true) E D H
      | none => False
    | none => match Region.ready .any ops listed with
      | [] => K E D H
      | i :: r => allE (fun i => match ops[i]? with
        | some o => gd ops o E (fun E => opE P n o E D H fun E D H => anyE P n ops K f (listed.setIfInBounds i true) E D H) (fun E => Put n o.dst undef E fun E => anyE P n ops K f (listed.setIfInBounds i true) E D H)
        | none => False) (i :: r)

theorem anyE_sound {P : Program} {n : Nat} {ops : Array Oper} {K : Mid} {H0 : Hp} {w0 : World} {Q : Exit → Act → World → Prop} (hq : ∀ a w, Holds H0 w0 n K a w → Q .normal a w) (hp : ∀ c a w, ¬ Q (.panic c) a w) (hsel : Region.noSelect ops = true) :
    ∀ (f : Nat) (listed : Array Bool) (a : Act) (w : World), Holds H0 w0 n (anyE P n ops K f listed) a w → wpAny P .any ops Q f listed a w
  | 0, listed, a, w, ⟨E, D, H, h, ha, hd, hA⟩ => by
    unfold anyE at h
    split at h
    · rename_i hr
      exact ⟨hr, hq _ _ ⟨E, D, H, h, ha, hd, hA⟩⟩
    · exact h.elim
  | f + 1, listed, a, w, ⟨E, D, H, h, ha, hd, hA⟩ => by
    unfold anyE at h
    split at h
    · rename_i i hpi
      unfold pickF at hpi
      have hmem := List.mem_of_find?_eq_some hpi
      have hprop := List.find?_some hpi
      split at h
      · rename_i o ho
        rw [ho] at hprop
        simp only [Bool.and_eq_true] at hprop
        unfold freeE at h
        have go : ∀ (v : Value) (E' : Env), Yields P ops o v a → (Put n o.dst v E' fun E => anyE P n ops K f (listed.setIfInBounds i true) E D H) → Agrees E' n a → wpAny P .any ops Q (f + 1) listed a w := fun v E' hy hput ha' => by
          refine wpAny_first ho (Region.noSelect_spec hsel) (fun c a w h => (hp c _ w h).elim) f listed a w (Region.free_spec ho hprop.2) hmem hy ?_
          exact anyE_sound hq hp hsel f _ _ _ (hput.holds ha' hd hA)
        rcases gd_sound h ha with ⟨hw, E', h', ha'⟩ | ⟨hw, E', h', ha'⟩
        · cases hk : known E' o with
          | false => rw [hk] at h'; exact h'.elim
          | true =>
            rw [hk] at h'
            obtain ⟨v, hv, hr⟩ := opV_sound h'
            refine go v E' (.inl ⟨hw, fun w => ?_⟩) hv ha'
            rw [known_at hk ha' (Region.noSelect_spec hsel i o · · ho)]
            exact hr w (Hp0.fits w)
        · exact go undef E' (.inr ⟨hw, rfl⟩) h' ha'
      · exact h.elim
    · split at h
      · rename_i hr
        exact ⟨fun _ => hq _ _ ⟨E, D, H, h, ha, hd, hA⟩, fun j hj => by rw [hr] at hj; simp at hj⟩
      · rename_i i r hr
        refine ⟨fun h2 => (by rw [hr] at h2; cases h2), fun j hj => ?_⟩
        rw [hr] at hj
        have hX := h.out j hj
        unfold wpOp
        split at hX
        · rename_i o ho
          rw [ho]
          simp only
          rcases gd_sound hX ha with ⟨hw, E', h', ha'⟩ | ⟨hw, E', h', ha'⟩
          · rw [if_pos hw]
            exact .inl (opE_sound h' ha' hd hA fun a w hh => anyE_sound hq hp hsel f _ a w hh)
          · rw [if_neg (by rw [hw]; exact Bool.false_ne_true)]
            exact anyE_sound hq hp hsel f _ _ _ (h'.holds ha' hd hA)
        · exact hX.elim

/-! ## Code -/

def jt : Code → Option Nat
  | .region id _ _ => some id
  | .seq a _ => jt a
  | .block _ c => jt c
  | _ => none

def lt : Code → Option Nat
  | .region id _ _ => some id
  | .seq a _ => lt a
  | .block _ c => lt c
  | .loop c => lt c
  | _ => none

def Post.seq (M : Mid) (Q : Post) : Post
  | .normal, E, D, H => M E D H
  | e, E, D, H => Q e E D H

def Post.blk (id : Nat) (Q : Post) : Post
  | .exit id', E, D, H => match Nat.beq id' id with | true => Q .normal E D H | false => Q (.exit id') E D H
  | e, E, D, H => Q e E D H

structure Cuts where
  join : Nat → Option Mid
  loop : Nat → Option Mid
  tail : Nat → Option (List Nat × List Nat × Nat)

def Cuts.none (f : Nat → Option (List Nat × List Nat × Nat)) : Cuts := ⟨fun _ => .none, fun _ => .none, f⟩

/-- A region that draws its order: all its operations only read, or all but those from t on. -/
def drawn (P : Program) (n : Nat) (ops : Array Oper) (t : Option (List Nat × List Nat × Nat)) (K : Mid) : Mid := fun E D H =>
  match t with
  | none => BIf (Region.lexB .any ops) (opsQ P n ops H (fun E => K E D H) ops.toList E) False
  | some (_, _, 0) => BIf (Region.noSelect ops) (anyE P n ops K ops.size (Array.replicate ops.size false) E D H) False
  | some (pre, head, m + 1) => BIf (tailB ops pre head (m + 1)) (preE n ops pre E fun E => pickO ops head fun l => opsQ P n ops H (fun E => opsE P n ops K (ops.toList.drop (m + 1)) E D H) l E) False
where
  preE (n : Nat) (ops : Array Oper) : List Nat → Env → (Env → Prop) → Prop
    | [], E, K => K E
    | i :: r, E, K => match ops[i]? with
      | some o => match o.op with
        | .move x => match E.ev x with | some v => Put n o.dst v E fun E => preE n ops r E K | none => False
        | _ => False
      | none => False
  pickO (ops : Array Oper) : List Nat → (List Oper → Prop) → Prop
    | [], K => K []
    | i :: r, K => match ops[i]? with | some o => pickO ops r fun l => K (o :: l) | none => False

theorem preE_sound {n : Nat} {ops : Array Oper} {D : List Deferred} : ∀ (pre : List Nat) (E : Env) (K : Env → Prop) (a : Act), drawn.preE n ops pre E K → Agrees E n a → a.defers = D → ∃ E', K E' ∧ Agrees E' n (preAct ops pre a) ∧ (preAct ops pre a).defers = D
  | [], E, K, a, h, ha, hd => ⟨E, h, ha, hd⟩
  | i :: r, E, K, a, h, ha, hd => by
    unfold drawn.preE at h
    unfold preAct
    split at h
    · rename_i o ho
      split at h
      · rename_i x hop
        split at h
        · rename_i v hv
          obtain ⟨E', hk, ha'⟩ := h.sound ha
          simp only [ho, hop, ha.ev hv]
          exact preE_sound r E' K _ hk ha' (by cases o.dst <;> exact hd)
        · exact h.elim
      · exact h.elim
    · exact h.elim

theorem pickO_sound {ops : Array Oper} : ∀ (is : List Nat) (K : List Oper → Prop), drawn.pickO ops is K → ∃ l, is.map (fun i => ops[i]?) = l.map some ∧ K l
  | [], K, h => ⟨[], rfl, h⟩
  | i :: r, K, h => by
    unfold drawn.pickO at h
    split at h
    · rename_i o ho
      obtain ⟨l, hl, hk⟩ := pickO_sound r _ h
      exact ⟨o :: l, by simp [ho, hl], hk⟩
    · exact h.elim

def cutJ (Λ : Cuts) (c : Code) : Option Mid := match jt c with | some i => Λ.join i | none => none
def cutL (Λ : Cuts) (c : Code) : Option Mid := match lt c with | some i => Λ.loop i | none => none

def hw (P : Program) (n : Nat) (Λ : Cuts) : Code → Post → Mid
  | .skip, Q, E, D, H => Q .normal E D H
  | .region id ops draw, Q, E, D, H => match draw with
    | false => opsE P n ops (Q .normal) ops.toList E D H
    | true => drawn P n ops (Λ.tail id) (Q .normal) E D H
  | .seq a b, Q, E, D, H => hw P n Λ a (Post.seq (fun E D H => match cutJ Λ b with | some S => S E D H | none => hw P n Λ b Q E D H) Q) E D H
  | .cond c x y, Q, E, D, H => match E.ev c with | some (.bool b) => BIf b (hw P n Λ x Q E D H) (hw P n Λ y Q E D H) | _ => False
  | .block id c, Q, E, D, H => hw P n Λ c (Post.blk id Q) E D H
  | .loop c, _, E, D, H => match cutL Λ c with | some S => S E D H | none => False
  | .exit id, Q, E, D, H => Q (.exit id) E D H
  | .ret, Q, E, D, H => Q .ret E D H
  | _, _, _, _, _ => False

def up (H0 : Hp) (w0 : World) (n : Nat) (Q : Post) : Exit → Act → World → Prop := fun e a w => Holds H0 w0 n (Q e) a w

/-- From here on, the code ends in Q. -/
def Safe (P : Program) (n : Nat) (c : Code) (Q : Post) (E : Env) (D : List Deferred) (H : Hp) : Prop :=
  ∀ H0 w0 a w, Agrees E n a → a.defers = D → At H0 w0 H w → c.wp P (up H0 w0 n Q) a w

theorem Safe.weaken {P : Program} {n : Nat} {c : Code} {Q : Post} {E E' : Env} {D : List Deferred} {H H' : Hp} (h : Safe P n c Q E' D H') (hE : ∀ t v, E'.get? t = some v → E.get? t = some v) (hH : H'.le H) : Safe P n c Q E D H :=
  fun H0 w0 a w ha hd hA => h H0 w0 a w (ha.weaken hE) hd (hA.weaken hH)

theorem Safe.mono {P : Program} {n : Nat} {c : Code} {Q Q' : Post} {E : Env} {D : List Deferred} {H : Hp} (h : Safe P n c Q E D H) (hq : ∀ e E D H, Q e E D H → Q' e E D H) : Safe P n c Q' E D H :=
  fun H0 w0 a w ha hd hA => wp_mono (h H0 w0 a w ha hd hA) fun e _ _ ⟨E, D, H, h1, h2⟩ => ⟨E, D, H, hq e E D H h1, h2⟩

/-- What is still to be shown of the cuts. -/
def obs (P : Program) (n : Nat) (Λ : Cuts) : Code → Post → Prop
  | .seq a b, Q => obs P n Λ a (Post.seq (fun E D H => match cutJ Λ b with | some S => S E D H | none => hw P n Λ b Q E D H) Q) ∧
      (match cutJ Λ b with | some S => ∀ E D H, S E D H → Safe P n b Q E D H | none => obs P n Λ b Q)
  | .cond _ x y, Q => obs P n Λ x Q ∧ obs P n Λ y Q
  | .block id c, Q => obs P n Λ c (Post.blk id Q)
  | .loop c, Q => match cutL Λ c with | some S => ∀ E D H, S E D H → Safe P n (.loop c) Q E D H | none => True
  | _, _ => True

theorem obs_none (P : Program) (n : Nat) (f : Nat → Option (List Nat × List Nat × Nat)) : ∀ (c : Code) (Q : Post), obs P n (Cuts.none f) c Q
  | .seq a b, Q => by
    have h : cutJ (Cuts.none f) b = none := by unfold cutJ; split <;> rfl
    unfold obs; rw [h]; exact ⟨obs_none P n f a _, obs_none P n f b Q⟩
  | .cond _ x y, Q => ⟨obs_none P n f x Q, obs_none P n f y Q⟩
  | .block _ c, _ => obs_none P n f c _
  | .loop c, Q => by
    have h : cutL (Cuts.none f) c = none := by unfold cutL; split <;> rfl
    unfold obs; rw [h]; trivial
  | .skip, _ => trivial
  | .region .., _ => trivial
  | .rangeFunc .., _ => trivial
  | .exit _, _ => trivial
  | .scope _, _ => trivial
  | .label _, _ => trivial
  | .goto _, _ => trivial
  | .ret, _ => trivial
  | .refuse _, _ => trivial

theorem hw_safe {P : Program} {n : Nat} {Λ : Cuts} (hm : P.follows .mixedOrders = true) : ∀ (c : Code) (Q : Post) (E : Env) (D : List Deferred) (H : Hp), hw P n Λ c Q E D H → obs P n Λ c Q → Safe P n c Q E D H
  | .skip, Q, E, D, H, h, _ => fun H0 w0 a w ha hd hA => wp_skip ⟨E, D, H, h, ha, hd, hA⟩
  | .region id ops draw, Q, E, D, H, h, _ => fun H0 w0 a w ha hd hA => by
    cases draw with
    | false => exact wp_region_list (opsE_sound (fun a w hh => hh) ops.toList a w ⟨E, D, H, h, ha, hd, hA⟩)
    | true =>
      change drawn P n ops (Λ.tail id) (Q .normal) E D H at h
      unfold drawn at h
      split at h
      · rcases BIf.out h with ⟨hB, h⟩ | ⟨_, h⟩
        · exact wp_region_quiet (C := fun w => At H0 w0 H w) hm hB hA.drew (opsQ_sound (Q := fun a' => ∀ w', At H0 w0 H w' → up H0 w0 n Q .normal a' w') (fun a' E' hk ha' hd' w' hw' => ⟨E', D, H, hk, ha', hd', hw'⟩) ops.toList a E h ha hd)
        · exact h.elim
      · rcases BIf.out h with ⟨hB, h⟩ | ⟨_, h⟩
        · refine wp_mono (wp_region_any (Q := fun e a w => e = .normal ∧ up H0 w0 n Q .normal a w) hm (anyE_sound (fun a w hh => ⟨rfl, hh⟩) (fun c a w h => by cases h.1) hB ops.size _ a _ ⟨E, D, H, h, ha, hd, hA.drew⟩)) ?_
          rintro e a w ⟨rfl, hh⟩
          exact hh
        · exact h.elim
      · rename_i pre head m _
        rcases BIf.out h with ⟨hB, h⟩ | ⟨_, h⟩
        · obtain ⟨E1, h, ha1, hd1⟩ := preE_sound pre E _ a h ha hd
          obtain ⟨l, hl, h⟩ := pickO_sound head _ h
          refine wp_mono (wp_region_quiet_tail (Q := fun e a w => e = .normal ∧ up H0 w0 n Q .normal a w) (C := fun w => At H0 w0 H w) pre head l (m + 1) (fun c a w h => by cases h.1) hm hB hA.drew hl
            (opsQ_sound (Q := fun a' => ∀ w', At H0 w0 H w' → wpList P ops (fun e a w => e = .normal ∧ up H0 w0 n Q .normal a w) (ops.toList.drop (m + 1)) a' w') (fun a' E' hk ha' hd' w' hw' => opsE_sound (fun a w hh => ⟨rfl, hh⟩) _ a' w' ⟨E', D, H, hk, ha', hd', hw'⟩) _ _ E1 h ha1 hd1)) ?_
          rintro e a w ⟨rfl, hh⟩
          exact hh
        · exact h.elim
  | .seq x y, Q, E, D, H, h, ho => fun H0 w0 a w ha hd hA => by
    obtain ⟨ho1, ho2⟩ := ho
    refine wp_seq (wp_mono (hw_safe hm x _ E D H h ho1 H0 w0 a w ha hd hA) ?_)
    intro e a' w' hh
    cases e with
    | normal =>
      obtain ⟨E', D', H', hq, ha', hd', hA'⟩ := hh
      show (y.wp P (up H0 w0 n Q)) a' w'
      simp only [Post.seq] at hq
      cases hc : cutJ Λ y with
      | none =>
        rw [hc] at hq ho2
        exact hw_safe hm y Q E' D' H' hq ho2 H0 w0 a' w' ha' hd' hA'
      | some S =>
        rw [hc] at hq ho2
        exact ho2 E' D' H' hq H0 w0 a' w' ha' hd' hA'
    | exit id => exact hh
    | goto l => exact hh
    | ret => exact hh
    | panic ch => exact hh
    | outgrown => exact hh
  | .cond c x y, Q, E, D, H, h, ho => fun H0 w0 a w ha hd hA => by
    obtain ⟨ho1, ho2⟩ := ho
    unfold hw at h
    split at h
    · rename_i b hb
      refine wp_cond_split (ha.ev hb) (fun ht => ?_) (fun ht => ?_)
      · subst ht; exact hw_safe hm x Q E D H h ho1 H0 w0 a w ha hd hA
      · subst ht; exact hw_safe hm y Q E D H h ho2 H0 w0 a w ha hd hA
    · exact h.elim
  | .block id c, Q, E, D, H, h, ho => fun H0 w0 a w ha hd hA => by
    refine wp_block (wp_mono (hw_safe hm c _ E D H h ho H0 w0 a w ha hd hA) ?_)
    intro e a' w' hh
    cases e with
    | exit id' =>
      obtain ⟨E', D', H', hq, hr⟩ := hh
      simp only [Post.blk] at hq
      show (if id' = id then _ else _ : Prop)
      by_cases e : id' = id
      · rw [if_pos e]; subst e; rw [Nat.beq_refl] at hq; exact ⟨E', D', H', hq, hr⟩
      · rw [if_neg e]
        have : Nat.beq id' id = false := by cases hb : Nat.beq id' id with | false => rfl | true => exact (e (Nat.eq_of_beq_eq_true hb)).elim
        rw [this] at hq; exact ⟨E', D', H', hq, hr⟩
    | normal => exact hh
    | goto l => exact hh
    | ret => exact hh
    | panic ch => exact hh
    | outgrown => exact hh
  | .loop c, Q, E, D, H, h, ho => by
    unfold hw at h
    unfold obs at ho
    cases hc : cutL Λ c with
    | none => rw [hc] at h; exact h.elim
    | some S => rw [hc] at h ho; exact ho E D H h
  | .exit id, Q, E, D, H, h, _ => fun H0 w0 a w ha hd hA => wp_exit ⟨E, D, H, h, ha, hd, hA⟩
  | .ret, Q, E, D, H, h, _ => fun H0 w0 a w ha hd hA => wp_ret ⟨E, D, H, h, ha, hd, hA⟩
  | .rangeFunc .., _, _, _, _, h, _ => h.elim
  | .scope _, _, _, _, _, h, _ => h.elim
  | .label _, _, _, _, _, h, _ => h.elim
  | .goto _, _, _, _, _, h, _ => h.elim
  | .refuse _, _, _, _, _, h, _ => h.elim

/-- A loop, its rounds counted down. -/
theorem Safe.loop {P : Program} {n : Nat} {c : Code} {Q : Post} (L : Nat → Mid) (hs : ∀ k E D H, L k E D H → Safe P n c (Post.seq (fun E D H => ∃ j, j < k ∧ L j E D H) Q) E D H) : ∀ k E D H, L k E D H → Safe P n (.loop c) Q E D H := by
  intro k E D H h H0 w0 a w ha hd hA
  refine wp_loop_ghost (fun k a w => Holds H0 w0 n (L k) a w) k ⟨E, D, H, h, ha, hd, hA⟩ ?_
  intro k a w ⟨E, D, H, h, ha, hd, hA⟩
  refine wp_mono (hs k E D H h H0 w0 a w ha hd hA) ?_
  intro e a' w' hh
  cases e with
  | normal =>
    obtain ⟨E', D', H', ⟨j, hj, hL⟩, hr⟩ := hh
    exact ⟨j, hj, E', D', H', hL, hr⟩
  | exit id => exact hh
  | goto l => exact hh
  | ret => exact hh
  | panic ch => exact hh
  | outgrown => exact hh

theorem Safe.loop' {P : Program} {n : Nat} {c : Code} {Q : Post} (L : Nat → Mid) (h0 : ∀ E D H, ¬ L 0 E D H) (hs : ∀ k E D H, L (k + 1) E D H → Safe P n c (Post.seq (L k) Q) E D H) (E : Env) (D : List Deferred) (H : Hp)
    (h : ∃ k, L k E D H) : Safe P n (.loop c) Q E D H := by
  obtain ⟨k, h⟩ := h
  refine Safe.loop L (fun k E D H hL => ?_) k E D H h
  cases k with
  | zero => exact (h0 E D H hL).elim
  | succ k =>
    refine (hs k E D H hL).mono fun e E D H hq => ?_
    cases e <;> first | exact hq | exact ⟨k, Nat.lt_succ_self k, hq⟩

/-- The code behind a cut: the root itself is read. -/
def hwR (P : Program) (n : Nat) (Λ : Cuts) (c : Code) (Q : Post) : Mid := hw P n Λ c Q

def DG (v : Option Value) (K : Value → Prop) : Prop := match v with | some v => K v | none => False

theorem DG.out {v : Option Value} {K : Value → Prop} (h : DG v K) : ∃ u, v = some u ∧ K u := by
  cases v with
  | none => exact h.elim
  | some u => exact ⟨u, rfl, h⟩
theorem DB.out {v : Value} {K : Bool → Prop} (h : DB v K) : ∃ n, v = .bool n ∧ K n := by
  cases v <;> first | exact h.elim | exact ⟨_, rfl, h⟩
theorem DS.out {v : Value} {K : ByteArray → Prop} (h : DS v K) : ∃ n, v = .string n ∧ K n := by
  cases v <;> first | exact h.elim | exact ⟨_, rfl, h⟩
theorem DP.out {v : Value} {K : Option Addr → Prop} (h : DP v K) : ∃ n, v = .pointer n ∧ K n := by
  cases v <;> first | exact h.elim | exact ⟨_, rfl, h⟩
theorem DSl.out {v : Value} {K : Option Addr → Nat → Nat → Prop} (h : DSl v K) : ∃ a n c, v = .slice a n c ∧ K a n c := by
  cases v <;> first | exact h.elim | exact ⟨_, _, _, rfl, h⟩
theorem DM.out {v : Value} {K : Option Nat → Prop} (h : DM v K) : ∃ n, v = .map n ∧ K n := by
  cases v <;> first | exact h.elim | exact ⟨_, rfl, h⟩

def EnvLe (E' E : Env) : Prop := ∀ t v, E'.get? t = some v → E.get? t = some v
theorem EnvLe.nil (E : Env) : EnvLe [] E := fun _ _ h => by cases h
theorem EnvLe.cons {E' E : Env} {t : Nat} {v : Value} (h : E.get? t = some v) (k : EnvLe E' E) : EnvLe ((t, v) :: E') E := fun t' v' ht => by
  unfold Env.get? at ht
  split at ht
  · rename_i hb
    cases ht
    obtain rfl := Nat.eq_of_beq_eq_true hb
    exact h
  · exact k _ _ ht

def DNilD (D : List Deferred) (K : Prop) : Prop := match D with | [] => K | _ => False
theorem DNilD.out {D : List Deferred} {K : Prop} (h : DNilD D K) : D = [] ∧ K := by
  cases D with
  | nil => exact ⟨rfl, h⟩
  | cons => exact h.elim
/-- A deferred call. -/
def DDef (g : FuncId) (D : List Deferred) (K : List Value → List Value → List Deferred → Prop) : Prop :=
  match D with
  | d :: r => match d.target with
    | .fn (.func g') cap => (match Nat.beq g' g with | true => K cap.toList d.args.toList r | false => False)
    | _ => False
  | [] => False
theorem DDef.out {g : FuncId} {D : List Deferred} {K : List Value → List Value → List Deferred → Prop} (h : DDef g D K) : ∃ cl al r, D = { target := .fn (.func g) cl.toArray, args := al.toArray } :: r ∧ K cl al r := by
  unfold DDef at h
  split at h
  · rename_i d r
    split at h
    · rename_i g' cap hd
      split at h
      · rename_i hb
        obtain rfl := Nat.eq_of_beq_eq_true hb
        refine ⟨cap.toList, d.args.toList, r, ?_, h⟩
        rw [Array.toArray_toList, Array.toArray_toList, ← hd]
      · exact h.elim
    · exact h.elim
  · exact h.elim
/-- A function's value. -/
def DFn (v : Value) (K : FuncId → Array Value → Array Value → Prop) : Prop := match v with | .func (.func g) F C => K g F C | _ => False
theorem DFn.out {v : Value} {K : FuncId → Array Value → Array Value → Prop} (h : DFn v K) : ∃ g F C, v = .func (.func g) F C ∧ K g F C := by
  unfold DFn at h
  split at h
  · exact ⟨_, _, _, rfl, h⟩
  · exact h.elim
theorem DA.outL {v : Value} {K : Array Value → Prop} (h : DA v K) : ∃ l : List Value, v = .agg l.toArray ∧ K l.toArray := by
  obtain ⟨cs, rfl, h⟩ := DA.out h
  exact ⟨cs.toList, by rw [Array.toArray_toList], by rw [Array.toArray_toList]; exact h⟩
theorem DCons.out {l : List Value} {K : Value → List Value → Prop} (h : DCons l K) : ∃ v r, l = v :: r ∧ K v r := by
  cases l with
  | nil => exact h.elim
  | cons v r => exact ⟨v, r, rfl, h⟩
theorem DNil.out {l : List Value} {K : Prop} (h : DNil l K) : l = [] ∧ K := by
  cases l with
  | nil => exact ⟨rfl, h⟩
  | cons => exact h.elim

section
variable {P : Program} {n : Nat} {Λ : Cuts} {Q : Post}
theorem obs_seq {a b : Code} (ha : obs P n Λ a (Post.seq (fun E D H => match cutJ Λ b with | some S => S E D H | none => hw P n Λ b Q E D H) Q)) (hc : cutJ Λ b = none) (hb : obs P n Λ b Q) : obs P n Λ (.seq a b) Q := by
  unfold obs; refine ⟨ha, ?_⟩; rw [hc]; exact hb
theorem obs_seqc {a b : Code} {S : Mid} (ha : obs P n Λ a (Post.seq (fun E D H => match cutJ Λ b with | some S => S E D H | none => hw P n Λ b Q E D H) Q)) (hc : cutJ Λ b = some S) (hb : ∀ E D H, S E D H → Safe P n b Q E D H) : obs P n Λ (.seq a b) Q := by
  unfold obs; refine ⟨ha, ?_⟩; rw [hc]; exact hb
theorem obs_region {id : Nat} {ops : Array Oper} {d : Bool} : obs P n Λ (.region id ops d) Q := trivial
theorem obs_skip : obs P n Λ .skip Q := trivial
theorem obs_ret : obs P n Λ .ret Q := trivial
theorem obs_exit {id : Nat} : obs P n Λ (.exit id) Q := trivial
theorem obs_cond {c : Operand} {a b : Code} (ha : obs P n Λ a Q) (hb : obs P n Λ b Q) : obs P n Λ (.cond c a b) Q := ⟨ha, hb⟩
theorem obs_block {id : Nat} {c : Code} (h : obs P n Λ c (Post.blk id Q)) : obs P n Λ (.block id c) Q := h
theorem obs_loop {c : Code} {S : Mid} (hc : cutL Λ c = some S) (h : ∀ E D H, S E D H → Safe P n (.loop c) Q E D H) : obs P n Λ (.loop c) Q := by
  unfold obs; rw [hc]; exact h
end

theorem Hp.le_refl (H : Hp) : H.le H := fun _ _ h => h

/-! ## Functions -/

def HCallsD (P : Program) (f : FuncId) (args : Array Value) (H : Hp) (R : Value → Hp → Prop) : Prop :=
  ∀ w, Fits H w → CallsD P f args .returning w fun e u' w' => u' = .returning ∧ ∃ v H', e = .returned v ∧ R v H' ∧ At H w H' w'

def tupV : List Value → Value
  | [v] => v
  | vs => .tuple vs.toArray

def resV (P : Program) (E : Env) (H : Hp) : List ResultVar → (List Value → Prop) → Prop
  | [], K => K []
  | .tmp t :: r, K => match E.get? t with | some v => resV P E H r fun vs => K (v :: vs) | none => False
  | .cell a t :: r, K => match E.get? a with
    | some (.pointer (some ad)) => LdT P t ad H fun v => resV P E H r fun vs => K (v :: vs)
    | _ => False

def leave (P : Program) (fn : Func) (E : Env) (K : Value → Hp → Prop) : List Deferred → Hp → Prop
  | [], H => resV P E H fn.results.toList fun vs => K (tupV vs) H
  | d :: ds, H => match d.target with
    | .fn (.func g) cap => BIf (callable P g) (HCallsD P g (d.args ++ cap) H fun _ H' => leave P fn E K ds H') False
    | _ => False

def QF (P : Program) (fn : Func) (K : Value → Hp → Prop) : Post
  | .normal, E, D, H => leave P fn E K D H
  | .ret, E, D, H => leave P fn E K D H
  | _, _, _, _ => False

/-- .. of a function that defers nothing. -/
def QF0 (P : Program) (fn : Func) (K : Value → Hp → Prop) : Post
  | .normal, E, D, H => match D with | [] => leave P fn E K [] H | _ :: _ => False
  | .ret, E, D, H => match D with | [] => leave P fn E K [] H | _ :: _ => False
  | _, _, _, _ => False

def E0 : Nat → List Value → Env
  | _, [] => []
  | i, v :: l => (i, v) :: E0 (i + 1) l

theorem resV_run {P : Program} {E : Env} {n : Nat} {a : Act} {H : Hp} {w : World} (ha : Agrees E n a) (hw : Fits H w) (g : ResultVar → Sem Value) (g1 : ∀ t, g (.tmp t) = pure (a.tmps.getD t undef))
    (g2 : ∀ x t ad, a.tmps.getD x undef = .pointer (some ad) → g (.cell x t) = loadVar t ad) : ∀ (rs : List ResultVar) (K : List Value → Prop), resV P E H rs K →
    ∃ vs, K vs ∧ vs.length = rs.length ∧ (rs.mapM g : Sem (List Value)).run P w = .ok vs w
  | [], K, h => ⟨[], h, rfl, by simp⟩
  | .tmp t :: r, K, h => by
    unfold resV at h
    split at h
    · rename_i v hv
      obtain ⟨vs, hk, hl, hr⟩ := resV_run ha hw g g1 g2 r _ h
      refine ⟨v :: vs, hk, by simp [hl], ?_⟩
      simp only [List.mapM_cons, g1, pure_bind, ha.get hv, Sem.run_bind, hr, Result.andThen_ok, Sem.run_pure]
    · exact h.elim
  | .cell x t :: r, K, h => by
    unfold resV at h
    split at h
    · rename_i ad hx
      obtain ⟨v, hk, hr⟩ := h.sound
      obtain ⟨vs, hk, hl, hr'⟩ := resV_run ha hw g g1 g2 r _ hk
      refine ⟨v :: vs, hk, by simp [hl], ?_⟩
      simp only [List.mapM_cons, g2 x t ad (ha.get hx), Sem.run_bind, hr w hw, Result.andThen_ok, hr', Sem.run_pure]
    · exact h.elim

theorem results_run {P : Program} {fn : Func} {E : Env} {n : Nat} {a : Act} {H : Hp} {w : World} {K : Value → Prop} (ha : Agrees E n a) (hw : Fits H w) (h : resV P E H fn.results.toList fun vs => K (tupV vs)) :
    ∃ v, K v ∧ (results fn a.tmps).run P w = .ok v w := by
  have key : ∀ g : ResultVar → Sem Value, (∀ t, g (.tmp t) = pure (a.tmps.getD t undef)) → (∀ x t ad, a.tmps.getD x undef = .pointer (some ad) → g (.cell x t) = loadVar t ad) →
      ∃ v, K v ∧ (do let vs ← List.toArray <$> (List.mapM g fn.results.toList); pure (if h : vs.size = 1 then vs[0] else .tuple vs) : Sem Value).run P w = .ok v w := by
    intro g g1 g2
    obtain ⟨vs, hk, hl, hr⟩ := resV_run ha hw g g1 g2 _ _ h
    refine ⟨_, hk, ?_⟩
    rw [Sem.run_bind, Sem.run_map, hr]
    simp only [Result.andThen_ok, Sem.run_pure]
    congr 1
    match vs, hl with
    | [], _ => simp [tupV]
    | [v], _ => simp [tupV]
    | v :: u :: r, _ => simp [tupV]
  unfold results
  rw [Array.mapM_eq_mapM_toList]
  exact key _ (fun _ => rfl) (fun x t ad h => by simp only [h, asAddr, pure_bind])

theorem leave_sound {P : Program} {fn : Func} {E : Env} {n : Nat} {a : Act} {K : Value → Hp → Prop} {H0 : Hp} {w0 : World} (ha : Agrees E n a) : ∀ (D : List Deferred) (H : Hp) (w : World), leave P fn E K D H → At H0 w0 H w →
    Leaves P fn a.tmps (fun e w' => ∃ v H', e = .returned v ∧ K v H' ∧ At H0 w0 H' w') D .returning w
  | [], H, w, h, hA => by
    obtain ⟨v, hk, hr⟩ := results_run (K := fun v => K v H) ha hA.fits h
    exact ⟨v, hr, v, H, rfl, hk, hA⟩
  | d :: ds, H, w, h, hA => by
    unfold leave at h
    split at h
    · rename_i g cap ht
      rcases BIf.out h with ⟨hg, h⟩ | ⟨_, h⟩
      · refine ⟨by simp, .func g, cap, g, d.args ++ cap, ht, ?_, ?_⟩
        · rw [ht]; simp only [invoke]; exact callFunc_run hg _ w
        · intro c cs hc
          obtain ⟨e, u', w', fr, ⟨hu, v, H', rfl, hl, hA'⟩, hr⟩ := h w hA.fits c cs hc
          subst hu
          exact ⟨_, _, w', fr, leave_sound ha ds H' w' hl (hA.trans hA'), hr⟩
      · exact h.elim
    · exact h.elim

theorem E0_get : ∀ (l : List Value) (i t : Nat) (v : Value), (E0 i l).get? t = some v → i ≤ t ∧ l[t - i]? = some v
  | [], i, t, v, h => by cases h
  | x :: l, i, t, v, h => by
    unfold E0 Env.get? at h
    split at h
    · rename_i hb
      cases h
      obtain rfl := Nat.eq_of_beq_eq_true hb
      simp
    · obtain ⟨h1, h2⟩ := E0_get l (i + 1) t v h
      refine ⟨by omega, ?_⟩
      rw [show t - i = (t - (i + 1)) + 1 from by omega]
      simpa using h2

theorem agrees0 {n : Nat} (args : Array Value) (h : args.size ≤ n) : Agrees (E0 0 args.toList) n { tmps := args ++ Array.replicate (n - args.size) undef, defers := [] } := by
  refine ⟨by simp; omega, fun t v ht => ?_⟩
  obtain ⟨_, h2⟩ := E0_get _ _ _ _ ht
  simp only [Nat.sub_zero, Array.getElem?_toList] at h2
  have hlt : t < args.size := (Array.getElem?_eq_some_iff.1 h2).1
  rw [Array.getD_eq_getD_getElem?, Array.getElem?_append_left hlt, h2]; rfl

theorem hcalls {P : Program} {f : FuncId} {fn : Func} {c : Code} {args : Array Value} {H : Hp} {K : Value → Hp → Prop} (hf : P.funcs[f]? = some fn) (hb : fn.body = some c) (hs : args.size ≤ fn.ntmps)
    (h : Safe P fn.ntmps c (QF P fn K) (E0 0 args.toList) [] H) : HCalls P f args H K := by
  intro w hw
  refine calls_of_wp_defers hf hb (wp_mono (h H w _ w (agrees0 args hs) rfl (At.refl hw)) ?_)
  intro e a w' hh
  obtain ⟨E, D, H', hq, ha, hd, hA⟩ := hh
  cases e <;> first | exact hq.elim | (show Leaves _ _ _ _ _ _ _; rw [hd]; exact leave_sound ha D H' w' hq hA)

theorem hcallsD {P : Program} {f : FuncId} {fn : Func} {c : Code} {args : Array Value} {H : Hp} {K : Value → Hp → Prop} (hf : P.funcs[f]? = some fn) (hb : fn.body = some c) (hs : args.size ≤ fn.ntmps)
    (h : Safe P fn.ntmps c (QF0 P fn K) (E0 0 args.toList) [] H) : HCallsD P f args H K := by
  intro w hw c₀ cs hu
  have := callsD_of_wp (P := P) (f := f) (fn := fn) (c := c) (args := args) (u := .returning) (w := w) (R := fun e w' => ∃ v H', e = .returned v ∧ K v H' ∧ At H w H' w') hf hb (wp_mono (h H w _ w (agrees0 args hs) rfl (At.refl hw)) (by
    intro e a w' hh
    obtain ⟨E, D, H', hq, ha, hd, hA⟩ := hh
    cases e <;> first | exact hq.elim | skip
    all_goals
      cases D with
      | cons _ _ => exact hq.elim
      | nil =>
      obtain ⟨v, hk, hr⟩ := results_run (K := fun v => K v H') ha hA.fits hq
      exact ⟨hd, v, hr, v, H', rfl, hk, hA⟩))
  exact this c₀ cs hu

end Go.Hw
