/- The frame of the proofs: structs and arrays of plain cells, compared. -/
import Derived.Test.YtbnhfcdagoigkaaHwL
import Derived.DeepKeys
set_option maxRecDepth 100000
set_option linter.unusedSimpArgs false
set_option linter.unusedVariables false
set_option linter.unnecessarySimpa false
set_option linter.unusedSectionVars false
namespace Go.Hw
open Go

def litOk : Lf → Lit → Bool
  | .int k, .int k' n => decide (k' = k) && (Lit.int k n).wf
  | .bool, .bool _ => true
  | .str, .string l => decide (l.length ≤ maxLen)
  | _, _ => false

def okAll : List Lf → List Lit → Bool
  | [], [] => true
  | f :: fs, l :: ls => litOk f l && okAll fs ls
  | _, _ => false

def flatFs (P : Program) (g : TypeId → Option (List Lf)) : List Field → Nat → Option (List Lf)
  | [], _ => some []
  | f :: r, off => match f.name != "_" && Nat.beq f.offset off with
    | true => match g f.type with
      | some l => match Nat.beq l.length (P.cellsOf f.type) with
        | true => match flatFs P g r (off + l.length) with
          | some k => some (l ++ k)
          | none => none
        | false => none
      | none => none
    | false => none

/-- The plain cells that a type is made of. -/
def flat (P : Program) : Nat → TypeId → Option (List Lf)
  | 0, _ => none
  | d + 1, t => match P.underlying t with
    | some .bool => some [.bool]
    | some (.int q) => some [.int q]
    | some .string => some [.str]
    | some (.array n e) => match flat P d e with
      | some l => match Nat.beq l.length (P.cellsOf e) && Nat.beq (n * l.length) (P.cellsOf t) with
        | true => some (List.replicate n l).flatten
        | false => none
      | none => none
    | some (.struct fs) => match flatFs P (flat P d) fs.toList 0 with
      | some l => match Nat.beq l.length (P.cellsOf t) with
        | true => some l
        | false => none
      | none => none
    | _ => none

theorem okAll_len : ∀ {fs : List Lf} {ls : List Lit}, okAll fs ls = true → ls.length = fs.length
  | [], [], _ => rfl
  | _ :: fs, _ :: ls, h => by
    simp only [okAll, Bool.and_eq_true] at h
    simp [okAll_len h.2]
  | [], _ :: _, h => by cases h
  | _ :: _, [], h => by cases h

theorem okAll_split : ∀ {a b : List Lf} {ls : List Lit}, okAll (a ++ b) ls = true → ∃ x y, ls = x ++ y ∧ okAll a x = true ∧ okAll b y = true
  | [], b, ls, h => ⟨[], ls, rfl, rfl, h⟩
  | f :: a, b, [], h => by cases h
  | f :: a, b, l :: ls, h => by
    simp only [List.cons_append, okAll, Bool.and_eq_true] at h
    obtain ⟨x, y, rfl, h1, h2⟩ := okAll_split h.2
    exact ⟨l :: x, y, rfl, by simp [okAll, h.1, h1], h2⟩

theorem okAll_one {f : Lf} {ls : List Lit} (h : okAll [f] ls = true) : ∃ x, ls = [x] := by
  have := okAll_len h
  match ls, this with
  | [x], _ => exact ⟨x, rfl⟩

theorem keyLits_flat {P : Program} : ∀ (d : Nat) (t : TypeId) (ks : List Lf) (ls : List Lit), flat P d t = some ks → okAll ks ls = true → P.keyLits d t (ls.map Lit.value) = some ls
  | 0, _, _, _, h, _ => by cases h
  | d + 1, t, ks, ls, h, ho => by
    unfold flat at h
    unfold Program.keyLits
    split at h
    · rename_i hu
      cases h
      obtain ⟨x, rfl⟩ := okAll_one ho
      cases x <;> simp only [okAll, litOk, Bool.and_true, Bool.false_eq_true, Bool.false_and] at ho
      simp [hu, Lit.value]
    · rename_i q hu
      cases h
      obtain ⟨x, rfl⟩ := okAll_one ho
      cases x <;> simp only [okAll, litOk, Bool.and_eq_true, decide_eq_true_eq, Bool.and_true, Bool.false_eq_true, Bool.false_and] at ho
      obtain ⟨rfl, hw⟩ := ho
      simp [hu, Lit.value, hw]
    · rename_i hu
      cases h
      obtain ⟨x, rfl⟩ := okAll_one ho
      cases x <;> simp only [okAll, litOk, decide_eq_true_eq, Bool.and_true, Bool.false_eq_true, Bool.false_and] at ho
      simp [hu, Lit.value, ByteArray.size, ho]
    · rename_i n e hu
      split at h
      · rename_i l hl
        split at h
        · rename_i hb
          cases h
          simp only [Bool.and_eq_true] at hb
          have h1 := Nat.eq_of_beq_eq_true hb.1
          have h2 := Nat.eq_of_beq_eq_true hb.2
          simp only [hu]
          have hlen := okAll_len ho
          rw [if_pos (by rw [List.length_map, hlen, List.length_flatten]; simp [h2, ← h1] )]
          have key : ∀ (m i : Nat) (pre ls : List Lit), pre.length = i * l.length → okAll (List.replicate m l).flatten ls = true →
              ∃ out, (List.range' i m).mapM (fun i => P.keyLits d e ((((pre ++ ls).map Lit.value).drop (i * P.cellsOf e)).take (P.cellsOf e))) = some out ∧ out.flatten = ls := by
            intro m
            induction m with
            | zero =>
              intro i pre ls _ ho
              have : ls = [] := by have := okAll_len ho; simpa using this
              subst this
              exact ⟨[], by simp, rfl⟩
            | succ m ih =>
              intro i pre ls hp ho
              rw [List.replicate_succ, List.flatten_cons] at ho
              obtain ⟨x, y, rfl, hx, hy⟩ := okAll_split ho
              have lx := okAll_len hx
              obtain ⟨out, ho1, ho2⟩ := ih (i + 1) (pre ++ x) y (by rw [List.length_append, hp, lx, Nat.succ_mul]) hy
              refine ⟨x :: out, ?_, by rw [List.flatten_cons, ho2]⟩
              rw [List.range'_succ, List.mapM_cons]
              have e1 : ((((pre ++ (x ++ y)).map Lit.value).drop (i * P.cellsOf e)).take (P.cellsOf e)) = x.map Lit.value := by
                rw [← h1, ← hp, List.map_append, List.drop_left' (by simp), List.map_append, List.take_left' (by simp [lx])]
              rw [e1, keyLits_flat d e l x hl hx]
              rw [List.append_assoc] at ho1
              rw [ho1]; rfl
          obtain ⟨out, h3, h4⟩ := key n 0 [] ls (by simp) ho
          rw [List.range_eq_range']
          simp only [List.nil_append] at h3
          rw [h3]; simp [h4]
        · cases h
      · cases h
    · rename_i fs hu
      split at h
      · rename_i l hl
        split at h
        · rename_i hb
          cases h
          have h1 := Nat.eq_of_beq_eq_true hb
          have hlen := okAll_len ho
          have key : ∀ (fl : List Field) (off : Nat) (k : List Lf) (pre ls : List Lit), flatFs P (flat P d) fl off = some k → pre.length = off → okAll k ls = true →
              (fl.all (·.name != "_") = true) ∧ ∃ out, fl.mapM (fun f => P.keyLits d f.type ((((pre ++ ls).map Lit.value).drop f.offset).take (P.cellsOf f.type))) = some out ∧ out.flatten = ls := by
            intro fl
            induction fl with
            | nil =>
              intro off k pre ls hk _ ho
              cases hk
              have : ls = [] := by have := okAll_len ho; simpa using this
              subst this
              exact ⟨rfl, [], by simp, rfl⟩
            | cons f fl ih =>
              intro off k pre ls hk hp ho
              unfold flatFs at hk
              split at hk
              · rename_i hn
                simp only [Bool.and_eq_true] at hn
                have hoff := Nat.eq_of_beq_eq_true hn.2
                split at hk
                · rename_i kl hkl
                  split at hk
                  · rename_i hb2
                    have h2 := Nat.eq_of_beq_eq_true hb2
                    split at hk
                    · rename_i kr hkr
                      cases hk
                      obtain ⟨x, y, rfl, hx, hy⟩ := okAll_split ho
                      have lx := okAll_len hx
                      obtain ⟨hn2, out, ho1, ho2⟩ := ih (off + kl.length) kr (pre ++ x) y hkr (by rw [List.length_append, hp, lx]) hy
                      refine ⟨by rw [List.all_cons, hn.1, hn2]; rfl, x :: out, ?_, by rw [List.flatten_cons, ho2]⟩
                      rw [List.mapM_cons]
                      have e1 : ((((pre ++ (x ++ y)).map Lit.value).drop f.offset).take (P.cellsOf f.type)) = x.map Lit.value := by
                        rw [hoff, ← h2, ← hp, List.map_append, List.drop_left' (by simp), List.map_append, List.take_left' (by simp [lx])]
                      rw [e1, keyLits_flat d f.type kl x hkl hx]
                      rw [List.append_assoc] at ho1
                      rw [ho1]; rfl
                    · cases hk
                  · cases hk
                · cases hk
              · cases hk
          obtain ⟨hn, out, h3, h4⟩ := key fs.toList 0 ks [] ls hl rfl ho
          simp only [hu]
          rw [if_pos ⟨by rw [List.length_map, hlen, h1], by rw [← Array.all_toList]; exact hn⟩]
          simp only [List.nil_append] at h3
          rw [h3]; simp [h4]
        · cases h
      · cases h
    · cases h

theorem flat_len {P : Program} {d : Nat} {t : TypeId} {ks : List Lf} (ha : isArr P t = true) (h : flat P d t = some ks) : ks.length = P.cellsOf t := by
  cases d with
  | zero => cases h
  | succ d =>
    unfold flat at h
    unfold isArr at ha
    split at h
    · rename_i hu; rw [hu] at ha; cases ha
    · rename_i hu; rw [hu] at ha; cases ha
    · rename_i hu; rw [hu] at ha; cases ha
    · split at h
      · rename_i l hl
        split at h
        · rename_i hb
          cases h
          simp only [Bool.and_eq_true] at hb
          rw [← Nat.eq_of_beq_eq_true hb.2]; simp [List.length_flatten]
        · cases h
      · cases h
    · split at h
      · split at h
        · rename_i hb; cases h; exact Nat.eq_of_beq_eq_true hb
        · cases h
      · cases h
    · cases h

theorem equal_flat {P : Program} {d m : Nat} {t : TypeId} {ks : List Lf} (ha : isArr P t = true) (hf : flat P d t = some ks) (hk : P.keyTypeAt m t = true) (hm : m ≤ 10000) {lx ly : List Lit} (ox : okAll ks lx = true) (oy : okAll ks ly = true) {c : Bool} (hc : c = true ↔ lx = ly) (w : World) :
    (Op.equal t (.agg (lx.map Lit.value).toArray) (.agg (ly.map Lit.value).toArray)).run P w = .ok c w := by
  have hform : ∀ l : List Lit, okAll ks l = true → (Value.agg (l.map Lit.value).toArray).formed P t = true := fun l hl => by
    have := okAll_len hl
    have h2 := flat_len ha hf
    unfold Value.formed
    unfold isArr at ha
    split at ha
    · rename_i hu; rw [hu]; simp [this, h2]
    · rename_i hu; rw [hu]; simp [this, h2]
    · cases ha
  obtain ⟨r, hr, hiff⟩ := run_equalIn_deep (P := P) (10000 - m) m t hk w d d _ _ lx ly (hform lx ox) (hform ly oy) (by simpa [Value.cells] using keyLits_flat d t ks lx hf ox) (by simpa [Value.cells] using keyLits_flat d t ks ly hf oy)
  rw [show 10000 - m + m = 10000 by omega] at hr
  have : r = c := by
    cases r <;> cases c <;> simp_all
  rw [← this]
  exact hr

theorem wf64 {n : Int} (h0 : -9223372036854775808 ≤ n) (h1 : n ≤ 9223372036854775807) : (Lit.int .i64 n).wf = true := by
  simp only [Lit.wf, Bool.and_eq_true, decide_eq_true_eq]
  exact ⟨h0, h1⟩
theorem wfI {n : Int} (h : -9223372036854775808 ≤ n ∧ n ≤ 9223372036854775807) : (Lit.int .i64 n).wf = true := wf64 h.1 h.2
theorem ok64 : ∀ (n : Nat) (l : List Int), l.length = n → (∀ x ∈ l, -9223372036854775808 ≤ x ∧ x ≤ 9223372036854775807) → okAll (List.replicate n (.int .i64)) (l.map (Lit.int .i64)) = true
  | 0, [], _, _ => rfl
  | n + 1, x :: l, h, hr => by
    have h1 := wfI (hr x (by simp))
    have h2 := ok64 n l (by simpa using h) (fun y hy => hr y (by simp [hy]))
    rw [List.replicate_succ, List.map_cons]
    simp only [okAll, litOk, decide_true, Bool.true_and, Bool.and_eq_true]
    exact ⟨h1, h2⟩

section
variable {P : Program} {d m : Nat} {t : TypeId} {ks : List Lf} (ha : isArr P t = true) (hf : flat P d t = some ks) (hk : P.keyTypeAt m t = true) (hm : m ≤ 10000) (hg : P.eqGuardType P.depth t = false)
include ha hf hk hm hg
theorem EqV_eql {lx ly : List Lit} (ox : okAll ks lx = true) (oy : okAll ks ly = true) {cx cy : Array Value} (ex : cx = (lx.map Lit.value).toArray) (ey : cy = (ly.map Lit.value).toArray) {K : Bool → Prop} (c : Bool) (hc : c = true ↔ lx = ly) (k : K c) : EqV P .eql t (.agg cx) (.agg cy) K := by
  subst ex; subst ey
  refine ⟨_, k, fun xo yo w => ?_⟩
  have h := equal_flat ha hf hk hm ox oy hc w
  simp [eqGuard, binOp, h, hg]
theorem EqV_neq {lx ly : List Lit} (ox : okAll ks lx = true) (oy : okAll ks ly = true) {cx cy : Array Value} (ex : cx = (lx.map Lit.value).toArray) (ey : cy = (ly.map Lit.value).toArray) {K : Bool → Prop} (c : Bool) (hc : c = true ↔ lx = ly) (k : K (!c)) : EqV P .neq t (.agg cx) (.agg cy) K := by
  subst ex; subst ey
  refine ⟨_, k, fun xo yo w => ?_⟩
  have h := equal_flat ha hf hk hm ox oy hc w
  simp [eqGuard, binOp, h, hg]
end

/-- What a type of i64 cells alone must be. -/
def plain64 (P : Program) (t : TypeId) (n : Nat) : Prop := isArr P t = true ∧ flat P 9 t = some (List.replicate n (.int .i64)) ∧ P.keyTypeAt 9 t = true ∧ P.eqGuardType P.depth t = false

theorem map64 (l : List Int) : (l.map (Lit.int .i64)).map Lit.value = l.map (Value.int .i64) := by rw [List.map_map]; rfl
theorem inj64 {a b : List Int} : a.map (Lit.int .i64) = b.map (Lit.int .i64) ↔ a = b := by
  constructor
  · intro h
    have : ∀ {a b : List Int}, a.map (Lit.int .i64) = b.map (Lit.int .i64) → a = b := by
      intro a
      induction a with
      | nil => intro b h; cases b with
        | nil => rfl
        | cons _ _ => simp at h
      | cons x a ih => intro b h; cases b with
        | nil => simp at h
        | cons y b => simp at h; rw [h.1, ih (by simpa using h.2)]
    exact this h
  · intro h; rw [h]

theorem EqI_eql {P : Program} {t : TypeId} {n : Nat} (hp : plain64 P t n) {a b : List Int} (la : a.length = n) (lb : b.length = n) (ra : ∀ x ∈ a, -9223372036854775808 ≤ x ∧ x ≤ 9223372036854775807) (rb : ∀ x ∈ b, -9223372036854775808 ≤ x ∧ x ≤ 9223372036854775807)
    {cx cy : Array Value} (ex : cx = (a.map (Value.int .i64)).toArray) (ey : cy = (b.map (Value.int .i64)).toArray) {K : Bool → Prop} (k : K (decide (a = b))) : EqV P .eql t (.agg cx) (.agg cy) K :=
  EqV_eql hp.1 hp.2.1 hp.2.2.1 (by omega) hp.2.2.2 (ok64 n a la ra) (ok64 n b lb rb) (by rw [map64]; exact ex) (by rw [map64]; exact ey) _ (by rw [inj64]; simp) k
theorem EqI_neq {P : Program} {t : TypeId} {n : Nat} (hp : plain64 P t n) {a b : List Int} (la : a.length = n) (lb : b.length = n) (ra : ∀ x ∈ a, -9223372036854775808 ≤ x ∧ x ≤ 9223372036854775807) (rb : ∀ x ∈ b, -9223372036854775808 ≤ x ∧ x ≤ 9223372036854775807)
    {cx cy : Array Value} (ex : cx = (a.map (Value.int .i64)).toArray) (ey : cy = (b.map (Value.int .i64)).toArray) {K : Bool → Prop} (k : K (!decide (a = b))) : EqV P .neq t (.agg cx) (.agg cy) K :=
  EqV_neq hp.1 hp.2.1 hp.2.2.1 (by omega) hp.2.2.2 (ok64 n a la ra) (ok64 n b lb rb) (by rw [map64]; exact ex) (by rw [map64]; exact ey) _ (by rw [inj64]; simp) k

end Go.Hw
