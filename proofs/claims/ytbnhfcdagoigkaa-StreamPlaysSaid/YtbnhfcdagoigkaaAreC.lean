/- The law ArenaApart. -/
import Derived.Test.YtbnhfcdagoigkaaAreB
set_option maxRecDepth 100000
set_option linter.unusedSimpArgs false
set_option linter.unusedVariables false
set_option linter.unnecessarySimpa false
set_option linter.unusedSectionVars false
namespace Go.Proofs.Ytbnhfcdagoigkaa.Are
open Go Go.Hw Go.Proofs.Ytbnhfcdagoigkaa.W

theorem cell_ptr : cellInfo Try.prog 105 = some (1, 8, some #[.pointer none]) := by kernel_rfl

theorem Inv.next {H0 H H2 H4 : Hp} {a mp cl : Nat} {tk : List (Nat × Int × Nat)} {used peak : Int} {bs : List (Nat × Nat × Nat)} {A : Option Addr} {n m : Nat} (h : Inv H0 H a mp cl tk used peak bs A n m) {b rb w : Nat} (hw : 1 ≤ w ∧ w ≤ 64) {peak' : Int} (hrb : H rb = none) (hb : H b = none) (hbr : b ≠ rb)
    (h2 : H2 = ((((H.set rb (.row (zerosU64 w) 62 w)).set b (bufO a (some ⟨rb, 0, none⟩) w w)).set mp (mapO (tk ++ [(b, (w : Int), cl)]) (cl + 1))).set a (arenaO 1000 (used + w) peak' mp)).set rb (.row (vals bs.length w) 62 w))
    {b' c mm : Nat} (hb' : H0 b' = none) (h4 : H4 b' = some (.row ((bs ++ [(b, rb, w)]).map fun x => ptrV x.1) 105 mm)) (hc : c ≤ mm) (hk : ∀ q o, H2 q = some o → (∀ ab, A = some ⟨ab, 0, none⟩ → q ≠ ab) → H4 q = some o) :
    Inv H0 H4 a mp (cl + 1) (tk ++ [(b, (w : Int), cl)]) (used + w) peak' (bs ++ [(b, rb, w)]) (some ⟨b', 0, none⟩) (n + 1) c := by
  have har : a ≠ rb := fun e => by have := h.ha; rw [e, hrb] at this; cases this
  have hab : a ≠ b := fun e => by have := h.ha; rw [e, hb] at this; cases this
  have hmr : mp ≠ rb := fun e => by have := h.hm; rw [e, hrb] at this; cases this
  have hmb : mp ≠ b := fun e => by have := h.hm; rw [e, hb] at this; cases this
  have hne := h.ne
  have keep1 : ∀ q o, H q = some o → q ≠ a → q ≠ mp → H2 q = some o := fun q o hq h5 h6 => by
    have h7 : q ≠ rb := fun e => by rw [e, hrb] at hq; cases hq
    have h8 : q ≠ b := fun e => by rw [e, hb] at hq; cases hq
    rw [h2, Hp.set_other _ _ h7, Hp.set_other _ _ h5, Hp.set_other _ _ h6, Hp.set_other _ _ h8, Hp.set_other _ _ h7]
    exact hq
  have ga : H2 a = some (arenaO 1000 (used + w) peak' mp) := by rw [h2, Hp.set_other _ _ har]; exact Hp.set_same _ _ _
  have gm : H2 mp = some (mapO (tk ++ [(b, (w : Int), cl)]) (cl + 1)) := by rw [h2, Hp.set_other _ _ hmr, Hp.set_other _ _ (Ne.symm hne)]; exact Hp.set_same _ _ _
  have gb : H2 b = some (bufO a (some ⟨rb, 0, none⟩) w w) := by rw [h2, Hp.set_other _ _ hbr, Hp.set_other _ _ (Ne.symm hab), Hp.set_other _ _ (Ne.symm hmb)]; exact Hp.set_same _ _ _
  have gr : H2 rb = some (.row (vals bs.length w) 62 w) := by rw [h2]; exact Hp.set_same _ _ _
  have hA : ∀ ab, A = some ⟨ab, 0, none⟩ → H0 ab = none ∧ ∃ mm, H ab = some (.row (bs.map fun x => ptrV x.1) 105 mm) := fun ab e => by
    rcases h.all with ⟨h5, _⟩ | ⟨ab', mm', h5, h6, h7, _⟩
    · rw [h5] at e; cases e
    · rw [h5] at e; cases e; exact ⟨h6, mm', h7⟩
  have isRow : ∀ q o, H q = some o → (∀ xs mm, o ≠ .row xs 105 mm) → ∀ ab, A = some ⟨ab, 0, none⟩ → q ≠ ab := fun q o hq hno ab e e2 => by
    obtain ⟨_, mm, h7⟩ := hA ab e
    rw [e2, h7] at hq; cases hq
    exact hno _ _ rfl
  have fresh : ∀ q, H q = none → ∀ ab, A = some ⟨ab, 0, none⟩ → q ≠ ab := fun q hq ab e e2 => by
    obtain ⟨_, mm, h7⟩ := hA ab e
    rw [e2, h7] at hq; cases hq
  refine ⟨fun q o hq => ?_, hne, hk _ _ ga (isRow a _ h.ha (fun _ _ => by unfold arenaO; intro e; cases e)), h.ha0, hk _ _ gm (isRow mp _ h.hm (fun _ _ => by unfold mapO; intro e; cases e)), h.hm0, fun x hx => ?_, fun j x hj => ?_, ?_, .inr ⟨b', mm, rfl, hb', h4, hc⟩⟩
  · have h5 : q ≠ a := fun e => by rw [e, h.ha0] at hq; cases hq
    have h6 : q ≠ mp := fun e => by rw [e, h.hm0] at hq; cases hq
    exact hk _ _ (keep1 q o (h.le _ _ hq) h5 h6) (fun ab e e2 => by rw [e2, (hA ab e).1] at hq; cases hq)
  · rcases List.mem_append.1 hx with hx | hx
    · obtain ⟨c', e', h9⟩ := h.hl x hx
      by_cases e1 : x.1 = a
      · exact ⟨_, _, by rw [e1]; exact hk _ _ ga (isRow a _ h.ha (fun _ _ => by unfold arenaO; intro e; cases e))⟩
      · have e3 : x.1 ≠ mp := fun e => by have := h.hm; rw [← e, h9] at this; unfold mapO at this; cases this
        exact ⟨_, _, hk _ _ (keep1 _ _ h9 e1 e3) (isRow _ _ h9 (fun _ _ => by intro e; cases e))⟩
    · simp at hx; subst hx
      exact ⟨_, _, hk _ _ gb (fresh b hb)⟩
  · rw [List.getElem?_append] at hj
    split at hj
    · obtain ⟨g1, g2, g3⟩ := h.hb j x hj
      have e1 : x.1 ≠ a := fun e => by rw [e, h.ha] at g1; unfold arenaO bufO at g1; cases g1
      have e2 : x.1 ≠ mp := fun e => by rw [e, h.hm] at g1; unfold mapO bufO at g1; cases g1
      have e3 : x.2.1 ≠ a := fun e => by rw [e, h.ha] at g2; unfold arenaO at g2; cases g2
      have e4 : x.2.1 ≠ mp := fun e => by rw [e, h.hm] at g2; unfold mapO at g2; cases g2
      exact ⟨hk _ _ (keep1 _ _ g1 e1 e2) (isRow _ _ g1 (fun _ _ => by unfold bufO; intro e; cases e)), hk _ _ (keep1 _ _ g2 e3 e4) (isRow _ _ g2 (fun _ _ => by intro e; cases e)), g3⟩
    · rename_i hlt
      have hj0 : j = bs.length := by
        have := (List.getElem?_eq_some_iff.1 hj).1
        simp at this; omega
      subst hj0
      simp at hj; subst hj
      exact ⟨hk _ _ gb (fresh b hb), hk _ _ gr (fresh rb hrb), hw.2⟩
  · rw [List.length_append, h.hn]; rfl

end Go.Proofs.Ytbnhfcdagoigkaa.Are
