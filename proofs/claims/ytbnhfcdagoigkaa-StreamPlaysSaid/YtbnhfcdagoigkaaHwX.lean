/- The frame of the proofs: the library's sorted keys of a map whose keys are ints. -/
import Derived.Test.YtbnhfcdagoigkaaHwK
import Derived.Test.YtbnhfcdagoigkaaLay
set_option maxRecDepth 100000
set_option linter.unusedSimpArgs false
set_option linter.unusedVariables false
set_option linter.unnecessarySimpa false
set_option linter.unusedSectionVars false
namespace Go.Hw
open Go Go.Proofs Go.Proofs.Ytbnhfcdagoigkaa.Lib Go.RowKit Go.Maps Go.Sort Go.Shelf
open Go.WideElems (Fit rd rg)

theorem nodup_len : ∀ (N : Nat) (l : List Nat), l.Nodup → (∀ x ∈ l, x < N) → l.length ≤ N
  | 0, [], _, _ => by simp
  | 0, x :: _, _, h => absurd (h x (by simp)) (by omega)
  | N + 1, l, hn, h => by
    have := nodup_len N (l.erase N) (hn.erase N) fun x hx => by
      rw [hn.mem_erase_iff] at hx
      have := h x hx.2
      have := hx.1
      omega
    rw [List.length_erase] at this
    split at this <;> omega

/-- The keys of a map, sorted. -/
structure KeysOf (m : Int → Option Value) (ks : List Int) : Prop where
  up : ks.Pairwise (fun a b => a < b)
  mem : ∀ k, k ∈ ks ↔ (m k).isSome = true

theorem okk_len {l : List (Int × Value × Nat)} {clock : Nat} {m : Int → Option Value} (h : OkK l clock m) {N : Nat} (hd : ∀ k, (m k).isSome = true → 0 ≤ k ∧ k < N) : l.length ≤ N ∧ ∀ x ∈ l, 0 ≤ x.1 ∧ x.1 < N := by
  have hmem : ∀ x ∈ l, 0 ≤ x.1 ∧ x.1 < N := fun x hx => by
    apply hd
    rw [← h.get, getK_mem h.nd hx]; rfl
  refine ⟨?_, hmem⟩
  have hn : ((l.map (·.1)).map Int.toNat).Nodup := by
    rw [List.nodup_iff_pairwise_ne, List.pairwise_map]
    have := h.nd
    rw [List.nodup_iff_pairwise_ne] at this
    refine this.imp_of_mem ?_
    intro a b ha hb hne e
    obtain ⟨x, hx, rfl⟩ := List.mem_map.1 ha
    obtain ⟨y, hy, rfl⟩ := List.mem_map.1 hb
    have := hmem x hx
    have := hmem y hy
    omega
  have := nodup_len N _ hn fun x hx => by
    obtain ⟨y, hy, rfl⟩ := List.mem_map.1 hx
    obtain ⟨z, hz, rfl⟩ := List.mem_map.1 hy
    have := hmem z hz
    omega
  simpa using this

def rNo : Value → Option (DataW Unit × List MemPlace) := fun _ => some (.lit (.bool true), [])

theorem okk_fit {P : Program} {k : TypeId} (hk : P.underlying k = some (.int .i64)) {l : List (Int × Value × Nat)} {clock : Nat} {m : Int → Option Value} (h : OkK l clock m) {N : Nat} (hN : N ≤ 1048576) (hd : ∀ k, (m k).isSome = true → 0 ≤ k ∧ k < N) :
    Fit P k rNo (l.map entK).toArray clock ∧ (l.map entK).map (rg P k rNo) = l.map fun x => (Lit.int .i64 x.1, DataW.lit (.bool true)) := by
  obtain ⟨h1, h2⟩ := okk_len h hd
  have hrd : ∀ x ∈ l, rd P k rNo (entK x) = some (Lit.int .i64 x.1, DataW.lit (.bool true)) := fun x hx => by
    have := h2 x hx
    have hw : (Lit.int .i64 x.1).wf = true := by
      have e : (Lit.int .i64 x.1).wf = decide (-9223372036854775808 ≤ x.1 ∧ x.1 ≤ 9223372036854775807) := by
        simp [Lit.wf, IntKind.min, IntKind.max, IntKind.bits, IntKind.signed]
      rw [e, decide_eq_true_eq]; omega
    refine Go.WideElems.rd_mk (yv := (DataW.lit (.bool true), [])) (kl := Lit.int .i64 x.1) ?_ rfl
    simp [keyOf, mapKey, hk, hw]
  refine ⟨⟨?_, ⟨fun x hx => ?_, ?_, ?_⟩, fun x hx => ?_⟩, ?_⟩
  · simp only [List.size_toArray, List.length_map]
    exact Nat.le_trans h1 (Nat.le_trans hN (by decide))
  · obtain ⟨y, hy, rfl⟩ := List.mem_map.1 hx
    exact h.bl y hy
  · have := h.bn
    simpa [List.map_map, Function.comp_def, entK] using this
  · rw [List.map_map]
    have := h.nd
    rw [List.nodup_iff_pairwise_ne, List.pairwise_map] at this ⊢
    exact this.imp fun hne e => hne (by simpa [entK] using e)
  · obtain ⟨y, hy, rfl⟩ := List.mem_map.1 hx
    exact ⟨_, hrd y hy⟩
  · rw [List.map_map]
    exact List.map_congr_left fun x hx => Go.WideElems.rg_of (hrd x hx)

theorem sorts (m : Nat) : AnyZI.SortsIn Try.prog sortedI_ren Fence.wide m :=
  ⟨fun blk off cap ss W hH hblk hsz => callsIn_wide.2 (AnyM.slices_Sort_int sortI blk off cap ss W hH hblk hsz), fun p cap W => callsIn_wide.2 (AnyM.slices_Sort_int_none sortI p cap W)⟩

/-- A map's keys, as something to go through. -/
theorem Keys_string (r : Nat) (H : Hp) : HCalls Try.prog 71 #[.map (some r)] H fun v H' =>
    ∃ b, H b = none ∧ v = .func (.func 85) #[] #[.pointer (some ⟨b, 0, none⟩)] ∧ H' = H.set b (.obj (.cells #[.map (some r)] 32)) := fun w hw => by
  have c : CallsIn Fence.wide 5 Try.prog 71 #[.map (some r)] w fun e w' => e = .returned (.func (.func 85) #[] #[.pointer (some ⟨w.heap.size, 0, none⟩)]) ∧ w' = w.alloc (.cells #[.map (some r)] 32) :=
    AnyZI.keys_in keys_string Fence.wide 5 trivial rfl (some r) w
  refine (callsIn_wide.1 c).mono ?_
  rintro e w' ⟨rfl, rfl⟩
  obtain ⟨hn, hA⟩ := (At.refl hw).new (o := .obj (.cells #[.map (some r)] 32)) (x := .cells #[.map (some r)] 32) rfl
  exact ⟨_, _, rfl, ⟨w.heap.size, hn, rfl, rfl⟩, hA⟩

theorem Sorted_string {r b clock : Nat} {l : List (Int × Value × Nat)} {m : Int → Option Value} (hok : OkK l clock m) {N : Nat} (hN : N ≤ 1048576) (hd : ∀ k, (m k).isSome = true → 0 ≤ k ∧ k < N) (H : Hp) (hr : H r = some (kmap l clock)) (hb : H b = some (.obj (.cells #[.map (some r)] 32))) :
    HCalls Try.prog 36 #[.func (.func 85) #[] #[.pointer (some ⟨b, 0, none⟩)]] H fun v H' =>
      ∃ ks, KeysOf m ks ∧ ks.length ≤ N ∧ ((ks = [] ∧ v = .slice none 0 0 ∧ H' = H) ∨ ∃ b' cap, v = .slice (some ⟨b', 0, none⟩) ks.length cap ∧ ks.length ≤ cap ∧ H b' = none ∧ H' = H.set b' (.row (ks.map (Value.int .i64)) 3 cap)) := fun w hw => by
  have hu : Try.prog.underlying 3 = some (.int .i64) := by kernel_rfl
  obtain ⟨hfit, hrg⟩ := okk_fit (P := Try.prog) (k := 3) hu hok hN hd
  obtain ⟨hlen, hmem⟩ := okk_len hok hd
  have hheap := kmap.heap hr hw
  have hbh : w.heap[b]? = some (.cells #[.map (some r)] 32 (0, 0)) := by
    obtain ⟨o, ho, hh⟩ := hw _ _ hb
    cases hh
    exact ho
  have hown : w.ownsMap Try.prog 3 rNo r l.length (.map ((((l.map entK).toArray.toList).map (rg Try.prog 3 rNo)).foldr DataW.insert [])) := ⟨_, clock, hheap, hfit, by simp, rfl⟩
  rw [List.toList_toArray, hrg] at hown
  have hperm := Go.WideShapes.sorted_perm (l.map fun x => (Lit.int .i64 x.1, (DataW.lit (.bool true) : DataW Unit)))
  have hik : (intKeys (.map ((l.map fun x => (Lit.int .i64 x.1, (DataW.lit (.bool true) : DataW Unit))).foldr DataW.insert []))).Perm (l.map (·.1)) := by
    have := hperm.map fun p => intOf p.1
    rw [List.map_map] at this
    exact this
  have hsize : Maps.size (DataW.map ((l.map fun x => (Lit.int .i64 x.1, (DataW.lit (.bool true) : DataW Unit))).foldr DataW.insert [])) = l.length := by
    have := hperm.length_eq
    rw [List.length_map] at this
    exact this
  have hseq : SeqGives Fence.wide 2 Try.prog 85 #[.pointer (some ⟨b, 0, none⟩)] encZ (fun ss => ss.Perm (intKeys _)) (Maps.size _) w :=
    AnyZI.keys_gives (ρ := keys_string_ren) { keys_string with } Fence.wide _ trivial rfl (by omega) b r l.length _ w (Array.getElem?_eq_some_iff.1 hbh).1 (by simp [World.cell?, hbh]) hown
  have cS := AnyZI.sorted_in sortedI Fence.wide 5 trivial trivial trivial trivial rfl (by omega) (sorts _) (enters_of Try.func69 (by kernel_rfl) rfl) 85 #[.pointer (some ⟨b, 0, none⟩)] trivial (enters_of Try.func85 (by kernel_rfl) rfl) _ _ (by rw [hsize]; exact Nat.le_trans hlen (Nat.le_trans hN (by decide))) (by rw [hsize]; omega) w hseq
  change CallsIn _ _ Try.prog 36 _ _ _ at cS
  refine (callsIn_wide.1 cS).mono ?_
  rintro e w' ⟨v, ss, rfl, hS, hrow, hnil, hbel⟩
  have hp : (ss.mergeSort fun x y => decide (x ≤ y)).Perm (l.map (·.1)) := (List.mergeSort_perm _ _).trans (hS.trans hik)
  have hks : KeysOf m (ss.mergeSort fun x y => decide (x ≤ y)) := by
    refine ⟨?_, fun k => ?_⟩
    · have h1 := List.pairwise_mergeSort (le := fun x y : Int => decide (x ≤ y)) (fun a b c h1 h2 => by simp only [decide_eq_true_eq] at *; omega) (fun a b => by simp only [Bool.or_eq_true, decide_eq_true_eq]; omega) ss
      have h2 : (ss.mergeSort fun x y => decide (x ≤ y)).Nodup := hp.nodup_iff.2 hok.nd
      rw [List.nodup_iff_pairwise_ne] at h2
      refine (h1.and h2).imp ?_
      rintro a b ⟨h3, h4⟩
      simp only [decide_eq_true_eq] at h3
      omega
    · rw [hp.mem_iff, ← hok.get]
      constructor
      · intro hk
        obtain ⟨x, hx, rfl⟩ := List.mem_map.1 hk
        rw [getK_mem hok.nd hx]; rfl
      · intro hk
        cases hg : getK l k with
        | none => rw [hg] at hk; cases hk
        | some v =>
          obtain ⟨b, hb⟩ := getK_some hg
          exact List.mem_map.2 ⟨_, hb, rfl⟩
  have hkl : (ss.mergeSort fun x y => decide (x ≤ y)).length = ss.length := List.length_mergeSort _
  have hsl : ss.length ≤ N := by
    rw [← hkl, hp.length_eq, List.length_map]; exact hlen
  obtain ⟨hxl, hcase⟩ := hrow
  rcases hcase with ⟨rfl, h0⟩ | ⟨g, cap, cur, rfl, hg, hgh, hnc, hcm, hcs, htk⟩
  · have hss : ss = [] := hnil.1 rfl
    refine ⟨_, H, rfl, ⟨_, hks, by omega, .inl ⟨List.length_eq_zero_iff.1 (by rw [hkl, hss]; rfl), rfl, rfl⟩⟩, ?_⟩
    exact ⟨fun i o hi => by
      obtain ⟨o', h1, h2⟩ := hw i o hi
      exact ⟨o', (hbel.block i (Array.getElem?_eq_some_iff.1 h1).1).trans h1, h2⟩, hbel.size, hbel.os, hbel.tape, hbel.output, fun i hi h0 => ⟨h0, hbel.block i hi⟩⟩
  · have hgn : H g = none := by
      cases hx : H g with
      | none => rfl
      | some o =>
        obtain ⟨o', h1, _⟩ := hw g o hx
        have := (Array.getElem?_eq_some_iff.1 h1).1
        omega
    rw [Nat.mul_one] at hcs htk
    refine ⟨_, H.set g (.row ((ss.mergeSort fun x y => decide (x ≤ y)).map (Value.int .i64)) 3 cap), rfl, ⟨_, hks, by omega, .inr ⟨g, cap, by rw [hkl], by omega, hgn, rfl⟩⟩, ?_⟩
    refine ⟨fun i o hi => ?_, hbel.size, hbel.os, hbel.tape, hbel.output, fun i hi h0 => ⟨?_, hbel.block i hi⟩⟩
    · by_cases hig : i = g
      · subst hig
        rw [Hp.set_same] at hi
        cases hi
        refine ⟨_, hgh, cur.toList.drop ss.length, 0, 0, ?_, ?_, .inl rfl⟩
        · rw [← htk, List.take_append_drop, Array.toArray_toList]; rfl
        · rw [← htk, List.take_append_drop, Array.length_toList]; exact hcs
      · rw [Hp.set_other _ _ hig] at hi
        obtain ⟨o', h1, h2⟩ := hw i o hi
        exact ⟨o', (hbel.block i (Array.getElem?_eq_some_iff.1 h1).1).trans h1, h2⟩
    · rw [Hp.set_other _ _ (by omega)]; exact h0

/-- .. whose values are ints. -/
theorem Keys_int (r : Nat) (H : Hp) : HCalls Try.prog 37 #[.map (some r)] H fun v H' =>
    ∃ b, H b = none ∧ v = .func (.func 70) #[] #[.pointer (some ⟨b, 0, none⟩)] ∧ H' = H.set b (.obj (.cells #[.map (some r)] 37)) := fun w hw => by
  have c : CallsIn Fence.wide 5 Try.prog 37 #[.map (some r)] w fun e w' => e = .returned (.func (.func 70) #[] #[.pointer (some ⟨w.heap.size, 0, none⟩)]) ∧ w' = w.alloc (.cells #[.map (some r)] 37) :=
    AnyZI.keys_in keys_int Fence.wide 5 trivial rfl (some r) w
  refine (callsIn_wide.1 c).mono ?_
  rintro e w' ⟨rfl, rfl⟩
  obtain ⟨hn, hA⟩ := (At.refl hw).new (o := .obj (.cells #[.map (some r)] 37)) (x := .cells #[.map (some r)] 37) rfl
  exact ⟨_, _, rfl, ⟨w.heap.size, hn, rfl, rfl⟩, hA⟩

theorem Sorted_int {r b clock : Nat} {l : List (Int × Value × Nat)} {m : Int → Option Value} (hok : OkK l clock m) {N : Nat} (hN : N ≤ 1048576) (hd : ∀ k, (m k).isSome = true → 0 ≤ k ∧ k < N) (H : Hp) (hr : H r = some (kmap l clock)) (hb : H b = some (.obj (.cells #[.map (some r)] 37))) :
    HCalls Try.prog 36 #[.func (.func 70) #[] #[.pointer (some ⟨b, 0, none⟩)]] H fun v H' =>
      ∃ ks, KeysOf m ks ∧ ks.length ≤ N ∧ ((ks = [] ∧ v = .slice none 0 0 ∧ H' = H) ∨ ∃ b' cap, v = .slice (some ⟨b', 0, none⟩) ks.length cap ∧ ks.length ≤ cap ∧ H b' = none ∧ H' = H.set b' (.row (ks.map (Value.int .i64)) 3 cap)) := fun w hw => by
  have hu : Try.prog.underlying 3 = some (.int .i64) := by kernel_rfl
  obtain ⟨hfit, hrg⟩ := okk_fit (P := Try.prog) (k := 3) hu hok hN hd
  obtain ⟨hlen, hmem⟩ := okk_len hok hd
  have hheap := kmap.heap hr hw
  have hbh : w.heap[b]? = some (.cells #[.map (some r)] 37 (0, 0)) := by
    obtain ⟨o, ho, hh⟩ := hw _ _ hb
    cases hh
    exact ho
  have hown : w.ownsMap Try.prog 3 rNo r l.length (.map ((((l.map entK).toArray.toList).map (rg Try.prog 3 rNo)).foldr DataW.insert [])) := ⟨_, clock, hheap, hfit, by simp, rfl⟩
  rw [List.toList_toArray, hrg] at hown
  have hperm := Go.WideShapes.sorted_perm (l.map fun x => (Lit.int .i64 x.1, (DataW.lit (.bool true) : DataW Unit)))
  have hik : (intKeys (.map ((l.map fun x => (Lit.int .i64 x.1, (DataW.lit (.bool true) : DataW Unit))).foldr DataW.insert []))).Perm (l.map (·.1)) := by
    have := hperm.map fun p => intOf p.1
    rw [List.map_map] at this
    exact this
  have hsize : Maps.size (DataW.map ((l.map fun x => (Lit.int .i64 x.1, (DataW.lit (.bool true) : DataW Unit))).foldr DataW.insert [])) = l.length := by
    have := hperm.length_eq
    rw [List.length_map] at this
    exact this
  have hseq : SeqGives Fence.wide 2 Try.prog 70 #[.pointer (some ⟨b, 0, none⟩)] encZ (fun ss => ss.Perm (intKeys _)) (Maps.size _) w :=
    AnyZI.keys_gives (ρ := keys_int_ren) { keys_int with } Fence.wide _ trivial rfl (by omega) b r l.length _ w (Array.getElem?_eq_some_iff.1 hbh).1 (by simp [World.cell?, hbh]) hown
  have cS := AnyZI.sorted_in sortedI Fence.wide 5 trivial trivial trivial trivial rfl (by omega) (sorts _) (enters_of Try.func69 (by kernel_rfl) rfl) 70 #[.pointer (some ⟨b, 0, none⟩)] trivial (enters_of Try.func70 (by kernel_rfl) rfl) _ _ (by rw [hsize]; exact Nat.le_trans hlen (Nat.le_trans hN (by decide))) (by rw [hsize]; omega) w hseq
  change CallsIn _ _ Try.prog 36 _ _ _ at cS
  refine (callsIn_wide.1 cS).mono ?_
  rintro e w' ⟨v, ss, rfl, hS, hrow, hnil, hbel⟩
  have hp : (ss.mergeSort fun x y => decide (x ≤ y)).Perm (l.map (·.1)) := (List.mergeSort_perm _ _).trans (hS.trans hik)
  have hks : KeysOf m (ss.mergeSort fun x y => decide (x ≤ y)) := by
    refine ⟨?_, fun k => ?_⟩
    · have h1 := List.pairwise_mergeSort (le := fun x y : Int => decide (x ≤ y)) (fun a b c h1 h2 => by simp only [decide_eq_true_eq] at *; omega) (fun a b => by simp only [Bool.or_eq_true, decide_eq_true_eq]; omega) ss
      have h2 : (ss.mergeSort fun x y => decide (x ≤ y)).Nodup := hp.nodup_iff.2 hok.nd
      rw [List.nodup_iff_pairwise_ne] at h2
      refine (h1.and h2).imp ?_
      rintro a b ⟨h3, h4⟩
      simp only [decide_eq_true_eq] at h3
      omega
    · rw [hp.mem_iff, ← hok.get]
      constructor
      · intro hk
        obtain ⟨x, hx, rfl⟩ := List.mem_map.1 hk
        rw [getK_mem hok.nd hx]; rfl
      · intro hk
        cases hg : getK l k with
        | none => rw [hg] at hk; cases hk
        | some v =>
          obtain ⟨b, hb⟩ := getK_some hg
          exact List.mem_map.2 ⟨_, hb, rfl⟩
  have hkl : (ss.mergeSort fun x y => decide (x ≤ y)).length = ss.length := List.length_mergeSort _
  have hsl : ss.length ≤ N := by
    rw [← hkl, hp.length_eq, List.length_map]; exact hlen
  obtain ⟨hxl, hcase⟩ := hrow
  rcases hcase with ⟨rfl, h0⟩ | ⟨g, cap, cur, rfl, hg, hgh, hnc, hcm, hcs, htk⟩
  · have hss : ss = [] := hnil.1 rfl
    refine ⟨_, H, rfl, ⟨_, hks, by omega, .inl ⟨List.length_eq_zero_iff.1 (by rw [hkl, hss]; rfl), rfl, rfl⟩⟩, ?_⟩
    exact ⟨fun i o hi => by
      obtain ⟨o', h1, h2⟩ := hw i o hi
      exact ⟨o', (hbel.block i (Array.getElem?_eq_some_iff.1 h1).1).trans h1, h2⟩, hbel.size, hbel.os, hbel.tape, hbel.output, fun i hi h0 => ⟨h0, hbel.block i hi⟩⟩
  · have hgn : H g = none := by
      cases hx : H g with
      | none => rfl
      | some o =>
        obtain ⟨o', h1, _⟩ := hw g o hx
        have := (Array.getElem?_eq_some_iff.1 h1).1
        omega
    rw [Nat.mul_one] at hcs htk
    refine ⟨_, H.set g (.row ((ss.mergeSort fun x y => decide (x ≤ y)).map (Value.int .i64)) 3 cap), rfl, ⟨_, hks, by omega, .inr ⟨g, cap, by rw [hkl], by omega, hgn, rfl⟩⟩, ?_⟩
    refine ⟨fun i o hi => ?_, hbel.size, hbel.os, hbel.tape, hbel.output, fun i hi h0 => ⟨?_, hbel.block i hi⟩⟩
    · by_cases hig : i = g
      · subst hig
        rw [Hp.set_same] at hi
        cases hi
        refine ⟨_, hgh, cur.toList.drop ss.length, 0, 0, ?_, ?_, .inl rfl⟩
        · rw [← htk, List.take_append_drop, Array.toArray_toList]; rfl
        · rw [← htk, List.take_append_drop, Array.length_toList]; exact hcs
      · rw [Hp.set_other _ _ hig] at hi
        obtain ⟨o', h1, h2⟩ := hw i o hi
        exact ⟨o', (hbel.block i (Array.getElem?_eq_some_iff.1 h1).1).trans h1, h2⟩
    · rw [Hp.set_other _ _ (by omega)]; exact h0

end Go.Hw
