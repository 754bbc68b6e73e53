/-
  No cell of these rows narrows 'for every input' (looked for: loops, veiled, ifaces, maps, wideKeys, modest, calm, conditions, laid).
  DERIVED. THE GIVEN ROWS OF THIS SEAT. 5 by the template 'for every input the law returns true; each argument reads behind the call as it read before'; 0 by the template 'total and deterministic' (their statements: YtgkdkemhiglpdaaTotals.lean).
  GIVEN WITH THE SEED: the statements are not yours to turn. If you find one false, say at which input.
  Laid BY PROGRAM, IN A SANDBOX (cutbox-rows.mjs): the forced cells as the released guide's own fill.sh prints them over the translation e306338084d9e7ba… (all of the seat's roots in one cut). By AI agents, Wed Nov 11 2026. No macro, syntax, notation, axiom, sorry.
-/
import Derived.Test.YtgkdkemhiglpdaaChecked
import GoSem.Claim
import GoSem.ClaimJoined
import GoSem.ClaimMapViews
import Derived.JoinedTies
import Derived.KernelRfl
namespace Go.Proofs.Ytgkdkemhiglpdaa
/- THE CELL 'sum', in the pinned program and in every row, IS THE sha256 OF THE DUMP (.gsa) THAT YtgkdkemhiglpdaaProg.lean LOADS. Nothing in Lean hashes anything: it is a label: what it is worth is what the hold of that sum in a sandbox is worth. -/
noncomputable def Try.pinned : Pinned := { name := "ytgkdkemhiglpdaa", sum := "e306338084d9e7baa341a154f736c5242e41d1135f6eae318cafc66b3f1b4ac5", checked := Try.checked }
namespace Rows
def none {H : Type} : Left H := { results := [], args := [] }

/-- 'abacistlaw18.SuperForms': WHATEVER THE INPUT: true; the input reads as it did. -/
def superFormsSpec : ChangeSpec := { name := "superForms", fn := fun _ => fun
  | [d1, d2] => { results := [.lit (.bool true)], args := [d1, d2] }
  | _ => none }
def superFormsRow : OpenClaim := { program := "ytgkdkemhiglpdaa", sum := "e306338084d9e7baa341a154f736c5242e41d1135f6eae318cafc66b3f1b4ac5", func := "abacist/abacistlaw18.SuperForms", spec := "superForms", apart := false }
def SuperFormsSaid : Prop := superFormsRow.holds Try.pinned (OpenSpec.ofChange superFormsSpec)

/-- ITS FALSE NEIGHBOUR: 'it returns false'. Refute it at one input. -/
def superFormsWrong : ChangeSpec := { name := "superForms", fn := fun _ => fun
  | [d1, d2] => { results := [.lit (.bool false)], args := [d1, d2] }
  | _ => none }
def SuperFormsWrongFalsely : Prop := superFormsRow.holds Try.pinned (OpenSpec.ofChange superFormsWrong)

/-- 'abacistlaw19.StreamCosts': WHATEVER THE INPUT: true; the input reads as it did. -/
def streamCostsSpec : ChangeSpec := { name := "streamCosts", fn := fun _ => fun
  | [d1, d2, d3] => { results := [.lit (.bool true)], args := [d1, d2, d3] }
  | _ => none }
def streamCostsRow : OpenClaim := { program := "ytgkdkemhiglpdaa", sum := "e306338084d9e7baa341a154f736c5242e41d1135f6eae318cafc66b3f1b4ac5", func := "abacist/abacistlaw19.StreamCosts", spec := "streamCosts", apart := false }
def StreamCostsSaid : Prop := streamCostsRow.holds Try.pinned (OpenSpec.ofChange streamCostsSpec)

/-- ITS FALSE NEIGHBOUR: 'it returns false'. Refute it at one input. -/
def streamCostsWrong : ChangeSpec := { name := "streamCosts", fn := fun _ => fun
  | [d1, d2, d3] => { results := [.lit (.bool false)], args := [d1, d2, d3] }
  | _ => none }
def StreamCostsWrongFalsely : Prop := streamCostsRow.holds Try.pinned (OpenSpec.ofChange streamCostsWrong)

/-- 'abacistlaw19.StreamCopies': WHATEVER THE INPUT: true; the input reads as it did. -/
def streamCopiesSpec : ChangeSpec := { name := "streamCopies", fn := fun _ => fun
  | [d1, d2, d3] => { results := [.lit (.bool true)], args := [d1, d2, d3] }
  | _ => none }
def streamCopiesRow : OpenClaim := { program := "ytgkdkemhiglpdaa", sum := "e306338084d9e7baa341a154f736c5242e41d1135f6eae318cafc66b3f1b4ac5", func := "abacist/abacistlaw19.StreamCopies", spec := "streamCopies", unfollowed := true, recurses := true, apart := false }
def StreamCopiesSaid : Prop := streamCopiesRow.holds Try.pinned (OpenSpec.ofChange streamCopiesSpec)

/-- ITS FALSE NEIGHBOUR: 'it returns false'. Refute it at one input. -/
def streamCopiesWrong : ChangeSpec := { name := "streamCopies", fn := fun _ => fun
  | [d1, d2, d3] => { results := [.lit (.bool false)], args := [d1, d2, d3] }
  | _ => none }
def StreamCopiesWrongFalsely : Prop := streamCopiesRow.holds Try.pinned (OpenSpec.ofChange streamCopiesWrong)

/-- 'abacistlaw15.DiskMakes': WHATEVER THE INPUT: true; the input reads as it did. -/
def diskMakesSpec : ChangeSpec := { name := "diskMakes", fn := fun _ => fun
  | [d1, d2] => { results := [.lit (.bool true)], args := [d1, d2] }
  | _ => none }
def diskMakesRow : OpenClaim := { program := "ytgkdkemhiglpdaa", sum := "e306338084d9e7baa341a154f736c5242e41d1135f6eae318cafc66b3f1b4ac5", func := "abacist/abacistlaw15.DiskMakes", spec := "diskMakes", unfollowed := true, recurses := true, apart := false }
def DiskMakesSaid : Prop := diskMakesRow.holds Try.pinned (OpenSpec.ofChange diskMakesSpec)

/-- ITS FALSE NEIGHBOUR: 'it returns false'. Refute it at one input. -/
def diskMakesWrong : ChangeSpec := { name := "diskMakes", fn := fun _ => fun
  | [d1, d2] => { results := [.lit (.bool false)], args := [d1, d2] }
  | _ => none }
def DiskMakesWrongFalsely : Prop := diskMakesRow.holds Try.pinned (OpenSpec.ofChange diskMakesWrong)

/-- 'abacistlaw15.DiskSafe': WHATEVER THE INPUT: true; the input reads as it did. -/
def diskSafeSpec : ChangeSpec := { name := "diskSafe", fn := fun _ => fun
  | [d1, d2, d3] => { results := [.lit (.bool true)], args := [d1, d2, d3] }
  | _ => none }
def diskSafeRow : OpenClaim := { program := "ytgkdkemhiglpdaa", sum := "e306338084d9e7baa341a154f736c5242e41d1135f6eae318cafc66b3f1b4ac5", func := "abacist/abacistlaw15.DiskSafe", spec := "diskSafe", unfollowed := true, recurses := true, apart := false }
def DiskSafeSaid : Prop := diskSafeRow.holds Try.pinned (OpenSpec.ofChange diskSafeSpec)

/-- ITS FALSE NEIGHBOUR: 'it returns false'. Refute it at one input. -/
def diskSafeWrong : ChangeSpec := { name := "diskSafe", fn := fun _ => fun
  | [d1, d2, d3] => { results := [.lit (.bool false)], args := [d1, d2, d3] }
  | _ => none }
def DiskSafeWrongFalsely : Prop := diskSafeRow.holds Try.pinned (OpenSpec.ofChange diskSafeWrong)

/- THE SECOND FORM. 'bulk': how many values and letters a reading holds, each counted each time it is reached (what is shared counts as often as it is met; a slice's spare places count too). A statement '..UptoSaid' is the law's where the arguments, and the package variables that the reading takes, are together of bulk at most 1048576: NARROWER than '..Said'. Prove '..Said' where nothing that the law and all that it calls make is longer than what came in: it says more and counts as full. Else prove '..UptoSaid'. A law counts once. -/
mutual
def uptoBulk {H : Type} : DataW H → Nat
  | .lit (.string bytes) => bytes.length + 1
  | .lit _ => 1
  | .nil => 1
  | .ptr d => uptoBulk d + 1
  | .slice elems spare => uptoBulkAll elems + uptoBulkAll spare + 1
  | .agg parts => uptoBulkAll parts + 1
  | .iface _ d => uptoBulk d + 1
  | .map entries => uptoBulkEntries entries + 1
  | .held _ => 1
def uptoBulkAll {H : Type} : List (DataW H) → Nat
  | [] => 0
  | d :: r => uptoBulk d + uptoBulkAll r
def uptoBulkEntries {H : Type} : List (Lit × DataW H) → Nat
  | [] => 0
  | x :: r => uptoBulkEntry x + uptoBulkEntries r
def uptoBulkEntry {H : Type} : Lit × DataW H → Nat
  | (.string bytes, d) => bytes.length + uptoBulk d + 1
  | (_, d) => uptoBulk d + 1
 end
def uptoSmall : (H : Type) → List (DataW H) → Bool := fun _ ds => decide (uptoBulkAll ds ≤ 1048576)
def OpenSpec.upto (s : _root_.Go.ChangeSpec) : _root_.Go.OpenSpec := { _root_.Go.OpenSpec.ofChange s with cond := some uptoSmall }

/-- 'abacistlaw18.SuperForms', WHERE WHAT IT READS IS OF BULK AT MOST 1048576: true; the input reads as it did. -/
def superFormsUptoRow : OpenClaim := { program := "ytgkdkemhiglpdaa", sum := "e306338084d9e7baa341a154f736c5242e41d1135f6eae318cafc66b3f1b4ac5", func := "abacist/abacistlaw18.SuperForms", spec := "superForms", apart := false, narrowed := true }
def SuperFormsUptoSaid : Prop := superFormsUptoRow.holds Try.pinned (OpenSpec.upto superFormsSpec)

/-- 'abacistlaw19.StreamCosts', WHERE WHAT IT READS IS OF BULK AT MOST 1048576: true; the input reads as it did. -/
def streamCostsUptoRow : OpenClaim := { program := "ytgkdkemhiglpdaa", sum := "e306338084d9e7baa341a154f736c5242e41d1135f6eae318cafc66b3f1b4ac5", func := "abacist/abacistlaw19.StreamCosts", spec := "streamCosts", apart := false, narrowed := true }
def StreamCostsUptoSaid : Prop := streamCostsUptoRow.holds Try.pinned (OpenSpec.upto streamCostsSpec)

/-- 'abacistlaw19.StreamCopies', WHERE WHAT IT READS IS OF BULK AT MOST 1048576: true; the input reads as it did. -/
def streamCopiesUptoRow : OpenClaim := { program := "ytgkdkemhiglpdaa", sum := "e306338084d9e7baa341a154f736c5242e41d1135f6eae318cafc66b3f1b4ac5", func := "abacist/abacistlaw19.StreamCopies", spec := "streamCopies", unfollowed := true, recurses := true, apart := false, narrowed := true }
def StreamCopiesUptoSaid : Prop := streamCopiesUptoRow.holds Try.pinned (OpenSpec.upto streamCopiesSpec)

/-- 'abacistlaw15.DiskMakes', WHERE WHAT IT READS IS OF BULK AT MOST 1048576: true; the input reads as it did. -/
def diskMakesUptoRow : OpenClaim := { program := "ytgkdkemhiglpdaa", sum := "e306338084d9e7baa341a154f736c5242e41d1135f6eae318cafc66b3f1b4ac5", func := "abacist/abacistlaw15.DiskMakes", spec := "diskMakes", unfollowed := true, recurses := true, apart := false, narrowed := true }
def DiskMakesUptoSaid : Prop := diskMakesUptoRow.holds Try.pinned (OpenSpec.upto diskMakesSpec)

/-- 'abacistlaw15.DiskSafe', WHERE WHAT IT READS IS OF BULK AT MOST 1048576: true; the input reads as it did. -/
def diskSafeUptoRow : OpenClaim := { program := "ytgkdkemhiglpdaa", sum := "e306338084d9e7baa341a154f736c5242e41d1135f6eae318cafc66b3f1b4ac5", func := "abacist/abacistlaw15.DiskSafe", spec := "diskSafe", unfollowed := true, recurses := true, apart := false, narrowed := true }
def DiskSafeUptoSaid : Prop := diskSafeUptoRow.holds Try.pinned (OpenSpec.upto diskSafeSpec)

end Rows
end Go.Proofs.Ytgkdkemhiglpdaa
