/-
  No cell of these rows narrows 'for every input' (looked for: loops, veiled, ifaces, maps, wideKeys, modest, calm, conditions, laid).
  DERIVED. THE GIVEN ROWS OF THIS SEAT. 5 by the template 'for every input the law returns true; each argument reads behind the call as it read before'; 0 by the template 'total and deterministic' (their statements: YtjfembffjjijaaaTotals.lean).
  GIVEN WITH THE SEED: the statements are not yours to turn. If you find one false, say at which input.
  Laid BY PROGRAM, IN A SANDBOX (cutbox-rows.mjs): the forced cells as the released guide's own fill.sh prints them over the translation 8c3bc5a6c742a32d… (all of the seat's roots in one cut). By AI agents, Wed Nov 11 2026. No macro, syntax, notation, axiom, sorry.
-/
import Derived.Test.YtjfembffjjijaaaChecked
import GoSem.Claim
import GoSem.ClaimJoined
import GoSem.ClaimMapViews
import Derived.JoinedTies
import Derived.KernelRfl
namespace Go.Proofs.Ytjfembffjjijaaa
/- THE CELL 'sum', in the pinned program and in every row, IS THE sha256 OF THE DUMP (.gsa) THAT YtjfembffjjijaaaProg.lean LOADS. Nothing in Lean hashes anything: it is a label: what it is worth is what the hold of that sum in a sandbox is worth. -/
noncomputable def Try.pinned : Pinned := { name := "ytjfembffjjijaaa", sum := "8c3bc5a6c742a32dbecfaf575e64c3316c2751b966aba4fad915eebec28999ce", checked := Try.checked }
namespace Rows
def none {H : Type} : Left H := { results := [], args := [] }

/-- 'lyceumlaw09.ScreenSaves': WHATEVER THE INPUT: true; the input reads as it did. -/
def screenSavesSpec : ChangeSpec := { name := "screenSaves", fn := fun _ => fun
  | [d1, d2, d3] => { results := [.lit (.bool true)], args := [d1, d2, d3] }
  | _ => none }
def screenSavesRow : OpenClaim := { program := "ytjfembffjjijaaa", sum := "8c3bc5a6c742a32dbecfaf575e64c3316c2751b966aba4fad915eebec28999ce", func := "lyceum/lyceumlaw09.ScreenSaves", spec := "screenSaves", unfollowed := true, recurses := true, apart := false }
def ScreenSavesSaid : Prop := screenSavesRow.holds Try.pinned (OpenSpec.ofChange screenSavesSpec)

/-- ITS FALSE NEIGHBOUR: 'it returns false'. Refute it at one input. -/
def screenSavesWrong : ChangeSpec := { name := "screenSaves", fn := fun _ => fun
  | [d1, d2, d3] => { results := [.lit (.bool false)], args := [d1, d2, d3] }
  | _ => none }
def ScreenSavesWrongFalsely : Prop := screenSavesRow.holds Try.pinned (OpenSpec.ofChange screenSavesWrong)

/-- 'lyceumlaw09.ScreenPrints': WHATEVER THE INPUT: true; the input reads as it did. -/
def screenPrintsSpec : ChangeSpec := { name := "screenPrints", fn := fun _ => fun
  | [d1, d2] => { results := [.lit (.bool true)], args := [d1, d2] }
  | _ => none }
def screenPrintsRow : OpenClaim := { program := "ytjfembffjjijaaa", sum := "8c3bc5a6c742a32dbecfaf575e64c3316c2751b966aba4fad915eebec28999ce", func := "lyceum/lyceumlaw09.ScreenPrints", spec := "screenPrints", unfollowed := true, recurses := true, apart := false }
def ScreenPrintsSaid : Prop := screenPrintsRow.holds Try.pinned (OpenSpec.ofChange screenPrintsSpec)

/-- ITS FALSE NEIGHBOUR: 'it returns false'. Refute it at one input. -/
def screenPrintsWrong : ChangeSpec := { name := "screenPrints", fn := fun _ => fun
  | [d1, d2] => { results := [.lit (.bool false)], args := [d1, d2] }
  | _ => none }
def ScreenPrintsWrongFalsely : Prop := screenPrintsRow.holds Try.pinned (OpenSpec.ofChange screenPrintsWrong)

/-- 'lyceumlaw09.ScreenSizes': WHATEVER THE INPUT: true; the input reads as it did. -/
def screenSizesSpec : ChangeSpec := { name := "screenSizes", fn := fun _ => fun
  | [d1, d2, d3] => { results := [.lit (.bool true)], args := [d1, d2, d3] }
  | _ => none }
def screenSizesRow : OpenClaim := { program := "ytjfembffjjijaaa", sum := "8c3bc5a6c742a32dbecfaf575e64c3316c2751b966aba4fad915eebec28999ce", func := "lyceum/lyceumlaw09.ScreenSizes", spec := "screenSizes", unfollowed := true, recurses := true, apart := false }
def ScreenSizesSaid : Prop := screenSizesRow.holds Try.pinned (OpenSpec.ofChange screenSizesSpec)

/-- ITS FALSE NEIGHBOUR: 'it returns false'. Refute it at one input. -/
def screenSizesWrong : ChangeSpec := { name := "screenSizes", fn := fun _ => fun
  | [d1, d2, d3] => { results := [.lit (.bool false)], args := [d1, d2, d3] }
  | _ => none }
def ScreenSizesWrongFalsely : Prop := screenSizesRow.holds Try.pinned (OpenSpec.ofChange screenSizesWrong)

/-- 'lyceumlaw09.ScreenOther': WHATEVER THE INPUT: true; the input reads as it did. -/
def screenOtherSpec : ChangeSpec := { name := "screenOther", fn := fun _ => fun
  | [d1, d2, d3] => { results := [.lit (.bool true)], args := [d1, d2, d3] }
  | _ => none }
def screenOtherRow : OpenClaim := { program := "ytjfembffjjijaaa", sum := "8c3bc5a6c742a32dbecfaf575e64c3316c2751b966aba4fad915eebec28999ce", func := "lyceum/lyceumlaw09.ScreenOther", spec := "screenOther", unfollowed := true, recurses := true, apart := false }
def ScreenOtherSaid : Prop := screenOtherRow.holds Try.pinned (OpenSpec.ofChange screenOtherSpec)

/-- ITS FALSE NEIGHBOUR: 'it returns false'. Refute it at one input. -/
def screenOtherWrong : ChangeSpec := { name := "screenOther", fn := fun _ => fun
  | [d1, d2, d3] => { results := [.lit (.bool false)], args := [d1, d2, d3] }
  | _ => none }
def ScreenOtherWrongFalsely : Prop := screenOtherRow.holds Try.pinned (OpenSpec.ofChange screenOtherWrong)

/-- 'lyceumlaw09.ScreenNil': WHATEVER THE INPUT: true; the input reads as it did. -/
def screenNilSpec : ChangeSpec := { name := "screenNil", fn := fun _ => fun
  | [d] => { results := [.lit (.bool true)], args := [d] }
  | _ => none }
def screenNilRow : OpenClaim := { program := "ytjfembffjjijaaa", sum := "8c3bc5a6c742a32dbecfaf575e64c3316c2751b966aba4fad915eebec28999ce", func := "lyceum/lyceumlaw09.ScreenNil", spec := "screenNil", unfollowed := true, recurses := true, apart := false }
def ScreenNilSaid : Prop := screenNilRow.holds Try.pinned (OpenSpec.ofChange screenNilSpec)

/-- ITS FALSE NEIGHBOUR: 'it returns false'. Refute it at one input. -/
def screenNilWrong : ChangeSpec := { name := "screenNil", fn := fun _ => fun
  | [d] => { results := [.lit (.bool false)], args := [d] }
  | _ => none }
def ScreenNilWrongFalsely : Prop := screenNilRow.holds Try.pinned (OpenSpec.ofChange screenNilWrong)

/- THE SECOND FORM. 'bulk': how many values and letters a reading holds, each counted each time it is reached (what is shared counts as often as it is met; a slice's spare places count too). A statement '..UptoSaid' is the law's where the arguments, and the package variables that the reading takes, are together of bulk at most 1048576: NARROWER than '..Said'. Prove '..Said' where nothing that the law and all that it calls make is longer than what came in: it says more and counts as full. Else prove '..UptoSaid'. A law counts once. -/
mutual
def uptoBulk {H : Type} : DataW H → Nat
  | .lit (.string bytes) => bytes.length + 1
  | .lit _ => 1
  | .nil => 1
  | .ptr d => uptoBulk d + 1
  | .slice elems spare => uptoBulkAll elems + uptoBulkAll spare + 1
  | .agg parts => uptoBulkAll parts + 1
  | .iface _ d => uptoBulk d + 1
  | .map entries => uptoBulkEntries entries + 1
  | .held _ => 1
def uptoBulkAll {H : Type} : List (DataW H) → Nat
  | [] => 0
  | d :: r => uptoBulk d + uptoBulkAll r
def uptoBulkEntries {H : Type} : List (Lit × DataW H) → Nat
  | [] => 0
  | x :: r => uptoBulkEntry x + uptoBulkEntries r
def uptoBulkEntry {H : Type} : Lit × DataW H → Nat
  | (.string bytes, d) => bytes.length + uptoBulk d + 1
  | (_, d) => uptoBulk d + 1
 end
def uptoSmall : (H : Type) → List (DataW H) → Bool := fun _ ds => decide (uptoBulkAll ds ≤ 1048576)
def OpenSpec.upto (s : _root_.Go.ChangeSpec) : _root_.Go.OpenSpec := { _root_.Go.OpenSpec.ofChange s with cond := some uptoSmall }

/-- 'lyceumlaw09.ScreenSaves', WHERE WHAT IT READS IS OF BULK AT MOST 1048576: true; the input reads as it did. -/
def screenSavesUptoRow : OpenClaim := { program := "ytjfembffjjijaaa", sum := "8c3bc5a6c742a32dbecfaf575e64c3316c2751b966aba4fad915eebec28999ce", func := "lyceum/lyceumlaw09.ScreenSaves", spec := "screenSaves", unfollowed := true, recurses := true, apart := false, narrowed := true }
def ScreenSavesUptoSaid : Prop := screenSavesUptoRow.holds Try.pinned (OpenSpec.upto screenSavesSpec)

/-- 'lyceumlaw09.ScreenPrints', WHERE WHAT IT READS IS OF BULK AT MOST 1048576: true; the input reads as it did. -/
def screenPrintsUptoRow : OpenClaim := { program := "ytjfembffjjijaaa", sum := "8c3bc5a6c742a32dbecfaf575e64c3316c2751b966aba4fad915eebec28999ce", func := "lyceum/lyceumlaw09.ScreenPrints", spec := "screenPrints", unfollowed := true, recurses := true, apart := false, narrowed := true }
def ScreenPrintsUptoSaid : Prop := screenPrintsUptoRow.holds Try.pinned (OpenSpec.upto screenPrintsSpec)

/-- 'lyceumlaw09.ScreenSizes', WHERE WHAT IT READS IS OF BULK AT MOST 1048576: true; the input reads as it did. -/
def screenSizesUptoRow : OpenClaim := { program := "ytjfembffjjijaaa", sum := "8c3bc5a6c742a32dbecfaf575e64c3316c2751b966aba4fad915eebec28999ce", func := "lyceum/lyceumlaw09.ScreenSizes", spec := "screenSizes", unfollowed := true, recurses := true, apart := false, narrowed := true }
def ScreenSizesUptoSaid : Prop := screenSizesUptoRow.holds Try.pinned (OpenSpec.upto screenSizesSpec)

/-- 'lyceumlaw09.ScreenOther', WHERE WHAT IT READS IS OF BULK AT MOST 1048576: true; the input reads as it did. -/
def screenOtherUptoRow : OpenClaim := { program := "ytjfembffjjijaaa", sum := "8c3bc5a6c742a32dbecfaf575e64c3316c2751b966aba4fad915eebec28999ce", func := "lyceum/lyceumlaw09.ScreenOther", spec := "screenOther", unfollowed := true, recurses := true, apart := false, narrowed := true }
def ScreenOtherUptoSaid : Prop := screenOtherUptoRow.holds Try.pinned (OpenSpec.upto screenOtherSpec)

/-- 'lyceumlaw09.ScreenNil', WHERE WHAT IT READS IS OF BULK AT MOST 1048576: true; the input reads as it did. -/
def screenNilUptoRow : OpenClaim := { program := "ytjfembffjjijaaa", sum := "8c3bc5a6c742a32dbecfaf575e64c3316c2751b966aba4fad915eebec28999ce", func := "lyceum/lyceumlaw09.ScreenNil", spec := "screenNil", unfollowed := true, recurses := true, apart := false, narrowed := true }
def ScreenNilUptoSaid : Prop := screenNilUptoRow.holds Try.pinned (OpenSpec.upto screenNilSpec)

end Rows
end Go.Proofs.Ytjfembffjjijaaa
