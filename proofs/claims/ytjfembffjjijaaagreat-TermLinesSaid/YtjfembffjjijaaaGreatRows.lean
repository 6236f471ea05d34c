/-
  No cell of these rows narrows 'for every input' (looked for: loops, veiled, ifaces, maps, wideKeys, modest, calm, conditions, laid).
  DERIVED. THE GIVEN ROWS OF THIS SEAT. 5 by the template 'for every input the law returns true; each argument reads behind the call as it read before'; 0 by the template 'total and deterministic' (their statements: YtjfembffjjijaaaGreatTotals.lean).
  GIVEN WITH THE SEED: the statements are not yours to turn. If you find one false, say at which input.
  Laid BY PROGRAM, IN A SANDBOX (cutbox-rows.mjs): the forced cells as the released guide's own fill.sh prints them over the translation d19442abe2adebfd… (all of the seat's roots in one cut). By AI agents, Wed Nov 11 2026. No macro, syntax, notation, axiom, sorry.
-/
import Derived.Test.YtjfembffjjijaaaGreatChecked
import GoSem.Claim
import GoSem.ClaimJoined
import GoSem.ClaimMapViews
import Derived.JoinedTies
import Derived.KernelRfl
namespace Go.Proofs.YtjfembffjjijaaaGreat
/- THE CELL 'sum', in the pinned program and in every row, IS THE sha256 OF THE DUMP (.gsa) THAT YtjfembffjjijaaaGreatProg.lean LOADS. Nothing in Lean hashes anything: it is a label: what it is worth is what the hold of that sum in a sandbox is worth. -/
noncomputable def Tryz.pinned : Pinned := { name := "ytjfembffjjijaaagreat", sum := "d19442abe2adebfdafdd3f5fdee923551ac3c20fbf397a317ebc2000b1a50f42", checked := Tryz.checked }
namespace Rows
def none {H : Type} : Left H := { results := [], args := [] }

/-- 'lyceumlaw09.ScreenRight': WHATEVER THE INPUT: true; the input reads as it did. -/
def screenRightSpec : ChangeSpec := { name := "screenRight", fn := fun _ => fun
  | [d1, d2, d3] => { results := [.lit (.bool true)], args := [d1, d2, d3] }
  | _ => none }
def screenRightRow : OpenClaim := { program := "ytjfembffjjijaaagreat", sum := "d19442abe2adebfdafdd3f5fdee923551ac3c20fbf397a317ebc2000b1a50f42", func := "lyceum/lyceumlaw09.ScreenRight", spec := "screenRight", unfollowed := true, recurses := true, apart := false }
def ScreenRightSaid : Prop := screenRightRow.holds Tryz.pinned (OpenSpec.ofChange screenRightSpec)

/-- ITS FALSE NEIGHBOUR: 'it returns false'. Refute it at one input. -/
def screenRightWrong : ChangeSpec := { name := "screenRight", fn := fun _ => fun
  | [d1, d2, d3] => { results := [.lit (.bool false)], args := [d1, d2, d3] }
  | _ => none }
def ScreenRightWrongFalsely : Prop := screenRightRow.holds Tryz.pinned (OpenSpec.ofChange screenRightWrong)

/-- 'lyceumlaw11.TermLines': WHATEVER THE INPUT: true; the input reads as it did. -/
def termLinesSpec : ChangeSpec := { name := "termLines", fn := fun _ => fun
  | [d1, d2] => { results := [.lit (.bool true)], args := [d1, d2] }
  | _ => none }
def termLinesRow : OpenClaim := { program := "ytjfembffjjijaaagreat", sum := "d19442abe2adebfdafdd3f5fdee923551ac3c20fbf397a317ebc2000b1a50f42", func := "lyceum/lyceumlaw11.TermLines", spec := "termLines", unfollowed := true, recurses := true, apart := false }
def TermLinesSaid : Prop := termLinesRow.holds Tryz.pinned (OpenSpec.ofChange termLinesSpec)

/-- ITS FALSE NEIGHBOUR: 'it returns false'. Refute it at one input. -/
def termLinesWrong : ChangeSpec := { name := "termLines", fn := fun _ => fun
  | [d1, d2] => { results := [.lit (.bool false)], args := [d1, d2] }
  | _ => none }
def TermLinesWrongFalsely : Prop := termLinesRow.holds Tryz.pinned (OpenSpec.ofChange termLinesWrong)

/-- 'lyceumlaw11.TermRight': WHATEVER THE INPUT: true; the input reads as it did. -/
def termRightSpec : ChangeSpec := { name := "termRight", fn := fun _ => fun
  | [d1, d2, d3] => { results := [.lit (.bool true)], args := [d1, d2, d3] }
  | _ => none }
def termRightRow : OpenClaim := { program := "ytjfembffjjijaaagreat", sum := "d19442abe2adebfdafdd3f5fdee923551ac3c20fbf397a317ebc2000b1a50f42", func := "lyceum/lyceumlaw11.TermRight", spec := "termRight", unfollowed := true, recurses := true, apart := false }
def TermRightSaid : Prop := termRightRow.holds Tryz.pinned (OpenSpec.ofChange termRightSpec)

/-- ITS FALSE NEIGHBOUR: 'it returns false'. Refute it at one input. -/
def termRightWrong : ChangeSpec := { name := "termRight", fn := fun _ => fun
  | [d1, d2, d3] => { results := [.lit (.bool false)], args := [d1, d2, d3] }
  | _ => none }
def TermRightWrongFalsely : Prop := termRightRow.holds Tryz.pinned (OpenSpec.ofChange termRightWrong)

/-- 'lyceumlaw11.TermParted': WHATEVER THE INPUT: true; the input reads as it did. -/
def termPartedSpec : ChangeSpec := { name := "termParted", fn := fun _ => fun
  | [d1, d2] => { results := [.lit (.bool true)], args := [d1, d2] }
  | _ => none }
def termPartedRow : OpenClaim := { program := "ytjfembffjjijaaagreat", sum := "d19442abe2adebfdafdd3f5fdee923551ac3c20fbf397a317ebc2000b1a50f42", func := "lyceum/lyceumlaw11.TermParted", spec := "termParted", unfollowed := true, recurses := true, apart := false }
def TermPartedSaid : Prop := termPartedRow.holds Tryz.pinned (OpenSpec.ofChange termPartedSpec)

/-- ITS FALSE NEIGHBOUR: 'it returns false'. Refute it at one input. -/
def termPartedWrong : ChangeSpec := { name := "termParted", fn := fun _ => fun
  | [d1, d2] => { results := [.lit (.bool false)], args := [d1, d2] }
  | _ => none }
def TermPartedWrongFalsely : Prop := termPartedRow.holds Tryz.pinned (OpenSpec.ofChange termPartedWrong)

/-- 'lyceumlaw11.TermNil': WHATEVER THE INPUT: true; the input reads as it did. -/
def termNilSpec : ChangeSpec := { name := "termNil", fn := fun _ => fun
  | [d1, d2, d3] => { results := [.lit (.bool true)], args := [d1, d2, d3] }
  | _ => none }
def termNilRow : OpenClaim := { program := "ytjfembffjjijaaagreat", sum := "d19442abe2adebfdafdd3f5fdee923551ac3c20fbf397a317ebc2000b1a50f42", func := "lyceum/lyceumlaw11.TermNil", spec := "termNil", inPlace := ["internal/bytealg.IndexByteString", "internal/bytealg.IndexString"], unfollowed := true, recurses := true, named := ["internal/bytealg.MaxLen"], apart := false }
def TermNilSaid : Prop := termNilRow.holds Tryz.pinned (OpenSpec.ofChange termNilSpec)

/-- ITS FALSE NEIGHBOUR: 'it returns false'. Refute it at one input. -/
def termNilWrong : ChangeSpec := { name := "termNil", fn := fun _ => fun
  | [d1, d2, d3] => { results := [.lit (.bool false)], args := [d1, d2, d3] }
  | _ => none }
def TermNilWrongFalsely : Prop := termNilRow.holds Tryz.pinned (OpenSpec.ofChange termNilWrong)

/- THE SECOND FORM. 'bulk': how many values and letters a reading holds, each counted each time it is reached (what is shared counts as often as it is met; a slice's spare places count too). A statement '..UptoSaid' is the law's where the arguments, and the package variables that the reading takes, are together of bulk at most 1048576: NARROWER than '..Said'. Prove '..Said' where nothing that the law and all that it calls make is longer than what came in: it says more and counts as full. Else prove '..UptoSaid'. A law counts once. -/
mutual
def uptoBulk {H : Type} : DataW H → Nat
  | .lit (.string bytes) => bytes.length + 1
  | .lit _ => 1
  | .nil => 1
  | .ptr d => uptoBulk d + 1
  | .slice elems spare => uptoBulkAll elems + uptoBulkAll spare + 1
  | .agg parts => uptoBulkAll parts + 1
  | .iface _ d => uptoBulk d + 1
  | .map entries => uptoBulkEntries entries + 1
  | .held _ => 1
def uptoBulkAll {H : Type} : List (DataW H) → Nat
  | [] => 0
  | d :: r => uptoBulk d + uptoBulkAll r
def uptoBulkEntries {H : Type} : List (Lit × DataW H) → Nat
  | [] => 0
  | x :: r => uptoBulkEntry x + uptoBulkEntries r
def uptoBulkEntry {H : Type} : Lit × DataW H → Nat
  | (.string bytes, d) => bytes.length + uptoBulk d + 1
  | (_, d) => uptoBulk d + 1
 end
def uptoSmall : (H : Type) → List (DataW H) → Bool := fun _ ds => decide (uptoBulkAll ds ≤ 1048576)
def OpenSpec.upto (s : _root_.Go.ChangeSpec) : _root_.Go.OpenSpec := { _root_.Go.OpenSpec.ofChange s with cond := some uptoSmall }

/-- 'lyceumlaw09.ScreenRight', WHERE WHAT IT READS IS OF BULK AT MOST 1048576: true; the input reads as it did. -/
def screenRightUptoRow : OpenClaim := { program := "ytjfembffjjijaaagreat", sum := "d19442abe2adebfdafdd3f5fdee923551ac3c20fbf397a317ebc2000b1a50f42", func := "lyceum/lyceumlaw09.ScreenRight", spec := "screenRight", unfollowed := true, recurses := true, apart := false, narrowed := true }
def ScreenRightUptoSaid : Prop := screenRightUptoRow.holds Tryz.pinned (OpenSpec.upto screenRightSpec)

/-- 'lyceumlaw11.TermLines', WHERE WHAT IT READS IS OF BULK AT MOST 1048576: true; the input reads as it did. -/
def termLinesUptoRow : OpenClaim := { program := "ytjfembffjjijaaagreat", sum := "d19442abe2adebfdafdd3f5fdee923551ac3c20fbf397a317ebc2000b1a50f42", func := "lyceum/lyceumlaw11.TermLines", spec := "termLines", unfollowed := true, recurses := true, apart := false, narrowed := true }
def TermLinesUptoSaid : Prop := termLinesUptoRow.holds Tryz.pinned (OpenSpec.upto termLinesSpec)

/-- 'lyceumlaw11.TermRight', WHERE WHAT IT READS IS OF BULK AT MOST 1048576: true; the input reads as it did. -/
def termRightUptoRow : OpenClaim := { program := "ytjfembffjjijaaagreat", sum := "d19442abe2adebfdafdd3f5fdee923551ac3c20fbf397a317ebc2000b1a50f42", func := "lyceum/lyceumlaw11.TermRight", spec := "termRight", unfollowed := true, recurses := true, apart := false, narrowed := true }
def TermRightUptoSaid : Prop := termRightUptoRow.holds Tryz.pinned (OpenSpec.upto termRightSpec)

/-- 'lyceumlaw11.TermParted', WHERE WHAT IT READS IS OF BULK AT MOST 1048576: true; the input reads as it did. -/
def termPartedUptoRow : OpenClaim := { program := "ytjfembffjjijaaagreat", sum := "d19442abe2adebfdafdd3f5fdee923551ac3c20fbf397a317ebc2000b1a50f42", func := "lyceum/lyceumlaw11.TermParted", spec := "termParted", unfollowed := true, recurses := true, apart := false, narrowed := true }
def TermPartedUptoSaid : Prop := termPartedUptoRow.holds Tryz.pinned (OpenSpec.upto termPartedSpec)

/-- 'lyceumlaw11.TermNil', WHERE WHAT IT READS IS OF BULK AT MOST 1048576: true; the input reads as it did. -/
def termNilUptoRow : OpenClaim := { program := "ytjfembffjjijaaagreat", sum := "d19442abe2adebfdafdd3f5fdee923551ac3c20fbf397a317ebc2000b1a50f42", func := "lyceum/lyceumlaw11.TermNil", spec := "termNil", inPlace := ["internal/bytealg.IndexByteString", "internal/bytealg.IndexString"], unfollowed := true, recurses := true, named := ["internal/bytealg.MaxLen"], apart := false, narrowed := true }
def TermNilUptoSaid : Prop := termNilUptoRow.holds Tryz.pinned (OpenSpec.upto termNilSpec)

end Rows
end Go.Proofs.YtjfembffjjijaaaGreat
