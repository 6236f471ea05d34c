/-
  NARROWER THAN 'FOR EVERY INPUT', by the rows' own cells (each row's printed sentence says how): SessionTurns: laid · SessionRefuses: laid · SessionTypes: laid · SessionFits: laid · SessionWindows: laid.
  DERIVED. THE GIVEN ROWS OF THIS SEAT. 5 by the template 'for every input the law returns true; each argument reads behind the call as it read before'; 0 by the template 'total and deterministic' (their statements: YtelplojmbjnplaaGreatDoorTotals.lean).
  GIVEN WITH THE SEED: the statements are not yours to turn. If you find one false, say at which input.
  Laid BY PROGRAM, IN A SANDBOX (cutbox-rows.mjs): the forced cells as the released guide's own fill.sh prints them over the translation d1d5ea828690b2b8… (all of the seat's roots in one cut). By AI agents, Wed Nov 11 2026. No macro, syntax, notation, axiom, sorry.
-/
import Derived.Test.YtelplojmbjnplaaGreatDoorChecked
import GoSem.Claim
import GoSem.ClaimJoined
import GoSem.ClaimMapViews
import Derived.JoinedTies
import Derived.KernelRfl
namespace Go.Proofs.YtelplojmbjnplaaGreatDoor
/- THE CELL 'sum', in the pinned program and in every row, IS THE sha256 OF THE DUMP (.gsa) THAT YtelplojmbjnplaaGreatDoorProg.lean LOADS. Nothing in Lean hashes anything: it is a label: what it is worth is what the hold of that sum in a sandbox is worth. -/
noncomputable def Tryz.pinned : Pinned := { name := "ytelplojmbjnplaagreatdoor", sum := "d1d5ea828690b2b88830a579ff9260be5b8a0abaf4e6c6f4e5a44cc178796e3c", checked := Tryz.checked }
namespace Rows
def none {H : Type} : Left H := { results := [], args := [] }

/- WHAT THE LISTED PACKAGE-LEVEL VARIABLES READ AS WHEN THE CALL BEGINS. Each datum BY PROGRAM (the guide's laid-datum.mjs) off the statement by which the dump's own 'gosem.cut.vars' lays the variable. In a bare row this is a premise. The card (YtelplojmbjnplaaGreatDoorCards.lean) ties it to the program's text. -/
def laid_errors_errorType {H : Type} : DataW H := .iface "internal/reflectlite.rtype" (.agg [.ptr (.lit (.string [101, 114, 114, 111, 114]))])

/-- 'lyceumlaw14.SessionTurns': WHATEVER THE INPUT: true; the input reads as it did. -/
def sessionTurnsSpec : ChangeSpec := { name := "sessionTurns", fn := fun _ => fun
  | [d1, d2, d3] => { results := [.lit (.bool true)], args := [d1, d2, d3] }
  | _ => none }
def sessionTurnsRow : OpenClaim := { program := "ytelplojmbjnplaagreatdoor", sum := "d1d5ea828690b2b88830a579ff9260be5b8a0abaf4e6c6f4e5a44cc178796e3c", func := "lyceum/lyceumlaw14.SessionTurns", spec := "sessionTurns", inPlace := ["internal/bytealg.IndexByteString", "internal/reflectlite.ValueOf", "(internal/reflectlite.Value).Type", "(internal/reflectlite.Value).IsNil", "internal/reflectlite.TypeOf", "(internal/reflectlite.Value).Elem", "(internal/reflectlite.Value).Set"], unfollowed := true, recurses := true, named := ["errors.errorType"], apart := false, laid := [("errors.errorType", laid_errors_errorType)] }
def SessionTurnsSaid : Prop := sessionTurnsRow.holds Tryz.pinned (OpenSpec.ofChange sessionTurnsSpec)

/-- ITS FALSE NEIGHBOUR: 'it returns false'. Refute it at one input. -/
def sessionTurnsWrong : ChangeSpec := { name := "sessionTurns", fn := fun _ => fun
  | [d1, d2, d3] => { results := [.lit (.bool false)], args := [d1, d2, d3] }
  | _ => none }
def SessionTurnsWrongFalsely : Prop := sessionTurnsRow.holds Tryz.pinned (OpenSpec.ofChange sessionTurnsWrong)

/-- 'lyceumlaw14.SessionRefuses': WHATEVER THE INPUT: true; the input reads as it did. -/
def sessionRefusesSpec : ChangeSpec := { name := "sessionRefuses", fn := fun _ => fun
  | [d1, d2, d3] => { results := [.lit (.bool true)], args := [d1, d2, d3] }
  | _ => none }
def sessionRefusesRow : OpenClaim := { program := "ytelplojmbjnplaagreatdoor", sum := "d1d5ea828690b2b88830a579ff9260be5b8a0abaf4e6c6f4e5a44cc178796e3c", func := "lyceum/lyceumlaw14.SessionRefuses", spec := "sessionRefuses", inPlace := ["internal/bytealg.IndexByteString", "internal/reflectlite.ValueOf", "(internal/reflectlite.Value).Type", "(internal/reflectlite.Value).IsNil", "internal/reflectlite.TypeOf", "(internal/reflectlite.Value).Elem", "(internal/reflectlite.Value).Set"], unfollowed := true, recurses := true, named := ["errors.errorType"], apart := false, laid := [("errors.errorType", laid_errors_errorType)] }
def SessionRefusesSaid : Prop := sessionRefusesRow.holds Tryz.pinned (OpenSpec.ofChange sessionRefusesSpec)

/-- ITS FALSE NEIGHBOUR: 'it returns false'. Refute it at one input. -/
def sessionRefusesWrong : ChangeSpec := { name := "sessionRefuses", fn := fun _ => fun
  | [d1, d2, d3] => { results := [.lit (.bool false)], args := [d1, d2, d3] }
  | _ => none }
def SessionRefusesWrongFalsely : Prop := sessionRefusesRow.holds Tryz.pinned (OpenSpec.ofChange sessionRefusesWrong)

/-- 'lyceumlaw14.SessionTypes': WHATEVER THE INPUT: true; the input reads as it did. -/
def sessionTypesSpec : ChangeSpec := { name := "sessionTypes", fn := fun _ => fun
  | [d1, d2, d3] => { results := [.lit (.bool true)], args := [d1, d2, d3] }
  | _ => none }
def sessionTypesRow : OpenClaim := { program := "ytelplojmbjnplaagreatdoor", sum := "d1d5ea828690b2b88830a579ff9260be5b8a0abaf4e6c6f4e5a44cc178796e3c", func := "lyceum/lyceumlaw14.SessionTypes", spec := "sessionTypes", inPlace := ["internal/bytealg.IndexByteString", "internal/reflectlite.ValueOf", "(internal/reflectlite.Value).Type", "(internal/reflectlite.Value).IsNil", "internal/reflectlite.TypeOf", "(internal/reflectlite.Value).Elem", "(internal/reflectlite.Value).Set"], unfollowed := true, recurses := true, named := ["errors.errorType"], apart := false, laid := [("errors.errorType", laid_errors_errorType)] }
def SessionTypesSaid : Prop := sessionTypesRow.holds Tryz.pinned (OpenSpec.ofChange sessionTypesSpec)

/-- ITS FALSE NEIGHBOUR: 'it returns false'. Refute it at one input. -/
def sessionTypesWrong : ChangeSpec := { name := "sessionTypes", fn := fun _ => fun
  | [d1, d2, d3] => { results := [.lit (.bool false)], args := [d1, d2, d3] }
  | _ => none }
def SessionTypesWrongFalsely : Prop := sessionTypesRow.holds Tryz.pinned (OpenSpec.ofChange sessionTypesWrong)

/-- 'lyceumlaw14.SessionFits': WHATEVER THE INPUT: true; the input reads as it did. -/
def sessionFitsSpec : ChangeSpec := { name := "sessionFits", fn := fun _ => fun
  | [d1, d2] => { results := [.lit (.bool true)], args := [d1, d2] }
  | _ => none }
def sessionFitsRow : OpenClaim := { program := "ytelplojmbjnplaagreatdoor", sum := "d1d5ea828690b2b88830a579ff9260be5b8a0abaf4e6c6f4e5a44cc178796e3c", func := "lyceum/lyceumlaw14.SessionFits", spec := "sessionFits", inPlace := ["internal/bytealg.IndexByteString", "internal/reflectlite.ValueOf", "(internal/reflectlite.Value).Type", "(internal/reflectlite.Value).IsNil", "internal/reflectlite.TypeOf", "(internal/reflectlite.Value).Elem", "(internal/reflectlite.Value).Set"], unfollowed := true, recurses := true, named := ["errors.errorType"], apart := false, laid := [("errors.errorType", laid_errors_errorType)] }
def SessionFitsSaid : Prop := sessionFitsRow.holds Tryz.pinned (OpenSpec.ofChange sessionFitsSpec)

/-- ITS FALSE NEIGHBOUR: 'it returns false'. Refute it at one input. -/
def sessionFitsWrong : ChangeSpec := { name := "sessionFits", fn := fun _ => fun
  | [d1, d2] => { results := [.lit (.bool false)], args := [d1, d2] }
  | _ => none }
def SessionFitsWrongFalsely : Prop := sessionFitsRow.holds Tryz.pinned (OpenSpec.ofChange sessionFitsWrong)

/-- 'lyceumlaw14.SessionWindows': WHATEVER THE INPUT: true; the input reads as it did. -/
def sessionWindowsSpec : ChangeSpec := { name := "sessionWindows", fn := fun _ => fun
  | [d1, d2] => { results := [.lit (.bool true)], args := [d1, d2] }
  | _ => none }
def sessionWindowsRow : OpenClaim := { program := "ytelplojmbjnplaagreatdoor", sum := "d1d5ea828690b2b88830a579ff9260be5b8a0abaf4e6c6f4e5a44cc178796e3c", func := "lyceum/lyceumlaw14.SessionWindows", spec := "sessionWindows", inPlace := ["internal/bytealg.IndexByteString", "internal/reflectlite.ValueOf", "(internal/reflectlite.Value).Type", "(internal/reflectlite.Value).IsNil", "internal/reflectlite.TypeOf", "(internal/reflectlite.Value).Elem", "(internal/reflectlite.Value).Set", "internal/abi.NoEscape", "internal/bytealg.MakeNoZero"], unfollowed := true, recurses := true, named := ["errors.errorType"], apart := false, laid := [("errors.errorType", laid_errors_errorType)] }
def SessionWindowsSaid : Prop := sessionWindowsRow.holds Tryz.pinned (OpenSpec.ofChange sessionWindowsSpec)

/-- ITS FALSE NEIGHBOUR: 'it returns false'. Refute it at one input. -/
def sessionWindowsWrong : ChangeSpec := { name := "sessionWindows", fn := fun _ => fun
  | [d1, d2] => { results := [.lit (.bool false)], args := [d1, d2] }
  | _ => none }
def SessionWindowsWrongFalsely : Prop := sessionWindowsRow.holds Tryz.pinned (OpenSpec.ofChange sessionWindowsWrong)

/- THE SECOND FORM. 'bulk': how many values and letters a reading holds, each counted each time it is reached (what is shared counts as often as it is met; a slice's spare places count too). A statement '..UptoSaid' is the law's where the arguments, and the package variables that the reading takes, are together of bulk at most 1048576: NARROWER than '..Said'. Prove '..Said' where nothing that the law and all that it calls make is longer than what came in: it says more and counts as full. Else prove '..UptoSaid'. A law counts once. -/
mutual
def uptoBulk {H : Type} : DataW H → Nat
  | .lit (.string bytes) => bytes.length + 1
  | .lit _ => 1
  | .nil => 1
  | .ptr d => uptoBulk d + 1
  | .slice elems spare => uptoBulkAll elems + uptoBulkAll spare + 1
  | .agg parts => uptoBulkAll parts + 1
  | .iface _ d => uptoBulk d + 1
  | .map entries => uptoBulkEntries entries + 1
  | .held _ => 1
def uptoBulkAll {H : Type} : List (DataW H) → Nat
  | [] => 0
  | d :: r => uptoBulk d + uptoBulkAll r
def uptoBulkEntries {H : Type} : List (Lit × DataW H) → Nat
  | [] => 0
  | x :: r => uptoBulkEntry x + uptoBulkEntries r
def uptoBulkEntry {H : Type} : Lit × DataW H → Nat
  | (.string bytes, d) => bytes.length + uptoBulk d + 1
  | (_, d) => uptoBulk d + 1
 end
def uptoSmall : (H : Type) → List (DataW H) → Bool := fun _ ds => decide (uptoBulkAll ds ≤ 1048576)
def OpenSpec.upto (s : _root_.Go.ChangeSpec) : _root_.Go.OpenSpec := { _root_.Go.OpenSpec.ofChange s with cond := some uptoSmall }

/-- 'lyceumlaw14.SessionTurns', WHERE WHAT IT READS IS OF BULK AT MOST 1048576: true; the input reads as it did. -/
def sessionTurnsUptoRow : OpenClaim := { program := "ytelplojmbjnplaagreatdoor", sum := "d1d5ea828690b2b88830a579ff9260be5b8a0abaf4e6c6f4e5a44cc178796e3c", func := "lyceum/lyceumlaw14.SessionTurns", spec := "sessionTurns", inPlace := ["internal/bytealg.IndexByteString", "internal/reflectlite.ValueOf", "(internal/reflectlite.Value).Type", "(internal/reflectlite.Value).IsNil", "internal/reflectlite.TypeOf", "(internal/reflectlite.Value).Elem", "(internal/reflectlite.Value).Set"], unfollowed := true, recurses := true, named := ["errors.errorType"], apart := false, laid := [("errors.errorType", laid_errors_errorType)], narrowed := true }
def SessionTurnsUptoSaid : Prop := sessionTurnsUptoRow.holds Tryz.pinned (OpenSpec.upto sessionTurnsSpec)

/-- 'lyceumlaw14.SessionRefuses', WHERE WHAT IT READS IS OF BULK AT MOST 1048576: true; the input reads as it did. -/
def sessionRefusesUptoRow : OpenClaim := { program := "ytelplojmbjnplaagreatdoor", sum := "d1d5ea828690b2b88830a579ff9260be5b8a0abaf4e6c6f4e5a44cc178796e3c", func := "lyceum/lyceumlaw14.SessionRefuses", spec := "sessionRefuses", inPlace := ["internal/bytealg.IndexByteString", "internal/reflectlite.ValueOf", "(internal/reflectlite.Value).Type", "(internal/reflectlite.Value).IsNil", "internal/reflectlite.TypeOf", "(internal/reflectlite.Value).Elem", "(internal/reflectlite.Value).Set"], unfollowed := true, recurses := true, named := ["errors.errorType"], apart := false, laid := [("errors.errorType", laid_errors_errorType)], narrowed := true }
def SessionRefusesUptoSaid : Prop := sessionRefusesUptoRow.holds Tryz.pinned (OpenSpec.upto sessionRefusesSpec)

/-- 'lyceumlaw14.SessionTypes', WHERE WHAT IT READS IS OF BULK AT MOST 1048576: true; the input reads as it did. -/
def sessionTypesUptoRow : OpenClaim := { program := "ytelplojmbjnplaagreatdoor", sum := "d1d5ea828690b2b88830a579ff9260be5b8a0abaf4e6c6f4e5a44cc178796e3c", func := "lyceum/lyceumlaw14.SessionTypes", spec := "sessionTypes", inPlace := ["internal/bytealg.IndexByteString", "internal/reflectlite.ValueOf", "(internal/reflectlite.Value).Type", "(internal/reflectlite.Value).IsNil", "internal/reflectlite.TypeOf", "(internal/reflectlite.Value).Elem", "(internal/reflectlite.Value).Set"], unfollowed := true, recurses := true, named := ["errors.errorType"], apart := false, laid := [("errors.errorType", laid_errors_errorType)], narrowed := true }
def SessionTypesUptoSaid : Prop := sessionTypesUptoRow.holds Tryz.pinned (OpenSpec.upto sessionTypesSpec)

/-- 'lyceumlaw14.SessionFits', WHERE WHAT IT READS IS OF BULK AT MOST 1048576: true; the input reads as it did. -/
def sessionFitsUptoRow : OpenClaim := { program := "ytelplojmbjnplaagreatdoor", sum := "d1d5ea828690b2b88830a579ff9260be5b8a0abaf4e6c6f4e5a44cc178796e3c", func := "lyceum/lyceumlaw14.SessionFits", spec := "sessionFits", inPlace := ["internal/bytealg.IndexByteString", "internal/reflectlite.ValueOf", "(internal/reflectlite.Value).Type", "(internal/reflectlite.Value).IsNil", "internal/reflectlite.TypeOf", "(internal/reflectlite.Value).Elem", "(internal/reflectlite.Value).Set"], unfollowed := true, recurses := true, named := ["errors.errorType"], apart := false, laid := [("errors.errorType", laid_errors_errorType)], narrowed := true }
def SessionFitsUptoSaid : Prop := sessionFitsUptoRow.holds Tryz.pinned (OpenSpec.upto sessionFitsSpec)

/-- 'lyceumlaw14.SessionWindows', WHERE WHAT IT READS IS OF BULK AT MOST 1048576: true; the input reads as it did. -/
def sessionWindowsUptoRow : OpenClaim := { program := "ytelplojmbjnplaagreatdoor", sum := "d1d5ea828690b2b88830a579ff9260be5b8a0abaf4e6c6f4e5a44cc178796e3c", func := "lyceum/lyceumlaw14.SessionWindows", spec := "sessionWindows", inPlace := ["internal/bytealg.IndexByteString", "internal/reflectlite.ValueOf", "(internal/reflectlite.Value).Type", "(internal/reflectlite.Value).IsNil", "internal/reflectlite.TypeOf", "(internal/reflectlite.Value).Elem", "(internal/reflectlite.Value).Set", "internal/abi.NoEscape", "internal/bytealg.MakeNoZero"], unfollowed := true, recurses := true, named := ["errors.errorType"], apart := false, laid := [("errors.errorType", laid_errors_errorType)], narrowed := true }
def SessionWindowsUptoSaid : Prop := sessionWindowsUptoRow.holds Tryz.pinned (OpenSpec.upto sessionWindowsSpec)

end Rows
end Go.Proofs.YtelplojmbjnplaaGreatDoor
