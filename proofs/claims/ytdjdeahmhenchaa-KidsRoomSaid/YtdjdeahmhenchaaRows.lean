/-
  No cell of these rows narrows 'for every input' (looked for: loops, veiled, ifaces, maps, wideKeys, modest, calm, conditions, laid).
  DERIVED. THE GIVEN ROWS OF THIS SEAT. 12 by the template 'for every input the law returns true; each argument reads behind the call as it read before'; 0 by the template 'total and deterministic' (their statements: YtdjdeahmhenchaaTotals.lean).
  GIVEN WITH THE SEED: the statements are not yours to turn. If you find one false, say at which input.
  Laid BY PROGRAM, IN A SANDBOX (cutbox-rows.mjs): the forced cells as the released guide's own fill.sh prints them over the translation a9f3714f967fa1c2… (all of the seat's roots in one cut). By AI agents, Wed Nov 11 2026. No macro, syntax, notation, axiom, sorry.
-/
import Derived.Test.YtdjdeahmhenchaaChecked
import GoSem.Claim
import GoSem.ClaimJoined
import GoSem.ClaimMapViews
import Derived.JoinedTies
import Derived.KernelRfl
namespace Go.Proofs.Ytdjdeahmhenchaa
/- THE CELL 'sum', in the pinned program and in every row, IS THE sha256 OF THE DUMP (.gsa) THAT YtdjdeahmhenchaaProg.lean LOADS. Nothing in Lean hashes anything: it is a label: what it is worth is what the hold of that sum in a sandbox is worth. -/
noncomputable def Try.pinned : Pinned := { name := "ytdjdeahmhenchaa", sum := "a9f3714f967fa1c28e3c9bf3060ed4ef6a4a71eb39fd53f93c0f3a31342d1b31", checked := Try.checked }
namespace Rows
def none {H : Type} : Left H := { results := [], args := [] }

/-- 'lyceumlaw18.QueueOrder': WHATEVER THE INPUT: true; the input reads as it did. -/
def queueOrderSpec : ChangeSpec := { name := "queueOrder", fn := fun _ => fun
  | [d1, d2] => { results := [.lit (.bool true)], args := [d1, d2] }
  | _ => none }
def queueOrderRow : OpenClaim := { program := "ytdjdeahmhenchaa", sum := "a9f3714f967fa1c28e3c9bf3060ed4ef6a4a71eb39fd53f93c0f3a31342d1b31", func := "lyceum/lyceumlaw18.QueueOrder", spec := "queueOrder", apart := false }
def QueueOrderSaid : Prop := queueOrderRow.holds Try.pinned (OpenSpec.ofChange queueOrderSpec)

/-- ITS FALSE NEIGHBOUR: 'it returns false'. Refute it at one input. -/
def queueOrderWrong : ChangeSpec := { name := "queueOrder", fn := fun _ => fun
  | [d1, d2] => { results := [.lit (.bool false)], args := [d1, d2] }
  | _ => none }
def QueueOrderWrongFalsely : Prop := queueOrderRow.holds Try.pinned (OpenSpec.ofChange queueOrderWrong)

/-- 'lyceumlaw18.QueueWhole': WHATEVER THE INPUT: true; the input reads as it did. -/
def queueWholeSpec : ChangeSpec := { name := "queueWhole", fn := fun _ => fun
  | [d1, d2] => { results := [.lit (.bool true)], args := [d1, d2] }
  | _ => none }
def queueWholeRow : OpenClaim := { program := "ytdjdeahmhenchaa", sum := "a9f3714f967fa1c28e3c9bf3060ed4ef6a4a71eb39fd53f93c0f3a31342d1b31", func := "lyceum/lyceumlaw18.QueueWhole", spec := "queueWhole", apart := false }
def QueueWholeSaid : Prop := queueWholeRow.holds Try.pinned (OpenSpec.ofChange queueWholeSpec)

/-- ITS FALSE NEIGHBOUR: 'it returns false'. Refute it at one input. -/
def queueWholeWrong : ChangeSpec := { name := "queueWhole", fn := fun _ => fun
  | [d1, d2] => { results := [.lit (.bool false)], args := [d1, d2] }
  | _ => none }
def QueueWholeWrongFalsely : Prop := queueWholeRow.holds Try.pinned (OpenSpec.ofChange queueWholeWrong)

/-- 'lyceumlaw18.QueueNil': WHATEVER THE INPUT: true; the input reads as it did. -/
def queueNilSpec : ChangeSpec := { name := "queueNil", fn := fun _ => fun
  | [d] => { results := [.lit (.bool true)], args := [d] }
  | _ => none }
def queueNilRow : OpenClaim := { program := "ytdjdeahmhenchaa", sum := "a9f3714f967fa1c28e3c9bf3060ed4ef6a4a71eb39fd53f93c0f3a31342d1b31", func := "lyceum/lyceumlaw18.QueueNil", spec := "queueNil", apart := false }
def QueueNilSaid : Prop := queueNilRow.holds Try.pinned (OpenSpec.ofChange queueNilSpec)

/-- ITS FALSE NEIGHBOUR: 'it returns false'. Refute it at one input. -/
def queueNilWrong : ChangeSpec := { name := "queueNil", fn := fun _ => fun
  | [d] => { results := [.lit (.bool false)], args := [d] }
  | _ => none }
def QueueNilWrongFalsely : Prop := queueNilRow.holds Try.pinned (OpenSpec.ofChange queueNilWrong)

/-- 'lyceumlaw20.KidsQueues': WHATEVER THE INPUT: true; the input reads as it did. -/
def kidsQueuesSpec : ChangeSpec := { name := "kidsQueues", fn := fun _ => fun
  | [d1, d2, d3] => { results := [.lit (.bool true)], args := [d1, d2, d3] }
  | _ => none }
def kidsQueuesRow : OpenClaim := { program := "ytdjdeahmhenchaa", sum := "a9f3714f967fa1c28e3c9bf3060ed4ef6a4a71eb39fd53f93c0f3a31342d1b31", func := "lyceum/lyceumlaw20.KidsQueues", spec := "kidsQueues", apart := false }
def KidsQueuesSaid : Prop := kidsQueuesRow.holds Try.pinned (OpenSpec.ofChange kidsQueuesSpec)

/-- ITS FALSE NEIGHBOUR: 'it returns false'. Refute it at one input. -/
def kidsQueuesWrong : ChangeSpec := { name := "kidsQueues", fn := fun _ => fun
  | [d1, d2, d3] => { results := [.lit (.bool false)], args := [d1, d2, d3] }
  | _ => none }
def KidsQueuesWrongFalsely : Prop := kidsQueuesRow.holds Try.pinned (OpenSpec.ofChange kidsQueuesWrong)

/-- 'lyceumlaw10.HistoryOrder': WHATEVER THE INPUT: true; the input reads as it did. -/
def historyOrderSpec : ChangeSpec := { name := "historyOrder", fn := fun _ => fun
  | [d1, d2] => { results := [.lit (.bool true)], args := [d1, d2] }
  | _ => none }
def historyOrderRow : OpenClaim := { program := "ytdjdeahmhenchaa", sum := "a9f3714f967fa1c28e3c9bf3060ed4ef6a4a71eb39fd53f93c0f3a31342d1b31", func := "lyceum/lyceumlaw10.HistoryOrder", spec := "historyOrder", apart := false }
def HistoryOrderSaid : Prop := historyOrderRow.holds Try.pinned (OpenSpec.ofChange historyOrderSpec)

/-- ITS FALSE NEIGHBOUR: 'it returns false'. Refute it at one input. -/
def historyOrderWrong : ChangeSpec := { name := "historyOrder", fn := fun _ => fun
  | [d1, d2] => { results := [.lit (.bool false)], args := [d1, d2] }
  | _ => none }
def HistoryOrderWrongFalsely : Prop := historyOrderRow.holds Try.pinned (OpenSpec.ofChange historyOrderWrong)

/-- 'lyceumlaw10.HistoryRoom': WHATEVER THE INPUT: true; the input reads as it did. -/
def historyRoomSpec : ChangeSpec := { name := "historyRoom", fn := fun _ => fun
  | [d1, d2] => { results := [.lit (.bool true)], args := [d1, d2] }
  | _ => none }
def historyRoomRow : OpenClaim := { program := "ytdjdeahmhenchaa", sum := "a9f3714f967fa1c28e3c9bf3060ed4ef6a4a71eb39fd53f93c0f3a31342d1b31", func := "lyceum/lyceumlaw10.HistoryRoom", spec := "historyRoom", apart := false }
def HistoryRoomSaid : Prop := historyRoomRow.holds Try.pinned (OpenSpec.ofChange historyRoomSpec)

/-- ITS FALSE NEIGHBOUR: 'it returns false'. Refute it at one input. -/
def historyRoomWrong : ChangeSpec := { name := "historyRoom", fn := fun _ => fun
  | [d1, d2] => { results := [.lit (.bool false)], args := [d1, d2] }
  | _ => none }
def HistoryRoomWrongFalsely : Prop := historyRoomRow.holds Try.pinned (OpenSpec.ofChange historyRoomWrong)

/-- 'lyceumlaw10.HistoryViews': WHATEVER THE INPUT: true; the input reads as it did. -/
def historyViewsSpec : ChangeSpec := { name := "historyViews", fn := fun _ => fun
  | [d1, d2, d3] => { results := [.lit (.bool true)], args := [d1, d2, d3] }
  | _ => none }
def historyViewsRow : OpenClaim := { program := "ytdjdeahmhenchaa", sum := "a9f3714f967fa1c28e3c9bf3060ed4ef6a4a71eb39fd53f93c0f3a31342d1b31", func := "lyceum/lyceumlaw10.HistoryViews", spec := "historyViews", unfollowed := true, recurses := true, apart := false }
def HistoryViewsSaid : Prop := historyViewsRow.holds Try.pinned (OpenSpec.ofChange historyViewsSpec)

/-- ITS FALSE NEIGHBOUR: 'it returns false'. Refute it at one input. -/
def historyViewsWrong : ChangeSpec := { name := "historyViews", fn := fun _ => fun
  | [d1, d2, d3] => { results := [.lit (.bool false)], args := [d1, d2, d3] }
  | _ => none }
def HistoryViewsWrongFalsely : Prop := historyViewsRow.holds Try.pinned (OpenSpec.ofChange historyViewsWrong)

/-- 'lyceumlaw06.GridBeside': WHATEVER THE INPUT: true; the input reads as it did. -/
def gridBesideSpec : ChangeSpec := { name := "gridBeside", fn := fun _ => fun
  | [d1, d2, d3] => { results := [.lit (.bool true)], args := [d1, d2, d3] }
  | _ => none }
def gridBesideRow : OpenClaim := { program := "ytdjdeahmhenchaa", sum := "a9f3714f967fa1c28e3c9bf3060ed4ef6a4a71eb39fd53f93c0f3a31342d1b31", func := "lyceum/lyceumlaw06.GridBeside", spec := "gridBeside", unfollowed := true, recurses := true, apart := false }
def GridBesideSaid : Prop := gridBesideRow.holds Try.pinned (OpenSpec.ofChange gridBesideSpec)

/-- ITS FALSE NEIGHBOUR: 'it returns false'. Refute it at one input. -/
def gridBesideWrong : ChangeSpec := { name := "gridBeside", fn := fun _ => fun
  | [d1, d2, d3] => { results := [.lit (.bool false)], args := [d1, d2, d3] }
  | _ => none }
def GridBesideWrongFalsely : Prop := gridBesideRow.holds Try.pinned (OpenSpec.ofChange gridBesideWrong)

/-- 'lyceumlaw06.GridScrolls': WHATEVER THE INPUT: true; the input reads as it did. -/
def gridScrollsSpec : ChangeSpec := { name := "gridScrolls", fn := fun _ => fun
  | [d1, d2] => { results := [.lit (.bool true)], args := [d1, d2] }
  | _ => none }
def gridScrollsRow : OpenClaim := { program := "ytdjdeahmhenchaa", sum := "a9f3714f967fa1c28e3c9bf3060ed4ef6a4a71eb39fd53f93c0f3a31342d1b31", func := "lyceum/lyceumlaw06.GridScrolls", spec := "gridScrolls", unfollowed := true, recurses := true, apart := false }
def GridScrollsSaid : Prop := gridScrollsRow.holds Try.pinned (OpenSpec.ofChange gridScrollsSpec)

/-- ITS FALSE NEIGHBOUR: 'it returns false'. Refute it at one input. -/
def gridScrollsWrong : ChangeSpec := { name := "gridScrolls", fn := fun _ => fun
  | [d1, d2] => { results := [.lit (.bool false)], args := [d1, d2] }
  | _ => none }
def GridScrollsWrongFalsely : Prop := gridScrollsRow.holds Try.pinned (OpenSpec.ofChange gridScrollsWrong)

/-- 'lyceumlaw06.GridLays': WHATEVER THE INPUT: true; the input reads as it did. -/
def gridLaysSpec : ChangeSpec := { name := "gridLays", fn := fun _ => fun
  | [d1, d2, d3] => { results := [.lit (.bool true)], args := [d1, d2, d3] }
  | _ => none }
def gridLaysRow : OpenClaim := { program := "ytdjdeahmhenchaa", sum := "a9f3714f967fa1c28e3c9bf3060ed4ef6a4a71eb39fd53f93c0f3a31342d1b31", func := "lyceum/lyceumlaw06.GridLays", spec := "gridLays", unfollowed := true, recurses := true, apart := false }
def GridLaysSaid : Prop := gridLaysRow.holds Try.pinned (OpenSpec.ofChange gridLaysSpec)

/-- ITS FALSE NEIGHBOUR: 'it returns false'. Refute it at one input. -/
def gridLaysWrong : ChangeSpec := { name := "gridLays", fn := fun _ => fun
  | [d1, d2, d3] => { results := [.lit (.bool false)], args := [d1, d2, d3] }
  | _ => none }
def GridLaysWrongFalsely : Prop := gridLaysRow.holds Try.pinned (OpenSpec.ofChange gridLaysWrong)

/-- 'lyceumlaw20.KidsRoom': WHATEVER THE INPUT: true; the input reads as it did. -/
def kidsRoomSpec : ChangeSpec := { name := "kidsRoom", fn := fun _ => fun
  | [d1, d2] => { results := [.lit (.bool true)], args := [d1, d2] }
  | _ => none }
def kidsRoomRow : OpenClaim := { program := "ytdjdeahmhenchaa", sum := "a9f3714f967fa1c28e3c9bf3060ed4ef6a4a71eb39fd53f93c0f3a31342d1b31", func := "lyceum/lyceumlaw20.KidsRoom", spec := "kidsRoom", unfollowed := true, recurses := true, apart := false }
def KidsRoomSaid : Prop := kidsRoomRow.holds Try.pinned (OpenSpec.ofChange kidsRoomSpec)

/-- ITS FALSE NEIGHBOUR: 'it returns false'. Refute it at one input. -/
def kidsRoomWrong : ChangeSpec := { name := "kidsRoom", fn := fun _ => fun
  | [d1, d2] => { results := [.lit (.bool false)], args := [d1, d2] }
  | _ => none }
def KidsRoomWrongFalsely : Prop := kidsRoomRow.holds Try.pinned (OpenSpec.ofChange kidsRoomWrong)

/-- 'lyceumlaw20.KidsNil': WHATEVER THE INPUT: true; the input reads as it did. -/
def kidsNilSpec : ChangeSpec := { name := "kidsNil", fn := fun _ => fun
  | [d] => { results := [.lit (.bool true)], args := [d] }
  | _ => none }
def kidsNilRow : OpenClaim := { program := "ytdjdeahmhenchaa", sum := "a9f3714f967fa1c28e3c9bf3060ed4ef6a4a71eb39fd53f93c0f3a31342d1b31", func := "lyceum/lyceumlaw20.KidsNil", spec := "kidsNil", unfollowed := true, recurses := true, apart := false }
def KidsNilSaid : Prop := kidsNilRow.holds Try.pinned (OpenSpec.ofChange kidsNilSpec)

/-- ITS FALSE NEIGHBOUR: 'it returns false'. Refute it at one input. -/
def kidsNilWrong : ChangeSpec := { name := "kidsNil", fn := fun _ => fun
  | [d] => { results := [.lit (.bool false)], args := [d] }
  | _ => none }
def KidsNilWrongFalsely : Prop := kidsNilRow.holds Try.pinned (OpenSpec.ofChange kidsNilWrong)

/- THE SECOND FORM. 'bulk': how many values and letters a reading holds, each counted each time it is reached (what is shared counts as often as it is met; a slice's spare places count too). A statement '..UptoSaid' is the law's where the arguments, and the package variables that the reading takes, are together of bulk at most 1048576: NARROWER than '..Said'. Prove '..Said' where nothing that the law and all that it calls make is longer than what came in: it says more and counts as full. Else prove '..UptoSaid'. A law counts once. -/
mutual
def uptoBulk {H : Type} : DataW H → Nat
  | .lit (.string bytes) => bytes.length + 1
  | .lit _ => 1
  | .nil => 1
  | .ptr d => uptoBulk d + 1
  | .slice elems spare => uptoBulkAll elems + uptoBulkAll spare + 1
  | .agg parts => uptoBulkAll parts + 1
  | .iface _ d => uptoBulk d + 1
  | .map entries => uptoBulkEntries entries + 1
  | .held _ => 1
def uptoBulkAll {H : Type} : List (DataW H) → Nat
  | [] => 0
  | d :: r => uptoBulk d + uptoBulkAll r
def uptoBulkEntries {H : Type} : List (Lit × DataW H) → Nat
  | [] => 0
  | x :: r => uptoBulkEntry x + uptoBulkEntries r
def uptoBulkEntry {H : Type} : Lit × DataW H → Nat
  | (.string bytes, d) => bytes.length + uptoBulk d + 1
  | (_, d) => uptoBulk d + 1
 end
def uptoSmall : (H : Type) → List (DataW H) → Bool := fun _ ds => decide (uptoBulkAll ds ≤ 1048576)
def OpenSpec.upto (s : _root_.Go.ChangeSpec) : _root_.Go.OpenSpec := { _root_.Go.OpenSpec.ofChange s with cond := some uptoSmall }

/-- 'lyceumlaw18.QueueOrder', WHERE WHAT IT READS IS OF BULK AT MOST 1048576: true; the input reads as it did. -/
def queueOrderUptoRow : OpenClaim := { program := "ytdjdeahmhenchaa", sum := "a9f3714f967fa1c28e3c9bf3060ed4ef6a4a71eb39fd53f93c0f3a31342d1b31", func := "lyceum/lyceumlaw18.QueueOrder", spec := "queueOrder", apart := false, narrowed := true }
def QueueOrderUptoSaid : Prop := queueOrderUptoRow.holds Try.pinned (OpenSpec.upto queueOrderSpec)

/-- 'lyceumlaw18.QueueWhole', WHERE WHAT IT READS IS OF BULK AT MOST 1048576: true; the input reads as it did. -/
def queueWholeUptoRow : OpenClaim := { program := "ytdjdeahmhenchaa", sum := "a9f3714f967fa1c28e3c9bf3060ed4ef6a4a71eb39fd53f93c0f3a31342d1b31", func := "lyceum/lyceumlaw18.QueueWhole", spec := "queueWhole", apart := false, narrowed := true }
def QueueWholeUptoSaid : Prop := queueWholeUptoRow.holds Try.pinned (OpenSpec.upto queueWholeSpec)

/-- 'lyceumlaw18.QueueNil', WHERE WHAT IT READS IS OF BULK AT MOST 1048576: true; the input reads as it did. -/
def queueNilUptoRow : OpenClaim := { program := "ytdjdeahmhenchaa", sum := "a9f3714f967fa1c28e3c9bf3060ed4ef6a4a71eb39fd53f93c0f3a31342d1b31", func := "lyceum/lyceumlaw18.QueueNil", spec := "queueNil", apart := false, narrowed := true }
def QueueNilUptoSaid : Prop := queueNilUptoRow.holds Try.pinned (OpenSpec.upto queueNilSpec)

/-- 'lyceumlaw20.KidsQueues', WHERE WHAT IT READS IS OF BULK AT MOST 1048576: true; the input reads as it did. -/
def kidsQueuesUptoRow : OpenClaim := { program := "ytdjdeahmhenchaa", sum := "a9f3714f967fa1c28e3c9bf3060ed4ef6a4a71eb39fd53f93c0f3a31342d1b31", func := "lyceum/lyceumlaw20.KidsQueues", spec := "kidsQueues", apart := false, narrowed := true }
def KidsQueuesUptoSaid : Prop := kidsQueuesUptoRow.holds Try.pinned (OpenSpec.upto kidsQueuesSpec)

/-- 'lyceumlaw10.HistoryOrder', WHERE WHAT IT READS IS OF BULK AT MOST 1048576: true; the input reads as it did. -/
def historyOrderUptoRow : OpenClaim := { program := "ytdjdeahmhenchaa", sum := "a9f3714f967fa1c28e3c9bf3060ed4ef6a4a71eb39fd53f93c0f3a31342d1b31", func := "lyceum/lyceumlaw10.HistoryOrder", spec := "historyOrder", apart := false, narrowed := true }
def HistoryOrderUptoSaid : Prop := historyOrderUptoRow.holds Try.pinned (OpenSpec.upto historyOrderSpec)

/-- 'lyceumlaw10.HistoryRoom', WHERE WHAT IT READS IS OF BULK AT MOST 1048576: true; the input reads as it did. -/
def historyRoomUptoRow : OpenClaim := { program := "ytdjdeahmhenchaa", sum := "a9f3714f967fa1c28e3c9bf3060ed4ef6a4a71eb39fd53f93c0f3a31342d1b31", func := "lyceum/lyceumlaw10.HistoryRoom", spec := "historyRoom", apart := false, narrowed := true }
def HistoryRoomUptoSaid : Prop := historyRoomUptoRow.holds Try.pinned (OpenSpec.upto historyRoomSpec)

/-- 'lyceumlaw10.HistoryViews', WHERE WHAT IT READS IS OF BULK AT MOST 1048576: true; the input reads as it did. -/
def historyViewsUptoRow : OpenClaim := { program := "ytdjdeahmhenchaa", sum := "a9f3714f967fa1c28e3c9bf3060ed4ef6a4a71eb39fd53f93c0f3a31342d1b31", func := "lyceum/lyceumlaw10.HistoryViews", spec := "historyViews", unfollowed := true, recurses := true, apart := false, narrowed := true }
def HistoryViewsUptoSaid : Prop := historyViewsUptoRow.holds Try.pinned (OpenSpec.upto historyViewsSpec)

/-- 'lyceumlaw06.GridBeside', WHERE WHAT IT READS IS OF BULK AT MOST 1048576: true; the input reads as it did. -/
def gridBesideUptoRow : OpenClaim := { program := "ytdjdeahmhenchaa", sum := "a9f3714f967fa1c28e3c9bf3060ed4ef6a4a71eb39fd53f93c0f3a31342d1b31", func := "lyceum/lyceumlaw06.GridBeside", spec := "gridBeside", unfollowed := true, recurses := true, apart := false, narrowed := true }
def GridBesideUptoSaid : Prop := gridBesideUptoRow.holds Try.pinned (OpenSpec.upto gridBesideSpec)

/-- 'lyceumlaw06.GridScrolls', WHERE WHAT IT READS IS OF BULK AT MOST 1048576: true; the input reads as it did. -/
def gridScrollsUptoRow : OpenClaim := { program := "ytdjdeahmhenchaa", sum := "a9f3714f967fa1c28e3c9bf3060ed4ef6a4a71eb39fd53f93c0f3a31342d1b31", func := "lyceum/lyceumlaw06.GridScrolls", spec := "gridScrolls", unfollowed := true, recurses := true, apart := false, narrowed := true }
def GridScrollsUptoSaid : Prop := gridScrollsUptoRow.holds Try.pinned (OpenSpec.upto gridScrollsSpec)

/-- 'lyceumlaw06.GridLays', WHERE WHAT IT READS IS OF BULK AT MOST 1048576: true; the input reads as it did. -/
def gridLaysUptoRow : OpenClaim := { program := "ytdjdeahmhenchaa", sum := "a9f3714f967fa1c28e3c9bf3060ed4ef6a4a71eb39fd53f93c0f3a31342d1b31", func := "lyceum/lyceumlaw06.GridLays", spec := "gridLays", unfollowed := true, recurses := true, apart := false, narrowed := true }
def GridLaysUptoSaid : Prop := gridLaysUptoRow.holds Try.pinned (OpenSpec.upto gridLaysSpec)

/-- 'lyceumlaw20.KidsRoom', WHERE WHAT IT READS IS OF BULK AT MOST 1048576: true; the input reads as it did. -/
def kidsRoomUptoRow : OpenClaim := { program := "ytdjdeahmhenchaa", sum := "a9f3714f967fa1c28e3c9bf3060ed4ef6a4a71eb39fd53f93c0f3a31342d1b31", func := "lyceum/lyceumlaw20.KidsRoom", spec := "kidsRoom", unfollowed := true, recurses := true, apart := false, narrowed := true }
def KidsRoomUptoSaid : Prop := kidsRoomUptoRow.holds Try.pinned (OpenSpec.upto kidsRoomSpec)

/-- 'lyceumlaw20.KidsNil', WHERE WHAT IT READS IS OF BULK AT MOST 1048576: true; the input reads as it did. -/
def kidsNilUptoRow : OpenClaim := { program := "ytdjdeahmhenchaa", sum := "a9f3714f967fa1c28e3c9bf3060ed4ef6a4a71eb39fd53f93c0f3a31342d1b31", func := "lyceum/lyceumlaw20.KidsNil", spec := "kidsNil", unfollowed := true, recurses := true, apart := false, narrowed := true }
def KidsNilUptoSaid : Prop := kidsNilUptoRow.holds Try.pinned (OpenSpec.upto kidsNilSpec)

end Rows
end Go.Proofs.Ytdjdeahmhenchaa
