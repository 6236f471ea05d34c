/-
  What a struct's type tells, if its fields are numbers, bools, texts. It names no program.
-/
import Derived.Test.YtdjdeahmhenchaaLycOps7
set_option linter.unusedSimpArgs false
set_option linter.unusedVariables false
namespace Lyc
open Go
section
variable {P : Program}
def tflatF (P : Program) : List Field → Option (List (Nat × Nat))
  | [] => some []
  | f :: fs => if f.name = "_" then none else (tkind P f.type).bind fun k => (tagg P f.type).bind fun b => bif b then none else if k = 8 ∨ k = 9 ∨ k = 3 then (tflatF P fs).map ((f.offset, k) :: ·) else none
def tflat (P : Program) (t : TypeId) : Option (List (Nat × Nat)) :=
  (P.underlying t).bind fun | .struct fs => if P.stoodInHeld t || P.eqGuardType P.depth t then none else tflatF P fs.toList | _ => none
end
end Lyc
