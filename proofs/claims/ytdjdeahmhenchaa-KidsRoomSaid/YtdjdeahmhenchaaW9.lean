/- Written by a program (gen.py): functions of the translation as transformers, with the link to Calls. -/
import Derived.Test.YtdjdeahmhenchaaLycDef
import Derived.Test.YtdjdeahmhenchaaLycTy
import Derived.Test.YtdjdeahmhenchaaW0
set_option linter.unusedSimpArgs false
set_option linter.unusedVariables false
namespace Go.Proofs.Ytdjdeahmhenchaa
open Lyc Go
set_option maxRecDepth 100000

/- slices.Collect[int] -/
def slices_Collect_int (p0 : Value) (K : Value → World → Prop) : World → Prop :=
  xC 123 [.const (.slice none 0 0), .const p0] [50, 127] 50 fun t4 =>
  K t4
theorem slices_Collect_int_link (p0 : Value) : Lk 111 #[p0] (slices_Collect_int p0) := lk [p0] [] Try.func111 (by kernel_rfl) fun _ _ => by kernel_rfl
theorem slices_Collect_int_b : Bodied Try.prog 111 := bd Try.func111 (by kernel_rfl)

/- slices.AppendSeq[[]int,int] -/
def slices_AppendSeq_int_int (p0 p1 : Value) (K : Value → World → Prop) : World → Prop :=
  xB 50 p0 fun t2 =>
  RngX Try.prog p1 1 (fun vs1 bg1 kn1 _ _ =>
  bg1 <|
  xL 50 t2 fun t8 =>
  OpX Try.prog (.buildSlice 50 1 #[(0, .const (nthV vs1 0))]) 50 fun t10 =>
  OpX Try.prog (.call { callee := .builtin .append, args := #[.const t8, .const t10], argTypes := #[50, 50] }) 50 fun t11 =>
  xS 50 t2 t11 <|
  kn1)
  (fun r1 =>
  xL 50 t2 fun t12 =>
  closeV (dcons r1 (.tuple #[])) <|
  K t12)
  (fun _ _ => False)
  []
theorem slices_AppendSeq_int_int_link (p0 p1 : Value) : Lk 123 #[p0, p1] (slices_AppendSeq_int_int p0 p1) := lk [p0, p1] [] Try.func123 (by kernel_rfl) fun _ _ => by kernel_rfl
theorem slices_AppendSeq_int_int_b : Bodied Try.prog 123 := bd Try.func123 (by kernel_rfl)

/- slices.Sorted[int] -/
def slices_Sorted_int (p0 : Value) (K : Value → World → Prop) : World → Prop :=
  xC 111 [.const p0] [127] 50 fun t5 =>
  xC 112 [.const t5] [50] 0 fun _ =>
  K t5
theorem slices_Sorted_int_link (p0 : Value) : Lk 96 #[p0] (slices_Sorted_int p0) := lk [p0] [] Try.func96 (by kernel_rfl) fun _ _ => by kernel_rfl
theorem slices_Sorted_int_b : Bodied Try.prog 96 := bd Try.func96 (by kernel_rfl)

end Go.Proofs.Ytdjdeahmhenchaa
