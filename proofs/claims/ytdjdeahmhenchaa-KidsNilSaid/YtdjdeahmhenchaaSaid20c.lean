/- The given statement KidsNil: for every number the law returns true, its argument reads as it did. -/
import Derived.Test.YtdjdeahmhenchaaRows
import Derived.Test.YtdjdeahmhenchaaLycRow
import Derived.Test.YtdjdeahmhenchaaLaw20
set_option linter.unusedSimpArgs false
set_option linter.unusedVariables false
namespace Go.Proofs.Ytdjdeahmhenchaa
open Lyc Go Go.ChangeShapes Go.WideShapes Go.ChangeAt Go.RowKit Go.Deep
set_option maxRecDepth 100000

theorem own : ownKnob Try.prog.godebug = none := by kernel_rfl
theorem laidOut : laidOutB Try.prog = true := by kernel_rfl

theorem kidsNil_lifted (os : Os) (started : os.Started) (H : Type) (enc : TypeId × Value → H) :
    ReturnsInHanded {} Try.checked os 14 .any (Rows.kidsNilSpec.pre6 enc Try.prog Try.f14 Rows.kidsNilRow.domain false) (Rows.kidsNilSpec.post enc Try.prog Try.f14 false true false false) :=
  lifted_true (C := Try.checked) own started (by kernel_rfl) Try.func14
    (ChangeSpec.witness6 (enc := enc) (C := Try.checked) false ⟨#[], #[.int .i64 0], []⟩ 8 (by kernel_rfl) (by kernel_rfl) (by kernel_rfl) (by kernel_rfl))
    laidOut rfl Try.underlying4 (by kernel_rfl) rfl
    (fun ds h => by
      match ds, h with
      | [d1], _ => rfl)
    (fun W base args ds p hval hA => by
      rw [Try.params14] at hA hval
      obtain ⟨v0, d0, rfl, rfl, h0⟩ := trodAll_one hA
      obtain ⟨a, rfl, rfl, rfl, wa⟩ := open_int Try.underlying3 (hval 0 3 v0 rfl rfl) h0
      exact nil20_c W a)

theorem kidsNil_holds : Rows.KidsNilSaid :=
  OpenClaim.holds_of_wide 14 Try.f14 rfl rfl rfl rfl rfl rfl rfl ⟨rfl, rfl, rfl, rfl, rfl⟩ rfl rfl rfl rfl rfl (by kernel_rfl) Try.func14 (by kernel_rfl)
    (of_decide_eq_true (by kernel_rfl)) (by unfold Func.isWrapper; first | (rw [if_pos (by decide +kernel)]; kernel_rfl) | (rw [if_neg (by decide +kernel)]; exact ⟨rfl, rfl⟩))
    (fun os started H enc _ => kidsNil_lifted os started H enc)

end Go.Proofs.Ytdjdeahmhenchaa
