/- The given statement ScreenPrints: the law returns true for every input, its arguments read as they did. -/
import Derived.Test.YtjfembffjjijaaaB4
set_option linter.unusedSimpArgs false
set_option linter.unusedVariables false
namespace Go.Proofs.Ytjfembffjjijaaa
open Lyc Go Go.Joins Go.ChangeShapes Go.WideShapes Go.ChangeAt Go.RowKit Go.Deep
set_option maxRecDepth 100000

theorem screenPrints_lifted (os : Os) (started : os.Started) (H : Type) (enc : TypeId × Value → H) :
    ReturnsInHanded {} Try.checked os 4 .any (Rows.screenPrintsSpec.pre6 enc Try.prog Try.f4 Rows.screenPrintsRow.domain false) (Rows.screenPrintsSpec.post enc Try.prog Try.f4 false true false false) :=
  lifted_true (C := Try.checked) own started (by kernel_rfl) Try.func4
    (ChangeSpec.witness6 (enc := enc) (C := Try.checked) false ⟨#[], #[.agg #[.int .i64 0, .int .i64 0], .slice none 0 0], []⟩ 8 (by kernel_rfl) (by kernel_rfl) (by kernel_rfl) (by kernel_rfl))
    laidOut rfl Try.underlying4 (by kernel_rfl) rfl
    (fun ds h => by
      match ds, h with
      | [d1, d2], _ => rfl)
    (fun W base args ds p hval hA => by
      rw [Try.params4] at hA hval
      obtain ⟨v0, v1, d0, d1, p0, p1, rfl, rfl, rfl, h0, h1⟩ := trodAll_two hA
      obtain ⟨x, y, rfl⟩ := open_size (hval 0 23 v0 rfl rfl) h0
      obtain ⟨a, l, cap, rfl, hs, hl⟩ := open_intl Try.underlying42 Try.underlying3 (by kernel_rfl) (hval 1 42 v1 rfl rfl) h1
      exact sprints_c hs cap hl x y)

theorem screenPrints_holds : Rows.ScreenPrintsSaid :=
  OpenClaim.holds_of_wide 4 Try.f4 rfl rfl rfl rfl rfl rfl rfl ⟨rfl, rfl, rfl, rfl, rfl⟩ rfl rfl rfl rfl rfl (by kernel_rfl) Try.func4 (by kernel_rfl)
    (of_decide_eq_true (by kernel_rfl)) (by unfold Func.isWrapper; first | (rw [if_pos (by decide +kernel)]; kernel_rfl) | (rw [if_neg (by decide +kernel)]; exact ⟨rfl, rfl⟩))
    (fun os started H enc _ => screenPrints_lifted os started H enc)

end Go.Proofs.Ytjfembffjjijaaa
