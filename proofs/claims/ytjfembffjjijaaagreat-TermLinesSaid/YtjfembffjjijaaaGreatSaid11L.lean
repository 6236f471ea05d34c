/- The given statement TermLines: the law returns true for every input, its arguments read as they did. -/
import Derived.Test.YtjfembffjjijaaaGreatB4
import Derived.Test.YtjfembffjjijaaaGreatB5
set_option linter.unusedSimpArgs false
set_option linter.unusedVariables false
namespace Go.Proofs.YtjfembffjjijaaaGreat
open Lyc Go Go.Joins Go.ChangeShapes Go.WideShapes Go.ChangeAt Go.RowKit Go.Deep
set_option maxRecDepth 100000

theorem termLines_lifted (os : Os) (started : os.Started) (H : Type) (enc : TypeId × Value → H) :
    ReturnsInHanded {} Tryz.checked os 4 .any (Rows.termLinesSpec.pre6 enc Tryz.prog Tryz.f4 Rows.termLinesRow.domain false) (Rows.termLinesSpec.post enc Tryz.prog Tryz.f4 false true false false) :=
  lifted_true (C := Tryz.checked) own started (by kernel_rfl) Tryz.func4
    (ChangeSpec.witness6 (enc := enc) (C := Tryz.checked) false ⟨#[], #[.agg #[.int .i64 0, .int .i64 0], .slice none 0 0], []⟩ 8 (by kernel_rfl) (by kernel_rfl) (by kernel_rfl) (by kernel_rfl))
    laidOut rfl Tryz.underlying4 (by kernel_rfl) rfl
    (fun ds h => by
      match ds, h with
      | [d1, d2], _ => rfl)
    (fun W base args ds p hval hA => by
      rw [Tryz.params4] at hA hval
      obtain ⟨v0, v1, d0, d1, p0, p1, rfl, rfl, rfl, h0, h1⟩ := trodAll_two hA
      obtain ⟨x, y, rfl⟩ := open_size (hval 0 47 v0 rfl rfl) h0
      obtain ⟨a, l, cap, rfl, hs, hl, hr⟩ := open_introws Tryz.underlying48 Tryz.underlying52 Tryz.underlying3 (by kernel_rfl) (by kernel_rfl) (hval 1 48 v1 rfl rfl) h1
      exact tlines_c hs cap hl hr x y)

theorem termLines_holds : Rows.TermLinesSaid :=
  OpenClaim.holds_of_wide 4 Tryz.f4 rfl rfl rfl rfl rfl rfl rfl ⟨rfl, rfl, rfl, rfl, rfl⟩ rfl rfl rfl rfl rfl (by kernel_rfl) Tryz.func4 (by kernel_rfl)
    (of_decide_eq_true (by kernel_rfl)) (by unfold Func.isWrapper; first | (rw [if_pos (by decide +kernel)]; kernel_rfl) | (rw [if_neg (by decide +kernel)]; exact ⟨rfl, rfl⟩))
    (fun os started H enc _ => termLines_lifted os started H enc)

end Go.Proofs.YtjfembffjjijaaaGreat
