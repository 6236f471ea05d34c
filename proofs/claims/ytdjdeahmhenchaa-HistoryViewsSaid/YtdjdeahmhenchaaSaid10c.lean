/- The given statement HistoryViews: for every list of numbers, every height and every way back the law returns true, its arguments read as they did. -/
import Derived.Test.YtdjdeahmhenchaaRows
import Derived.Test.YtdjdeahmhenchaaLycRow
import Derived.Test.YtdjdeahmhenchaaLaw10V
set_option linter.unusedSimpArgs false
set_option linter.unusedVariables false
namespace Go.Proofs.Ytdjdeahmhenchaa
open Lyc Go Go.ChangeShapes Go.WideShapes Go.ChangeAt Go.RowKit Go.Deep
set_option maxRecDepth 100000

theorem own : ownKnob Try.prog.godebug = none := by kernel_rfl
theorem laidOut : laidOutB Try.prog = true := by kernel_rfl

theorem historyViews_lifted (os : Os) (started : os.Started) (H : Type) (enc : TypeId × Value → H) :
    ReturnsInHanded {} Try.checked os 9 .any (Rows.historyViewsSpec.pre6 enc Try.prog Try.f9 Rows.historyViewsRow.domain false) (Rows.historyViewsSpec.post enc Try.prog Try.f9 false true false false) :=
  lifted_true (C := Try.checked) own started (by kernel_rfl) Try.func9
    (ChangeSpec.witness6 (enc := enc) (C := Try.checked) false ⟨#[], #[.slice none 0 0, .int .i64 0, .int .i64 0], []⟩ 8 (by kernel_rfl) (by kernel_rfl) (by kernel_rfl) (by kernel_rfl))
    laidOut rfl Try.underlying4 (by kernel_rfl) rfl
    (fun ds h => by
      match ds, h with
      | [d1, d2, d3], _ => rfl)
    (fun W base args ds p hval hA => by
      rw [Try.params9] at hA hval
      obtain ⟨v0, v1, v2, d0, d1, d2, p0, p1, p2, rfl, rfl, rfl, h0, h1, h2⟩ := trodAll_three hA
      obtain ⟨b0, n0, cap, rfl, hs, hl⟩ := open_intl Try.underlying50 Try.underlying3 (by kernel_rfl) (hval 0 50 v0 rfl rfl) h0
      obtain ⟨b, rfl, rfl, rfl, wb⟩ := open_int Try.underlying3 (hval 1 3 v1 rfl rfl) h1
      obtain ⟨c, rfl, rfl, rfl, wc⟩ := open_int Try.underlying3 (hval 2 3 v2 rfl rfl) h2
      exact views10_c hs cap b c)

theorem historyViews_holds : Rows.HistoryViewsSaid :=
  OpenClaim.holds_of_wide 9 Try.f9 rfl rfl rfl rfl rfl rfl rfl ⟨rfl, rfl, rfl, rfl, rfl⟩ rfl rfl rfl rfl rfl (by kernel_rfl) Try.func9 (by kernel_rfl)
    (of_decide_eq_true (by kernel_rfl)) (by unfold Func.isWrapper; first | (rw [if_pos (by decide +kernel)]; kernel_rfl) | (rw [if_neg (by decide +kernel)]; exact ⟨rfl, rfl⟩))
    (fun os started H enc _ => historyViews_lifted os started H enc)

end Go.Proofs.Ytdjdeahmhenchaa
