/- The given statement HistoryRoom: for every room and every rows of numbers the law returns true, its arguments read as they did. -/
import Derived.Test.YtdjdeahmhenchaaRows
import Derived.Test.YtdjdeahmhenchaaLycRow
import Derived.Test.YtdjdeahmhenchaaLaw10
set_option linter.unusedSimpArgs false
set_option linter.unusedVariables false
namespace Go.Proofs.Ytdjdeahmhenchaa
open Lyc Go Go.ChangeShapes Go.WideShapes Go.ChangeAt Go.RowKit Go.Deep
set_option maxRecDepth 100000

theorem own : ownKnob Try.prog.godebug = none := by kernel_rfl
theorem laidOut : laidOutB Try.prog = true := by kernel_rfl

theorem historyRoom_lifted (os : Os) (started : os.Started) (H : Type) (enc : TypeId × Value → H) :
    ReturnsInHanded {} Try.checked os 8 .any (Rows.historyRoomSpec.pre6 enc Try.prog Try.f8 Rows.historyRoomRow.domain false) (Rows.historyRoomSpec.post enc Try.prog Try.f8 false true false false) :=
  lifted_true (C := Try.checked) own started (by kernel_rfl) Try.func8
    (ChangeSpec.witness6 (enc := enc) (C := Try.checked) false ⟨#[], #[.int .i64 0, .slice none 0 0], []⟩ 8 (by kernel_rfl) (by kernel_rfl) (by kernel_rfl) (by kernel_rfl))
    laidOut rfl Try.underlying4 (by kernel_rfl) rfl
    (fun ds h => by
      match ds, h with
      | [d1, d2], _ => rfl)
    (fun W base args ds p hval hA => by
      rw [Try.params8] at hA hval
      obtain ⟨v0, v1, d0, d1, p0, p1, rfl, rfl, rfl, h0, h1⟩ := trodAll_two hA
      obtain ⟨a, rfl, rfl, rfl, wa⟩ := open_int Try.underlying3 (hval 0 3 v0 rfl rfl) h0
      obtain ⟨b, l, cap, rfl, hs, hl, hr⟩ := open_introws Try.underlying48 Try.underlying50 Try.underlying3 (by kernel_rfl) (by kernel_rfl) (hval 1 48 v1 rfl rfl) h1
      exact room10_c a cap hs hl hr)

theorem historyRoom_holds : Rows.HistoryRoomSaid :=
  OpenClaim.holds_of_wide 8 Try.f8 rfl rfl rfl rfl rfl rfl rfl ⟨rfl, rfl, rfl, rfl, rfl⟩ rfl rfl rfl rfl rfl (by kernel_rfl) Try.func8 (by kernel_rfl)
    (of_decide_eq_true (by kernel_rfl)) (by unfold Func.isWrapper; first | (rw [if_pos (by decide +kernel)]; kernel_rfl) | (rw [if_neg (by decide +kernel)]; exact ⟨rfl, rfl⟩))
    (fun os started H enc _ => historyRoom_lifted os started H enc)

end Go.Proofs.Ytdjdeahmhenchaa
