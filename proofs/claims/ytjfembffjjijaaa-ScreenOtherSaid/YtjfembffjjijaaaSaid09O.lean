/- The given statement ScreenOther: the law returns true for every input, its arguments read as they did. -/
import Derived.Test.YtjfembffjjijaaaB4
set_option linter.unusedSimpArgs false
set_option linter.unusedVariables false
namespace Go.Proofs.Ytjfembffjjijaaa
open Lyc Go Go.Joins Go.ChangeShapes Go.WideShapes Go.ChangeAt Go.RowKit Go.Deep
set_option maxRecDepth 100000

theorem screenOther_lifted (os : Os) (started : os.Started) (H : Type) (enc : TypeId × Value → H) :
    ReturnsInHanded {} Try.checked os 6 .any (Rows.screenOtherSpec.pre6 enc Try.prog Try.f6 Rows.screenOtherRow.domain false) (Rows.screenOtherSpec.post enc Try.prog Try.f6 false true false false) :=
  lifted_true (C := Try.checked) own started (by kernel_rfl) Try.func6
    (ChangeSpec.witness6 (enc := enc) (C := Try.checked) false ⟨#[], #[.agg #[.int .i64 0, .int .i64 0], .slice none 0 0, .slice none 0 0], []⟩ 8 (by kernel_rfl) (by kernel_rfl) (by kernel_rfl) (by kernel_rfl))
    laidOut rfl Try.underlying4 (by kernel_rfl) rfl
    (fun ds h => by
      match ds, h with
      | [d1, d2, d3], _ => rfl)
    (fun W base args ds p hval hA => by
      rw [Try.params6] at hA hval
      obtain ⟨v0, v1, v2, d0, d1, d2, p0, p1, p2, rfl, rfl, rfl, h0, h1, h2⟩ := trodAll_three hA
      obtain ⟨x, y, rfl⟩ := open_size (hval 0 23 v0 rfl rfl) h0
      obtain ⟨a, l, cap, rfl, hs, hcap, hr⟩ := open_runes (hval 1 24 v1 rfl rfl) h1
      obtain ⟨a2, l2, cap2, rfl, hs2, hcap2, hr2⟩ := open_runes (hval 2 24 v2 rfl rfl) h2
      exact sother_c hs cap hcap hr hs2 cap2 hcap2 hr2 x y)

theorem screenOther_holds : Rows.ScreenOtherSaid :=
  OpenClaim.holds_of_wide 6 Try.f6 rfl rfl rfl rfl rfl rfl rfl ⟨rfl, rfl, rfl, rfl, rfl⟩ rfl rfl rfl rfl rfl (by kernel_rfl) Try.func6 (by kernel_rfl)
    (of_decide_eq_true (by kernel_rfl)) (by unfold Func.isWrapper; first | (rw [if_pos (by decide +kernel)]; kernel_rfl) | (rw [if_neg (by decide +kernel)]; exact ⟨rfl, rfl⟩))
    (fun os started H enc _ => screenOther_lifted os started H enc)

end Go.Proofs.Ytjfembffjjijaaa
