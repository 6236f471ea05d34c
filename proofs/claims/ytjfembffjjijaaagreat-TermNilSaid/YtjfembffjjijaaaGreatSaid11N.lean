/- The given statement TermNil: the law returns true for every input, its arguments read as they did. -/
import Derived.Test.YtjfembffjjijaaaGreatB4
set_option linter.unusedSimpArgs false
set_option linter.unusedVariables false
namespace Go.Proofs.YtjfembffjjijaaaGreat
open Lyc Go Go.Joins Go.ChangeShapes Go.WideShapes Go.ChangeAt Go.RowKit Go.Deep
set_option maxRecDepth 100000

theorem termNil_lifted (os : Os) (started : os.Started) (H : Type) (enc : TypeId × Value → H) :
    ReturnsInHanded {} Tryz.checked os 7 .any (Rows.termNilSpec.pre6 enc Tryz.prog Tryz.f7 Rows.termNilRow.domain false) (Rows.termNilSpec.post enc Tryz.prog Tryz.f7 false true false false) :=
  lifted_true (C := Tryz.checked) own started (by kernel_rfl) Tryz.func7
    (ChangeSpec.witness6 (enc := enc) (C := Tryz.checked) false ⟨#[], #[.string ⟨#[]⟩, .int .i64 0, .int .i64 0], []⟩ 8 (by kernel_rfl) (by kernel_rfl) (by kernel_rfl) (by kernel_rfl))
    laidOut rfl Tryz.underlying4 (by kernel_rfl) rfl
    (fun ds h => by
      match ds, h with
      | [d1, d2, d3], _ => rfl)
    (fun W base args ds p hval hA => by
      rw [Tryz.params7] at hA hval
      obtain ⟨v0, v1, v2, d0, d1, d2, p0, p1, p2, rfl, rfl, rfl, h0, h1, h2⟩ := trodAll_three hA
      obtain ⟨s, rfl⟩ := open_text (hval 0 9 v0 rfl rfl)
      obtain ⟨a, rfl, rfl, rfl, wa⟩ := open_int Tryz.underlying3 (hval 1 3 v1 rfl rfl) h1
      obtain ⟨b, rfl, rfl, rfl, wb⟩ := open_int Tryz.underlying3 (hval 2 3 v2 rfl rfl) h2
      exact tnil11_c W s a b)

theorem termNil_holds : Rows.TermNilSaid :=
  OpenClaim.holds_of_wide 7 Tryz.f7 rfl rfl rfl rfl rfl rfl rfl ⟨rfl, rfl, rfl, rfl, rfl⟩ rfl rfl rfl rfl rfl (by kernel_rfl) Tryz.func7 (by kernel_rfl)
    (of_decide_eq_true (by kernel_rfl)) (by unfold Func.isWrapper; first | (rw [if_pos (by decide +kernel)]; kernel_rfl) | (rw [if_neg (by decide +kernel)]; exact ⟨rfl, rfl⟩))
    (fun os started H enc _ => termNil_lifted os started H enc)

end Go.Proofs.YtjfembffjjijaaaGreat
