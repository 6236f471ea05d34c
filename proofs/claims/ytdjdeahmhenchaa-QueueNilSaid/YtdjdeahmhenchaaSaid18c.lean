/- The given statement QueueNil: for every frame the law returns true, its argument reads as it did. -/
import Derived.Test.YtdjdeahmhenchaaArgs18
import Derived.Test.YtdjdeahmhenchaaLaw18c
import Derived.Lib.SmallJoins
set_option linter.unusedSimpArgs false
set_option linter.unusedVariables false
namespace Go.Proofs.Ytdjdeahmhenchaa
open Lyc Go Go.ChangeShapes Go.WideShapes Go.ChangeAt Go.RowKit Go.Deep
set_option maxRecDepth 100000

theorem queueNil_lifted (os : Os) (started : os.Started) (H : Type) (enc : TypeId × Value → H) :
    ReturnsInHanded {} Try.checked os 5 .any (Rows.queueNilSpec.pre6 enc Try.prog Try.f5 Rows.queueNilRow.domain false) (Rows.queueNilSpec.post enc Try.prog Try.f5 false true false false) :=
  lifted_true (C := Try.checked) own started (by kernel_rfl) Try.func5
    (ChangeSpec.witness6 (enc := enc) (C := Try.checked) false ⟨#[], #[.agg #[.int .i64 0, .int .i64 0, .bool false, .string ⟨#[]⟩]], []⟩ 8 (by kernel_rfl) (by kernel_rfl) (by kernel_rfl) (by kernel_rfl))
    laidOut rfl Try.underlying4 (by kernel_rfl) rfl
    (fun ds h => by
      match ds, h with
      | [d1], _ => rfl)
    (fun W base args ds p hval hA => by
      rw [Try.params5] at hA hval
      obtain ⟨v0, d0, rfl, rfl, h0⟩ := trodAll_one hA
      obtain ⟨x0, x1, x2, x3, y0, y1, y2, y3, n, rfl, -, -, t0, t1, t2, t3⟩ := Go.Joins.open_agg4 Try.underlying29 (by kernel_rfl) (by kernel_rfl) (hval 0 29 v0 rfl rfl) h0
      obtain ⟨k0, e0, -, -⟩ := DataW.trod_int Try.underlying3 t0
      obtain ⟨k1, e1, -, -⟩ := DataW.trod_int Try.underlying3 t1
      obtain ⟨k2, e2, -⟩ := DataW.trod_bool Try.underlying4 t2
      obtain ⟨k3, e3, -, hs⟩ := DataW.trod_string Try.underlying9 t3
      cases e0; cases e1; cases e2; cases e3
      exact nil18_c W ⟨k0, k1, k2, k3⟩ (by simp only [maxLen] at hs; exact hs))

theorem queueNil_holds : Rows.QueueNilSaid :=
  OpenClaim.holds_of_wide 5 Try.f5 rfl rfl rfl rfl rfl rfl rfl ⟨rfl, rfl, rfl, rfl, rfl⟩ rfl rfl rfl rfl rfl (by kernel_rfl) Try.func5 (by kernel_rfl)
    (of_decide_eq_true (by kernel_rfl)) (by unfold Func.isWrapper; first | (rw [if_pos (by decide +kernel)]; kernel_rfl) | (rw [if_neg (by decide +kernel)]; exact ⟨rfl, rfl⟩))
    (fun os started H enc _ => queueNil_lifted os started H enc)

end Go.Proofs.Ytdjdeahmhenchaa
