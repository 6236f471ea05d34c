/- The given statement GridScrolls: for every grid by numbers, and every three numbers the law returns true, its arguments read as they did. -/
import Derived.Test.YtdjdeahmhenchaaRows
import Derived.Test.YtdjdeahmhenchaaLycRow
import Derived.Test.YtdjdeahmhenchaaLaw06D
import Derived.Lib.SmallJoins
set_option linter.unusedSimpArgs false
set_option linter.unusedVariables false
namespace Go.Proofs.Ytdjdeahmhenchaa
open Lyc Go Go.Joins Go.ChangeShapes Go.WideShapes Go.ChangeAt Go.RowKit Go.Deep
set_option maxRecDepth 100000

theorem own : ownKnob Try.prog.godebug = none := by kernel_rfl
theorem laidOut : laidOutB Try.prog = true := by kernel_rfl

theorem gridScrolls_lifted (os : Os) (started : os.Started) (H : Type) (enc : TypeId × Value → H) :
    ReturnsInHanded {} Try.checked os 11 .any (Rows.gridScrollsSpec.pre6 enc Try.prog Try.f11 Rows.gridScrollsRow.domain false) (Rows.gridScrollsSpec.post enc Try.prog Try.f11 false true false false) :=
  lifted_true (C := Try.checked) own started (by kernel_rfl) Try.func11
    (ChangeSpec.witness6 (enc := enc) (C := Try.checked) false ⟨#[], #[.agg #[.int .i64 0, .int .i64 0, .slice none 0 0], .agg #[.int .i64 0, .int .i64 0, .int .i64 0]], []⟩ 8 (by kernel_rfl) (by kernel_rfl) (by kernel_rfl) (by kernel_rfl))
    laidOut rfl Try.underlying4 (by kernel_rfl) rfl
    (fun ds h => by
      match ds, h with
      | [d1, d2], _ => rfl)
    (fun W base args ds p hval hA => by
      rw [Try.params11] at hA hval
      obtain ⟨v0, v1, d0, d1, p0, p1, rfl, rfl, rfl, h0, h1⟩ := trodAll_two hA
      obtain ⟨x0, x1, x2, y0, y1, y2, n, rfl, -, -, t0, t1, t2⟩ := open_agg3 Try.underlying62 (by kernel_rfl) (by kernel_rfl) (hval 0 62 v0 rfl rfl) h0
      obtain ⟨k0, e0, -, -⟩ := DataW.trod_int Try.underlying3 t0
      obtain ⟨k1, e1, -, -⟩ := DataW.trod_int Try.underlying3 t1
      cases e0; cases e1
      obtain ⟨a, l, cap, rfl, hs, hl⟩ := open_intcell Try.underlying50 Try.underlying3 (by kernel_rfl) t2
      obtain ⟨q, rfl, hq⟩ := open_intarr Try.underlying70 Try.underlying3 (by kernel_rfl) (by kernel_rfl) (hval 1 70 v1 rfl rfl) h1
      match q, hq with
      | [q0, q1, q2], _ => exact scrolls_c hs cap k0 k1 q0 q1 q2)

theorem gridScrolls_holds : Rows.GridScrollsSaid :=
  OpenClaim.holds_of_wide 11 Try.f11 rfl rfl rfl rfl rfl rfl rfl ⟨rfl, rfl, rfl, rfl, rfl⟩ rfl rfl rfl rfl rfl (by kernel_rfl) Try.func11 (by kernel_rfl)
    (of_decide_eq_true (by kernel_rfl)) (by unfold Func.isWrapper; first | (rw [if_pos (by decide +kernel)]; kernel_rfl) | (rw [if_neg (by decide +kernel)]; exact ⟨rfl, rfl⟩))
    (fun os started H enc _ => gridScrolls_lifted os started H enc)

end Go.Proofs.Ytdjdeahmhenchaa
