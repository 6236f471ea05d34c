/- The given statement GridLays: for every two grids by numbers, and every two numbers the law returns true, its arguments read as they did. -/
import Derived.Test.YtdjdeahmhenchaaRows
import Derived.Test.YtdjdeahmhenchaaLycRow
import Derived.Test.YtdjdeahmhenchaaLaw06E
import Derived.Lib.SmallJoins
set_option linter.unusedSimpArgs false
set_option linter.unusedVariables false
namespace Go.Proofs.Ytdjdeahmhenchaa
open Lyc Go Go.Joins Go.ChangeShapes Go.WideShapes Go.ChangeAt Go.RowKit Go.Deep
set_option maxRecDepth 100000

theorem own : ownKnob Try.prog.godebug = none := by kernel_rfl
theorem laidOut : laidOutB Try.prog = true := by kernel_rfl

theorem gridLays_lifted (os : Os) (started : os.Started) (H : Type) (enc : TypeId × Value → H) :
    ReturnsInHanded {} Try.checked os 12 .any (Rows.gridLaysSpec.pre6 enc Try.prog Try.f12 Rows.gridLaysRow.domain false) (Rows.gridLaysSpec.post enc Try.prog Try.f12 false true false false) :=
  lifted_true (C := Try.checked) own started (by kernel_rfl) Try.func12
    (ChangeSpec.witness6 (enc := enc) (C := Try.checked) false ⟨#[], #[.agg #[.int .i64 0, .int .i64 0, .slice none 0 0], .agg #[.int .i64 0, .int .i64 0, .slice none 0 0], .agg #[.int .i64 0, .int .i64 0]], []⟩ 8 (by kernel_rfl) (by kernel_rfl) (by kernel_rfl) (by kernel_rfl))
    laidOut rfl Try.underlying4 (by kernel_rfl) rfl
    (fun ds h => by
      match ds, h with
      | [d1, d2, d3], _ => rfl)
    (fun W base args ds p hval hA => by
      rw [Try.params12] at hA hval
      obtain ⟨v0, v1, v2, d0, d1, d2, p0, p1, p2, rfl, rfl, rfl, h0, h1, h2⟩ := trodAll_three hA
      obtain ⟨x0, x1, x2, y0, y1, y2, n, rfl, -, -, t0, t1, t2⟩ := open_agg3 Try.underlying62 (by kernel_rfl) (by kernel_rfl) (hval 0 62 v0 rfl rfl) h0
      obtain ⟨k0, e0, -, -⟩ := DataW.trod_int Try.underlying3 t0
      obtain ⟨k1, e1, -, -⟩ := DataW.trod_int Try.underlying3 t1
      cases e0; cases e1
      obtain ⟨a, l, cap, rfl, hs, hl⟩ := open_intcell Try.underlying50 Try.underlying3 (by kernel_rfl) t2
      obtain ⟨z0, z1, z2, q0, q1, q2, m, rfl, -, -, s0, s1, s2⟩ := open_agg3 Try.underlying62 (by kernel_rfl) (by kernel_rfl) (hval 1 62 v1 rfl rfl) h1
      obtain ⟨k2, e2, -, -⟩ := DataW.trod_int Try.underlying3 s0
      obtain ⟨k3, e3, -, -⟩ := DataW.trod_int Try.underlying3 s1
      cases e2; cases e3
      obtain ⟨a', l', cap', rfl, hs', hl'⟩ := open_intcell Try.underlying50 Try.underlying3 (by kernel_rfl) s2
      obtain ⟨q, rfl, hq⟩ := open_intarr Try.underlying73 Try.underlying3 (by kernel_rfl) (by kernel_rfl) (hval 2 73 v2 rfl rfl) h2
      match q, hq with
      | [q0, q1], _ => exact lays_c hs hs' cap cap' k0 k1 k2 k3 q0 q1)

theorem gridLays_holds : Rows.GridLaysSaid :=
  OpenClaim.holds_of_wide 12 Try.f12 rfl rfl rfl rfl rfl rfl rfl ⟨rfl, rfl, rfl, rfl, rfl⟩ rfl rfl rfl rfl rfl (by kernel_rfl) Try.func12 (by kernel_rfl)
    (of_decide_eq_true (by kernel_rfl)) (by unfold Func.isWrapper; first | (rw [if_pos (by decide +kernel)]; kernel_rfl) | (rw [if_neg (by decide +kernel)]; exact ⟨rfl, rfl⟩))
    (fun os started H enc _ => gridLays_lifted os started H enc)

end Go.Proofs.Ytdjdeahmhenchaa
