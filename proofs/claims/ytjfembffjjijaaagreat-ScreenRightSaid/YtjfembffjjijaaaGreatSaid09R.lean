/- The given statement ScreenRight: for every size, all characters and all acts the law returns true, its arguments read as they did. -/
import Derived.Test.YtjfembffjjijaaaGreatRows
import Derived.Test.YtjfembffjjijaaaGreatB1
import Derived.Test.YtjfembffjjijaaaGreatB4
import Derived.Lib.SmallJoins
set_option linter.unusedSimpArgs false
set_option linter.unusedVariables false
namespace Go.Proofs.YtjfembffjjijaaaGreat
open Lyc Go Go.Joins Go.ChangeShapes Go.WideShapes Go.ChangeAt Go.RowKit Go.Deep
set_option maxRecDepth 100000

theorem own : ownKnob Tryz.prog.godebug = none := by kernel_rfl
theorem laidOut : laidOutB Tryz.prog = true := by kernel_rfl

theorem act_each {H : Type} {enc : TypeId × Value → H} {w : World} {base : Nat} {spare : Nat → Bool} {held : Bool} (n : Nat) (cs : List Value) (y : DataW H × List MemPlace) (h : DataW.trod enc Tryz.prog w base spare held n 34 cs = some y) : ∃ a : Act', cs = a.cells ∧ a.fits := by
  have hlen : cs.length = 13 := by
    obtain ⟨-, -, -, -, hl, -⟩ := DataW.trod_struct Tryz.underlying34 h
    rw [hl]; kernel_rfl
  obtain ⟨_, _, f0⟩ := field_of Tryz.underlying34 h 0 _ rfl (ft := 3) (off := 0) (sz := 1) rfl rfl (by kernel_rfl)
  obtain ⟨_, _, f1⟩ := field_of Tryz.underlying34 h 1 _ rfl (ft := 21) (off := 1) (sz := 1) rfl rfl (by kernel_rfl)
  obtain ⟨_, _, f2⟩ := field_of Tryz.underlying34 h 2 _ rfl (ft := 5) (off := 2) (sz := 1) rfl rfl (by kernel_rfl)
  obtain ⟨_, _, f3⟩ := field_of Tryz.underlying34 h 3 _ rfl (ft := 5) (off := 3) (sz := 1) rfl rfl (by kernel_rfl)
  obtain ⟨_, _, f4⟩ := field_of Tryz.underlying34 h 4 _ rfl (ft := 3) (off := 4) (sz := 1) rfl rfl (by kernel_rfl)
  obtain ⟨_, _, f5⟩ := field_of Tryz.underlying34 h 5 _ rfl (ft := 32) (off := 5) (sz := 8) rfl rfl (by kernel_rfl)
  obtain ⟨k0, e0, -, -⟩ := trod_int_in Tryz.underlying3 f0
  obtain ⟨k1, e1, b1, c1⟩ := trod_int_in Tryz.underlying21 f1
  obtain ⟨k2, e2, -, -⟩ := trod_int_in Tryz.underlying5 f2
  obtain ⟨k3, e3, -, -⟩ := trod_int_in Tryz.underlying5 f3
  obtain ⟨k4, e4, b4, c4⟩ := trod_int_in Tryz.underlying3 f4
  obtain ⟨l, e5, hl, hb⟩ := trod_arr (fun n : Int => Value.int .i64 n) (fun n => IntKind.min .i64 ≤ n ∧ n ≤ IntKind.max .i64) Tryz.underlying32 (by kernel_rfl) (by kernel_rfl)
    (fun n cs y h => let ⟨k, h1, h2, h3⟩ := trod_int_in Tryz.underlying3 h; ⟨k, h1, h2, h3⟩) f5
  match l, hl with
  | [n0, n1, n2, n3, n4, n5, n6, n7], _ =>
    refine ⟨⟨k0, k1, k2, k3, k4, n0, n1, n2, n3, n4, n5, n6, n7⟩, ?_, ⟨b1, c1, ⟨b4, c4⟩, fun x hx => hb x hx⟩⟩
    have s := drop_step e0
    rw [List.drop_zero, drop_step e1, drop_step e2, drop_step e3, drop_step e4, drop_step e5, List.drop_eq_nil_of_le (by omega)] at s
    rw [s]
    rfl
theorem screenRight_lifted (os : Os) (started : os.Started) (H : Type) (enc : TypeId × Value → H) :
    ReturnsInHanded {} Tryz.checked os 3 .any (Rows.screenRightSpec.pre6 enc Tryz.prog Tryz.f3 Rows.screenRightRow.domain false) (Rows.screenRightSpec.post enc Tryz.prog Tryz.f3 false true false false) :=
  lifted_true (C := Tryz.checked) own started (by kernel_rfl) Tryz.func3
    (ChangeSpec.witness6 (enc := enc) (C := Tryz.checked) false ⟨#[], #[.agg #[.int .i64 0, .int .i64 0], .slice none 0 0, .slice none 0 0], []⟩ 8 (by kernel_rfl) (by kernel_rfl) (by kernel_rfl) (by kernel_rfl))
    laidOut rfl Tryz.underlying4 (by kernel_rfl) rfl
    (fun ds h => by
      match ds, h with
      | [d1, d2, d3], _ => rfl)
    (fun W base args ds p hval hA => by
      rw [Tryz.params3] at hA hval
      obtain ⟨v0, v1, v2, d0, d1, d2, p0, p1, p2, rfl, rfl, rfl, h0, h1, h2⟩ := trodAll_three hA
      obtain ⟨x0, x1, y0, y1, n, rfl, -, -, t0, t1⟩ := open_agg2 Tryz.underlying23 (by kernel_rfl) (by kernel_rfl) (hval 0 23 v0 rfl rfl) h0
      obtain ⟨k0, e0, -, -⟩ := DataW.trod_int Tryz.underlying3 t0
      obtain ⟨k1, e1, -, -⟩ := DataW.trod_int Tryz.underlying3 t1
      cases e0; cases e1
      obtain ⟨a, l, cap, rfl, hs, hcap, -, hr⟩ := open_things runeF (fun n => IntKind.min .i32 ≤ n ∧ n ≤ IntKind.max .i32) Tryz.underlying24 (by kernel_rfl) (by omega) runeF_len (fun n cs y h => let ⟨k, h1, h2, h3⟩ := trod_int_in Tryz.underlying21 h; ⟨k, h1, h2, h3⟩) (hval 1 24 v1 rfl rfl) h1
      obtain ⟨a2, l2, cap2, rfl, hs2, -, hl2, hf2⟩ := open_things Act'.cells Act'.fits Tryz.underlying25 (by kernel_rfl) (by omega) Act'.len act_each (hval 2 25 v2 rfl rfl) h2
      exact sright_c hs cap hcap hr hs2 cap2 hf2 hl2 k0 k1)

theorem screenRight_holds : Rows.ScreenRightSaid :=
  OpenClaim.holds_of_wide 3 Tryz.f3 rfl rfl rfl rfl rfl rfl rfl ⟨rfl, rfl, rfl, rfl, rfl⟩ rfl rfl rfl rfl rfl (by kernel_rfl) Tryz.func3 (by kernel_rfl)
    (of_decide_eq_true (by kernel_rfl)) (by unfold Func.isWrapper; first | (rw [if_pos (by decide +kernel)]; kernel_rfl) | (rw [if_neg (by decide +kernel)]; exact ⟨rfl, rfl⟩))
    (fun os started H enc _ => screenRight_lifted os started H enc)

end Go.Proofs.YtjfembffjjijaaaGreat
