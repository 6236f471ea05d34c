/- The given statement KidsRoom: for every room and every script the law returns true, its arguments read as they did. -/
import Derived.Test.YtdjdeahmhenchaaRows
import Derived.Test.YtdjdeahmhenchaaLycRow
import Derived.Test.YtdjdeahmhenchaaLaw20c
set_option linter.unusedSimpArgs false
set_option linter.unusedVariables false
namespace Go.Proofs.Ytdjdeahmhenchaa
open Lyc Go Go.ChangeShapes Go.WideShapes Go.ChangeAt Go.RowKit Go.Deep
set_option maxRecDepth 100000

theorem own : ownKnob Try.prog.godebug = none := by kernel_rfl
theorem laidOut : laidOutB Try.prog = true := by kernel_rfl

instance : Inhabited Op20 := ⟨⟨0, 0, false⟩⟩

theorem open_ops {H : Type} {enc : TypeId × Value → H} {w : World} {base : Nat} {spare : Nat → Bool} {held : Bool} {b0 : Nat} {v : Value} {d : DataW H} {p : List MemPlace} 
    (hv : Value.okWide Try.prog w .any b0 78 v)
    (h : DataW.Trod enc Try.prog w base spare held 78 v d p) : ∃ (len : Nat) (ops : Nat → Op20), SlA w v len 3 (fun i => (ops i).cells) ∧ len ≤ 9223372036854775807 := by
  obtain ⟨fuel, h⟩ := h
  obtain ⟨a, len, cap, rfl⟩ := okWide_slice Try.underlying78 hv
  rcases open_slice_rows Try.underlying78 Try.underlying80 (by kernel_rfl) (by kernel_rfl) h with h0 | ⟨a, len, cap, hcs, hl, hm, hi⟩
  · simp [Value.cells] at h0
    obtain ⟨rfl, rfl, rfl⟩ := h0
    exact ⟨0, fun _ => default, sla_nil _ _ _ _ _ rfl, by omega⟩
  · simp [Value.cells] at hcs
    obtain ⟨rfl, rfl, rfl⟩ := hcs
    obtain ⟨g, hg⟩ := sla_of (w := w) (a := a) (len := len) (cap := cap) (m := 3) Op20.cells (by omega) (fun _ => rfl) (fun i hil => by
      have hi := hi i hil
      obtain ⟨v0, n0, y0, c0, t0⟩ := hi 0 _ rfl
      obtain ⟨v1, n1, y1, c1, t1⟩ := hi 1 _ rfl
      obtain ⟨v2, n2, y2, c2, t2⟩ := hi 2 _ rfl
      obtain ⟨k0, e0, -, -⟩ := DataW.trod_int Try.underlying3 t0
      obtain ⟨k1, e1, -, -⟩ := DataW.trod_int Try.underlying3 t1
      obtain ⟨k2, e2, -⟩ := DataW.trod_bool Try.underlying4 t2
      cases e0; cases e1; cases e2
      refine ⟨⟨k0, k1, k2⟩, fun j hj => ?_⟩
      match j, hj with
      | 0, _ => exact c0
      | 1, _ => exact c1
      | 2, _ => exact c2)
    exact ⟨len, g, hg, by simp only [maxLen] at hm; omega⟩

theorem kidsRoom_lifted (os : Os) (started : os.Started) (H : Type) (enc : TypeId × Value → H) :
    ReturnsInHanded {} Try.checked os 13 .any (Rows.kidsRoomSpec.pre6 enc Try.prog Try.f13 Rows.kidsRoomRow.domain false) (Rows.kidsRoomSpec.post enc Try.prog Try.f13 false true false false) :=
  lifted_true (C := Try.checked) own started (by kernel_rfl) Try.func13
    (ChangeSpec.witness6 (enc := enc) (C := Try.checked) false ⟨#[], #[.int .i64 0, .slice none 0 0], []⟩ 8 (by kernel_rfl) (by kernel_rfl) (by kernel_rfl) (by kernel_rfl))
    laidOut rfl Try.underlying4 (by kernel_rfl) rfl
    (fun ds h => by
      match ds, h with
      | [d1, d2], _ => rfl)
    (fun W base args ds p hval hA => by
      rw [Try.params13] at hA hval
      obtain ⟨v0, v1, d0, d1, p0, p1, rfl, rfl, rfl, h0, h1⟩ := trodAll_two hA
      obtain ⟨a, rfl, rfl, rfl, wa⟩ := open_int Try.underlying3 (hval 0 3 v0 rfl rfl) h0
      obtain ⟨len, ops, hs, hl⟩ := open_ops (hval 1 78 v1 rfl rfl) h1
      exact room20_c a hs hl)

theorem kidsRoom_holds : Rows.KidsRoomSaid :=
  OpenClaim.holds_of_wide 13 Try.f13 rfl rfl rfl rfl rfl rfl rfl ⟨rfl, rfl, rfl, rfl, rfl⟩ rfl rfl rfl rfl rfl (by kernel_rfl) Try.func13 (by kernel_rfl)
    (of_decide_eq_true (by kernel_rfl)) (by unfold Func.isWrapper; first | (rw [if_pos (by decide +kernel)]; kernel_rfl) | (rw [if_neg (by decide +kernel)]; exact ⟨rfl, rfl⟩))
    (fun os started H enc _ => kidsRoom_lifted os started H enc)

end Go.Proofs.Ytdjdeahmhenchaa
