/- What the rows on layer 18 share: an argument that is a slice of steps. -/
import Derived.Test.YtdjdeahmhenchaaRows
import Derived.Test.YtdjdeahmhenchaaLycRow
import Derived.Test.YtdjdeahmhenchaaLaw18
set_option linter.unusedSimpArgs false
set_option linter.unusedVariables false
namespace Go.Proofs.Ytdjdeahmhenchaa
open Lyc Go Go.ChangeShapes Go.WideShapes Go.ChangeAt Go.RowKit Go.Deep
set_option maxRecDepth 100000

theorem own : ownKnob Try.prog.godebug = none := by kernel_rfl
theorem laidOut : laidOutB Try.prog = true := by kernel_rfl

instance : Inhabited Op18 := ⟨⟨0, 0, 0, false, false⟩⟩

theorem open_ops {H : Type} {enc : TypeId × Value → H} {w : World} {base : Nat} {spare : Nat → Bool} {held : Bool} {b0 : Nat} {v : Value} {d : DataW H} {p : List MemPlace} 
    (hv : Value.okWide Try.prog w .any b0 22 v)
    (h : DataW.Trod enc Try.prog w base spare held 22 v d p) : ∃ (len : Nat) (ops : Nat → Op18), SlA w v len 5 (fun i => (ops i).cells) ∧ len ≤ 9223372036854775807 := by
  obtain ⟨fuel, h⟩ := h
  obtain ⟨a, len, cap, rfl⟩ := okWide_slice Try.underlying22 hv
  rcases open_slice_rows Try.underlying22 Try.underlying27 (by kernel_rfl) (by kernel_rfl) h with h0 | ⟨a, len, cap, hcs, hl, hm, hi⟩
  · simp [Value.cells] at h0
    obtain ⟨rfl, rfl, rfl⟩ := h0
    exact ⟨0, fun _ => default, sla_nil _ _ _ _ _ rfl, by omega⟩
  · simp [Value.cells] at hcs
    obtain ⟨rfl, rfl, rfl⟩ := hcs
    obtain ⟨g, hg⟩ := sla_of (w := w) (a := a) (len := len) (cap := cap) (m := 5) Op18.cells (by omega) (fun _ => rfl) (fun i hil => by
      have hi := hi i hil
      obtain ⟨v0, n0, y0, c0, t0⟩ := hi 0 _ rfl
      obtain ⟨v1, n1, y1, c1, t1⟩ := hi 1 _ rfl
      obtain ⟨v2, n2, y2, c2, t2⟩ := hi 2 _ rfl
      obtain ⟨v3, n3, y3, c3, t3⟩ := hi 3 _ rfl
      obtain ⟨v4, n4, y4, c4, t4⟩ := hi 4 _ rfl
      obtain ⟨k0, e0, -, -⟩ := DataW.trod_int Try.underlying3 t0
      obtain ⟨k1, e1, -, -⟩ := DataW.trod_int Try.underlying3 t1
      obtain ⟨k2, e2, -, -⟩ := DataW.trod_int Try.underlying3 t2
      obtain ⟨k3, e3, -⟩ := DataW.trod_bool Try.underlying4 t3
      obtain ⟨k4, e4, -⟩ := DataW.trod_bool Try.underlying4 t4
      cases e0; cases e1; cases e2; cases e3; cases e4
      refine ⟨⟨k0, k1, k2, k3, k4⟩, fun j hj => ?_⟩
      match j, hj with
      | 0, _ => exact c0
      | 1, _ => exact c1
      | 2, _ => exact c2
      | 3, _ => exact c3
      | 4, _ => exact c4)
    exact ⟨len, g, hg, by simp only [maxLen] at hm; omega⟩

end Go.Proofs.Ytdjdeahmhenchaa
