/- The contracts of package grid, its inner functions: sizes, spans, rows, change. -/
import Derived.Test.YtdjdeahmhenchaaW6
import Derived.Test.YtdjdeahmhenchaaW7
import Derived.Test.YtdjdeahmhenchaaCell
import Derived.Test.YtdjdeahmhenchaaLycOps9
import Derived.Test.YtdjdeahmhenchaaGr
set_option linter.unusedSimpArgs false
set_option linter.unusedVariables false
namespace Go.Proofs.Ytdjdeahmhenchaa
open Lyc Go

theorem clone_c {w : World} {e : Option TypeId} {a : Option Addr} {l : List Cel} (hs : SxC w e a l) (cap : Nat) (hl : l.length ≤ 100000) : Calls Try.prog 104 #[.slice a l.length cap] w (retK fun v w' => Ox w.heap.size w' 44 4 Cel.cells v l ∧ Chg [] w w') := by
  apply slices_Clone_api_Cell_api_Cell_link
  intro K hK
  unfold slices_Clone_api_Cell_api_Cell
  simp -dsimp (disch := first | omega | (simp only [go_sem, seval]; first | done | omega)) only [go_sem, seval]
  refine BrW.by (fun h => ?_) (fun h => ?_)
  · have hl0 : l = [] := by
      cases a with
      | none =>
        cases l with
        | nil => rfl
        | cons x l => obtain ⟨b, o, _, _, _, _, _, h, _⟩ := hs.at_ (by simp); simp at h
      | some x => simp at h
    subst hl0
    exact hK _ _ ⟨Ox.nil _ _ _ _ _, Chg.refl _ _⟩
  · simp -dsimp (disch := first | omega | (simp only [go_sem, seval]; first | done | omega)) only [go_sem, seval]
    have hc := (Chg.refl [] w).alloc (.cells #[] 44)
    have ho : Ox w.heap.size (w.alloc (.cells #[] 44)) 44 4 Cel.cells (.slice (some ⟨w.heap.size, 0, none⟩) 0 0) [] := Ox.built (c := []) (by simp -dsimp (disch := first | omega | (simp only [go_sem, seval]; first | done | omega)) only [go_sem, seval]) Cel.len (Nat.le_refl _) rfl rfl (by omega) rfl
    refine app_x (l := []) (l2 := l) ty45ap Cel.len Cel.ok ho (hs.chg0 hc) rfl (by simp; omega) (by omega) (by simp -dsimp (disch := first | omega | (simp only [go_sem, seval]; first | done | omega)) only [go_sem, seval]; omega) ?_
    intro v' w' ho' hc' _
    exact hK _ _ ⟨by simpa using ho', own_chg ho hc hc'⟩

theorem fits_c (w : World) (x y : Int) : Calls Try.prog 90 #[.int .i64 x, .int .i64 y] w (retK fun v w' => v = .bool (fitsG x y) ∧ w' = w) := by
  apply grid_fits_link
  intro K hK
  unfold grid_fits
  refine Join1.inl ?_
  simp -dsimp (disch := first | omega | (simp only [go_sem, seval]; first | done | omega)) only [go_sem, seval]
  refine BrW.dec (fun h1 => ?_) (fun h1 => ?_)
  · simp -dsimp (disch := first | omega | (simp only [go_sem, seval]; first | done | omega)) only [go_sem, seval]
    refine BrW.dec (fun h2 => ?_) (fun h2 => ?_)
    · simp -dsimp (disch := first | omega | (simp only [go_sem, seval]; first | done | omega)) only [go_sem, seval]
      refine BrW.dec (fun h3 => ?_) (fun h3 => ?_)
      · simp -dsimp (disch := first | omega | (simp only [go_sem, seval]; first | done | omega)) only [go_sem, seval]
        refine hK _ _ ⟨?_, rfl⟩
        simp [fitsG, h1, h2, h3]
      · simp -dsimp (disch := first | omega | (simp only [go_sem, seval]; first | done | omega)) only [go_sem, seval]
        refine hK _ _ ⟨?_, rfl⟩
        simp [fitsG, h3]
    · simp -dsimp (disch := first | omega | (simp only [go_sem, seval]; first | done | omega)) only [go_sem, seval]
      refine hK _ _ ⟨?_, rfl⟩
      simp [fitsG, h2]
  · simp -dsimp (disch := first | omega | (simp only [go_sem, seval]; first | done | omega)) only [go_sem, seval]
    refine hK _ _ ⟨?_, rfl⟩
    simp [fitsG, h1]

theorem span_c (w : World) (x n size : Int) (hs : 0 ≤ size) (hs2 : size ≤ 1000) (h1 : -9223372036854775808 ≤ x) (h2 : x ≤ 9223372036854775807) (h4 : n ≤ 9223372036854775807) : Calls Try.prog 72 #[.int .i64 x, .int .i64 n, .int .i64 size] w (retK fun v w' => v = .tuple #[.int .i64 (spanG x n size).1, .int .i64 (spanG x n size).2] ∧ w' = w) := by
  apply grid_span_link
  intro K hK
  unfold grid_span
  refine Join1.cut (fun v w' => v = .bool (decide (n ≤ 0 ∨ size ≤ x ∨ (x < 0 ∧ x + n ≤ 0))) ∧ w' = w) ?_ ?_
  · simp -dsimp (disch := first | omega | (simp only [go_sem, seval]; first | done | omega)) only [go_sem, seval]
    refine BrW.dec (fun h => ⟨by simp [h], rfl⟩) (fun h3 => ?_)
    simp -dsimp (disch := first | omega | (simp only [go_sem, seval]; first | done | omega)) only [go_sem, seval]
    refine BrW.dec (fun h => ⟨by simp [h], rfl⟩) (fun h5 => ?_)
    simp -dsimp (disch := first | omega | (simp only [go_sem, seval]; first | done | omega)) only [go_sem, seval]
    refine BrW.dec (fun h6 => ?_) (fun h6 => ?_)
    · simp -dsimp (disch := first | omega | (simp only [go_sem, seval]; first | done | omega)) only [go_sem, seval]
      simp [h3, h5, h6]
    · refine ⟨?_, rfl⟩
      congr 1
      simp [h3, h5, h6]
  · rintro v w1 ⟨rfl, rfl⟩
    refine BrW.dec (fun h => ?_) (fun h => ?_)
    · exact hK _ _ ⟨by unfold spanG; rw [if_pos h], rfl⟩
    · have h' : 0 < n ∧ x < size ∧ (0 ≤ x ∨ 0 < x + n) := by omega
      simp -dsimp (disch := first | omega | (simp only [go_sem, seval]; first | done | omega)) only [go_sem, seval]
      refine BrW.dec (fun h6 => ?_) (fun h6 => ?_)
      · simp -dsimp (disch := first | omega | (simp only [go_sem, seval]; first | done | omega)) only [go_sem, seval]
        exact hK _ _ ⟨by unfold spanG; rw [if_neg h]; simp [h6], rfl⟩
      · simp -dsimp (disch := first | omega | (simp only [go_sem, seval]; first | done | omega)) only [go_sem, seval]
        exact hK _ _ ⟨by unfold spanG; rw [if_neg h]; simp [h6], rfl⟩

theorem usual_c (w : World) (c : Cel) : Calls Try.prog 84 #[c.val] w (retK fun v w' => v = .bool c.usual ∧ Chg [] w w') := by
  apply grid_usual_link
  intro K hK
  unfold grid_usual
  simp -dsimp (disch := first | omega | (simp only [go_sem, seval]; first | done | omega)) only [go_sem, seval]
  have hc1 := (Chg.refl [] w).alloc (.cells c.cells.toArray 44)
  have hh1 : (w.alloc (.cells c.cells.toArray 44)).heap[w.heap.size]? = some (.cells c.cells.toArray 44) := by simp -dsimp (disch := first | omega | (simp only [go_sem, seval]; first | done | omega)) only [go_sem, seval]
  refine Join1.inl ?_
  simp -dsimp (disch := first | omega | (simp only [go_sem, seval]; first | done | omega)) only [go_sem, seval]
  refine OpX.call cell_Check_b rfl (Calls.ret (check_c _ c) ?_)
  rintro v w1 ⟨rfl, hc2⟩
  have hh2 := hc2.keep hh1 (by simp)
  refine BrW.by (fun h => ?_) (fun h => ?_)
  · simp -dsimp (disch := first | omega | (simp only [go_sem, seval]; first | done | omega)) only [go_sem, seval, hh2]
    refine hK _ _ ⟨?_, hc1.trans0 hc2⟩
    simp [Cel.usual, h, Cel.plain]
  · simp -dsimp (disch := first | omega | (simp only [go_sem, seval]; first | done | omega)) only [go_sem, seval]
    refine hK _ _ ⟨?_, hc1.trans0 hc2⟩
    simp [Cel.usual, h]

theorem cut_c {w : World} {g : Gr} (hg : g.ok) (b o cap : Nat) (hcap : g.cs.length ≤ cap) (y : Nat) (hy : y < g.h) : Calls Try.prog 88 #[g.val (some ⟨b, o, none⟩) cap, .int .i64 y] w
    (retK fun v w' => v = .slice (some ⟨b, o + y * g.w * 4, none⟩) g.w g.w ∧ Chg [] w w') := by
  have h1 := hg.row_lt hy
  have h2 := hg.le
  have h3 := hg.w0
  have h4 := hg.w1
  have h5 := hg.h1
  apply grid_cut_link
  intro K hK
  unfold grid_cut
  simp -dsimp (disch := first | omega | (simp only [go_sem, seval]; first | done | omega)) only [go_sem, seval, Gr.val]
  have e1 : (y : Int) * (g.w : Int) = ((y * g.w : Nat) : Int) := by simp
  have e2 : ((y : Int) + 1) * (g.w : Int) = ((y * g.w + g.w : Nat) : Int) := by rw [Int.add_mul]; simp
  have hm := Nat.mul_le_mul (show y ≤ 60 by omega) h4
  simp -dsimp (disch := first | omega | (simp only [go_sem, seval]; first | done | omega)) only [go_sem, seval, e1, e2]
  have e3 : slo o (y * g.w + g.w) (y * g.w) 4 = o + y * g.w * 4 := by unfold slo; rw [if_neg (by omega)]
  have e4 : y * g.w + g.w - y * g.w = g.w := by omega
  rw [e3, e4]
  exact hK _ _ ⟨rfl, (Chg.refl _ _).alloc _⟩
end Go.Proofs.Ytdjdeahmhenchaa
