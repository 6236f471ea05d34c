/- The document's answers for grids: Same, Row, At. -/
import Derived.Test.YtdjdeahmhenchaaRef6
import Derived.Test.YtdjdeahmhenchaaGridF
set_option linter.unusedSimpArgs false
set_option linter.unusedVariables false
namespace Go.Proofs.Ytdjdeahmhenchaa
open Lyc Go

theorem rsame6_c {w : World} {f g : Gr} {e e' : Option TypeId} {a a' : Option Addr} (hs : SxC w e a f.cs) (hs' : SxC w e' a' g.cs) (cap cap' : Nat) (hl : f.cs.length ≤ 1000000000) : Calls Try.prog 39 #[f.val a cap, g.val a' cap'] w (retK fun v w' => v = .bool (decide (f = g)) ∧ Chg [] w w') := by
  have hiff : f = g ↔ (f.w = g.w ∧ f.h = g.h ∧ f.cs = g.cs) := by
    cases f; cases g; simp
  apply lyceumref06_Same_link
  intro K hK
  unfold lyceumref06_Same
  simp -dsimp (disch := first | omega | (simp only [go_sem, seval]; first | done | omega)) only [go_sem, seval, Gr.val]
  have hc0 := chg_a2 w (.cells #[.int .i64 f.w, .int .i64 f.h, .slice a f.cs.length cap] 54) (.cells #[.int .i64 g.w, .int .i64 g.h, .slice a' g.cs.length cap'] 54)
  have hf0 : ((w.alloc (.cells #[.int .i64 f.w, .int .i64 f.h, .slice a f.cs.length cap] 54)).alloc (.cells #[.int .i64 g.w, .int .i64 g.h, .slice a' g.cs.length cap'] 54)).heap[w.heap.size]? = some (.cells #[.int .i64 f.w, .int .i64 f.h, .slice a f.cs.length cap] 54) := by simp -dsimp (disch := first | omega | (simp only [go_sem, seval]; first | done | omega)) only [go_sem, seval]
  have hg0 : ((w.alloc (.cells #[.int .i64 f.w, .int .i64 f.h, .slice a f.cs.length cap] 54)).alloc (.cells #[.int .i64 g.w, .int .i64 g.h, .slice a' g.cs.length cap'] 54)).heap[w.heap.size + 1]? = some (.cells #[.int .i64 g.w, .int .i64 g.h, .slice a' g.cs.length cap'] 54) := by simp -dsimp (disch := first | omega | (simp only [go_sem, seval]; first | done | omega)) only [go_sem, seval]
  refine OpX.call lyceumref05_Same_b rfl (Calls.ret (rsame_c (hs.chg0 hc0) (hs'.chg0 hc0) cap cap' hl) ?_)
  rintro v w1 ⟨rfl, hc1⟩
  have hf1 := hc1.keep hf0 (by simp)
  have hg1 := hc1.keep hg0 (by simp)
  refine Join1.cut (fun v w' => v = .bool (decide (f = g)) ∧ w' = w1) ?_ ?_
  · simp -dsimp (disch := first | omega | (simp only [go_sem, seval]; first | done | omega)) only [go_sem, seval]
    refine BrW.dec (fun h1 => ?_) (fun h1 => ?_)
    · simp -dsimp (disch := first | omega | (simp only [go_sem, seval]; first | done | omega)) only [go_sem, seval, hf1, hg1]
      refine BrW.dec (fun h2 => ?_) (fun h2 => ?_)
      · simp -dsimp (disch := first | omega | (simp only [go_sem, seval]; first | done | omega)) only [go_sem, seval, hf1, hg1]
        exact congrArg Value.bool <| decide_eq_decide.2 (by rw [hiff]; exact ⟨fun h => ⟨by omega, by omega, h1⟩, fun h => by omega⟩)
      · refine ⟨?_, rfl⟩
        congr 1
        exact (decide_eq_false (by rw [hiff]; intro h; exact h2 (by omega))).symm
    · refine ⟨?_, rfl⟩
      congr 1
      exact (decide_eq_false (by rw [hiff]; intro h; exact h1 h.2.2)).symm
  · rintro v w2 ⟨rfl, rfl⟩
    exact hK _ _ ⟨rfl, hc0.trans0 hc1⟩

theorem rrow_none {w : World} (g : Gr) (a : Option Addr) (cap : Nat) (y : Int) (hy : y < 0) : Calls Try.prog 77 #[g.val a cap, .int .i64 y] w
    (retK fun v w' => v = .slice none 0 0 ∧ Chg [] w w') := by
  apply lyceumref06_Row_link
  intro K hK
  unfold lyceumref06_Row
  simp -dsimp (disch := first | omega | (simp only [go_sem, seval]; first | done | omega)) only [go_sem, seval, Gr.val]
  refine Join1.inl ?_
  simp -dsimp (disch := first | omega | (simp only [go_sem, seval]; first | done | omega)) only [go_sem, seval]
  refine BrW.dec (fun _ => ?_) (fun h => absurd hy h)
  simp -dsimp (disch := first | omega | (simp only [go_sem, seval]; first | done | omega)) only [go_sem, seval]
  exact hK _ _ ⟨rfl, (chg_a1 _ _).drew⟩
theorem rat_c {w : World} {g : Gr} (hg : g.ok) {e : Option TypeId} {a : Option Addr} (hs : SxC w e a g.cs) (cap : Nat) (hcap : g.cs.length ≤ cap) {x : Nat} (hx : x < g.w) {y : Int} (hy : y < g.h) : Calls Try.prog 41 #[g.val a cap, .int .i64 x, .int .i64 y] w
    (retK fun v w' => v = (if 0 ≤ y then g.at x y.toNat else Cel.none).val ∧ Chg [] w w') := by
  apply lyceumref06_At_link
  intro K hK
  unfold lyceumref06_At
  simp -dsimp (disch := first | omega | (simp only [go_sem, seval]; first | done | omega)) only [go_sem, seval, Gr.val]
  have hc0 := chg_a2 w (.cells #[.int .i64 g.w, .int .i64 g.h, .slice a g.cs.length cap] 54) (.cells #[.int .i32 0, .int .u8 0, .int .u8 0, .int .u8 0] 44)
  have ho0 : ((w.alloc (.cells #[.int .i64 g.w, .int .i64 g.h, .slice a g.cs.length cap] 54)).alloc (.cells #[.int .i32 0, .int .u8 0, .int .u8 0, .int .u8 0] 44)).heap[w.heap.size + 1]? = some (.cells #[.int .i32 0, .int .u8 0, .int .u8 0, .int .u8 0] 44) := by simp -dsimp (disch := first | omega | (simp only [go_sem, seval]; first | done | omega)) only [go_sem, seval]
  generalize ((w.alloc (.cells #[.int .i64 g.w, .int .i64 g.h, .slice a g.cs.length cap] 54)).alloc (.cells #[.int .i32 0, .int .u8 0, .int .u8 0, .int .u8 0] 44)) = w0 at hc0 ho0 ⊢
  by_cases h0 : 0 ≤ y
  · obtain ⟨yn, rfl⟩ := Int.eq_ofNat_of_zero_le h0
    have hyn : yn < g.h := by omega
    have hw1 := hg.w1
    have hrl := hg.row_len hyn
    refine OpX.call lyceumref06_Row_b rfl (Calls.ret (rrow_c hg (hs.chg0 hc0) cap hcap yn hyn) ?_)
    rintro v w1 ⟨ho1, hc1⟩
    have hb1 := hc1.keep ho0 (by simp)
    have hlb := lt_of_heap hb1
    obtain ⟨a1, cap1, rfl, -, hs1, -⟩ := ho1.form
    rw [hrl]
    obtain ⟨b, o, rfl, hb, hl1, hcell, -⟩ := SxC.cel hs1 (i := x) (hg.row_get hx hyn)
    refine Join1.cut (fun v w' => v = .bool false ∧ w' = w1) ?_ ?_
    · simp -dsimp (disch := first | omega | (simp only [go_sem, seval]; first | done | omega)) only [go_sem, seval]
      refine BrW.dec (fun h => by omega) (fun _ => ?_)
      simp -dsimp (disch := first | omega | (simp only [go_sem, seval]; first | done | omega)) only [go_sem, seval]
      simp; omega
    · rintro v w2 ⟨rfl, rfl⟩
      simp -dsimp (disch := first | omega | (simp only [go_sem, seval]; first | done | omega)) only [go_sem, seval, hl1, hb1]
      exact hK _ _ ⟨by rw [if_pos h0]; simp [Cel.val], (hc0.trans0 hc1).set _ _ (by simp)⟩
  · refine OpX.call lyceumref06_Row_b rfl (Calls.ret (rrow_none g a cap y (by omega)) ?_)
    rintro v w1 ⟨rfl, hc1⟩
    have hb1 := hc1.keep ho0 (by simp)
    have hlb := lt_of_heap hb1
    refine Join1.inl ?_
    simp -dsimp (disch := first | omega | (simp only [go_sem, seval]; first | done | omega)) only [go_sem, seval]
    refine BrW.dec (fun h => by omega) (fun _ => ?_)
    simp -dsimp (disch := first | omega | (simp only [go_sem, seval]; first | done | omega)) only [go_sem, seval]
    refine BrW.dec (fun _ => ?_) (fun h => by omega)
    simp -dsimp (disch := first | omega | (simp only [go_sem, seval]; first | done | omega)) only [go_sem, seval, hb1]
    refine hK _ _ ⟨?_, (hc0.trans0 hc1).set _ _ (by simp)⟩
    rw [if_neg h0]; rfl
end Go.Proofs.Ytdjdeahmhenchaa
