/- The contracts of package history: views. -/
import Derived.Test.YtdjdeahmhenchaaLaw06B
import Derived.Test.YtdjdeahmhenchaaHist
import Derived.Test.YtdjdeahmhenchaaW4
set_option linter.unusedSimpArgs false
set_option linter.unusedVariables false
namespace Go.Proofs.Ytdjdeahmhenchaa
open Lyc Go

/-- A row that is as wide as it is asked for is mended. -/
theorem fitted_c {w : World} {e : Option TypeId} {a : Option Addr} {l : List Cel} (hs : SxC w e a l) (cap : Nat) (hl : l.length ≤ 1000) : Calls Try.prog 76 #[.slice a l.length cap, .int .i64 l.length] w
    (retK fun v w' => Ox w.heap.size w' 44 4 Cel.cells v (mend l) ∧ Chg [] w w') := by
  apply history_fitted_link
  intro K hK
  unfold history_fitted
  refine make_x (f := Cel.cells) Cel.none ty45mk Cel.len rfl (by omega) (by omega) (by omega) (Nat.le_refl _) ?_
  intro w1 hw1 ho1
  have hc1 : Chg [] w w1 := by rw [hw1]; exact chg_a1 _ _
  refine copy_x (t := 45) ty45sl Cel.len Cel.ok ho1 (hs.chg0 hc1) rfl (by simp) ?_
  intro w2 ho2 hc3
  have hc2 := own_chg ho1 hc1 hc3
  refine Loop1.st (fun _ : Unit => .int .i64 l.length) (fun _ w' => w' = w2) (fun _ => 0) () rfl rfl ?_
  rintro next _ w3 hn rfl
  simp -dsimp (disch := first | omega | (simp only [go_sem, seval]; first | done | omega)) only [go_sem, seval]
  obtain ⟨a2, cap2, hv, _, hs2, -⟩ := ho2.form
  rw [Value.slice.injEq] at hv
  obtain ⟨rfl, -, rfl⟩ := hv
  refine BrW.dec (fun h => by omega) (fun _ => ?_)
  refine OpX.call cell_Mend_b rfl (Calls.ret (mend_c hs2 l.length (by omega)) ?_)
  rintro v w4 ⟨ho4, hc4⟩
  exact hK _ _ ⟨ho4.base_le hc2.size, hc2.trans0 hc4⟩

theorem grow_c {w : World} {g : Gr} (hg : g.ok) {e : Option TypeId} {a : Option Addr} (hs : SxC w e a g.cs) (cap : Nat) (hcap : g.cs.length ≤ cap) {y : Nat} (hy : y < g.h) : Calls Try.prog 75 #[g.val a cap, .int .i64 y] w
    (retK fun v w' => Ox w.heap.size w' 44 4 Cel.cells v (g.row y) ∧ Chg [] w w') := by
  have hh1 := hg.h1
  have hw1 := hg.w1
  have hrl := hg.row_len hy
  obtain ⟨b, o, _, _, _, _, _, rfl, hb0, _⟩ := hs.at_ hg.ne
  clear hb0
  apply grid_Row_link
  intro K hK
  unfold grid_Row
  simp -dsimp (disch := first | omega | (simp only [go_sem, seval]; first | done | omega)) only [go_sem, seval, Gr.val]
  have hc0 := chg_a1 w (.cells #[.int .i64 g.w, .int .i64 g.h, .slice (some ⟨b, o, none⟩) g.cs.length cap] 54)
  have hg0 : (w.alloc (.cells #[.int .i64 g.w, .int .i64 g.h, .slice (some ⟨b, o, none⟩) g.cs.length cap] 54)).heap[w.heap.size]? = some (.cells #[.int .i64 g.w, .int .i64 g.h, .slice (some ⟨b, o, none⟩) g.cs.length cap] 54) := by simp -dsimp (disch := first | omega | (simp only [go_sem, seval]; first | done | omega)) only [go_sem, seval]
  generalize w.alloc (.cells #[.int .i64 g.w, .int .i64 g.h, .slice (some ⟨b, o, none⟩) g.cs.length cap] 54) = w0 at hc0 hg0 ⊢
  refine Join1.cut (fun v w' => v = .bool false ∧ Chg [] w0 w') ?_ ?_
  · simp -dsimp (disch := first | omega | (simp only [go_sem, seval]; first | done | omega)) only [go_sem, seval, hg0]
    refine OpX.call grid_whole_b rfl (Calls.ret (whole_c hg (some ⟨b, o, none⟩) cap) ?_)
    rintro v w1 ⟨rfl, hc1⟩
    have hg1 := hc1.keep hg0 (by simp)
    simp -dsimp (disch := first | omega | (simp only [go_sem, seval]; first | done | omega)) only [go_sem, seval]
    refine BrW.dec (fun h => by omega) (fun _ => ?_)
    simp -dsimp (disch := first | omega | (simp only [go_sem, seval]; first | done | omega)) only [go_sem, seval, hg1]
    exact ⟨by simp; omega, hc1⟩
  · rintro v w1 ⟨rfl, hc1⟩
    have hg1 := hc1.keep hg0 (by simp)
    simp -dsimp (disch := first | omega | (simp only [go_sem, seval]; first | done | omega)) only [go_sem, seval, hg1]
    refine OpX.call grid_cut_b rfl (Calls.ret (cut_c (w := w1) hg b o cap hcap y hy) ?_)
    rintro v w2 ⟨rfl, hc2⟩
    have hc02 := (hc0.trans0 hc1).trans0 hc2
    have hs2 : SxC w2 e (some ⟨b, o + y * g.w * 4, none⟩) (g.row y) := Sx.sub (hs.chg0 hc02) Cel.len (y * g.w) g.w _ (.inr (.inr rfl))
    have hcl := clone_c hs2 g.w (by omega)
    rw [hrl] at hcl
    refine OpX.call slices_Clone_api_Cell_api_Cell_b rfl (Calls.ret (hcl) ?_)
    rintro v w3 ⟨ho3, hc3⟩
    exact hK _ _ ⟨ho3.base_le hc02.size, hc02.trans0 hc3⟩
end Go.Proofs.Ytdjdeahmhenchaa
