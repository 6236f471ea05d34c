/- The contracts of package grid: the changes. -/
import Derived.Test.YtdjdeahmhenchaaGridE
set_option linter.unusedSimpArgs false
set_option linter.unusedVariables false
namespace Go.Proofs.Ytdjdeahmhenchaa
open Lyc Go

/-- A grid is told from the box of results. -/
theorem gput_c {w : World} {g : Gr} (hg : g.ok) (hr : g.right = true) {e e' : Option TypeId} {a a' : Option Addr} (hs : SxC w e a g.cs) (cap : Nat) (hcap : g.cs.length ≤ cap) {X Y : Int} {l : List Cel} (hl : SxC w e' a' l) (cap' : Nat) (hll : l.length ≤ 100000)
    (hX : -1000000 ≤ X ∧ X ≤ 1000000) (hY : -9223372036854775808 ≤ Y ∧ Y ≤ 9223372036854775807) :
    Calls Try.prog 38 #[g.val a cap, .int .i64 X, .int .i64 Y, .slice a' l.length cap'] w (retK fun v w' => GAt w.heap.size w' v (g.put X Y l) ∧ Chg [] w w') := by
  have hh1 := hg.h1
  have hw1 := hg.w1
  apply grid_Put_link
  intro K hK
  unfold grid_Put
  simp -dsimp (disch := first | omega | (simp only [go_sem, seval]; first | done | omega)) only [go_sem, seval, Gr.val]
  refine OpX.gen fun w0 hw0 => ?_
  have hc0 : Chg [] w w0 := by rw [hw0]; exact chg_a4 _ _ _ _ _
  have hz0 : w0.heap.size = w.heap.size + 4 := by rw [hw0]; simp -dsimp (disch := first | omega | (simp only [go_sem, seval]; first | done | omega)) only [go_sem, seval]
  have hg0 : w0.heap[w.heap.size]? = some (.cells #[.int .i64 g.w, .int .i64 g.h, .slice a g.cs.length cap] 54) := by rw [hw0]; simp -dsimp (disch := first | omega | (simp only [go_sem, seval]; first | done | omega)) only [go_sem, seval]
  have hx0 : NumAt w0 (w.heap.size + 1) X := by show w0.heap[_]? = _; rw [hw0]; simp -dsimp (disch := first | omega | (simp only [go_sem, seval]; first | done | omega)) only [go_sem, seval]
  have hk0 : w0.heap[w.heap.size + 2]? = some (.cells #[.slice a' l.length cap'] 45) := by rw [hw0]; simp -dsimp (disch := first | omega | (simp only [go_sem, seval]; first | done | omega)) only [go_sem, seval]
  have ho0 : w0.heap[w.heap.size + 3]? = some (.cells #[.int .i64 0, .int .i64 0, .slice none 0 0] 54) := by rw [hw0]; simp -dsimp (disch := first | omega | (simp only [go_sem, seval]; first | done | omega)) only [go_sem, seval]
  clear hw0
  refine OpX.call grid_Check_b rfl (Calls.ret (gcheck_c hg (hs.chg0 hc0) cap hcap) ?_)
  rintro v w1 ⟨rfl, hc1⟩
  rw [hr]
  have hg1 := hc1.keep hg0 (by simp)
  have hx1 : w1.heap[w.heap.size + 1]? = some _ := hc1.keep hx0 (by simp)
  have hk1 := hc1.keep hk0 (by simp)
  simp -dsimp (disch := first | omega | (simp only [go_sem, seval]; first | done | omega)) only [go_sem, seval, hg1]
  refine OpX.call grid_span_b rfl (Calls.ret (span_c _ Y 1 g.h (by omega) (by omega) hY.1 hY.2 (by omega)) ?_)
  rintro v w2 ⟨rfl, rfl⟩
  simp -dsimp (disch := first | omega | (simp only [go_sem, seval]; first | done | omega)) only [go_sem, seval, hg1, hx1, hk1]
  refine OpX.call grid_span_b rfl (Calls.ret (span_c _ X l.length g.w (by omega) (by omega) (by omega) (by omega) (by omega)) ?_)
  rintro v w4 ⟨rfl, rfl⟩
  have hlt := lt_of_heap hk1
  simp -dsimp (disch := first | omega | (simp only [go_sem, seval]; first | done | omega)) only [go_sem, seval, hg1]
  refine OpX.gen fun w5 hw5 => ?_
  have hc5 : Chg [] w4 w5 := by rw [hw5]; exact chg_a2 _ _ _
  have hl5 : NumAt w5 w4.heap.size (spanG X l.length g.w).1 := by show w5.heap[_]? = _; rw [hw5]; simp -dsimp (disch := first | omega | (simp only [go_sem, seval]; first | done | omega)) only [go_sem, seval]
  have hm5 : NumAt w5 (w4.heap.size + 1) (spanG X l.length g.w).2 := by show w5.heap[_]? = _; rw [hw5]; simp -dsimp (disch := first | omega | (simp only [go_sem, seval]; first | done | omega)) only [go_sem, seval]
  have hk5 := hc5.keep hk1 (by simp)
  have hx5 : NumAt w5 (w.heap.size + 1) X := hc5.keep hx1 (by simp)
  have hc05 := (hc0.trans0 hc1).trans0 hc5
  clear hw5
  have hb1 := spanG_b (x := X) (n := l.length) (size := g.w) (by omega)
  have hb2 := spanG_b (x := Y) (n := 1) (size := g.h) (by omega)
  refine OpX.call grid_change_b rfl (Calls.ret (change_c hg (hs.chg0 hc05) cap (by omega) (by omega) (doput_c hg hl5 hm5 hk5 hx5 (hl.chg0 hc05) hb1.1 hb1.2.2 (fun i h1 h2 => (spanG_mem (by omega) (by omega)).1 ⟨h1, h2⟩) hX.1 _ _) (fun y _ _ _ => lineOf_len _ _)) ?_)
  rintro v w6 ⟨hga, hc6⟩
  have hc06 := hc05.trans0 hc6
  have ho6 := ((hc1.trans0 hc5).trans0 hc6).keep ho0 (by simp)
  have hlo := lt_of_heap ho6
  have hs5 := hc5.size
  have hs12 := hc1.size
  obtain ⟨nb, cap', sp, rfl, k1, k2, k3⟩ := hga
  simp -dsimp (disch := first | omega | (simp only [go_sem, seval]; first | done | omega)) only [go_sem, seval, Gr.val, ho6]
  refine hK _ _ ⟨⟨nb, cap', sp, rfl, k1, by omega, ?_⟩, hc06.set _ _ (.inr (by omega))⟩
  rw [heap_set_other _ _ _ _ (by omega)]; exact k3

theorem gscroll_c {w : World} {g : Gr} (hg : g.ok) (hr : g.right = true) {e : Option TypeId} {a : Option Addr} (hs : SxC w e a g.cs) (cap : Nat) (hcap : g.cs.length ≤ cap) {T E N : Int} {c : Cel} (hu : c.usual = true) :
    Calls Try.prog 47 #[g.val a cap, .int .i64 T, .int .i64 E, .int .i64 N, c.val] w (retK fun v w' => GAt w.heap.size w' v (g.scroll T E N c) ∧ Chg [] w w') := by
  have hh1 := hg.h1
  have hw1 := hg.w1
  obtain ⟨b, o, _, _, _, _, _, rfl, hb0, _⟩ := hs.at_ hg.ne
  have hb0' := lt_of_heap hb0
  clear hb0
  apply grid_Scroll_link
  intro K hK
  unfold grid_Scroll
  simp -dsimp (disch := first | omega | (simp only [go_sem, seval]; first | done | omega)) only [go_sem, seval, Gr.val]
  refine Join1.inl ?_
  simp -dsimp (disch := first | omega | (simp only [go_sem, seval]; first | done | omega)) only [go_sem, seval]
  refine OpX.gen fun w0 hw0 => ?_
  have hc0 : Chg [] w w0 := by rw [hw0]; exact chg_a6 _ _ _ _ _ _ _
  have hz0 : w0.heap.size = w.heap.size + 6 := by rw [hw0]; simp -dsimp (disch := first | omega | (simp only [go_sem, seval]; first | done | omega)) only [go_sem, seval]
  have hg0 : w0.heap[w.heap.size]? = some (.cells #[.int .i64 g.w, .int .i64 g.h, .slice (some ⟨b, o, none⟩) g.cs.length cap] 54) := by rw [hw0]; simp -dsimp (disch := first | omega | (simp only [go_sem, seval]; first | done | omega)) only [go_sem, seval]
  have ht0 : NumAt w0 (w.heap.size + 1) T := by show w0.heap[_]? = _; rw [hw0]; simp -dsimp (disch := first | omega | (simp only [go_sem, seval]; first | done | omega)) only [go_sem, seval]
  have he0 : NumAt w0 (w.heap.size + 2) E := by show w0.heap[_]? = _; rw [hw0]; simp -dsimp (disch := first | omega | (simp only [go_sem, seval]; first | done | omega)) only [go_sem, seval]
  have hn0 : NumAt w0 (w.heap.size + 3) N := by show w0.heap[_]? = _; rw [hw0]; simp -dsimp (disch := first | omega | (simp only [go_sem, seval]; first | done | omega)) only [go_sem, seval]
  have hk0 : CelAt w0 (w.heap.size + 4) c := by show w0.heap[_]? = _; rw [hw0]; simp -dsimp (disch := first | omega | (simp only [go_sem, seval]; first | done | omega)) only [go_sem, seval]
  have ho0 : w0.heap[w.heap.size + 5]? = some (.cells #[.int .i64 0, .int .i64 0, .slice none 0 0] 54) := by rw [hw0]; simp -dsimp (disch := first | omega | (simp only [go_sem, seval]; first | done | omega)) only [go_sem, seval]
  clear hw0
  refine OpX.call grid_Check_b rfl (Calls.ret (gcheck_c hg (hs.chg0 hc0) cap hcap) ?_)
  rintro v w1 ⟨rfl, hc1⟩
  rw [hr]
  have hk1 := hc1.keep hk0 (by simp)
  simp -dsimp (disch := first | omega | (simp only [go_sem, seval]; first | done | omega)) only [go_sem, seval, hk1]
  refine OpX.call grid_usual_b rfl (Calls.ret (usual_c _ c) ?_)
  rintro v w2 ⟨rfl, hc2⟩
  rw [hu]
  have hc12 := hc1.trans0 hc2
  have hg2 := hc12.keep hg0 (by simp)
  have ht2 : w2.heap[w.heap.size + 1]? = some _ := hc12.keep ht0 (by simp)
  have he2 : w2.heap[w.heap.size + 2]? = some _ := hc12.keep he0 (by simp)
  have hn2 : w2.heap[w.heap.size + 3]? = some _ := hc12.keep hn0 (by simp)
  have hlt := lt_of_heap hn2
  have hsz := hc12.size
  simp -dsimp (disch := first | omega | (simp only [go_sem, seval]; first | done | omega)) only [go_sem, seval, hg2, ht2, he2, hn2]
  have hlk := lt_of_heap (hc12.keep hk0 (by simp))
  have hgk := lt_of_heap hg2
  have hk2 := hc12.keep hk0 (by simp)
  have ho2 := hc12.keep ho0 (by simp)
  have hc02 := hc0.trans0 hc12
  refine OpX.gen fun w5 hw5 => ?_
  have hc5 : Chg [] w w5 := by rw [hw5]; exact (((hc02.set _ _ (.inr (by omega))).set _ _ (.inr (by omega))).set _ _ (.inr (by omega))).drew
  have hg5 : w5.heap[w.heap.size]? = some (.cells #[.int .i64 g.w, .int .i64 g.h, .slice (some ⟨b, o, none⟩) g.cs.length cap] 54) := by rw [hw5]; simp -dsimp (disch := first | omega | (simp only [go_sem, seval]; first | done | omega)) only [go_sem, seval, hg2]
  have ht5 : NumAt w5 (w.heap.size + 1) (min (max T 0) g.h) := by show w5.heap[_]? = _; rw [hw5]; simp -dsimp (disch := first | omega | (simp only [go_sem, seval]; first | done | omega)) only [go_sem, seval]
  have he5 : NumAt w5 (w.heap.size + 1 + 1) (min (max E 0) g.h) := by show w5.heap[_]? = _; rw [hw5]; simp -dsimp (disch := first | omega | (simp only [go_sem, seval]; first | done | omega)) only [go_sem, seval]
  have hn5 : NumAt w5 (w.heap.size + 1 + 1 + 1) (min (max N (-g.h)) g.h) := by show w5.heap[_]? = _; rw [hw5]; simp -dsimp (disch := first | omega | (simp only [go_sem, seval]; first | done | omega)) only [go_sem, seval]
  have hk5 : CelAt w5 (w.heap.size + 1 + 1 + 1 + 1) c := by show w5.heap[_]? = _; rw [hw5]; simp -dsimp (disch := first | omega | (simp only [go_sem, seval]; first | done | omega)) only [go_sem, seval, hk2]
  have ho5 : w5.heap[w.heap.size + 5]? = some (.cells #[.int .i64 0, .int .i64 0, .slice none 0 0] 54) := by rw [hw5]; simp -dsimp (disch := first | omega | (simp only [go_sem, seval]; first | done | omega)) only [go_sem, seval, ho2]
  clear hw5
  have hfl := hg.scrollF_len (N := min (max N (-g.h)) g.h) (c := c) (show 0 ≤ min (max T 0) g.h by omega) (show min (max E 0) g.h ≤ g.h by omega)
  refine OpX.call grid_change_b rfl (Calls.ret (change_c hg (hs.chg0 hc5) cap (by omega) (by omega) (doscroll_c hg hn5 ht5 he5 hk5 hg5 (hs.chg0 hc5) hcap (by omega) (by omega) (by omega) _ _) (fun y h1 h2 h3 => hfl y)) ?_)
  rintro v w6 ⟨hga, hc6⟩
  have hc06 := hc5.trans0 hc6
  have ho6 := hc6.keep ho5 (by simp)
  have hs5 := lt_of_heap ho5
  have hs6 := hc6.size
  have hlo := lt_of_heap ho6
  obtain ⟨nb, cap', sp, rfl, k1, k2, k3⟩ := hga
  simp -dsimp (disch := first | omega | (simp only [go_sem, seval]; first | done | omega)) only [go_sem, seval, Gr.val, ho6]
  refine hK _ _ ⟨⟨nb, cap', sp, rfl, k1, by omega, ?_⟩, hc06.set _ _ (.inr (by omega))⟩
  rw [heap_set_other _ _ _ _ (by omega)]; exact k3

theorem gshift_c {w : World} {g : Gr} (hg : g.ok) (hr : g.right = true) {e : Option TypeId} {a : Option Addr} (hs : SxC w e a g.cs) (cap : Nat) (hcap : g.cs.length ≤ cap) {X Y N : Int} {c : Cel} (hu : c.usual = true)
    (hX : X ≤ 9223372036854775807) (hY : -9223372036854775808 ≤ Y ∧ Y ≤ 9223372036854775807) :
    Calls Try.prog 82 #[g.val a cap, .int .i64 X, .int .i64 Y, .int .i64 N, c.val] w (retK fun v w' => GAt w.heap.size w' v (g.shift X Y N c) ∧ Chg [] w w') := by
  have hh1 := hg.h1
  have hw1 := hg.w1
  obtain ⟨b, o, _, _, _, _, _, rfl, hb0, _⟩ := hs.at_ hg.ne
  have hb0' := lt_of_heap hb0
  clear hb0
  apply grid_Shift_link
  intro K hK
  unfold grid_Shift
  simp -dsimp (disch := first | omega | (simp only [go_sem, seval]; first | done | omega)) only [go_sem, seval, Gr.val]
  refine Join1.inl ?_
  simp -dsimp (disch := first | omega | (simp only [go_sem, seval]; first | done | omega)) only [go_sem, seval]
  refine OpX.gen fun w0 hw0 => ?_
  have hc0 : Chg [] w w0 := by rw [hw0]; exact chg_a5 _ _ _ _ _ _
  have hz0 : w0.heap.size = w.heap.size + 5 := by rw [hw0]; simp -dsimp (disch := first | omega | (simp only [go_sem, seval]; first | done | omega)) only [go_sem, seval]
  have hg0 : w0.heap[w.heap.size]? = some (.cells #[.int .i64 g.w, .int .i64 g.h, .slice (some ⟨b, o, none⟩) g.cs.length cap] 54) := by rw [hw0]; simp -dsimp (disch := first | omega | (simp only [go_sem, seval]; first | done | omega)) only [go_sem, seval]
  have hx0 : NumAt w0 (w.heap.size + 1) X := by show w0.heap[_]? = _; rw [hw0]; simp -dsimp (disch := first | omega | (simp only [go_sem, seval]; first | done | omega)) only [go_sem, seval]
  have hn0 : NumAt w0 (w.heap.size + 2) N := by show w0.heap[_]? = _; rw [hw0]; simp -dsimp (disch := first | omega | (simp only [go_sem, seval]; first | done | omega)) only [go_sem, seval]
  have hk0 : CelAt w0 (w.heap.size + 3) c := by show w0.heap[_]? = _; rw [hw0]; simp -dsimp (disch := first | omega | (simp only [go_sem, seval]; first | done | omega)) only [go_sem, seval]
  have ho0 : w0.heap[w.heap.size + 4]? = some (.cells #[.int .i64 0, .int .i64 0, .slice none 0 0] 54) := by rw [hw0]; simp -dsimp (disch := first | omega | (simp only [go_sem, seval]; first | done | omega)) only [go_sem, seval]
  clear hw0
  refine OpX.call grid_Check_b rfl (Calls.ret (gcheck_c hg (hs.chg0 hc0) cap hcap) ?_)
  rintro v w1 ⟨rfl, hc1⟩
  rw [hr]
  have hk1 := hc1.keep hk0 (by simp)
  simp -dsimp (disch := first | omega | (simp only [go_sem, seval]; first | done | omega)) only [go_sem, seval, hk1]
  refine OpX.call grid_usual_b rfl (Calls.ret (usual_c _ c) ?_)
  rintro v w2 ⟨rfl, hc2⟩
  rw [hu]
  have hc12 := hc1.trans0 hc2
  have hg2 := hc12.keep hg0 (by simp)
  have hx2 : w2.heap[w.heap.size + 1]? = some _ := hc12.keep hx0 (by simp)
  have hn2 : w2.heap[w.heap.size + 2]? = some _ := hc12.keep hn0 (by simp)
  have hk2 := hc12.keep hk0 (by simp)
  have ho2 := hc12.keep ho0 (by simp)
  have hlt := lt_of_heap ho2
  have hsz := hc12.size
  have hc02 := hc0.trans0 hc12
  simp -dsimp (disch := first | omega | (simp only [go_sem, seval]; first | done | omega)) only [go_sem, seval, hg2, hx2, hn2]
  refine OpX.gen fun w5 hw5 => ?_
  have hc5 : Chg [] w w5 := by rw [hw5]; exact (((hc02.set _ _ (.inr (by omega))).set _ _ (.inr (by omega)))).drew
  have hg5 : w5.heap[w.heap.size]? = some (.cells #[.int .i64 g.w, .int .i64 g.h, .slice (some ⟨b, o, none⟩) g.cs.length cap] 54) := by rw [hw5]; simp -dsimp (disch := first | omega | (simp only [go_sem, seval]; first | done | omega)) only [go_sem, seval, hg2]
  have hx5 : NumAt w5 (w.heap.size + 1) (max X 0) := by show w5.heap[_]? = _; rw [hw5]; simp -dsimp (disch := first | omega | (simp only [go_sem, seval]; first | done | omega)) only [go_sem, seval]
  have hn5 : NumAt w5 (w.heap.size + 1 + 1) (min (max N (-g.w)) g.w) := by show w5.heap[_]? = _; rw [hw5]; simp -dsimp (disch := first | omega | (simp only [go_sem, seval]; first | done | omega)) only [go_sem, seval]
  have hk5 : CelAt w5 (w.heap.size + 1 + 1 + 1) c := by show w5.heap[_]? = _; rw [hw5]; simp -dsimp (disch := first | omega | (simp only [go_sem, seval]; first | done | omega)) only [go_sem, seval, hk2]
  have ho5 : w5.heap[w.heap.size + 4]? = some (.cells #[.int .i64 0, .int .i64 0, .slice none 0 0] 54) := by rw [hw5]; simp -dsimp (disch := first | omega | (simp only [go_sem, seval]; first | done | omega)) only [go_sem, seval, ho2]
  clear hw5
  refine OpX.call grid_span_b rfl (Calls.ret (span_c _ Y 1 g.h (by omega) (by omega) hY.1 hY.2 (by omega)) ?_)
  rintro v w7 ⟨rfl, rfl⟩
  have hb2 := spanG_b (x := Y) (n := 1) (size := g.h) (by omega)
  simp -dsimp (disch := first | omega | (simp only [go_sem, seval]; first | done | omega)) only [go_sem, seval, hg5]
  refine OpX.call grid_change_b rfl (Calls.ret (change_c hg (hs.chg0 hc5) cap (by omega) (by omega) (doshift_c hg hn5 hx5 hk5 hg5 (hs.chg0 hc5) hcap (by omega) (by omega) _ _) (fun y h1 h2 h3 => lineOf_len _ _)) ?_)
  rintro v w6 ⟨hga, hc6⟩
  have hc06 := hc5.trans0 hc6
  have ho6 := hc6.keep ho5 (by simp)
  have hs5 := lt_of_heap ho5
  have hs6 := hc6.size
  have hlo := lt_of_heap ho6
  obtain ⟨nb, cap', sp, rfl, k1, k2, k3⟩ := hga
  simp -dsimp (disch := first | omega | (simp only [go_sem, seval]; first | done | omega)) only [go_sem, seval, Gr.val, ho6]
  refine hK _ _ ⟨⟨nb, cap', sp, rfl, k1, by omega, ?_⟩, hc06.set _ _ (.inr (by omega))⟩
  rw [heap_set_other _ _ _ _ (by omega)]; exact k3

theorem gblit_c {w : World} {g f : Gr} (hg : g.ok) (hr : g.right = true) (hf : f.ok) (hrf : f.right = true) {e e' : Option TypeId} {a a' : Option Addr} (hs : SxC w e a g.cs) (cap : Nat) (hcap : g.cs.length ≤ cap) (hsf : SxC w e' a' f.cs) (cap' : Nat) (hcap' : f.cs.length ≤ cap') {X Y : Int}
    (hX : -1000000 ≤ X ∧ X ≤ 1000000) (hY : -1000000 ≤ Y ∧ Y ≤ 1000000) :
    Calls Try.prog 48 #[g.val a cap, f.val a' cap', .int .i64 X, .int .i64 Y] w (retK fun v w' => GAt w.heap.size w' v (g.blit f X Y) ∧ Chg [] w w') := by
  have hh1 := hg.h1
  have hw1 := hg.w1
  have hfh1 := hf.h1
  have hfw1 := hf.w1
  apply grid_Blit_link
  intro K hK
  unfold grid_Blit
  simp -dsimp (disch := first | omega | (simp only [go_sem, seval]; first | done | omega)) only [go_sem, seval, Gr.val]
  refine Join1.inl ?_
  simp -dsimp (disch := first | omega | (simp only [go_sem, seval]; first | done | omega)) only [go_sem, seval]
  refine OpX.gen fun w0 hw0 => ?_
  have hc0 : Chg [] w w0 := by rw [hw0]; exact chg_a5 _ _ _ _ _ _
  have hz0 : w0.heap.size = w.heap.size + 5 := by rw [hw0]; simp -dsimp (disch := first | omega | (simp only [go_sem, seval]; first | done | omega)) only [go_sem, seval]
  have hg0 : w0.heap[w.heap.size]? = some (.cells #[.int .i64 g.w, .int .i64 g.h, .slice a g.cs.length cap] 54) := by rw [hw0]; simp -dsimp (disch := first | omega | (simp only [go_sem, seval]; first | done | omega)) only [go_sem, seval]
  have hf0 : w0.heap[w.heap.size + 1]? = some (.cells #[.int .i64 f.w, .int .i64 f.h, .slice a' f.cs.length cap'] 54) := by rw [hw0]; simp -dsimp (disch := first | omega | (simp only [go_sem, seval]; first | done | omega)) only [go_sem, seval]
  have hx0 : NumAt w0 (w.heap.size + 2) X := by show w0.heap[_]? = _; rw [hw0]; simp -dsimp (disch := first | omega | (simp only [go_sem, seval]; first | done | omega)) only [go_sem, seval]
  have hy0 : NumAt w0 (w.heap.size + 3) Y := by show w0.heap[_]? = _; rw [hw0]; simp -dsimp (disch := first | omega | (simp only [go_sem, seval]; first | done | omega)) only [go_sem, seval]
  have ho0 : w0.heap[w.heap.size + 4]? = some (.cells #[.int .i64 0, .int .i64 0, .slice none 0 0] 54) := by rw [hw0]; simp -dsimp (disch := first | omega | (simp only [go_sem, seval]; first | done | omega)) only [go_sem, seval]
  clear hw0
  refine OpX.call grid_Check_b rfl (Calls.ret (gcheck_c hg (hs.chg0 hc0) cap hcap) ?_)
  rintro v w1 ⟨rfl, hc1⟩
  rw [hr]
  have hf1 := hc1.keep hf0 (by simp)
  simp -dsimp (disch := first | omega | (simp only [go_sem, seval]; first | done | omega)) only [go_sem, seval, hf1]
  refine OpX.call grid_Check_b rfl (Calls.ret (gcheck_c hf ((hsf.chg0 hc0).chg0 hc1) cap' hcap') ?_)
  rintro v w2 ⟨rfl, hc2⟩
  rw [hrf]
  have hc12 := hc1.trans0 hc2
  have hg2 := hc12.keep hg0 (by simp)
  have hf2 := hc12.keep hf0 (by simp)
  have hx2 : w2.heap[w.heap.size + 2]? = some _ := hc12.keep hx0 (by simp)
  have hy2 : w2.heap[w.heap.size + 3]? = some _ := hc12.keep hy0 (by simp)
  have ho2 := hc12.keep ho0 (by simp)
  have hlt := lt_of_heap ho2
  have hsz := hc12.size
  have hc02 := hc0.trans0 hc12
  simp -dsimp (disch := first | omega | (simp only [go_sem, seval]; first | done | omega)) only [go_sem, seval, hg2, hf2, hx2, hy2]
  refine OpX.call grid_span_b rfl (Calls.ret (span_c _ Y f.h g.h (by omega) (by omega) (by omega) (by omega) (by omega)) ?_)
  rintro v w3 ⟨rfl, rfl⟩
  simp -dsimp (disch := first | omega | (simp only [go_sem, seval]; first | done | omega)) only [go_sem, seval, hg2, hf2, hx2, hy2]
  refine OpX.call grid_span_b rfl (Calls.ret (span_c _ X f.w g.w (by omega) (by omega) (by omega) (by omega) (by omega)) ?_)
  rintro v w4 ⟨rfl, rfl⟩
  simp -dsimp (disch := first | omega | (simp only [go_sem, seval]; first | done | omega)) only [go_sem, seval, hg2]
  refine OpX.gen fun w5 hw5 => ?_
  have hc5 : Chg [] w4 w5 := by rw [hw5]; exact chg_a2 _ _ _
  have hl5 : NumAt w5 w4.heap.size (spanG X f.w g.w).1 := by show w5.heap[_]? = _; rw [hw5]; simp -dsimp (disch := first | omega | (simp only [go_sem, seval]; first | done | omega)) only [go_sem, seval]
  have hm5 : NumAt w5 (w4.heap.size + 1) (spanG X f.w g.w).2 := by show w5.heap[_]? = _; rw [hw5]; simp -dsimp (disch := first | omega | (simp only [go_sem, seval]; first | done | omega)) only [go_sem, seval]
  have hf5 := hc5.keep hf2 (by simp)
  have hx5 : NumAt w5 (w.heap.size + 2) X := hc5.keep hx2 (by simp)
  have hy5 : NumAt w5 (w.heap.size + 3) Y := hc5.keep hy2 (by simp)
  have hc05 := hc02.trans0 hc5
  have hsz5 := hc5.size
  clear hw5
  have hb1 := spanG_b (x := X) (n := f.w) (size := g.w) (by omega)
  have hb2 := spanG_b (x := Y) (n := f.h) (size := g.h) (by omega)
  refine OpX.call grid_change_b rfl (Calls.ret (change_c hg (hs.chg0 hc05) cap (by omega) (by omega) (doblit_c hg hf hl5 hm5 hf5 hx5 hy5 (hsf.chg0 hc05) hb1.1 hb1.2.2 hX hY _ _) (fun y _ _ _ => lineOf_len _ _)) ?_)
  rintro v w6 ⟨hga, hc6⟩
  have hc06 := hc05.trans0 hc6
  have ho6 := ((hc12.trans0 hc5).trans0 hc6).keep ho0 (by simp)
  have hs6 := hc6.size
  have hlo := lt_of_heap ho6
  obtain ⟨nb, cap', sp, rfl, k1, k2, k3⟩ := hga
  simp -dsimp (disch := first | omega | (simp only [go_sem, seval]; first | done | omega)) only [go_sem, seval, Gr.val, ho6]
  refine hK _ _ ⟨⟨nb, cap', sp, rfl, k1, by omega, ?_⟩, hc06.set _ _ (.inr (by omega))⟩
  rw [heap_set_other _ _ _ _ (by omega)]; exact k3

theorem gresize_c {w : World} {g : Gr} (hg : g.ok) (hr : g.right = true) {e : Option TypeId} {a : Option Addr} (hs : SxC w e a g.cs) (cap : Nat) (hcap : g.cs.length ≤ cap) {x y : Nat} {c : Cel} (hu : c.usual = true) (x0 : 0 < x) (x1 : x ≤ 200) (y0 : 0 < y) (y1 : y ≤ 60) :
    Calls Try.prog 49 #[g.val a cap, .int .i64 x, .int .i64 y, c.val] w (retK fun v w' => GAt w.heap.size w' v (g.resize x y c) ∧ Chg [] w w') := by
  have hh1 := hg.h1
  have hw1 := hg.w1
  obtain ⟨b, o, _, _, _, _, _, rfl, hb0, _⟩ := hs.at_ hg.ne
  have hb0' := lt_of_heap hb0
  clear hb0
  have hft : fitsG x y = true := by unfold fitsG; apply decide_eq_true; omega
  apply grid_Resize_link
  intro K hK
  unfold grid_Resize
  simp -dsimp (disch := first | omega | (simp only [go_sem, seval]; first | done | omega)) only [go_sem, seval, Gr.val]
  refine Join1.inl ?_
  simp -dsimp (disch := first | omega | (simp only [go_sem, seval]; first | done | omega)) only [go_sem, seval]
  refine OpX.gen fun w0 hw0 => ?_
  have hc0 : Chg [] w w0 := by rw [hw0]; exact chg_a3 _ _ _ _
  have hz0 : w0.heap.size = w.heap.size + 3 := by rw [hw0]; simp -dsimp (disch := first | omega | (simp only [go_sem, seval]; first | done | omega)) only [go_sem, seval]
  have hg0 : w0.heap[w.heap.size]? = some (.cells #[.int .i64 g.w, .int .i64 g.h, .slice (some ⟨b, o, none⟩) g.cs.length cap] 54) := by rw [hw0]; simp -dsimp (disch := first | omega | (simp only [go_sem, seval]; first | done | omega)) only [go_sem, seval]
  have hk0 : CelAt w0 (w.heap.size + 1) c := by show w0.heap[_]? = _; rw [hw0]; simp -dsimp (disch := first | omega | (simp only [go_sem, seval]; first | done | omega)) only [go_sem, seval]
  have ho0 : w0.heap[w.heap.size + 2]? = some (.cells #[.int .i64 0, .int .i64 0, .slice none 0 0] 54) := by rw [hw0]; simp -dsimp (disch := first | omega | (simp only [go_sem, seval]; first | done | omega)) only [go_sem, seval]
  clear hw0
  refine OpX.call grid_Check_b rfl (Calls.ret (gcheck_c hg (hs.chg0 hc0) cap hcap) ?_)
  rintro v w1 ⟨rfl, hc1⟩
  rw [hr]
  have hk1 := hc1.keep hk0 (by simp)
  simp -dsimp (disch := first | omega | (simp only [go_sem, seval]; first | done | omega)) only [go_sem, seval, hk1]
  refine OpX.call grid_usual_b rfl (Calls.ret (usual_c _ c) ?_)
  rintro v w2 ⟨rfl, hc2⟩
  rw [hu]
  simp -dsimp (disch := first | omega | (simp only [go_sem, seval]; first | done | omega)) only [go_sem, seval]
  refine OpX.call grid_fits_b rfl (Calls.ret (fits_c _ x y) ?_)
  rintro v w3 ⟨rfl, rfl⟩
  have hc12 := hc1.trans0 hc2
  have hg2 := hc12.keep hg0 (by simp)
  have hk2 := hc12.keep hk0 (by simp)
  have ho2 := hc12.keep ho0 (by simp)
  have hlt := lt_of_heap ho2
  have hsz := hc12.size
  have hc02 := hc0.trans0 hc12
  simp -dsimp (disch := first | omega | (simp only [go_sem, seval]; first | done | omega)) only [go_sem, seval, hft]
  refine Join0.cut (fun w' => Chg [] w w' ∧ ∃ cs, GAt (w.heap.size + 3) w' (.agg cs) (g.resize x y c) ∧ w'.heap[w.heap.size + 2]? = some (.cells cs 54)) ?_ ?_
  · have hP := Gr.plain_ok x0 x1 y0 y1 c
    simp -dsimp (disch := first | omega | (simp only [go_sem, seval]; first | done | omega)) only [go_sem, seval, hg2, hk2]
    refine ⟨?_, ?_⟩
    · refine OpX.call grid_filled_b rfl (Calls.ret (filled_c _ x y c x0 x1 y0 y1) ?_)
      rintro v w5 ⟨hga, hc5⟩
      obtain ⟨nb, cap5, rfl, hcap5, hnb5, hnl5, hs5⟩ := hga.sx
      have hg5 := hc5.keep hg2 (by simp)
      have ho5 := hc5.keep ho2 (by simp)
      have hc05 := hc02.drew.trans0 hc5
      have hsz5 : w3.heap.size ≤ w5.heap.size := hc5.size
      have hz5 := lt_of_heap ho5
      simp -dsimp (disch := first | omega | (simp only [go_sem, seval]; first | done | omega)) only [go_sem, seval, hg5]
      refine OpX.call grid_change_b rfl (Calls.ret (change_c hP hs5 cap5 (by omega) (by omega) (doresize_c hg hP hg5 (hs.chg0 hc05) hcap _ _ (by omega)) (fun y _ _ _ => lineOf_len _ _)) ?_)
      rintro v w6 ⟨⟨nb6, cap6, sp, rfl, k1, k2, k3⟩, hc6⟩
      have ho6 := hc6.keep ho5 (by simp)
      have hlo6 := lt_of_heap ho6
      simp -dsimp (disch := first | omega | (simp only [go_sem, seval]; first | done | omega)) only [go_sem, seval, Gr.val, ho6]
      refine ⟨(hc05.trans0 hc6).set _ _ (.inr (by omega)), _, ⟨nb6, cap6, sp, rfl, k1, by omega, ?_⟩, rfl⟩
      rw [heap_set_other _ _ _ _ (by omega)]; exact k3
    · refine OpX.call grid_filled_b rfl (Calls.ret (filled_c _ x y c x0 x1 y0 y1) ?_)
      rintro v w5 ⟨hga, hc5⟩
      obtain ⟨nb, cap5, rfl, hcap5, hnb5, hnl5, hs5⟩ := hga.sx
      have hg5 := hc5.keep hg2 (by simp)
      have ho5 := hc5.keep ho2 (by simp)
      have hc05 := hc02.drew.trans0 hc5
      have hsz5 : w3.heap.size ≤ w5.heap.size := hc5.size
      have hz5 := lt_of_heap ho5
      simp -dsimp (disch := first | omega | (simp only [go_sem, seval]; first | done | omega)) only [go_sem, seval, hg5]
      refine OpX.call grid_change_b rfl (Calls.ret (change_c hP hs5 cap5 (by omega) (by omega) (doresize_c hg hP hg5 (hs.chg0 hc05) hcap _ _ (by omega)) (fun y _ _ _ => lineOf_len _ _)) ?_)
      rintro v w6 ⟨⟨nb6, cap6, sp, rfl, k1, k2, k3⟩, hc6⟩
      have ho6 := hc6.keep ho5 (by simp)
      have hlo6 := lt_of_heap ho6
      simp -dsimp (disch := first | omega | (simp only [go_sem, seval]; first | done | omega)) only [go_sem, seval, Gr.val, ho6]
      refine ⟨(hc05.trans0 hc6).set _ _ (.inr (by omega)), _, ⟨nb6, cap6, sp, rfl, k1, by omega, ?_⟩, rfl⟩
      rw [heap_set_other _ _ _ _ (by omega)]; exact k3
  · rintro w4 ⟨hc4, cs, ⟨nb, cap4, sp, hcs, k1, k2, k3⟩, hr4⟩
    have hlo4 := lt_of_heap hr4
    obtain rfl : cs = _ := Value.agg.inj hcs
    simp -dsimp (disch := first | omega | (simp only [go_sem, seval]; first | done | omega)) only [go_sem, seval, hr4]
    exact hK _ _ ⟨⟨nb, cap4, sp, rfl, k1, by omega, k3⟩, hc4⟩
end Go.Proofs.Ytdjdeahmhenchaa
