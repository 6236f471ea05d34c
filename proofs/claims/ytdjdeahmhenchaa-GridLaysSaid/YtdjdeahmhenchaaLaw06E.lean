/- The laws of layer 6, walked: GridLays. -/
import Derived.Test.YtdjdeahmhenchaaLaw06D
set_option linter.unusedSimpArgs false
set_option linter.unusedVariables false
namespace Go.Proofs.Ytdjdeahmhenchaa
open Lyc Go

theorem equal_c {w : World} {e e' : Option TypeId} {a a' : Option Addr} {l l' : List Cel} (hs : SxC w e a l) (hs' : SxC w e' a' l') (cap cap' : Nat) (hl : l.length ≤ 1000000000) : Calls Try.prog 93 #[.slice a l.length cap, .slice a' l'.length cap'] w (retK fun v w' => v = .bool (decide (l = l')) ∧ Chg [] w w') := by
  apply slices_Equal_api_Cell_api_Cell_link
  intro K hK
  unfold slices_Equal_api_Cell_api_Cell
  simp -dsimp (disch := (first | omega | (simp only [go_sem, Nat.reduceAdd]; done) | (simp only [go_sem, Nat.reduceAdd]; omega))) only [go_sem, reduceIte, reduceCtorEq, Nat.reduceAdd, Nat.reduceMul, Nat.reduceSub, Nat.reduceDiv, Nat.reduceMod, Nat.reduceEqDiff, Nat.reduceLT, Nat.reduceLeDiff, Nat.reducePow, Int.reduceNeg, Int.reduceAdd, Int.reduceSub, Int.reduceMul, Int.reduceEq, Int.reduceNe, Int.reduceLT, Int.reduceLE, Int.reduceToNat, Int.reduceTDiv, Int.reduceTMod, Int.reduceFDiv, Int.reducePow]
  refine BrW.dec (fun h1 => ?_) (fun h1 => ?_)
  · refine hK _ _ ⟨?_, Chg.refl _ _⟩
    have : l ≠ l' := by rintro rfl; exact h1 rfl
    simp [this]
  · have hlen : l.length = l'.length := by omega
    simp -dsimp (disch := (first | omega | (simp only [go_sem, Nat.reduceAdd]; done) | (simp only [go_sem, Nat.reduceAdd]; omega))) only [go_sem, reduceIte, reduceCtorEq, Nat.reduceAdd, Nat.reduceMul, Nat.reduceSub, Nat.reduceDiv, Nat.reduceMod, Nat.reduceEqDiff, Nat.reduceLT, Nat.reduceLeDiff, Nat.reducePow, Int.reduceNeg, Int.reduceAdd, Int.reduceSub, Int.reduceMul, Int.reduceEq, Int.reduceNe, Int.reduceLT, Int.reduceLE, Int.reduceToNat, Int.reduceTDiv, Int.reduceTMod, Int.reduceFDiv, Int.reducePow]
    refine Loop1.st (fun k : Nat => .int .i64 k) (fun k w' => Chg [] w w' ∧ k ≤ l.length ∧ l.take k = l'.take k) (fun k => l.length - k) 0 rfl ⟨Chg.refl _ _, by omega, rfl⟩ ?_
    rintro next k w' hn ⟨hc, hk, he⟩
    simp -dsimp (disch := (first | omega | (simp only [go_sem, Nat.reduceAdd]; done) | (simp only [go_sem, Nat.reduceAdd]; omega))) only [go_sem, reduceIte, reduceCtorEq, Nat.reduceAdd, Nat.reduceMul, Nat.reduceSub, Nat.reduceDiv, Nat.reduceMod, Nat.reduceEqDiff, Nat.reduceLT, Nat.reduceLeDiff, Nat.reducePow, Int.reduceNeg, Int.reduceAdd, Int.reduceSub, Int.reduceMul, Int.reduceEq, Int.reduceNe, Int.reduceLT, Int.reduceLE, Int.reduceToNat, Int.reduceTDiv, Int.reduceTMod, Int.reduceFDiv, Int.reducePow]
    refine BrW.dec (fun h2 => ?_) (fun h2 => ?_)
    · have hk1 : k < l.length := by omega
      have hk2 : k < l'.length := by omega
      obtain ⟨b, o, rfl, hb, h3, -⟩ := SxC.cel (hs.chg0 hc) (List.getElem?_eq_getElem hk1)
      obtain ⟨b', o', rfl, hb', h3', -⟩ := SxC.cel (hs'.chg0 hc) (List.getElem?_eq_getElem hk2)
      simp -dsimp (disch := (first | omega | (simp only [go_sem, Nat.reduceAdd]; done) | (simp only [go_sem, Nat.reduceAdd]; omega))) only [go_sem, reduceIte, reduceCtorEq, Nat.reduceAdd, Nat.reduceMul, Nat.reduceSub, Nat.reduceDiv, Nat.reduceMod, Nat.reduceEqDiff, Nat.reduceLT, Nat.reduceLeDiff, Nat.reducePow, Int.reduceNeg, Int.reduceAdd, Int.reduceSub, Int.reduceMul, Int.reduceEq, Int.reduceNe, Int.reduceLT, Int.reduceLE, Int.reduceToNat, Int.reduceTDiv, Int.reduceTMod, Int.reduceFDiv, Int.reducePow, h3, h3']
      refine BrW.dec (fun h4 => ?_) (fun h4 => ?_)
      · refine hK _ _ ⟨?_, hc.drew⟩
        have : l ≠ l' := by rintro rfl; exact h4 rfl
        simp [this]
      · simp -dsimp (disch := (first | omega | (simp only [go_sem, Nat.reduceAdd]; done) | (simp only [go_sem, Nat.reduceAdd]; omega))) only [go_sem, reduceIte, reduceCtorEq, Nat.reduceAdd, Nat.reduceMul, Nat.reduceSub, Nat.reduceDiv, Nat.reduceMod, Nat.reduceEqDiff, Nat.reduceLT, Nat.reduceLeDiff, Nat.reducePow, Int.reduceNeg, Int.reduceAdd, Int.reduceSub, Int.reduceMul, Int.reduceEq, Int.reduceNe, Int.reduceLT, Int.reduceLE, Int.reduceToNat, Int.reduceTDiv, Int.reduceTMod, Int.reduceFDiv, Int.reducePow]
        refine hn (k + 1) _ ⟨hc.drew, by omega, ?_⟩ (by omega)
        rw [take_next hk1, take_next hk2, he]
        rw [Decidable.not_not.1 h4]
    · have hk1 : k = l.length := by omega
      subst hk1
      refine hK _ _ ⟨?_, hc⟩
      rw [List.take_length, hlen, List.take_length] at he
      simp [he]

theorem gsame_c {w : World} {f g : Gr} {e e' : Option TypeId} {a a' : Option Addr} (hs : SxC w e a f.cs) (hs' : SxC w e' a' g.cs) (cap cap' : Nat) (hl : f.cs.length ≤ 1000000000) (hw : f.w ≤ 1000 ∧ g.w ≤ 1000 ∧ f.h ≤ 1000 ∧ g.h ≤ 1000) : Calls Try.prog 50 #[f.val a cap, g.val a' cap'] w (retK fun v w' => v = .bool (decide (f = g)) ∧ Chg [] w w') := by
  have hiff : f = g ↔ (f.w = g.w ∧ f.h = g.h ∧ f.cs = g.cs) := by
    cases f; cases g; simp
  apply grid_Same_link
  intro K hK
  unfold grid_Same
  simp -dsimp (disch := (first | omega | (simp only [go_sem, Nat.reduceAdd]; done) | (simp only [go_sem, Nat.reduceAdd]; omega))) only [go_sem, reduceIte, reduceCtorEq, Nat.reduceAdd, Nat.reduceMul, Nat.reduceSub, Nat.reduceDiv, Nat.reduceMod, Nat.reduceEqDiff, Nat.reduceLT, Nat.reduceLeDiff, Nat.reducePow, Int.reduceNeg, Int.reduceAdd, Int.reduceSub, Int.reduceMul, Int.reduceEq, Int.reduceNe, Int.reduceLT, Int.reduceLE, Int.reduceToNat, Int.reduceTDiv, Int.reduceTMod, Int.reduceFDiv, Int.reducePow, Gr.val]
  refine Join1.inl ?_
  simp -dsimp (disch := (first | omega | (simp only [go_sem, Nat.reduceAdd]; done) | (simp only [go_sem, Nat.reduceAdd]; omega))) only [go_sem, reduceIte, reduceCtorEq, Nat.reduceAdd, Nat.reduceMul, Nat.reduceSub, Nat.reduceDiv, Nat.reduceMod, Nat.reduceEqDiff, Nat.reduceLT, Nat.reduceLeDiff, Nat.reducePow, Int.reduceNeg, Int.reduceAdd, Int.reduceSub, Int.reduceMul, Int.reduceEq, Int.reduceNe, Int.reduceLT, Int.reduceLE, Int.reduceToNat, Int.reduceTDiv, Int.reduceTMod, Int.reduceFDiv, Int.reducePow]
  refine BrW.dec (fun h1 => ?_) (fun h1 => ?_)
  · simp -dsimp (disch := (first | omega | (simp only [go_sem, Nat.reduceAdd]; done) | (simp only [go_sem, Nat.reduceAdd]; omega))) only [go_sem, reduceIte, reduceCtorEq, Nat.reduceAdd, Nat.reduceMul, Nat.reduceSub, Nat.reduceDiv, Nat.reduceMod, Nat.reduceEqDiff, Nat.reduceLT, Nat.reduceLeDiff, Nat.reducePow, Int.reduceNeg, Int.reduceAdd, Int.reduceSub, Int.reduceMul, Int.reduceEq, Int.reduceNe, Int.reduceLT, Int.reduceLE, Int.reduceToNat, Int.reduceTDiv, Int.reduceTMod, Int.reduceFDiv, Int.reducePow]
    refine BrW.dec (fun h2 => ?_) (fun h2 => ?_)
    · simp -dsimp (disch := (first | omega | (simp only [go_sem, Nat.reduceAdd]; done) | (simp only [go_sem, Nat.reduceAdd]; omega))) only [go_sem, reduceIte, reduceCtorEq, Nat.reduceAdd, Nat.reduceMul, Nat.reduceSub, Nat.reduceDiv, Nat.reduceMod, Nat.reduceEqDiff, Nat.reduceLT, Nat.reduceLeDiff, Nat.reducePow, Int.reduceNeg, Int.reduceAdd, Int.reduceSub, Int.reduceMul, Int.reduceEq, Int.reduceNe, Int.reduceLT, Int.reduceLE, Int.reduceToNat, Int.reduceTDiv, Int.reduceTMod, Int.reduceFDiv, Int.reducePow]
      refine OpX.call slices_Equal_api_Cell_api_Cell_b rfl (Calls.ret (equal_c (hs.chg0 (chg_a2 _ _ _)) (hs'.chg0 (chg_a2 _ _ _)) cap cap' hl) ?_)
      rintro v w1 ⟨rfl, hc1⟩
      refine hK _ _ ⟨?_, (chg_a2 _ _ _).trans0 hc1⟩
      congr 1
      exact decide_eq_decide.2 (by rw [hiff]; exact ⟨fun h => ⟨by omega, by omega, h⟩, fun h => h.2.2⟩)
    · refine hK _ _ ⟨?_, chg_a2 _ _ _⟩
      congr 1
      exact (decide_eq_false (by rw [hiff]; intro h; exact h2 (by omega))).symm
  · refine hK _ _ ⟨?_, chg_a2 _ _ _⟩
    congr 1
    exact (decide_eq_false (by rw [hiff]; intro h; exact h1 (by omega))).symm

def dot : Cel := ⟨46, 0, 0, 0⟩
theorem dot_usual : dot.usual = true := by decide
theorem dot_val : (Value.agg #[.int .i32 46, .int .u8 0, .int .u8 0, .int .u8 0]) = dot.val := by simp [Cel.val, dot]
theorem blank_usual : Cel.blank.usual = true := by decide
theorem blank_val : (Value.agg #[.int .i32 32, .int .u8 0, .int .u8 0, .int .u8 0]) = Cel.blank.val := by simp [Cel.val, Cel.blank]

theorem lays_c {w : World} {a a' : Option Addr} {ns ms : List Int} {e e' : Option TypeId} (hs : Sx w e intF a ns) (hs' : Sx w e' intF a' ms) (cap cap' : Nat) (W H W' H' q0 q1 : Int) :
    Calls Try.prog 12 #[.agg #[.int .i64 W, .int .i64 H, .slice a ns.length cap], .agg #[.int .i64 W', .int .i64 H', .slice a' ms.length cap'], .agg #[.int .i64 q0, .int .i64 q1]] w (retK fun v w' => v = .bool true ∧ Chg [] w w') := by
  have hwb := rest_bd q0 12 (by omega)
  have hhb := rest_bd q1 6 (by omega)
  have hwt := tmod_bd q0 12 (by omega)
  have hht := tmod_bd q1 6 (by omega)
  have ew : 1 + (q0.tmod 12 + 12).tmod 12 = ((numW q0 : Nat) : Int) := by show 1 + rest q0 12 = _; unfold numW; omega
  have eh : 1 + (q1.tmod 6 + 6).tmod 6 = ((numH q1 : Nat) : Int) := by show 1 + rest q1 6 = _; unfold numH; omega
  have hw2 : 0 < numW q0 ∧ numW q0 ≤ 12 := by unfold numW; omega
  have hh2 : 0 < numH q1 ∧ numH q1 ≤ 6 := by unfold numH; omega
  have hw' : 0 ≤ (q0.tmod 12 + 12).tmod 12 ∧ (q0.tmod 12 + 12).tmod 12 < 12 := hwb
  have hh' : 0 ≤ (q1.tmod 6 + 6).tmod 6 ∧ (q1.tmod 6 + 6).tmod 6 < 6 := hhb
  apply lyceumlaw06_GridLays_link
  intro K hK
  unfold lyceumlaw06_GridLays
  simp -dsimp (disch := (first | omega | (simp only [go_sem, Nat.reduceAdd]; done) | (simp only [go_sem, Nat.reduceAdd]; omega))) only [go_sem, reduceIte, reduceCtorEq, Nat.reduceAdd, Nat.reduceMul, Nat.reduceSub, Nat.reduceDiv, Nat.reduceMod, Nat.reduceEqDiff, Nat.reduceLT, Nat.reduceLeDiff, Nat.reducePow, Int.reduceNeg, Int.reduceAdd, Int.reduceSub, Int.reduceMul, Int.reduceEq, Int.reduceNe, Int.reduceLT, Int.reduceLE, Int.reduceToNat, Int.reduceTDiv, Int.reduceTMod, Int.reduceFDiv, Int.reducePow]
  refine OpX.gen fun w0 hw0 => ?_
  have hc0 : Chg [] w w0 := by rw [hw0]; exact chg_a3 _ _ _ _
  have hn0 : w0.heap[w.heap.size]? = some (.cells #[.int .i64 W, .int .i64 H, .slice a ns.length cap] 62) := by rw [hw0]; simp -dsimp (disch := (first | omega | (simp only [go_sem, Nat.reduceAdd]; done) | (simp only [go_sem, Nat.reduceAdd]; omega))) only [go_sem, reduceIte, reduceCtorEq, Nat.reduceAdd, Nat.reduceMul, Nat.reduceSub, Nat.reduceDiv, Nat.reduceMod, Nat.reduceEqDiff, Nat.reduceLT, Nat.reduceLeDiff, Nat.reducePow, Int.reduceNeg, Int.reduceAdd, Int.reduceSub, Int.reduceMul, Int.reduceEq, Int.reduceNe, Int.reduceLT, Int.reduceLE, Int.reduceToNat, Int.reduceTDiv, Int.reduceTMod, Int.reduceFDiv, Int.reducePow]
  have hm0 : w0.heap[w.heap.size + 1]? = some (.cells #[.int .i64 W', .int .i64 H', .slice a' ms.length cap'] 62) := by rw [hw0]; simp -dsimp (disch := (first | omega | (simp only [go_sem, Nat.reduceAdd]; done) | (simp only [go_sem, Nat.reduceAdd]; omega))) only [go_sem, reduceIte, reduceCtorEq, Nat.reduceAdd, Nat.reduceMul, Nat.reduceSub, Nat.reduceDiv, Nat.reduceMod, Nat.reduceEqDiff, Nat.reduceLT, Nat.reduceLeDiff, Nat.reducePow, Int.reduceNeg, Int.reduceAdd, Int.reduceSub, Int.reduceMul, Int.reduceEq, Int.reduceNe, Int.reduceLT, Int.reduceLE, Int.reduceToNat, Int.reduceTDiv, Int.reduceTMod, Int.reduceFDiv, Int.reducePow]
  have hq0 : w0.heap[w.heap.size + 2]? = some (.cells #[.int .i64 q0, .int .i64 q1] 73) := by rw [hw0]; simp -dsimp (disch := (first | omega | (simp only [go_sem, Nat.reduceAdd]; done) | (simp only [go_sem, Nat.reduceAdd]; omega))) only [go_sem, reduceIte, reduceCtorEq, Nat.reduceAdd, Nat.reduceMul, Nat.reduceSub, Nat.reduceDiv, Nat.reduceMod, Nat.reduceEqDiff, Nat.reduceLT, Nat.reduceLeDiff, Nat.reducePow, Int.reduceNeg, Int.reduceAdd, Int.reduceSub, Int.reduceMul, Int.reduceEq, Int.reduceNe, Int.reduceLT, Int.reduceLE, Int.reduceToNat, Int.reduceTDiv, Int.reduceTMod, Int.reduceFDiv, Int.reducePow]
  clear hw0
  refine OpX.call lyceumlaw06_awake_b rfl (Calls.ret (awake06_c _) ?_)
  rintro v w1 ⟨rfl, hc1⟩
  have hn1 := hc1.keep hn0 (by simp)
  have hm1 := hc1.keep hm0 (by simp)
  have hq1 := hc1.keep hq0 (by simp)
  have hlq1 := lt_of_heap hq1
  simp -dsimp (disch := (first | omega | (simp only [go_sem, Nat.reduceAdd]; done) | (simp only [go_sem, Nat.reduceAdd]; omega))) only [go_sem, reduceIte, reduceCtorEq, Nat.reduceAdd, Nat.reduceMul, Nat.reduceSub, Nat.reduceDiv, Nat.reduceMod, Nat.reduceEqDiff, Nat.reduceLT, Nat.reduceLeDiff, Nat.reducePow, Int.reduceNeg, Int.reduceAdd, Int.reduceSub, Int.reduceMul, Int.reduceEq, Int.reduceNe, Int.reduceLT, Int.reduceLE, Int.reduceToNat, Int.reduceTDiv, Int.reduceTMod, Int.reduceFDiv, Int.reducePow, hn1, hm1]
  refine OpX.gen fun w2 hw2 => ?_
  have hlm1 := lt_of_heap hm1
  have hln1 := lt_of_heap hn1
  have hc2 : Chg [] w w2 := by rw [hw2]; refine (hc0.trans0 hc1).set _ _ (.inr ?_); omega
  have hm2 : w2.heap[w.heap.size + 1]? = some (.cells #[.int .i64 W, .int .i64 H, .slice a' ms.length cap'] 62) := by rw [hw2]; simp -dsimp (disch := (first | omega | (simp only [go_sem, Nat.reduceAdd]; done) | (simp only [go_sem, Nat.reduceAdd]; omega))) only [go_sem, reduceIte, reduceCtorEq, Nat.reduceAdd, Nat.reduceMul, Nat.reduceSub, Nat.reduceDiv, Nat.reduceMod, Nat.reduceEqDiff, Nat.reduceLT, Nat.reduceLeDiff, Nat.reducePow, Int.reduceNeg, Int.reduceAdd, Int.reduceSub, Int.reduceMul, Int.reduceEq, Int.reduceNe, Int.reduceLT, Int.reduceLE, Int.reduceToNat, Int.reduceTDiv, Int.reduceTMod, Int.reduceFDiv, Int.reducePow]
  have hq2 : w2.heap[w.heap.size + 2]? = some (.cells #[.int .i64 q0, .int .i64 q1] 73) := by rw [hw2]; simp -dsimp (disch := (first | omega | (simp only [go_sem, Nat.reduceAdd]; done) | (simp only [go_sem, Nat.reduceAdd]; omega))) only [go_sem, reduceIte, reduceCtorEq, Nat.reduceAdd, Nat.reduceMul, Nat.reduceSub, Nat.reduceDiv, Nat.reduceMod, Nat.reduceEqDiff, Nat.reduceLT, Nat.reduceLeDiff, Nat.reducePow, Int.reduceNeg, Int.reduceAdd, Int.reduceSub, Int.reduceMul, Int.reduceEq, Int.reduceNe, Int.reduceLT, Int.reduceLE, Int.reduceToNat, Int.reduceTDiv, Int.reduceTMod, Int.reduceFDiv, Int.reducePow, hq1]
  clear hw2
  refine OpX.call lyceumlaw06_Num_grid_b rfl (Calls.ret (numgrid_c (hs.chg0 hc2) cap W H) ?_)
  rintro v w3 ⟨G, hG, hGr, hGw, hGh, ⟨nb, capg, sp, rfl, g1, g2, g3⟩, hc3⟩
  have hm3 := hc3.keep hm2 (by simp)
  have hq3 := hc3.keep hq2 (by simp)
  have hlq3 := lt_of_heap hq3
  simp -dsimp (disch := (first | omega | (simp only [go_sem, Nat.reduceAdd]; done) | (simp only [go_sem, Nat.reduceAdd]; omega))) only [go_sem, reduceIte, reduceCtorEq, Nat.reduceAdd, Nat.reduceMul, Nat.reduceSub, Nat.reduceDiv, Nat.reduceMod, Nat.reduceEqDiff, Nat.reduceLT, Nat.reduceLeDiff, Nat.reducePow, Int.reduceNeg, Int.reduceAdd, Int.reduceSub, Int.reduceMul, Int.reduceEq, Int.reduceNe, Int.reduceLT, Int.reduceLE, Int.reduceToNat, Int.reduceTDiv, Int.reduceTMod, Int.reduceFDiv, Int.reducePow, Gr.val, hm3]
  obtain ⟨t8, ht8⟩ : ∃ t8, t8 = w3.heap.size := ⟨_, rfl⟩
  have hg4 := GVar.new g1 g2 g3
  have hc4 := chg_a1 w3 (.cells #[.int .i64 G.w, .int .i64 G.h, .slice (some ⟨nb, 0, none⟩) G.cs.length capg] 54)
  rw [← ht8] at hg4 ⊢
  generalize w3.alloc (.cells #[.int .i64 G.w, .int .i64 G.h, .slice (some ⟨nb, 0, none⟩) G.cs.length capg] 54) = w4 at hg4 hc4 ⊢
  have hq4 := hc4.keep hq3 (by simp)
  have hc04 := (hc2.trans0 hc3).trans0 hc4
  refine OpX.call lyceumlaw06_Num_grid_b rfl (Calls.ret (numgrid_c (hs'.chg0 hc04) cap' W H) ?_)
  rintro v w5 ⟨F, hF, hFr, hFw, hFh, ⟨nf, capf, sf, rfl, f1, f2, f3⟩, hc5⟩
  have hq5 := hc5.keep hq4 (by simp)
  have hg5 := hg4.chg0 hc5
  have hlg5 := lt_of_heap hg5.1
  have hlq5 := lt_of_heap hq5
  simp -dsimp (disch := (first | omega | (simp only [go_sem, Nat.reduceAdd]; done) | (simp only [go_sem, Nat.reduceAdd]; omega))) only [go_sem, reduceIte, reduceCtorEq, Nat.reduceAdd, Nat.reduceMul, Nat.reduceSub, Nat.reduceDiv, Nat.reduceMod, Nat.reduceEqDiff, Nat.reduceLT, Nat.reduceLeDiff, Nat.reducePow, Int.reduceNeg, Int.reduceAdd, Int.reduceSub, Int.reduceMul, Int.reduceEq, Int.reduceNe, Int.reduceLT, Int.reduceLE, Int.reduceToNat, Int.reduceTDiv, Int.reduceTMod, Int.reduceFDiv, Int.reducePow, Gr.val, hg5.1]
  obtain ⟨t9, ht9⟩ : ∃ t9, t9 = w5.heap.size := ⟨_, rfl⟩
  have hf6 := GVar.new f1 f2 f3
  have hc6 := chg_a1 w5 (.cells #[.int .i64 F.w, .int .i64 F.h, .slice (some ⟨nf, 0, none⟩) F.cs.length capf] 54)
  rw [← ht9] at hf6 ⊢
  generalize w5.alloc (.cells #[.int .i64 F.w, .int .i64 F.h, .slice (some ⟨nf, 0, none⟩) F.cs.length capf] 54) = w6 at hf6 hc6 ⊢
  have hq6 := hc6.keep hq5 (by simp)
  have hg6 := hg5.chg0 hc6
  have hc06 := (hc04.trans0 hc5).trans0 hc6
  refine OpX.call grid_Blit_b rfl (Calls.ret (gblit_c (X := 0) (Y := 0) hG hGr hF hFr hg6.sx capg g1 hf6.sx capf f1 (by omega) (by omega)) ?_)
  rintro v w7 ⟨⟨nx, capx, sx, rfl, x1, x2, x3⟩, hc7⟩
  rw [blit_same hF hFr (hGw.trans hFw.symm) (hGh.trans hFh.symm)] at x1 x3 ⊢
  have hq7 := hc7.keep hq6 (by simp)
  have hg7 := hg6.chg0 hc7
  have hf7 := hf6.chg0 hc7
  have hlq7 := lt_of_heap hq7
  have hlg7 := lt_of_heap hg7.1
  simp -dsimp (disch := (first | omega | (simp only [go_sem, Nat.reduceAdd]; done) | (simp only [go_sem, Nat.reduceAdd]; omega))) only [go_sem, reduceIte, reduceCtorEq, Nat.reduceAdd, Nat.reduceMul, Nat.reduceSub, Nat.reduceDiv, Nat.reduceMod, Nat.reduceEqDiff, Nat.reduceLT, Nat.reduceLeDiff, Nat.reducePow, Int.reduceNeg, Int.reduceAdd, Int.reduceSub, Int.reduceMul, Int.reduceEq, Int.reduceNe, Int.reduceLT, Int.reduceLE, Int.reduceToNat, Int.reduceTDiv, Int.reduceTMod, Int.reduceFDiv, Int.reducePow, Gr.val, hq7, ew, eh, hg7.1]
  obtain ⟨t10, ht10⟩ : ∃ t10, t10 = w7.heap.size := ⟨_, rfl⟩
  have hx8 := GVar.new x1 x2 x3
  have hc8 := chg_a1 w7 (.cells #[.int .i64 F.w, .int .i64 F.h, .slice (some ⟨nx, 0, none⟩) F.cs.length capx] 54)
  rw [← ht10] at hx8 ⊢
  generalize w7.alloc (.cells #[.int .i64 F.w, .int .i64 F.h, .slice (some ⟨nx, 0, none⟩) F.cs.length capx] 54) = w8 at hx8 hc8 ⊢
  have hg8 := hg7.chg0 hc8
  have hf8 := hf7.chg0 hc8
  have hc08 := (hc06.trans0 hc7).trans0 hc8
  rw [blank_val]
  refine OpX.call grid_Resize_b rfl (Calls.ret (gresize_c (x := numW q0) (y := numH q1) hG hGr hg8.sx capg g1 blank_usual hw2.1 (by omega) hh2.1 (by omega)) ?_)
  rintro v w9 ⟨⟨ny, capy, sy, rfl, y1, y2, y3⟩, hc9⟩
  have hSok := resize_ok (g := G) (w := numW q0) (h := numH q1) (c := Cel.blank) hw2.1 (by omega) hh2.1 (by omega)
  have hSr := resize_right (g := G) (w := numW q0) (h := numH q1) (c := Cel.blank) blank_usual hw2.1 (by omega) hh2.1 (by omega)
  have hSat := fun (x y : Nat) => resize_at hG hGr (w := numW q0) (h := numH q1) (c := Cel.blank) hw2.1 (by omega) hh2.1 (by omega) (x := x) (y := y)
  have hSw : (G.resize (numW q0) (numH q1) Cel.blank).w = numW q0 := rfl
  have hSh : (G.resize (numW q0) (numH q1) Cel.blank).h = numH q1 := rfl
  generalize G.resize (numW q0) (numH q1) Cel.blank = S at *
  simp -dsimp (disch := (first | omega | (simp only [go_sem, Nat.reduceAdd]; done) | (simp only [go_sem, Nat.reduceAdd]; omega))) only [go_sem, reduceIte, reduceCtorEq, Nat.reduceAdd, Nat.reduceMul, Nat.reduceSub, Nat.reduceDiv, Nat.reduceMod, Nat.reduceEqDiff, Nat.reduceLT, Nat.reduceLeDiff, Nat.reducePow, Int.reduceNeg, Int.reduceAdd, Int.reduceSub, Int.reduceMul, Int.reduceEq, Int.reduceNe, Int.reduceLT, Int.reduceLE, Int.reduceToNat, Int.reduceTDiv, Int.reduceTMod, Int.reduceFDiv, Int.reducePow, Gr.val]
  obtain ⟨t13, ht13⟩ : ∃ t13, t13 = w9.heap.size := ⟨_, rfl⟩
  have hs10 := GVar.new y1 y2 y3
  have hc10 := chg_a1 w9 (.cells #[.int .i64 S.w, .int .i64 S.h, .slice (some ⟨ny, 0, none⟩) S.cs.length capy] 54)
  rw [← ht13] at hs10 ⊢
  generalize w9.alloc (.cells #[.int .i64 S.w, .int .i64 S.h, .slice (some ⟨ny, 0, none⟩) S.cs.length capy] 54) = w10 at hs10 hc10 ⊢
  have hg10 := (hg8.chg0 hc9).chg0 hc10
  have hf10 := (hf8.chg0 hc9).chg0 hc10
  have hx10 := (hx8.chg0 hc9).chg0 hc10
  have hc010 := (hc08.trans0 hc9).trans0 hc10
  have hFle := hF.le
  have hFw1 := hF.w1
  have hFh1 := hF.h1
  have hGw1 := hG.w1
  have hGh1 := hG.h1
  have hGle := hG.le
  refine Join1.inl ?_
  simp -dsimp (disch := (first | omega | (simp only [go_sem, Nat.reduceAdd]; done) | (simp only [go_sem, Nat.reduceAdd]; omega))) only [go_sem, reduceIte, reduceCtorEq, Nat.reduceAdd, Nat.reduceMul, Nat.reduceSub, Nat.reduceDiv, Nat.reduceMod, Nat.reduceEqDiff, Nat.reduceLT, Nat.reduceLeDiff, Nat.reducePow, Int.reduceNeg, Int.reduceAdd, Int.reduceSub, Int.reduceMul, Int.reduceEq, Int.reduceNe, Int.reduceLT, Int.reduceLE, Int.reduceToNat, Int.reduceTDiv, Int.reduceTMod, Int.reduceFDiv, Int.reducePow, hx10.1, hf10.1]
  refine OpX.call grid_Same_b rfl (Calls.ret (gsame_c hx10.sx hf10.sx capx capf (by omega) (by omega)) ?_)
  rintro v w11 ⟨rfl, hc11⟩
  have hs11 := hs10.chg0 hc11
  have hsv11 : w11.heap[t13]? = some (.cells #[.int .i64 (numW q0), .int .i64 (numH q1), .slice (some ⟨ny, 0, none⟩) S.cs.length capy] 54) := by rw [hs11.1, hSw, hSh]
  rw [decide_eq_true (rfl : F = F)]
  simp -dsimp (disch := (first | omega | (simp only [go_sem, Nat.reduceAdd]; done) | (simp only [go_sem, Nat.reduceAdd]; omega))) only [go_sem, reduceIte, reduceCtorEq, Nat.reduceAdd, Nat.reduceMul, Nat.reduceSub, Nat.reduceDiv, Nat.reduceMod, Nat.reduceEqDiff, Nat.reduceLT, Nat.reduceLeDiff, Nat.reducePow, Int.reduceNeg, Int.reduceAdd, Int.reduceSub, Int.reduceMul, Int.reduceEq, Int.reduceNe, Int.reduceLT, Int.reduceLE, Int.reduceToNat, Int.reduceTDiv, Int.reduceTMod, Int.reduceFDiv, Int.reducePow, hsv11, ew, eh]
  have hchk := gcheck_c hSok hs11.sx capy y1
  rw [hSr] at hchk
  simp only [Gr.val, hSw, hSh] at hchk
  refine OpX.call grid_Check_b rfl (Calls.ret (hchk) ?_)
  rintro v w12 ⟨rfl, hc12⟩
  simp -dsimp (disch := (first | omega | (simp only [go_sem, Nat.reduceAdd]; done) | (simp only [go_sem, Nat.reduceAdd]; omega))) only [go_sem, reduceIte, reduceCtorEq, Nat.reduceAdd, Nat.reduceMul, Nat.reduceSub, Nat.reduceDiv, Nat.reduceMod, Nat.reduceEqDiff, Nat.reduceLT, Nat.reduceLeDiff, Nat.reducePow, Int.reduceNeg, Int.reduceAdd, Int.reduceSub, Int.reduceMul, Int.reduceEq, Int.reduceNe, Int.reduceLT, Int.reduceLE, Int.reduceToNat, Int.reduceTDiv, Int.reduceTMod, Int.reduceFDiv, Int.reducePow]
  have hc012 := (hc010.trans0 hc11).trans0 hc12
  have hg12 := (hg10.chg0 hc11).chg0 hc12
  have hs12 := hs11.chg0 hc12
  have hsv12 := hc12.keep hsv11 (by simp)
  refine Loop1.st (fun k : Nat => .int .i64 k) (fun k w' => Chg [] w12 w' ∧ (k : Int) ≤ min (numH q1 : Int) G.h) (fun k => G.h - k) 0 rfl ⟨Chg.refl _ _, by omega⟩ ?_
  rintro next y w13 hn ⟨hc13, hy⟩
  have hg13 := hg12.chg0 hc13
  simp -dsimp (disch := (first | omega | (simp only [go_sem, Nat.reduceAdd]; done) | (simp only [go_sem, Nat.reduceAdd]; omega))) only [go_sem, reduceIte, reduceCtorEq, Nat.reduceAdd, Nat.reduceMul, Nat.reduceSub, Nat.reduceDiv, Nat.reduceMod, Nat.reduceEqDiff, Nat.reduceLT, Nat.reduceLeDiff, Nat.reducePow, Int.reduceNeg, Int.reduceAdd, Int.reduceSub, Int.reduceMul, Int.reduceEq, Int.reduceNe, Int.reduceLT, Int.reduceLE, Int.reduceToNat, Int.reduceTDiv, Int.reduceTMod, Int.reduceFDiv, Int.reducePow, hg13.1, eh]
  refine BrW.dec (fun h1 => ?_) (fun h1 => ?_)
  · refine Loop1.st (fun k : Nat => .int .i64 k) (fun k w' => Chg [] w12 w' ∧ (k : Int) ≤ min (numW q0 : Int) G.w) (fun k => G.w - k) 0 rfl ⟨hc13, by omega⟩ ?_
    rintro next2 x w14 hn2 ⟨hc14, hx⟩
    have hg14 := hg12.chg0 hc14
    have hs14 := hs12.chg0 hc14
    have hsv14 := hc14.keep hsv12 (by simp)
    simp -dsimp (disch := (first | omega | (simp only [go_sem, Nat.reduceAdd]; done) | (simp only [go_sem, Nat.reduceAdd]; omega))) only [go_sem, reduceIte, reduceCtorEq, Nat.reduceAdd, Nat.reduceMul, Nat.reduceSub, Nat.reduceDiv, Nat.reduceMod, Nat.reduceEqDiff, Nat.reduceLT, Nat.reduceLeDiff, Nat.reducePow, Int.reduceNeg, Int.reduceAdd, Int.reduceSub, Int.reduceMul, Int.reduceEq, Int.reduceNe, Int.reduceLT, Int.reduceLE, Int.reduceToNat, Int.reduceTDiv, Int.reduceTMod, Int.reduceFDiv, Int.reducePow, hg14.1, ew]
    refine BrW.dec (fun h2 => ?_) (fun h2 => ?_)
    · have hsat := gat_c hSok hs14.sx capy (x : Int) (y : Int)
      rw [if_pos (by omega)] at hsat
      simp only [Gr.val, hSw, hSh, Int.toNat_natCast] at hsat
      simp -dsimp (disch := (first | omega | (simp only [go_sem, Nat.reduceAdd]; done) | (simp only [go_sem, Nat.reduceAdd]; omega))) only [go_sem, reduceIte, reduceCtorEq, Nat.reduceAdd, Nat.reduceMul, Nat.reduceSub, Nat.reduceDiv, Nat.reduceMod, Nat.reduceEqDiff, Nat.reduceLT, Nat.reduceLeDiff, Nat.reducePow, Int.reduceNeg, Int.reduceAdd, Int.reduceSub, Int.reduceMul, Int.reduceEq, Int.reduceNe, Int.reduceLT, Int.reduceLE, Int.reduceToNat, Int.reduceTDiv, Int.reduceTMod, Int.reduceFDiv, Int.reducePow, hsv14]
      refine OpX.call grid_At_b rfl (Calls.ret (hsat) ?_)
      rintro v w15 ⟨rfl, hc15⟩
      have hg15 := hg14.chg0 hc15
      have hgat := fun (w' : World) (hgw : GVar w' t8 nb capg sp G) => gat_c hG hgw.sx capg (x : Int) (y : Int)
      rw [if_pos (by omega)] at hgat
      simp only [Gr.val, Int.toNat_natCast] at hgat
      have hl8 := lt_of_heap hg15.1
      have hc16 := chg_a1 w15 (.cells #[.int .i32 (S.at x y).r, .int .u8 (S.at x y).fg.toNat, .int .u8 (S.at x y).bg.toNat, .int .u8 (S.at x y).a.toNat] 44)
      have ha16 : (w15.alloc (.cells #[.int .i32 (S.at x y).r, .int .u8 (S.at x y).fg.toNat, .int .u8 (S.at x y).bg.toNat, .int .u8 (S.at x y).a.toNat] 44)).heap[w15.heap.size]? = some (.cells (S.at x y).cells.toArray 44) := Lyc.heap_alloc_new _ _ _ rfl
      simp -dsimp (disch := (first | omega | (simp only [go_sem, Nat.reduceAdd]; done) | (simp only [go_sem, Nat.reduceAdd]; omega))) only [go_sem, reduceIte, reduceCtorEq, Nat.reduceAdd, Nat.reduceMul, Nat.reduceSub, Nat.reduceDiv, Nat.reduceMod, Nat.reduceEqDiff, Nat.reduceLT, Nat.reduceLeDiff, Nat.reducePow, Int.reduceNeg, Int.reduceAdd, Int.reduceSub, Int.reduceMul, Int.reduceEq, Int.reduceNe, Int.reduceLT, Int.reduceLE, Int.reduceToNat, Int.reduceTDiv, Int.reduceTMod, Int.reduceFDiv, Int.reducePow, hg15.1]
      generalize w15.alloc (.cells #[.int .i32 (S.at x y).r, .int .u8 (S.at x y).fg.toNat, .int .u8 (S.at x y).bg.toNat, .int .u8 (S.at x y).a.toNat] 44) = w16 at hc16 ha16 ⊢
      have hg16 := hg15.chg0 hc16
      refine OpX.call grid_At_b rfl (Calls.ret (hgat w16 hg16) ?_)
      rintro v w17 ⟨rfl, hc17⟩
      have ha17 := hc17.keep ha16 (by simp)
      have hl17 := lt_of_heap ha17
      have hc18 := chg_a1 w17 (.cells #[.int .i32 (G.at x y).r, .int .u8 (G.at x y).fg.toNat, .int .u8 (G.at x y).bg.toNat, .int .u8 (G.at x y).a.toNat] 44)
      have hb18 : (w17.alloc (.cells #[.int .i32 (G.at x y).r, .int .u8 (G.at x y).fg.toNat, .int .u8 (G.at x y).bg.toNat, .int .u8 (G.at x y).a.toNat] 44)).heap[w17.heap.size]? = some (.cells (G.at x y).cells.toArray 44) := Lyc.heap_alloc_new _ _ _ rfl
      simp -dsimp (disch := (first | omega | (simp only [go_sem, Nat.reduceAdd]; done) | (simp only [go_sem, Nat.reduceAdd]; omega))) only [go_sem, reduceIte, reduceCtorEq, Nat.reduceAdd, Nat.reduceMul, Nat.reduceSub, Nat.reduceDiv, Nat.reduceMod, Nat.reduceEqDiff, Nat.reduceLT, Nat.reduceLeDiff, Nat.reducePow, Int.reduceNeg, Int.reduceAdd, Int.reduceSub, Int.reduceMul, Int.reduceEq, Int.reduceNe, Int.reduceLT, Int.reduceLE, Int.reduceToNat, Int.reduceTDiv, Int.reduceTMod, Int.reduceFDiv, Int.reducePow]
      generalize w17.alloc (.cells #[.int .i32 (G.at x y).r, .int .u8 (G.at x y).fg.toNat, .int .u8 (G.at x y).bg.toNat, .int .u8 (G.at x y).a.toNat] 44) = w18 at hc18 hb18 ⊢
      have ha18 := hc18.keep ha17 (by simp)
      have hc1418 := ((hc15.trans0 hc16).trans0 hc17).trans0 hc18
      have hres := hSat x y (by omega) (by omega) (by omega) (by omega)
      refine Join1.cut (fun v w' => v = .bool false ∧ w' = w18) ?_ ?_
      · simp -dsimp (disch := (first | omega | (simp only [go_sem, Nat.reduceAdd]; done) | (simp only [go_sem, Nat.reduceAdd]; omega))) only [go_sem, reduceIte, reduceCtorEq, Nat.reduceAdd, Nat.reduceMul, Nat.reduceSub, Nat.reduceDiv, Nat.reduceMod, Nat.reduceEqDiff, Nat.reduceLT, Nat.reduceLeDiff, Nat.reducePow, Int.reduceNeg, Int.reduceAdd, Int.reduceSub, Int.reduceMul, Int.reduceEq, Int.reduceNe, Int.reduceLT, Int.reduceLE, Int.reduceToNat, Int.reduceTDiv, Int.reduceTMod, Int.reduceFDiv, Int.reducePow, ha18, hb18]
        refine BrW.dec (fun h5 => ?_) (fun h5 => ⟨rfl, rfl⟩)
        obtain ⟨r1, r2, r3⟩ := hres h5
        simp -dsimp (disch := (first | omega | (simp only [go_sem, Nat.reduceAdd]; done) | (simp only [go_sem, Nat.reduceAdd]; omega))) only [go_sem, reduceIte, reduceCtorEq, Nat.reduceAdd, Nat.reduceMul, Nat.reduceSub, Nat.reduceDiv, Nat.reduceMod, Nat.reduceEqDiff, Nat.reduceLT, Nat.reduceLeDiff, Nat.reducePow, Int.reduceNeg, Int.reduceAdd, Int.reduceSub, Int.reduceMul, Int.reduceEq, Int.reduceNe, Int.reduceLT, Int.reduceLE, Int.reduceToNat, Int.reduceTDiv, Int.reduceTMod, Int.reduceFDiv, Int.reducePow, ew]
        refine BrW.dec (fun h6 => by omega) (fun _ => ?_)
        simp -dsimp (disch := (first | omega | (simp only [go_sem, Nat.reduceAdd]; done) | (simp only [go_sem, Nat.reduceAdd]; omega))) only [go_sem, reduceIte, reduceCtorEq, Nat.reduceAdd, Nat.reduceMul, Nat.reduceSub, Nat.reduceDiv, Nat.reduceMod, Nat.reduceEqDiff, Nat.reduceLT, Nat.reduceLeDiff, Nat.reducePow, Int.reduceNeg, Int.reduceAdd, Int.reduceSub, Int.reduceMul, Int.reduceEq, Int.reduceNe, Int.reduceLT, Int.reduceLE, Int.reduceToNat, Int.reduceTDiv, Int.reduceTMod, Int.reduceFDiv, Int.reducePow, hb18]
        refine BrW.dec (fun h6 => by omega) (fun _ => ?_)
        simp -dsimp (disch := (first | omega | (simp only [go_sem, Nat.reduceAdd]; done) | (simp only [go_sem, Nat.reduceAdd]; omega))) only [go_sem, reduceIte, reduceCtorEq, Nat.reduceAdd, Nat.reduceMul, Nat.reduceSub, Nat.reduceDiv, Nat.reduceMod, Nat.reduceEqDiff, Nat.reduceLT, Nat.reduceLeDiff, Nat.reducePow, Int.reduceNeg, Int.reduceAdd, Int.reduceSub, Int.reduceMul, Int.reduceEq, Int.reduceNe, Int.reduceLT, Int.reduceLE, Int.reduceToNat, Int.reduceTDiv, Int.reduceTMod, Int.reduceFDiv, Int.reducePow, ha18]
        simp [r3]
      · rintro v w19 ⟨rfl, rfl⟩
        simp -dsimp (disch := (first | omega | (simp only [go_sem, Nat.reduceAdd]; done) | (simp only [go_sem, Nat.reduceAdd]; omega))) only [go_sem, reduceIte, reduceCtorEq, Nat.reduceAdd, Nat.reduceMul, Nat.reduceSub, Nat.reduceDiv, Nat.reduceMod, Nat.reduceEqDiff, Nat.reduceLT, Nat.reduceLeDiff, Nat.reducePow, Int.reduceNeg, Int.reduceAdd, Int.reduceSub, Int.reduceMul, Int.reduceEq, Int.reduceNe, Int.reduceLT, Int.reduceLE, Int.reduceToNat, Int.reduceTDiv, Int.reduceTMod, Int.reduceFDiv, Int.reducePow]
        exact hn2 (x + 1) _ ⟨hc14.trans0 hc1418, by omega⟩ (by omega)
    · simp -dsimp (disch := (first | omega | (simp only [go_sem, Nat.reduceAdd]; done) | (simp only [go_sem, Nat.reduceAdd]; omega))) only [go_sem, reduceIte, reduceCtorEq, Nat.reduceAdd, Nat.reduceMul, Nat.reduceSub, Nat.reduceDiv, Nat.reduceMod, Nat.reduceEqDiff, Nat.reduceLT, Nat.reduceLeDiff, Nat.reducePow, Int.reduceNeg, Int.reduceAdd, Int.reduceSub, Int.reduceMul, Int.reduceEq, Int.reduceNe, Int.reduceLT, Int.reduceLE, Int.reduceToNat, Int.reduceTDiv, Int.reduceTMod, Int.reduceFDiv, Int.reducePow]
      exact hn (y + 1) _ ⟨hc14, by omega⟩ (by omega)
  · have hc013 := hc012.trans0 hc13
    refine Join1.cut (fun v w' => v = .bool true ∧ Chg [] w13 w') ?_ ?_
    · simp -dsimp (disch := (first | omega | (simp only [go_sem, Nat.reduceAdd]; done) | (simp only [go_sem, Nat.reduceAdd]; omega))) only [go_sem, reduceIte, reduceCtorEq, Nat.reduceAdd, Nat.reduceMul, Nat.reduceSub, Nat.reduceDiv, Nat.reduceMod, Nat.reduceEqDiff, Nat.reduceLT, Nat.reduceLeDiff, Nat.reducePow, Int.reduceNeg, Int.reduceAdd, Int.reduceSub, Int.reduceMul, Int.reduceEq, Int.reduceNe, Int.reduceLT, Int.reduceLE, Int.reduceToNat, Int.reduceTDiv, Int.reduceTMod, Int.reduceFDiv, Int.reducePow, hg13.1]
      rw [dot_val]
      refine OpX.call grid_Resize_b rfl (Calls.ret (gresize_c (x := G.w) (y := G.h) (c := dot) hG hGr (hg13.chg0 (Chg.refl _ _).drew).sx capg g1 dot_usual hG.w0 hG.w1 hG.h0 hG.h1) ?_)
      rintro v w20 ⟨⟨nz, capz, sz, rfl, z1, z2, z3⟩, hc20⟩
      rw [resize_same hG hGr dot] at z1 z3 ⊢
      have hg20 := (hg13.chg0 (Chg.refl _ _).drew).chg0 hc20
      have hsz20 : SxC w20 (some 44) (some ⟨nz, 0, none⟩) G.cs := ⟨fun _ => ⟨nz, 0, _, _, _, [], sz, rfl, z3, by simp [tagOk], by simp, rfl⟩⟩
      simp -dsimp (disch := (first | omega | (simp only [go_sem, Nat.reduceAdd]; done) | (simp only [go_sem, Nat.reduceAdd]; omega))) only [go_sem, reduceIte, reduceCtorEq, Nat.reduceAdd, Nat.reduceMul, Nat.reduceSub, Nat.reduceDiv, Nat.reduceMod, Nat.reduceEqDiff, Nat.reduceLT, Nat.reduceLeDiff, Nat.reducePow, Int.reduceNeg, Int.reduceAdd, Int.reduceSub, Int.reduceMul, Int.reduceEq, Int.reduceNe, Int.reduceLT, Int.reduceLE, Int.reduceToNat, Int.reduceTDiv, Int.reduceTMod, Int.reduceFDiv, Int.reducePow, hg20.1]
      refine OpX.call grid_Same_b rfl (Calls.ret (gsame_c hsz20 hg20.sx capz capg (by omega) (by omega)) ?_)
      rintro v w21 ⟨rfl, hc21⟩
      exact ⟨by simp, (hc20.trans0 hc21).low_drew⟩
    · rintro v w20 ⟨rfl, hc20⟩
      exact hK _ _ ⟨rfl, hc013.trans0 hc20⟩
end Go.Proofs.Ytdjdeahmhenchaa
