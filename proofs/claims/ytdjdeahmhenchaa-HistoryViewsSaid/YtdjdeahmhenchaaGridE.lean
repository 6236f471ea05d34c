/- The contracts of package grid: At, Same, and the changes. -/
import Derived.Test.YtdjdeahmhenchaaGridD
set_option linter.unusedSimpArgs false
set_option linter.unusedVariables false
namespace Go.Proofs.Ytdjdeahmhenchaa
open Lyc Go

theorem whole_c {w : World} {g : Gr} (hg : g.ok) (a : Option Addr) (cap : Nat) : Calls Try.prog 78 #[g.val a cap] w (retK fun v w' => v = .bool true ∧ Chg [] w w') := by
  have h0 := hg.w0
  have h1 := hg.h0
  have hd : (g.cs.length : Int).tdiv g.w = g.h := by
    rw [hg.len]
    have : ((g.w * g.h : Nat) : Int) = (g.w : Int) * g.h := by simp
    rw [this, Int.mul_tdiv_cancel_left _ (by omega)]
  have hle := hg.le
  have hh := hg.h1
  apply grid_whole_link
  intro K hK
  unfold grid_whole
  simp -dsimp (disch := first | omega | (simp only [go_sem, seval]; first | done | omega)) only [go_sem, seval, Gr.val]
  refine Join1.cut (fun v w' => v = .bool true ∧ Chg [] w w') ?_ ?_
  · simp -dsimp (disch := first | omega | (simp only [go_sem, seval]; first | done | omega)) only [go_sem, seval, hd]
    refine BrW.dec (fun h => ?_) (fun h => by omega)
    simp -dsimp (disch := first | omega | (simp only [go_sem, seval]; first | done | omega)) only [go_sem, seval]
    refine BrW.dec (fun h => ?_) (fun h => by omega)
    simp -dsimp (disch := first | omega | (simp only [go_sem, seval]; first | done | omega)) only [go_sem, seval, hd]
    exact ⟨by simp, (chg_a1 _ _).drew⟩
  · rintro v w1 ⟨rfl, hc⟩
    exact hK _ _ ⟨rfl, hc⟩
theorem gat_c {w : World} {g : Gr} (hg : g.ok) {e : Option TypeId} {a : Option Addr} (hs : SxC w e a g.cs) (cap : Nat) (x y : Int) : Calls Try.prog 42 #[g.val a cap, .int .i64 x, .int .i64 y] w
    (retK fun v w' => v = (if 0 ≤ y ∧ y < g.h ∧ 0 ≤ x ∧ x < g.w then g.at x.toNat y.toNat else Cel.none).val ∧ Chg [] w w') := by
  have hw1 := hg.w1
  have hh1 := hg.h1
  apply grid_At_link
  intro K hK
  unfold grid_At
  simp -dsimp (disch := first | omega | (simp only [go_sem, seval]; first | done | omega)) only [go_sem, seval, Gr.val]
  have hc0 := chg_a2 w (.cells #[.int .i64 g.w, .int .i64 g.h, .slice a g.cs.length cap] 54) (.cells #[.int .i32 0, .int .u8 0, .int .u8 0, .int .u8 0] 44)
  have hg0 : ((w.alloc (.cells #[.int .i64 g.w, .int .i64 g.h, .slice a g.cs.length cap] 54)).alloc (.cells #[.int .i32 0, .int .u8 0, .int .u8 0, .int .u8 0] 44)).heap[w.heap.size]? = some (.cells #[.int .i64 g.w, .int .i64 g.h, .slice a g.cs.length cap] 54) := by simp -dsimp (disch := first | omega | (simp only [go_sem, seval]; first | done | omega)) only [go_sem, seval]
  have ho0 : ((w.alloc (.cells #[.int .i64 g.w, .int .i64 g.h, .slice a g.cs.length cap] 54)).alloc (.cells #[.int .i32 0, .int .u8 0, .int .u8 0, .int .u8 0] 44)).heap[w.heap.size + 1]? = some (.cells #[.int .i32 0, .int .u8 0, .int .u8 0, .int .u8 0] 44) := by simp -dsimp (disch := first | omega | (simp only [go_sem, seval]; first | done | omega)) only [go_sem, seval]
  generalize ((w.alloc (.cells #[.int .i64 g.w, .int .i64 g.h, .slice a g.cs.length cap] 54)).alloc (.cells #[.int .i32 0, .int .u8 0, .int .u8 0, .int .u8 0] 44)) = w0 at hc0 hg0 ho0 ⊢
  refine Join1.cut (fun v w' => v = .bool (!decide (0 ≤ y ∧ y < g.h ∧ 0 ≤ x ∧ x < g.w)) ∧ Chg [] w0 w') ?_ ?_
  · simp -dsimp (disch := first | omega | (simp only [go_sem, seval]; first | done | omega)) only [go_sem, seval, hg0]
    refine OpX.call grid_whole_b rfl (Calls.ret (whole_c hg a cap) ?_)
    rintro v w1 ⟨rfl, hc1⟩
    have hg1 := hc1.keep hg0 (by simp)
    simp -dsimp (disch := first | omega | (simp only [go_sem, seval]; first | done | omega)) only [go_sem, seval]
    refine BrW.dec (fun h => ⟨by simp; omega, hc1⟩) (fun h2 => ?_)
    simp -dsimp (disch := first | omega | (simp only [go_sem, seval]; first | done | omega)) only [go_sem, seval, hg1]
    refine BrW.dec (fun h => ⟨by simp; omega, hc1⟩) (fun h3 => ?_)
    simp -dsimp (disch := first | omega | (simp only [go_sem, seval]; first | done | omega)) only [go_sem, seval]
    refine BrW.dec (fun h => ⟨by simp; omega, hc1⟩) (fun h4 => ?_)
    simp -dsimp (disch := first | omega | (simp only [go_sem, seval]; first | done | omega)) only [go_sem, seval, hg1]
    refine ⟨?_, hc1⟩
    congr 1
    exact decide_eq_decide.2 (by omega)
  · rintro v w1 ⟨rfl, hc1⟩
    have hg1 := hc1.keep hg0 (by simp)
    have ho1 := hc1.keep ho0 (by simp)
    have hlo := lt_of_heap ho1
    have hc01 := hc0.trans0 hc1
    by_cases hin : 0 ≤ y ∧ y < g.h ∧ 0 ≤ x ∧ x < g.w
    · obtain ⟨xn, rfl⟩ := Int.eq_ofNat_of_zero_le hin.2.2.1
      obtain ⟨yn, rfl⟩ := Int.eq_ofNat_of_zero_le hin.1
      have hx : xn < g.w := by omega
      have hy : yn < g.h := by omega
      have hrl := hg.row_lt hy
      have hle := hg.le
      rw [if_pos hin] at hK
      refine BrW.by (fun h => absurd h (by simp [hin])) (fun _ => ?_)
      obtain ⟨b', o', rfl, hb', h6, -⟩ := SxC.cel (hs.chg0 hc01) (hg.at_some hx hy)
      have e1 : (yn : Int) * (g.w : Int) = ((yn * g.w : Nat) : Int) := by simp
      have hne : b' ≠ w.heap.size + 1 := by
        have : b' < w.heap.size := hs.lt hg.ne rfl
        omega
      have e2 : ((yn * g.w : Nat) : Int) + (xn : Int) = ((yn * g.w + xn : Nat) : Int) := by simp
      simp -dsimp (disch := first | omega | (simp only [go_sem, seval]; first | done | omega)) only [go_sem, seval, hg1, e1, e2, h6, ho1]
      refine hK _ _ ⟨rfl, hc01.set _ _ (.inr (by omega))⟩
    · rw [if_neg hin] at hK
      refine BrW.by (fun _ => ?_) (fun h => absurd h (by simp; omega))
      simp -dsimp (disch := first | omega | (simp only [go_sem, seval]; first | done | omega)) only [go_sem, seval, ho1]
      refine hK _ _ ⟨rfl, hc01.set _ _ (.inr (by omega))⟩

theorem doblit_c {w : World} {g f : Gr} (hg : g.ok) (hf : f.ok) {bl br bf bx by_ : Nat} {left right X Y : Int} {e : Option TypeId} {a : Option Addr} {cap : Nat} (h1 : NumAt w bl left) (h2 : NumAt w br right)
    (h3 : w.heap[bf]? = some (.cells #[.int .i64 f.w, .int .i64 f.h, .slice a f.cs.length cap] 54)) (h4 : NumAt w bx X) (h5 : NumAt w by_ Y) (hs : SxC w e a f.cs)
    (hl : 0 ≤ left) (hr : right ≤ g.w) (hX : -1000000 ≤ X ∧ X ≤ 1000000) (hY : -1000000 ≤ Y ∧ Y ≤ 1000000) (top fin : Int) :
    DoSpec w g top fin (.func (.func 89) #[] #[.pointer (some ⟨bl, 0, none⟩), .pointer (some ⟨br, 0, none⟩), .pointer (some ⟨bf, 0, none⟩), .pointer (some ⟨bx, 0, none⟩), .pointer (some ⟨by_, 0, none⟩)])
      (fun y => lineOf g.w fun x => if left ≤ (x : Int) ∧ (x : Int) < right then (if 0 ≤ (y : Int) - Y ∧ (y : Int) - Y < f.h ∧ 0 ≤ (x : Int) - X ∧ (x : Int) - X < f.w then f.at ((x : Int) - X).toNat ((y : Int) - Y).toNat else Cel.none) else g.at x y) := by
  intro y w1 nb pre post _ _ hy hc1 hnb hb hpre
  have hw1 := hg.w1
  have hh1 := hg.h1
  have k1 := hc1.keep h1 (by simp)
  have k2 := hc1.keep h2 (by simp)
  have k3 := hc1.keep h3 (by simp)
  have k4 := hc1.keep h4 (by simp)
  have k5 := hc1.keep h5 (by simp)
  have n1 := lt_of_heap h1
  have n2 := lt_of_heap h2
  have n3 := lt_of_heap h3
  have n4 := lt_of_heap h4
  have n5 := lt_of_heap h5
  refine YCall.of (us := []) (cs := [_, _, _, _, _]) grid_Blit_1_b ?_
  show Calls _ _ #[.int .i64 y, rowV nb 0 g y, .pointer (some ⟨bl, 0, none⟩), .pointer (some ⟨br, 0, none⟩), .pointer (some ⟨bf, 0, none⟩), .pointer (some ⟨bx, 0, none⟩), .pointer (some ⟨by_, 0, none⟩)] _ _
  obtain ⟨L, rfl⟩ := Int.eq_ofNat_of_zero_le hl
  obtain ⟨F, hF⟩ : ∃ F : Nat → Cel, F = fun x : Nat => (if 0 ≤ (y : Int) - Y ∧ (y : Int) - Y < f.h ∧ 0 ≤ (x : Int) - X ∧ (x : Int) - X < f.w then f.at ((x : Int) - X).toNat ((y : Int) - Y).toNat else Cel.none) := ⟨_, rfl⟩
  have hFr : (fun x : Nat => if (L : Int) ≤ (x : Int) ∧ (x : Int) < right then (if 0 ≤ (y : Int) - Y ∧ (y : Int) - Y < f.h ∧ 0 ≤ (x : Int) - X ∧ (x : Int) - X < f.w then f.at ((x : Int) - X).toNat ((y : Int) - Y).toNat else Cel.none) else g.at x y) = fun x : Nat => if (L : Int) ≤ (x : Int) ∧ (x : Int) < right then F x else g.at x y := by rw [hF]
  dsimp only
  rw [hFr]
  apply grid_Blit_1_link
  intro K hK
  unfold grid_Blit_1
  simp -dsimp (disch := first | omega | (simp only [go_sem, seval]; first | done | omega)) only [go_sem, seval, k1, rowV]
  refine Loop1.st (fun k : Nat => .int .i64 k) (fun k w' => L ≤ k ∧ Chg [nb] w1 w' ∧ w'.heap[nb]? = some (.cells (pre ++ (lineOf g.w fun x => if (L : Int) ≤ (x : Int) ∧ (x : Int) < right ∧ x < k then F x else g.at x y).flatMap Cel.cells ++ post).toArray 44))
    (fun k => g.w - k) L rfl ⟨by omega, Chg.refl _ _, ?_⟩ ?_
  · rw [hb, hg.row_line hy]
    congr 6
    refine lineOf_congr fun i hi => ?_
    rw [if_neg (by omega)]
  · rintro next k w' hn ⟨i1, i2, i3⟩
    have m1 := i2.keep k1 (by simp; omega)
    have m2 := i2.keep k2 (by simp; omega)
    have m3 := i2.keep k3 (by simp; omega)
    have m4 := i2.keep k4 (by simp; omega)
    have m5 := i2.keep k5 (by simp; omega)
    simp -dsimp (disch := first | omega | (simp only [go_sem, seval]; first | done | omega)) only [go_sem, seval, m2]
    refine BrW.dec (fun h5 => ?_) (fun h5 => ?_)
    · have hs' : SxC w' e a f.cs := (hs.chg0 hc1).chg i2 (fun b o ha hl hm => by have := hs.lt hl ha; simp at hm; omega)
      simp -dsimp (disch := first | omega | (simp only [go_sem, seval]; first | done | omega)) only [go_sem, seval, m3, m4, m5]
      refine OpX.call grid_At_b rfl (Calls.ret (gat_c hf hs' cap ((k : Int) - X) ((y : Int) - Y)) ?_)
      rintro v w2 ⟨rfl, hc2⟩
      rw [show (if 0 ≤ (y : Int) - Y ∧ (y : Int) - Y < f.h ∧ 0 ≤ (k : Int) - X ∧ (k : Int) - X < f.w then f.at ((k : Int) - X).toNat ((y : Int) - Y).toNat else Cel.none) = F k by rw [hF]]
      have i3' := hc2.keep i3 (by simp)
      have hp := row_put i3' hpre (i := k) (by omega) (F k) (fun x => if (L : Int) ≤ (x : Int) ∧ (x : Int) < right ∧ x < k + 1 then F x else g.at x y)
        (by rw [if_pos (by omega)]) (fun j hj hne => by
          have : ((L : Int) ≤ (j : Int) ∧ (j : Int) < right ∧ j < k + 1) ↔ ((L : Int) ≤ (j : Int) ∧ (j : Int) < right ∧ j < k) := by omega
          simp only [this])
      simp -dsimp (disch := first | omega | (simp only [go_sem, seval]; first | done | omega)) only [go_sem, seval, rowV, hp]
      refine hn (k + 1) _ ⟨by omega, (i2.trans0 hc2).set _ _ (by simp), ?_⟩ (by omega)
      rw [heap_set_same _ _ _ _ rfl (lt_of_heap i3')]
      simp
    · refine hK _ _ ⟨i2, ?_⟩
      rw [i3]
      congr 6
      refine lineOf_congr fun i hi => ?_
      have : ((L : Int) ≤ (i : Int) ∧ (i : Int) < right ∧ i < k) ↔ ((L : Int) ≤ (i : Int) ∧ (i : Int) < right) := by omega
      simp only [this]

theorem doresize_c {w : World} {g G : Gr} (hg : g.ok) (hG : G.ok) {bg : Nat} {e : Option TypeId} {b o cap : Nat}
    (h5 : w.heap[bg]? = some (.cells #[.int .i64 g.w, .int .i64 g.h, .slice (some ⟨b, o, none⟩) g.cs.length cap] 54)) (hs : SxC w e (some ⟨b, o, none⟩) g.cs) (hcap : g.cs.length ≤ cap) (top fin : Int) (hfin : fin ≤ g.h) :
    DoSpec w G top fin (.func (.func 92) #[] #[.pointer (some ⟨bg, 0, none⟩)])
      (fun y => lineOf G.w fun x => if x < g.w then g.at x y else G.at x y) := by
  intro y w1 nb pre post _ hfy hy hc1 hnb hb hpre
  have hw1 := hg.w1
  have hW1 := hG.w1
  have hw0 := hg.w0
  have hyg : y < g.h := by omega
  have k5 := hc1.keep h5 (by simp)
  refine YCall.of (us := []) (cs := [_]) grid_Resize_1_b ?_
  show Calls _ _ #[.int .i64 y, rowV nb 0 G y, .pointer (some ⟨bg, 0, none⟩)] _ _
  apply grid_Resize_1_link
  intro K hK
  unfold grid_Resize_1
  simp -dsimp (disch := first | omega | (simp only [go_sem, seval]; first | done | omega)) only [go_sem, seval, k5]
  refine OpX.call grid_cut_b rfl (Calls.ret (cut_c (w := w1) hg b o cap hcap y hyg) ?_)
  rintro v w2 ⟨rfl, hc2⟩
  have hb2 := hc2.keep hb (by simp)
  have hs2 : SxC w2 e (some ⟨b, o + y * g.w * 4, none⟩) (g.row y) := Sx.sub ((hs.chg0 hc1).chg0 hc2) Cel.len (y * g.w) g.w _ (.inr (.inr rfl))
  have hrl := hg.row_len hyg
  have hRl := hG.row_len hy
  have hb3 : w2.heap[nb]? = some (.cells (pre ++ ((G.row y).take g.w).flatMap Cel.cells ++ (((G.row y).drop g.w).flatMap Cel.cells ++ post)).toArray 44) := by
    rw [hb2]
    conv => lhs; rw [← List.take_append_drop g.w (G.row y)]
    simp only [List.flatMap_append, List.append_assoc]
  have hs3 : SxC w2 e (some ⟨b, o + y * g.w * 4, none⟩) ((g.row y).take G.w) := by
    have := hs2.sub Cel.len 0 G.w (some ⟨b, o + y * g.w * 4, none⟩) (.inr (.inr (by simp)))
    simpa using this
  refine copy_raw (new := ((g.row y).take G.w).flatMap Cel.cells) ty45sl hb3 (by omega) (by rw [flat_len Cel.len, flat_len Cel.len]; simp; omega) (by rw [flat_len Cel.len]; simp; omega) (okCells_flat Cel.ok _) hs3.cell ?_
  refine hK _ _ ⟨(hc2.mono (by simp)).set _ _ (by simp), ?_⟩
  rw [heap_set_same _ _ _ _ rfl (lt_of_heap hb3)]
  have : (lineOf G.w fun x => if x < g.w then g.at x y else G.at x y) = (g.row y).take G.w ++ (G.row y).drop g.w := by
    refine (lineOf_of (by simp; omega) fun i hi => ?_).symm
    by_cases h4 : i < g.w
    · rw [List.getElem?_append_left (by simp; omega), List.getElem?_take_of_lt hi, hg.row_get h4 hyg, if_pos h4]
    · rw [List.getElem?_append_right (by simp; omega), List.getElem?_drop]
      have : g.w + (i - ((g.row y).take G.w).length) = i := by simp; omega
      rw [this, hG.row_get hi hy, if_neg h4]
  dsimp only
  rw [this]
  simp only [List.flatMap_append, List.append_assoc]
end Go.Proofs.Ytdjdeahmhenchaa
