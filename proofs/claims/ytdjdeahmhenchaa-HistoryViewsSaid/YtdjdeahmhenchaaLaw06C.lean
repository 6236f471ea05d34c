/- The laws of layer 6, walked: GridBeside. -/
import Derived.Test.YtdjdeahmhenchaaLaw06B
import Derived.Test.YtdjdeahmhenchaaLaw06P
set_option linter.unusedSimpArgs false
set_option linter.unusedVariables false
namespace Go.Proofs.Ytdjdeahmhenchaa
open Lyc Go

/-- A grid lies in a variable. -/
def GVar (w : World) (t nb capg : Nat) (sp : List Value) (G : Gr) : Prop :=
  w.heap[t]? = some (.cells #[.int .i64 G.w, .int .i64 G.h, .slice (some ⟨nb, 0, none⟩) G.cs.length capg] 54) ∧ w.heap[nb]? = some (.cells (G.cs.flatMap Cel.cells ++ sp).toArray 44) ∧ G.cs.length ≤ capg
theorem GVar.chg0 {w w' : World} {t nb capg : Nat} {sp : List Value} {G : Gr} (h : GVar w t nb capg sp G) (hc : Chg [] w w') : GVar w' t nb capg sp G := ⟨hc.keep h.1 (by simp), hc.keep h.2.1 (by simp), h.2.2⟩
theorem GVar.sx {w : World} {t nb capg : Nat} {sp : List Value} {G : Gr} (h : GVar w t nb capg sp G) : SxC w (some 44) (some ⟨nb, 0, none⟩) G.cs := ⟨fun _ => ⟨nb, 0, _, _, _, [], sp, rfl, h.2.1, by simp [tagOk], by simp, rfl⟩⟩
theorem GVar.cel {w : World} {t nb capg : Nat} {sp : List Value} {G : Gr} (h : GVar w t nb capg sp G) (hG : G.ok) {x y : Nat} (hx : x < G.w) (hy : y < G.h) :
    aggAt w.heap[nb]? ((y * G.w + x) * 4) 4 = some #[.int .i32 (G.at x y).r, .int .u8 (G.at x y).fg.toNat, .int .u8 (G.at x y).bg.toNat, .int .u8 (G.at x y).a.toNat] := by
  obtain ⟨b, o, hb, _, h1, _⟩ := SxC.cel h.sx (hG.at_some hx hy)
  cases hb
  simpa using h1

theorem beside_c {w : World} {a : Option Addr} {ns : List Int} {e : Option TypeId} (hs : Sx w e intF a ns) (cap : Nat) (W H q0 q1 q2 q3 c : Int) :
    Calls Try.prog 10 #[.agg #[.int .i64 W, .int .i64 H, .slice a ns.length cap], .agg #[.int .i64 q0, .int .i64 q1, .int .i64 q2, .int .i64 q3], .int .i64 c] w (retK fun v w' => v = .bool true ∧ Chg [] w w') := by
  apply lyceumlaw06_GridBeside_link
  intro K hK
  unfold lyceumlaw06_GridBeside
  simp -dsimp (disch := first | omega | (simp only [go_sem, seval]; first | done | omega)) only [go_sem, seval]
  refine OpX.gen fun w0 hw0 => ?_
  have hc0 : Chg [] w w0 := by rw [hw0]; exact chg_a2 _ _ _
  have hn0 : w0.heap[w.heap.size]? = some (.cells #[.int .i64 W, .int .i64 H, .slice a ns.length cap] 62) := by rw [hw0]; simp -dsimp (disch := first | omega | (simp only [go_sem, seval]; first | done | omega)) only [go_sem, seval]
  have hq0 : w0.heap[w.heap.size + 1]? = some (.cells #[.int .i64 q0, .int .i64 q1, .int .i64 q2, .int .i64 q3] 63) := by rw [hw0]; simp -dsimp (disch := first | omega | (simp only [go_sem, seval]; first | done | omega)) only [go_sem, seval]
  clear hw0
  refine OpX.call lyceumlaw06_awake_b rfl (Calls.ret (awake06_c _) ?_)
  rintro v w1 ⟨rfl, hc1⟩
  have hn1 := hc1.keep hn0 (by simp)
  have hq1 := hc1.keep hq0 (by simp)
  simp -dsimp (disch := first | omega | (simp only [go_sem, seval]; first | done | omega)) only [go_sem, seval, hn1]
  refine OpX.call lyceumlaw06_Num_grid_b rfl (Calls.ret (numgrid_c ((hs.chg0 hc0).chg0 hc1) cap W H) ?_)
  rintro v w2 ⟨G, hG, hGr, hGw, hGh, ⟨nb, capg, sp, rfl, g1, g2, g3⟩, hc2⟩
  have hq2 := hc2.keep hq1 (by simp)
  have hw1 := hG.w1
  have hh1 := hG.h1
  have b0 := and_bd q0 31 (by omega) (by omega)
  have b1 := and_bd q1 31 (by omega) (by omega)
  have b2 := and_bd q2 31 (by omega) (by omega)
  have b3 := and_bd q3 31 (by omega) (by omega)
  have hlt2 := lt_of_heap hq2
  have hnl2 := lt_of_heap g3
  simp -dsimp (disch := first | omega | (simp only [go_sem, seval]; first | done | omega)) only [go_sem, seval, Gr.val, hq2]
  obtain ⟨X, hX⟩ : ∃ X, X = bitV .and .i64 q0 31 - 8 := ⟨_, rfl⟩
  obtain ⟨Y, hY⟩ : ∃ Y, Y = bitV .and .i64 q1 31 - 8 := ⟨_, rfl⟩
  obtain ⟨RW, hRW⟩ : ∃ RW, RW = bitV .and .i64 q2 31 - 8 := ⟨_, rfl⟩
  obtain ⟨RH, hRH⟩ : ∃ RH, RH = bitV .and .i64 q3 31 - 8 := ⟨_, rfl⟩
  rw [← hX, ← hY, ← hRW, ← hRH]
  obtain ⟨t8, ht8⟩ : ∃ t8, t8 = w2.heap.size := ⟨_, rfl⟩
  obtain ⟨t9, ht9⟩ : ∃ t9, t9 = t8 + 1 := ⟨_, rfl⟩
  have hc012 := (hc0.trans0 hc1).trans0 hc2
  generalize hw3 : ((w2.alloc (.cells #[.int .i64 G.w, .int .i64 G.h, .slice (some ⟨nb, 0, none⟩) G.cs.length capg] 54)).alloc (.cells #[.int .i64 X, .int .i64 Y, .int .i64 RW, .int .i64 RH] 66)).drew = w3
  have hc3 : Chg [] w w3 := by rw [← hw3]; exact ((hc012.alloc _).alloc _).drew
  have hg3 : GVar w3 t8 nb capg sp G := by
    rw [← hw3, ht8]
    refine ⟨?_, (chg_a2 _ _ _).drew.keep g3 (by simp), g1⟩
    show ((w2.alloc _).alloc _).heap[_]? = _
    simp -dsimp (disch := first | omega | (simp only [go_sem, seval]; first | done | omega)) only [go_sem, seval]
  have hr3 : w3.heap[t9]? = some (.cells #[.int .i64 X, .int .i64 Y, .int .i64 RW, .int .i64 RH] 66) := by
    rw [← hw3, ht9, ht8]
    show ((w2.alloc _).alloc _).heap[_]? = _
    simp -dsimp (disch := first | omega | (simp only [go_sem, seval]; first | done | omega)) only [go_sem, seval]
  have hz3 : w3.heap.size = t8 + 2 := by
    rw [← hw3, ht8]
    show ((w2.alloc _).alloc _).heap.size = _
    simp -dsimp (disch := first | omega | (simp only [go_sem, seval]; first | done | omega)) only [go_sem, seval]
  have ez : (w2.alloc (.cells #[.int .i64 G.w, .int .i64 G.h, .slice (some ⟨nb, 0, none⟩) G.cs.length capg] 54)).heap.size = t9 := by rw [ht9, ht8]; simp -dsimp (disch := first | omega | (simp only [go_sem, seval]; first | done | omega)) only [go_sem, seval]
  rw [ez, ← ht8]
  clear hw3 ez
  have hpu := plain06_usual c
  refine Join1.cut (fun v w' => Chg [] w w' ∧ GVar w' t8 nb capg sp G ∧ w'.heap[t9]? = some (.cells #[.int .i64 X, .int .i64 Y, .int .i64 RW, .int .i64 RH] 66) ∧ ∃ t10 nb' cap' sp', v = .pointer (some ⟨t10, 0, none⟩) ∧ GVar w' t10 nb' cap' sp' (G.fill X Y RW RH (plain06 c))) ?_ ?_
  · simp -dsimp (disch := first | omega | (simp only [go_sem, seval]; first | done | omega)) only [go_sem, seval, hg3.1, hr3]
    refine ⟨?_, ?_⟩
    · refine OpX.call lyceumlaw06_plain_b rfl (Calls.ret (plain06_c _ c) ?_)
      rintro v w4 ⟨rfl, hc4⟩
      have hg4 := hg3.chg0 hc4
      have hr4 := hc4.keep hr3 (by simp)
      simp -dsimp (disch := first | omega | (simp only [go_sem, seval]; first | done | omega)) only [go_sem, seval, hg4.1, hr4]
      refine ⟨?_, ?_⟩
      · refine OpX.call grid_Fill_b rfl (Calls.ret (gfill_c hG hGr hg4.sx capg g1 hpu (by omega) (by omega) (by omega) (by omega)) ?_)
        rintro v w5 ⟨⟨nb', cap', sp', rfl, k1, k2, k3⟩, hc5⟩
        have hg5 := hg4.chg0 hc5
        have hr5 := hc5.keep hr4 (by simp)
        simp -dsimp (disch := first | omega | (simp only [go_sem, seval]; first | done | omega)) only [go_sem, seval, Gr.val]
        have hl5 := lt_of_heap k3
        refine ⟨((hc3.trans0 hc4).trans0 hc5).alloc _, hg5.chg0 (chg_a1 _ _), (chg_a1 _ _).keep hr5 (by simp), w5.heap.size, nb', cap', sp', rfl, ?_, (chg_a1 _ _).keep k3 (by simp), k1⟩
        simp -dsimp (disch := first | omega | (simp only [go_sem, seval]; first | done | omega)) only [go_sem, seval]
      · have hca := chg_a1 w4 (.cells #[.int .i64 0, .int .i64 0, .slice none 0 0] 54)
        have hga := hg4.chg0 hca
        have hra := hca.keep hr4 (by simp)
        have hta : (w4.alloc (.cells #[.int .i64 0, .int .i64 0, .slice none 0 0] 54)).heap[w4.heap.size]? = some (.cells #[.int .i64 0, .int .i64 0, .slice none 0 0] 54) := by simp -dsimp (disch := first | omega | (simp only [go_sem, seval]; first | done | omega)) only [go_sem, seval]
        have hza : (w4.alloc (.cells #[.int .i64 0, .int .i64 0, .slice none 0 0] 54)).heap.size = w4.heap.size + 1 := by simp -dsimp (disch := first | omega | (simp only [go_sem, seval]; first | done | omega)) only [go_sem, seval]
        have hl9 := lt_of_heap hr4
        have hl8 := lt_of_heap hg4.1
        have hln := lt_of_heap hg4.2.1
        simp -dsimp (disch := first | omega | (simp only [go_sem, seval]; first | done | omega)) only [go_sem, seval, hga.1, hra]
        refine OpX.call grid_Fill_b rfl (Calls.ret (gfill_c hG hGr hga.sx capg g1 hpu (by omega) (by omega) (by omega) (by omega)) ?_)
        rintro v w5 ⟨⟨nb', cap', sp', rfl, k1, k2, k3⟩, hc5⟩
        have hg5 := hga.chg0 hc5
        have hr5 := hc5.keep hra (by simp)
        have ht5 := hc5.keep hta (by simp)
        have hlt5 := lt_of_heap ht5
        simp -dsimp (disch := first | omega | (simp only [go_sem, seval]; first | done | omega)) only [go_sem, seval, Gr.val, ht5]
        have hcs : Chg [w4.heap.size] w5 (setBlk w5 w4.heap.size (.cells #[.int .i64 (G.fill X Y RW RH (plain06 c)).w, .int .i64 (G.fill X Y RW RH (plain06 c)).h, .slice (some ⟨nb', 0, none⟩) (G.fill X Y RW RH (plain06 c)).cs.length cap'] 54)) := (Chg.refl _ _).set _ _ (by simp)
        refine ⟨(((hc3.trans0 hc4).trans0 hca).trans0 hc5).set _ _ (.inr (by have := (hc3.trans0 hc4).size; omega)), ⟨hcs.keep hg5.1 (by simp; omega), hcs.keep hg5.2.1 (by simp; omega), g1⟩, hr5, w4.heap.size, nb', cap', sp', rfl, heap_set_same _ _ _ _ rfl hlt5, hcs.keep k3 (by simp; omega), k1⟩
    · have hca := chg_a1 w3 (.cells #[.int .i64 0, .int .i64 0, .slice none 0 0] 54)
      have hga := hg3.chg0 hca
      have hra := hca.keep hr3 (by simp)
      have hta : (w3.alloc (.cells #[.int .i64 0, .int .i64 0, .slice none 0 0] 54)).heap[w3.heap.size]? = some (.cells #[.int .i64 0, .int .i64 0, .slice none 0 0] 54) := by simp -dsimp (disch := first | omega | (simp only [go_sem, seval]; first | done | omega)) only [go_sem, seval]
      have hza : (w3.alloc (.cells #[.int .i64 0, .int .i64 0, .slice none 0 0] 54)).heap.size = w3.heap.size + 1 := by simp -dsimp (disch := first | omega | (simp only [go_sem, seval]; first | done | omega)) only [go_sem, seval]
      have hl9 := lt_of_heap hr3
      have hl8 := lt_of_heap hg3.1
      have hln := lt_of_heap hg3.2.1
      refine OpX.call lyceumlaw06_plain_b rfl (Calls.ret (plain06_c _ c) ?_)
      rintro v w4 ⟨rfl, hc4⟩
      have hg4 := hga.chg0 hc4
      have hr4 := hc4.keep hra (by simp)
      have ht4 := hc4.keep hta (by simp)
      simp -dsimp (disch := first | omega | (simp only [go_sem, seval]; first | done | omega)) only [go_sem, seval, hg4.1, hr4]
      refine OpX.call grid_Fill_b rfl (Calls.ret (gfill_c hG hGr hg4.sx capg g1 hpu (by omega) (by omega) (by omega) (by omega)) ?_)
      rintro v w5 ⟨⟨nb', cap', sp', rfl, k1, k2, k3⟩, hc5⟩
      have hg5 := hg4.chg0 hc5
      have hr5 := hc5.keep hr4 (by simp)
      have ht5 := hc5.keep ht4 (by simp)
      have hlt5 := lt_of_heap ht5
      have hlt4 := lt_of_heap ht4
      simp -dsimp (disch := first | omega | (simp only [go_sem, seval]; first | done | omega)) only [go_sem, seval, Gr.val, ht5]
      have hcs : Chg [w3.heap.size] w5 (setBlk w5 w3.heap.size (.cells #[.int .i64 (G.fill X Y RW RH (plain06 c)).w, .int .i64 (G.fill X Y RW RH (plain06 c)).h, .slice (some ⟨nb', 0, none⟩) (G.fill X Y RW RH (plain06 c)).cs.length cap'] 54)) := (Chg.refl _ _).set _ _ (by simp)
      refine ⟨(((hc3.trans0 hca).trans0 hc4).trans0 hc5).set _ _ (.inr (by have := hc3.size; omega)), ⟨hcs.keep hg5.1 (by simp; omega), hcs.keep hg5.2.1 (by simp; omega), g1⟩, hr5, w3.heap.size, nb', cap', sp', rfl, heap_set_same _ _ _ _ rfl hlt5, hcs.keep k3 (by simp; omega), k1⟩
  · rintro v w4 ⟨hc4, hg4, hr4, t10, nb', cap', sp', rfl, hf4⟩
    have hfl : ∀ y, y < G.h → (spanG Y RH G.h).1 ≤ (y : Int) → (y : Int) < (spanG Y RH G.h).2 → (lineOf G.w fun x => if (spanG X RW G.w).1 ≤ (x : Int) ∧ (x : Int) < (spanG X RW G.w).2 then plain06 c else G.at x y).length = G.w := fun _ _ _ _ => lineOf_len _ _
    have hFok : (G.fill X Y RW RH (plain06 c)).ok := Gr.chg_ok hG hfl
    have hFl : (G.fill X Y RW RH (plain06 c)).cs.length = G.cs.length := Gr.chg_len hG hfl
    have hFat := fun (x y : Nat) (hx : x < G.w) (hy : y < G.h) => fill_at hG hGr (X := X) (Y := Y) (W := RW) (H := RH) hpu hx hy
    have hf4' : w4.heap[t10]? = some (.cells #[.int .i64 G.w, .int .i64 G.h, .slice (some ⟨nb', 0, none⟩) G.cs.length cap'] 54) := by rw [hf4.1, hFl]; rfl
    have hFcel := fun (w' : World) (hc' : Chg [] w4 w') (x y : Nat) (hx : x < G.w) (hy : y < G.h) => (hf4.chg0 hc').cel hFok (show x < (G.fill X Y RW RH (plain06 c)).w from hx) (show y < (G.fill X Y RW RH (plain06 c)).h from hy)
    have eFw : (G.fill X Y RW RH (plain06 c)).w = G.w := rfl
    simp only [eFw] at hFcel
    generalize G.fill X Y RW RH (plain06 c) = F at hFat hFcel
    clear hf4 hFok hFl hfl eFw
    refine Join1.inl ?_
    simp -dsimp (disch := first | omega | (simp only [go_sem, seval]; first | done | omega)) only [go_sem, seval, hg4.1, hf4']
    refine Loop1.st (fun k : Nat => .int .i64 k) (fun k w' => Chg [] w4 w' ∧ k ≤ G.h) (fun k => G.h - k) 0 rfl ⟨Chg.refl _ _, by omega⟩ ?_
    rintro next y w5 hn ⟨hc5, hy⟩
    have hg5 := hg4.chg0 hc5
    simp -dsimp (disch := first | omega | (simp only [go_sem, seval]; first | done | omega)) only [go_sem, seval, hg5.1]
    refine BrW.dec (fun h1 => ?_) (fun h1 => hK _ _ ⟨rfl, hc4.trans0 hc5⟩)
    have hyG : y < G.h := by omega
    refine Loop1.st (fun k : Nat => .int .i64 k) (fun k w' => Chg [] w4 w' ∧ k ≤ G.w) (fun k => G.w - k) 0 rfl ⟨hc5, by omega⟩ ?_
    rintro next2 x w6 hn2 ⟨hc6, hx⟩
    have hg6 := hg4.chg0 hc6
    have hr6 := hc6.keep hr4 (by simp)
    have hf6 := hc6.keep hf4' (by simp)
    have hle := hG.le
    simp -dsimp (disch := first | omega | (simp only [go_sem, seval]; first | done | omega)) only [go_sem, seval, hg6.1]
    refine BrW.dec (fun h2 => ?_) (fun h2 => ?_)
    · have hxG : x < G.w := by omega
      have hat := hG.at_lt hxG hyG
      obtain ⟨fin1, fin2⟩ := hFat x y hxG hyG
      have e1 : (y : Int) * (G.w : Int) = ((y * G.w : Nat) : Int) := by simp
      have e2 : ((y * G.w : Nat) : Int) + (x : Int) = ((y * G.w + x : Nat) : Int) := by simp
      refine Join1.cut (fun v w' => v = .bool (decide (X ≤ x ∧ (x : Int) < X + RW ∧ Y ≤ y ∧ (y : Int) < Y + RH)) ∧ w' = w6) ?_ ?_
      · simp -dsimp (disch := first | omega | (simp only [go_sem, seval]; first | done | omega)) only [go_sem, seval, hr6]
        refine BrW.dec (fun h3 => ?_) (fun h3 => ⟨by simp [h3], rfl⟩)
        simp -dsimp (disch := first | omega | (simp only [go_sem, seval]; first | done | omega)) only [go_sem, seval, hr6]
        refine BrW.dec (fun h4 => ?_) (fun h4 => ⟨by simp [h4], rfl⟩)
        simp -dsimp (disch := first | omega | (simp only [go_sem, seval]; first | done | omega)) only [go_sem, seval, hr6]
        refine BrW.dec (fun h5 => ?_) (fun h5 => ⟨by simp [h5], rfl⟩)
        simp -dsimp (disch := first | omega | (simp only [go_sem, seval]; first | done | omega)) only [go_sem, seval, hr6]
        simp [h3, h4, h5]
      · rintro v w7 ⟨rfl, rfl⟩
        have hca := hg6.cel hG hxG hyG
        have hcb := hFcel _ hc6 x y hxG hyG
        have hlr := lt_of_heap hr6
        have hlf := lt_of_heap hf6
        have hlg := lt_of_heap hg6.2.1
        obtain ⟨_, hlb⟩ : ∃ o, w7.heap[nb']? = some o := by
          cases h : w7.heap[nb']? with
          | none => rw [h] at hcb; simp [aggAt] at hcb
          | some o => exact ⟨o, rfl⟩
        have hlb' := lt_of_heap hlb
        simp -dsimp (disch := first | omega | (simp only [go_sem, seval]; first | done | omega)) only [go_sem, seval, hg6.1, hf6, e1, e2, hca, hcb]
        generalize hw8 : (w7.alloc (.cells #[.int .i32 (G.at x y).r, .int .u8 (G.at x y).fg.toNat, .int .u8 (G.at x y).bg.toNat, .int .u8 (G.at x y).a.toNat] 44)).alloc (.cells #[.int .i32 (F.at x y).r, .int .u8 (F.at x y).fg.toNat, .int .u8 (F.at x y).bg.toNat, .int .u8 (F.at x y).a.toNat] 44) = w8
        have hc8 : Chg [] w7 w8 := by rw [← hw8]; exact chg_a2 _ _ _
        have ha8 : w8.heap[w7.heap.size]? = some (.cells (G.at x y).cells.toArray 44) := by rw [← hw8]; simp -dsimp (disch := first | omega | (simp only [go_sem, seval]; first | done | omega)) only [go_sem, seval]
        have hb8 : w8.heap[w7.heap.size + 1]? = some (.cells (F.at x y).cells.toArray 44) := by rw [← hw8]; simp -dsimp (disch := first | omega | (simp only [go_sem, seval]; first | done | omega)) only [go_sem, seval]
        have hr8 := hc8.keep hr6 (by simp)
        have hz8 : (w7.alloc (.cells #[.int .i32 (G.at x y).r, .int .u8 (G.at x y).fg.toNat, .int .u8 (G.at x y).bg.toNat, .int .u8 (G.at x y).a.toNat] 44)).heap.size = w7.heap.size + 1 := by simp -dsimp (disch := first | omega | (simp only [go_sem, seval]; first | done | omega)) only [go_sem, seval]
        rw [hz8]
        clear hw8 hz8
        generalize G.at x y = ca at *
        generalize F.at x y = cb at *
        refine Join1.cut (fun v w' => v = .bool (decide ((Y ≤ y ∧ (y : Int) < Y + RH) ∧ 64 ≤ ca.a.toNat ∧ ((x : Int) = X - 1 ∨ (x : Int) = X + RW))) ∧ w' = w8) ?_ ?_
        · simp -dsimp (disch := first | omega | (simp only [go_sem, seval]; first | done | omega)) only [go_sem, seval, hr8]
          refine BrW.dec (fun h3 => ?_) (fun h3 => ⟨by simp [h3], rfl⟩)
          simp -dsimp (disch := first | omega | (simp only [go_sem, seval]; first | done | omega)) only [go_sem, seval, hr8]
          refine BrW.dec (fun h4 => ?_) (fun h4 => ⟨by simp [h4], rfl⟩)
          simp -dsimp (disch := first | omega | (simp only [go_sem, seval]; first | done | omega)) only [go_sem, seval, ha8]
          refine BrW.dec (fun h5 => ?_) (fun h5 => ⟨by have h9 : ¬ 64 ≤ ca.a.toNat := by omega
                                                       simp [h9], rfl⟩)
          have h5' : 64 ≤ ca.a.toNat := by omega
          simp -dsimp (disch := first | omega | (simp only [go_sem, seval]; first | done | omega)) only [go_sem, seval, hr8]
          refine BrW.dec (fun h6 => ⟨by simp [h3, h4, h5', h6], rfl⟩) (fun h6 => ?_)
          simp -dsimp (disch := first | omega | (simp only [go_sem, seval]; first | done | omega)) only [go_sem, seval, hr8]
          simp [h3, h4, h5', h6]
        · rintro v w9 ⟨rfl, rfl⟩
          refine Join1.cut (fun v w' => v = .bool false ∧ Chg [] w9 w') ?_ ?_
          · refine BrW.dec (fun h3 => ?_) (fun h3 => ?_)
            · simp -dsimp (disch := first | omega | (simp only [go_sem, seval]; first | done | omega)) only [go_sem, seval, hb8]
              refine OpX.call lyceumlaw06_plain_b rfl (Calls.ret (plain06_c _ c) ?_)
              rintro v w10 ⟨rfl, hc10⟩
              have hb10 := hc10.keep (show w9.drew.heap[w7.heap.size + 1]? = _ from hb8) (by simp)
              have e9 := fin1 h3
              simp -dsimp (disch := first | omega | (simp only [go_sem, seval]; first | done | omega)) only [go_sem, seval, hb10]
              refine BrW.dec (fun h => absurd e9 h) (fun _ => ?_)
              simp -dsimp (disch := first | omega | (simp only [go_sem, seval]; first | done | omega)) only [go_sem, seval]
              refine BrW.by (fun h => absurd h (by simp [h3])) (fun _ => ⟨rfl, hc10.low_drew⟩)
            · simp -dsimp (disch := first | omega | (simp only [go_sem, seval]; first | done | omega)) only [go_sem, seval, ha8, hb8]
              refine BrW.by (fun _ => ?_) (fun h => absurd h (by simp [h3]))
              simp -dsimp (disch := first | omega | (simp only [go_sem, seval]; first | done | omega)) only [go_sem, seval, ha8, hb8]
              refine BrW.dec (fun h => ?_) (fun h => ⟨rfl, (Chg.refl _ _).drew⟩)
              have hhalf := fin2 h3 (Ne.symm h)
              simp -dsimp (disch := first | omega | (simp only [go_sem, seval]; first | done | omega)) only [go_sem, seval]
              exact ⟨by simp [hhalf], (Chg.refl _ _).drew⟩
          · rintro v w10 ⟨rfl, hc10⟩
            simp -dsimp (disch := first | omega | (simp only [go_sem, seval]; first | done | omega)) only [go_sem, seval]
            exact hn2 (x + 1) _ ⟨(hc6.trans0 hc8).trans0 hc10, by omega⟩ (by omega)
    · have : x = G.w := by omega
      simp -dsimp (disch := first | omega | (simp only [go_sem, seval]; first | done | omega)) only [go_sem, seval]
      exact hn (y + 1) _ ⟨hc6, by omega⟩ (by omega)
end Go.Proofs.Ytdjdeahmhenchaa
