/- The laws of layer 6, walked: GridScrolls. -/
import Derived.Test.YtdjdeahmhenchaaLaw06C
set_option linter.unusedSimpArgs false
set_option linter.unusedVariables false
namespace Go.Proofs.Ytdjdeahmhenchaa
open Lyc Go

/-- A grid is laid into a variable. -/
theorem GVar.new {base : Nat} {w : World} {nb capg : Nat} {sp : List Value} {G : Gr} (k1 : G.cs.length ≤ capg) (k2 : base ≤ nb) (k3 : w.heap[nb]? = some (.cells (G.cs.flatMap Cel.cells ++ sp).toArray 44)) :
    GVar (w.alloc (.cells #[.int .i64 G.w, .int .i64 G.h, .slice (some ⟨nb, 0, none⟩) G.cs.length capg] 54)) w.heap.size nb capg sp G :=
  ⟨Lyc.heap_alloc_new _ _ _ rfl, (chg_a1 _ _).keep k3 (by simp), k1⟩

def bar : Cel := ⟨95, 0, 0, 0⟩
theorem bar_usual : bar.usual = true := by decide

theorem bar_val : (Value.agg #[.int .i32 95, .int .u8 0, .int .u8 0, .int .u8 0]) = bar.val := by simp [Cel.val, bar]
theorem bar_val2 : (Value.agg #[.int .i32 bar.r, .int .u8 bar.fg.toNat, .int .u8 bar.bg.toNat, .int .u8 bar.a.toNat]) = bar.val := rfl

theorem scrolls_c {w : World} {a : Option Addr} {ns : List Int} {e : Option TypeId} (hs : Sx w e intF a ns) (cap : Nat) (W H q0 q1 q2 : Int) :
    Calls Try.prog 11 #[.agg #[.int .i64 W, .int .i64 H, .slice a ns.length cap], .agg #[.int .i64 q0, .int .i64 q1, .int .i64 q2]] w (retK fun v w' => v = .bool true ∧ Chg [] w w') := by
  apply lyceumlaw06_GridScrolls_link
  intro K hK
  unfold lyceumlaw06_GridScrolls
  simp -dsimp (disch := first | omega | (simp only [go_sem, seval]; first | done | omega)) only [go_sem, seval]
  refine OpX.gen fun w0 hw0 => ?_
  have hc0 : Chg [] w w0 := by rw [hw0]; exact chg_a2 _ _ _
  have hn0 : w0.heap[w.heap.size]? = some (.cells #[.int .i64 W, .int .i64 H, .slice a ns.length cap] 62) := by rw [hw0]; simp -dsimp (disch := first | omega | (simp only [go_sem, seval]; first | done | omega)) only [go_sem, seval]
  have hq0 : w0.heap[w.heap.size + 1]? = some (.cells #[.int .i64 q0, .int .i64 q1, .int .i64 q2] 70) := by rw [hw0]; simp -dsimp (disch := first | omega | (simp only [go_sem, seval]; first | done | omega)) only [go_sem, seval]
  clear hw0
  refine OpX.call lyceumlaw06_awake_b rfl (Calls.ret (awake06_c _) ?_)
  rintro v w1 ⟨rfl, hc1⟩
  have hn1 := hc1.keep hn0 (by simp)
  have hq1 := hc1.keep hq0 (by simp)
  simp -dsimp (disch := first | omega | (simp only [go_sem, seval]; first | done | omega)) only [go_sem, seval, hn1]
  refine OpX.call lyceumlaw06_Num_grid_b rfl (Calls.ret (numgrid_c ((hs.chg0 hc0).chg0 hc1) cap W H) ?_)
  rintro v w2 ⟨G, hG, hGr, hGw, hGh, ⟨nb, capg, sp, rfl, g1, g2, g3⟩, hc2⟩
  have hq2 := hc2.keep hq1 (by simp)
  have hw1 := hG.w1
  have hh1 := hG.h1
  have b0 := and_bd q0 7 (by omega) (by omega)
  have b1 := and_bd q1 7 (by omega) (by omega)
  have b2 := and_bd q2 7 (by omega) (by omega)
  have hlt2 := lt_of_heap hq2
  have hnl2 := lt_of_heap g3
  simp -dsimp (disch := first | omega | (simp only [go_sem, seval]; first | done | omega)) only [go_sem, seval, Gr.val, hq2]
  obtain ⟨T, hT⟩ : ∃ T, T = bitV .and .i64 q0 7 := ⟨_, rfl⟩
  obtain ⟨E, hE⟩ : ∃ E, E = bitV .and .i64 q1 7 := ⟨_, rfl⟩
  obtain ⟨N, hN⟩ : ∃ N, N = bitV .and .i64 q2 7 := ⟨_, rfl⟩
  rw [← hT] at b0
  rw [← hE] at b1
  rw [← hN] at b2
  rw [← hT, ← hE, ← hN]
  obtain ⟨t6, ht6⟩ : ∃ t6, t6 = w2.heap.size := ⟨_, rfl⟩
  have hc012 := (hc0.trans0 hc1).trans0 hc2
  refine OpX.gen fun w3 hw3 => ?_
  have hc3 : Chg [] w w3 := by rw [hw3]; exact (hc012.alloc _).alloc _
  have hg3 : GVar w3 t6 nb capg sp G := by
    rw [hw3, ht6]
    exact ⟨(by simp -dsimp (disch := first | omega | (simp only [go_sem, seval]; first | done | omega)) only [go_sem, seval]), (chg_a2 _ _ _).keep g3 (by simp), g1⟩
  have hk3 : w3.heap[t6 + 1]? = some (.cells bar.cells.toArray 44) := by rw [hw3, ht6]; simp -dsimp (disch := first | omega | (simp only [go_sem, seval]; first | done | omega)) only [go_sem, seval]; rfl
  have hz3 : w3.heap.size = t6 + 2 := by rw [hw3, ht6]; simp -dsimp (disch := first | omega | (simp only [go_sem, seval]; first | done | omega)) only [go_sem, seval]
  have ez : (w2.alloc (.cells #[.int .i64 G.w, .int .i64 G.h, .slice (some ⟨nb, 0, none⟩) G.cs.length capg] 54)).heap.size = t6 + 1 := by rw [ht6]; simp -dsimp (disch := first | omega | (simp only [go_sem, seval]; first | done | omega)) only [go_sem, seval]
  rw [ez, ← ht6]
  clear hw3 ez
  rw [bar_val]
  refine OpX.call grid_Scroll_b rfl (Calls.ret (gscroll_c (T := T) (E := E) (N := N) hG hGr hg3.sx capg g1 bar_usual) ?_)
  rintro v w4 ⟨⟨nb4, cap4, sp4, rfl, k1, k2, k3⟩, hc4⟩
  have hG1 := scroll_ok (T := T) (E := E) (N := N) (c := bar) hG
  have hG1r := scroll_right (T := T) (E := E) (N := N) (c := bar) hG hGr
  have hsc := fun (x y : Nat) (hx : x < G.w) (hy : y < G.h) => scrolled hG hGr (T := T) (E := E) (k := N) b0.1 b1.1 b2.1 bar_usual hx hy
  have hl1 : (G.scroll T E N bar).cs.length = G.cs.length := scroll_len hG
  have hl2 : ((G.scroll T E N bar).scroll T E (-N) bar).cs.length = G.cs.length := (scroll_len hG1).trans hl1
  have hG2 := scroll_ok (T := T) (E := E) (N := -N) (c := bar) hG1
  have hg4 := hg3.chg0 hc4
  have hk4 := hc4.keep hk3 (by simp)
  have hlt6 := lt_of_heap hg4.1
  have hltk := lt_of_heap hk4
  have hln4 := lt_of_heap k3
  simp -dsimp (disch := first | omega | (simp only [go_sem, seval]; first | done | omega)) only [go_sem, seval, Gr.val, hk4]
  obtain ⟨t11, ht11⟩ : ∃ t11, t11 = w4.heap.size := ⟨_, rfl⟩
  refine OpX.gen fun w5 hw5 => ?_
  have hc5 : Chg [] w4 w5 := by rw [hw5]; exact chg_a1 _ _
  have hg5 := hg4.chg0 hc5
  have hk5 := hc5.keep hk4 (by simp)
  have hu5 : GVar w5 t11 nb4 cap4 sp4 (G.scroll T E N bar) := by rw [hw5, ht11]; exact GVar.new k1 k2 k3
  have hz5 : w5.heap.size = t11 + 1 := by rw [hw5, ht11]; simp -dsimp (disch := first | omega | (simp only [go_sem, seval]; first | done | omega)) only [go_sem, seval]
  rw [← ht11]
  clear hw5
  refine OpX.call grid_Scroll_b rfl (Calls.ret (gscroll_c (T := T) (E := E) (N := -N) hG1 hG1r hu5.sx cap4 k1 bar_usual) ?_)
  rintro v w6 ⟨⟨nb6, cap6, sp6, rfl, m1, m2, m3⟩, hc6⟩
  have hg6 := hg5.chg0 hc6
  have hk6 := hc6.keep hk5 (by simp)
  have hu6 := hu5.chg0 hc6
  simp -dsimp (disch := first | omega | (simp only [go_sem, seval]; first | done | omega)) only [go_sem, seval, Gr.val]
  obtain ⟨t12, ht12⟩ : ∃ t12, t12 = w6.heap.size := ⟨_, rfl⟩
  have hv7 := GVar.new m1 m2 m3
  have hc7 := chg_a1 w6 (.cells #[.int .i64 ((G.scroll T E N bar).scroll T E (-N) bar).w, .int .i64 ((G.scroll T E N bar).scroll T E (-N) bar).h, .slice (some ⟨nb6, 0, none⟩) ((G.scroll T E N bar).scroll T E (-N) bar).cs.length cap6] 54)
  rw [← ht12] at hv7 ⊢
  generalize w6.alloc (.cells #[.int .i64 ((G.scroll T E N bar).scroll T E (-N) bar).w, .int .i64 ((G.scroll T E N bar).scroll T E (-N) bar).h, .slice (some ⟨nb6, 0, none⟩) ((G.scroll T E N bar).scroll T E (-N) bar).cs.length cap6] 54) = w7 at hv7 hc7 ⊢
  have hg7 := hg6.chg0 hc7
  have hk7 := hc7.keep hk6 (by simp)
  have hu7 := hu6.chg0 hc7
  have hc07 : Chg [] w w7 := (((hc3.trans0 hc4).trans0 hc5).trans0 hc6).trans0 hc7
  have hu7' : w7.heap[t11]? = some (.cells #[.int .i64 G.w, .int .i64 G.h, .slice (some ⟨nb4, 0, none⟩) G.cs.length cap4] 54) := by rw [hu7.1, hl1]; rfl
  have hv7' : w7.heap[t12]? = some (.cells #[.int .i64 G.w, .int .i64 G.h, .slice (some ⟨nb6, 0, none⟩) G.cs.length cap6] 54) := by rw [hv7.1, hl2]; rfl
  have hucel := fun (w' : World) (hc' : Chg [] w7 w') (x y : Nat) (hx : x < G.w) (hy : y < G.h) => (hu7.chg0 hc').cel hG1 (show x < (G.scroll T E N bar).w from hx) (show y < (G.scroll T E N bar).h from hy)
  have hvcel := fun (w' : World) (hc' : Chg [] w7 w') (x y : Nat) (hx : x < G.w) (hy : y < G.h) => (hv7.chg0 hc').cel hG2 (show x < ((G.scroll T E N bar).scroll T E (-N) bar).w from hx) (show y < ((G.scroll T E N bar).scroll T E (-N) bar).h from hy)
  have eU : (G.scroll T E N bar).w = G.w := rfl
  have eV : ((G.scroll T E N bar).scroll T E (-N) bar).w = G.w := rfl
  simp only [eU] at hucel
  simp only [eV] at hvcel
  clear hu7 hv7 hu6 hu5 hl1 hl2 hG1 hG1r hG2 k1 k3 m1 m3 eU eV
  generalize (G.scroll T E N bar).scroll T E (-N) bar = V at *
  generalize G.scroll T E N bar = U at *
  refine Join1.inl ?_
  simp -dsimp (disch := first | omega | (simp only [go_sem, seval]; first | done | omega)) only [go_sem, seval, hg7.1, hu7', hv7']
  have hle := hG.le
  refine Loop1.st (fun k : Nat => .int .i64 k) (fun k w' => Chg [] w7 w' ∧ k ≤ G.h) (fun k => G.h - k) 0 rfl ⟨Chg.refl _ _, by omega⟩ ?_
  rintro next y w8 hn ⟨hc8, hy⟩
  have hg8 := hg7.chg0 hc8
  simp -dsimp (disch := first | omega | (simp only [go_sem, seval]; first | done | omega)) only [go_sem, seval, hg8.1]
  refine BrW.dec (fun h1 => ?_) (fun h1 => hK _ _ ⟨rfl, hc07.trans0 hc8⟩)
  have hyG : y < G.h := by omega
  refine Join1.cut (fun v w' => v = .bool (decide (T ≤ (y : Int) ∧ (y : Int) < min E G.h)) ∧ w' = w8) ?_ ?_
  · simp -dsimp (disch := first | omega | (simp only [go_sem, seval]; first | done | omega)) only [go_sem, seval]
    refine BrW.dec (fun h3 => ?_) (fun h3 => ⟨by simp [h3], rfl⟩)
    simp -dsimp (disch := first | omega | (simp only [go_sem, seval]; first | done | omega)) only [go_sem, seval]
    simp [h3]
  rintro v w9 ⟨rfl, rfl⟩
  refine Join1.cut (fun v w' => v = .bool (decide ((T ≤ (y : Int) ∧ (y : Int) < min E G.h) ∧ (y : Int) < T + N)) ∧ w' = w9) ?_ ?_
  · refine BrW.dec (fun h3 => ?_) (fun h3 => ⟨by rw [decide_eq_false (fun h => h3 h.1)], rfl⟩)
    simp -dsimp (disch := first | omega | (simp only [go_sem, seval]; first | done | omega)) only [go_sem, seval]
    simp [h3]
  rintro v w10 ⟨rfl, rfl⟩
  refine Loop1.st (fun k : Nat => .int .i64 k) (fun k w' => Chg [] w7 w' ∧ k ≤ G.w) (fun k => G.w - k) 0 rfl ⟨hc8, by omega⟩ ?_
  rintro next2 x w11 hn2 ⟨hc11, hx⟩
  have hg11 := hg7.chg0 hc11
  simp -dsimp (disch := first | omega | (simp only [go_sem, seval]; first | done | omega)) only [go_sem, seval, hg11.1]
  refine BrW.dec (fun h2 => ?_) (fun h2 => ?_)
  · have hxG : x < G.w := by omega
    have hat := hG.at_lt hxG hyG
    obtain ⟨f1, f2, f3⟩ := hsc x y hxG hyG
    have e1 : (y : Int) * (G.w : Int) = ((y * G.w : Nat) : Int) := by simp
    have e2 : ((y * G.w : Nat) : Int) + (x : Int) = ((y * G.w + x : Nat) : Int) := by simp
    have hca := hg11.cel hG hxG hyG
    simp -dsimp (disch := first | omega | (simp only [go_sem, seval]; first | done | omega)) only [go_sem, seval, hg11.1, e1, e2, hca]
    generalize hw12 : w11.alloc (.cells #[.int .i32 (G.at x y).r, .int .u8 (G.at x y).fg.toNat, .int .u8 (G.at x y).bg.toNat, .int .u8 (G.at x y).a.toNat] 44) = w12
    have hc12 : Chg [] w11 w12 := by rw [← hw12]; exact chg_a1 _ _
    have ha12 : w12.heap[w11.heap.size]? = some (.cells (G.at x y).cells.toArray 44) := by rw [← hw12]; simp -dsimp (disch := first | omega | (simp only [go_sem, seval]; first | done | omega)) only [go_sem, seval]
    have hk12 := (hc11.trans0 hc12).keep hk7 (by simp)
    clear hw12
    refine Join0.cut (fun w' => Chg [] w7 w' ∧ w'.heap[w11.heap.size]? = some (.cells (if (T ≤ (y : Int) ∧ (y : Int) < min E G.h) ∧ (y : Int) < T + N then bar else G.at x y).cells.toArray 44)) ?_ ?_
    · refine BrW.dec (fun h3 => ?_) (fun h3 => ?_)
      · simp -dsimp (disch := first | omega | (simp only [go_sem, seval]; first | done | omega)) only [go_sem, seval, hk12, ha12]
        have hl12 := lt_of_heap ha12
        refine ⟨(hc11.trans0 hc12).set _ _ (.inr (by have := hc11.size; omega)), ?_⟩
        rw [if_pos h3]
        exact heap_set_same _ _ _ _ rfl hl12
      · rw [if_neg h3]
        exact ⟨hc11.trans0 hc12, ha12⟩
    · rintro w13 ⟨hc13, hb13⟩
      rw [← f1] at hb13
      have hg13 := hg7.chg0 hc13
      have hk13 := hc13.keep hk7 (by simp)
      have hu13 := hc13.keep hu7' (by simp)
      have hv13 := hc13.keep hv7' (by simp)
      have hcu := hucel _ hc13 x y hxG hyG
      have hcv := hvcel _ hc13 x y hxG hyG
      simp -dsimp (disch := first | omega | (simp only [go_sem, seval]; first | done | omega)) only [go_sem, seval, hg13.1, hv13, e1, e2, hcv, hb13]
      refine Join1.cut (fun v w' => v = .bool false ∧ Chg [] w13 w') ?_ ?_
      · refine BrW.dec (fun h3 => ?_) (fun h3 => ?_)
        · simp -dsimp (disch := first | omega | (simp only [go_sem, seval]; first | done | omega)) only [go_sem, seval]
          refine BrW.dec (fun h4 => ?_) (fun h4 => ?_)
          · obtain ⟨z, hz⟩ := Int.eq_ofNat_of_zero_le (show 0 ≤ (y : Int) + N by omega)
            have hzG : z < G.h := by omega
            have hcz := hg13.cel hG hxG hzG
            have hatz := hG.at_lt hxG hzG
            have e3 : (z : Int) * (G.w : Int) = ((z * G.w : Nat) : Int) := by simp
            have e4 : ((z * G.w : Nat) : Int) + (x : Int) = ((z * G.w + x : Nat) : Int) := by simp
            have hU := f2 h3 h4
            rw [hz, Int.toNat_natCast] at hU
            rw [hU] at hcu
            simp -dsimp (disch := first | omega | (simp only [go_sem, seval]; first | done | omega)) only [go_sem, seval, hg13.1, hu13, e1, e2, hcu, hz, e3, e4, hcz]
            refine BrW.dec (fun _ => ?_) (fun h => absurd h3 h)
            simp -dsimp (disch := first | omega | (simp only [go_sem, seval]; first | done | omega)) only [go_sem, seval, hz]
            refine BrW.dec (fun h => by omega) (fun _ => ⟨rfl, (Chg.refl _ _).drew.drew⟩)
          · have hU := f3 h3 (by omega)
            rw [hU] at hcu
            refine BrW.dec (fun _ => ?_) (fun h => absurd h3 h)
            simp -dsimp (disch := first | omega | (simp only [go_sem, seval]; first | done | omega)) only [go_sem, seval]
            refine BrW.dec (fun _ => ?_) (fun h => by omega)
            simp -dsimp (disch := first | omega | (simp only [go_sem, seval]; first | done | omega)) only [go_sem, seval, hg13.1, hu13, e1, e2, hcu, hk13]
            exact (Chg.refl _ _).drew.drew
        · refine BrW.dec (fun h => absurd h h3) (fun _ => ⟨rfl, (Chg.refl _ _).drew.drew⟩)
      · rintro v w14 ⟨rfl, hc14⟩
        simp -dsimp (disch := first | omega | (simp only [go_sem, seval]; first | done | omega)) only [go_sem, seval]
        exact hn2 (x + 1) _ ⟨hc13.trans0 hc14, by omega⟩ (by omega)
  · have : x = G.w := by omega
    simp -dsimp (disch := first | omega | (simp only [go_sem, seval]; first | done | omega)) only [go_sem, seval]
    exact hn (y + 1) _ ⟨hc11, by omega⟩ (by omega)
end Go.Proofs.Ytdjdeahmhenchaa
