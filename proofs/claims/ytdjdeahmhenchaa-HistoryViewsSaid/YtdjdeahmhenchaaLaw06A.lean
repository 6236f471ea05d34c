/- The laws of layer 6, walked: cells by numbers, grids by numbers. -/
import Derived.Test.YtdjdeahmhenchaaRef6
import Derived.Test.YtdjdeahmhenchaaText
import Derived.Test.YtdjdeahmhenchaaArgs
set_option linter.unusedSimpArgs false
set_option linter.unusedVariables false
namespace Go.Proofs.Ytdjdeahmhenchaa
open Lyc Go

def chars06 : List Int := [32, 32, 97, 98, 19968, 19969, 99, 32, 8364, 128512, 120, 97, 100, 32, 12354, 35]
def ch06 (n : Int) : Int := chars06.getD (bitV .and .i64 n 15).toNat 0
def pen06 (n : Int) : Cel := ⟨0, BitVec.ofInt 8 (bitV .and .i64 (n.fdiv (2 ^ min 4 64)) 3), 0, BitVec.ofInt 8 (bitV .and .i64 (n.fdiv (2 ^ min 6 64)) 1)⟩
def cell06 (n : Int) : List Cel := mkCel (ch06 n) (pen06 n)
theorem ch06_get (n : Int) : (chars06.map (Value.int .i32))[(bitV .and .i64 n 15).toNat]? = some (.int .i32 (ch06 n)) := by
  have h := and_bd n 15 (by omega) (by omega)
  unfold ch06
  generalize bitV .and .i64 n 15 = x at h
  have : x.toNat < chars06.length := by show x.toNat < 16; omega
  rw [List.getElem?_map, List.getD_eq_getElem?_getD, List.getElem?_eq_getElem this]
  rfl
theorem ch06_bd (n : Int) : -2147483648 ≤ ch06 n ∧ ch06 n ≤ 2147483647 := by
  have h : ∀ i, i < 16 → -2147483648 ≤ chars06.getD i 0 ∧ chars06.getD i 0 ≤ 2147483647 := by decide
  have h2 := and_bd n 15 (by omega) (by omega)
  exact h _ (by omega)
theorem cell06_len (n : Int) : (cell06 n).length ≤ 2 := by
  unfold cell06 mkCel
  split
  · simp
  · split <;> simp
theorem mkCel_fits {r : Int} {p : Cel} (h1 : -2147483648 ≤ r) (h2 : r ≤ 2147483647) : ∀ c ∈ mkCel r p, c.fits := by
  intro c hc
  unfold mkCel at hc
  unfold Cel.fits
  split at hc
  · simp at hc; subst hc; exact ⟨h1, h2⟩
  · split at hc
    · simp at hc
      rcases hc with rfl | rfl
      · exact ⟨h1, h2⟩
      · simp
    · simp at hc
def cells06 (l : List Int) : List Cel := (l.take 80).flatMap cell06
theorem cells06_fits (l : List Int) : ∀ c ∈ cells06 l, c.fits := by
  intro c hc
  unfold cells06 at hc
  rw [List.mem_flatMap] at hc
  obtain ⟨n, -, hn⟩ := hc
  exact mkCel_fits (ch06_bd n).1 (ch06_bd n).2 c hn
theorem cells06_len (l : List Int) : (cells06 l).length ≤ 160 := by
  have : ∀ k : List Int, (k.flatMap cell06).length ≤ 2 * k.length := by
    intro k
    induction k with
    | nil => simp
    | cons x k ih => have := cell06_len x; simp only [List.flatMap_cons, List.length_append, List.length_cons]; omega
  have h := this (l.take 80)
  have : (l.take 80).length ≤ 80 := by simp; omega
  unfold cells06; omega
theorem ofInt8 (x : Int) (h0 : 0 ≤ x) (h1 : x ≤ 255) : ((BitVec.ofInt 8 x).toNat : Int) = x := by
  rw [BitVec.toNat_ofInt]; omega

theorem cells06_c {w : World} {e : Option TypeId} {a : Option Addr} {l : List Int} (hs : Sx w e intF a l) (cap : Nat) : Calls Try.prog 80 #[.slice a l.length cap] w (retK fun v w' => Ox w.heap.size w' 44 4 Cel.cells v (cells06 l) ∧ Chg [] w w') := by
  apply lyceumlaw06_cells_link
  intro K hK
  unfold lyceumlaw06_cells
  refine OpX.build (c := (chars06.map (Value.int .i32)).toArray) (by kernel_rfl) ?_
  refine OpX.fresh ty135z (by kernel_rfl) (by kernel_rfl) (by kernel_rfl) ?_
  generalize hw0 : w.alloc _ = w0
  have hc0 : Chg [] w w0 := by rw [← hw0]; exact (Chg.refl _ _).alloc _
  have hh0 : w0.heap[w.heap.size]? = some (.cells (chars06.map (Value.int .i32)).toArray 135) := by rw [← hw0]; exact Lyc.heap_alloc_new _ _ _ rfl
  refine Loop2.st (fun s : Nat × Value => s.2) (fun s : Nat × Value => .int .i64 s.1) (fun s w' => s.1 ≤ l.length ∧ s.1 ≤ 80 ∧ Ox (w.heap.size + 1) w' 44 4 Cel.cells s.2 ((l.take s.1).flatMap cell06) ∧ Chg [] w w' ∧ w'.heap[w.heap.size]? = some (.cells (chars06.map (Value.int .i32)).toArray 135)) (fun s => l.length - s.1) (0, .slice none 0 0) rfl rfl ⟨by simp, by simp, Ox.nil _ _ _ _ _, hc0, hh0⟩ ?_
  rintro next ⟨k, v⟩ w' hn ⟨hk, hk10, ho, hc, hh⟩
  dsimp only at hk hk10 ho ⊢
  have hlt := lt_of_heap hh
  refine Join1.inl ?_
  simp -dsimp (disch := first | omega | (simp only [go_sem, seval]; first | done | omega)) only [go_sem, seval]
  refine BrW.dec (fun h1 => ?_) (fun h1 => ?_)
  · simp -dsimp (disch := first | omega | (simp only [go_sem, seval]; first | done | omega)) only [go_sem, seval]
    refine BrW.dec (fun h2 => ?_) (fun h2 => ?_)
    · have hk' : k < l.length := by omega
      obtain ⟨b, o, rfl, hb, hcell⟩ := (hs.chg0 hc).get1 (g := fun n => .int .i64 n) (fun _ => rfl) (List.getElem?_eq_getElem hk')
      have hi := and_bd l[k] 15 (by omega) (by omega)
      have hi2 := and_bd (l[k].fdiv (2 ^ min 4 64)) 3 (by omega) (by omega)
      have hi3 := and_bd (l[k].fdiv (2 ^ min 6 64)) 1 (by omega) (by omega)
      have hch := ch06_get l[k]
      have hbd := ch06_bd l[k]
      have hlen : ((l.take k).flatMap cell06).length ≤ 160 := by
        have := cells06_len (l.take k)
        simpa [cells06, List.take_take, Nat.min_eq_right (show k ≤ 80 from hk10)] using this
      simp -dsimp (disch := first | omega | (simp only [go_sem, seval]; first | done | omega)) only [go_sem, seval, hcell, hh, hch]
      have hpv : (Value.agg #[.int .i32 0, .int .u8 (bitV .and .i64 (l[k].fdiv (2 ^ min 4 64)) 3), .int .u8 0, .int .u8 (bitV .and .i64 (l[k].fdiv (2 ^ min 6 64)) 1)]) = (pen06 l[k]).val := by
        simp only [Cel.val, pen06]
        rw [ofInt8 _ hi2.1 (by omega), ofInt8 _ hi3.1 (by omega)]
        rfl
      rw [hpv]
      refine OpX.call lyceumref05_Make_b rfl (Calls.ret (rmake_c _ (ch06 l[k]) (pen06 l[k]) hbd.1 hbd.2) ?_)
      rintro v1 w1 ⟨ho1, hc1⟩
      obtain ⟨a1, cap1, rfl, -, hs1, -⟩ := ho1.form
      refine app_x (l2 := mkCel (ch06 l[k]) (pen06 l[k])) ty45ap Cel.len Cel.ok (ho.chg0 hc1) hs1 rfl ?_ (by omega) ?_ ?_
      · have := cell06_len l[k]; unfold cell06 at this; omega
      · have := hc1.size; have := hc.size; omega
      · intro v' w2 ho2 hc2 hat
        have hlow : ∀ x ∈ v.ownBlock.toList, w.heap.size + 1 ≤ x := fun x hx => (ho.lt x (by cases hv : v.ownBlock <;> simp_all)).1
        simp -dsimp (disch := first | omega | (simp only [go_sem, seval]; first | done | omega)) only [go_sem, seval]
        refine hn (k + 1, v') _ ⟨by dsimp only; omega, by dsimp only; omega, ?_, own_chg' (ho.chg0 hc1) (by omega) (hc.trans0 hc1) hc2, ?_⟩ (by dsimp only; omega)
        · dsimp only
          rw [take_next hk', List.flatMap_append, List.flatMap_cons, List.flatMap_nil, List.append_nil]
          exact ho2
        · exact hc2.keep (hc1.keep hh (by simp)) fun hm => by have := hlow _ hm; omega
    · refine hK _ _ ⟨?_, hc⟩
      have : k = 80 := by omega
      subst this
      exact ho.base_le (by omega)
  · simp -dsimp (disch := first | omega | (simp only [go_sem, seval]; first | done | omega)) only [go_sem, seval]
    have : k = l.length := by omega
    subst this
    refine hK _ _ ⟨?_, hc⟩
    have := ho.base_le (base' := w.heap.size) (by omega)
    unfold cells06
    rwa [List.take_of_length_le (by omega)] at this ⊢

/-- A rest, brought into a range. -/
def rest (n m : Int) : Int := (n.tmod m + m).tmod m
theorem rest_bd (n m : Int) (h : 0 < m) : 0 ≤ rest n m ∧ rest n m < m := by
  have h1 := Int.lt_tmod_of_pos n h
  exact ⟨Int.tmod_nonneg _ (by omega), Int.tmod_lt_of_pos _ h⟩
def numW (n : Int) : Nat := (1 + rest n 12).toNat
def numH (n : Int) : Nat := (1 + rest n 6).toNat

theorem numgrid_c {w : World} {e : Option TypeId} {a : Option Addr} {ns : List Int} (hs : Sx w e intF a ns) (cap : Nat) (W H : Int) : Calls Try.prog 44 #[.agg #[.int .i64 W, .int .i64 H, .slice a ns.length cap]] w
    (retK fun v w' => ∃ G : Gr, G.ok ∧ G.right = true ∧ G.w = numW W ∧ G.h = numH H ∧ GAt w.heap.size w' v G ∧ Chg [] w w') := by
  have hw := rest_bd W 12 (by omega)
  have hh := rest_bd H 6 (by omega)
  have hwt := tmod_bd W 12 (by omega)
  have hht := tmod_bd H 6 (by omega)
  have ew : 1 + (W.tmod 12 + 12).tmod 12 = ((numW W : Nat) : Int) := by show 1 + rest W 12 = _; unfold numW; omega
  have eh : 1 + (H.tmod 6 + 6).tmod 6 = ((numH H : Nat) : Int) := by show 1 + rest H 6 = _; unfold numH; omega
  have hw2 : 0 < numW W ∧ numW W ≤ 12 := by unfold numW; omega
  have hh2 : 0 < numH H ∧ numH H ≤ 6 := by unfold numH; omega
  have hw' : 0 ≤ (W.tmod 12 + 12).tmod 12 ∧ (W.tmod 12 + 12).tmod 12 < 12 := hw
  have hh' : 0 ≤ (H.tmod 6 + 6).tmod 6 ∧ (H.tmod 6 + 6).tmod 6 < 6 := hh
  apply lyceumlaw06_Num_grid_link
  intro K hK
  unfold lyceumlaw06_Num_grid
  simp -dsimp (disch := first | omega | (simp only [go_sem, seval]; first | done | omega)) only [go_sem, seval, ew, eh]
  have hc0 := chg_a2 w (.cells #[.int .i64 W, .int .i64 H, .slice a ns.length cap] 62) (.cells #[.int .i64 0, .int .i64 0, .slice none 0 0] 54)
  have hn0 : ((w.alloc (.cells #[.int .i64 W, .int .i64 H, .slice a ns.length cap] 62)).alloc (.cells #[.int .i64 0, .int .i64 0, .slice none 0 0] 54)).heap[w.heap.size]? = some (.cells #[.int .i64 W, .int .i64 H, .slice a ns.length cap] 62) := by simp -dsimp (disch := first | omega | (simp only [go_sem, seval]; first | done | omega)) only [go_sem, seval]
  have ho0 : ((w.alloc (.cells #[.int .i64 W, .int .i64 H, .slice a ns.length cap] 62)).alloc (.cells #[.int .i64 0, .int .i64 0, .slice none 0 0] 54)).heap[w.heap.size + 1]? = some (.cells #[.int .i64 0, .int .i64 0, .slice none 0 0] 54) := by simp -dsimp (disch := first | omega | (simp only [go_sem, seval]; first | done | omega)) only [go_sem, seval]
  generalize ((w.alloc (.cells #[.int .i64 W, .int .i64 H, .slice a ns.length cap] 62)).alloc (.cells #[.int .i64 0, .int .i64 0, .slice none 0 0] 54)) = w0 at hc0 hn0 ho0 ⊢
  refine OpX.call lyceumref06_New_b rfl (Calls.ret (rnew_c _ (numW W) (numH H) hw2.1 (by omega) hh2.1 (by omega)) ?_)
  rintro v w1 ⟨⟨nb, capg, sp, rfl, g1, g2, g3⟩, hc1⟩
  have hc01 := hc0.trans0 hc1
  have hn1 := hc1.keep hn0 (by simp)
  have ho1 := hc1.keep ho0 (by simp)
  have hlo := lt_of_heap ho0
  have hlo1 := lt_of_heap ho1
  have hnb1 := lt_of_heap g3
  simp -dsimp (disch := first | omega | (simp only [go_sem, seval]; first | done | omega)) only [go_sem, seval, Gr.val, hn1]
  obtain ⟨t3, ht3⟩ : ∃ t3, t3 = w1.heap.size := ⟨_, rfl⟩
  rw [← ht3]
  have hc2 : Chg [] w (w1.alloc (.cells #[.int .i64 (Gr.plain (numW W) (numH H) Cel.blank).w, .int .i64 (Gr.plain (numW W) (numH H) Cel.blank).h, .slice (some ⟨nb, 0, none⟩) (Gr.plain (numW W) (numH H) Cel.blank).cs.length capg] 54)) := hc01.alloc _
  have hb2 : (w1.alloc (.cells #[.int .i64 (Gr.plain (numW W) (numH H) Cel.blank).w, .int .i64 (Gr.plain (numW W) (numH H) Cel.blank).h, .slice (some ⟨nb, 0, none⟩) (Gr.plain (numW W) (numH H) Cel.blank).cs.length capg] 54)).heap[t3]? = some (.cells #[.int .i64 (Gr.plain (numW W) (numH H) Cel.blank).w, .int .i64 (Gr.plain (numW W) (numH H) Cel.blank).h, .slice (some ⟨nb, 0, none⟩) (Gr.plain (numW W) (numH H) Cel.blank).cs.length capg] 54) := by rw [ht3]; simp -dsimp (disch := first | omega | (simp only [go_sem, seval]; first | done | omega)) only [go_sem, seval]
  have hg2 := (chg_a1 w1 (.cells #[.int .i64 (Gr.plain (numW W) (numH H) Cel.blank).w, .int .i64 (Gr.plain (numW W) (numH H) Cel.blank).h, .slice (some ⟨nb, 0, none⟩) (Gr.plain (numW W) (numH H) Cel.blank).cs.length capg] 54)).keep g3 (by simp)
  have ho2 := (chg_a1 w1 (.cells #[.int .i64 (Gr.plain (numW W) (numH H) Cel.blank).w, .int .i64 (Gr.plain (numW W) (numH H) Cel.blank).h, .slice (some ⟨nb, 0, none⟩) (Gr.plain (numW W) (numH H) Cel.blank).cs.length capg] 54)).keep ho1 (by simp)
  have hP := Gr.plain_ok hw2.1 (show numW W ≤ 200 by omega) hh2.1 (show numH H ≤ 60 by omega) Cel.blank
  have hPr := Gr.plain_right (w := numW W) (h := numH H) blank_single
  generalize w1.alloc (.cells #[.int .i64 (Gr.plain (numW W) (numH H) Cel.blank).w, .int .i64 (Gr.plain (numW W) (numH H) Cel.blank).h, .slice (some ⟨nb, 0, none⟩) (Gr.plain (numW W) (numH H) Cel.blank).cs.length capg] 54) = w2 at hc2 hb2 hg2 ho2 ⊢
  refine OpX.call lyceumlaw06_cells_b rfl (Calls.ret (cells06_c (hs.chg0 hc2) cap) ?_)
  rintro v w3 ⟨hox3, hc3⟩
  obtain ⟨a3, cap3, rfl, hcap3, hs3, -, hform3⟩ := hox3.form
  have hlen3 := cells06_len ns
  have hfit3 := cells06_fits ns
  refine Loop2.st (fun s : Option Addr × List Cel × Nat × Nat => .slice s.1 s.2.1.length s.2.2.1) (fun s => .int .i64 s.2.2.2)
    (fun s w' => Chg [] w w' ∧ w'.heap[w.heap.size + 1]? = some (.cells #[.int .i64 0, .int .i64 0, .slice none 0 0] 54) ∧ SxC w' (some 44) s.1 s.2.1 ∧ s.2.1.length ≤ s.2.2.1 ∧ s.2.1.length ≤ 160 ∧ (∀ c ∈ s.2.1, c.fits) ∧ s.2.2.2 ≤ numH H ∧ (s.1 = none ∨ ∃ b o, s.1 = some ⟨b, o, none⟩) ∧
      ∃ G : Gr, ∃ nb capg sp, G.ok ∧ G.right = true ∧ G.w = numW W ∧ G.h = numH H ∧ G.cs.length ≤ capg ∧ w.heap.size + 2 ≤ nb ∧ w'.heap[t3]? = some (.cells #[.int .i64 G.w, .int .i64 G.h, .slice (some ⟨nb, 0, none⟩) G.cs.length capg] 54) ∧ w'.heap[nb]? = some (.cells (G.cs.flatMap Cel.cells ++ sp).toArray 44))
    (fun s => numH H - s.2.2.2) (a3, cells06 ns, cap3, 0) rfl rfl ⟨hc2.trans0 hc3, hc3.keep ho2 (by simp), hs3, hcap3, hlen3, hfit3, by simp, hox3.addr, Gr.plain (numW W) (numH H) Cel.blank, nb, capg, sp, hP, hPr, rfl, rfl, g1, by omega, hc3.keep hb2 (by simp), hc3.keep hg2 (by simp)⟩ ?_
  rintro next ⟨a4, l, cap4, y⟩ w4 hn ⟨hc4, ho4, hs4, hcap4, hlen4, hfit4, hy4, ha4, G, nb4, capg4, sp4, hG, hGr, hGw, hGh, hGc, hnb4, hb4, hblk4⟩
  dsimp only at hs4 hcap4 hlen4 hfit4 hy4 ha4 ⊢
  have hlt4 := lt_of_heap hb4
  have hlo4 := lt_of_heap ho4
  simp -dsimp (disch := first | omega | (simp only [go_sem, seval]; first | done | omega)) only [go_sem, seval, hb4]
  refine BrW.dec (fun h1 => ?_) (fun h1 => ?_)
  · simp -dsimp (disch := first | omega | (simp only [go_sem, seval]; first | done | omega)) only [go_sem, seval, hb4]
    have hyG : y < G.h := by omega
    have hw4 := hG.w0
    obtain ⟨k, hk⟩ : ∃ k, k = min l.length G.w := ⟨_, rfl⟩
    have ek : min (l.length : Int) (G.w : Int) = (k : Int) := by omega
    rw [ek, Int.toNat_natCast]
    have hsG : SxC w4.drew (some 44) (some ⟨nb4, 0, none⟩) G.cs := ⟨fun _ => ⟨nb4, 0, _, _, _, [], sp4, rfl, hblk4, by simp [tagOk], by simp, rfl⟩⟩
    have hst : SxC w4.drew (some 44) a4 (l.take k) := by
      rcases ha4 with rfl | ⟨b, o, rfl⟩
      · refine ⟨fun hne => ?_⟩
        obtain ⟨b, o, _, _, _, _, _, h9, _⟩ := hs4.at_ (by rintro rfl; simp at hne)
        cases h9
      · have := (hs4.chg0 (Chg.refl _ _).drew).sub Cel.len 0 k (some ⟨b, o, none⟩) (.inr (.inr (by simp)))
        simpa using this
    have hrp := rput_c hG hGr hsG capg4 hGc (Y := y) hyG hst cap4 (by simp; omega) (fun c hc => hfit4 c (List.mem_of_mem_take hc))
    have htl : (l.take k).length = k := by simp; omega
    rw [htl] at hrp
    refine OpX.call lyceumref06_Put_b rfl (Calls.ret (hrp) ?_)
    rintro v5 w5 ⟨⟨nb5, capg5, sp5, rfl, q1, q2, q3⟩, hc5⟩
    have hb5 := hc5.keep (show w4.drew.heap[t3]? = _ from hb4) (by simp)
    have ho5 := hc5.keep (show w4.drew.heap[w.heap.size + 1]? = _ from ho4) (by simp)
    have hlt5 := lt_of_heap hb5
    have hq2 : w4.heap.size ≤ nb5 := q2
    have hs5 := (hs4.chg0 (Chg.refl _ _).drew).chg0 hc5
    have hsz4 := hc4.size
    have hG5 : (Gr.of G.w G.h (layRow G y (l.take k))).ok := Gr.of_ok hG.w0 hG.w1 hG.h0 hG.h1 (fun y' hy' => layRow_len hG (by simp; omega) hy')
    have hG5r : (Gr.of G.w G.h (layRow G y (l.take k))).right = true := Gr.right_of fun y' hy' => by
      rw [Gr.of_row (fun y'' hy'' => layRow_len hG (by simp; omega) hy'') hy']
      exact layRow_right hGr hy'
    have hlen5 : (Gr.of G.w G.h (layRow G y (l.take k))).w = G.w ∧ (Gr.of G.w G.h (layRow G y (l.take k))).h = G.h := ⟨rfl, rfl⟩
    generalize Gr.of G.w G.h (layRow G y (l.take k)) = G5 at q1 q3 hG5 hG5r hlen5 ⊢
    simp -dsimp (disch := first | omega | (simp only [go_sem, seval]; first | done | omega)) only [go_sem, seval, Gr.val, hb5]
    have hc6 : Chg [t3] w5 (setBlk w5 t3 (.cells #[.int .i64 G5.w, .int .i64 G5.h, .slice (some ⟨nb5, 0, none⟩) G5.cs.length capg5] 54)) := (Chg.refl _ _).set _ _ (by simp)
    have hb6 := heap_set_same w5 t3 (.cells #[.int .i64 G5.w, .int .i64 G5.h, .slice (some ⟨nb5, 0, none⟩) G5.cs.length capg5] 54) t3 rfl hlt5
    have hs6 : SxC (setBlk w5 t3 (.cells #[.int .i64 G5.w, .int .i64 G5.h, .slice (some ⟨nb5, 0, none⟩) G5.cs.length capg5] 54)) (some 44) a4 l := hs5.chg hc6 fun b o ha hl => by
      have := hs5.ne ha hl hb5 (by decide)
      simpa using this
    have hc16 : Chg [] w (setBlk w5 t3 (.cells #[.int .i64 G5.w, .int .i64 G5.h, .slice (some ⟨nb5, 0, none⟩) G5.cs.length capg5] 54)) := (hc4.drew.trans0 hc5).set _ _ (.inr (by omega))
    have ho6 := hc6.keep ho5 (by simp; omega)
    have hq6 := hc6.keep q3 (by simp; omega)
    rcases ha4 with rfl | ⟨b, o, rfl⟩
    · have hl0 : l = [] := by
        cases l with
        | nil => rfl
        | cons c l => obtain ⟨b, o, _, _, _, _, _, h9, _⟩ := hs4.at_ (by simp); cases h9
      subst hl0
      have hk0 : k = 0 := by simp at hk; omega
      subst hk0
      simp -dsimp (disch := first | omega | (simp only [go_sem, seval]; first | done | omega)) only [go_sem, seval]
      exact hn (none, [], cap4, y + 1) _ ⟨hc16, ho6, Sx.nil _ _ _ _, by simp, by simp, by simp, by dsimp only; omega, .inl rfl, G5, nb5, capg5, sp5, hG5, hG5r, by omega, by omega, q1, by omega, hb6, hq6⟩ (by dsimp only; omega)
    · simp -dsimp (disch := first | omega | (simp only [go_sem, seval]; first | done | omega)) only [go_sem, seval]
      have hdl : (l.drop k).length = l.length - k := by simp
      rw [← hdl]
      exact hn (some ⟨b, slo o cap4 k 4, none⟩, l.drop k, cap4 - k, y + 1) _ ⟨hc16, ho6, by
          have := hs6.sub Cel.len k (l.length - k) (some ⟨b, slo o cap4 k 4, none⟩) (by
            by_cases h : l.length ≤ k
            · exact .inr (.inl h)
            · refine .inr (.inr ?_)
              unfold slo; rw [if_neg (by omega)])
          rwa [List.take_of_length_le (by simp)] at this, by dsimp only; omega, by dsimp only; omega, fun c hc => hfit4 c (List.mem_of_mem_drop hc), by dsimp only; omega, .inr ⟨_, _, rfl⟩, G5, nb5, capg5, sp5, hG5, hG5r, by omega, by omega, q1, by omega, hb6, hq6⟩ (by dsimp only; omega)
  · have : y = numH H := by omega
    simp -dsimp (disch := first | omega | (simp only [go_sem, seval]; first | done | omega)) only [go_sem, seval, hb4, ho4]
    refine hK _ _ ⟨G, hG, hGr, hGw, hGh, ⟨nb4, capg4, sp4, rfl, hGc, by omega, ?_⟩, hc4.set _ _ (.inr (by omega))⟩
    rw [heap_set_other _ _ _ _ (by omega)]; exact hblk4
end Go.Proofs.Ytdjdeahmhenchaa
