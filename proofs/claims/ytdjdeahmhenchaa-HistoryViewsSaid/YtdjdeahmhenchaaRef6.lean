/- The contracts of lyceumref06: size, New, Row, Check, all, Put. -/
import Derived.Test.YtdjdeahmhenchaaW8
import Derived.Test.YtdjdeahmhenchaaGridF
import Derived.Test.YtdjdeahmhenchaaRef5B
set_option linter.unusedSimpArgs false
set_option linter.unusedVariables false
namespace Go.Proofs.Ytdjdeahmhenchaa
open Lyc Go

theorem rsize_c (w : World) (x y : Int) : Calls Try.prog 70 #[.int .i64 x, .int .i64 y] w (retK fun v w' => v = .bool (fitsG x y) ∧ w' = w) := by
  apply lyceumref06_size_link
  intro K hK
  unfold lyceumref06_size
  refine Join1.inl ?_
  simp -dsimp (disch := first | omega | (simp only [go_sem, seval]; first | done | omega)) only [go_sem, seval]
  refine BrW.dec (fun h1 => ?_) (fun h1 => ?_)
  · simp -dsimp (disch := first | omega | (simp only [go_sem, seval]; first | done | omega)) only [go_sem, seval]
    refine BrW.dec (fun h2 => ?_) (fun h2 => ?_)
    · simp -dsimp (disch := first | omega | (simp only [go_sem, seval]; first | done | omega)) only [go_sem, seval]
      refine BrW.dec (fun h3 => ?_) (fun h3 => ?_)
      · simp -dsimp (disch := first | omega | (simp only [go_sem, seval]; first | done | omega)) only [go_sem, seval]
        refine hK _ _ ⟨?_, rfl⟩
        simp [fitsG, h1, h2, h3]
      · refine hK _ _ ⟨?_, rfl⟩
        simp [fitsG, h3]
    · refine hK _ _ ⟨?_, rfl⟩
      simp [fitsG, h2]
  · refine hK _ _ ⟨?_, rfl⟩
    simp [fitsG, h1]
theorem rblank_c (w : World) : Calls Try.prog 71 #[] w (retK fun v w' => v = Cel.blank.val ∧ Chg [] w w') := by
  apply lyceumref05_Blank_link
  intro K hK
  unfold lyceumref05_Blank
  simp -dsimp (disch := first | omega | (simp only [go_sem, seval]; first | done | omega)) only [go_sem, seval]
  exact hK _ _ ⟨rfl, chg_a1 _ _⟩

theorem GAt.of_ox {base : Nat} {w : World} {v : Value} {W H : Nat} {cs : List Cel} (h : Ox base w 44 4 Cel.cells v cs) (hn : cs ≠ []) : GAt base w (.agg #[.int .i64 W, .int .i64 H, v]) ⟨W, H, cs⟩ := by
  obtain ⟨nb, cap, sp, rfl, h1, h2, h3⟩ := h.blk hn
  exact ⟨nb, cap, sp, rfl, h1, h2, h3⟩

theorem rnew_c (w : World) (x y : Nat) (x0 : 0 < x) (x1 : x ≤ 200) (y0 : 0 < y) (y1 : y ≤ 60) : Calls Try.prog 37 #[.int .i64 x, .int .i64 y] w
    (retK fun v w' => GAt w.heap.size w' v (Gr.plain x y Cel.blank) ∧ Chg [] w w') := by
  have hf : fitsG x y = true := by unfold fitsG; apply decide_eq_true; omega
  have hm := Nat.mul_le_mul x1 y1
  have hm0 := Nat.mul_pos x0 y0
  have e1 : (x : Int) * (y : Int) = ((x * y : Nat) : Int) := by simp
  apply lyceumref06_New_link
  intro K hK
  unfold lyceumref06_New
  simp -dsimp (disch := first | omega | (simp only [go_sem, seval]; first | done | omega)) only [go_sem, seval]
  refine OpX.call lyceumref06_size_b rfl (Calls.ret (rsize_c _ x y) ?_)
  rintro v w1 ⟨rfl, rfl⟩
  simp -dsimp (disch := first | omega | (simp only [go_sem, seval]; first | done | omega)) only [go_sem, seval, hf]
  refine Loop1.st (fun s : Nat × Value => .int .i64 s.1) (fun s w' => s.1 ≤ x * y ∧ Chg [] w w' ∧ w'.heap[w.heap.size]? = some (.cells #[.int .i64 0, .int .i64 0, .slice none 0 0] 54) ∧ w'.heap[w.heap.size + 1]? = some (.cells #[.int .i64 x, .int .i64 y, s.2] 54) ∧ (∃ a n c, s.2 = .slice a n c) ∧ Ox (w.heap.size + 2) w' 44 4 Cel.cells s.2 (List.replicate s.1 Cel.blank))
    (fun s => x * y - s.1) (0, .slice none 0 0) rfl ⟨by simp, ?_, ?_, ?_, ⟨_, _, _, rfl⟩, Ox.nil _ _ _ _ _⟩ ?_
  · exact chg_a2 _ _ _
  · simp -dsimp (disch := first | omega | (simp only [go_sem, seval]; first | done | omega)) only [go_sem, seval]
  · simp -dsimp (disch := first | omega | (simp only [go_sem, seval]; first | done | omega)) only [go_sem, seval]
  · rintro next ⟨k, v⟩ w2 hn ⟨hk, hc2, ho2, hb2, ⟨a, n, c, hv⟩, hox⟩
    dsimp only at hk hb2 hv hox ⊢
    subst hv
    have hlt2 := lt_of_heap hb2
    simp -dsimp (disch := first | omega | (simp only [go_sem, seval]; first | done | omega)) only [go_sem, seval, e1]
    refine BrW.dec (fun h1 => ?_) (fun h1 => ?_)
    · simp -dsimp (disch := first | omega | (simp only [go_sem, seval]; first | done | omega)) only [go_sem, seval, hb2]
      refine OpX.call lyceumref05_Blank_b rfl (Calls.ret (rblank_c _) ?_)
      rintro v3 w3 ⟨rfl, hc3⟩
      have hb3 := hc3.keep hb2 (by simp)
      have ho3 := hc3.keep ho2 (by simp)
      have hox3 := (hox.chg0 (Chg.refl _ _).drew).chg0 hc3
      have hlt3 := lt_of_heap hb3
      simp -dsimp (disch := first | omega | (simp only [go_sem, seval]; first | done | omega)) only [go_sem, seval, hb3]
      have hc23 := hc2.drew.trans0 hc3
      refine app_x (l2 := [Cel.blank]) ty45ap Cel.len Cel.ok (hox3.chg0 (chg_a1 _ _)) (Sx.built (c := Cel.blank.cells) (by simp -dsimp (disch := first | omega | (simp only [go_sem, seval]; first | done | omega)) only [go_sem, seval]; rfl) (by simp)) rfl (by simp; omega) (by omega) (by simp -dsimp (disch := first | omega | (simp only [go_sem, seval]; first | done | omega)) only [go_sem, seval]; omega) ?_
      intro v' w' ho' hc' _
      have hca : Chg (Value.slice a n c).ownBlock.toList w3 w' := ((Chg.refl _ w3).alloc _).trans hc' (fun x hx => .inl hx)
      have hlow : ∀ x ∈ (Value.slice a n c).ownBlock.toList, w.heap.size + 2 ≤ x := fun x hx => (hox3.lt x (by cases hv : (Value.slice a n c).ownBlock <;> simp_all)).1
      have hb4 := hca.keep hb3 (fun hm => by have := hlow _ hm; omega)
      have ho4 := hca.keep ho3 (fun hm => by have := hlow _ hm; omega)
      have hlt4 := lt_of_heap hb4
      obtain ⟨a', cap', rfl, _⟩ := ho'.form
      simp -dsimp (disch := first | omega | (simp only [go_sem, seval]; first | done | omega)) only [go_sem, seval, hb4]
      refine hn (k + 1, .slice a' ((List.replicate k Cel.blank ++ [Cel.blank])).length cap') _ ⟨by dsimp only; omega, (hc23.trans hca (fun x hx => .inr (by have := hlow _ hx; omega))).set _ _ (.inr (by omega)), ?_, ?_, ⟨_, _, _, rfl⟩, ?_⟩ (by dsimp only; omega)
      · rw [heap_set_other _ _ _ _ (by omega)]; exact ho4
      · dsimp only
        simp -dsimp (disch := first | omega | (simp only [go_sem, seval]; first | done | omega)) only [go_sem, seval]
      · dsimp only
        have : List.replicate (k + 1) Cel.blank = List.replicate k Cel.blank ++ [Cel.blank] := by rw [List.replicate_succ']
        rw [this]
        exact ho'.low ((Chg.refl [w.heap.size + 1] _).set _ _ (by simp)) (by simp)
    · have hke : k = x * y := by omega
      have hlo := lt_of_heap ho2
      simp -dsimp (disch := first | omega | (simp only [go_sem, seval]; first | done | omega)) only [go_sem, seval, hb2, ho2]
      refine hK _ _ ⟨?_, hc2.set _ _ (.inr (Nat.le_refl _))⟩
      rw [hke] at hox
      have hox' := hox.low ((Chg.refl [w.heap.size] w2).set w.heap.size (.cells #[.int .i64 x, .int .i64 y, .slice a n c] 54) (by simp)) (by simp)
      exact (GAt.of_ox (W := x) (H := y) hox' (by simp; omega)).le (by omega)

theorem div_h {g : Gr} (hg : g.ok) : (g.cs.length : Int).tdiv g.w = g.h := by
  rw [hg.len]
  have h0 := hg.w0
  have : ((g.w * g.h : Nat) : Int) = (g.w : Int) * g.h := by simp
  rw [this, Int.mul_tdiv_cancel_left _ (by omega)]

theorem rrow_c {w : World} {g : Gr} (hg : g.ok) {e : Option TypeId} {a : Option Addr} (hs : SxC w e a g.cs) (cap : Nat) (hcap : g.cs.length ≤ cap) (y : Nat) (hy : y < g.h) : Calls Try.prog 77 #[g.val a cap, .int .i64 y] w
    (retK fun v w' => Ox w.heap.size w' 44 4 Cel.cells v (g.row y) ∧ Chg [] w w') := by
  have h1 := hg.row_lt hy
  have h2 := hg.le
  have h3 := hg.w0
  have h4 := hg.w1
  have h5 := hg.h1
  have hd := div_h hg
  obtain ⟨b, o, _, _, _, _, _, rfl, hb0, _⟩ := hs.at_ hg.ne
  clear hb0
  apply lyceumref06_Row_link
  intro K hK
  unfold lyceumref06_Row
  simp -dsimp (disch := first | omega | (simp only [go_sem, seval]; first | done | omega)) only [go_sem, seval, Gr.val]
  have hc0 := chg_a1 w (.cells #[.int .i64 g.w, .int .i64 g.h, .slice (some ⟨b, o, none⟩) g.cs.length cap] 54)
  have hg0 : (w.alloc (.cells #[.int .i64 g.w, .int .i64 g.h, .slice (some ⟨b, o, none⟩) g.cs.length cap] 54)).heap[w.heap.size]? = some (.cells #[.int .i64 g.w, .int .i64 g.h, .slice (some ⟨b, o, none⟩) g.cs.length cap] 54) := by simp -dsimp (disch := first | omega | (simp only [go_sem, seval]; first | done | omega)) only [go_sem, seval]
  refine Join1.cut (fun v w' => v = .bool false ∧ w' = (w.alloc (.cells #[.int .i64 g.w, .int .i64 g.h, .slice (some ⟨b, o, none⟩) g.cs.length cap] 54)).drew) ?_ ?_
  · simp -dsimp (disch := first | omega | (simp only [go_sem, seval]; first | done | omega)) only [go_sem, seval]
    refine BrW.dec (fun h => by omega) (fun _ => ?_)
    simp -dsimp (disch := first | omega | (simp only [go_sem, seval]; first | done | omega)) only [go_sem, seval]
    refine BrW.dec (fun h => by omega) (fun _ => ?_)
    simp -dsimp (disch := first | omega | (simp only [go_sem, seval]; first | done | omega)) only [go_sem, seval]
    refine BrW.dec (fun h => by omega) (fun _ => ?_)
    simp -dsimp (disch := first | omega | (simp only [go_sem, seval]; first | done | omega)) only [go_sem, seval, hd]
    simp
  · rintro v w1 ⟨rfl, rfl⟩
    have e1 : (y : Int) * (g.w : Int) = ((y * g.w : Nat) : Int) := by simp
    have e2 : ((y * g.w : Nat) : Int) + (g.w : Int) = ((y * g.w + g.w : Nat) : Int) := by simp
    simp -dsimp (disch := first | omega | (simp only [go_sem, seval]; first | done | omega)) only [go_sem, seval, e1, e2]
    have e3 : slo o cap (y * g.w) 4 = o + y * g.w * 4 := by unfold slo; rw [if_neg (by omega)]
    have e4 : y * g.w + g.w - y * g.w = g.w := by omega
    rw [e3, e4]
    have hrl := hg.row_len hy
    have hs1 : SxC (((w.alloc (.cells #[.int .i64 g.w, .int .i64 g.h, .slice (some ⟨b, o, none⟩) g.cs.length cap] 54)).alloc (.cells #[] 44)).drew) e (some ⟨b, o + y * g.w * 4, none⟩) (g.row y) := Sx.sub (hs.chg0 (chg_a2 _ _ _).drew) Cel.len (y * g.w) g.w _ (.inr (.inr rfl))
    have ho : Ox w.heap.size (((w.alloc (.cells #[.int .i64 g.w, .int .i64 g.h, .slice (some ⟨b, o, none⟩) g.cs.length cap] 54)).alloc (.cells #[] 44)).drew) 44 4 Cel.cells (.slice (some ⟨w.heap.size + 1, 0, none⟩) 0 0) [] := Ox.built (c := []) (by simp -dsimp (disch := first | omega | (simp only [go_sem, seval]; first | done | omega)) only [go_sem, seval]) Cel.len (by omega) rfl rfl (by omega) rfl
    refine app_x (l := []) (l2 := g.row y) ty45ap Cel.len Cel.ok ho hs1 (by rw [hrl]) (by simp; omega) (by omega) (by simp -dsimp (disch := first | omega | (simp only [go_sem, seval]; first | done | omega)) only [go_sem, seval]; omega) ?_
    intro v' w' ho' hc' _
    exact hK _ _ ⟨by simpa using ho', own_chg ho (chg_a2 _ _ _).drew hc'⟩

theorem row_sub {g : Gr} {y : Nat} {c : Cel} (h : c ∈ g.row y) : c ∈ g.cs := List.mem_of_mem_drop (List.mem_of_mem_take h)

theorem rgcheck_c {w : World} {g : Gr} (hg : g.ok) (hr : g.right = true) {e : Option TypeId} {a : Option Addr} (hs : SxC w e a g.cs) (cap : Nat) (hcap : g.cs.length ≤ cap) : Calls Try.prog 107 #[g.val a cap] w
    (retK fun v w' => v = .bool true ∧ Chg [] w w') := by
  have hle := hg.le
  have hm : (g.w : Int) * (g.h : Int) = (g.cs.length : Int) := by rw [hg.len]; simp
  have h4 := hg.w1
  have h5 := hg.h1
  apply lyceumref06_Check_link
  intro K hK
  unfold lyceumref06_Check
  simp -dsimp (disch := first | omega | (simp only [go_sem, seval]; first | done | omega)) only [go_sem, seval, Gr.val]
  have hc0 := chg_a1 w (.cells #[.int .i64 g.w, .int .i64 g.h, .slice a g.cs.length cap] 54)
  have hg0 : (w.alloc (.cells #[.int .i64 g.w, .int .i64 g.h, .slice a g.cs.length cap] 54)).heap[w.heap.size]? = some (.cells #[.int .i64 g.w, .int .i64 g.h, .slice a g.cs.length cap] 54) := by simp -dsimp (disch := first | omega | (simp only [go_sem, seval]; first | done | omega)) only [go_sem, seval]
  refine OpX.call lyceumref06_size_b rfl (Calls.ret (rsize_c _ g.w g.h) ?_)
  rintro v w1 ⟨rfl, rfl⟩
  refine Join1.inl ?_
  simp -dsimp (disch := first | omega | (simp only [go_sem, seval]; first | done | omega)) only [go_sem, seval, hg.fits, hm]
  refine Loop1.st (fun k : Nat => .int .i64 k) (fun k w' => Chg [] w w' ∧ k ≤ g.h ∧ w'.heap[w.heap.size]? = some (.cells #[.int .i64 g.w, .int .i64 g.h, .slice a g.cs.length cap] 54)) (fun k => g.h - k) 0 rfl ⟨hc0, by omega, hg0⟩ ?_
  rintro next k w2 hn ⟨hc2, hk, hg2⟩
  simp -dsimp (disch := first | omega | (simp only [go_sem, seval]; first | done | omega)) only [go_sem, seval, hg2]
  refine BrW.dec (fun h1 => ?_) (fun h1 => hK _ _ ⟨rfl, hc2⟩)
  have hky : k < g.h := by omega
  simp -dsimp (disch := first | omega | (simp only [go_sem, seval]; first | done | omega)) only [go_sem, seval, hg2]
  refine OpX.call lyceumref06_Row_b rfl (Calls.ret (rrow_c hg (hs.chg0 hc2) cap hcap k hky) ?_)
  rintro v3 w3 ⟨ho3, hc3⟩
  obtain ⟨a3, cap3, rfl, hcap3, hs3, -⟩ := ho3.form
  have hrl := hg.row_len hky
  have hrr := Gr.right.at hr hky
  refine OpX.call lyceumref05_Right_b rfl (Calls.ret (rright_c hs3 cap3 (by omega) (right_fits hrr)) ?_)
  rintro v4 w4 ⟨rfl, hc4⟩
  rw [hrr]
  simp -dsimp (disch := first | omega | (simp only [go_sem, seval]; first | done | omega)) only [go_sem, seval]
  exact hn (k + 1) _ ⟨(hc2.trans0 hc3).trans0 hc4, by omega, (hc3.trans0 hc4).keep hg2 (by simp)⟩ (by omega)

theorem rall_c {w : World} {g : Gr} (hg : g.ok) {e : Option TypeId} {b o : Nat} (hs : SxC w e (some ⟨b, o, none⟩) g.cs) (cap : Nat) (hcap : g.cs.length ≤ cap) {rb : Nat} {R : Nat → Bool} (hR : ∃ c t fr, w.heap[rb]? = some (.cells c t fr) ∧ ∀ k, k < g.h → c[k]? = some (Value.bool (R k))) (hf : ∀ c ∈ g.cs, c.fits) :
    Calls Try.prog 108 #[.int .i64 g.w, .int .i64 g.h, .slice (some ⟨rb, 0, none⟩) g.h g.h, .slice (some ⟨b, o, none⟩) g.cs.length cap] w
    (retK fun v w' => GAt w.heap.size w' v (Gr.of g.w g.h fun y => if R y then mend (g.row y) else g.row y) ∧ Chg [] w w') := by
  have h2 := hg.le
  have h3 := hg.w0
  have h4 := hg.w1
  have h5 := hg.h1
  have h6 := hg.h0
  obtain ⟨rc, rt, rf, hR, hRk⟩ := hR
  have hlF : ∀ y, y < g.h → (if R y then mend (g.row y) else g.row y).length = g.w := by
    intro y hy
    split
    · rw [mend_len, hg.row_len hy]
    · exact hg.row_len hy
  apply lyceumref06_all_link
  intro K hK
  unfold lyceumref06_all
  simp -dsimp (disch := first | omega | (simp only [go_sem, seval]; first | done | omega)) only [go_sem, seval]
  refine Loop1.st (fun s : Nat × Value => .int .i64 s.1) (fun s w' => s.1 ≤ g.h ∧ Chg [] w w' ∧ w'.heap[w.heap.size]? = some (.cells #[.int .i64 0, .int .i64 0, .slice none 0 0] 54) ∧ w'.heap[w.heap.size + 1]? = some (.cells #[.int .i64 g.w, .int .i64 g.h, s.2] 54) ∧ (∃ a n c, s.2 = .slice a n c) ∧ Ox (w.heap.size + 2) w' 44 4 Cel.cells s.2 (rowsOf (fun y => if R y then mend (g.row y) else g.row y) s.1))
    (fun s => g.h - s.1) (0, .slice none 0 0) rfl ⟨by simp, chg_a2 _ _ _, (by simp -dsimp (disch := first | omega | (simp only [go_sem, seval]; first | done | omega)) only [go_sem, seval]), (by simp -dsimp (disch := first | omega | (simp only [go_sem, seval]; first | done | omega)) only [go_sem, seval]), ⟨_, _, _, rfl⟩, Ox.nil _ _ _ _ _⟩ ?_
  rintro next ⟨k, v⟩ w2 hn ⟨hk, hc2, ho2, hb2, ⟨a, n, c, hv⟩, hox⟩
  dsimp only at hk hb2 hv hox ⊢
  subst hv
  have hlt2 := lt_of_heap hb2
  simp -dsimp (disch := first | omega | (simp only [go_sem, seval]; first | done | omega)) only [go_sem, seval]
  refine BrW.dec (fun h1 => ?_) (fun h1 => ?_)
  · have hky : k < g.h := by omega
    have hrl := hg.row_len hky
    have hrt := hg.row_lt hky
    have e1 : (k : Int) * (g.w : Int) = ((k * g.w : Nat) : Int) := by simp
    have e2 : ((k * g.w : Nat) : Int) + (g.w : Int) = ((k * g.w + g.w : Nat) : Int) := by simp
    simp -dsimp (disch := first | omega | (simp only [go_sem, seval]; first | done | omega)) only [go_sem, seval, e1, e2]
    have e3 : slo o cap (k * g.w) 4 = o + k * g.w * 4 := by unfold slo; rw [if_neg (by omega)]
    have e4 : k * g.w + g.w - k * g.w = g.w := by omega
    rw [Int.toNat_natCast, Int.toNat_natCast, e3, e4]
    have hs2 : SxC w2 e (some ⟨b, o + k * g.w * 4, none⟩) (g.row k) := Sx.sub (hs.chg0 hc2) Cel.len (k * g.w) g.w _ (.inr (.inr rfl))
    have hR2 : cellAt w2.heap[rb]? k = some (.bool (R k)) := by
      rw [hc2.keep hR (by simp), cellAt_cells, hRk k hky]
    refine Join1.cut (fun v w' => Chg [] w2 w' ∧ ∃ a3 cap3, v = .slice a3 g.w cap3 ∧ SxC w' none a3 (if R k then mend (g.row k) else g.row k)) ?_ ?_
    · simp -dsimp (disch := first | omega | (simp only [go_sem, seval]; first | done | omega)) only [go_sem, seval, hR2]
      refine BrW.by (fun h => ?_) (fun h => ?_)
      · have hmc := rmend_c hs2 (cap - k * g.w) (by omega) (fun c hc => hf c (row_sub hc))
        rw [hrl] at hmc
        refine OpX.call lyceumref05_Mend_b rfl (Calls.ret (hmc) ?_)
        rintro v3 w3 ⟨ho3, hc3⟩
        obtain ⟨a3, cap3, rfl, hcap3, hs3, -⟩ := ho3.form
        refine ⟨hc3, a3, cap3, by rw [mend_len, hrl], ?_⟩
        rw [if_pos h]
        exact hs3.untag
      · refine ⟨Chg.refl _ _, _, _, rfl, ?_⟩
        rw [if_neg (by simp [h])]
        exact hs2.untag
    · rintro v3 w3 ⟨hc3, a3, cap3, rfl, hs3⟩
      have hb3 := hc3.keep hb2 (by simp)
      have ho3 := hc3.keep ho2 (by simp)
      have hlt3 := lt_of_heap hb3
      have hlr := rowsOf_len (R := fun y => if R y then mend (g.row y) else g.row y) (w := g.w) (h := k) (fun y hy => hlF y (by omega))
      simp -dsimp (disch := first | omega | (simp only [go_sem, seval]; first | done | omega)) only [go_sem, seval, hb3]
      refine app_x (l2 := if R k then mend (g.row k) else g.row k) ty45ap Cel.len Cel.ok (hox.chg0 hc3) hs3 (by rw [hlF k hky]) (by rw [hlF k hky, hlr]; omega) (by omega) (by omega) ?_
      intro v' w' ho' hc' _
      have hlow : ∀ x ∈ (Value.slice a n c).ownBlock.toList, w.heap.size + 2 ≤ x := fun x hx => (hox.lt x (by cases hv : (Value.slice a n c).ownBlock <;> simp_all)).1
      have hb4 := hc'.keep hb3 (fun hm => by have := hlow _ hm; omega)
      have ho4 := hc'.keep ho3 (fun hm => by have := hlow _ hm; omega)
      have hlt4 := lt_of_heap hb4
      obtain ⟨a', cap', rfl, _⟩ := ho'.form
      simp -dsimp (disch := first | omega | (simp only [go_sem, seval]; first | done | omega)) only [go_sem, seval, hb4]
      refine hn (k + 1, .slice a' (rowsOf (fun y => if R y then mend (g.row y) else g.row y) k ++ if R k then mend (g.row k) else g.row k).length cap') _ ⟨by dsimp only; omega, ((hc2.trans0 hc3).trans hc' (fun x hx => .inr (by have := hlow _ hx; omega))).set _ _ (.inr (by omega)), ?_, ?_, ⟨_, _, _, rfl⟩, ?_⟩ (by dsimp only; omega)
      · rw [heap_set_other _ _ _ _ (by omega)]; exact ho4
      · dsimp only
        simp -dsimp (disch := first | omega | (simp only [go_sem, seval]; first | done | omega)) only [go_sem, seval]
      · dsimp only
        exact ho'.low ((Chg.refl [w.heap.size + 1] _).set _ _ (by simp)) (by simp)
  · have hke : k = g.h := by omega
    have hlo := lt_of_heap ho2
    simp -dsimp (disch := first | omega | (simp only [go_sem, seval]; first | done | omega)) only [go_sem, seval, hb2, ho2]
    refine hK _ _ ⟨?_, hc2.set _ _ (.inr (Nat.le_refl _))⟩
    rw [hke] at hox
    have hox' := hox.low ((Chg.refl [w.heap.size] w2).set w.heap.size (.cells #[.int .i64 g.w, .int .i64 g.h, .slice a n c] 54) (by simp)) (by simp)
    refine (GAt.of_ox (W := g.w) (H := g.h) hox' ?_).le (by omega)
    intro hnil
    have := rowsOf_len hlF
    rw [hnil] at this
    have := Nat.mul_pos h6 h3
    simp at *
    omega

theorem rput_c {w : World} {g : Gr} (hg : g.ok) (hr : g.right = true) {e e' : Option TypeId} {a a' : Option Addr} (hs : SxC w e a g.cs) (cap : Nat) (hcap : g.cs.length ≤ cap) {Y : Nat} (hY : Y < g.h) {l : List Cel} (hl : SxC w e' a' l) (cap' : Nat) (hll : l.length ≤ g.w) (hf : ∀ c ∈ l, c.fits) :
    Calls Try.prog 83 #[g.val a cap, .int .i64 0, .int .i64 Y, .slice a' l.length cap'] w (retK fun v w' => GAt w.heap.size w' v (Gr.of g.w g.h (layRow g Y l)) ∧ Chg [] w w') := by
  have h2 := hg.le
  have h3 := hg.w0
  have h4 := hg.w1
  have h5 := hg.h1
  have hrl := hg.row_len hY
  have hrt := hg.row_lt hY
  apply lyceumref06_Put_link
  intro K hK
  unfold lyceumref06_Put
  simp -dsimp (disch := first | omega | (simp only [go_sem, seval]; first | done | omega)) only [go_sem, seval, Gr.val]
  have hc0 := chg_a2 w (.cells #[.int .i64 g.w, .int .i64 g.h, .slice a g.cs.length cap] 54) (.cells #[.int .i64 0, .int .i64 0, .slice none 0 0] 54)
  have hg0 : ((w.alloc (.cells #[.int .i64 g.w, .int .i64 g.h, .slice a g.cs.length cap] 54)).alloc (.cells #[.int .i64 0, .int .i64 0, .slice none 0 0] 54)).heap[w.heap.size]? = some (.cells #[.int .i64 g.w, .int .i64 g.h, .slice a g.cs.length cap] 54) := by simp -dsimp (disch := first | omega | (simp only [go_sem, seval]; first | done | omega)) only [go_sem, seval]
  have ho0 : ((w.alloc (.cells #[.int .i64 g.w, .int .i64 g.h, .slice a g.cs.length cap] 54)).alloc (.cells #[.int .i64 0, .int .i64 0, .slice none 0 0] 54)).heap[w.heap.size + 1]? = some (.cells #[.int .i64 0, .int .i64 0, .slice none 0 0] 54) := by simp -dsimp (disch := first | omega | (simp only [go_sem, seval]; first | done | omega)) only [go_sem, seval]
  generalize ((w.alloc (.cells #[.int .i64 g.w, .int .i64 g.h, .slice a g.cs.length cap] 54)).alloc (.cells #[.int .i64 0, .int .i64 0, .slice none 0 0] 54)) = w0 at hc0 hg0 ho0 ⊢
  refine OpX.call lyceumref06_Check_b rfl (Calls.ret (rgcheck_c hg hr (hs.chg0 hc0) cap hcap) ?_)
  rintro v w1 ⟨rfl, hc1⟩
  have hg1 := hc1.keep hg0 (by simp)
  have ho1 := hc1.keep ho0 (by simp)
  have hc01 := hc0.trans0 hc1
  have hlt1 := lt_of_heap ho1
  refine Join1.cut (fun v w' => v = .bool false ∧ w' = w1) ?_ ?_
  · simp -dsimp (disch := first | omega | (simp only [go_sem, seval]; first | done | omega)) only [go_sem, seval]
    refine BrW.dec (fun h => by omega) (fun _ => ?_)
    simp -dsimp (disch := first | omega | (simp only [go_sem, seval]; first | done | omega)) only [go_sem, seval, hg1]
    simp
    omega
  · rintro v w2 ⟨rfl, rfl⟩
    simp -dsimp (disch := first | omega | (simp only [go_sem, seval]; first | done | omega)) only [go_sem, seval, hg1]
    refine make_x (f := fun b : Bool => [Value.bool b]) false ty136mk (fun _ => rfl) rfl (by omega) (by omega) (by omega) (Nat.le_refl _) ?_
    intro w3 hw3 hob3
    have hc3 : Chg [] w2 w3 := by rw [hw3]; exact chg_a1 _ _
    have hz3 : w3.heap.size = w2.heap.size + 1 := by rw [hw3]; simp -dsimp (disch := first | omega | (simp only [go_sem, seval]; first | done | omega)) only [go_sem, seval]
    clear hw3
    obtain ⟨g4, cap4, x4, he4, hg4b, hg4l, hput4, hob4⟩ := hob3.put (fun _ => rfl) (i := Y) (by simp; exact hY) true
    rw [Value.slice.injEq] at he4
    obtain ⟨he4, -, -⟩ := he4
    cases he4
    have hput4' : putAt w3.heap[w2.heap.size]? Y [.bool true] = some x4 := by have := hput4; rwa [Nat.mul_one] at this
    have hc4 : Chg [] w2 (setBlk w3 w2.heap.size x4) := hc3.set _ _ (.inr (Nat.le_refl _))
    have hg3 := hc3.keep hg1 (by simp)
    simp -dsimp (disch := first | omega | (simp only [go_sem, seval]; first | done | omega)) only [go_sem, seval, hput4', hg3]
    have hg4 := hc4.keep hg1 (by simp)
    have ho4 := hc4.keep ho1 (by simp)
    have hz4 : (setBlk w3 w2.heap.size x4).heap.size = w2.heap.size + 1 := by simp -dsimp (disch := first | omega | (simp only [go_sem, seval]; first | done | omega)) only [go_sem, seval]; exact hz3
    generalize setBlk w3 w2.heap.size x4 = w4 at *
    have hoe : Ox w4.heap.size (w4.alloc (.cells #[] 44)) 44 4 Cel.cells (.slice (some ⟨w4.heap.size, 0, none⟩) 0 0) [] := Ox.built (c := []) (by simp -dsimp (disch := first | omega | (simp only [go_sem, seval]; first | done | omega)) only [go_sem, seval]) Cel.len (Nat.le_refl _) rfl rfl (by omega) rfl
    have hlg4 := lt_of_heap ho4
    have e34 : w3.heap.size = w4.heap.size := by omega
    rw [e34]
    refine app_x (l := []) (l2 := g.cs) ty45ap Cel.len Cel.ok hoe ((hs.chg0 hc01).chg0 (hc4.alloc _)) rfl (by simp; omega) (by omega) (by simp -dsimp (disch := first | omega | (simp only [go_sem, seval]; first | done | omega)) only [go_sem, seval]; omega) ?_
    intro v5 w5 ho5 hc5 _
    rw [List.nil_append] at ho5
    have hc45 : Chg [] w4 w5 := own_chg hoe (chg_a1 _ _) hc5
    refine Loop1.st (fun k : Nat => .int .i64 k) (fun k w' => k ≤ l.length ∧ Chg [] w4 w' ∧ Ox w4.heap.size w' 44 4 Cel.cells v5 (lay g.cs (Y * g.w) l k)) (fun k => l.length - k) 0 rfl ⟨by omega, hc45, by rw [lay_zero]; exact ho5⟩ ?_
    rintro next k w6 hn ⟨hk, hc6, ho6⟩
    have hg6 := hc6.keep hg4 (by simp)
    have ho6' := hc6.keep ho4 (by simp)
    have hlg6 := lt_of_heap ho6'
    simp -dsimp (disch := first | omega | (simp only [go_sem, seval]; first | done | omega)) only [go_sem, seval]
    refine BrW.dec (fun h1 => ?_) (fun h1 => ?_)
    · have hkl : k < l.length := by omega
      refine Join1.cut (fun v w' => v = .bool true ∧ w' = w6) ?_ ?_
      · simp -dsimp (disch := first | omega | (simp only [go_sem, seval]; first | done | omega)) only [go_sem, seval, hg6]
        refine BrW.dec (fun _ => ⟨rfl, rfl⟩) (fun h => by omega)
      · rintro v w7 ⟨rfl, rfl⟩
        obtain ⟨b', o', rfl, hb', m1, -⟩ := SxC.cel ((hl.chg0 hc01).chg0 (hc4.trans0 hc6)) (List.getElem?_eq_getElem hkl)
        have hlen := lay_len (cs := g.cs) (p := Y * g.w) (l := l) (k := k) (by omega) (by omega)
        obtain ⟨g7, cap7, x7, rfl, hg7b, hg7l, hput7, hox7⟩ := ho6.put Cel.len (i := Y * g.w + k) (by rw [hlen]; omega) l[k]
        have hput7' : putAt w7.heap[g7]? ((Y * g.w + k) * 4) [.int .i32 l[k].r, .int .u8 l[k].fg.toNat, .int .u8 l[k].bg.toNat, .int .u8 l[k].a.toNat] = some x7 := hput7
        have e1 : (Y : Int) * (g.w : Int) = ((Y * g.w : Nat) : Int) := by simp
        have e2 : ((Y * g.w : Nat) : Int) + (k : Int) = ((Y * g.w + k : Nat) : Int) := by simp
        simp -dsimp (disch := first | omega | (simp only [go_sem, seval]; first | done | omega)) only [go_sem, seval, hg6, e1, Int.add_zero, e2, m1, hlen, hput7']
        rw [lay_set hkl (by omega)] at hox7
        refine hn (k + 1) _ ⟨by omega, (hc6.set _ _ (.inr hg7b)).drew, ?_⟩ (by omega)
        rw [hlen] at hox7
        rw [hlen]
        exact hox7.chg0 (Chg.refl _ _).drew
    · have hke : k = l.length := by omega
      subst hke
      have hlen := lay_len (cs := g.cs) (p := Y * g.w) (l := l) (k := l.length) (by omega) (by omega)
      obtain ⟨nb, cap8, sp8, rfl, hcap8, hnb8, hblk8⟩ := ho6.blk (by intro h; rw [h] at hlen; have := hg.ne; cases hgc : g.cs <;> simp_all)
      have hG : (⟨g.w, g.h, lay g.cs (Y * g.w) l l.length⟩ : Gr).ok := ⟨hg.w0, hg.w1, hg.h0, hg.h1, by rw [hlen]; exact hg.len⟩
      have hs8 : SxC w6 (some 44) (some ⟨nb, 0, none⟩) (⟨g.w, g.h, lay g.cs (Y * g.w) l l.length⟩ : Gr).cs := ⟨fun _ => ⟨nb, 0, _, _, _, [], sp8, rfl, hblk8, by simp [tagOk], by simp, rfl⟩⟩
      have hob6 := hob4.chg0 hc6
      obtain ⟨rb, capr, spr, her, hcapr, hrb, hblkr⟩ := hob6.blk (by intro h; have := congrArg List.length h; simp at this; omega)
      rw [Value.slice.injEq] at her
      obtain ⟨her, -, -⟩ := her
      cases her
      have hff : ∀ c ∈ (⟨g.w, g.h, lay g.cs (Y * g.w) l l.length⟩ : Gr).cs, c.fits := fun c hc => (lay_mem hc).elim (hg.fits_all hr c) (hf c)
      have hrall := rall_c hG hs8 cap8 hcap8 (rb := w2.heap.size) (R := fun i => decide (i = Y)) ⟨_, _, _, hblkr, fun k hk => by
        have hk' : k < g.h := hk
        rw [List.getElem?_toArray, List.getElem?_append_left (by simp [flat_len (f := fun b : Bool => [Value.bool b]) (m := 1) (fun _ => rfl)]; exact hk')]
        have e : ∀ (l : List Bool), l.flatMap (fun b : Bool => [Value.bool b]) = l.map Value.bool := fun l => by induction l <;> simp_all
        rw [e, List.getElem?_map, List.getElem?_set]
        by_cases h : Y = k
        · subst h; simp [hk']
        · simp [h, hk', Ne.symm h]⟩ hff
      simp -dsimp (disch := first | omega | (simp only [go_sem, seval]; first | done | omega)) only [go_sem, seval, hg6]
      refine OpX.call lyceumref06_all_b rfl (Calls.ret (hrall) ?_)
      rintro v9 w9 ⟨⟨nb9, cap9, sp9, rfl, k1, k2, k3⟩, hc9⟩
      have ho9 := hc9.keep ho6' (by simp)
      have hlo9 := lt_of_heap ho9
      simp -dsimp (disch := first | omega | (simp only [go_sem, seval]; first | done | omega)) only [go_sem, seval, Gr.val, ho9]
      have hrow : Gr.of g.w g.h (layRow g Y l) = Gr.of (⟨g.w, g.h, lay g.cs (Y * g.w) l l.length⟩ : Gr).w (⟨g.w, g.h, lay g.cs (Y * g.w) l l.length⟩ : Gr).h (fun y => if decide (y = Y) then mend ((⟨g.w, g.h, lay g.cs (Y * g.w) l l.length⟩ : Gr).row y) else (⟨g.w, g.h, lay g.cs (Y * g.w) l l.length⟩ : Gr).row y) := by
        unfold Gr.of
        congr 1
        refine rowsOf_congr fun y hy => ?_
        rw [lay_row hg hY hll hy]
        unfold layRow
        by_cases h : y = Y <;> simp [h]
      rw [hrow] at hK
      refine hK _ _ ⟨⟨nb9, cap9, sp9, rfl, k1, by have := hc6.size; omega, ?_⟩, (((hc01.trans0 hc4).trans0 hc6).trans0 hc9).set _ _ (.inr (by omega))⟩
      rw [heap_set_other _ _ _ _ (by have := hc6.size; omega)]; exact k3
end Go.Proofs.Ytdjdeahmhenchaa
