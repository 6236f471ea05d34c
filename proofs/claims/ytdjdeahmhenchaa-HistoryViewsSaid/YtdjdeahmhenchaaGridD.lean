/- The contracts of package grid: filled, New, and what they are made by. -/
import Derived.Test.YtdjdeahmhenchaaGridC
set_option linter.unusedSimpArgs false
set_option linter.unusedVariables false
namespace Go.Proofs.Ytdjdeahmhenchaa
open Lyc Go

theorem and32 (n : Nat) (h : n ≤ 100000) : bitV .and .u64 (n : Int) 4294967295 = n := by
  show IntKind.u64.wrap ((BitVec.ofInt 64 (n : Int) &&& BitVec.ofInt 64 4294967295).toNat : Int) = _
  rw [show BitVec.ofInt 64 (n : Int) = BitVec.ofNat 64 n from BitVec.ofInt_natCast ..]
  rw [BitVec.toNat_and, BitVec.toNat_ofNat, Nat.mod_eq_of_lt (by omega)]
  rw [show (BitVec.ofInt 64 4294967295).toNat = 2 ^ 32 - 1 from rfl, Nat.and_two_pow_sub_one_eq_mod, Nat.mod_eq_of_lt (by omega)]
  exact wrap_u64 _ (by omega) (by omega)

theorem mul64_c (w : World) (n : Nat) (hn : n ≤ 100000) : Calls Try.prog 132 #[.int .u64 1, .int .u64 n] w (retK fun v w' => v = .tuple #[.int .u64 0, .int .u64 n] ∧ w' = w) := by
  have h1 : bitV .and .u64 1 4294967295 = 1 := and32 1 (by omega)
  have h2 : Int.fdiv 1 (2 ^ min 32 64) = 0 := by decide
  have h3 : (n : Int).fdiv (2 ^ min 32 64) = 0 := by
    rw [Int.fdiv_eq_ediv_of_nonneg _ (by decide)]
    exact Int.ediv_eq_zero_of_lt (by omega) (by simp; omega)
  have h4 : Int.fdiv 0 (2 ^ min 32 64) = 0 := by decide
  have h5 : bitV .and .u64 0 4294967295 = 0 := and32 0 (by omega)
  have h6 : IntKind.u64.wrap (n : Int) = n := wrap_u64 _ (by omega) (by omega)
  have h7 : IntKind.u64.wrap 0 = 0 := wrap_u64 _ (by omega) (by omega)
  apply math_bits_Mul64_link
  intro K hK
  unfold math_bits_Mul64
  simp -dsimp (disch := first | omega | (simp only [go_sem, seval]; first | done | omega)) only [go_sem, seval, h1, h2, h3, h4, and32 n hn]
  refine hK _ _ ⟨?_, rfl⟩
  simp only [h1, h2, h3, h4, h5, h6, h7, and32 n hn, Int.zero_mul, Int.one_mul, Int.add_zero, Int.zero_add, Int.mul_zero]
theorem mul_c (w : World) (n : Nat) (hn : n ≤ 100000) : Calls Try.prog 122 #[.int .u64 1, .int .u64 n] w (retK fun v w' => v = .tuple #[.int .u64 0, .int .u64 n] ∧ w' = w) := by
  apply math_bits_Mul_link
  intro K hK
  unfold math_bits_Mul
  refine OpX.call math_bits_Mul64_b rfl (Calls.ret (mul64_c _ n hn) ?_)
  rintro v w1 ⟨rfl, rfl⟩
  simp -dsimp (disch := first | omega | (simp only [go_sem, seval]; first | done | omega)) only [go_sem, seval]
  exact hK _ _ ⟨rfl, rfl⟩

theorem repeat_c {w : World} {e : Option TypeId} {a : Option Addr} {c : Cel} (hs : SxC w e a [c]) (cap n : Nat) (hn0 : 0 < n) (hn : n ≤ 20000) : Calls Try.prog 109 #[.slice a 1 cap, .int .i64 n] w
    (retK fun v w' => Chg [] w w' ∧ ∃ nb, v = .slice (some ⟨nb, 0, none⟩) n n ∧ w.heap.size ≤ nb ∧ w'.heap[nb]? = some (.cells ((List.replicate n c).flatMap Cel.cells).toArray 44)) := by
  apply slices_Repeat_api_Cell_api_Cell_link
  intro K hK
  unfold slices_Repeat_api_Cell_api_Cell
  refine Join0.inl ?_
  simp -dsimp (disch := first | omega | (simp only [go_sem, seval]; first | done | omega)) only [go_sem, seval]
  refine BrW.dec (fun h => by omega) (fun h => ?_)
  simp -dsimp (disch := first | omega | (simp only [go_sem, seval]; first | done | omega)) only [go_sem, seval]
  refine OpX.call math_bits_Mul_b rfl (Calls.ret (mul_c _ n (by omega)) ?_)
  rintro v w1 ⟨rfl, rfl⟩
  simp -dsimp (disch := first | omega | (simp only [go_sem, seval]; first | done | omega)) only [go_sem, seval]
  refine Join0.inl ?_
  refine Join1.inl ?_
  simp -dsimp (disch := first | omega | (simp only [go_sem, seval]; first | done | omega)) only [go_sem, seval]
  refine BrW.dec (fun h => by omega) (fun h => ?_)
  simp -dsimp (disch := first | omega | (simp only [go_sem, seval]; first | done | omega)) only [go_sem, seval]
  refine make_x (f := Cel.cells) Cel.none ty45mk Cel.len rfl (by omega) (by omega) (by omega) (Nat.le_refl _) ?_
  intro w2 hw2 ho2
  have hc2 : Chg [] w1 w2 := by rw [hw2]; exact (Chg.refl _ _).alloc _
  have hb2 : w2.heap[w1.heap.size]? = some (.cells ([] ++ (List.replicate 1 Cel.none).flatMap Cel.cells ++ (List.replicate (n - 1) Cel.none).flatMap Cel.cells).toArray 44) := by
    rw [hw2]
    simp -dsimp (disch := first | omega | (simp only [go_sem, seval]; first | done | omega)) only [go_sem, seval]
    rw [zrow_flat (f := Cel.cells) (z := Cel.none) (zs := [.int .i32 0, .int .u8 0, .int .u8 0, .int .u8 0]) rfl]
    have : n = 1 + (n - 1) := by omega
    conv => lhs; rw [this, ← List.replicate_append_replicate]
    simp
  obtain ⟨b, o, c', e2, fr, pre, post, rfl, k2, k3, k4, k5⟩ := (hs.chg0 hc2).at_ (by simp)
  have hs2 : SxC w2 e (some ⟨b, o, none⟩) [c] := hs.chg0 hc2
  refine copy_raw (t := 45) (new := [c].flatMap Cel.cells) ty45sl hb2 rfl (by simp [Cel.len]) (by simp [Cel.len]; omega) (okCells_flat Cel.ok _) hs2.cell ?_
  have hmin : min 1 n = 1 := by omega
  rw [hmin]
  have hc3 : Chg [] w1 (setBlk w2 w1.heap.size (.cells ([] ++ [c].flatMap Cel.cells ++ (List.replicate (n - 1) Cel.none).flatMap Cel.cells).toArray 44)) := hc2.set _ _ (.inr (Nat.le_refl _))
  have hb3 := heap_set_same w2 w1.heap.size (.cells ([] ++ [c].flatMap Cel.cells ++ (List.replicate (n - 1) Cel.none).flatMap Cel.cells).toArray 44) w1.heap.size rfl (lt_of_heap hb2)
  generalize setBlk w2 w1.heap.size (.cells ([] ++ [c].flatMap Cel.cells ++ (List.replicate (n - 1) Cel.none).flatMap Cel.cells).toArray 44) = w3 at hc3 hb3 ⊢
  refine Loop1.st (fun k : Nat => .int .i64 k) (fun k w' => 0 < k ∧ k ≤ n ∧ Chg [] w1 w' ∧ w'.heap[w1.heap.size]? = some (.cells ((List.replicate k c).flatMap Cel.cells ++ (List.replicate (n - k) Cel.none).flatMap Cel.cells).toArray 44)) (fun k => n - k) 1 rfl ⟨by omega, by omega, hc3, by rw [hb3]; rfl⟩ ?_
  rintro next k w4 hk ⟨h1, h2, h3, h4⟩
  simp -dsimp (disch := first | omega | (simp only [go_sem, seval]; first | done | omega)) only [go_sem, seval]
  refine BrW.dec (fun h5 => ?_) (fun h5 => ?_)
  · simp -dsimp (disch := first | omega | (simp only [go_sem, seval]; first | done | omega)) only [go_sem, seval]
    have e1 : slo 0 n k 4 = k * 4 := by unfold slo; rw [if_neg (by omega)]; omega
    try rw [e1]
    obtain ⟨m, hm⟩ : ∃ m, m = min k (n - k) := ⟨_, rfl⟩
    have hb5 : w4.drew.heap[w1.heap.size]? = some (.cells ((List.replicate k c).flatMap Cel.cells ++ (List.replicate m Cel.none).flatMap Cel.cells ++ (List.replicate (n - k - m) Cel.none).flatMap Cel.cells).toArray 44) := by
      show w4.heap[_]? = _
      rw [h4]
      have : n - k = m + (n - k - m) := by omega
      rw [this, ← List.replicate_append_replicate, ← this]
      simp only [List.flatMap_append, List.append_assoc]
    have hs5 : SxC w4.drew (some 44) (some ⟨w1.heap.size, 0, none⟩) (List.replicate m c) := by
      refine ⟨fun _ => ⟨_, 0, _, _, _, [], (List.replicate (k - m) c).flatMap Cel.cells ++ (List.replicate (n - k) Cel.none).flatMap Cel.cells, rfl, h4, by simp [tagOk], ?_, rfl⟩⟩
      have : List.replicate k c = List.replicate m c ++ List.replicate (k - m) c := by rw [List.replicate_append_replicate]; congr 1; omega
      rw [this]
      simp only [List.flatMap_append, List.append_assoc, List.nil_append]
    refine copy_raw (new := (List.replicate m c).flatMap Cel.cells) ty45sl hb5 (by rw [flat_len Cel.len]; simp) (by rw [flat_len Cel.len, flat_len Cel.len]; simp) (by rw [flat_len Cel.len, hm]; simp) (okCells_flat Cel.ok _) hs5.cell ?_
    rw [← hm]
    simp -dsimp (disch := first | omega | (simp only [go_sem, seval]; first | done | omega)) only [go_sem, seval]
    refine hk (k + m) _ ⟨by omega, by omega, (h3.set _ _ (.inr (Nat.le_refl _))).drew, ?_⟩ (by omega)
    show (setBlk w4 _ _).heap[_]? = _
    rw [heap_set_same _ _ _ _ rfl (lt_of_heap h4), ← List.replicate_append_replicate, show n - (k + m) = n - k - m by omega]
    simp only [List.flatMap_append, List.append_assoc]
  · have : k = n := by omega
    subst this
    refine hK _ _ ⟨h3, _, rfl, Nat.le_refl _, ?_⟩
    rw [h4]; simp

theorem filled_c (w : World) (x y : Nat) (c : Cel) (x0 : 0 < x) (x1 : x ≤ 200) (y0 : 0 < y) (y1 : y ≤ 60) : Calls Try.prog 91 #[.int .i64 x, .int .i64 y, c.val] w
    (retK fun v w' => GAt w.heap.size w' v (Gr.plain x y c) ∧ Chg [] w w') := by
  have hm := Nat.mul_le_mul x1 y1
  have hm0 := Nat.mul_pos x0 y0
  have e1 : (x : Int) * (y : Int) = ((x * y : Nat) : Int) := by simp
  apply grid_filled_link
  intro K hK
  unfold grid_filled
  simp -dsimp (disch := first | omega | (simp only [go_sem, seval]; first | done | omega)) only [go_sem, seval]
  simp -dsimp (disch := first | omega | (simp only [go_sem, seval]; first | done | omega)) only [go_sem, seval, e1]
  refine OpX.gen fun w0 hw0 => ?_
  have hc0 : Chg [] w w0 := by rw [hw0]; exact chg_a3 _ _ _ _
  have hz0 : w0.heap.size = w.heap.size + 3 := by rw [hw0]; simp -dsimp (disch := first | omega | (simp only [go_sem, seval]; first | done | omega)) only [go_sem, seval]
  have ho0 : w0.heap[w.heap.size + 1]? = some (.cells #[.int .i64 0, .int .i64 0, .slice none 0 0] 54) := by rw [hw0]; simp -dsimp (disch := first | omega | (simp only [go_sem, seval]; first | done | omega)) only [go_sem, seval]
  have hs0 : SxC w0 (some 44) (some ⟨w.heap.size + 1 + 1, 0, none⟩) [c] := Sx.built (c := c.cells) (by rw [hw0]; simp -dsimp (disch := first | omega | (simp only [go_sem, seval]; first | done | omega)) only [go_sem, seval]) (by simp)
  clear hw0
  refine OpX.call slices_Repeat_api_Cell_api_Cell_b rfl (Calls.ret (repeat_c hs0 1 (x * y) hm0 (by omega)) ?_)
  rintro v w1 ⟨hc1, nb, rfl, hnb, hb⟩
  have ho1 := hc1.keep ho0 (by simp)
  have hlo := lt_of_heap ho1
  simp -dsimp (disch := first | omega | (simp only [go_sem, seval]; first | done | omega)) only [go_sem, seval, ho1]
  refine hK _ _ ⟨⟨nb, x * y, [], ?_, by simp [Gr.plain], by omega, ?_⟩, (hc0.trans0 hc1).set _ _ (.inr (by omega))⟩
  · simp [Gr.val, Gr.plain]
  · rw [heap_set_other _ _ _ _ (by omega), hb]; simp [Gr.plain]

theorem gnew_c (w : World) (x y : Nat) (x0 : 0 < x) (x1 : x ≤ 200) (y0 : 0 < y) (y1 : y ≤ 60) : Calls Try.prog 79 #[.int .i64 x, .int .i64 y] w
    (retK fun v w' => GAt w.heap.size w' v (Gr.plain x y Cel.blank) ∧ Chg [] w w') := by
  have hf : fitsG x y = true := by unfold fitsG; apply decide_eq_true; omega
  apply grid_New_link
  intro K hK
  unfold grid_New
  simp -dsimp (disch := first | omega | (simp only [go_sem, seval]; first | done | omega)) only [go_sem, seval]
  refine OpX.call grid_fits_b rfl (Calls.ret (fits_c _ x y) ?_)
  rintro v w1 ⟨rfl, rfl⟩
  simp -dsimp (disch := first | omega | (simp only [go_sem, seval]; first | done | omega)) only [go_sem, seval, hf]
  refine OpX.call cell_Blank_b rfl (Calls.ret (cblank_c _) ?_)
  rintro v w2 ⟨rfl, hc2⟩
  have hc1 := chg_a1 w (.cells #[.int .i64 0, .int .i64 0, .slice none 0 0] 54)
  have ho1 : (w.alloc (.cells #[.int .i64 0, .int .i64 0, .slice none 0 0] 54)).heap[w.heap.size]? = some (.cells #[.int .i64 0, .int .i64 0, .slice none 0 0] 54) := by simp -dsimp (disch := first | omega | (simp only [go_sem, seval]; first | done | omega)) only [go_sem, seval]
  have hc12 := hc1.trans0 hc2
  have ho2 := hc2.keep ho1 (by simp)
  have hlo := lt_of_heap ho2
  refine OpX.call grid_filled_b rfl (Calls.ret (filled_c _ x y Cel.blank x0 x1 y0 y1) ?_)
  rintro v w3 ⟨⟨nb, cap', sp, rfl, k1, k2, k3⟩, hc3⟩
  have ho3 := hc3.keep ho2 (by simp)
  have hlo3 := lt_of_heap ho3
  simp -dsimp (disch := first | omega | (simp only [go_sem, seval]; first | done | omega)) only [go_sem, seval, Gr.val, ho3]
  refine hK _ _ ⟨⟨nb, cap', sp, rfl, k1, by omega, ?_⟩, (hc12.trans0 hc3).set _ _ (.inr (by omega))⟩
  rw [heap_set_other _ _ _ _ (by omega)]; exact k3

theorem row_put {w : World} {b o n : Nat} {e : TypeId} {pre post : List Value} {c : Nat → Cel} {i : Nat} (h : w.heap[b]? = some (.cells (pre ++ (lineOf n c).flatMap Cel.cells ++ post).toArray e)) (ho : pre.length = o) (hi : i < n) (v : Cel) (d : Nat → Cel) (hd : d i = v) (hdc : ∀ k, k < n → k ≠ i → d k = c k) :
    putAt w.heap[b]? (o + i * 4) [.int .i32 v.r, .int .u8 v.fg.toNat, .int .u8 v.bg.toNat, .int .u8 v.a.toNat] = some (.cells (pre ++ (lineOf n d).flatMap Cel.cells ++ post).toArray e) := by
  rw [← lineOf_set hi hd hdc]
  exact part_put h ho (by rw [lineOf_len]; exact hi) v

theorem doput_c {w : World} {g : Gr} (hg : g.ok) {bl br bc bx : Nat} {left right X : Int} {e : Option TypeId} {a : Option Addr} {l : List Cel} {cap : Nat} (h1 : NumAt w bl left) (h2 : NumAt w br right) (h3 : w.heap[bc]? = some (.cells #[.slice a l.length cap] 45)) (h4 : NumAt w bx X) (hs : SxC w e a l)
    (hl : 0 ≤ left) (hr : right ≤ g.w) (hx : ∀ i : Int, left ≤ i → i < right → X ≤ i ∧ i < X + l.length) (hX : -1000000 ≤ X) (top fin : Int) :
    DoSpec w g top fin (.func (.func 74) #[] #[.pointer (some ⟨bl, 0, none⟩), .pointer (some ⟨br, 0, none⟩), .pointer (some ⟨bc, 0, none⟩), .pointer (some ⟨bx, 0, none⟩)])
      (fun y => lineOf g.w fun x => if left ≤ (x : Int) ∧ (x : Int) < right then l.getD ((x : Int) - X).toNat Cel.none else g.at x y) := by
  intro y w1 nb pre post _ _ hy hc1 hnb hb hpre
  have hw1 := hg.w1
  have k1 := hc1.keep h1 (by simp)
  have k2 := hc1.keep h2 (by simp)
  have k3 := hc1.keep h3 (by simp)
  have k4 := hc1.keep h4 (by simp)
  have n1 := lt_of_heap h1
  have n2 := lt_of_heap h2
  have n3 := lt_of_heap h3
  have n4 := lt_of_heap h4
  refine YCall.of (us := []) (cs := [_, _, _, _]) grid_Put_1_b ?_
  show Calls _ _ #[.int .i64 y, rowV nb 0 g y, .pointer (some ⟨bl, 0, none⟩), .pointer (some ⟨br, 0, none⟩), .pointer (some ⟨bc, 0, none⟩), .pointer (some ⟨bx, 0, none⟩)] _ _
  obtain ⟨L, rfl⟩ := Int.eq_ofNat_of_zero_le hl
  apply grid_Put_1_link
  intro K hK
  unfold grid_Put_1
  simp -dsimp (disch := first | omega | (simp only [go_sem, seval]; first | done | omega)) only [go_sem, seval, k1, rowV]
  refine Loop1.st (fun k : Nat => .int .i64 k) (fun k w' => L ≤ k ∧ Chg [nb] w1 w' ∧ w'.heap[nb]? = some (.cells (pre ++ (lineOf g.w fun x => if (L : Int) ≤ (x : Int) ∧ (x : Int) < right ∧ x < k then l.getD ((x : Int) - X).toNat Cel.none else g.at x y).flatMap Cel.cells ++ post).toArray 44))
    (fun k => g.w - k) L rfl ⟨by omega, Chg.refl _ _, ?_⟩ ?_
  · rw [hb, hg.row_line hy]
    congr 6
    refine lineOf_congr fun i hi => ?_
    rw [if_neg (by omega)]
  · rintro next k w' hn ⟨i1, i2, i3⟩
    have m1 := i2.keep k1 (by simp; omega)
    have m2 := i2.keep k2 (by simp; omega)
    have m3 := i2.keep k3 (by simp; omega)
    have m4 := i2.keep k4 (by simp; omega)
    simp -dsimp (disch := first | omega | (simp only [go_sem, seval]; first | done | omega)) only [go_sem, seval, m2]
    refine BrW.dec (fun h5 => ?_) (fun h5 => ?_)
    · obtain ⟨x1, x2⟩ := hx k (by omega) h5
      have hs' : SxC w' e a l := (hs.chg0 hc1).chg i2 (fun b o ha hl hm => by have := hs.lt hl ha; simp at hm; omega)
      obtain ⟨q, hq⟩ := Int.eq_ofNat_of_zero_le (show 0 ≤ (k : Int) - X by omega)
      have hql : q < l.length := by omega
      obtain ⟨b', o', rfl, hb', h6, -⟩ := SxC.cel hs' (List.getElem?_eq_getElem hql)
      have hp := row_put i3 hpre (i := k) (by omega) l[q] (fun x => if (L : Int) ≤ (x : Int) ∧ (x : Int) < right ∧ x < k + 1 then l.getD ((x : Int) - X).toNat Cel.none else g.at x y)
        (by rw [if_pos (by omega), hq]; simp [List.getD_eq_getElem?_getD, hql]) (fun j hj hne => by
          have : ((L : Int) ≤ (j : Int) ∧ (j : Int) < right ∧ j < k + 1) ↔ ((L : Int) ≤ (j : Int) ∧ (j : Int) < right ∧ j < k) := by omega
          simp only [this])
      simp -dsimp (disch := first | omega | (simp only [go_sem, seval]; first | done | omega)) only [go_sem, seval, m3, m4, hq, h6, rowV, hp]
      refine hn (k + 1) _ ⟨by omega, i2.set _ _ (by simp), ?_⟩ (by omega)
      rw [heap_set_same _ _ _ _ rfl (lt_of_heap i3)]
      simp
    · refine hK _ _ ⟨i2, ?_⟩
      rw [i3]
      congr 6
      refine lineOf_congr fun i hi => ?_
      have : ((L : Int) ≤ (i : Int) ∧ (i : Int) < right ∧ i < k) ↔ ((L : Int) ≤ (i : Int) ∧ (i : Int) < right) := by omega
      simp only [this]

theorem doscroll_c {w : World} {g : Gr} (hg : g.ok) {bn bt be bc bg : Nat} {top' end' N : Int} {e : Option TypeId} {b o cap : Nat} {c : Cel} (h1 : NumAt w bn N) (h2 : NumAt w bt top') (h3 : NumAt w be end') (h4 : CelAt w bc c)
    (h5 : w.heap[bg]? = some (.cells #[.int .i64 g.w, .int .i64 g.h, .slice (some ⟨b, o, none⟩) g.cs.length cap] 54)) (hs : SxC w e (some ⟨b, o, none⟩) g.cs) (hcap : g.cs.length ≤ cap)
    (ht : 0 ≤ top') (he : end' ≤ g.h) (hN : -100 ≤ N ∧ N ≤ 100) (top fin : Int) :
    DoSpec w g top fin (.func (.func 87) #[] #[.pointer (some ⟨bn, 0, none⟩), .pointer (some ⟨bt, 0, none⟩), .pointer (some ⟨be, 0, none⟩), .pointer (some ⟨bc, 0, none⟩), .pointer (some ⟨bg, 0, none⟩)])
      (fun y => if (y : Int) + N < top' ∨ end' ≤ (y : Int) + N then lineOf g.w fun _ => c else g.row ((y : Int) + N).toNat) := by
  intro y w1 nb pre post _ _ hy hc1 hnb hb hpre
  have hw1 := hg.w1
  have hh1 := hg.h1
  have k1 := hc1.keep h1 (by simp)
  have k2 := hc1.keep h2 (by simp)
  have k3 := hc1.keep h3 (by simp)
  have k4 := hc1.keep h4 (by simp)
  have k5 := hc1.keep h5 (by simp)
  have hrl := hg.row_len hy
  refine YCall.of (us := []) (cs := [_, _, _, _, _]) grid_Scroll_1_b ?_
  show Calls _ _ #[.int .i64 y, rowV nb 0 g y, .pointer (some ⟨bn, 0, none⟩), .pointer (some ⟨bt, 0, none⟩), .pointer (some ⟨be, 0, none⟩), .pointer (some ⟨bc, 0, none⟩), .pointer (some ⟨bg, 0, none⟩)] _ _
  apply grid_Scroll_1_link
  intro K hK
  unfold grid_Scroll_1
  refine Join1.cut (fun v w' => v = .bool (decide ((y : Int) + N < top' ∨ end' ≤ (y : Int) + N)) ∧ w' = w1) ?_ ?_
  · simp -dsimp (disch := first | omega | (simp only [go_sem, seval]; first | done | omega)) only [go_sem, seval, k1, k2, k3]
    refine BrW.dec (fun h => ?_) (fun h => ?_)
    · exact ⟨by simp [h], rfl⟩
    · simp -dsimp (disch := first | omega | (simp only [go_sem, seval]; first | done | omega)) only [go_sem, seval, k1, k2, k3]
      simp [h]
  · rintro v w2 ⟨rfl, rfl⟩
    refine BrW.dec (fun h => ?_) (fun h => ?_)
    · simp -dsimp (disch := first | omega | (simp only [go_sem, seval]; first | done | omega)) only [go_sem, seval, k4, rowV]
      refine OpX.call grid_fill_b rfl (Calls.ret (fill_c hb (by omega) hrl (by omega) c) ?_)
      rintro v w3 ⟨hc3, hb3⟩
      refine hK _ _ ⟨hc3, ?_⟩
      dsimp only
      rw [if_pos h, hb3]
    · obtain ⟨q, hq⟩ := Int.eq_ofNat_of_zero_le (show 0 ≤ (y : Int) + N by omega)
      simp -dsimp (disch := first | omega | (simp only [go_sem, seval]; first | done | omega)) only [go_sem, seval, k1, k5, hq]
      refine OpX.call grid_cut_b rfl (Calls.ret (cut_c (w := w2) hg b o cap hcap q (by omega)) ?_)
      rintro v w3 ⟨rfl, hc3⟩
      have hb3 := hc3.keep hb (by simp)
      have hs3 : SxC w3 e (some ⟨b, o + q * g.w * 4, none⟩) (g.row q) := Sx.sub ((hs.chg0 hc1).chg0 hc3) Cel.len (q * g.w) g.w _ (.inr (.inr rfl))
      have hql := hg.row_len (y := q) (by omega)
      refine copy_raw (new := (g.row q).flatMap Cel.cells) ty45sl hb3 (by omega) (by rw [flat_len Cel.len, flat_len Cel.len, hql, hrl]) (by rw [flat_len Cel.len, hql]; simp) (okCells_flat Cel.ok _) hs3.cell ?_
      refine hK _ _ ⟨(hc3.mono (by simp)).set _ _ (by simp), ?_⟩
      dsimp only
      rw [if_neg h, heap_set_same _ _ _ _ rfl (lt_of_heap hb3), hq]
      rfl

theorem doshift_c {w : World} {g : Gr} (hg : g.ok) {bn bx bc bg : Nat} {X N : Int} {e : Option TypeId} {b o cap : Nat} {c : Cel} (h1 : NumAt w bn N) (h2 : NumAt w bx X) (h4 : CelAt w bc c)
    (h5 : w.heap[bg]? = some (.cells #[.int .i64 g.w, .int .i64 g.h, .slice (some ⟨b, o, none⟩) g.cs.length cap] 54)) (hs : SxC w e (some ⟨b, o, none⟩) g.cs) (hcap : g.cs.length ≤ cap)
    (hX : 0 ≤ X ∧ X ≤ 9223372036854775807) (hN : -1000 ≤ N ∧ N ≤ 1000) (top fin : Int) :
    DoSpec w g top fin (.func (.func 106) #[] #[.pointer (some ⟨bg, 0, none⟩), .pointer (some ⟨bx, 0, none⟩), .pointer (some ⟨bc, 0, none⟩), .pointer (some ⟨bn, 0, none⟩)])
      (fun y => lineOf g.w fun x => if X ≤ (x : Int) then (if X ≤ (x : Int) - N ∧ (x : Int) - N < g.w then g.at ((x : Int) - N).toNat y else c) else g.at x y) := by
  intro y w1 nb pre post _ _ hy hc1 hnb hb hpre
  have hw1 := hg.w1
  have hh1 := hg.h1
  have k1 := hc1.keep h1 (by simp)
  have k2 := hc1.keep h2 (by simp)
  have k4 := hc1.keep h4 (by simp)
  have k5 := hc1.keep h5 (by simp)
  have n1 := lt_of_heap h1
  have n2 := lt_of_heap h2
  have n4 := lt_of_heap h4
  have n5 := lt_of_heap h5
  have hrl := hg.row_len hy
  obtain ⟨L, rfl⟩ := Int.eq_ofNat_of_zero_le hX.1
  refine YCall.of (us := []) (cs := [_, _, _, _]) grid_Shift_1_b ?_
  show Calls _ _ #[.int .i64 y, rowV nb 0 g y, .pointer (some ⟨bg, 0, none⟩), .pointer (some ⟨bx, 0, none⟩), .pointer (some ⟨bc, 0, none⟩), .pointer (some ⟨bn, 0, none⟩)] _ _
  apply grid_Shift_1_link
  intro K hK
  unfold grid_Shift_1
  simp -dsimp (disch := first | omega | (simp only [go_sem, seval]; first | done | omega)) only [go_sem, seval, k5]
  refine OpX.call grid_cut_b rfl (Calls.ret (cut_c (w := w1) hg b o cap hcap y hy) ?_)
  rintro v w2 ⟨rfl, hc2⟩
  have k2' := hc2.keep k2 (by simp)
  have hb2 := hc2.keep hb (by simp)
  have hs2 : SxC w2 e (some ⟨b, o + y * g.w * 4, none⟩) (g.row y) := Sx.sub ((hs.chg0 hc1).chg0 hc2) Cel.len (y * g.w) g.w _ (.inr (.inr rfl))
  have hbo : b < w.heap.size := hs.lt hg.ne rfl
  simp -dsimp (disch := first | omega | (simp only [go_sem, seval]; first | done | omega)) only [go_sem, seval, k2']
  refine Loop1.st (fun k : Nat => .int .i64 k) (fun k w' => L ≤ k ∧ Chg [nb] w1 w' ∧ w'.heap[nb]? = some (.cells (pre ++ (lineOf g.w fun x => if (L : Int) ≤ (x : Int) ∧ x < k then (if (L : Int) ≤ (x : Int) - N ∧ (x : Int) - N < g.w then g.at ((x : Int) - N).toNat y else c) else g.at x y).flatMap Cel.cells ++ post).toArray 44)
      ∧ SxC w' e (some ⟨b, o + y * g.w * 4, none⟩) (g.row y))
    (fun k => g.w - k) L rfl ⟨by omega, hc2.mono (by simp), ?_, hs2⟩ ?_
  · rw [hb2, hg.row_line hy]
    congr 6
    refine lineOf_congr fun i hi => ?_
    rw [if_neg (by omega)]
  · rintro next k w' hn ⟨i1, i2, i3, i4⟩
    have m1 := i2.keep k1 (by simp; omega)
    have m2 := i2.keep k2 (by simp; omega)
    have m4 := i2.keep k4 (by simp; omega)
    have m5 := i2.keep k5 (by simp; omega)
    simp -dsimp (disch := first | omega | (simp only [go_sem, seval]; first | done | omega)) only [go_sem, seval, m5]
    refine BrW.dec (fun h5 => ?_) (fun h5 => ?_)
    · have hkw : k < g.w := by omega
      have hp := row_put i3 hpre (i := k) hkw c (fun x => if x = k then c else if (L : Int) ≤ (x : Int) ∧ x < k then (if (L : Int) ≤ (x : Int) - N ∧ (x : Int) - N < g.w then g.at ((x : Int) - N).toNat y else c) else g.at x y)
        (by rw [if_pos rfl]) (fun j hj hne => by rw [if_neg hne])
      have hb6 := heap_set_same w' nb (.cells (pre ++ (lineOf g.w (fun x => if x = k then c else if (L : Int) ≤ (x : Int) ∧ x < k then (if (L : Int) ≤ (x : Int) - N ∧ (x : Int) - N < g.w then g.at ((x : Int) - N).toNat y else c) else g.at x y)).flatMap Cel.cells ++ post).toArray 44) nb rfl (lt_of_heap i3)
      have hc6 := (Chg.refl [nb] w').set nb (.cells (pre ++ (lineOf g.w (fun x => if x = k then c else if (L : Int) ≤ (x : Int) ∧ x < k then (if (L : Int) ≤ (x : Int) - N ∧ (x : Int) - N < g.w then g.at ((x : Int) - N).toNat y else c) else g.at x y)).flatMap Cel.cells ++ post).toArray 44) (by simp)
      simp only [List.append_assoc] at hp hb6 hc6
      simp -dsimp (disch := first | omega | (simp only [go_sem, seval]; first | done | omega)) only [go_sem, seval, m4, rowV, hp]
      generalize setBlk w' nb _ = w6 at hb6 hc6 ⊢
      have p1 := hc6.keep m1 (by simp; omega)
      have p2 := hc6.keep m2 (by simp; omega)
      have p5 := hc6.keep m5 (by simp; omega)
      have i6 := i2.trans hc6 (by simp)
      have hs6 : SxC w6 e (some ⟨b, o + y * g.w * 4, none⟩) (g.row y) := i4.chg hc6 (fun b' o' ha hl hm => by cases ha; simp at hm; omega)
      refine Join1.cut (fun v w' => v = .bool (decide ((L : Int) ≤ (k : Int) - N ∧ (k : Int) - N < g.w)) ∧ w' = w6) ?_ ?_
      · simp -dsimp (disch := first | omega | (simp only [go_sem, seval]; first | done | omega)) only [go_sem, seval, p1, p2, p5]
        refine BrW.dec (fun h => ?_) (fun h => ?_)
        · simp -dsimp (disch := first | omega | (simp only [go_sem, seval]; first | done | omega)) only [go_sem, seval, p1, p5]
          simp [h]
        · exact ⟨by simp [h], rfl⟩
      · rintro v w7 ⟨rfl, rfl⟩
        refine BrW.dec (fun h => ?_) (fun h => ?_)
        · obtain ⟨q, hq⟩ := Int.eq_ofNat_of_zero_le (show 0 ≤ (k : Int) - N by omega)
          have hqw : q < g.w := by omega
          obtain ⟨b', o', hbo', hb', h6, -⟩ := SxC.cel hs6 (hg.row_get hqw hy)
          cases hbo'
          simp only [← List.append_assoc] at hb6
          have hp2 := row_put hb6 hpre (i := k) hkw (g.at q y) (fun x => if (L : Int) ≤ (x : Int) ∧ x < k + 1 then (if (L : Int) ≤ (x : Int) - N ∧ (x : Int) - N < g.w then g.at ((x : Int) - N).toNat y else c) else g.at x y)
            (by rw [if_pos (by omega), if_pos h, hq]; rfl) (fun j hj hne => by
              have : ((L : Int) ≤ (j : Int) ∧ j < k + 1) ↔ ((L : Int) ≤ (j : Int) ∧ j < k) := by omega
              simp only [this, if_neg hne])
          simp -dsimp (disch := first | omega | (simp only [go_sem, seval]; first | done | omega)) only [go_sem, seval, p1, hq, h6, rowV, hp2]
          refine hn (k + 1) _ ⟨by omega, i6.set _ _ (by simp), ?_, ?_⟩ (by omega)
          · rw [heap_set_same _ _ _ _ rfl (lt_of_heap hb6)]
            simp
          · exact hs6.chg ((Chg.refl [nb] _).set _ _ (by simp)) (fun b' o' ha hl hm => by cases ha; simp at hm; omega)
        · simp -dsimp (disch := first | omega | (simp only [go_sem, seval]; first | done | omega)) only [go_sem, seval]
          refine hn (k + 1) _ ⟨by omega, i6, ?_, hs6⟩ (by omega)
          rw [hb6]
          simp only [← List.append_assoc]
          congr 6
          refine lineOf_congr fun j hj => ?_
          by_cases hne : j = k
          · subst hne
            rw [if_pos rfl, if_pos (by omega), if_neg h]
          · have : ((L : Int) ≤ (j : Int) ∧ j < k + 1) ↔ ((L : Int) ≤ (j : Int) ∧ j < k) := by omega
            simp only [this, if_neg hne]
    · refine hK _ _ ⟨i2, ?_⟩
      rw [i3]
      congr 6
      refine lineOf_congr fun i hi => ?_
      have : ((L : Int) ≤ (i : Int) ∧ i < k) ↔ ((L : Int) ≤ (i : Int)) := by omega
      simp only [this]
end Go.Proofs.Ytdjdeahmhenchaa
