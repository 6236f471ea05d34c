/- The contracts of package grid: what is done with a row. -/
import Derived.Test.YtdjdeahmhenchaaGridB
set_option linter.unusedSimpArgs false
set_option linter.unusedVariables false
namespace Go.Proofs.Ytdjdeahmhenchaa
open Lyc Go

/-- One cell of a part of a block is written. -/
theorem part_put {w : World} {b o : Nat} {e : TypeId} {pre post : List Value} {l : List Cel} {i : Nat} (h : w.heap[b]? = some (.cells (pre ++ l.flatMap Cel.cells ++ post).toArray e)) (ho : pre.length = o) (hi : i < l.length) (y : Cel) :
    putAt w.heap[b]? (o + i * 4) y.cells = some (.cells (pre ++ (l.set i y).flatMap Cel.cells ++ post).toArray e) := by
  obtain ⟨p, q, h1, h2, h3⟩ := flat_set Cel.len l i l[i] y (List.getElem?_eq_getElem hi)
  rw [h, h1, h3]
  have := putAt_mid (pre ++ p) (l[i].cells) y.cells (q ++ post) e (o + i * 4) (by simp; omega) rfl
  simpa using this
theorem part_get {w : World} {b o : Nat} {e : TypeId} {pre post : List Value} {l : List Cel} (h : w.heap[b]? = some (.cells (pre ++ l.flatMap Cel.cells ++ post).toArray e)) (ho : pre.length = o) : SxC w (some e) (some ⟨b, o, none⟩) l :=
  ⟨fun _ => ⟨b, o, _, _, _, pre, post, rfl, h, by simp [tagOk], rfl, ho⟩⟩

theorem fill_c {w : World} {b o n cap : Nat} {e : TypeId} {pre post : List Value} {l : List Cel} (h : w.heap[b]? = some (.cells (pre ++ l.flatMap Cel.cells ++ post).toArray e)) (ho : pre.length = o) (hn : l.length = n) (hl : n ≤ 100000) (c : Cel) :
    Calls Try.prog 86 #[.slice (some ⟨b, o, none⟩) n cap, c.val] w (retK fun _ w' => Chg [b] w w' ∧ w'.heap[b]? = some (.cells (pre ++ (lineOf n fun _ => c).flatMap Cel.cells ++ post).toArray e)) := by
  have hb := lt_of_heap h
  apply grid_fill_link
  intro K hK
  unfold grid_fill
  simp -dsimp (disch := first | omega | (simp only [go_sem, seval]; first | done | omega)) only [go_sem, seval]
  refine Loop1.st (fun k : Nat => .int .i64 k) (fun k w' => k ≤ n ∧ Chg [b] w w' ∧ w'.heap[w.heap.size]? = some (.cells c.cells.toArray 44) ∧ ∃ l', w'.heap[b]? = some (.cells (pre ++ l'.flatMap Cel.cells ++ post).toArray e) ∧ l'.length = n ∧ ∀ i, i < k → l'[i]? = some c)
    (fun k => n - k) 0 rfl ⟨by omega, (Chg.refl _ _).alloc _, (by simp -dsimp (disch := first | omega | (simp only [go_sem, seval]; first | done | omega)) only [go_sem, seval]), l, (by simp -dsimp (disch := first | omega | (simp only [go_sem, seval]; first | done | omega)) only [go_sem, seval, h]), hn, by simp⟩ ?_
  rintro next k w' hk ⟨h1, hc, hbx, l', h2, h3, h4⟩
  simp -dsimp (disch := first | omega | (simp only [go_sem, seval]; first | done | omega)) only [go_sem, seval]
  refine BrW.dec (fun h5 => ?_) (fun h5 => ?_)
  · have h6 : k < n := by omega
    have hp := part_put h2 ho (i := k) (by omega) c
    have hp' : putAt w'.heap[b]? (o + k * 4) [.int .i32 c.r, .int .u8 c.fg.toNat, .int .u8 c.bg.toNat, .int .u8 c.a.toNat] = some _ := hp
    simp -dsimp (disch := first | omega | (simp only [go_sem, seval]; first | done | omega)) only [go_sem, seval, hbx, hp']
    refine hk (k + 1) _ ⟨by omega, hc.set _ _ (by simp), ?_, l'.set k c, (by rw [heap_set_same _ _ _ _ rfl (lt_of_heap h2)]; simp), by simpa using h3, ?_⟩ (by omega)
    · rw [heap_set_other _ _ _ _ (by omega)]; exact hbx
    · intro i hi
      rw [List.getElem?_set]
      split
      · rw [if_pos (by omega)]
      · exact h4 i (by omega)
  · have h6 : k = n := by omega
    subst h6
    refine hK _ _ ⟨hc, ?_⟩
    rw [h2, lineOf_of h3 h4]

theorem fill_0 (w : World) (a : Option Addr) (cap : Nat) (c : Cel) :
    Calls Try.prog 86 #[.slice a 0 cap, c.val] w (retK fun _ w' => Chg [] w w') := by
  apply grid_fill_link
  intro K hK
  unfold grid_fill
  simp -dsimp (disch := first | omega | (simp only [go_sem, seval]; first | done | omega)) only [go_sem, seval]
  refine Loop1.st (fun k : Nat => .int .i64 k) (fun k w' => Chg [] w w') (fun k => 0) 0 rfl ((Chg.refl _ _).alloc _) ?_
  rintro next k w' hk hc
  simp -dsimp (disch := first | omega | (simp only [go_sem, seval]; first | done | omega)) only [go_sem, seval]
  refine BrW.dec (fun h5 => ?_) (fun h5 => ?_)
  · omega
  · exact hK _ _ hc

/-- Where closures find what they go by. -/
def NumAt (w : World) (b : Nat) (n : Int) : Prop := w.heap[b]? = some (.cells #[.int .i64 n] 3)
def CelAt (w : World) (b : Nat) (c : Cel) : Prop := w.heap[b]? = some (.cells c.cells.toArray 44)

theorem dofill_c {w : World} {g : Gr} (hg : g.ok) {bl br bc : Nat} {left right : Int} {c : Cel} (h1 : NumAt w bl left) (h2 : NumAt w br right) (h3 : CelAt w bc c) (hl : 0 ≤ left) (hlr : left ≤ right) (hr : right ≤ g.w) (top fin : Int) :
    DoSpec w g top fin (.func (.func 85) #[] #[.pointer (some ⟨bl, 0, none⟩), .pointer (some ⟨br, 0, none⟩), .pointer (some ⟨bc, 0, none⟩)])
      (fun y => lineOf g.w fun x => if left ≤ (x : Int) ∧ (x : Int) < right then c else g.at x y) := by
  intro y w1 nb pre post _ _ hy hc1 hnb hb hpre
  have hw1 := hg.w1
  have k1 := hc1.keep h1 (by simp)
  have k2 := hc1.keep h2 (by simp)
  have k3 := hc1.keep h3 (by simp)
  refine YCall.of (us := []) (cs := [_, _, _]) grid_Fill_1_b ?_
  show Calls _ _ #[.int .i64 y, rowV nb 0 g y, .pointer (some ⟨bl, 0, none⟩), .pointer (some ⟨br, 0, none⟩), .pointer (some ⟨bc, 0, none⟩)] _ _
  obtain ⟨L, rfl⟩ := Int.eq_ofNat_of_zero_le hl
  obtain ⟨Rt, rfl⟩ := Int.eq_ofNat_of_zero_le (Int.le_trans hl hlr)
  apply grid_Fill_1_link
  intro K hK
  unfold grid_Fill_1
  simp -dsimp (disch := first | omega | (simp only [go_sem, seval]; first | done | omega)) only [go_sem, seval, k1, k2, k3, rowV]
  have hrl := hg.row_len hy
  by_cases hz : Rt - L = 0
  · rw [hz]
    refine OpX.call grid_fill_b rfl (Calls.ret (fill_0 _ _ _ c) ?_)
    rintro v w2 hc2
    have hc2' := (Chg.refl [] w1).drew.trans0 hc2
    refine hK _ _ ⟨hc2'.mono (by simp), ?_⟩
    rw [hc2'.keep hb (by simp), hg.row_line hy]
    congr 6
    refine lineOf_congr fun i hi => ?_
    rw [if_neg (by omega)]
  · have e1 : slo (y * g.w * 4) g.w L 4 = y * g.w * 4 + L * 4 := by unfold slo; rw [if_neg (by omega)]
    rw [e1]
    have hsp : g.row y = (g.row y).take L ++ ((g.row y).drop L).take (Rt - L) ++ (g.row y).drop Rt := by
      have e2 : (g.row y).drop Rt = ((g.row y).drop L).drop (Rt - L) := by rw [List.drop_drop]; congr 1; omega
      rw [e2, List.append_assoc, List.take_append_drop, List.take_append_drop]
    have hb2 : w1.drew.heap[nb]? = some (Obj.cells ((pre ++ ((g.row y).take L).flatMap Cel.cells) ++ (((g.row y).drop L).take (Rt - L)).flatMap Cel.cells ++ (((g.row y).drop Rt).flatMap Cel.cells ++ post)).toArray 44) := by
      show w1.heap[nb]? = _
      rw [hb]
      conv => lhs; rw [hsp]
      simp
    refine OpX.call grid_fill_b rfl (Calls.ret (fill_c hb2 (by rw [List.length_append, hpre, flat_len Cel.len, List.length_take, Nat.min_eq_left (by omega)]) (by simp; omega) (by omega) c) ?_)
    rintro v w2 ⟨hc2, hb3⟩
    refine hK _ _ ⟨(Chg.refl [nb] w1).drew.trans hc2 (by simp), ?_⟩
    rw [hb3]
    have : (lineOf g.w fun x => if (L : Int) ≤ (x : Int) ∧ (x : Int) < (Rt : Int) then c else g.at x y) = (g.row y).take L ++ (lineOf (Rt - L) fun _ => c) ++ (g.row y).drop Rt := by
      refine (lineOf_of ?_ fun i hi => ?_).symm
      · simp [lineOf_len]; omega
      · by_cases h4 : i < L
        · rw [List.append_assoc, List.getElem?_append_left (by simp; omega), List.getElem?_take_of_lt h4, hg.row_get hi hy, if_neg (by omega)]
        · by_cases h5 : i < Rt
          · rw [List.getElem?_append_left (by simp [lineOf_len]; omega), List.getElem?_append_right (by simp; omega), lineOf_get (by simp; omega), if_pos (by omega)]
          · rw [List.getElem?_append_right (by simp [lineOf_len]; omega), List.getElem?_drop]
            have : Rt + (i - ((g.row y).take L ++ lineOf (Rt - L) fun _ => c).length) = i := by simp [lineOf_len]; omega
            rw [this, hg.row_get hi hy, if_neg (by omega)]
    dsimp only
    rw [this]
    simp

theorem gfill_c {w : World} {g : Gr} (hg : g.ok) (hr : g.right = true) {e : Option TypeId} {a : Option Addr} (hs : SxC w e a g.cs) (cap : Nat) (hcap : g.cs.length ≤ cap) {X Y W H : Int} {c : Cel} (hu : c.usual = true)
    (hX : -9223372036854775808 ≤ X ∧ X ≤ 9223372036854775807) (hY : -9223372036854775808 ≤ Y ∧ Y ≤ 9223372036854775807) (hW : W ≤ 9223372036854775807) (hH : H ≤ 9223372036854775807) :
    Calls Try.prog 45 #[g.val a cap, .agg #[.int .i64 X, .int .i64 Y, .int .i64 W, .int .i64 H], c.val] w (retK fun v w' => GAt w.heap.size w' v (g.fill X Y W H c) ∧ Chg [] w w') := by
  have hh1 := hg.h1
  have hw1 := hg.w1
  apply grid_Fill_link
  intro K hK
  unfold grid_Fill
  simp -dsimp (disch := first | omega | (simp only [go_sem, seval]; first | done | omega)) only [go_sem, seval, Gr.val]
  refine Join1.inl ?_
  simp -dsimp (disch := first | omega | (simp only [go_sem, seval]; first | done | omega)) only [go_sem, seval]
  refine OpX.gen fun w0 hw0 => ?_
  have hc0 : Chg [] w w0 := by rw [hw0]; exact chg_a4 _ _ _ _ _
  have hz0 : w0.heap.size = w.heap.size + 4 := by rw [hw0]; simp -dsimp (disch := first | omega | (simp only [go_sem, seval]; first | done | omega)) only [go_sem, seval]
  have hg0 : w0.heap[w.heap.size]? = some (.cells #[.int .i64 g.w, .int .i64 g.h, .slice a g.cs.length cap] 54) := by rw [hw0]; simp -dsimp (disch := first | omega | (simp only [go_sem, seval]; first | done | omega)) only [go_sem, seval]
  have hr0 : w0.heap[w.heap.size + 1]? = some (.cells #[.int .i64 X, .int .i64 Y, .int .i64 W, .int .i64 H] 66) := by rw [hw0]; simp -dsimp (disch := first | omega | (simp only [go_sem, seval]; first | done | omega)) only [go_sem, seval]
  have hk0 : w0.heap[w.heap.size + 2]? = some (.cells c.cells.toArray 44) := by rw [hw0]; simp -dsimp (disch := first | omega | (simp only [go_sem, seval]; first | done | omega)) only [go_sem, seval]
  have ho0 : w0.heap[w.heap.size + 3]? = some (.cells #[.int .i64 0, .int .i64 0, .slice none 0 0] 54) := by rw [hw0]; simp -dsimp (disch := first | omega | (simp only [go_sem, seval]; first | done | omega)) only [go_sem, seval]
  clear hw0
  refine OpX.call grid_Check_b rfl (Calls.ret (gcheck_c hg (hs.chg0 hc0) cap hcap) ?_)
  rintro v w1 ⟨rfl, hc1⟩
  rw [hr]
  have hk1 := hc1.keep hk0 (by simp)
  simp -dsimp (disch := first | omega | (simp only [go_sem, seval]; first | done | omega)) only [go_sem, seval, hk1]
  refine OpX.call grid_usual_b rfl (Calls.ret (usual_c _ c) ?_)
  rintro v w2 ⟨rfl, hc2⟩
  rw [hu]
  have hc12 := hc1.trans0 hc2
  have hg2 := hc12.keep hg0 (by simp)
  have hr2 := hc12.keep hr0 (by simp)
  simp -dsimp (disch := first | omega | (simp only [go_sem, seval]; first | done | omega)) only [go_sem, seval, hg2, hr2]
  refine OpX.call grid_span_b rfl (Calls.ret (span_c _ Y H g.h (by omega) (by omega) hY.1 hY.2 hH) ?_)
  rintro v w3 ⟨rfl, rfl⟩
  simp -dsimp (disch := first | omega | (simp only [go_sem, seval]; first | done | omega)) only [go_sem, seval, hg2, hr2]
  refine OpX.call grid_span_b rfl (Calls.ret (span_c _ X W g.w (by omega) (by omega) hX.1 hX.2 hW) ?_)
  rintro v w4 ⟨rfl, rfl⟩
  have hlt := lt_of_heap hr2
  simp -dsimp (disch := first | omega | (simp only [go_sem, seval]; first | done | omega)) only [go_sem, seval, hg2]
  refine OpX.gen fun w5 hw5 => ?_
  have hc5 : Chg [] w4 w5 := by rw [hw5]; exact chg_a2 _ _ _
  have hl5 : NumAt w5 w4.heap.size (spanG X W g.w).1 := by show w5.heap[_]? = _; rw [hw5]; simp -dsimp (disch := first | omega | (simp only [go_sem, seval]; first | done | omega)) only [go_sem, seval]
  have hm5 : NumAt w5 (w4.heap.size + 1) (spanG X W g.w).2 := by show w5.heap[_]? = _; rw [hw5]; simp -dsimp (disch := first | omega | (simp only [go_sem, seval]; first | done | omega)) only [go_sem, seval]
  have hk5 : CelAt w5 (w.heap.size + 2) c := (hc12.trans0 hc5).keep hk0 (by simp)
  have hc05 := (hc0.trans0 hc12).trans0 hc5
  clear hw5
  have hb1 := spanG_b (x := X) (n := W) (size := g.w) (by omega)
  have hb2 := spanG_b (x := Y) (n := H) (size := g.h) (by omega)
  refine OpX.call grid_change_b rfl (Calls.ret (change_c hg (hs.chg0 hc05) cap (by omega) (by omega) (dofill_c hg hl5 hm5 hk5 hb1.1 hb1.2.1 hb1.2.2 _ _) (fun y _ _ _ => lineOf_len _ _)) ?_)
  rintro v w6 ⟨hga, hc6⟩
  have hc06 := hc05.trans0 hc6
  have ho6 := ((hc12.trans0 hc5).trans0 hc6).keep ho0 (by simp)
  have hlo := lt_of_heap ho6
  have hs5 := hc5.size
  have hs12 := hc12.size
  obtain ⟨nb, cap', sp, rfl, k1, k2, k3⟩ := hga
  simp -dsimp (disch := first | omega | (simp only [go_sem, seval]; first | done | omega)) only [go_sem, seval, Gr.val, ho6]
  refine hK _ _ ⟨⟨nb, cap', sp, rfl, k1, by omega, ?_⟩, hc06.set _ _ (.inr (by omega))⟩
  rw [heap_set_other _ _ _ _ (by omega)]; exact k3
end Go.Proofs.Ytdjdeahmhenchaa
