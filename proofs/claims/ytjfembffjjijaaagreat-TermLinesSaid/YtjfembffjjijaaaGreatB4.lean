/- Helpers of this claim, part 4: engine, translated functions, contracts, plain laws. -/
import Derived.Test.YtjfembffjjijaaaGreatB3
import Derived.Shelf.Small.Utf8
import Derived.Shelf.LaysM
import Derived.Shelf.Strconv.Clone
import Derived.Shelf.Strings.Search1
import Derived.Shelf.Strings.Search2
import Derived.Shelf.Strings.Search3
import Derived.Shelf.Strings.Shaped
import Derived.Shelf.Bits.Mul64
import Derived.Test.YtjfembffjjijaaaGreatProg
import Derived.Test.YtjfembffjjijaaaGreatB1
import Derived.Laws.BytesString
import Derived.Test.YtjfembffjjijaaaGreatB2
import Derived.Test.YtjfembffjjijaaaGreatRows
import Derived.Lib.SmallJoins
set_option linter.unusedSimpArgs false
set_option linter.unusedVariables false
namespace Go.Proofs.YtjfembffjjijaaaGreat
open Lyc Go
theorem num_i64 {a : Act'} (hf : a.fits) {i : Nat} (hi : i < 8) : i64ok (a.nums.getD i 0) := by
  refine hf.nums _ ?_
  have hl : a.nums.length = 8 := rfl
  rw [List.getD_eq_getElem?_getD, List.getElem?_eq_getElem (by omega)]
  exact List.getElem_mem _
theorem num_le {a : Act'} (hf : a.fits) {i : Nat} {least : Int} (hl : i64ok least) : i64ok (a.num i least) := by
  unfold Act'.num
  split
  · exact hl
  · have := num_i64 hf (i := i) (by omega)
    unfold i64ok at *
    omega
theorem snum_c (w : World) (a : Act') (i : Nat) (least : Int) : Calls Tryz.prog 111 #[a.val, .int .i64 i, .int .i64 least] w (retK fun v w' => v = .int .i64 (a.num i least) ∧ Chg [] w w') := by
  apply escape_Num_link
  intro K hK
  unfold escape_Num
  simp -dsimp (disch := first | omega | (simp only [go_sem, seval]; first | done | omega)) only [go_sem, seval]
  have hc : Chg [] w (w.alloc (.cells a.cells.toArray 34)) := (Chg.refl _ _).alloc _
  refine Join1.cut (fun v w' => v = .bool (decide (8 ≤ i ∨ a.n ≤ i)) ∧ w' = (w.alloc (.cells a.cells.toArray 34))) ?_ ?_
  · simp -dsimp (disch := first | omega | (simp only [go_sem, seval]; first | done | omega)) only [go_sem, seval]
    refine BrW.dec (fun h2 => ?_) (fun h2 => ?_)
    · omega
    simp -dsimp (disch := first | omega | (simp only [go_sem, seval]; first | done | omega)) only [go_sem, seval]
    refine BrW.dec (fun h3 => ?_) (fun h3 => ?_)
    · exact ⟨congrArg Value.bool (decide_eq_true (.inl (by omega))).symm, rfl⟩
    simp -dsimp (disch := first | omega | (simp only [go_sem, seval]; first | done | omega)) only [go_sem, seval]
    exact congrArg Value.bool (decide_eq_decide.2 (by omega))
  rintro v w1 ⟨rfl, rfl⟩
  unfold Act'.num at hK
  refine BrW.dec (fun h2 => ?_) (fun h2 => ?_)
  · rw [if_pos h2] at hK
    exact hK _ _ ⟨rfl, hc⟩
  · rw [if_neg h2] at hK
    have hi : i = 0 ∨ i = 1 ∨ i = 2 ∨ i = 3 ∨ i = 4 ∨ i = 5 ∨ i = 6 ∨ i = 7 := by omega
    clear h2
    rcases hi with rfl | rfl | rfl | rfl | rfl | rfl | rfl | rfl <;> (simp -dsimp (disch := first | omega | (simp only [go_sem, seval]; first | done | omega)) only [go_sem, seval]; exact hK _ _ ⟨rfl, hc⟩)
def scrUp (S : Scr) (n : Int) : Scr := S.at S.now.x (max ((S.now.y : Int) - n) (if S.top ≤ S.now.y then (S.top : Int) else 0)).toNat
def scrDn (S : Scr) (n : Int) : Scr := S.at S.now.x (min ((S.now.y : Int) + n) (if S.now.y + 1 ≤ S.fin then (S.fin : Int) - 1 else (S.h : Int) - 1)).toNat
theorem smoved_c {w : World} {s : Nat} {M : Scm} (h : SAt w s M) (ok : M.S.ok) (a : Act') (hf : a.fits) : Calls Tryz.prog 78 #[.pointer (some ⟨s, 0, none⟩), a.val] w
    (retK fun v w' => v = .bool (M.S.moved a).isSome ∧ Did w s M w' ((M.S.moved a).getD M.S)) := by
  have hls := lt_of_heap h.hb
  have hlt := h.lt
  have tl := h.tl
  have w0 := ok.w0
  have w1b := ok.w1
  have h0 := ok.h0
  have h1b := ok.h1
  have nx := ok.nx
  have ny := ok.ny
  have tf := ok.tf
  have fh := ok.fh
  have n1 := num_ge a 0 1
  have n2 := num_ge a 1 1
  have n3 := num_le hf (i := 1) (least := 1) (by unfold i64ok; omega)
  unfold i64ok at n3
  apply screen_Screen_moved_link
  intro K hK
  unfold screen_Screen_moved
  simp -dsimp (disch := first | omega | (simp only [go_sem, seval]; first | done | omega)) only [go_sem, seval]
  have hc1 : Chg [] w (w.alloc (.cells a.cells.toArray 34)) := (Chg.refl _ _).alloc _
  have ha1 : (w.alloc (.cells a.cells.toArray 34)).heap[w.heap.size]? = some (.cells a.cells.toArray 34) := by simp -dsimp (disch := first | omega | (simp only [go_sem, seval]; first | done | omega)) only [go_sem, seval]
  refine OpX.gen fun w1 hw1 => ?_
  replace hw1 : w1 = (w.alloc (.cells a.cells.toArray 34)) := hw1
  rw [← hw1] at hc1 ha1
  clear hw1
  refine OpX.call escape_Num_b rfl (Calls.ret (snum_c _ a 0 1) ?_)
  rintro v w2 ⟨rfl, hc2⟩
  replace ha1 := hc2.keep ha1 (by simp)
  replace hc1 := hc1.trans0 hc2
  clear hc2
  have hla := lt_of_heap ha1
  have hA := h.chg0 hc1
  have hb := hA.hb
  have hs2 := hc1.size
  obtain ⟨n, hn⟩ : ∃ n, n = min (a.num 0 1) 9999 := ⟨_, rfl⟩
  have hn1 : 1 ≤ n ∧ n ≤ 9999 := by omega
  simp -dsimp (disch := first | omega | (simp only [go_sem, seval]; first | done | omega)) only [go_sem, seval, ha1]
  rw [← hn]
  have hna : w.heap.size ∉ s :: M.blk := fun hm => by have := hlt _ hm; omega
  refine Join0.cut (fun w' => ∃ T, Did w2 s M w' T ∧ M.S.moved a = some T) ?_ ?_
  · refine Join0.cut (fun w' => ∃ M1 : Scm, SAt w' s M1 ∧ M1.S.ok ∧ Chg (s :: M.blk) w2 w' ∧ M1.blk = M.blk ∧ M.S.moved a = some (scrDn M1.S n)) ?_ ?_
    · refine Join0.cut (fun w' => ∃ M1 : Scm, SAt w' s M1 ∧ M1.S.ok ∧ Chg (s :: M.blk) w2 w' ∧ M1.blk = M.blk ∧ M.S.moved a = some (scrUp M1.S n)) ?_ ?_
      · simp -dsimp (disch := first | omega | (simp only [go_sem, seval]; first | done | omega)) only [go_sem, seval]
        refine BrW.dec (fun c1 => ?_) (fun c1 => ?_)
        · simp -dsimp (disch := first | omega | (simp only [go_sem, seval]; first | done | omega)) only [go_sem, seval, hb]
          refine ⟨_, hA.set (M.S.at 0 M.S.now.y) rfl rfl tl rfl, (ok.at w0 ny).ok, (Chg.refl _ _).set _ _ (by simp), rfl, ?_⟩
          unfold Scr.moved
          dsimp only
          rw [← hn, if_pos c1]
          rfl
        simp -dsimp (disch := first | omega | (simp only [go_sem, seval]; first | done | omega)) only [go_sem, seval]
        refine BrW.dec (fun c2 => ?_) (fun c2 => ?_)
        · refine ⟨_, hA, ok, Chg.refl _ _, rfl, ?_⟩
          unfold Scr.moved
          dsimp only
          rw [← hn, if_neg c1, if_pos c2]
          rfl
        simp -dsimp (disch := first | omega | (simp only [go_sem, seval]; first | done | omega)) only [go_sem, seval]
        refine BrW.dec (fun c3 => ?_) (fun c3 => ?_)
        · simp -dsimp (disch := first | omega | (simp only [go_sem, seval]; first | done | omega)) only [go_sem, seval, hb]
          refine ⟨_, hA.set (M.S.at 0 M.S.now.y) rfl rfl tl rfl, (ok.at w0 ny).ok, (Chg.refl _ _).set _ _ (by simp), rfl, ?_⟩
          unfold Scr.moved
          dsimp only
          rw [← hn, if_neg c1, if_neg c2, if_pos c3]
          rfl
        simp -dsimp (disch := first | omega | (simp only [go_sem, seval]; first | done | omega)) only [go_sem, seval]
        refine BrW.dec (fun c4 => ?_) (fun c4 => ?_)
        · refine ⟨_, hA, ok, Chg.refl _ _, rfl, ?_⟩
          unfold Scr.moved
          dsimp only
          rw [← hn, if_neg c1, if_neg c2, if_neg c3, if_pos c4]
          rfl
        simp -dsimp (disch := first | omega | (simp only [go_sem, seval]; first | done | omega)) only [go_sem, seval]
        refine BrW.dec (fun c5 => ?_) (fun c5 => ?_)
        · simp -dsimp (disch := first | omega | (simp only [go_sem, seval]; first | done | omega)) only [go_sem, seval, hb]
          refine OpX.call screen_Screen_move_b rfl (Calls.ret (smove_c (hA.chg0 (Chg.refl _ _).drew) ok (M.S.now.x + n) M.S.now.y) ?_)
          rintro v w3 hd
          refine ⟨_, Did.trans (M1 := M) (Chg.refl _ _).drew (fun b hb => .inl hb) hd, ?_⟩
          unfold Scr.moved
          dsimp only
          rw [← hn, if_neg c1, if_neg c2, if_neg c3, if_neg c4, if_pos c5]
        simp -dsimp (disch := first | omega | (simp only [go_sem, seval]; first | done | omega)) only [go_sem, seval]
        refine BrW.dec (fun c6 => ?_) (fun c6 => ?_)
        · simp -dsimp (disch := first | omega | (simp only [go_sem, seval]; first | done | omega)) only [go_sem, seval, hb]
          refine OpX.call screen_Screen_move_b rfl (Calls.ret (smove_c (hA.chg0 (Chg.refl _ _).drew) ok (M.S.now.x - n) M.S.now.y) ?_)
          rintro v w3 hd
          refine ⟨_, Did.trans (M1 := M) (Chg.refl _ _).drew (fun b hb => .inl hb) hd, ?_⟩
          unfold Scr.moved
          dsimp only
          rw [← hn, if_neg c1, if_neg c2, if_neg c3, if_neg c4, if_neg c5, if_pos c6]
        refine Join1.cut (fun v w' => v = .bool (decide (a.r = 71 ∨ a.r = 96)) ∧ w2 = w') ?_ ?_
        · simp -dsimp (disch := first | omega | (simp only [go_sem, seval]; first | done | omega)) only [go_sem, seval]
          refine BrW.dec (fun h4 => ?_) (fun h4 => ?_)
          · exact ⟨congrArg Value.bool (decide_eq_true (.inl h4)).symm, rfl⟩
          · simp -dsimp (disch := first | omega | (simp only [go_sem, seval]; first | done | omega)) only [go_sem, seval]
            simp [h4]
        rintro v w3 ⟨rfl, rfl⟩
        refine BrW.dec (fun c7 => ?_) (fun c7 => ?_)
        · simp -dsimp (disch := first | omega | (simp only [go_sem, seval]; first | done | omega)) only [go_sem, seval, hb]
          refine OpX.call screen_Screen_move_b rfl (Calls.ret (smove_c hA ok (n - 1) M.S.now.y) ?_)
          rintro v w3 hd
          refine ⟨_, hd, ?_⟩
          unfold Scr.moved
          dsimp only
          rw [← hn, if_neg c1, if_neg c2, if_neg c3, if_neg c4, if_neg c5, if_neg c6, if_pos c7]
        simp -dsimp (disch := first | omega | (simp only [go_sem, seval]; first | done | omega)) only [go_sem, seval]
        refine BrW.dec (fun c8 => ?_) (fun c8 => ?_)
        · simp -dsimp (disch := first | omega | (simp only [go_sem, seval]; first | done | omega)) only [go_sem, seval, hb]
          refine OpX.call screen_Screen_move_b rfl (Calls.ret (smove_c hA ok M.S.now.x (n - 1)) ?_)
          rintro v w3 hd
          refine ⟨_, hd, ?_⟩
          unfold Scr.moved
          dsimp only
          rw [← hn, if_neg c1, if_neg c2, if_neg c3, if_neg c4, if_neg c5, if_neg c6, if_neg c7, if_pos c8]
        refine Join1.cut (fun v w' => v = .bool (decide (a.r = 72 ∨ a.r = 102)) ∧ w2 = w') ?_ ?_
        · simp -dsimp (disch := first | omega | (simp only [go_sem, seval]; first | done | omega)) only [go_sem, seval]
          refine BrW.dec (fun h4 => ?_) (fun h4 => ?_)
          · exact ⟨congrArg Value.bool (decide_eq_true (.inl h4)).symm, rfl⟩
          · simp -dsimp (disch := first | omega | (simp only [go_sem, seval]; first | done | omega)) only [go_sem, seval]
            simp [h4]
        rintro v w3 ⟨rfl, rfl⟩
        refine BrW.dec (fun c9 => ?_) (fun c9 => ?_)
        · simp -dsimp (disch := first | omega | (simp only [go_sem, seval]; first | done | omega)) only [go_sem, seval, ha1]
          refine OpX.call escape_Num_b rfl (Calls.ret (snum_c _ a 1 1) ?_)
          rintro v w3 ⟨rfl, hc2⟩
          simp -dsimp (disch := first | omega | (simp only [go_sem, seval]; first | done | omega)) only [go_sem, seval]
          refine OpX.call screen_Screen_move_b rfl (Calls.ret (smove_c (hA.chg0 hc2) ok (a.num 1 1 - 1) (n - 1)) ?_)
          rintro v w4 hd
          refine ⟨_, Did.trans (M1 := M) (hc2.mono (by simp)) (fun b hb => .inl hb) hd, ?_⟩
          unfold Scr.moved
          dsimp only
          rw [← hn, if_neg c1, if_neg c2, if_neg c3, if_neg c4, if_neg c5, if_neg c6, if_neg c7, if_neg c8, if_pos c9]
        simp -dsimp (disch := first | omega | (simp only [go_sem, seval]; first | done | omega)) only [go_sem, seval]
        refine BrW.dec (fun c10 => ?_) (fun c10 => ?_)
        · simp -dsimp (disch := first | omega | (simp only [go_sem, seval]; first | done | omega)) only [go_sem, seval, hb]
          refine OpX.call screen_Screen_restore_b rfl (Calls.ret (srestore_c hA) ?_)
          rintro v w3 hd
          refine ⟨_, hd, ?_⟩
          unfold Scr.moved
          dsimp only
          rw [← hn, if_neg c1, if_neg c2, if_neg c3, if_neg c4, if_neg c5, if_neg c6, if_neg c7, if_neg c8, if_neg c9, if_pos c10]
        have e : M.S.moved a = none := by
          unfold Scr.moved
          dsimp only
          rw [if_neg c1, if_neg c2, if_neg c3, if_neg c4, if_neg c5, if_neg c6, if_neg c7, if_neg c8, if_neg c9, if_neg c10]
        rw [e] at hK
        exact hK _ _ ⟨rfl, Did.trans (M1 := M) (hc1.mono (by simp)) (fun b hb => .inl hb) (Did.refl hA)⟩
      · rintro w3 ⟨M1, hA1, ok1, hcc, hbl, e⟩
        have hb1 := hA1.hb
        have tl1 := hA1.tl
        have ny1 := ok1.ny
        have h1c := ok1.h1
        have tf1 := ok1.tf
        have fh1 := ok1.fh
        have hl1 := lt_of_heap hb1
        obtain ⟨L, hL⟩ : ∃ L : Nat, L = if M1.S.top ≤ M1.S.now.y then M1.S.top else 0 := ⟨_, rfl⟩
        have hL2 : (L : Int) = if M1.S.top ≤ M1.S.now.y then (M1.S.top : Int) else 0 := by rw [hL]; split <;> rfl
        have hL3 : L < M1.S.h := by rw [hL]; split <;> omega
        have hd : ∀ w4 : World, Chg [] w3 w4 → ∃ w5 : World, w5 = setBlk w4 s ({ M1 with S := { M1.S with now := { M1.S.now with y := (max ((M1.S.now.y : Int) - n) (L : Int)).toNat } } } : Scm).obj ∧ Did w2 s M w5 (scrUp M1.S n) := by
          intro w4 hc4
          refine ⟨_, rfl, Did.trans hcc (fun b hb => .inl (by rw [← hbl]; exact hb)) (Did.trans (M1 := M1) (hc4.mono (by simp)) (fun b hb => .inl hb) ?_)⟩
          have := Did.set (hA1.chg0 hc4) (Chg.refl _ _) (fun b hb => .inl hb) (scrUp M1.S n) rfl rfl tl1 rfl
          unfold scrUp at this
          rw [← hL2] at this
          unfold scrUp
          rw [← hL2]
          exact this
        refine Join1.cut (fun v w' => v = .int .i64 (L : Int) ∧ Chg [] w3 w') ?_ ?_
        · simp -dsimp (disch := first | omega | (simp only [go_sem, seval]; first | done | omega)) only [go_sem, seval, hb1]
          refine BrW.dec (fun h4 => ?_) (fun h4 => ?_)
          · rw [if_pos (by omega)] at hL
            simp -dsimp (disch := first | omega | (simp only [go_sem, seval]; first | done | omega)) only [go_sem, seval, hb1]
            exact ⟨by rw [hL], (Chg.refl _ _).drew⟩
          · rw [if_neg (by omega)] at hL
            exact ⟨by rw [hL]; rfl, (Chg.refl _ _).drew⟩
        · rintro v w4 ⟨rfl, hc4⟩
          obtain ⟨w5, e5, hd5⟩ := hd w4 hc4
          have hb4 := (hA1.chg0 hc4).hb
          have hl4 := lt_of_heap hb4
          have e1 : max ((M1.S.now.y : Int) - n) (L : Int) = (((max ((M1.S.now.y : Int) - n) (L : Int)).toNat : Nat) : Int) := by omega
          simp -dsimp (disch := first | omega | (simp only [go_sem, seval]; first | done | omega)) only [go_sem, seval, hb4]
          rw [e1]
          simp -dsimp (disch := first | omega | (simp only [go_sem, seval]; first | done | omega)) only [go_sem, seval, hb4]
          rw [← e5]
          exact ⟨_, hd5, e⟩
    · rintro w3 ⟨M1, hA1, ok1, hcc, hbl, e⟩
      have hb1 := hA1.hb
      have tl1 := hA1.tl
      have ny1 := ok1.ny
      have h1c := ok1.h1
      have h0c := ok1.h0
      have tf1 := ok1.tf
      have fh1 := ok1.fh
      have hl1 := lt_of_heap hb1
      obtain ⟨L, hL⟩ : ∃ L : Nat, L = if M1.S.now.y + 1 ≤ M1.S.fin then M1.S.fin - 1 else M1.S.h - 1 := ⟨_, rfl⟩
      have hL2 : (L : Int) = if M1.S.now.y + 1 ≤ M1.S.fin then (M1.S.fin : Int) - 1 else (M1.S.h : Int) - 1 := by rw [hL]; split <;> omega
      have hL3 : L < M1.S.h := by rw [hL]; split <;> omega
      have hd : ∀ w4 : World, Chg [] w3 w4 → ∃ w5 : World, w5 = setBlk w4 s ({ M1 with S := { M1.S with now := { M1.S.now with y := (min ((M1.S.now.y : Int) + n) (L : Int)).toNat } } } : Scm).obj ∧ Did w2 s M w5 (scrDn M1.S n) := by
        intro w4 hc4
        refine ⟨_, rfl, Did.trans hcc (fun b hb => .inl (by rw [← hbl]; exact hb)) (Did.trans (M1 := M1) (hc4.mono (by simp)) (fun b hb => .inl hb) ?_)⟩
        have := Did.set (hA1.chg0 hc4) (Chg.refl _ _) (fun b hb => .inl hb) (scrDn M1.S n) rfl rfl tl1 rfl
        unfold scrDn at this
        rw [← hL2] at this
        unfold scrDn
        rw [← hL2]
        exact this
      simp -dsimp (disch := first | omega | (simp only [go_sem, seval]; first | done | omega)) only [go_sem, seval, hb1]
      refine Join1.cut (fun v w' => v = .int .i64 (L : Int) ∧ Chg [] w3 w') ?_ ?_
      · simp -dsimp (disch := first | omega | (simp only [go_sem, seval]; first | done | omega)) only [go_sem, seval, hb1]
        refine BrW.dec (fun h4 => ?_) (fun h4 => ?_)
        · rw [if_pos (by omega)] at hL
          simp -dsimp (disch := first | omega | (simp only [go_sem, seval]; first | done | omega)) only [go_sem, seval, hb1]
          exact ⟨congrArg (Value.int .i64) (by omega), (Chg.refl _ _).drew⟩
        · rw [if_neg (by omega)] at hL
          exact ⟨congrArg (Value.int .i64) (by rw [wrap_i64 _ (by omega) (by omega)]; omega), (Chg.refl _ _).drew⟩
      · rintro v w4 ⟨rfl, hc4⟩
        obtain ⟨w5, e5, hd5⟩ := hd w4 hc4
        have hb4 := (hA1.chg0 hc4).hb
        have hl4 := lt_of_heap hb4
        have e1 : min ((M1.S.now.y : Int) + n) (L : Int) = (((min ((M1.S.now.y : Int) + n) (L : Int)).toNat : Nat) : Int) := by omega
        simp -dsimp (disch := first | omega | (simp only [go_sem, seval]; first | done | omega)) only [go_sem, seval, hb4]
        rw [e1]
        simp -dsimp (disch := first | omega | (simp only [go_sem, seval]; first | done | omega)) only [go_sem, seval, hb4]
        rw [← e5]
        exact ⟨_, hd5, e⟩
  · rintro w3 ⟨T, hd, e⟩
    rw [e] at hK
    exact hK _ _ ⟨rfl, Did.trans (M1 := M) (hc1.mono (by simp)) (fun b hb => .inl hb) hd⟩
end Go.Proofs.YtjfembffjjijaaaGreat
namespace Go.Proofs.YtjfembffjjijaaaGreat
open Lyc Go
theorem wipeRows_now (S : Scr) (k : Int) : (S.wipeRows k).now = S.now := by
  unfold Scr.wipeRows Scr.clear
  split
  · exact setCur_now _
  · split
    · exact setCur_now _
    · split
      · exact setCur_now _
      · rfl
theorem sshift_line {w : World} {s : Nat} {M : Scm} (h : SAt w s M) (ok : M.S.ok) {bp bx bn : Nat} {k : Int} (hp : w.heap[bp]? = some (.cells #[.pointer (some ⟨s, 0, none⟩)] 29)) (hx : w.heap[bx]? = some (.cells #[.int .i64 M.S.now.x] 3)) (hn : w.heap[bn]? = some (.cells #[.int .i64 k] 3)) :
    LineF (.func (.func 114) #[] #[.pointer (some ⟨bx, 0, none⟩), .pointer (some ⟨bn, 0, none⟩), .pointer (some ⟨bp, 0, none⟩)]) w s M (fun g => g.shift M.S.now.x 0 k M.S.free) := by
  intro w2 g b o cap hc2 hg hcap hs
  refine YCall.of (us := []) (cs := [_, _, _]) screen_Screen_changed_1_b ?_
  have hp2 := hc2.keep hp (by simp)
  have hx2 := hc2.keep hx (by simp)
  have hn2 := hc2.keep hn (by simp)
  have hA2 := h.chg0 hc2
  have hb2 := hA2.hb
  have hlp := lt_of_heap hp2
  have hlx := lt_of_heap hx2
  have hln := lt_of_heap hn2
  have nx := ok.nx
  have w1 := ok.w1
  have w1b := hg.ok.w1
  have h1b := hg.ok.h1
  apply screen_Screen_changed_1_link
  intro K hK
  unfold screen_Screen_changed_1
  simp -dsimp (disch := first | omega | (simp only [go_sem, seval]; first | done | omega)) only [go_sem, seval, Gr.val, hx2, hp2, hn2]
  have hc3 : Chg [] w2 (((w2.alloc (.cells #[.int .i64 g.w, .int .i64 g.h, .slice (some ⟨b, o, none⟩) g.cs.length cap] 38)).alloc (.cells #[.int .i64 0, .int .i64 0, .slice none 0 0] 38)).drew) := (chg_a2 _ _ _).drew
  have hg3 : (((w2.alloc (.cells #[.int .i64 g.w, .int .i64 g.h, .slice (some ⟨b, o, none⟩) g.cs.length cap] 38)).alloc (.cells #[.int .i64 0, .int .i64 0, .slice none 0 0] 38)).drew).heap[w2.heap.size]? = some (.cells #[.int .i64 g.w, .int .i64 g.h, .slice (some ⟨b, o, none⟩) g.cs.length cap] 38) := by simp -dsimp (disch := first | omega | (simp only [go_sem, seval]; first | done | omega)) only [go_sem, seval]
  have ho3 : (((w2.alloc (.cells #[.int .i64 g.w, .int .i64 g.h, .slice (some ⟨b, o, none⟩) g.cs.length cap] 38)).alloc (.cells #[.int .i64 0, .int .i64 0, .slice none 0 0] 38)).drew).heap[w2.heap.size + 1]? = some (.cells #[.int .i64 0, .int .i64 0, .slice none 0 0] 38) := by simp -dsimp (disch := first | omega | (simp only [go_sem, seval]; first | done | omega)) only [go_sem, seval]
  have hz3 : (w2.alloc (.cells #[.int .i64 g.w, .int .i64 g.h, .slice (some ⟨b, o, none⟩) g.cs.length cap] 38)).heap.size = w2.heap.size + 1 := by simp -dsimp (disch := first | omega | (simp only [go_sem, seval]; first | done | omega)) only [go_sem, seval]
  rw [hz3]
  generalize (World.alloc _ _).drew = w3 at hc3 hg3 ho3 ⊢
  have hlo := lt_of_heap ho3
  refine OpX.call screen_Screen_free_b rfl (Calls.ret (sfree_c (hA2.chg0 hc3)) ?_)
  rintro v w4 ⟨rfl, hc4⟩
  have hc5 := hc3.trans0 hc4
  have hn4 := hc5.keep hn2 (by simp)
  have hx4 := hc5.keep hx2 (by simp)
  have hg4 := hc4.keep hg3 (by simp)
  have ho4 := hc4.keep ho3 (by simp)
  simp -dsimp (disch := first | omega | (simp only [go_sem, seval]; first | done | omega)) only [go_sem, seval, hn4, hx4, hg4]
  refine OpX.call grid_Shift_b rfl (Calls.ret (gshift_c (X := M.S.now.x) (Y := 0) (N := k) hg.ok hg.r (hs.chg0 hc5) cap hcap (free_usual _) (by omega) (by omega)) ?_)
  rintro v w5 ⟨⟨nb, cap', sp, rfl, q1, q2, q3⟩, hc6⟩
  have ho5 := hc6.keep ho4 (by simp)
  have hc7 := hc5.trans0 hc6
  have hz := hc5.size
  have hz4 := hc4.size
  have hlo5 := lt_of_heap ho5
  have hnb := lt_of_heap q3
  simp -dsimp (disch := first | omega | (simp only [go_sem, seval]; first | done | omega)) only [go_sem, seval, Gr.val, ho5]
  refine hK _ _ ⟨⟨nb, cap', sp, rfl, q1, by omega, ?_⟩, hc7.set _ _ (.inr (by omega))⟩
  simp -dsimp (disch := first | omega | (simp only [go_sem, seval]; first | done | omega)) only [go_sem, seval]
  exact q3
theorem schanged_c {w : World} {s : Nat} {M : Scm} (h : SAt w s M) (ok : M.S.ok) (a : Act') (hf : a.fits) : Calls Tryz.prog 79 #[.pointer (some ⟨s, 0, none⟩), a.val] w
    (retK fun v w' => v = .bool (M.S.changed a).isSome ∧ Did w s M w' ((M.S.changed a).getD M.S)) := by
  have hls := lt_of_heap h.hb
  have hlt := h.lt
  have tl := h.tl
  have w0 := ok.w0
  have w1b := ok.w1
  have h0 := ok.h0
  have h1b := ok.h1
  have nx := ok.nx
  have ny := ok.ny
  have tf := ok.tf
  have fh := ok.fh
  have n1 := num_ge a 0 1
  have n4 := num_ge a 1 0
  have n3 := num_le hf (i := 1) (least := 0) (by unfold i64ok; omega)
  unfold i64ok at n3
  apply screen_Screen_changed_link
  intro K hK
  unfold screen_Screen_changed
  simp -dsimp (disch := first | omega | (simp only [go_sem, seval]; first | done | omega)) only [go_sem, seval]
  have hz : (w.alloc (.cells #[.pointer (some ⟨s, 0, none⟩)] 29)).heap.size = w.heap.size + 1 := by simp -dsimp (disch := first | omega | (simp only [go_sem, seval]; first | done | omega)) only [go_sem, seval]
  rw [hz]
  refine OpX.gen fun w1 hw1 => ?_
  have hc1 : Chg [] w w1 := by rw [hw1]; exact chg_a2 _ _ _
  have hp1 : w1.heap[w.heap.size]? = some (.cells #[.pointer (some ⟨s, 0, none⟩)] 29) := by rw [hw1]; simp -dsimp (disch := first | omega | (simp only [go_sem, seval]; first | done | omega)) only [go_sem, seval]
  have ha1 : w1.heap[w.heap.size + 1]? = some (.cells a.cells.toArray 34) := by rw [hw1]; simp -dsimp (disch := first | omega | (simp only [go_sem, seval]; first | done | omega)) only [go_sem, seval]
  clear hw1 hz
  refine OpX.call escape_Num_b rfl (Calls.ret (snum_c _ a 0 1) ?_)
  rintro v w2 ⟨rfl, hc2⟩
  replace ha1 := hc2.keep ha1 (by simp)
  replace hp1 := hc2.keep hp1 (by simp)
  replace hc1 := hc1.trans0 hc2
  clear hc2
  have hla := lt_of_heap ha1
  have hlp := lt_of_heap hp1
  have hA := h.chg0 hc1
  have hb := hA.hb
  have hs2 := hc1.size
  obtain ⟨n, hn⟩ : ∃ n, n = min (a.num 0 1) 9999 := ⟨_, rfl⟩
  have hn1 : 1 ≤ n ∧ n ≤ 9999 := by omega
  simp -dsimp (disch := first | omega | (simp only [go_sem, seval]; first | done | omega)) only [go_sem, seval, ha1, hp1, hb]
  rw [← hn]
  have hz : (w2.alloc (.cells #[.int .i64 n] 3)).drew.heap.size = w2.heap.size + 1 := by simp -dsimp (disch := first | omega | (simp only [go_sem, seval]; first | done | omega)) only [go_sem, seval]
  rw [hz]
  obtain ⟨w3, hw3⟩ : ∃ w3, w3 = ((w2.alloc (.cells #[.int .i64 n] 3)).alloc (.cells #[.int .i64 M.S.now.x] 3)).drew := ⟨_, rfl⟩
  rw [← hw3]
  have hc3 : Chg [] w2 w3 := by rw [hw3]; exact (chg_a2 _ _ _).drew
  have hn3 : w3.heap[w2.heap.size]? = some (.cells #[.int .i64 n] 3) := by rw [hw3]; simp -dsimp (disch := first | omega | (simp only [go_sem, seval]; first | done | omega)) only [go_sem, seval]
  have hx3 : w3.heap[w2.heap.size + 1]? = some (.cells #[.int .i64 M.S.now.x] 3) := by rw [hw3]; simp -dsimp (disch := first | omega | (simp only [go_sem, seval]; first | done | omega)) only [go_sem, seval]
  clear hw3 hz
  replace hp1 := hc3.keep hp1 (by simp)
  replace ha1 := hc3.keep ha1 (by simp)
  replace hA := hA.chg0 hc3
  replace hb := hA.hb
  replace hc1 := hc1.trans0 hc3
  have hop : w.heap.size ∉ s :: M.blk := fun hm => by have := hlt _ hm; omega
  have hoa : w.heap.size + 1 ∉ s :: M.blk := fun hm => by have := hlt _ hm; omega
  have hon : w2.heap.size ∉ s :: M.blk := fun hm => by have := hlt _ hm; omega
  have hox : w2.heap.size + 1 ∉ s :: M.blk := fun hm => by have := hlt _ hm; omega
  have hlx := lt_of_heap hx3
  clear hc3
  have hAn : ∀ w', Chg [w2.heap.size] w3 w' → SAt w' s M := fun w' hc => hA.chg hc (fun x hx hm => hon (by rw [← List.mem_singleton.1 hm]; exact hx)) (fun r hr b o hb' hne hm => by
    have h9 := h.row_lt r hr b o hb' hne
    have h8 := List.mem_singleton.1 hm
    omega)
  have base : ∀ w' T, Did w3 s M w' T → Did w s M w' T := fun w' T hd => Did.trans (M1 := M) (hc1.mono (by simp)) (fun b hb => .inl hb) hd
  refine Join0.cut (fun w' => ∃ T, Did w s M w' T ∧ M.S.changed a = some T) ?_ ?_
  · refine Join0.cut (fun w' => ∃ k : Int, (-9999 ≤ k ∧ k ≤ 9999) ∧ Chg [w2.heap.size] w3 w' ∧ w'.heap[w2.heap.size]? = some (.cells #[.int .i64 k] 3) ∧ M.S.changed a = some (M.S.line fun g => g.shift M.S.now.x 0 k M.S.free)) ?_ ?_
    · refine Join0.cut (fun w' => ∃ k : Int, (-9999 ≤ k ∧ k ≤ 9999) ∧ Chg [w2.heap.size] w3 w' ∧ w'.heap[w2.heap.size]? = some (.cells #[.int .i64 k] 3) ∧ M.S.changed a = some (M.S.shiftRows k)) ?_ ?_
      · refine Join0.cut (fun w' => ∃ T : Scr, Did w3 s M w' T ∧ T.now = M.S.now ∧ T.ok ∧ M.S.changed a = some (T.wipeLine (a.num 0 0))) ?_ ?_
        · simp -dsimp (disch := first | omega | (simp only [go_sem, seval]; first | done | omega)) only [go_sem, seval]
          refine BrW.dec (fun c1 => ?_) (fun c1 => ?_)
          · simp -dsimp (disch := first | omega | (simp only [go_sem, seval]; first | done | omega)) only [go_sem, seval, ha1]
            have e : M.S.changed a = some ((M.S.wipeRows (a.num 0 0)).wipeLine (a.num 0 0)) := by unfold Scr.changed; dsimp only; rw [if_pos c1]
            refine OpX.call escape_Num_b rfl (Calls.ret (snum_c _ a 0 0) ?_)
            rintro v w4 ⟨rfl, hc4⟩
            have hp4 := hc4.keep hp1 (by simp)
            have hA4 := hA.chg0 hc4
            have hb4 := hA4.hb
            have fin : ∀ w', Did w4 s M w' (M.S.wipeRows (a.num 0 0)) → ∃ T : Scr, Did w3 s M w' T ∧ T.now = M.S.now ∧ T.ok ∧ M.S.changed a = some (T.wipeLine (a.num 0 0)) := fun w' hd => ⟨_, Did.trans (M1 := M) (hc4.mono (by simp)) (fun b hb => .inl hb) hd, wipeRows_now _ _, ok.wipeRows.ok, e⟩
            unfold Scr.wipeRows at fin
            simp -dsimp (disch := first | omega | (simp only [go_sem, seval]; first | done | omega)) only [go_sem, seval]
            refine BrW.dec (fun d1 => ?_) (fun d1 => ?_)
            · rw [if_pos d1] at fin
              simp -dsimp (disch := first | omega | (simp only [go_sem, seval]; first | done | omega)) only [go_sem, seval, hp4, hb4]
              refine OpX.call screen_Screen_clear_b rfl (Calls.ret (sclear_c (hA4.chg0 (Chg.refl _ _).drew) ok (M.S.now.y + 1) M.S.h (by omega) (by omega)) ?_)
              rintro v w5 hd
              exact fin _ (Did.trans (M1 := M) (Chg.refl _ _).drew (fun b hb => .inl hb) hd)
            rw [if_neg d1] at fin
            simp -dsimp (disch := first | omega | (simp only [go_sem, seval]; first | done | omega)) only [go_sem, seval]
            refine BrW.dec (fun d2 => ?_) (fun d2 => ?_)
            · rw [if_pos d2] at fin
              simp -dsimp (disch := first | omega | (simp only [go_sem, seval]; first | done | omega)) only [go_sem, seval, hp4, hb4]
              refine OpX.call screen_Screen_clear_b rfl (Calls.ret (sclear_c hA4 ok 0 M.S.now.y (by omega) (by omega)) ?_)
              rintro v w5 hd
              exact fin _ hd
            rw [if_neg d2] at fin
            simp -dsimp (disch := first | omega | (simp only [go_sem, seval]; first | done | omega)) only [go_sem, seval]
            refine BrW.dec (fun d3 => ?_) (fun d3 => ?_)
            · rw [if_pos d3] at fin
              simp -dsimp (disch := first | omega | (simp only [go_sem, seval]; first | done | omega)) only [go_sem, seval, hp4, hb4]
              refine OpX.call screen_Screen_clear_b rfl (Calls.ret (sclear_c (hA4.chg0 (Chg.refl _ _).drew) ok 0 M.S.h (by omega) (by omega)) ?_)
              rintro v w5 hd
              exact fin _ (Did.trans (M1 := M) (Chg.refl _ _).drew (fun b hb => .inl hb) hd)
            rw [if_neg d3] at fin
            exact fin _ (Did.refl hA4)
          simp -dsimp (disch := first | omega | (simp only [go_sem, seval]; first | done | omega)) only [go_sem, seval]
          refine BrW.dec (fun c2 => ?_) (fun c2 => ?_)
          · exact ⟨_, Did.refl hA, rfl, ok, by unfold Scr.changed; dsimp only; rw [if_neg c1, if_pos c2]⟩
          simp -dsimp (disch := first | omega | (simp only [go_sem, seval]; first | done | omega)) only [go_sem, seval]
          refine BrW.dec (fun c3 => ?_) (fun c3 => ?_)
          · simp -dsimp (disch := first | omega | (simp only [go_sem, seval]; first | done | omega)) only [go_sem, seval, hn3]
            exact ⟨-n, by omega, (Chg.refl _ _).set _ _ (by simp), (by simp -dsimp (disch := first | omega | (simp only [go_sem, seval]; first | done | omega)) only [go_sem, seval]), by unfold Scr.changed; dsimp only; rw [if_neg c1, if_neg c2, if_pos c3, hn]⟩
          simp -dsimp (disch := first | omega | (simp only [go_sem, seval]; first | done | omega)) only [go_sem, seval]
          refine BrW.dec (fun c4 => ?_) (fun c4 => ?_)
          · exact ⟨n, by omega, Chg.refl _ _, hn3, by unfold Scr.changed; dsimp only; rw [if_neg c1, if_neg c2, if_neg c3, if_pos c4, hn]⟩
          simp -dsimp (disch := first | omega | (simp only [go_sem, seval]; first | done | omega)) only [go_sem, seval]
          refine BrW.dec (fun c5 => ?_) (fun c5 => ?_)
          · simp -dsimp (disch := first | omega | (simp only [go_sem, seval]; first | done | omega)) only [go_sem, seval, hn3]
            exact ⟨-n, by omega, (Chg.refl _ _).set _ _ (by simp), (by simp -dsimp (disch := first | omega | (simp only [go_sem, seval]; first | done | omega)) only [go_sem, seval]), by unfold Scr.changed; dsimp only; rw [if_neg c1, if_neg c2, if_neg c3, if_neg c4, if_pos c5, hn]⟩
          simp -dsimp (disch := first | omega | (simp only [go_sem, seval]; first | done | omega)) only [go_sem, seval]
          refine BrW.dec (fun c6 => ?_) (fun c6 => ?_)
          · exact ⟨n, by omega, Chg.refl _ _, hn3, by unfold Scr.changed; dsimp only; rw [if_neg c1, if_neg c2, if_neg c3, if_neg c4, if_neg c5, if_pos c6, hn]⟩
          simp -dsimp (disch := first | omega | (simp only [go_sem, seval]; first | done | omega)) only [go_sem, seval]
          refine BrW.dec (fun c7 => ?_) (fun c7 => ?_)
          · simp -dsimp (disch := first | omega | (simp only [go_sem, seval]; first | done | omega)) only [go_sem, seval, hp1, hx3, hn3]
            refine OpX.call screen_Screen_erase_b rfl (Calls.ret (serase_c hA ok M.S.now.x n (by omega) (by omega)) ?_)
            rintro v w4 hd
            exact ⟨_, base _ _ hd, by unfold Scr.changed; dsimp only; rw [if_neg c1, if_neg c2, if_neg c3, if_neg c4, if_neg c5, if_neg c6, if_pos c7, hn]⟩
          simp -dsimp (disch := first | omega | (simp only [go_sem, seval]; first | done | omega)) only [go_sem, seval]
          refine BrW.dec (fun c8 => ?_) (fun c8 => ?_)
          · simp -dsimp (disch := first | omega | (simp only [go_sem, seval]; first | done | omega)) only [go_sem, seval, hp1, hn3]
            refine OpX.call screen_Screen_up_b rfl (Calls.ret (sup_c hA ok n) ?_)
            rintro v w4 hd
            exact ⟨_, base _ _ hd, by unfold Scr.changed; dsimp only; rw [if_neg c1, if_neg c2, if_neg c3, if_neg c4, if_neg c5, if_neg c6, if_neg c7, if_pos c8, hn]⟩
          simp -dsimp (disch := first | omega | (simp only [go_sem, seval]; first | done | omega)) only [go_sem, seval]
          refine BrW.dec (fun c9 => ?_) (fun c9 => ?_)
          · simp -dsimp (disch := first | omega | (simp only [go_sem, seval]; first | done | omega)) only [go_sem, seval, hp1, hn3, hb]
            refine OpX.call screen_Screen_scroll_b rfl (Calls.ret (sscroll_c (hA.chg0 (Chg.refl _ _).drew) ok M.S.top (-n)) ?_)
            rintro v w4 hd
            exact ⟨_, base _ _ (Did.trans (M1 := M) (Chg.refl _ _).drew (fun b hb => .inl hb) hd), by unfold Scr.changed; dsimp only; rw [if_neg c1, if_neg c2, if_neg c3, if_neg c4, if_neg c5, if_neg c6, if_neg c7, if_neg c8, if_pos c9, hn]⟩
          simp -dsimp (disch := first | omega | (simp only [go_sem, seval]; first | done | omega)) only [go_sem, seval]
          refine BrW.dec (fun c10 => ?_) (fun c10 => ?_)
          · simp -dsimp (disch := first | omega | (simp only [go_sem, seval]; first | done | omega)) only [go_sem, seval, hp1, hn3, ha1]
            refine OpX.call escape_Num_b rfl (Calls.ret (snum_c _ a 1 0) ?_)
            rintro v w4 ⟨rfl, hc4⟩
            have hc5 : Chg [] w3 w4 := (Chg.refl _ _).drew.trans0 hc4
            have hp4 := hc5.keep hp1 (by simp)
            have hn4 := hc5.keep hn3 (by simp)
            simp -dsimp (disch := first | omega | (simp only [go_sem, seval]; first | done | omega)) only [go_sem, seval, hp4, hn4]
            refine OpX.call screen_Screen_region_b rfl (Calls.ret (sregion_c (hA.chg0 hc5) ok (n - 1) (a.num 1 0) (by omega) (by omega) (by omega) (by omega)) ?_)
            rintro v w5 hd
            exact ⟨_, base _ _ (Did.trans (M1 := M) (hc5.mono (by simp)) (fun b hb => .inl hb) hd), by unfold Scr.changed; dsimp only; rw [if_neg c1, if_neg c2, if_neg c3, if_neg c4, if_neg c5, if_neg c6, if_neg c7, if_neg c8, if_neg c9, if_pos c10, hn]⟩
          have e : M.S.changed a = none := by
            unfold Scr.changed
            dsimp only
            rw [if_neg c1, if_neg c2, if_neg c3, if_neg c4, if_neg c5, if_neg c6, if_neg c7, if_neg c8, if_neg c9, if_neg c10]
          rw [e] at hK
          exact hK _ _ ⟨rfl, Did.trans (M1 := M) (hc1.mono (by simp)) (fun b hb => .inl hb) (Did.refl hA)⟩
        · rintro w4 ⟨T, hd, hnw, ok4, e⟩
          have hp4 := hd.keep hp1 hop
          have ha4 := hd.keep ha1 hoa
          have hx4 := hd.keep hx3 hox
          obtain ⟨M4, hA4, rfl, hc4, hbl4⟩ := hd
          simp -dsimp (disch := first | omega | (simp only [go_sem, seval]; first | done | omega)) only [go_sem, seval, ha4]
          refine OpX.call escape_Num_b rfl (Calls.ret (snum_c _ a 0 0) ?_)
          rintro v w5 ⟨rfl, hc5⟩
          have hp5 := hc5.keep hp4 (by simp)
          have hx5 := hc5.keep hx4 (by simp)
          have hA5 := hA4.chg0 hc5
          have hb5 := hA5.hb
          have w15 := ok4.w1
          have nx5 := ok4.nx
          rw [hnw] at nx5
          have fin : ∀ w', Did w5 s M4 w' (M4.S.wipeLine (a.num 0 0)) → ∃ T, Did w s M w' T ∧ M.S.changed a = some T := fun w' hd => ⟨_, base _ _ (Did.trans hc4 hbl4 (Did.trans (M1 := M4) (hc5.mono (by simp)) (fun b hb => .inl hb) hd)), e⟩
          unfold Scr.wipeLine at fin
          rw [hnw] at fin
          simp -dsimp (disch := first | omega | (simp only [go_sem, seval]; first | done | omega)) only [go_sem, seval]
          refine BrW.dec (fun d1 => ?_) (fun d1 => ?_)
          · rw [if_pos d1] at fin
            simp -dsimp (disch := first | omega | (simp only [go_sem, seval]; first | done | omega)) only [go_sem, seval, hp5, hb5, hx5]
            refine OpX.call screen_Screen_erase_b rfl (Calls.ret (serase_c (hA5.chg0 (Chg.refl _ _).drew) ok4 M.S.now.x M4.S.w (by omega) (by omega)) ?_)
            rintro v w6 hd
            exact fin _ (Did.trans (M1 := M4) (Chg.refl _ _).drew (fun b hb => .inl hb) hd)
          rw [if_neg d1] at fin
          simp -dsimp (disch := first | omega | (simp only [go_sem, seval]; first | done | omega)) only [go_sem, seval]
          refine BrW.dec (fun d2 => ?_) (fun d2 => ?_)
          · rw [if_pos d2] at fin
            simp -dsimp (disch := first | omega | (simp only [go_sem, seval]; first | done | omega)) only [go_sem, seval, hp5, hb5, hx5]
            refine OpX.call screen_Screen_erase_b rfl (Calls.ret (serase_c hA5 ok4 0 (M.S.now.x + 1) (by omega) (by omega)) ?_)
            rintro v w6 hd
            exact fin _ hd
          rw [if_neg d2] at fin
          simp -dsimp (disch := first | omega | (simp only [go_sem, seval]; first | done | omega)) only [go_sem, seval]
          refine BrW.dec (fun d3 => ?_) (fun d3 => ?_)
          · rw [if_pos d3] at fin
            simp -dsimp (disch := first | omega | (simp only [go_sem, seval]; first | done | omega)) only [go_sem, seval, hp5, hb5, hx5]
            refine OpX.call screen_Screen_erase_b rfl (Calls.ret (serase_c (hA5.chg0 (Chg.refl _ _).drew) ok4 0 M4.S.w (by omega) (by omega)) ?_)
            rintro v w6 hd
            exact fin _ (Did.trans (M1 := M4) (Chg.refl _ _).drew (fun b hb => .inl hb) hd)
          rw [if_neg d3] at fin
          exact fin _ (Did.refl hA5)
      · rintro w4 ⟨k, hk, hc4, hn4, e⟩
        have hp4 := hc4.keep hp1 (by simp; omega)
        have hA4 := hAn w4 hc4
        have hb4 := hA4.hb
        have hl4 := lt_of_heap hb4
        have hc5 : Chg [] w w4 := hc1.trans hc4 (by simp; omega)
        unfold Scr.shiftRows at e
        refine Join1.cut (fun v w' => v = .bool (decide (M.S.top ≤ M.S.now.y ∧ M.S.now.y < M.S.fin)) ∧ w4 = w') ?_ ?_
        · simp -dsimp (disch := first | omega | (simp only [go_sem, seval]; first | done | omega)) only [go_sem, seval, hp4, hb4]
          refine BrW.dec (fun d1 => ?_) (fun d1 => ?_)
          · simp -dsimp (disch := first | omega | (simp only [go_sem, seval]; first | done | omega)) only [go_sem, seval, hp4, hb4]
            exact congrArg Value.bool (decide_eq_decide.2 (by omega))
          · exact ⟨congrArg Value.bool (decide_eq_false (by omega)).symm, rfl⟩
        · rintro v w5 ⟨rfl, rfl⟩
          refine BrW.dec (fun d1 => ?_) (fun d1 => ?_)
          · rw [if_pos d1] at e
            simp -dsimp (disch := first | omega | (simp only [go_sem, seval]; first | done | omega)) only [go_sem, seval, hp4, hn4]
            refine OpX.call screen_Screen_scroll_b rfl (Calls.ret (sscroll_c hA4 ok M.S.now.y (-k)) ?_)
            rintro v w5 hd
            have hp5 := hd.keep hp4 hop
            obtain ⟨M5, hA5, hS5, hc6, hbl5⟩ := hd
            have hb5 := hA5.hb
            have tl5 := hA5.tl
            have hl5 := lt_of_heap hb5
            simp -dsimp (disch := first | omega | (simp only [go_sem, seval]; first | done | omega)) only [go_sem, seval, hp5, hb5]
            have hx5 : M5.S.now = M.S.now := by rw [hS5]; exact setCur_now _
            rw [← hS5, ← hx5] at e
            exact ⟨_, Did.trans (M1 := M) (hc5.mono (by simp)) (fun b hb => .inl hb) (Did.trans hc6 hbl5 (Did.set hA5 (Chg.refl _ _) (fun b hb => .inl hb) _ rfl rfl tl5 rfl)), e⟩
          · rw [if_neg d1] at e
            exact ⟨_, Did.trans (M1 := M) (hc5.mono (by simp)) (fun b hb => .inl hb) (Did.refl hA4), e⟩
    · rintro w4 ⟨k, hk, hc4, hn4, e⟩
      have hp4 := hc4.keep hp1 (by simp; omega)
      have hx4 := hc4.keep hx3 (by simp)
      have hA4 := hAn w4 hc4
      simp -dsimp (disch := first | omega | (simp only [go_sem, seval]; first | done | omega)) only [go_sem, seval, hp4]
      refine OpX.call screen_Screen_line_b rfl (Calls.ret (sline_c hA4 ok (sshift_line hA4 ok hp4 hx4 hn4) (fun _ hg => hg.shift)) ?_)
      rintro v w5 hd
      have hc5 : Chg [] w w4 := hc1.trans hc4 (by simp; omega)
      exact ⟨_, Did.trans (M1 := M) (hc5.mono (by simp)) (fun b hb => .inl hb) hd, e⟩
  · rintro w4 ⟨T, hd, e⟩
    rw [e] at hK
    exact hK _ _ ⟨rfl, hd⟩
end Go.Proofs.YtjfembffjjijaaaGreat
namespace Lyc
open Go
section
variable {P : Program}
theorem tarr_u {t : TypeId} {q : Nat × Nat} (h : tarr P t = some q) : ∃ e, P.underlying t = some (.array q.1 e) ∧ tsize P e = some q.2 := by
  unfold tarr at h
  cases hu : P.underlying t with
  | none => rw [hu] at h; simp at h
  | some d =>
    rw [hu] at h
    cases d <;> simp at h
    obtain ⟨m, hm, rfl⟩ := h
    exact ⟨_, rfl, hm⟩
theorem r_sliceA_hi (t ty : TypeId) (b o : Nat) (q : Nat × Nat) (k : IntKind) (i : Int) (h : tarr P t = some q) (h0 : 0 ≤ i) (h1 : i ≤ q.1) : PureRun P (.slice t (.const (.pointer (some ⟨b, o, none⟩))) none (some (.const (.int k i))) none) ty (.slice (some ⟨b, o, none⟩) i.toNat q.1) := by
  obtain ⟨e, hu, hs⟩ := tarr_u h
  refine ⟨fun ρ hg w => ?_⟩
  simp [execOp, mkOper, hg.1, Instr.sliceAt, Instr.sureAddr, Instr.sliceBounds, Instr.sliceBound, asIntOf, run_underlying hu, run_size hs, h0, h1, Addr.add]
@[go_sem] theorem x_sliceA_hi (t ty : TypeId) (b o : Nat) (k : IntKind) (i : Int) (K : Value → World → Prop) (w : World) (h0 : 0 ≤ i) (h1 : i ≤ ((tarr P t).getD (0, 0)).1) : OpX P (.slice t (.const (.pointer (some ⟨b, o, none⟩))) none (some (.const (.int k i))) none) ty K w = OrK (tarr P t) (fun q => K (.slice (some ⟨b, o, none⟩) i.toNat q.1) w) (OpX P (.slice t (.const (.pointer (some ⟨b, o, none⟩))) none (some (.const (.int k i))) none) ty K w) () :=
  OrK_by (fun q h => (r_sliceA_hi t ty b o q k i h h0 (by rw [h] at h1; exact h1)).op K w) rfl
theorem r_slice3_hi (t ty : TypeId) (a : Option Addr) (len cap n : Nat) (k k' : IntKind) (i q : Int) (h : tslice P t = some n) (h0 : 0 ≤ i) (h1 : i ≤ q) (h2 : q ≤ cap) : PureRun P (.slice t (.const (.slice a len cap)) none (some (.const (.int k i))) (some (.const (.int k' q)))) ty (.slice a i.toNat q.toNat) := by
  obtain ⟨e, hu, hs⟩ := tslice_u h
  refine ⟨fun ρ hg w => ?_⟩
  have h4 : 0 ≤ q := by omega
  have h6 : i ≤ max q 0 := by omega
  cases a with
  | none =>
    simp [execOp, mkOper, hg.1, Instr.sliceAt, Instr.slice, Instr.sliceBounds, Instr.sliceBound, asIntOf, run_underlying hu, run_size hs, h0, h2, h4]
    intro hc; omega
  | some a =>
    obtain ⟨b, o, sp⟩ := a
    simp [execOp, mkOper, hg.1, Instr.sliceAt, Instr.slice, Instr.sliceBounds, Instr.sliceBound, asIntOf, run_underlying hu, run_size hs, h0, h2, h4, Addr.add]
    intro hc; omega
@[go_sem] theorem x_slice3_hi (t ty : TypeId) (a : Option Addr) (len cap : Nat) (k k' : IntKind) (i q : Int) (K : Value → World → Prop) (w : World) (h0 : 0 ≤ i) (h1 : i ≤ q) (h2 : q ≤ cap) : OpX P (.slice t (.const (.slice a len cap)) none (some (.const (.int k i))) (some (.const (.int k' q)))) ty K w = OrK (tslice P t) (fun _ => K (.slice a i.toNat q.toNat) w) (OpX P (.slice t (.const (.slice a len cap)) none (some (.const (.int k i))) (some (.const (.int k' q)))) ty K w) () :=
  OrK_by (fun n h => (r_slice3_hi t ty a len cap n k k' i q h h0 h1 h2).op K w) rfl
end
theorem wrap_u8_bv (x : Int) : IntKind.u8.wrap x = ((BitVec.ofInt 8 x).toNat : Int) := by
  rw [BitVec.toNat_ofInt]
  show x % 256 = _
  omega
end Lyc
namespace Go.Proofs.YtjfembffjjijaaaGreat
open Lyc Go
theorem pcolour_c (w : World) (n : Int) : Calls Tryz.prog 145 #[.int .i64 n] w (retK fun v w' => v = .int .u8 (hue n).toNat ∧ w = w') := by
  apply pen_colour_link
  intro K hK
  unfold pen_colour
  simp -dsimp (disch := first | omega | (simp only [go_sem, seval]; first | done | omega)) only [go_sem, seval]
  refine hK _ _ ⟨?_, rfl⟩
  rw [wrap_u8_bv]
  rfl
theorem ppart_c (w : World) (n : Int) : Calls Tryz.prog 153 #[.int .i64 n] w (retK fun v w' => v = .int .i64 (part43 n) ∧ w = w') := by
  apply pen_Colour_1_link
  intro K hK
  unfold pen_Colour_1
  simp -dsimp (disch := first | omega | (simp only [go_sem, seval]; first | done | omega)) only [go_sem, seval]
  have e : (min (max n 0) 255).tdiv 43 = part43 n := by unfold part43; rw [Int.tdiv_eq_ediv_of_nonneg (by omega)]
  have hb : 0 ≤ part43 n ∧ part43 n ≤ 255 := by unfold part43; omega
  rw [e, wrap_i64 _ (by omega) (by omega)]
  exact hK _ _ ⟨rfl, rfl⟩
theorem part43_bd (n : Int) : 0 ≤ part43 n ∧ part43 n ≤ 5 := by unfold part43; omega
theorem pColour_c (w : World) (r g b : Int) : Calls Tryz.prog 146 #[.int .i64 r, .int .i64 g, .int .i64 b] w (retK fun v w' => v = .int .u8 (rgb r g b).toNat ∧ w = w') := by
  have h1 := part43_bd r
  have h2 := part43_bd g
  have h3 := part43_bd b
  apply pen_Colour_link
  intro K hK
  unfold pen_Colour
  refine OpX.callV (us := []) (cs := []) pen_Colour_1_b rfl (Calls.ret (ppart_c w r) ?_)
  rintro v w1 ⟨rfl, rfl⟩
  simp -dsimp (disch := first | omega | (simp only [go_sem, seval]; first | done | omega)) only [go_sem, seval]
  refine OpX.callV (us := []) (cs := []) pen_Colour_1_b rfl (Calls.ret (ppart_c w g) ?_)
  rintro v w1 ⟨rfl, rfl⟩
  simp -dsimp (disch := first | omega | (simp only [go_sem, seval]; first | done | omega)) only [go_sem, seval]
  refine OpX.callV (us := []) (cs := []) pen_Colour_1_b rfl (Calls.ret (ppart_c w b) ?_)
  rintro v w1 ⟨rfl, rfl⟩
  simp -dsimp (disch := first | omega | (simp only [go_sem, seval]; first | done | omega)) only [go_sem, seval]
  refine hK _ _ ⟨congrArg (Value.int .u8) ?_, rfl⟩
  unfold rgb
  rw [← wrap_u8_bv, wrap_u8 _ (by omega) (by omega)]
section
attribute [-go_sem] x_build x_buildA
theorem pways_c (w : World) : Calls Tryz.prog 147 #[] w (retK fun v w' => v = .agg #[.int .u8 0, .int .u8 1, .int .u8 2, .int .u8 4, .int .u8 8, .int .u8 16, .int .u8 0, .int .u8 32] ∧ Chg [] w w') := by
  apply pen_ways_link
  intro K hK
  unfold pen_ways
  simp -dsimp (disch := first | omega | (simp only [go_sem, seval]; first | done | omega)) only [go_sem, seval]
  refine OpX.build (c := #[.int .u8 0, .int .u8 1, .int .u8 2, .int .u8 4, .int .u8 8, .int .u8 16, .int .u8 0, .int .u8 32]) (by kernel_rfl) ?_
  simp -dsimp (disch := first | omega | (simp only [go_sem, seval]; first | done | omega)) only [go_sem, seval]
  exact hK _ _ ⟨rfl, (Chg.refl _ _).alloc _⟩
end
def fI (n : Int) : List Value := [.int .i64 n]
def LeftAt (w : World) (b5 : Nat) (l : List Int) : Prop := ∃ g o cap, w.heap[b5]? = some (.cells #[.slice (some ⟨g, o, none⟩) l.length cap] 52) ∧ l.length ≤ cap ∧ l.length ≤ 8 ∧ g ≠ b5 ∧ ∃ e, (e = 34 ∨ e = 3) ∧ Sx w (some e) fI (some ⟨g, o, none⟩) l
theorem LeftAt.chg0 {w w' : World} {b5 : Nat} {l : List Int} (h : LeftAt w b5 l) (hc : Chg [] w w') : LeftAt w' b5 l := by
  obtain ⟨g, o, cap, h1, h2, h3, h4, e, he, h5⟩ := h
  exact ⟨g, o, cap, hc.keep h1 (by simp), h2, h3, h4, e, he, h5.chg0 hc⟩
theorem LeftAt.low {w w' : World} {b b5 : Nat} {l : List Int} (h : LeftAt w b5 l) (hc : Chg [b] w w') (hb : b ≠ b5) {c : Array Value} {fr : Nat × Nat} (hg : w.heap[b]? = some (.cells c 70 fr)) : LeftAt w' b5 l := by
  obtain ⟨g, o, cap, h1, h2, h3, h4, e, he, h5⟩ := h
  refine ⟨g, o, cap, hc.keep h1 (by simp; omega), h2, h3, h4, e, he, h5.chg hc ?_⟩
  intro b' o' ha hne hm
  rw [List.mem_singleton.1 hm] at ha
  rcases he with rfl | rfl
  · exact h5.ne ha hne hg rfl rfl
  · exact h5.ne ha hne hg rfl rfl
theorem ptake_c {w : World} {b5 : Nat} {l : List Int} (hL : LeftAt w b5 l) (k : Nat) (hk : k ≤ 8) : Calls Tryz.prog 133 #[.int .i64 k, .pointer (some ⟨b5, 0, none⟩)] w
    (retK fun v w' => (∃ g o cap, v = .slice (some ⟨g, o, none⟩) (l.take k).length cap ∧ g ≠ b5 ∧ Sx w' none fI (some ⟨g, o, none⟩) (l.take k)) ∧ LeftAt w' b5 (l.drop k) ∧ Chg [b5] w w') := by
  obtain ⟨g, o, cap, h1, h2, h3, h4, e5, he5, h5⟩ := hL
  have hl := lt_of_heap h1
  apply pen_Apply_1_link
  intro K hK
  unfold pen_Apply_1
  have e : min (k : Int) (l.length : Int) = ((min k l.length : Nat) : Int) := by omega
  simp -dsimp (disch := first | omega | (simp only [go_sem, seval]; first | done | omega)) only [go_sem, seval, h1, e]
  have hc : Chg [b5] w (setBlk w b5 (.cells #[.slice (some ⟨g, slo o cap (min k l.length) 1, none⟩) (l.length - min k l.length) (cap - min k l.length)] 52)) := (Chg.refl _ _).set _ _ (by simp)
  have h5' := h5.chg hc (fun b o' ha hne hm => by cases ha; exact h4 (List.mem_singleton.1 hm))
  have ht : l.take k = (l.drop 0).take (min k l.length) := by rw [List.drop_zero]; exact (List.take_eq_take_min ..).trans (by rfl)
  have hd : l.drop k = (l.drop (min k l.length)).take (l.length - min k l.length) := by
    rcases Nat.le_total k l.length with hkl | hkl
    · rw [Nat.min_eq_left hkl, List.take_of_length_le (by simp)]
    · rw [Nat.min_eq_right hkl, List.drop_eq_nil_of_le hkl, List.drop_eq_nil_of_le (Nat.le_refl _)]; simp
  refine hK _ _ ⟨⟨g, o, min k l.length, by rw [List.length_take], h4, ?_⟩, ⟨g, slo o cap (min k l.length) 1, cap - min k l.length, ?_, ?_, ?_, h4, e5, he5, ?_⟩, hc⟩
  · rw [ht]
    exact (h5'.sub (m := 1) (fun _ => rfl) 0 _ _ (.inr (.inr (by simp)))).untag
  · have : (l.drop k).length = l.length - min k l.length := by rw [List.length_drop]; omega
    rw [this]
    simp -dsimp (disch := first | omega | (simp only [go_sem, seval]; first | done | omega)) only [go_sem, seval]
  · rw [List.length_drop]; omega
  · rw [List.length_drop]; omega
  · rw [hd]
    refine h5'.sub (m := 1) (fun _ => rfl) (min k l.length) _ _ ?_
    unfold slo
    split
    · left; omega
    · right; right; rfl
theorem fI_cell {w : World} {g o : Nat} {l : List Int} (h : Sx w none fI (some ⟨g, o, none⟩) l) {i : Nat} {n : Int} (hi : l[i]? = some n) : cellAt w.heap[g]? (o + i) = some (.int .i64 n) := by
  obtain ⟨b, o', h1, h2, h3⟩ := h.get1 (g := fun n => Value.int .i64 n) (fun _ => rfl) hi
  cases h1; exact h3
def takeF (b5 : Nat) : Value := .func (.func 133) #[] #[.pointer (some ⟨b5, 0, none⟩)]
theorem pchosen_c {w : World} {b5 : Nat} {l : List Int} (hL : LeftAt w b5 l) : Calls Tryz.prog 134 #[takeF b5] w
    (retK fun v w' => v = .tuple #[.int .u8 ((chosenP l).1.getD 0).toNat, .bool (chosenP l).1.isSome] ∧ LeftAt w' b5 (chosenP l).2 ∧ Chg [b5] w w') := by
  apply pen_chosen_link
  intro K hK
  unfold pen_chosen
  refine OpX.callV (us := []) (cs := [_]) pen_Apply_1_b rfl (Calls.ret (ptake_c hL 1 (by omega)) ?_)
  rintro v w1 ⟨⟨g, o, cap, rfl, hg, hs⟩, hL1, hc1⟩
  have last : ∀ (w2 : World) (l2 : List Int), Chg [b5] w w2 → LeftAt w2 b5 l2 → chosenP l = (none, []) → OpX Tryz.prog (.call { callee := .value (.const (takeF b5)), args := #[.const (.int .i64 8)], argTypes := #[3] }) 52 (fun _ => K (.tuple #[(.int .u8 0), (.bool false)])) w2 := by
    intro w2 l2 hc2 hL2 e
    have hl2 : l2.length ≤ 8 := by obtain ⟨_, _, _, _, _, h3, _⟩ := hL2; exact h3
    refine OpX.callV (us := []) (cs := [_]) pen_Apply_1_b rfl (Calls.ret (ptake_c hL2 8 (by omega)) ?_)
    rintro v w3 ⟨-, hL3, hc3⟩
    rw [List.drop_eq_nil_of_le hl2] at hL3
    refine hK _ _ ⟨by rw [e]; rfl, by rw [e]; exact hL3, hc2.trans hc3 (by simp)⟩
  rcases l with _ | ⟨n, l⟩
  · refine Join0.cut (fun w' => w1 = w') ?_ ?_
    · refine Join1.cut (fun v w' => v = .bool false ∧ w1 = w') ?_ ?_
      · simp -dsimp (disch := first | omega | (simp only [go_sem, seval]; first | done | omega)) only [go_sem, seval]
        exact BrW.dec (fun h => by simp at h) (fun _ => ⟨rfl, rfl⟩)
      · rintro v w2 ⟨rfl, rfl⟩
        simp -dsimp (disch := first | omega | (simp only [go_sem, seval]; first | done | omega)) only [go_sem, seval]
    · rintro w2 rfl
      refine Join0.cut (fun w' => w1 = w') ?_ ?_
      · refine Join1.cut (fun v w' => v = .bool false ∧ w1 = w') ?_ ?_
        · simp -dsimp (disch := first | omega | (simp only [go_sem, seval]; first | done | omega)) only [go_sem, seval]
          exact BrW.dec (fun h => by simp at h) (fun _ => ⟨rfl, rfl⟩)
        · rintro v w2 ⟨rfl, rfl⟩
          simp -dsimp (disch := first | omega | (simp only [go_sem, seval]; first | done | omega)) only [go_sem, seval]
      · rintro w2 rfl
        exact last _ _ hc1 hL1 rfl
  · have e1 : (n :: l).take 1 = [n] := rfl
    have e2 : (n :: l).drop 1 = l := rfl
    rw [e1] at hs ⊢
    rw [e2] at hL1
    have hcell := fI_cell hs (i := 0) rfl
    simp only [Nat.add_zero] at hcell
    refine Join0.cut (fun w' => (∃ l2, LeftAt w' b5 l2 ∧ (n ≠ 5 → l2 = l)) ∧ (n = 5 → chosenP (n :: l) = (none, [])) ∧ Chg [b5] w w' ∧ Sx w' none fI (some ⟨g, o, none⟩) [n]) ?_ ?_
    · refine Join1.cut (fun v w' => v = .bool (decide (n = 5)) ∧ w1 = w') ?_ ?_
      · simp -dsimp (disch := first | omega | (simp only [go_sem, seval]; first | done | omega)) only [go_sem, seval, hcell]
      · rintro v w2 ⟨rfl, rfl⟩
        refine BrW.dec (fun h5 => ?_) (fun h5 => ?_)
        · subst h5
          refine OpX.callV (us := []) (cs := [_]) pen_Apply_1_b rfl (Calls.ret (ptake_c hL1 1 (by omega)) ?_)
          rintro v w2 ⟨⟨g2, o2, cap2, rfl, hg2, hs2⟩, hL2, hc2⟩
          have hs' := hs.chg hc2 (fun b o' ha hne hm => by cases ha; exact hg (List.mem_singleton.1 hm))
          have hc3 := hc1.trans hc2 (by simp)
          rcases l with _ | ⟨m, l⟩
          · simp -dsimp (disch := first | omega | (simp only [go_sem, seval]; first | done | omega)) only [go_sem, seval]
            refine BrW.dec (fun h => by simp at h) (fun _ => ?_)
            exact ⟨⟨_, hL2, fun h => absurd rfl h⟩, fun _ => rfl, hc3, hs'⟩
          · have e3 : (m :: l).take 1 = [m] := rfl
            have e4 : (m :: l).drop 1 = l := rfl
            rw [e3] at hs2 ⊢
            rw [e4] at hL2
            have hcell2 := fI_cell hs2 (i := 0) rfl
            simp only [Nat.add_zero] at hcell2
            simp -dsimp (disch := first | omega | (simp only [go_sem, seval]; first | done | omega)) only [go_sem, seval, hcell2]
            refine Join1.cut (fun v w' => v = .bool (decide (m < 0 ∨ 255 < m)) ∧ w2 = w') ?_ ?_
            · simp -dsimp (disch := first | omega | (simp only [go_sem, seval]; first | done | omega)) only [go_sem, seval]
              refine BrW.dec (fun d1 => ?_) (fun d1 => ?_)
              · exact ⟨congrArg Value.bool (decide_eq_true (.inl d1)).symm, rfl⟩
              · simp -dsimp (disch := first | omega | (simp only [go_sem, seval]; first | done | omega)) only [go_sem, seval]
                exact congrArg Value.bool (decide_eq_decide.2 (by omega))
            · rintro v w3 ⟨rfl, rfl⟩
              refine BrW.dec (fun d1 => ?_) (fun d1 => ?_)
              · have e : chosenP (5 :: m :: l) = (none, l) := by unfold chosenP; simp; omega
                rw [e] at hK
                exact hK _ _ ⟨rfl, hL2, hc3⟩
              · have e : chosenP (5 :: m :: l) = (some (hue m), l) := by unfold chosenP; simp; omega
                rw [e] at hK
                refine OpX.call pen_colour_b rfl (Calls.ret (pcolour_c w2 m) ?_)
                rintro v w3 ⟨rfl, rfl⟩
                exact hK _ _ ⟨rfl, hL2, hc3⟩
        · exact ⟨⟨_, hL1, fun _ => rfl⟩, fun h => absurd h h5, hc1, hs⟩
    · rintro w2 ⟨⟨l2, hL2, hl2⟩, h5, hc2, hs2⟩
      have hcell2 := fI_cell hs2 (i := 0) rfl
      simp only [Nat.add_zero] at hcell2
      refine Join0.cut (fun w' => (∃ l2, LeftAt w' b5 l2) ∧ chosenP (n :: l) = (none, []) ∧ Chg [b5] w w') ?_ ?_
      · refine Join1.cut (fun v w' => v = .bool (decide (n = 2)) ∧ w2 = w') ?_ ?_
        · simp -dsimp (disch := first | omega | (simp only [go_sem, seval]; first | done | omega)) only [go_sem, seval, hcell2]
        · rintro v w3 ⟨rfl, rfl⟩
          refine BrW.dec (fun d1 => ?_) (fun d1 => ?_)
          · subst d1
            have := hl2 (by decide)
            subst this
            refine OpX.callV (us := []) (cs := [_]) pen_Apply_1_b rfl (Calls.ret (ptake_c hL2 3 (by omega)) ?_)
            rintro v w3 ⟨⟨g3, o3, cap3, rfl, hg3, hs3⟩, hL3, hc3⟩
            have hc4 := hc2.trans hc3 (by simp)
            simp -dsimp (disch := first | omega | (simp only [go_sem, seval]; first | done | omega)) only [go_sem, seval]
            refine BrW.dec (fun h => ?_) (fun h => ?_)
            · rcases l2 with _ | ⟨r, _ | ⟨gg, _ | ⟨bb, l3⟩⟩⟩
              · simp at h
              · simp at h
              · simp at h
              have e3 : (r :: gg :: bb :: l3).take 3 = [r, gg, bb] := rfl
              rw [e3] at hs3 ⊢
              have q0 := fI_cell hs3 (i := 0) rfl
              have q1 := fI_cell hs3 (i := 1) rfl
              have q2 := fI_cell hs3 (i := 2) rfl
              simp only [Nat.add_zero] at q0
              have e : chosenP (2 :: r :: gg :: bb :: l3) = (some (rgb r gg bb), l3) := rfl
              rw [e] at hK
              simp -dsimp (disch := first | omega | (simp only [go_sem, seval]; first | done | omega)) only [go_sem, seval, q0, q1, q2]
              refine OpX.call pen_Colour_b rfl (Calls.ret (pColour_c _ r gg bb) ?_)
              rintro v w4 ⟨rfl, rfl⟩
              exact hK _ _ ⟨rfl, hL3.chg0 (Chg.refl _ _).drew, hc4.drew⟩
            · refine ⟨⟨_, hL3⟩, ?_, hc4⟩
              rcases l2 with _ | ⟨r, _ | ⟨gg, _ | ⟨bb, l3⟩⟩⟩
              · rfl
              · rfl
              · rfl
              · simp at h
          · refine ⟨⟨_, hL2⟩, ?_, hc2⟩
            by_cases h : n = 5
            · exact h5 h
            · unfold chosenP
              split
              · simp_all
              · simp_all
              · rfl
      · rintro w3 ⟨⟨l3, hL3⟩, e, hc3⟩
        exact last _ _ hc3 hL3 e
def ObeyR (w : World) (d : Cel) (w' : World) : Prop := Chg [] w w' ∧ w'.heap[w.heap.size]? = some (.cells d.cells.toArray 70) ∧ w'.heap[w.heap.size + 1]? = some (.cells #[.int .i32 0, .int .u8 0, .int .u8 0, .int .u8 0] 70)
theorem pobey_c (w : World) (c : Cel) (n : Int) (n0 : i64ok n) : Calls Tryz.prog 135 #[c.val, .int .i64 n] w (retK fun v w' => v = (obeyP c n).val ∧ Chg [] w w') := by
  unfold i64ok at n0
  apply pen_obey_link
  intro K hK
  unfold pen_obey
  simp -dsimp (disch := first | omega | (simp only [go_sem, seval]; first | done | omega)) only [go_sem, seval]
  have hc1 : Chg [] w ((w.alloc (.cells c.cells.toArray 70)).alloc (.cells #[.int .i32 0, .int .u8 0, .int .u8 0, .int .u8 0] 70)) := chg_a2 _ _ _
  have hz : (w.alloc (.cells #[.int .i32 c.r, .int .u8 c.fg.toNat, .int .u8 c.bg.toNat, .int .u8 c.a.toNat] 70)).heap.size = w.heap.size + 1 := by simp -dsimp (disch := first | omega | (simp only [go_sem, seval]; first | done | omega)) only [go_sem, seval]
  rw [hz]
  obtain ⟨w1, hw1⟩ : ∃ w1, w1 = ((w.alloc (.cells #[.int .i32 c.r, .int .u8 c.fg.toNat, .int .u8 c.bg.toNat, .int .u8 c.a.toNat] 70)).alloc (.cells #[.int .i32 0, .int .u8 0, .int .u8 0, .int .u8 0] 70)) := ⟨_, rfl⟩
  rw [← hw1]
  simp only [Cel.cells] at hc1
  rw [← hw1] at hc1
  have hp1 : w1.heap[w.heap.size]? = some (.cells #[.int .i32 c.r, .int .u8 c.fg.toNat, .int .u8 c.bg.toNat, .int .u8 c.a.toNat] 70) := by rw [hw1]; simp -dsimp (disch := first | omega | (simp only [go_sem, seval]; first | done | omega)) only [go_sem, seval]
  have ho1 : w1.heap[w.heap.size + 1]? = some (.cells #[.int .i32 0, .int .u8 0, .int .u8 0, .int .u8 0] 70) := by rw [hw1]; simp -dsimp (disch := first | omega | (simp only [go_sem, seval]; first | done | omega)) only [go_sem, seval]
  clear hw1 hz
  refine OpX.call pen_ways_b rfl (Calls.ret (pways_c w1) ?_)
  rintro v w2 ⟨rfl, hc2⟩
  have hl1 := lt_of_heap (hc2.keep ho1 (by simp))
  simp -dsimp (disch := first | omega | (simp only [go_sem, seval]; first | done | omega)) only [go_sem, seval]
  obtain ⟨w3, hw3⟩ : ∃ w3, w3 = (w2.alloc (.cells #[.int .u8 0, .int .u8 1, .int .u8 2, .int .u8 4, .int .u8 8, .int .u8 16, .int .u8 0, .int .u8 32] 175)) := ⟨_, rfl⟩
  rw [← hw3]
  have hc3 : Chg [] w w3 := by rw [hw3]; exact (hc1.trans0 hc2).alloc _
  have hp : w3.heap[w.heap.size]? = some (.cells #[.int .i32 c.r, .int .u8 c.fg.toNat, .int .u8 c.bg.toNat, .int .u8 c.a.toNat] 70) := by rw [hw3]; exact ((Chg.refl [] _).alloc _).keep (hc2.keep hp1 (by simp)) (by simp)
  have ho : w3.heap[w.heap.size + 1]? = some (.cells #[.int .i32 0, .int .u8 0, .int .u8 0, .int .u8 0] 70) := by rw [hw3]; exact ((Chg.refl [] _).alloc _).keep (hc2.keep ho1 (by simp)) (by simp)
  have hq : w3.heap[w2.heap.size]? = some (.cells #[.int .u8 0, .int .u8 1, .int .u8 2, .int .u8 4, .int .u8 8, .int .u8 16, .int .u8 0, .int .u8 32] 175) := by rw [hw3]; simp -dsimp (disch := first | omega | (simp only [go_sem, seval]; first | done | omega)) only [go_sem, seval]
  have hl3 := lt_of_heap ho
  clear hw3 hc1 hc2 hp1 ho1
  obtain ⟨D, hD⟩ : ∃ D, D = obeyP c n := ⟨_, rfl⟩
  rw [← hD] at hK
  refine Join0.cut (fun w' => ObeyR w D w') ?_ ?_
  · have done : ∀ (f b a : BitVec 8) (w4 : World), (w4 = setBlk w3 w.heap.size (.cells #[.int .i32 c.r, .int .u8 f.toNat, .int .u8 b.toNat, .int .u8 a.toNat] 70) ∨ w4 = (setBlk w3 w.heap.size (.cells #[.int .i32 c.r, .int .u8 f.toNat, .int .u8 b.toNat, .int .u8 a.toNat] 70)).drew) → D = ⟨c.r, f, b, a⟩ →
        ObeyR w D w4 := by
      intro f b a w4 h4 e
      rw [e]
      have hcc := hc3.set w.heap.size (.cells #[.int .i32 c.r, .int .u8 f.toNat, .int .u8 b.toNat, .int .u8 a.toNat] 70) (.inr (Nat.le_refl _))
      rcases h4 with rfl | rfl
      · exact ⟨hcc, (by simp -dsimp (disch := first | omega | (simp only [go_sem, seval]; first | done | omega)) only [go_sem, seval]), (by simp -dsimp (disch := first | omega | (simp only [go_sem, seval]; first | done | omega)) only [go_sem, seval, ho])⟩
      · exact ⟨hcc.drew, (by simp -dsimp (disch := first | omega | (simp only [go_sem, seval]; first | done | omega)) only [go_sem, seval]), (by simp -dsimp (disch := first | omega | (simp only [go_sem, seval]; first | done | omega)) only [go_sem, seval, ho])⟩
    unfold obeyP at hD
    simp -dsimp (disch := first | omega | (simp only [go_sem, seval]; first | done | omega)) only [go_sem, seval]
    refine BrW.dec (fun d1 => ?_) (fun d1 => ?_)
    · rw [if_pos d1] at hD
      simp -dsimp (disch := first | omega | (simp only [go_sem, seval]; first | done | omega)) only [go_sem, seval, hp]
      exact done 0 0 0 _ (.inl rfl) hD
    rw [if_neg d1] at hD
    refine Join1.cut (fun v w' => v = .bool (decide (0 < n ∧ n < 8)) ∧ w3 = w') ?_ ?_
    · simp -dsimp (disch := first | omega | (simp only [go_sem, seval]; first | done | omega)) only [go_sem, seval]
      refine BrW.dec (fun g1 => ?_) (fun g1 => ?_)
      · simp -dsimp (disch := first | omega | (simp only [go_sem, seval]; first | done | omega)) only [go_sem, seval]
        exact congrArg Value.bool (decide_eq_decide.2 (by omega))
      · exact ⟨congrArg Value.bool (decide_eq_false (by omega)).symm, rfl⟩
    rintro v w4 ⟨rfl, rfl⟩
    refine BrW.dec (fun d2 => ?_) (fun d2 => ?_)
    · rw [if_pos d2] at hD
      have hn : n = 1 ∨ n = 2 ∨ n = 3 ∨ n = 4 ∨ n = 5 ∨ n = 6 ∨ n = 7 := by omega
      rcases hn with rfl | rfl | rfl | rfl | rfl | rfl | rfl <;> (simp -dsimp (disch := first | omega | (simp only [go_sem, seval]; first | done | omega)) only [go_sem, seval, hp, hq, bitV_or_u8]; exact done c.fg c.bg _ _ (.inr rfl) hD)
    rw [if_neg d2] at hD
    simp -dsimp (disch := first | omega | (simp only [go_sem, seval]; first | done | omega)) only [go_sem, seval]
    refine BrW.dec (fun d3 => ?_) (fun d3 => ?_)
    · rw [if_pos d3] at hD
      simp -dsimp (disch := first | omega | (simp only [go_sem, seval]; first | done | omega)) only [go_sem, seval, hp, bitV_andNot_u8]
      exact done c.fg c.bg _ _ (.inl rfl) hD
    rw [if_neg d3] at hD
    refine Join1.cut (fun v w' => v = .bool (decide (23 ≤ n ∧ n ≤ 27)) ∧ w3 = w') ?_ ?_
    · simp -dsimp (disch := first | omega | (simp only [go_sem, seval]; first | done | omega)) only [go_sem, seval]
      refine BrW.dec (fun g1 => ?_) (fun g1 => ?_)
      · simp -dsimp (disch := first | omega | (simp only [go_sem, seval]; first | done | omega)) only [go_sem, seval]
        exact congrArg Value.bool (decide_eq_decide.2 (by omega))
      · exact ⟨congrArg Value.bool (decide_eq_false (by omega)).symm, rfl⟩
    rintro v w4 ⟨rfl, rfl⟩
    refine BrW.dec (fun d4 => ?_) (fun d4 => ?_)
    · rw [if_pos d4] at hD
      have hn : n = 23 ∨ n = 24 ∨ n = 25 ∨ n = 26 ∨ n = 27 := by omega
      rcases hn with rfl | rfl | rfl | rfl | rfl <;> (simp -dsimp (disch := first | omega | (simp only [go_sem, seval]; first | done | omega)) only [go_sem, seval, hp, hq, bitV_andNot_u8]; exact done c.fg c.bg _ _ (.inr rfl) hD)
    rw [if_neg d4] at hD
    refine Join1.cut (fun v w' => v = .bool (decide (30 ≤ n ∧ n ≤ 37)) ∧ w3 = w') ?_ ?_
    · simp -dsimp (disch := first | omega | (simp only [go_sem, seval]; first | done | omega)) only [go_sem, seval]
      refine BrW.dec (fun g1 => ?_) (fun g1 => ?_)
      · simp -dsimp (disch := first | omega | (simp only [go_sem, seval]; first | done | omega)) only [go_sem, seval]
        exact congrArg Value.bool (decide_eq_decide.2 (by omega))
      · exact ⟨congrArg Value.bool (decide_eq_false (by omega)).symm, rfl⟩
    rintro v w4 ⟨rfl, rfl⟩
    refine BrW.dec (fun d5 => ?_) (fun d5 => ?_)
    · rw [if_pos d5] at hD
      simp -dsimp (disch := first | omega | (simp only [go_sem, seval]; first | done | omega)) only [go_sem, seval]
      refine OpX.call pen_colour_b rfl (Calls.ret (pcolour_c _ (n - 30)) ?_)
      rintro v w4 ⟨rfl, rfl⟩
      simp -dsimp (disch := first | omega | (simp only [go_sem, seval]; first | done | omega)) only [go_sem, seval, hp]
      exact done (hue (n - 30)) c.bg c.a _ (.inl rfl) hD
    rw [if_neg d5] at hD
    simp -dsimp (disch := first | omega | (simp only [go_sem, seval]; first | done | omega)) only [go_sem, seval]
    refine BrW.dec (fun d6 => ?_) (fun d6 => ?_)
    · rw [if_pos d6] at hD
      simp -dsimp (disch := first | omega | (simp only [go_sem, seval]; first | done | omega)) only [go_sem, seval, hp]
      exact done 0 c.bg c.a _ (.inl rfl) hD
    rw [if_neg d6] at hD
    refine Join1.cut (fun v w' => v = .bool (decide (40 ≤ n ∧ n ≤ 47)) ∧ w3 = w') ?_ ?_
    · simp -dsimp (disch := first | omega | (simp only [go_sem, seval]; first | done | omega)) only [go_sem, seval]
      refine BrW.dec (fun g1 => ?_) (fun g1 => ?_)
      · simp -dsimp (disch := first | omega | (simp only [go_sem, seval]; first | done | omega)) only [go_sem, seval]
        exact congrArg Value.bool (decide_eq_decide.2 (by omega))
      · exact ⟨congrArg Value.bool (decide_eq_false (by omega)).symm, rfl⟩
    rintro v w4 ⟨rfl, rfl⟩
    refine BrW.dec (fun d7 => ?_) (fun d7 => ?_)
    · rw [if_pos d7] at hD
      simp -dsimp (disch := first | omega | (simp only [go_sem, seval]; first | done | omega)) only [go_sem, seval]
      refine OpX.call pen_colour_b rfl (Calls.ret (pcolour_c _ (n - 40)) ?_)
      rintro v w4 ⟨rfl, rfl⟩
      simp -dsimp (disch := first | omega | (simp only [go_sem, seval]; first | done | omega)) only [go_sem, seval, hp]
      exact done c.fg (hue (n - 40)) c.a _ (.inl rfl) hD
    rw [if_neg d7] at hD
    simp -dsimp (disch := first | omega | (simp only [go_sem, seval]; first | done | omega)) only [go_sem, seval]
    refine BrW.dec (fun d8 => ?_) (fun d8 => ?_)
    · rw [if_pos d8] at hD
      simp -dsimp (disch := first | omega | (simp only [go_sem, seval]; first | done | omega)) only [go_sem, seval, hp]
      exact done c.fg 0 c.a _ (.inl rfl) hD
    rw [if_neg d8] at hD
    refine Join1.cut (fun v w' => v = .bool (decide (90 ≤ n ∧ n ≤ 97)) ∧ w3 = w') ?_ ?_
    · simp -dsimp (disch := first | omega | (simp only [go_sem, seval]; first | done | omega)) only [go_sem, seval]
      refine BrW.dec (fun g1 => ?_) (fun g1 => ?_)
      · simp -dsimp (disch := first | omega | (simp only [go_sem, seval]; first | done | omega)) only [go_sem, seval]
        exact congrArg Value.bool (decide_eq_decide.2 (by omega))
      · exact ⟨congrArg Value.bool (decide_eq_false (by omega)).symm, rfl⟩
    rintro v w4 ⟨rfl, rfl⟩
    refine BrW.dec (fun d9 => ?_) (fun d9 => ?_)
    · rw [if_pos d9] at hD
      simp -dsimp (disch := first | omega | (simp only [go_sem, seval]; first | done | omega)) only [go_sem, seval]
      refine OpX.call pen_colour_b rfl (Calls.ret (pcolour_c _ (n - 82)) ?_)
      rintro v w4 ⟨rfl, rfl⟩
      simp -dsimp (disch := first | omega | (simp only [go_sem, seval]; first | done | omega)) only [go_sem, seval, hp]
      exact done (hue (n - 82)) c.bg c.a _ (.inl rfl) hD
    rw [if_neg d9] at hD
    refine Join1.cut (fun v w' => v = .bool (decide (100 ≤ n ∧ n ≤ 107)) ∧ w3 = w') ?_ ?_
    · simp -dsimp (disch := first | omega | (simp only [go_sem, seval]; first | done | omega)) only [go_sem, seval]
      refine BrW.dec (fun g1 => ?_) (fun g1 => ?_)
      · simp -dsimp (disch := first | omega | (simp only [go_sem, seval]; first | done | omega)) only [go_sem, seval]
        exact congrArg Value.bool (decide_eq_decide.2 (by omega))
      · exact ⟨congrArg Value.bool (decide_eq_false (by omega)).symm, rfl⟩
    rintro v w4 ⟨rfl, rfl⟩
    refine BrW.dec (fun d10 => ?_) (fun d10 => ?_)
    · rw [if_pos d10] at hD
      simp -dsimp (disch := first | omega | (simp only [go_sem, seval]; first | done | omega)) only [go_sem, seval]
      refine OpX.call pen_colour_b rfl (Calls.ret (pcolour_c _ (n - 92)) ?_)
      rintro v w4 ⟨rfl, rfl⟩
      simp -dsimp (disch := first | omega | (simp only [go_sem, seval]; first | done | omega)) only [go_sem, seval, hp]
      exact done c.fg (hue (n - 92)) c.a _ (.inl rfl) hD
    rw [if_neg d10] at hD
    subst hD
    exact ⟨hc3, hp, ho⟩
  · rintro w4 ⟨hc4, hp4, ho4⟩
    have hl4 := lt_of_heap ho4
    simp -dsimp (disch := first | omega | (simp only [go_sem, seval]; first | done | omega)) only [go_sem, seval, hp4, ho4]
    exact hK _ _ ⟨rfl, hc4.set _ _ (.inr (by omega))⟩
end Go.Proofs.YtjfembffjjijaaaGreat
namespace Go.Proofs.YtjfembffjjijaaaGreat
open Lyc Go
theorem chosenP_mem {l : List Int} {x : Int} (h : x ∈ (chosenP l).2) : x ∈ l := by
  unfold chosenP at h
  split at h
  · exact List.mem_cons_of_mem _ (List.mem_cons_of_mem _ h)
  · exact List.mem_cons_of_mem _ (List.mem_cons_of_mem _ (List.mem_cons_of_mem _ (List.mem_cons_of_mem _ h)))
  · simp at h
theorem left_i64 {a : Act'} (hf : a.fits) : ∀ x ∈ a.left, i64ok x := by
  intro x hx
  unfold Act'.left at hx
  dsimp only at hx
  split at hx
  · simp at hx; subst hx; unfold i64ok; omega
  · exact hf.nums x (List.mem_of_mem_take hx)
def PenI (w : World) (b b5 : Nat) (R : Cel) (l : List Int) (c : Cel) (w' : World) : Prop :=
  Chg [] w w' ∧ w'.heap[b]? = some (.cells c.cells.toArray 70) ∧ w'.heap[b + 2]? = some (.cells #[.int .i32 0, .int .u8 0, .int .u8 0, .int .u8 0] 70) ∧ LeftAt w' b5 l ∧ (∀ x ∈ l, i64ok x) ∧ ∃ k, l.length ≤ k ∧ penGo k l c = R
theorem penGo_nil (k : Nat) (c : Cel) : penGo k [] c = c := by cases k <;> rfl
theorem papply_c (w : World) (c : Cel) (a : Act') (hf : a.fits) : Calls Tryz.prog 110 #[c.val, a.val] w (retK fun v w' => v = (penP c a).val ∧ Chg [] w w') := by
  apply pen_Apply_link
  intro K hK
  unfold pen_Apply
  simp -dsimp (disch := first | omega | (simp only [go_sem, seval]; first | done | omega)) only [go_sem, seval]
  have hz : (w.alloc (.cells #[.int .i32 c.r, .int .u8 c.fg.toNat, .int .u8 c.bg.toNat, .int .u8 c.a.toNat] 70)).heap.size = w.heap.size + 1 := by simp -dsimp (disch := first | omega | (simp only [go_sem, seval]; first | done | omega)) only [go_sem, seval]
  have hz2 : ((w.alloc (.cells #[.int .i32 c.r, .int .u8 c.fg.toNat, .int .u8 c.bg.toNat, .int .u8 c.a.toNat] 70)).alloc (.cells a.cells.toArray 34)).heap.size = w.heap.size + 2 := by simp -dsimp (disch := first | omega | (simp only [go_sem, seval]; first | done | omega)) only [go_sem, seval]
  simp only [Act'.cells] at hz2
  rw [hz2, hz]
  obtain ⟨w1, hw1⟩ : ∃ w1, w1 = (((w.alloc (.cells c.cells.toArray 70)).alloc (.cells a.cells.toArray 34)).alloc (.cells #[.int .i32 0, .int .u8 0, .int .u8 0, .int .u8 0] 70)) := ⟨_, rfl⟩
  have hc1 : Chg [] w w1 := by rw [hw1]; exact chg_a3 _ _ _ _
  have hp1 : w1.heap[w.heap.size]? = some (.cells c.cells.toArray 70) := by rw [hw1]; simp -dsimp (disch := first | omega | (simp only [go_sem, seval]; first | done | omega)) only [go_sem, seval]
  have ha1 : w1.heap[w.heap.size + 1]? = some (.cells a.cells.toArray 34) := by rw [hw1]; simp -dsimp (disch := first | omega | (simp only [go_sem, seval]; first | done | omega)) only [go_sem, seval]
  have ho1 : w1.heap[w.heap.size + 2]? = some (.cells #[.int .i32 0, .int .u8 0, .int .u8 0, .int .u8 0] 70) := by rw [hw1]; simp -dsimp (disch := first | omega | (simp only [go_sem, seval]; first | done | omega)) only [go_sem, seval]
  have hl1 := lt_of_heap ho1
  simp only [Act'.cells, Cel.cells] at hw1
  rw [← hw1]
  clear hw1 hz hz2
  refine Join1.cut (fun v w' => v = .bool (decide (a.kind ≠ 4 ∨ a.r ≠ 109 ∨ a.priv ≠ 0 ∨ a.mid ≠ 0)) ∧ w1 = w') ?_ ?_
  · simp -dsimp (disch := first | omega | (simp only [go_sem, seval]; first | done | omega)) only [go_sem, seval, ha1]
    refine BrW.dec (fun g1 => ?_) (fun g1 => ?_)
    · exact ⟨congrArg Value.bool (decide_eq_true (.inl g1)).symm, rfl⟩
    simp -dsimp (disch := first | omega | (simp only [go_sem, seval]; first | done | omega)) only [go_sem, seval, ha1]
    refine BrW.dec (fun g2 => ?_) (fun g2 => ?_)
    · exact ⟨congrArg Value.bool (decide_eq_true (.inr (.inl g2))).symm, rfl⟩
    simp -dsimp (disch := first | omega | (simp only [go_sem, seval]; first | done | omega)) only [go_sem, seval, ha1]
    refine BrW.dec (fun g3 => ?_) (fun g3 => ?_)
    · exact ⟨congrArg Value.bool (decide_eq_true (.inr (.inr (.inl g3)))).symm, rfl⟩
    simp -dsimp (disch := first | omega | (simp only [go_sem, seval]; first | done | omega)) only [go_sem, seval, ha1]
    refine congrArg Value.bool (decide_eq_decide.2 ⟨fun h => .inr (.inr (.inr h)), fun h => ?_⟩)
    rcases h with h | h | h | h
    · exact absurd h g1
    · exact absurd h g2
    · exact absurd h g3
    · exact h
  rintro v w2 ⟨rfl, rfl⟩
  unfold penP at hK
  refine BrW.dec (fun d1 => ?_) (fun d1 => ?_)
  · rw [if_pos d1] at hK
    simp -dsimp (disch := first | omega | (simp only [go_sem, seval]; first | done | omega)) only [go_sem, seval, hp1, ho1]
    exact hK _ _ ⟨rfl, hc1.set _ _ (.inr (by omega))⟩
  rw [if_neg d1] at hK
  obtain ⟨R, hR⟩ : ∃ R, R = penGo 9 a.left c := ⟨_, rfl⟩
  rw [← hR] at hK
  simp -dsimp (disch := first | omega | (simp only [go_sem, seval]; first | done | omega)) only [go_sem, seval, ha1]
  refine Join0.cut (fun w' => PenI w w.heap.size w1.heap.size R a.left c w') ?_ ?_
  · obtain ⟨n, hn⟩ : ∃ n, n = (min (max a.n 0) 8).toNat := ⟨_, rfl⟩
    have hn8 : n ≤ 8 := by omega
    rw [← hn]
    obtain ⟨w2, hw2⟩ : ∃ w2, w2 = w1.alloc (.cells #[.slice (some ⟨w.heap.size + 1, 5, none⟩) n 8] 52) := ⟨_, rfl⟩
    have hc2 : Chg [] w1 w2 := by rw [hw2]; exact chg_a1 _ _
    have h52 : w2.heap[w1.heap.size]? = some (.cells #[.slice (some ⟨w.heap.size + 1, 5, none⟩) n 8] 52) := by rw [hw2]; simp -dsimp (disch := first | omega | (simp only [go_sem, seval]; first | done | omega)) only [go_sem, seval]
    have hl52 := lt_of_heap h52
    have ha2 := hc2.keep ha1 (by simp)
    have hsx : Sx w2 (some 34) fI (some ⟨w.heap.size + 1, 5, none⟩) (a.nums.take n) := by
      have h0 : Sx w2 (some 34) fI (some ⟨w.heap.size + 1, 5, none⟩) a.nums := ⟨fun _ => ⟨w.heap.size + 1, 5, _, _, _, a.cells.take 5, [], rfl, ha2, by simp [tagOk], rfl, rfl⟩⟩
      have := h0.sub (m := 1) (fun _ => rfl) 0 n (some ⟨w.heap.size + 1, 5, none⟩) (.inr (.inr rfl))
      simpa using this
    have hlen : (a.nums.take n).length = n := by rw [List.length_take, show a.nums.length = 8 from rfl]; omega
    rw [← hw2]
    have hp2 := hc2.keep hp1 (by simp)
    have ho2 := hc2.keep ho1 (by simp)
    clear hw2
    simp -dsimp (disch := first | omega | (simp only [go_sem, seval]; first | done | omega)) only [go_sem, seval, h52]
    refine BrW.dec (fun d2 => ?_) (fun d2 => ?_)
    · have hleft : a.left = [0] := by
        unfold Act'.left
        dsimp only
        rw [← hn, if_pos (List.eq_nil_of_length_eq_zero (by omega))]
      simp -dsimp (disch := first | omega | (simp only [go_sem, seval]; first | done | omega)) only [go_sem, seval, h52]
      rw [hleft] at hR ⊢
      refine ⟨?_, ?_, ?_, ⟨w2.heap.size, 0, 1, ?_, by simp, by simp, Nat.ne_of_gt hl52, 3, .inr rfl, ?_⟩, by simp [i64ok], 9, by simp, hR.symm⟩
      · exact ((hc1.trans0 hc2).set w1.heap.size _ (.inr (by omega))).alloc _
      · simp -dsimp (disch := first | omega | (simp only [go_sem, seval]; first | done | omega)) only [go_sem, seval, hp2]
      · simp -dsimp (disch := first | omega | (simp only [go_sem, seval]; first | done | omega)) only [go_sem, seval, ho2]
      · simp -dsimp (disch := first | omega | (simp only [go_sem, seval]; first | done | omega)) only [go_sem, seval]
      · refine Sx.built (c := [.int .i64 0]) ?_ rfl
        simp -dsimp (disch := first | omega | (simp only [go_sem, seval]; first | done | omega)) only [go_sem, seval]
    · have hleft : a.left = a.nums.take n := by
        unfold Act'.left
        dsimp only
        rw [← hn, if_neg (fun h => d2 (by rw [h] at hlen; simp at hlen; omega))]
      refine ⟨hc1.trans0 hc2, hp2, ho2, ⟨w.heap.size + 1, 5, 8, ?_, ?_, ?_, by omega, 34, .inl rfl, ?_⟩, left_i64 hf, 9, ?_, hR.symm⟩
      · rw [hleft, hlen]; exact h52
      · rw [hleft, hlen]; exact hn8
      · rw [hleft, hlen]; exact hn8
      · rw [hleft]; exact hsx
      · rw [hleft, hlen]; omega
  · intro w2 hI
    simp -dsimp (disch := first | omega | (simp only [go_sem, seval]; first | done | omega)) only [go_sem, seval]
    refine Loop0.st (fun (st : List Int × Cel) w' => PenI w w.heap.size w1.heap.size R st.1 st.2 w') (fun st => st.1.length) (a.left, c) hI ?_
    clear hI hp1 ha1 ho1 w2
    rintro next ⟨l, c2⟩ w2 hn ⟨hc2, hp2, ho2, hL, hi, k, hk, hR⟩
    dsimp only at hp2 hL hi hk hR
    have hl2 := lt_of_heap ho2
    have hL' := hL
    obtain ⟨g, o, cap, q1, q2, q3, q4, -⟩ := hL'
    have hl3 := lt_of_heap q1
    simp -dsimp (disch := first | omega | (simp only [go_sem, seval]; first | done | omega)) only [go_sem, seval, q1]
    refine BrW.dec (fun d2 => ?_) (fun d2 => ?_)
    · rcases l with _ | ⟨n, l⟩
      · simp at d2
      obtain ⟨k, rfl⟩ : ∃ k', k = k' + 1 := ⟨k - 1, by simp at hk; omega⟩
      refine OpX.callV (us := []) (cs := [_]) pen_Apply_1_b rfl (Calls.ret (ptake_c hL 1 (by omega)) ?_)
      rintro v w3 ⟨⟨g3, o3, cap3, rfl, hg3, hs3⟩, hL3, hc3⟩
      have e1 : (n :: l).take 1 = [n] := rfl
      have e2 : (n :: l).drop 1 = l := rfl
      rw [e1] at hs3 ⊢
      rw [e2] at hL3
      have hcell := fI_cell hs3 (i := 0) rfl
      simp only [Nat.add_zero] at hcell
      have hc4 : Chg [] w w3 := hc2.trans hc3 (by simp; omega)
      have hp3 := hc3.keep hp2 (by simp; omega)
      have ho3 := hc3.keep ho2 (by simp; omega)
      have hl4 := lt_of_heap ho3
      simp -dsimp (disch := first | omega | (simp only [go_sem, seval]; first | done | omega)) only [go_sem, seval, hcell]
      refine Join1.cut (fun v w' => v = .bool (decide (n = 38 ∨ n = 48)) ∧ w3 = w') ?_ ?_
      · simp -dsimp (disch := first | omega | (simp only [go_sem, seval]; first | done | omega)) only [go_sem, seval]
        refine BrW.dec (fun g1 => ?_) (fun g1 => ?_)
        · exact ⟨congrArg Value.bool (decide_eq_true (.inl g1)).symm, rfl⟩
        · simp -dsimp (disch := first | omega | (simp only [go_sem, seval]; first | done | omega)) only [go_sem, seval]
          simp [g1]
      rintro v w4 ⟨rfl, rfl⟩
      unfold penGo at hR
      refine BrW.dec (fun d3 => ?_) (fun d3 => ?_)
      · refine OpX.call pen_chosen_b rfl (Calls.ret (pchosen_c hL3) ?_)
        rintro v w4 ⟨rfl, hL4, hc5⟩
        have hc6 : Chg [] w w4 := hc4.trans hc5 (by simp; omega)
        have hp4 := hc5.keep hp3 (by simp; omega)
        have ho4 := hc5.keep ho3 (by simp; omega)
        have hl5 := lt_of_heap ho4
        have hi' : ∀ x ∈ (chosenP l).2, i64ok x := fun x hx => hi x (List.mem_cons_of_mem _ (chosenP_mem hx))
        have hlen := chosenP_len l
        have hlk : (chosenP l).2.length ≤ k := by simp at hk; omega
        have hlt : (chosenP l).2.length < (n :: l).length := by simp; omega
        have hlt4 : w.heap.size < w4.heap.size := by omega
        obtain ⟨q, hq⟩ : ∃ q, q = (chosenP l).1 := ⟨_, rfl⟩
        rw [← hq] at hR ⊢
        have nx : ∀ (f b : BitVec 8) (w5 : World), w5 = setBlk w4 w.heap.size (.cells #[.int .i32 c2.r, .int .u8 f.toNat, .int .u8 b.toNat, .int .u8 c2.a.toNat] 70) → penGo k (chosenP l).2 ⟨c2.r, f, b, c2.a⟩ = R → next w5 := by
          intro f b w5 h5 e
          subst h5
          refine hn ((chosenP l).2, ⟨c2.r, f, b, c2.a⟩) _ ⟨hc6.set _ _ (.inr (Nat.le_refl _)), ?_, ?_, ?_, hi', k, hlk, e⟩ hlt
          · simp -dsimp (disch := first | omega | (simp only [go_sem, seval]; first | done | omega)) only [go_sem, seval]
          · simp -dsimp (disch := first | omega | (simp only [go_sem, seval]; first | done | omega)) only [go_sem, seval, ho4]
          · exact hL4.low ((Chg.refl [w.heap.size] w4).set _ _ (by simp)) (by omega) hp4
        simp -dsimp (disch := first | omega | (simp only [go_sem, seval]; first | done | omega)) only [go_sem, seval]
        rcases q with _ | x
        · refine Join1.cut (fun v w' => v = .bool false ∧ w4 = w') ?_ ?_
          · exact BrW.by (fun h => by simp at h) (fun _ => ⟨rfl, rfl⟩)
          rintro v w5 ⟨rfl, rfl⟩
          simp -dsimp (disch := first | omega | (simp only [go_sem, seval]; first | done | omega)) only [go_sem, seval]
          refine hn ((chosenP l).2, c2) _ ⟨hc6, hp4, ho4, hL4, hi', k, hlk, ?_⟩ hlt
          rw [← hR]
          split
          · rfl
          · split
            · rfl
            · omega
        · refine Join1.cut (fun v w' => v = .bool (decide (n = 38)) ∧ w4 = w') ?_ ?_
          · refine BrW.by (fun _ => ?_) (fun h => by simp at h)
            simp -dsimp (disch := first | omega | (simp only [go_sem, seval]; first | done | omega)) only [go_sem, seval]
          rintro v w5 ⟨rfl, rfl⟩
          refine BrW.dec (fun g1 => ?_) (fun g1 => ?_)
          · rw [if_pos g1] at hR
            simp -dsimp (disch := first | omega | (simp only [go_sem, seval]; first | done | omega)) only [go_sem, seval, hp4]
            exact nx x c2.bg _ rfl hR
          · rw [if_neg g1, if_pos (by omega)] at hR
            refine BrW.by (fun _ => ?_) (fun h => by simp at h)
            simp -dsimp (disch := first | omega | (simp only [go_sem, seval]; first | done | omega)) only [go_sem, seval, hp4]
            exact nx c2.fg x _ rfl hR
      · rw [if_neg (by omega), if_neg (by omega)] at hR
        simp -dsimp (disch := first | omega | (simp only [go_sem, seval]; first | done | omega)) only [go_sem, seval, hp3]
        refine OpX.call pen_obey_b rfl (Calls.ret (pobey_c _ c2 n (hi n (by simp))) ?_)
        rintro v w4 ⟨rfl, hc5⟩
        have hp4 := hc5.keep hp3 (by simp)
        have ho4 := hc5.keep ho3 (by simp)
        have hl5 := lt_of_heap ho4
        have hc6 := hc4.trans0 hc5
        simp -dsimp (disch := first | omega | (simp only [go_sem, seval]; first | done | omega)) only [go_sem, seval, hp4]
        refine hn (l, obeyP c2 n) _ ⟨hc6.set _ _ (.inr (Nat.le_refl _)), ?_, ?_, ?_, fun x hx => hi x (List.mem_cons_of_mem _ hx), k, by simp at hk; exact hk, hR⟩ (by simp)
        · simp -dsimp (disch := first | omega | (simp only [go_sem, seval]; first | done | omega)) only [go_sem, seval]
        · simp -dsimp (disch := first | omega | (simp only [go_sem, seval]; first | done | omega)) only [go_sem, seval, ho4]
        · exact (hL3.chg0 hc5).low ((Chg.refl [w.heap.size] w4).set _ _ (by simp)) (by omega) hp4
    · have hl0 : l = [] := by cases l with | nil => rfl | cons x l => simp at d2
      subst hl0
      rw [penGo_nil] at hR
      simp -dsimp (disch := first | omega | (simp only [go_sem, seval]; first | done | omega)) only [go_sem, seval, hp2, ho2]
      exact hK _ _ ⟨by rw [hR]; rfl, hc2.set _ _ (.inr (by omega))⟩
end Go.Proofs.YtjfembffjjijaaaGreat
namespace Go.Proofs.YtjfembffjjijaaaGreat
open Lyc Go
theorem Scm.wTabs (M : Scm) (h : M.S.tabs.length = 200) : putAt (some M.obj) 29 (List.replicate 200 (.bool false)) = some ({ M with S := { M.S with tabs := List.replicate 200 false } } : Scm).obj := by
  refine M.put _ 29 _ h (by rw [List.length_replicate]; omega) ?_
  have e1 : M.cells = M.cells.take 29 ++ (M.S.tabs.map Value.bool ++ [.bool M.S.wraps, .bool M.S.waits, .bool M.S.shown, M.gv]) := rfl
  have e2 : M.cells.drop (29 + (List.replicate 200 (Value.bool false)).length) = [.bool M.S.wraps, .bool M.S.waits, .bool M.S.shown, M.gv] := by
    rw [List.length_replicate, e1, ← List.append_assoc]
    exact List.drop_left' (by rw [List.length_append, List.length_map, h]; rfl)
  rw [e2]
  unfold Scm.cells Scm.end
  dsimp only
  rw [List.map_replicate]
  rfl
section
attribute [-go_sem] x_build x_buildA
theorem sset_c {w : World} {s : Nat} {M : Scm} (h : SAt w s M) (ok : M.S.ok) (a : Act') (hf : a.fits) : Calls Tryz.prog 77 #[.pointer (some ⟨s, 0, none⟩), a.val] w
    (retK fun v w' => v = .bool (M.S.set a).isSome ∧ Did w s M w' ((M.S.set a).getD M.S)) := by
  have hls := lt_of_heap h.hb
  have tl := h.tl
  have w1b := ok.w1
  have nx := ok.nx
  apply screen_Screen_set_link
  intro K hK
  unfold screen_Screen_set
  simp -dsimp (disch := first | omega | (simp only [go_sem, seval]; first | done | omega)) only [go_sem, seval]
  obtain ⟨w1, hw1⟩ : ∃ w1, w1 = w.alloc (.cells a.cells.toArray 34) := ⟨_, rfl⟩
  have hc1 : Chg [] w w1 := by rw [hw1]; exact chg_a1 _ _
  have ha1 : w1.heap[w.heap.size]? = some (.cells a.cells.toArray 34) := by rw [hw1]; simp -dsimp (disch := first | omega | (simp only [go_sem, seval]; first | done | omega)) only [go_sem, seval]
  simp only [Act'.cells] at hw1
  rw [← hw1]
  clear hw1
  have hla := lt_of_heap ha1
  have hA := h.chg0 hc1
  have hb := hA.hb
  have base : ∀ w' T, Did w1 s M w' T → Did w s M w' T := fun w' T hd => Did.trans (M1 := M) (hc1.mono (by simp)) (fun b hb => .inl hb) hd
  refine Join0.cut (fun w' => ∃ T, Did w s M w' T ∧ M.S.set a = some T) ?_ ?_
  · simp -dsimp (disch := first | omega | (simp only [go_sem, seval]; first | done | omega)) only [go_sem, seval, ha1]
    refine BrW.dec (fun c1 => ?_) (fun c1 => ?_)
    · simp -dsimp (disch := first | omega | (simp only [go_sem, seval]; first | done | omega)) only [go_sem, seval, ha1, hb]
      refine OpX.call pen_Apply_b rfl (Calls.ret (papply_c _ M.S.now.pen a hf) ?_)
      rintro v w2 ⟨rfl, hc2⟩
      have hc3 : Chg [] w1 w2 := (Chg.refl _ _).drew.trans0 hc2
      have hA2 := hA.chg0 hc3
      have hb2 := hA2.hb
      have hl2 := lt_of_heap hb2
      simp -dsimp (disch := first | omega | (simp only [go_sem, seval]; first | done | omega)) only [go_sem, seval, hb2]
      refine ⟨_, base _ _ (Did.set hA2 (hc3.mono (by simp)) (fun b hb => .inl hb) { M.S with now := { M.S.now with pen := penP M.S.now.pen a } } rfl rfl tl rfl), ?_⟩
      unfold Scr.set
      rw [if_pos c1]
    simp -dsimp (disch := first | omega | (simp only [go_sem, seval]; first | done | omega)) only [go_sem, seval, ha1]
    refine BrW.dec (fun c2 => ?_) (fun c2 => ?_)
    · simp -dsimp (disch := first | omega | (simp only [go_sem, seval]; first | done | omega)) only [go_sem, seval, ha1]
      refine OpX.call escape_Num_b rfl (Calls.ret (snum_c _ a 0 0) ?_)
      rintro v w2 ⟨rfl, hc2⟩
      have hA2 := hA.chg0 hc2
      have hb2 := hA2.hb
      have hl2 := lt_of_heap hb2
      have e : M.S.set a = some (if a.num 0 0 = 0 then { M.S with tabs := M.S.tabs.set M.S.now.x false } else if a.num 0 0 = 3 then { M.S with tabs := List.replicate 200 false } else M.S) := by
        unfold Scr.set
        rw [if_neg c1, if_pos c2]
      simp -dsimp (disch := first | omega | (simp only [go_sem, seval]; first | done | omega)) only [go_sem, seval]
      refine BrW.dec (fun d1 => ?_) (fun d1 => ?_)
      · rw [if_pos d1] at e
        simp -dsimp (disch := first | omega | (simp only [go_sem, seval]; first | done | omega)) only [go_sem, seval, hb2]
        exact ⟨_, base _ _ (Did.set (hA2.chg0 (Chg.refl _ _).drew) (hc2.mono (by simp)).drew (fun b hb => .inl hb) { M.S with tabs := M.S.tabs.set M.S.now.x false } rfl rfl (by rw [List.length_set]; exact tl) rfl), e⟩
      rw [if_neg d1] at e
      simp -dsimp (disch := first | omega | (simp only [go_sem, seval]; first | done | omega)) only [go_sem, seval]
      refine BrW.dec (fun d2 => ?_) (fun d2 => ?_)
      · rw [if_pos d2] at e
        refine OpX.build (c := (List.replicate 200 (.bool false)).toArray) (by kernel_rfl) ?_
        obtain ⟨z, hz⟩ : ∃ z, z = (List.replicate 200 (Value.bool false)).toArray := ⟨_, rfl⟩
        rw [← hz]
        simp -dsimp (disch := first | omega | (simp only [go_sem, seval]; first | done | omega)) only [go_sem, seval]
        rw [x_store _ _ _ _ _ _ _ (by rw [hz]; kernel_rfl) (by rw [hz]; kernel_rfl)]
        have hp : putAt w2.heap[s]? 29 (Value.agg z).cells.toList = some ({ M with S := { M.S with tabs := List.replicate 200 false } } : Scm).obj := by
          rw [hz, hb2]
          exact M.wTabs tl
        rw [hp, StX_some]
        exact ⟨_, base _ _ (Did.set hA2 (hc2.mono (by simp)) (fun b hb => .inl hb) { M.S with tabs := List.replicate 200 false } rfl rfl (by rw [List.length_replicate]) rfl), e⟩
      · rw [if_neg d2] at e
        exact ⟨_, base _ _ (Did.trans (M1 := M) (hc2.mono (by simp)) (fun b hb => .inl hb) (Did.refl hA2)), e⟩
    simp -dsimp (disch := first | omega | (simp only [go_sem, seval]; first | done | omega)) only [go_sem, seval]
    refine BrW.dec (fun c3 => ?_) (fun c3 => ?_)
    · simp -dsimp (disch := first | omega | (simp only [go_sem, seval]; first | done | omega)) only [go_sem, seval]
      refine OpX.call screen_Screen_save_b rfl (Calls.ret (ssave_c hA) ?_)
      rintro v w2 hd
      refine ⟨_, base _ _ hd, ?_⟩
      unfold Scr.set
      rw [if_neg c1, if_neg c2, if_pos c3]
    have e : M.S.set a = none := by
      unfold Scr.set
      rw [if_neg c1, if_neg c2, if_neg c3]
    rw [e] at hK
    exact hK _ _ ⟨rfl, base _ _ (Did.refl hA)⟩
  · rintro w2 ⟨T, hd, e⟩
    rw [e] at hK
    exact hK _ _ ⟨rfl, hd⟩
end
end Go.Proofs.YtjfembffjjijaaaGreat
namespace Go.Proofs.YtjfembffjjijaaaGreat
open Lyc Go
theorem modes_snoc (S : Scr) (l : List Int) (x : Int) (on : Bool) : S.modes (l ++ [x]) on = (S.modes l on).mode x on := by unfold Scr.modes; rw [List.foldl_append]; rfl
theorem nums_sx {w : World} {b : Nat} {a : Act'} (h : w.heap[b]? = some (.cells a.cells.toArray 34)) : Sx w none fI (some ⟨b, 5, none⟩) a.nums := ⟨fun _ => ⟨b, 5, _, _, _, a.cells.take 5, [], rfl, h, by simp [tagOk], rfl, rfl⟩⟩
theorem scsi_c {w : World} {s : Nat} {M : Scm} (h : SAt w s M) (ok : M.S.ok) (a : Act') (hf : a.fits) : Calls Tryz.prog 40 #[.pointer (some ⟨s, 0, none⟩), a.val] w
    (retK fun _ w' => Did w s M w' (M.S.csi a)) := by
  have hls := lt_of_heap h.hb
  have hlt := h.lt
  have tl := h.tl
  apply screen_Screen_csi_link
  intro K hK
  unfold screen_Screen_csi
  simp -dsimp (disch := first | omega | (simp only [go_sem, seval]; first | done | omega)) only [go_sem, seval]
  obtain ⟨w1, hw1⟩ : ∃ w1, w1 = w.alloc (.cells a.cells.toArray 34) := ⟨_, rfl⟩
  have hc1 : Chg [] w w1 := by rw [hw1]; exact chg_a1 _ _
  have ha1 : w1.heap[w.heap.size]? = some (.cells a.cells.toArray 34) := by rw [hw1]; simp -dsimp (disch := first | omega | (simp only [go_sem, seval]; first | done | omega)) only [go_sem, seval]
  simp only [Act'.cells] at hw1
  rw [← hw1]
  clear hw1
  have hla := lt_of_heap ha1
  have hA := h.chg0 hc1
  have hoa : w.heap.size ∉ s :: M.blk := fun hm => by have := hlt _ hm; omega
  have base : ∀ w' T, Did w1 s M w' T → Did w s M w' T := fun w' T hd => Did.trans (M1 := M) (hc1.mono (by simp)) (fun b hb => .inl hb) hd
  obtain ⟨C, hC⟩ : ∃ C, C = M.S.csi a := ⟨_, rfl⟩
  rw [← hC] at hK
  unfold Scr.csi at hC
  refine Join1.cut (fun v w' => v = .bool (decide (a.priv = 63 ∧ a.mid = 0 ∧ (a.r = 104 ∨ a.r = 108))) ∧ w1 = w') ?_ ?_
  · simp -dsimp (disch := first | omega | (simp only [go_sem, seval]; first | done | omega)) only [go_sem, seval, ha1]
    refine BrW.dec (fun g1 => ?_) (fun g1 => ?_)
    · simp -dsimp (disch := first | omega | (simp only [go_sem, seval]; first | done | omega)) only [go_sem, seval, ha1]
      refine BrW.dec (fun g2 => ?_) (fun g2 => ?_)
      · simp -dsimp (disch := first | omega | (simp only [go_sem, seval]; first | done | omega)) only [go_sem, seval, ha1]
        refine BrW.dec (fun g3 => ?_) (fun g3 => ?_)
        · exact ⟨congrArg Value.bool (decide_eq_true ⟨g1, g2, .inl g3⟩).symm, rfl⟩
        · simp -dsimp (disch := first | omega | (simp only [go_sem, seval]; first | done | omega)) only [go_sem, seval, ha1]
          exact congrArg Value.bool (decide_eq_decide.2 ⟨fun h => ⟨g1, g2, .inr h⟩, fun h => h.2.2.resolve_left g3⟩)
      · exact ⟨congrArg Value.bool (decide_eq_false (fun h => g2 h.2.1)).symm, rfl⟩
    · exact ⟨congrArg Value.bool (decide_eq_false (fun h => g1 h.1)).symm, rfl⟩
  rintro v w2 ⟨rfl, rfl⟩
  refine BrW.dec (fun d1 => ?_) (fun d1 => ?_)
  · rw [if_pos d1] at hC
    obtain ⟨n, hn⟩ : ∃ n, n = (min (max a.n 0) 8).toNat := ⟨_, rfl⟩
    have hn8 : n ≤ 8 := by omega
    rw [← hn] at hC
    simp -dsimp (disch := first | omega | (simp only [go_sem, seval]; first | done | omega)) only [go_sem, seval, ha1]
    rw [← hn]
    refine Loop1.st (fun i : Nat => .int .i64 (i : Int)) (fun i w' => i ≤ n ∧ Did w1 s M w' (M.S.modes (a.nums.take i) (decide (a.r = 104)))) (fun i => n - i) 0 rfl ⟨by omega, Did.refl hA⟩ ?_
    rintro next i w2 hnx ⟨hi, hd⟩
    have ha2 := hd.keep ha1 hoa
    have hl2 := lt_of_heap ha2
    simp -dsimp (disch := first | omega | (simp only [go_sem, seval]; first | done | omega)) only [go_sem, seval]
    refine BrW.dec (fun d2 => ?_) (fun d2 => ?_)
    · have hi8 : i < a.nums.length := by rw [show a.nums.length = 8 from rfl]; omega
      have hcell := fI_cell (nums_sx ha2) (i := i) (List.getElem?_eq_getElem hi8)
      have hx := hf.nums _ (List.getElem_mem hi8)
      obtain ⟨M2, hA2, hS2, hc2, hbl2⟩ := hd
      have ok2 : M2.S.ok := by rw [hS2]; exact ok.modes.ok
      simp -dsimp (disch := first | omega | (simp only [go_sem, seval]; first | done | omega)) only [go_sem, seval, hcell]
      simp -dsimp (disch := first | omega | (simp only [go_sem, seval]; first | done | omega)) only [go_sem, seval, ha2]
      refine OpX.call screen_Screen_mode_b rfl (Calls.ret (smode_c hA2 ok2 (a.nums[i]) (decide (a.r = 104))) ?_)
      rintro v w3 hd3
      have e1 : (i : Int) + 1 = ((i + 1 : Nat) : Int) := by omega
      simp -dsimp (disch := first | omega | (simp only [go_sem, seval]; first | done | omega)) only [go_sem, seval, e1]
      refine hnx (i + 1) _ ⟨by omega, ?_⟩ (by omega)
      rw [take_next hi8, modes_snoc, ← hS2]
      exact Did.trans hc2 hbl2 hd3
    · have : i = n := by omega
      subst this
      exact hK _ _ (base _ _ (by rw [hC]; exact hd))
  rw [if_neg d1] at hC
  refine Join1.cut (fun v w' => v = .bool (decide (a.priv ≠ 0 ∨ a.mid ≠ 0)) ∧ w1 = w') ?_ ?_
  · simp -dsimp (disch := first | omega | (simp only [go_sem, seval]; first | done | omega)) only [go_sem, seval, ha1]
    refine BrW.dec (fun g1 => ?_) (fun g1 => ?_)
    · exact ⟨congrArg Value.bool (decide_eq_true (.inl g1)).symm, rfl⟩
    · simp -dsimp (disch := first | omega | (simp only [go_sem, seval]; first | done | omega)) only [go_sem, seval, ha1]
      refine congrArg Value.bool (decide_eq_decide.2 ⟨fun h => .inr h, fun h => ?_⟩)
      rcases h with h | h
      · exact absurd h g1
      · exact h
  rintro v w2 ⟨rfl, rfl⟩
  refine BrW.dec (fun d2 => ?_) (fun d2 => ?_)
  · rw [if_pos d2] at hC
    exact hK _ _ (base _ _ (by rw [hC]; exact Did.refl hA))
  rw [if_neg d2] at hC
  simp -dsimp (disch := first | omega | (simp only [go_sem, seval]; first | done | omega)) only [go_sem, seval, ha1]
  refine OpX.call screen_Screen_set_b rfl (Calls.ret (sset_c hA ok a hf) ?_)
  rintro v w2 ⟨rfl, hd2⟩
  have ha2 := hd2.keep ha1 hoa
  rcases hs : M.S.set a with _ | T
  · rw [hs] at hd2 hC
    dsimp only [Option.getD] at hd2 hC
    obtain ⟨M2, hA2, hS2, hc2, hbl2⟩ := hd2
    have ok2 : M2.S.ok := by rw [hS2]; exact ok
    have hz2 := hc2.size
    have hoa2 := blk_off hbl2 hoa hla
    rw [← hS2] at hC
    refine BrW.by (fun h => by simp at h) (fun _ => ?_)
    refine Join1.cut (fun v w' => ∃ b T, v = .bool b ∧ Did w1 s M w' T ∧ C = bif b then T.calm else T) ?_ ?_
    · simp -dsimp (disch := first | omega | (simp only [go_sem, seval]; first | done | omega)) only [go_sem, seval, ha2]
      refine OpX.call screen_Screen_moved_b rfl (Calls.ret (smoved_c hA2 ok2 a hf) ?_)
      rintro v w3 ⟨rfl, hd3⟩
      have ha3 := hd3.keep ha2 hoa2
      rcases hm : M2.S.moved a with _ | T
      · rw [hm] at hd3 hC
        dsimp only [Option.getD] at hd3 hC
        obtain ⟨M3, hA3, hS3, hc3, hbl3⟩ := hd3
        have ok3 : M3.S.ok := by rw [hS3]; exact ok2
        rw [← hS3] at hC
        refine BrW.by (fun h => by simp at h) (fun _ => ?_)
        simp -dsimp (disch := first | omega | (simp only [go_sem, seval]; first | done | omega)) only [go_sem, seval, ha3]
        refine OpX.call screen_Screen_changed_b rfl (Calls.ret (schanged_c hA3 ok3 a hf) ?_)
        rintro v w4 ⟨rfl, hd4⟩
        rcases hch : M3.S.changed a with _ | T
        · rw [hch] at hd4 hC
          exact ⟨false, _, rfl, Did.trans hc2 hbl2 (Did.trans hc3 hbl3 hd4), hC⟩
        · rw [hch] at hd4 hC
          exact ⟨true, _, rfl, Did.trans hc2 hbl2 (Did.trans hc3 hbl3 hd4), hC⟩
      · rw [hm] at hd3 hC
        exact BrW.by (fun _ => ⟨true, _, rfl, Did.trans hc2 hbl2 hd3, hC⟩) (fun h => by simp at h)
    · rintro v w3 ⟨b, T, rfl, hd3, e⟩
      cases b with
      | true =>
        obtain ⟨M4, hb4, hS4, tl4, hd4⟩ := hd3.calm
        refine BrW.by (fun _ => ?_) (fun h => by simp at h)
        simp -dsimp (disch := first | omega | (simp only [go_sem, seval]; first | done | omega)) only [go_sem, seval, hb4]
        exact hK _ _ (base _ _ (by rw [e]; exact hd4))
      | false => exact BrW.by (fun h => by simp at h) (fun _ => hK _ _ (base _ _ (by rw [e]; exact hd3)))
  · rw [hs] at hd2 hC
    exact BrW.by (fun _ => hK _ _ (base _ _ (by rw [hC]; exact hd2))) (fun h => by simp at h)
theorem sdo_c {w : World} {s : Nat} {M : Scm} (h : SAt w s M) (ok : M.S.ok) {e : Option TypeId} {ad : Option Addr} {l : List Act'} (hs : Sx w e Act'.cells ad l) (hfar : ∀ b o, ad = some ⟨b, o, none⟩ → l ≠ [] → b ∉ s :: M.blk) (cap : Nat) (hl : l.length ≤ 1000000) (hf : ∀ a ∈ l, a.fits) : Calls Tryz.prog 12 #[.pointer (some ⟨s, 0, none⟩), .slice ad l.length cap] w
    (retK fun _ w' => Did w s M w' (M.S.acts l)) := by
  have w0 := ok.w0
  apply screen_Screen_Do_link
  intro K hK
  unfold screen_Screen_Do
  refine OpX.call screen_Screen_none_b rfl (Calls.ret (snone_c h w0) ?_)
  rintro v w1 ⟨rfl, rfl⟩
  simp -dsimp (disch := first | omega | (simp only [go_sem, seval]; first | done | omega)) only [go_sem, seval]
  refine Loop1.st (fun i : Nat => .int .i64 (i : Int)) (fun i w' => i ≤ l.length ∧ Did w s M w' (M.S.acts (l.take i))) (fun i => l.length - i) 0 rfl ⟨by omega, Did.refl h⟩ ?_
  rintro next i w2 hnx ⟨hi, hd⟩
  simp -dsimp (disch := first | omega | (simp only [go_sem, seval]; first | done | omega)) only [go_sem, seval]
  refine BrW.dec (fun d2 => ?_) (fun d2 => ?_)
  · have hi8 : i < l.length := by omega
    have hne : l ≠ [] := by rintro rfl; simp at hi8
    obtain ⟨M2, hA2, hS2, hc2, hbl2⟩ := hd
    have ok2 : M2.S.ok := by rw [hS2]; exact ok.acts.ok
    have hs2 := hs.chg hc2 hfar
    obtain ⟨b, o, rfl, hlb, hag⟩ := hs2.get (m := 13) Act'.len (List.getElem?_eq_getElem hi8)
    have hfa := hf _ (List.getElem_mem hi8)
    have e2 : M.S.acts (l.take (i + 1)) = M2.S.act l[i] := by rw [take_next hi8, hS2]; unfold Scr.acts; rw [List.foldl_append]; rfl
    obtain ⟨a, ha⟩ : ∃ a, a = l[i] := ⟨_, rfl⟩
    rw [← ha] at hag hfa e2
    have e1 : (i : Int) + 1 = ((i + 1 : Nat) : Int) := by omega
    refine Join0.cut (fun w' => Did w2 s M2 w' (M2.S.act a)) ?_ ?_
    · simp -dsimp (disch := first | omega | (simp only [go_sem, seval]; first | done | omega)) only [go_sem, seval, hag]
      obtain ⟨w3, hw3⟩ : ∃ w3, w3 = w2.alloc (.cells a.cells.toArray 34) := ⟨_, rfl⟩
      have hc3 : Chg [] w2 w3 := by rw [hw3]; exact chg_a1 _ _
      have ha3 : w3.heap[w2.heap.size]? = some (.cells a.cells.toArray 34) := by rw [hw3]; simp -dsimp (disch := first | omega | (simp only [go_sem, seval]; first | done | omega)) only [go_sem, seval]
      simp only [Act'.cells] at hw3
      rw [← hw3]
      clear hw3
      have hA3 := hA2.chg0 hc3
      have base : ∀ w' T, Did w3 s M2 w' T → Did w2 s M2 w' T := fun w' T hd => Did.trans (M1 := M2) (hc3.mono (by simp)) (fun b hb => .inl hb) hd
      obtain ⟨C, hC⟩ : ∃ C, C = M2.S.act a := ⟨_, rfl⟩
      rw [← hC]
      unfold Scr.act at hC
      refine BrW.dec (fun c1 => ?_) (fun c1 => ?_)
      · rw [if_pos c1] at hC
        simp -dsimp (disch := first | omega | (simp only [go_sem, seval]; first | done | omega)) only [go_sem, seval, ha3]
        refine OpX.call screen_Screen_print_b rfl (Calls.ret (sprint_c hA3 ok2 a.r) ?_)
        rintro v w4 hd
        rw [hC]; exact base _ _ hd
      rw [if_neg c1] at hC
      simp -dsimp (disch := first | omega | (simp only [go_sem, seval]; first | done | omega)) only [go_sem, seval]
      refine BrW.dec (fun c2 => ?_) (fun c2 => ?_)
      · rw [if_pos c2] at hC
        simp -dsimp (disch := first | omega | (simp only [go_sem, seval]; first | done | omega)) only [go_sem, seval, ha3]
        refine OpX.call screen_Screen_ctl_b rfl (Calls.ret (sctl_c hA3 ok2 a.r) ?_)
        rintro v w4 hd
        rw [hC]; exact base _ _ hd
      rw [if_neg c2] at hC
      simp -dsimp (disch := first | omega | (simp only [go_sem, seval]; first | done | omega)) only [go_sem, seval]
      refine BrW.dec (fun c3 => ?_) (fun c3 => ?_)
      · rw [if_pos c3] at hC
        simp -dsimp (disch := first | omega | (simp only [go_sem, seval]; first | done | omega)) only [go_sem, seval, ha3]
        refine BrW.dec (fun c4 => ?_) (fun c4 => ?_)
        · rw [if_pos c4] at hC
          simp -dsimp (disch := first | omega | (simp only [go_sem, seval]; first | done | omega)) only [go_sem, seval, ha3]
          refine OpX.call screen_Screen_esc_b rfl (Calls.ret (sesc_c hA3 ok2 a.r) ?_)
          rintro v w4 hd
          rw [hC]; exact base _ _ hd
        · rw [if_neg c4] at hC
          rw [hC]; exact base _ _ (Did.refl hA3)
      rw [if_neg c3] at hC
      simp -dsimp (disch := first | omega | (simp only [go_sem, seval]; first | done | omega)) only [go_sem, seval]
      refine BrW.dec (fun c4 => ?_) (fun c4 => ?_)
      · rw [if_pos c4] at hC
        simp -dsimp (disch := first | omega | (simp only [go_sem, seval]; first | done | omega)) only [go_sem, seval, ha3]
        refine OpX.call screen_Screen_csi_b rfl (Calls.ret (scsi_c hA3 ok2 a hfa) ?_)
        rintro v w4 hd
        rw [hC]; exact base _ _ hd
      rw [if_neg c4] at hC
      rw [hC]; exact base _ _ (Did.refl hA3)
    · intro w3 hd3
      simp -dsimp (disch := first | omega | (simp only [go_sem, seval]; first | done | omega)) only [go_sem, seval, e1]
      refine hnx (i + 1) _ ⟨by omega, ?_⟩ (by omega)
      rw [e2]
      exact Did.trans hc2 hbl2 hd3
  · have : i = l.length := by omega
    subst this
    rw [List.take_length] at hd
    exact hK _ _ hd
end Go.Proofs.YtjfembffjjijaaaGreat
namespace Go.Proofs.YtjfembffjjijaaaGreat
open Lyc Go
def noGrid : Value := .agg #[.int .i64 0, .int .i64 0, .slice none 0 0]
theorem gnew_bad (w : World) (x y : Int) (hf : fitsG x y = false) : Calls Tryz.prog 32 #[.int .i64 x, .int .i64 y] w (retK fun v w' => v = noGrid ∧ Chg [] w w') := by
  apply grid_New_link
  intro K hK
  unfold grid_New
  simp -dsimp (disch := first | omega | (simp only [go_sem, seval]; first | done | omega)) only [go_sem, seval]
  refine OpX.call grid_fits_b rfl (Calls.ret (fits_c _ x y) ?_)
  rintro v w1 ⟨rfl, rfl⟩
  simp -dsimp (disch := first | omega | (simp only [go_sem, seval]; first | done | omega)) only [go_sem, seval, hf]
  have hc1 := chg_a1 w (.cells #[.int .i64 0, .int .i64 0, .slice none 0 0] 38)
  exact hK _ _ ⟨rfl, hc1⟩
theorem gcheck_bad (w : World) : Calls Tryz.prog 33 #[noGrid] w (retK fun v w' => v = .bool false ∧ Chg [] w w') := by
  have hf : fitsG 0 0 = false := by decide
  apply grid_Check_link
  intro K hK
  unfold grid_Check
  simp -dsimp (disch := first | omega | (simp only [go_sem, seval]; first | done | omega)) only [go_sem, seval, noGrid]
  refine Join1.inl ?_
  simp -dsimp (disch := first | omega | (simp only [go_sem, seval]; first | done | omega)) only [go_sem, seval]
  refine OpX.call grid_fits_b rfl (Calls.ret (fits_c _ 0 0) ?_)
  rintro v w1 ⟨rfl, rfl⟩
  simp -dsimp (disch := first | omega | (simp only [go_sem, seval]; first | done | omega)) only [go_sem, seval, hf]
  exact hK _ _ ⟨rfl, chg_a2 _ _ _⟩
theorem snew_bad (w : World) (x y : Int) (hf : fitsG x y = false) : Calls Tryz.prog 10 #[.int .i64 x, .int .i64 y] w (retK fun v w' => v = .pointer none ∧ Chg [] w w') := by
  apply screen_New_link
  intro K hK
  unfold screen_New
  refine OpX.call grid_New_b rfl (Calls.ret (gnew_bad w x y hf) ?_)
  rintro v w1 ⟨rfl, hc1⟩
  simp -dsimp (disch := first | omega | (simp only [go_sem, seval]; first | done | omega)) only [go_sem, seval, noGrid]
  refine OpX.call grid_Check_b rfl (Calls.ret (gcheck_bad _) ?_)
  rintro v w2 ⟨rfl, hc2⟩
  simp -dsimp (disch := first | omega | (simp only [go_sem, seval]; first | done | omega)) only [go_sem, seval]
  exact hK _ _ ⟨rfl, ((hc1.alloc _).trans0 hc2)⟩
def new0 (W H : Nat) : List Value :=
  [(.int .i64 W : Value), .int .i64 H] ++ noGr ++ noGr ++ [(.int .i64 0 : Value), .int .i64 0, .int .i32 0, .int .u8 0, .int .u8 0, .int .u8 0, .int .i64 0, .int .i64 0, .int .i32 0, .int .u8 0, .int .u8 0, .int .u8 0, .int .i64 0, .int .i64 0, .int .i64 0, .int .i32 0, .int .u8 0, .int .u8 0, .int .u8 0, .int .i64 0, .int .i64 0] ++ List.replicate 200 (.bool false) ++ [.bool false, .bool false, .bool false, .slice none 0 0]
section
attribute [-go_sem] x_build x_buildA
theorem snew_c (w : World) (W H : Nat) (W0 : 0 < W) (W1 : W ≤ 200) (H0 : 0 < H) (H1 : H ≤ 60) : Calls Tryz.prog 10 #[.int .i64 W, .int .i64 H] w
    (retK fun v w' => ∃ s M, v = .pointer (some ⟨s, 0, none⟩) ∧ SAt w' s M ∧ M.S = Scr.new W H ∧ Chg [] w w' ∧ w.heap.size ≤ s ∧ ∀ b ∈ M.blk, w.heap.size ≤ b) := by
  apply screen_New_link
  intro K hK
  unfold screen_New
  refine OpX.call grid_New_b rfl (Calls.ret (gnew_c w W H W0 W1 H0 H1) ?_)
  rintro v w1 ⟨hg, hc1⟩
  obtain ⟨nb, cap, rfl, q1, q2, q3, q4⟩ := hg.sx
  simp -dsimp (disch := first | omega | (simp only [go_sem, seval]; first | done | omega)) only [go_sem, seval, Gr.val]
  refine OpX.gen fun w2 hw2 => ?_
  have hc2 : Chg [] w1 w2 := by rw [hw2]; exact chg_a1 _ _
  clear hw2
  have hfit := Gr.fit_plain W0 W1 H0 H1
  refine OpX.call grid_Check_b rfl (Calls.ret (gcheck_c hfit.ok (q4.chg0 hc2) cap q1) ?_)
  rintro v w3 ⟨rfl, hc3⟩
  simp -dsimp (disch := first | omega | (simp only [go_sem, seval]; first | done | omega)) only [go_sem, seval, hfit.r]
  refine OpX.build (c := (new0 W H).toArray) (by kernel_rfl) ?_
  rw [x_box]
  obtain ⟨z, hz⟩ : ∃ z, z = (Value.agg (new0 W H).toArray).cells := ⟨_, rfl⟩
  rw [← hz]
  have hb : (w3.alloc (.cells z 76)).heap[w3.heap.size]? = some (.cells (new0 W H).toArray 76) := by
    rw [hz]
    exact Lyc.heap_alloc_new _ _ _ rfl
  have hc4 : Chg [] w w3 := (hc1.trans0 hc2).trans0 hc3
  have hc5 : Chg [] w3 (w3.alloc (.cells z 76)) := chg_a1 _ _
  have hs5 : (w3.alloc (.cells z 76)).heap.size = w3.heap.size + 1 := by simp -dsimp (disch := first | omega | (simp only [go_sem, seval]; first | done | omega)) only [go_sem, seval]
  have hlen : (new0 W H).length = 233 := by unfold new0; simp only [List.length_append, List.length_replicate, List.length_cons, List.length_nil, noGr]
  have hz3 := hc4.size
  clear hz
  refine OpX.call screen_Screen_renew_b rfl (Calls.ret (srenew_c (W := W) (H := H) (rows := []) hb hlen rfl rfl rfl W0 W1 H0 H1 (Ox.nil _ _ _ _ _) (by simp)) ?_)
  rintro v w4 ⟨M, hA, hS, hgv, hc6, k1, k2⟩
  refine hK _ _ ⟨w3.heap.size, M, rfl, hA, ?_, (hc4.trans0 hc5).trans hc6 (by simp; omega), hz3, ?_⟩
  · rw [hS, snew_new]; rfl
  · intro b hb
    simp only [Scm.blk, List.mem_cons] at hb
    rcases hb with rfl | rfl | hb
    · omega
    · omega
    · rw [hgv] at hb; simp [Value.ownBlock] at hb
end
structure SNew (base : Nat) (w : World) (s : Nat) (W H : Nat) (M : Scm) : Prop where
  at_ : SAt w s M
  ok : M.S.ok
  w : M.S.w = W
  h : M.S.h = H
  gw : ∀ r ∈ M.S.gone, r.length = W
  lo : ∀ x ∈ s :: M.blk, base ≤ x
theorem SNew.did {base : Nat} {w w' : World} {s W H : Nat} {M : Scm} {T : Scr} (h : SNew base w s W H M) (hd : Did w s M w' T) (hn : Nx M.S T) (hb : base ≤ w.heap.size) : ∃ M', SNew base w' s W H M' ∧ M'.S = T ∧ Chg (s :: M.blk) w w' ∧ ∀ b ∈ M'.blk, b ∈ M.blk ∨ w.heap.size ≤ b := by
  obtain ⟨M', a, rfl, c, d⟩ := hd
  refine ⟨M', ⟨a, hn.ok, hn.w.trans h.w, hn.h.trans h.h, fun r hr => ?_, fun x hx => ?_⟩, rfl, c, d⟩
  · rw [← h.w, ← hn.w]; exact hn.gw (fun r hr => by rw [h.w]; exact h.gw r hr) r hr
  · rcases List.mem_cons.1 hx with e | hx
    · exact h.lo x (by rw [e]; simp)
    · rcases d x hx with hx | hx
      · exact h.lo x (by simp [hx])
      · omega
theorem SNew.chg0 {base : Nat} {w w' : World} {s W H : Nat} {M : Scm} (h : SNew base w s W H M) (hc : Chg [] w w') : SNew base w' s W H M := ⟨h.at_.chg0 hc, h.ok, h.w, h.h, h.gw, h.lo⟩
theorem snew2_c (w : World) (W H : Nat) (W0 : 0 < W) (W1 : W ≤ 200) (H0 : 0 < H) (H1 : H ≤ 60) : Calls Tryz.prog 10 #[.int .i64 W, .int .i64 H] w
    (retK fun v w' => ∃ s M, v = .pointer (some ⟨s, 0, none⟩) ∧ SNew w.heap.size w' s W H M ∧ M.S = Scr.new W H ∧ Chg [] w w') := by
  refine (snew_c w W H W0 W1 H0 H1).mono fun e w' h => ?_
  cases e with
  | returned v =>
    obtain ⟨s, M, rfl, hA, hS, hc, h1, h2⟩ := h
    refine ⟨s, M, rfl, ⟨hA, by rw [hS]; exact Scr.ok_new W0 W1 H0 H1, by rw [hS]; rfl, by rw [hS]; rfl, by rw [hS]; simp [Scr.new], fun x hx => ?_⟩, hS, hc⟩
    rcases List.mem_cons.1 hx with rfl | hx
    · exact h1
    · exact h2 x hx
  | _ => exact h.elim
theorem SNew.gone {base : Nat} {w w' : World} {s W H : Nat} {M : Scm} (h : SNew base w s W H M) (hA : SAt w' s { M with S := { M.S with gone := [] }, gv := .slice none 0 0, rows := [] }) : SNew base w' s W H { M with S := { M.S with gone := [] }, gv := .slice none 0 0, rows := [] } := by
  refine ⟨hA, ⟨h.ok.w0, h.ok.w1, h.ok.h0, h.ok.h1, h.ok.g0, h.ok.g1, h.ok.nx, h.ok.ny, h.ok.s0x, h.ok.s0y, h.ok.s1x, h.ok.s1y, h.ok.tf, h.ok.fh, h.ok.tl, by simp, by simp⟩, h.w, h.h, by simp, fun x hx => ?_⟩
  simp only [Scm.blk, Value.ownBlock, Option.toList_none, List.mem_cons, List.not_mem_nil, or_false] at hx
  rcases hx with rfl | rfl | rfl
  · exact h.lo _ (by simp)
  · exact h.lo _ (by simp [Scm.blk])
  · exact h.lo _ (by simp [Scm.blk])
theorem SAt.act_off {w : World} {s : Nat} {M : Scm} (h : SAt w s M) {b0 : Nat} {v : Value} {qs : List Act'} (ho : Ox b0 w 34 13 Act'.cells v qs) : ∀ x ∈ s :: M.blk, x ∉ v.ownBlock.toList := by
  intro x hx hm
  have hm : v.ownBlock = some x := by simpa using hm
  simp only [Scm.blk, List.mem_cons] at hx
  rcases hx with rfl | rfl | rfl | hx
  · have hb := h.hb
    unfold Scm.obj at hb
    exact ho.off hb rfl hm
  · exact ho.off h.h0 rfl hm
  · exact ho.off h.h1 rfl hm
  · obtain ⟨hl, hg⟩ := h.own
    rcases hg with ⟨hv, -⟩ | ⟨g, cap, cur, hv, -, hg, -⟩
    · rw [hv] at hx; simp [Value.ownBlock] at hx
    · rw [hv] at hx; simp [Value.ownBlock] at hx
      subst hx
      exact ho.off hg rfl hm
theorem SAt.act_rows {w : World} {s : Nat} {M : Scm} (h : SAt w s M) {b0 : Nat} {v : Value} {qs : List Act'} (ho : Ox b0 w 34 13 Act'.cells v qs) : ∀ r ∈ M.rows, ∀ b o, r.a = some ⟨b, o, none⟩ → r.cs ≠ [] → b ∉ v.ownBlock.toList := by
  intro r hr b o ha hne hm
  have hm : v.ownBlock = some b := by simpa using hm
  obtain ⟨hl, hg⟩ := ho
  rcases hg with ⟨hv, -⟩ | ⟨g, cap, cur, hv, -, hg, -⟩
  · rw [hv] at hm; simp [Value.ownBlock] at hm
  · rw [hv] at hm; simp [Value.ownBlock] at hm
    subst hm
    exact (h.rows r hr).ne ha hne hg rfl rfl
theorem SAt.act {w w' : World} {s : Nat} {M : Scm} (h : SAt w s M) {b0 : Nat} {v : Value} {qs : List Act'} (ho : Ox b0 w 34 13 Act'.cells v qs) (hc : Chg v.ownBlock.toList w w') : SAt w' s M :=
  h.chg hc (h.act_off ho) (h.act_rows ho)
end Go.Proofs.YtjfembffjjijaaaGreat
namespace Go.Proofs.YtjfembffjjijaaaGreat
open Lyc Go
def viewRow (g : Gr) (L : List (List Cel)) (first y : Nat) : List Cel := if first + y < L.length then mend (L.getD (first + y) []) else g.row (first + y - L.length)
theorem hview_c {w : World} {h : Nat} {H : Hs} (hh : HAt w h H) {g : Gr} (hg : g.ok) (hr : g.right = true) {e : Option TypeId} {a : Option Addr} (hs : SxC w e a g.cs) (cap : Nat) (hcap : g.cs.length ≤ cap) (hrows : ∀ l ∈ H.list, l.length = g.w) (back : Int) :
    Calls Tryz.prog 56 #[.pointer (some ⟨h, 0, none⟩), g.val a cap, .int .i64 back] w
    (retK fun v w' => GAt w.heap.size w' v (Gr.of g.w g.h (viewRow g H.list (H.list.length - min back.toNat H.list.length))) ∧ Chg [] w w') := by
  have hh1 := hg.h1
  have hw1 := hg.w1
  have hroom := hh.room1
  have hfit := hh.fit
  have hll := H.list_len
  apply history_History_View_link
  intro K hK
  unfold history_History_View
  simp -dsimp (disch := first | omega | (simp only [go_sem, seval]; first | done | omega)) only [go_sem, seval, Gr.val]
  refine OpX.gen fun w0 hw0 => ?_
  have hc0 : Chg [] w w0 := by rw [hw0]; exact chg_a2 _ _ _
  have hg0 : w0.heap[w.heap.size]? = some (.cells #[.int .i64 g.w, .int .i64 g.h, .slice a g.cs.length cap] 38) := by rw [hw0]; simp -dsimp (disch := first | omega | (simp only [go_sem, seval]; first | done | omega)) only [go_sem, seval]
  have ho0 : w0.heap[w.heap.size + 1]? = some (.cells #[.int .i64 0, .int .i64 0, .slice none 0 0] 38) := by rw [hw0]; simp -dsimp (disch := first | omega | (simp only [go_sem, seval]; first | done | omega)) only [go_sem, seval]
  clear hw0
  refine OpX.call grid_Check_b rfl (Calls.ret (gcheck_c hg (hs.chg0 hc0) cap hcap) ?_)
  rintro v w1 ⟨rfl, hc1⟩
  rw [hr]
  simp -dsimp (disch := first | omega | (simp only [go_sem, seval]; first | done | omega)) only [go_sem, seval]
  refine OpX.call history_History_Len_b rfl (Calls.ret (hlen_c ((hh.chg0 hc0).chg0 hc1)) ?_)
  rintro v w2 ⟨rfl, rfl⟩
  simp -dsimp (disch := first | omega | (simp only [go_sem, seval]; first | done | omega)) only [go_sem, seval]
  have hc02 := hc0.trans0 hc1
  have hg2 := hc1.keep hg0 (by simp)
  have ho2 := hc1.keep ho0 (by simp)
  have hlo := lt_of_heap ho2
  have hm : (g.w : Int) * (g.h : Int) = (g.cs.length : Int) := by rw [hg.len]; simp
  have hle := hg.le
  refine Join1.cut (fun v w' => Chg [] w2 w' ∧ ∃ t9 sb, v = .pointer (some ⟨t9, 0, none⟩) ∧ w2.heap.size ≤ t9 ∧ w'.heap[t9]? = some (.cells #[.int .i64 g.w, .int .i64 g.h, .slice (some ⟨sb, 0, none⟩) 0 g.cs.length] 38) ∧ Ox w2.heap.size w' 70 4 Cel.cells (.slice (some ⟨sb, 0, none⟩) 0 g.cs.length) []) ?_ ?_
  · simp -dsimp (disch := first | omega | (simp only [go_sem, seval]; first | done | omega)) only [go_sem, seval, hg2, hm]
    refine ⟨?_, ?_⟩
    · refine make_0 (f := Cel.cells) ty36mk rfl (by omega) (by omega) (by omega) (by omega) (show w2.heap.size ≤ w2.drew.heap.size from Nat.le_refl _) ?_
      intro w3 hw3 ho3
      have hc3 : Chg [] w2 w3 := by rw [hw3]; exact (Chg.refl _ _).drew.alloc _
      rw [Int.toNat_natCast] at ho3 ⊢
      have hg3 := hc3.keep hg2 (by simp)
      have hz3 : w3.heap.size = w2.heap.size + 1 := by rw [hw3]; simp -dsimp (disch := first | omega | (simp only [go_sem, seval]; first | done | omega)) only [go_sem, seval]
      clear hw3
      simp -dsimp (disch := first | omega | (simp only [go_sem, seval]; first | done | omega)) only [go_sem, seval, hg3]
      exact ⟨hc3.alloc _, w3.heap.size, _, rfl, by omega, Lyc.heap_alloc_new _ _ _ rfl, ho3.chg0 (chg_a1 _ _)⟩
    · have hca := (Chg.refl [] w2).drew.alloc (.cells #[.int .i64 0, .int .i64 0, .slice none 0 0] 38)
      refine make_0 (f := Cel.cells) ty36mk rfl (by omega) (by omega) (by omega) (by omega) (show w2.heap.size ≤ _ from hca.size) ?_
      intro w3 hw3 ho3
      have hc3 : Chg [] w2 w3 := by rw [hw3]; exact hca.alloc _
      rw [Int.toNat_natCast] at ho3 ⊢
      have hg3 := hc3.keep hg2 (by simp)
      have ht3 : w3.heap[w2.heap.size]? = some (.cells #[.int .i64 0, .int .i64 0, .slice none 0 0] 38) := by rw [hw3]; simp -dsimp (disch := first | omega | (simp only [go_sem, seval]; first | done | omega)) only [go_sem, seval]
      have hz : ((w2.alloc (.cells #[.int .i64 0, .int .i64 0, .slice none 0 0] 38)).drew).heap.size = w2.heap.size + 1 := by simp -dsimp (disch := first | omega | (simp only [go_sem, seval]; first | done | omega)) only [go_sem, seval]
      have hl3 := lt_of_heap ht3
      clear hw3
      rw [hz] at ho3
      simp -dsimp (disch := first | omega | (simp only [go_sem, seval]; first | done | omega)) only [go_sem, seval, hg3, ht3]
      refine ⟨hc3.set _ _ (.inr (Nat.le_refl _)), w2.heap.size, _, rfl, Nat.le_refl _, heap_set_same _ _ _ _ rfl hl3, ho3.chg (F := [w2.heap.size]) ((Chg.refl _ _).set _ _ (by simp)) fun b hb => ?_⟩
      simp [Value.ownBlock] at hb
      simp; omega
  · rintro v w3 ⟨hc3, t9, sb, rfl, h9, ht9, ho3⟩
    have efst : (H.list.length : Int) - min (max back 0) H.list.length = ((H.list.length - min back.toNat H.list.length : Nat) : Int) := by omega
    have ewr : IntKind.i64.wrap ((H.list.length : Int) - min (max back 0) H.list.length) = ((H.list.length - min back.toNat H.list.length : Nat) : Int) := by rw [wrap_i64 _ (by omega) (by omega), efst]
    have hfl : H.list.length - min back.toNat H.list.length ≤ H.list.length := by omega
    generalize H.list.length - min back.toNat H.list.length = fst at *
    simp -dsimp (disch := first | omega | (simp only [go_sem, seval]; first | done | omega)) only [go_sem, seval, efst]
    rw [ewr]
    have hvl : ∀ y, y < g.h → (viewRow g H.list fst y).length = g.w := by
      intro y hy
      unfold viewRow
      split
      · rename_i h1
        rw [mend_len, List.getD_eq_getElem?_getD, List.getElem?_eq_getElem h1]
        exact hrows _ (List.getElem_mem _)
      · exact hg.row_len (by omega)
    have hrl := fun k (hk : k ≤ g.h) => rowsOf_len (fun y (hy : y < k) => hvl y (by omega))
    have hg3 := hc3.keep hg2 (by simp)
    refine Loop1.st (fun s : Nat × Value => .int .i64 ((fst + s.1 : Nat) : Int)) (fun s w' => s.1 ≤ g.h ∧ Chg [] w2 w' ∧ w'.heap[t9]? = some (.cells #[.int .i64 g.w, .int .i64 g.h, s.2] 38) ∧ Ox w2.heap.size w' 70 4 Cel.cells s.2 (rowsOf (viewRow g H.list fst) s.1)) (fun s => g.h - s.1) (0, _) (by simp) ⟨by simp, hc3, ht9, ho3⟩ ?_
    rintro next ⟨k, v⟩ w4 hn ⟨hk, hc4, ht4, ho4⟩
    dsimp only at hk ht4 ho4 ⊢
    have hg4 := hc4.keep hg2 (by simp)
    simp -dsimp (disch := first | omega | (simp only [go_sem, seval]; first | done | omega)) only [go_sem, seval, hg4]
    refine BrW.dec (fun h1 => ?_) (fun h1 => ?_)
    · refine Join0.cut (fun w' => ∃ v', Chg [] w2 w' ∧ w'.heap[t9]? = some (.cells #[.int .i64 g.w, .int .i64 g.h, v'] 38) ∧ Ox w2.heap.size w' 70 4 Cel.cells v' (rowsOf (viewRow g H.list fst) (k + 1))) ?_ ?_
      · have key : ∀ (w5 : World) (r : Value), Chg [] w4 w5 → Ox w4.heap.size w5 70 4 Cel.cells r (viewRow g H.list fst k) → ∃ a' n' c', r = .slice a' n' c' ∧ OpX Tryz.prog (.call { callee := .builtin .append, args := #[.const v, .const r], argTypes := #[36, 36] }) 36 (fun t55 => qF 38 (Value.pointer (some ⟨t9, 0, none⟩)) 2 fun t56 => xS 36 t56 t55 (fun w' => ∃ v', Chg [] w2 w' ∧ w'.heap[t9]? = some (.cells #[.int .i64 g.w, .int .i64 g.h, v'] 38) ∧ Ox w2.heap.size w' 70 4 Cel.cells v' (rowsOf (viewRow g H.list fst) (k + 1)))) w5 := by
          intro w5 r hc5 hr5
          obtain ⟨a', c', rfl, _, hs5, -, -⟩ := hr5.form
          refine ⟨a', _, c', rfl, ?_⟩
          have ho5 := ho4.chg0 hc5
          have ht5 := hc5.keep ht4 (by simp)
          have hc25 := hc4.trans0 hc5
          have h6 := Nat.mul_le_mul hk hw1
          refine app_x ty36ap Cel.len Cel.ok ho5 hs5 rfl (by rw [hrl k hk, hvl k (by omega)]; omega) (by omega) (by have := hc25.size; omega) ?_
          intro v6 w6 ho6 hc6 _
          have hof := ho5.off ht5 rfl
          have ht6 := hc6.keep ht5 (by intro hx; apply hof; simpa using hx)
          have hl6 := lt_of_heap ht6
          obtain ⟨a6, c6, rfl, -⟩ := ho6.form
          have hc26 : Chg [] w2 w6 := hc25.trans hc6 fun x hx => .inr (ho5.own_ge x hx)
          simp -dsimp (disch := first | omega | (simp only [go_sem, seval]; first | done | omega)) only [go_sem, seval, ht6]
          exact ⟨_, hc26.set _ _ (.inr h9), rfl, ho6.chg (F := [t9]) ((Chg.refl _ _).set _ _ (by simp)) fun b hb hm => by
            simp at hm; subst hm
            exact ho6.off ht6 rfl hb.symm⟩
        simp -dsimp (disch := first | omega | (simp only [go_sem, seval]; first | done | omega)) only [go_sem, seval, hg4]
        refine BrW.dec (fun h2 => ?_) (fun h2 => ?_)
        · simp -dsimp (disch := first | omega | (simp only [go_sem, seval]; first | done | omega)) only [go_sem, seval, ht4, hg4]
          have e1 : (((fst + k : Nat) : Int) - (H.list.length : Int)) = ((fst + k - H.list.length : Nat) : Int) := by omega
          rw [e1]
          have hcl := grow_c hg ((hs.chg0 hc02).chg0 (hc4.drew)) cap hcap (y := fst + k - H.list.length) (by omega)
          refine OpX.call grid_Row_b rfl (Calls.ret (hcl) ?_)
          rintro r w5 ⟨ho5, hc5⟩
          have ev : viewRow g H.list fst k = g.row (fst + k - H.list.length) := by unfold viewRow; rw [if_neg (by omega)]
          rw [← ev] at ho5
          have hc45 : Chg [] w4 w5 := hc5.low_drew
          have ht5 := hc45.keep ht4 (by simp)
          obtain ⟨a', n', c', rfl, hk5⟩ := key w5 r hc45 ho5
          simp -dsimp (disch := first | omega | (simp only [go_sem, seval]; first | done | omega)) only [go_sem, seval, ht5]
          exact hk5
        · have hi : fst + k < H.list.length := by omega
          have hh4 := ((hh.chg0 hc02).chg0 hc4)
          simp -dsimp (disch := first | omega | (simp only [go_sem, seval]; first | done | omega)) only [go_sem, seval]
          refine OpX.call history_ring_api_Cell_at_b rfl (Calls.ret (hat_some hh4 (fst + k) hi) ?_)
          rintro u w5 ⟨r, rfl, hr5, hs5, hm5, hc5⟩
          have hrl5 : r.cs.length = g.w := hrows _ (List.mem_of_getElem? hr5)
          have hg5 := hc5.keep hg4 (by simp)
          have ht5 := hc5.keep ht4 (by simp)
          simp -dsimp (disch := first | omega | (simp only [go_sem, seval]; first | done | omega)) only [go_sem, seval, ht5, hg5, Rw.val]
          have hf := fitted_c (hs5.chg0 (Chg.refl _ _).drew) r.cap (by omega)
          rw [hrl5] at hf ⊢
          refine OpX.call history_fitted_b rfl (Calls.ret (hf) ?_)
          rintro r6 w6 ⟨ho6, hc6⟩
          have ev : viewRow g H.list fst k = mend r.cs := by unfold viewRow; rw [if_pos hi, List.getD_eq_getElem?_getD, hr5]; rfl
          rw [← ev] at ho6
          have hc46 : Chg [] w4 w6 := hc5.trans0 hc6.low_drew
          have ht6 := hc46.keep ht4 (by simp)
          obtain ⟨a', n', c', rfl, hk6⟩ := key w6 r6 hc46 (ho6.base_le hc5.size)
          simp -dsimp (disch := first | omega | (simp only [go_sem, seval]; first | done | omega)) only [go_sem, seval, ht6]
          exact hk6
      · rintro w5 ⟨v', a1, a2, a3⟩
        simp -dsimp (disch := first | omega | (simp only [go_sem, seval]; first | done | omega)) only [go_sem, seval]
        exact hn (k + 1, v') _ ⟨by dsimp only; omega, a1, a2, a3⟩ (by dsimp only; omega)
    · have hk' : k = g.h := by omega
      subst hk'
      obtain ⟨a', c', rfl, hcl, hs5, -, hne⟩ := ho4.form
      have hn0 : rowsOf (viewRow g H.list fst) g.h ≠ [] := by
        intro h0
        have := hrl g.h (Nat.le_refl _)
        rw [h0] at this
        have h2 := Nat.mul_pos hg.h0 hg.w0
        simp at *
        omega
      obtain ⟨nb, cap', sp, hv, -, h7, h8⟩ := ho4.blk hn0
      rw [Value.slice.injEq] at hv
      obtain ⟨rfl, -, rfl⟩ := hv
      have ho4' := hc4.keep ho2 (by simp)
      have hl4 := lt_of_heap ho4'
      simp -dsimp (disch := first | omega | (simp only [go_sem, seval]; first | done | omega)) only [go_sem, seval, ht4, ho4']
      refine hK _ _ ⟨⟨nb, c', sp, rfl, hcl, by omega, ?_⟩, ?_⟩
      · simp -dsimp (disch := first | omega | (simp only [go_sem, seval]; first | done | omega)) only [go_sem, seval]
        exact h8
      · exact (hc02.trans0 hc4).set _ _ (.inr (by simp))
end Go.Proofs.YtjfembffjjijaaaGreat
namespace Go.Proofs
open Go.Shelf
def Tryz.laysM316_ren : Go.Shelf.Ren := ⟨fun | 316 => 124 | n => n, fun | 9 => 9 | 3 => 3 | 4 => 4 | 37 => 53 | 0 => 0 | 127 => 165 | 5 => 5 | n => n, fun | n => n⟩
theorem Tryz.laysM316 : Go.Proofs.LaysM.n316 Tryz.prog Tryz.laysM316_ren := {
  mixed := by kernel_rfl
  f316 := Tryz.func124.trans (congrArg some (by kernel_rfl))
  t0 := Tryz.underlying0
  a0 := Tryz.isAgg0
  z0 := Tryz.sizeOf0
  v0 := Tryz.zeroValue0
  t3 := Tryz.underlying3
  a3 := Tryz.isAgg3
  z3 := Tryz.sizeOf3
  v3 := Tryz.zeroValue3
  t4 := Tryz.underlying4
  a4 := Tryz.isAgg4
  z4 := Tryz.sizeOf4
  v4 := Tryz.zeroValue4
  t9 := Tryz.underlying9
  a9 := Tryz.isAgg9
  z9 := Tryz.sizeOf9
  v9 := Tryz.zeroValue9
  t37 := Tryz.underlying53
  a37 := Tryz.isAgg53
  z37 := Tryz.sizeOf53
  v37 := Tryz.zeroValue53
  t127 := Tryz.underlying165
  a127 := Tryz.isAgg165
  z127 := Tryz.sizeOf165
  v127 := Tryz.zeroValue165
  t5 := Tryz.underlying5
  a5 := Tryz.isAgg5
  z5 := Tryz.sizeOf5
  v5 := Tryz.zeroValue5
  i0 := by kernel_rfl
  i3 := by kernel_rfl
  i4 := by kernel_rfl
  i5 := by kernel_rfl
  i9 := by kernel_rfl
  i37 := by kernel_rfl
  i127 := by kernel_rfl }
open Go.RowKit in
theorem Tryz.stringslite_Clone (s : ByteArray) (w : World) (hlim : s.size ≤ 281474976710656) :
    Calls Tryz.prog 124 #[.string s] w fun e w' => e = .returned (.string s) ∧ Below w.heap.size w w' := Any.stringslite_Clone Tryz.laysM316 s w hlim
end Go.Proofs
namespace Lyc
open Go
section
variable {P : Program}
def bstr (l : List UInt8) : ByteArray := ⟨l.toArray⟩
def byteF (b : UInt8) : List Value := [.int .u8 b.toNat]
theorem byteF_len (b : UInt8) : (byteF b).length = 1 := rfl
theorem byteF_ok (b : UInt8) : okCells (byteF b) = true := rfl
theorem byteF_flat (l : List UInt8) : l.flatMap byteF = l.map fun b => .int .u8 b.toNat := by
  induction l with
  | nil => rfl
  | cons b l ih => simp [byteF, ih]
@[go_sem] theorem bstr_size (l : List UInt8) : (bstr l).size = l.length := by simp [bstr, ByteArray.size]
@[go_sem] theorem bstr_toList (l : List UInt8) : (bstr l).toList = l := by rw [ByteArray.toList_eq]; rfl
theorem bstr_of (s : ByteArray) : bstr s.toList = s := by
  rw [ByteArray.toList_eq]; rfl
@[go_sem] theorem bstr_append (a b : List UInt8) : bstr a ++ bstr b = bstr (a ++ b) := by
  apply ByteArray.ext
  simp [bstr]
theorem foldl_bytes (l : List UInt8) : ∀ (acc : List UInt8), ((l.map fun b : UInt8 => (b.toNat : Int)).foldl (fun (r : ByteArray) n => r.push (UInt8.ofNat n.toNat)) (bstr acc)) = bstr (acc ++ l) := by
  induction l with
  | nil => intro acc; simp
  | cons b l ih =>
    intro acc
    simp only [List.map_cons, List.foldl_cons]
    have : (bstr acc).push (UInt8.ofNat ((b.toNat : Int)).toNat) = bstr (acc ++ [b]) := by
      apply ByteArray.ext
      simp [bstr]
    rw [this, ih]; simp
def tbytesSl (P : Program) (t : TypeId) : Bool := match P.underlying t with | some (.slice e) => (match P.underlying e with | some (.int .u8) => true | _ => false) | _ => false
theorem tbytesSl_spec {t : TypeId} (h : tbytesSl P t = true) : ∃ e, P.underlying t = some (.slice e) ∧ P.underlying e = some (.int .u8) := by
  unfold tbytesSl at h
  split at h
  · rename_i e hu
    split at h
    · rename_i hk; exact ⟨e, hu, hk⟩
    · simp at h
  · simp at h
theorem bytes_str {s d ty : TypeId} {a : Option Addr} {l : List UInt8} {c : Nat} {e : Option TypeId} {K : Value → World → Prop} {w : World} (hs : tbytesSl P s = true) (hd : tkind P d = some 3) (h : Sx w e byteF a l) :
    OpX P (.convert s d (.const (.slice a l.length c))) ty K w = K (.string (bstr l)) w := by
  obtain ⟨e0, h1, h2⟩ := tbytesSl_spec hs
  refine OpX_ok fun ρ hg => ?_
  simp only [execOp, mkOper, hg.1, Sem.run_bind]
  rw [run_convert_bytes_string w s d e0 a l.length c h1 h2 (tkind_3 hd)]
  have key : (Conv.bytesToString (.slice a l.length c)).run P w = .ok (.string (bstr l)) w := by
    cases a with
    | none =>
      have hl : l = [] := by
        cases l with
        | nil => rfl
        | cons x l => obtain ⟨b, o, _, _, _, _, _, h, _⟩ := h.at_ (by simp); simp at h
      subst hl
      simp [Conv.bytesToString]
      rfl
    | some ad =>
      have hl : (loadCells ad l.length).run P w = .ok ((l.map fun b : UInt8 => (b.toNat : Int)).map (Value.int .u8)).toArray w := by
        by_cases hn : l = []
        · subst hn; simp [loadCells, loadCellsFrom]
        · obtain ⟨b, o, c', e', fr, pre, post, h3, h4, h5, h6, h7⟩ := h.at_ hn
          cases h3
          have := run_loadCells_list (P := P) w ⟨b, o, none⟩ (l.flatMap byteF) (fun j v hj => by
            rw [add_mk, cell?_at, h4, h6, cellAt_cells]
            have hj' := (List.getElem?_eq_some_iff.1 hj).1
            rw [List.getElem?_toArray, List.append_assoc, List.getElem?_append_right (by omega), List.getElem?_append_left (by omega)]
            rw [← hj]; congr 1; omega)
          rw [byteF_flat] at this
          simpa [Function.comp_def] using this
      rw [run_bytesToString w ad l.length c _ hl]
      have := foldl_bytes l []
      rw [show (ByteArray.empty) = bstr [] from rfl, this]
      simp
  rw [key]
  rfl
end
end Lyc
namespace Go.Proofs.YtjfembffjjijaaaGreat
open Lyc Go
def runeF (r : Int) : List Value := [.int .i32 r]
theorem runeF_len (r : Int) : (runeF r).length = 1 := rfl
theorem runeF_ok (r : Int) : okCells (runeF r) = true := rfl
def asc (r : Int) : Prop := 0 ≤ r ∧ r ≤ 127
instance (r : Int) : Decidable (asc r) := by unfold asc; infer_instance
def ascB (r : Int) : UInt8 := UInt8.ofNat r.toNat
theorem ascB_nat {r : Int} (h : asc r) : ((ascB r).toNat : Int) = r := by
  obtain ⟨h0, h1⟩ := h
  simp only [ascB, UInt8.toNat_ofNat']
  omega
theorem valid_asc (w : World) (r : Int) (h : asc r) : Calls Tryz.prog 125 #[.int .i32 r] w (retK fun v w' => v = .bool true ∧ w' = w) := by
  obtain ⟨h0, h1⟩ := h
  apply unicode_utf8_ValidRune_link
  intro K hK
  unfold unicode_utf8_ValidRune
  refine Join1.inl ?_
  simp -dsimp (disch := first | omega | (simp only [go_sem, seval]; first | done | omega)) only [go_sem, seval]
  refine BrW.dec (fun _ => ?_) (fun h => absurd h0 h)
  simp -dsimp (disch := first | omega | (simp only [go_sem, seval]; first | done | omega)) only [go_sem, seval]
  refine BrW.dec (fun _ => ?_) (fun h => absurd h1 (by omega))
  exact hK _ _ ⟨rfl, rfl⟩
theorem appendRune_asc {base : Nat} {w : World} {v : Value} {l : List UInt8} (ho : Ox base w 5 1 byteF v l) (hb : base ≤ w.heap.size) (hl : l.length ≤ 100000000) (r : Int) (h : asc r) : Calls Tryz.prog 126 #[v, .int .i32 r] w
    (retK fun v' w' => Ox base w' 5 1 byteF v' (l ++ [ascB r]) ∧ Chg v.ownBlock.toList w w') := by
  obtain ⟨h0, h1⟩ := h
  have h2 := ascB_nat ⟨h0, h1⟩
  obtain ⟨a, cap, rfl, -⟩ := ho.form
  apply unicode_utf8_AppendRune_link
  intro K hK
  unfold unicode_utf8_AppendRune
  simp -dsimp (disch := first | omega | (simp only [go_sem, seval]; first | done | omega)) only [go_sem, seval]
  refine BrW.dec (fun _ => ?_) (fun h => absurd h1 (by omega))
  simp -dsimp (disch := first | omega | (simp only [go_sem, seval]; first | done | omega)) only [go_sem, seval]
  have hc1 := (Chg.refl [] w).alloc (.cells #[.int .u8 r] 5)
  refine app_x (l2 := [ascB r]) (e' := some 5) ty53ap byteF_len byteF_ok (ho.chg0 hc1) (Sx.built (c := [.int .u8 r]) (by simp -dsimp (disch := first | omega | (simp only [go_sem, seval]; first | done | omega)) only [go_sem, seval]) (by simp [byteF, h2])) rfl (by simp; omega) (by omega) (by simp -dsimp (disch := first | omega | (simp only [go_sem, seval]; first | done | omega)) only [go_sem, seval]; omega) ?_
  intro v' w' ho' hc' _
  exact hK _ _ ⟨ho', (hc1.mono (by simp)).trans hc' (fun x hx => .inl hx)⟩
theorem encode_asc {w : World} {e : Option TypeId} {a : Option Addr} {l : List Int} (hs : Sx w e runeF a l) (cap : Nat) (hl : l.length ≤ 100000) (h : ∀ r ∈ l, asc r) : Calls Tryz.prog 91 #[.slice a l.length cap] w
    (retK fun v w' => v = .string (bstr (l.map ascB)) ∧ Chg [] w w') := by
  apply runes_Encode_link
  intro K hK
  unfold runes_Encode
  simp -dsimp (disch := first | omega | (simp only [go_sem, seval]; first | done | omega)) only [go_sem, seval]
  refine Loop2.st (fun s : Nat × Value => s.2) (fun s : Nat × Value => .int .i64 s.1) (fun s w' => s.1 ≤ l.length ∧ Ox w.heap.size w' 5 1 byteF s.2 ((l.take s.1).map ascB) ∧ Chg [] w w') (fun s => l.length - s.1) (0, .slice none 0 0) rfl rfl ⟨by simp, Ox.nil _ _ _ _ _, Chg.refl _ _⟩ ?_
  rintro next ⟨k, v⟩ w' hn ⟨hk, ho, hc⟩
  dsimp only at hk ho ⊢
  simp -dsimp (disch := first | omega | (simp only [go_sem, seval]; first | done | omega)) only [go_sem, seval]
  refine BrW.dec (fun h1 => ?_) (fun h1 => ?_)
  · have hk' : k < l.length := by omega
    obtain ⟨b, o, rfl, hb, hcell⟩ := (hs.chg0 hc).get1 (g := fun r => .int .i32 r) (fun _ => rfl) (List.getElem?_eq_getElem hk')
    have ha := h _ (List.getElem_mem hk')
    simp -dsimp (disch := first | omega | (simp only [go_sem, seval]; first | done | omega)) only [go_sem, seval, hcell]
    refine Join1.inl ?_
    refine OpX.call unicode_utf8_ValidRune_b rfl (Calls.ret (valid_asc _ _ ha) ?_)
    rintro v1 w1 ⟨rfl, rfl⟩
    simp -dsimp (disch := first | omega | (simp only [go_sem, seval]; first | done | omega)) only [go_sem, seval]
    refine OpX.call unicode_utf8_AppendRune_b rfl (Calls.ret (appendRune_asc ho hc.size (by simp; omega) _ ha) ?_)
    rintro v2 w2 ⟨ho2, hc2⟩
    simp -dsimp (disch := first | omega | (simp only [go_sem, seval]; first | done | omega)) only [go_sem, seval]
    refine hn (k + 1, v2) _ ⟨by dsimp only; omega, ?_, own_chg ho hc hc2⟩ (by dsimp only; omega)
    dsimp only
    rw [take_next hk', List.map_append]
    exact ho2
  · have hk' : k = l.length := by omega
    subst hk'
    rw [List.take_length] at ho
    obtain ⟨a', cap', rfl, -, hs', -⟩ := ho.form
    rw [bytes_str (by kernel_rfl) (by kernel_rfl) hs']
    exact hK _ _ ⟨rfl, hc⟩
def shown (l : List Cel) : List Int := l.filterMap fun c => if c.check then (if c.tail then none else some c.r) else some 63
def trimR : List Int → List Int
  | [] => []
  | r :: l => if r :: l = List.replicate (l.length + 1) 32 then [] else r :: trimR l
def trimE (l : List Int) : List Int := (l.reverse.dropWhile (· == 32)).reverse
theorem trimE_step (l : List Int) (h : l ≠ []) (hl : l.getLast h = 32) : trimE l = trimE l.dropLast := by
  have e : l = l.dropLast ++ [32] := by rw [← hl]; exact (List.dropLast_concat_getLast h).symm
  conv => lhs; rw [e]
  simp [trimE]
theorem trimE_done (l : List Int) (h : l ≠ []) (hl : l.getLast h ≠ 32) : trimE l = l := by
  have e : l = l.dropLast ++ [l.getLast h] := (List.dropLast_concat_getLast h).symm
  rw [e]
  simp [trimE, hl]
theorem text_asc {w : World} {e : Option TypeId} {a : Option Addr} {l : List Cel} (hs : SxC w e a l) (cap : Nat) (hl : l.length ≤ 100000) (h : ∀ r ∈ trimE (shown l), asc r) : Calls Tryz.prog 55 #[.slice a l.length cap] w
    (retK fun v w' => v = .string (bstr ((trimE (shown l)).map ascB)) ∧ Chg [] w w') := by
  apply cell_Text_link
  intro K hK
  unfold cell_Text
  simp -dsimp (disch := first | omega | (simp only [go_sem, seval]; first | done | omega)) only [go_sem, seval]
  refine Loop2.st (fun s : Nat × Value => s.2) (fun s : Nat × Value => .int .i64 s.1) (fun s w' => s.1 ≤ l.length ∧ Ox w.heap.size w' 21 1 runeF s.2 (shown (l.take s.1)) ∧ Chg [] w w') (fun s => l.length - s.1) (0, .slice none 0 0) rfl rfl ⟨by simp, Ox.nil _ _ _ _ _, Chg.refl _ _⟩ ?_
  rintro next ⟨k, v⟩ w' hn ⟨hk, ho, hc⟩
  dsimp only at hk ho ⊢
  simp -dsimp (disch := first | omega | (simp only [go_sem, seval]; first | done | omega)) only [go_sem, seval]
  refine BrW.dec (fun h1 => ?_) (fun h1 => ?_)
  · have hk' : k < l.length := by omega
    obtain ⟨b, o, rfl, hb, hcell, -⟩ := SxC.cel (hs.chg0 hc) (List.getElem?_eq_getElem hk')
    have hsh : shown (l.take (k + 1)) = shown (l.take k) ++ shown [l[k]] := by
      rw [take_next hk', shown, List.filterMap_append]; rfl
    have hlen : (shown (l.take k)).length ≤ 100000 := Nat.le_trans (List.length_filterMap_le _ _) (by simp; omega)
    simp -dsimp (disch := first | omega | (simp only [go_sem, seval]; first | done | omega)) only [go_sem, seval, hcell]
    have hc1 := hc.alloc (.cells l[k].cells.toArray 70)
    have hb1 : w'.heap.size < (w'.alloc (.cells l[k].cells.toArray 70)).heap.size := by simp -dsimp (disch := first | omega | (simp only [go_sem, seval]; first | done | omega)) only [go_sem, seval]; omega
    have hh1 : (w'.alloc (.cells l[k].cells.toArray 70)).heap[w'.heap.size]? = some (.cells l[k].cells.toArray 70) := by simp -dsimp (disch := first | omega | (simp only [go_sem, seval]; first | done | omega)) only [go_sem, seval]
    have ho1 := ho.chg0 ((Chg.refl [] w').alloc (.cells l[k].cells.toArray 70))
    refine OpX.call cell_Check_b rfl (Calls.ret (check_c _ l[k]) ?_)
    rintro v1 w1 ⟨rfl, hc2⟩
    have hh2 := hc2.keep hh1 (by simp)
    have hc3 := hc1.trans0 hc2
    have ho2 := ho1.chg0 hc2
    simp -dsimp (disch := first | omega | (simp only [go_sem, seval]; first | done | omega)) only [go_sem, seval]
    refine BrW.by (fun h2 => ?_) (fun h2 => ?_)
    · have hc4 := (Chg.refl [] w1).alloc (.cells #[.int .i32 63] 21)
      obtain ⟨a', cap', rfl, -⟩ := ho2.form
      simp -dsimp (disch := first | omega | (simp only [go_sem, seval]; first | done | omega)) only [go_sem, seval]
      refine app_x (l2 := [(63 : Int)]) (e' := some 21) ty24ap runeF_len runeF_ok (ho2.chg0 hc4) (Sx.built (c := [.int .i32 63]) (by simp -dsimp (disch := first | omega | (simp only [go_sem, seval]; first | done | omega)) only [go_sem, seval]) rfl) rfl (by simp; omega) (by omega) (by have := hc3.size; simp -dsimp (disch := first | omega | (simp only [go_sem, seval]; first | done | omega)) only [go_sem, seval]; omega) ?_
      intro v' w2 ho3 hc5 _
      simp -dsimp (disch := first | omega | (simp only [go_sem, seval]; first | done | omega)) only [go_sem, seval]
      refine hn (k + 1, v') _ ⟨by dsimp only; omega, ?_, own_chg (ho2.chg0 hc4) (hc3.trans0 hc4) hc5⟩ (by dsimp only; omega)
      dsimp only
      rw [hsh]
      have : shown [l[k]] = [63] := by simp at h2; simp [shown, h2]
      rw [this]; exact ho3
    · simp -dsimp (disch := first | omega | (simp only [go_sem, seval]; first | done | omega)) only [go_sem, seval, hh2]
      refine BrW.dec (fun h3 => ?_) (fun h3 => ?_)
      · have hc4 := (Chg.refl [] w1).alloc (.cells #[.int .i32 l[k].r] 21)
        obtain ⟨a', cap', rfl, -⟩ := ho2.form
        simp -dsimp (disch := first | omega | (simp only [go_sem, seval]; first | done | omega)) only [go_sem, seval, hh2]
        refine app_x (l2 := [l[k].r]) (e' := some 21) ty24ap runeF_len runeF_ok (ho2.chg0 hc4) (Sx.built (c := [.int .i32 l[k].r]) (by simp -dsimp (disch := first | omega | (simp only [go_sem, seval]; first | done | omega)) only [go_sem, seval]) rfl) rfl (by simp; omega) (by omega) (by have := hc3.size; simp -dsimp (disch := first | omega | (simp only [go_sem, seval]; first | done | omega)) only [go_sem, seval]; omega) ?_
        intro v' w2 ho3 hc5 _
        simp -dsimp (disch := first | omega | (simp only [go_sem, seval]; first | done | omega)) only [go_sem, seval]
        refine hn (k + 1, v') _ ⟨by dsimp only; omega, ?_, own_chg (ho2.chg0 hc4) (hc3.trans0 hc4) hc5⟩ (by dsimp only; omega)
        dsimp only
        rw [hsh]
        have : shown [l[k]] = [l[k].r] := by simp at h2; simp [shown, h2, Cel.tail, h3]
        rw [this]; exact ho3
      · simp -dsimp (disch := first | omega | (simp only [go_sem, seval]; first | done | omega)) only [go_sem, seval]
        refine hn (k + 1, v) _ ⟨by dsimp only; omega, ?_, hc3⟩ (by dsimp only; omega)
        dsimp only
        rw [hsh]
        have : shown [l[k]] = [] := by simp at h2; simp [shown, h2, Cel.tail, h3]
        rw [this, List.append_nil]; exact ho2
  · have hk' : k = l.length := by omega
    subst hk'
    rw [List.take_length] at ho
    obtain ⟨a', cap', hv, hcp, hs', -⟩ := ho.form
    have hlen : (shown l).length ≤ 100000 := Nat.le_trans (List.length_filterMap_le _ _) hl
    refine Loop1.st (fun s : List Int => .slice a' s.length cap') (fun s w2 => Sx w2 (some 21) runeF a' s ∧ trimE s = trimE (shown l) ∧ s.length ≤ (shown l).length ∧ Chg [] w w2) (fun s => s.length) (shown l) hv ⟨hs', rfl, Nat.le_refl _, hc⟩ ?_
    rintro next2 s w2 hn2 ⟨hs2, he, hsl, hc2⟩
    refine Join1.inl ?_
    simp -dsimp (disch := first | omega | (simp only [go_sem, seval]; first | done | omega)) only [go_sem, seval]
    refine BrW.dec (fun h2 => ?_) (fun h2 => ?_)
    · have hne : s ≠ [] := by rintro rfl; simp at h2
      have hlast : s[s.length - 1]? = some (s.getLast hne) := by rw [List.getLast_eq_getElem]; exact List.getElem?_eq_getElem _
      obtain ⟨b, o, rfl, hb, hcell⟩ := hs2.get1 (g := fun r => .int .i32 r) (fun _ => rfl) hlast
      have hi : ((s.length : Int) - 1).toNat = s.length - 1 := by omega
      simp -dsimp (disch := first | omega | (simp only [go_sem, seval]; first | done | omega)) only [go_sem, seval, hi, hcell]
      refine BrW.dec (fun h3 => ?_) (fun h3 => ?_)
      · simp -dsimp (disch := first | omega | (simp only [go_sem, seval]; first | done | omega)) only [go_sem, seval, hi]
        have hd : s.dropLast.length = s.length - 1 := by simp
        rw [← hd]
        refine hn2 s.dropLast _ ⟨?_, by rw [← he]; exact (trimE_step s hne h3).symm, by omega, hc2⟩ (by omega)
        have := hs2.sub runeF_len 0 (s.length - 1) (some ⟨b, o, none⟩) (.inr (.inr (by simp)))
        rw [List.dropLast_eq_take]
        simpa using this
      · rw [← he, trimE_done s hne h3] at h
        try simp -dsimp (disch := first | omega | (simp only [go_sem, seval]; first | done | omega)) only [go_sem, seval]
        refine OpX.call runes_Encode_b rfl (Calls.ret (encode_asc hs2 cap' (by omega) h) ?_)
        rintro v1 w3 ⟨rfl, hc3⟩
        refine hK _ _ ⟨?_, hc2.trans0 hc3⟩
        rw [← he, trimE_done s hne h3]
    · have hs0 : s = [] := List.eq_nil_of_length_eq_zero (by omega)
      subst hs0
      simp -dsimp (disch := first | omega | (simp only [go_sem, seval]; first | done | omega)) only [go_sem, seval]
      refine OpX.call runes_Encode_b rfl (Calls.ret (encode_asc hs2 cap' (by omega) (by simp)) ?_)
      rintro v1 w3 ⟨rfl, hc3⟩
      refine hK _ _ ⟨?_, hc2.trans0 hc3⟩
      rw [← he]; rfl
end Go.Proofs.YtjfembffjjijaaaGreat
namespace Go.Proofs.YtjfembffjjijaaaGreat
open Lyc Go
structure Tm where
  s : Nat
  h : Nat
  kept : List UInt8
  E : Esc
@[go_sem] def Tm.obj (T : Tm) : Obj := .cells #[.pointer (some ⟨T.s, 0, none⟩), .string (bstr T.kept), .int .i64 T.E.inn, .int .u8 T.E.priv, .int .u8 T.E.mid, .int .i64 T.E.n, .int .i64 (T.E.nums.getD 0 0), .int .i64 (T.E.nums.getD 1 0), .int .i64 (T.E.nums.getD 2 0), .int .i64 (T.E.nums.getD 3 0), .int .i64 (T.E.nums.getD 4 0), .int .i64 (T.E.nums.getD 5 0), .int .i64 (T.E.nums.getD 6 0), .int .i64 (T.E.nums.getD 7 0), .pointer (some ⟨T.h, 0, none⟩)] 94
theorem set_heap {w : World} {t : Nat} (o : Obj) (hl : t < w.heap.size) : (setBlk w t o).heap[t]? = some o := heap_set_same _ _ _ _ rfl hl
theorem ereset_c {w : World} {t : Nat} {T : Tm} (h : w.heap[t]? = some T.obj) : Calls Tryz.prog 120 #[.pointer (some ⟨t, 2, none⟩)] w
    (retK fun _ w' => w'.heap[t]? = some ({ T with E := Esc.new } : Tm).obj ∧ Chg [t] w w') := by
  have hl := lt_of_heap h
  apply escape_Parser_Reset_link
  intro K hK
  unfold escape_Parser_Reset
  simp -dsimp (disch := first | omega | (simp only [go_sem, seval]; first | done | omega)) only [go_sem, seval, h]
  refine hK _ _ ⟨?_, (Chg.refl _ _).set _ _ (.inl (by simp))⟩
  rw [set_heap _ hl]
  rfl
def StepAt (t : Nat) (T : Tm) (p : Esc × Option Act') (w : World) (v : Value) (w' : World) : Prop :=
  v = .tuple #[(p.2.getD noA).val, .bool p.2.isSome] ∧ w'.heap[t]? = some ({ T with E := p.1 } : Tm).obj ∧ Chg [t] w w'
structure EscR (t z : Nat) (T : Tm) (p : Esc × Option Act') (w w4 : World) : Prop where
  a : w4.heap[t]? = some ({ T with E := p.1 } : Tm).obj
  b : w4.heap[z]? = some (.cells noA.cells.toArray 34)
  c : Chg [t] w w4
  d : p.2 = none
theorem eescape_c {w : World} {t : Nat} {T : Tm} (h : w.heap[t]? = some T.obj) (r : Int) : Calls Tryz.prog 121 #[.pointer (some ⟨t, 2, none⟩), .int .i32 r] w
    (retK (StepAt t T (T.E.escape r) w)) := by
  have hl := lt_of_heap h
  apply escape_Parser_escape_link
  intro K hK
  unfold escape_Parser_escape
  simp -dsimp (disch := first | omega | (simp only [go_sem, seval]; first | done | omega)) only [go_sem, seval, h]
  obtain ⟨w1, hw1⟩ : ∃ w1, w1 = w.alloc (.cells noA.cells.toArray 34) := ⟨_, rfl⟩
  have hc1 : Chg [] w w1 := by rw [hw1]; exact chg_a1 _ _
  have ho1 : w1.heap[w.heap.size]? = some (.cells noA.cells.toArray 34) := by rw [hw1]; simp -dsimp (disch := first | omega | (simp only [go_sem, seval]; first | done | omega)) only [go_sem, seval]
  simp only [noA, Act'.cells] at hw1
  rw [← hw1]
  clear hw1
  have h1 := hc1.keep h (by simp)
  have hl1 := lt_of_heap h1
  have hlo := lt_of_heap ho1
  obtain ⟨p, hp⟩ : ∃ p, p = T.E.escape r := ⟨_, rfl⟩
  rw [← hp] at hK
  unfold Esc.escape at hp
  have fin : ∀ w4 : World, w4.heap[t]? = some ({ T with E := p.1 } : Tm).obj → w4.heap[w.heap.size]? = some (.cells noA.cells.toArray 34) → Chg [t] w w4 → p.2 = none →
      OpX Tryz.prog (.build 34 #[]) 34 (fun t76 => xS 34 (.pointer (some ⟨w.heap.size, 0, none⟩)) t76 (xD 34 (.pointer (some ⟨w.heap.size, 0, none⟩)) fun t4_1 => K (.tuple #[t4_1, .bool false]))) w4 := by
    intro w4 a b c d
    have hl4 := lt_of_heap b
    simp -dsimp (disch := first | omega | (simp only [go_sem, seval]; first | done | omega)) only [go_sem, seval, b, noA]
    refine hK _ _ ⟨by rw [d]; rfl, ?_, c.set _ _ (.inr (Nat.le_refl _))⟩
    rw [heap_set_other _ _ _ _ (by omega)]
    exact a
  have chS : ∀ o : Obj, Chg [t] w (setBlk w1 t o) := fun o => (hc1.mono (by simp)).set _ _ (.inl (by simp))
  have keS : ∀ o : Obj, (setBlk w1 t o).heap[w.heap.size]? = some (.cells noA.cells.toArray 34) := fun o => by rw [heap_set_other _ _ _ _ (by omega)]; exact ho1
  refine Join0.cut (EscR t w.heap.size T p w) ?_ (fun w4 ⟨a, b, c, d⟩ => fin w4 a b c d)
  refine Join1.cut (fun v w' => v = .bool (decide (r ≤ 47 ∧ T.E.mid = 0)) ∧ w' = w1) ?_ ?_
  · simp -dsimp (disch := first | omega | (simp only [go_sem, seval]; first | done | omega)) only [go_sem, seval]
    refine BrW.dec (fun g => ?_) (fun g => ⟨congrArg Value.bool (decide_eq_false (by omega)).symm, rfl⟩)
    simp -dsimp (disch := first | omega | (simp only [go_sem, seval]; first | done | omega)) only [go_sem, seval]
    exact congrArg Value.bool (decide_eq_decide.2 ⟨fun h => ⟨g, h⟩, fun h => h.2⟩)
  rintro v w2 ⟨rfl, rfl⟩
  refine BrW.dec (fun g1 => ?_) (fun g1 => ?_)
  · rw [if_pos g1] at hp
    subst hp
    simp -dsimp (disch := first | omega | (simp only [go_sem, seval]; first | done | omega)) only [go_sem, seval, h1]
    exact ⟨set_heap _ hl1, keS _, chS _, rfl⟩
  rw [if_neg g1] at hp
  simp -dsimp (disch := first | omega | (simp only [go_sem, seval]; first | done | omega)) only [go_sem, seval]
  refine BrW.dec (fun g2 => ?_) (fun g2 => ?_)
  · rw [if_pos g2] at hp
    subst hp
    simp -dsimp (disch := first | omega | (simp only [go_sem, seval]; first | done | omega)) only [go_sem, seval, h1]
    exact ⟨set_heap _ hl1, keS _, chS _, rfl⟩
  rw [if_neg g2] at hp
  refine Join1.cut (fun v w' => v = .bool (decide (r = 91 ∧ T.E.mid = 0)) ∧ w' = w2) ?_ ?_
  · simp -dsimp (disch := first | omega | (simp only [go_sem, seval]; first | done | omega)) only [go_sem, seval]
    refine BrW.dec (fun g => ?_) (fun g => ⟨congrArg Value.bool (decide_eq_false (by omega)).symm, rfl⟩)
    simp -dsimp (disch := first | omega | (simp only [go_sem, seval]; first | done | omega)) only [go_sem, seval]
    exact congrArg Value.bool (decide_eq_decide.2 ⟨fun h => ⟨g, h⟩, fun h => h.2⟩)
  rintro v w3 ⟨rfl, rfl⟩
  refine BrW.dec (fun g3 => ?_) (fun g3 => ?_)
  · rw [if_pos g3] at hp
    subst hp
    simp -dsimp (disch := first | omega | (simp only [go_sem, seval]; first | done | omega)) only [go_sem, seval, h1]
    exact ⟨set_heap _ hl1, keS _, chS _, rfl⟩
  rw [if_neg g3] at hp
  refine Join1.cut (fun v w' => v = .bool (decide ((r = 80 ∨ r = 88 ∨ 93 ≤ r ∧ r ≤ 95) ∧ T.E.mid = 0)) ∧ w' = w3) ?_ ?_
  · have fa : ¬((r = 80 ∨ r = 88 ∨ 93 ≤ r ∧ r ≤ 95) ∧ T.E.mid = 0) → Value.bool false = Value.bool (decide ((r = 80 ∨ r = 88 ∨ 93 ≤ r ∧ r ≤ 95) ∧ T.E.mid = 0)) ∧ w3 = w3 := fun h => ⟨congrArg Value.bool (decide_eq_false h).symm, rfl⟩
    have md : (r = 80 ∨ r = 88 ∨ 93 ≤ r ∧ r ≤ 95) → Value.bool (decide (T.E.mid = 0)) = Value.bool (decide ((r = 80 ∨ r = 88 ∨ 93 ≤ r ∧ r ≤ 95) ∧ T.E.mid = 0)) := fun h => congrArg Value.bool (decide_eq_decide.2 ⟨fun k => ⟨h, k⟩, fun k => k.2⟩)
    simp -dsimp (disch := first | omega | (simp only [go_sem, seval]; first | done | omega)) only [go_sem, seval]
    refine BrW.dec (fun g => ?_) (fun g => ?_)
    · simp -dsimp (disch := first | omega | (simp only [go_sem, seval]; first | done | omega)) only [go_sem, seval]
      exact md (by omega)
    simp -dsimp (disch := first | omega | (simp only [go_sem, seval]; first | done | omega)) only [go_sem, seval]
    refine BrW.dec (fun g' => ?_) (fun g' => ?_)
    · simp -dsimp (disch := first | omega | (simp only [go_sem, seval]; first | done | omega)) only [go_sem, seval]
      exact md (by omega)
    simp -dsimp (disch := first | omega | (simp only [go_sem, seval]; first | done | omega)) only [go_sem, seval]
    refine BrW.dec (fun g4 => ?_) (fun g4 => fa (by omega))
    simp -dsimp (disch := first | omega | (simp only [go_sem, seval]; first | done | omega)) only [go_sem, seval]
    refine BrW.dec (fun g5 => ?_) (fun g5 => fa (by omega))
    simp -dsimp (disch := first | omega | (simp only [go_sem, seval]; first | done | omega)) only [go_sem, seval]
    exact md (by omega)
  rintro v w4 ⟨rfl, rfl⟩
  refine BrW.dec (fun g4 => ?_) (fun g4 => ?_)
  · rw [if_pos g4] at hp
    subst hp
    simp -dsimp (disch := first | omega | (simp only [go_sem, seval]; first | done | omega)) only [go_sem, seval, h1]
    exact ⟨set_heap _ hl1, keS _, chS _, rfl⟩
  rw [if_neg g4] at hp
  refine Join1.cut (fun v w' => v = .bool (decide (r ≤ 126 ∧ T.E.mid ≠ 255)) ∧ w' = w4) ?_ ?_
  · simp -dsimp (disch := first | omega | (simp only [go_sem, seval]; first | done | omega)) only [go_sem, seval]
    refine BrW.dec (fun g => ?_) (fun g => ⟨congrArg Value.bool (decide_eq_false (by omega)).symm, rfl⟩)
    simp -dsimp (disch := first | omega | (simp only [go_sem, seval]; first | done | omega)) only [go_sem, seval]
    exact congrArg Value.bool (decide_eq_decide.2 ⟨fun h => ⟨g, h⟩, fun h => h.2⟩)
  rintro v w5 ⟨rfl, rfl⟩
  refine BrW.dec (fun g5 => ?_) (fun g5 => ?_)
  · rw [if_pos g5] at hp
    subst hp
    refine OpX.call escape_Parser_Reset_b rfl (Calls.ret (ereset_c h1) ?_)
    rintro v w6 ⟨h6, hc6⟩
    have ho6 := hc6.keep ho1 (by simp; omega)
    have hl6 := lt_of_heap ho6
    simp -dsimp (disch := first | omega | (simp only [go_sem, seval]; first | done | omega)) only [go_sem, seval, ho6, noA]
    refine hK _ _ ⟨rfl, ?_, ((hc1.mono (by simp)).trans hc6 (by simp)).set _ _ (.inr (Nat.le_refl _))⟩
    rw [heap_set_other _ _ _ _ (by omega)]
    exact h6
  · rw [if_neg g5] at hp
    subst hp
    refine OpX.call escape_Parser_Reset_b rfl (Calls.ret (ereset_c h1) ?_)
    rintro v w6 ⟨h6, hc6⟩
    exact ⟨h6, hc6.keep ho1 (by simp; omega), (hc1.mono (by simp)).trans hc6 (by simp), rfl⟩
end Go.Proofs.YtjfembffjjijaaaGreat
namespace Go.Proofs.YtjfembffjjijaaaGreat
open Lyc Go
set_option maxHeartbeats 1000000 in
theorem econtrol_c {w : World} {t : Nat} {T : Tm} (h : w.heap[t]? = some T.obj) (ok : T.E.ok) (r : Int) (hr : i32ok r) : Calls Tryz.prog 122 #[.pointer (some ⟨t, 2, none⟩), .int .i32 r] w
    (retK (StepAt t T (T.E.control r) w)) := by
  have hl := lt_of_heap h
  have hr0 := hr.1
  have hr1 := hr.2
  apply escape_Parser_control_link
  intro K hK
  unfold escape_Parser_control
  simp -dsimp (disch := first | omega | (simp only [go_sem, seval]; first | done | omega)) only [go_sem, seval]
  obtain ⟨w1, hw1⟩ : ∃ w1, w1 = w.alloc (.cells noA.cells.toArray 34) := ⟨_, rfl⟩
  have hc1 : Chg [] w w1 := by rw [hw1]; exact chg_a1 _ _
  have ho1 : w1.heap[w.heap.size]? = some (.cells noA.cells.toArray 34) := by rw [hw1]; simp -dsimp (disch := first | omega | (simp only [go_sem, seval]; first | done | omega)) only [go_sem, seval]
  simp only [noA, Act'.cells] at hw1
  rw [← hw1]
  clear hw1
  have h1 := hc1.keep h (by simp)
  have hl1 := lt_of_heap h1
  have hlo := lt_of_heap ho1
  have hz1 := hc1.size
  obtain ⟨p, hp⟩ : ∃ p, p = T.E.control r := ⟨_, rfl⟩
  rw [← hp] at hK
  unfold Esc.control at hp
  have fin : ∀ w4 : World, EscR t w.heap.size T p w w4 →
      OpX Tryz.prog (.build 34 #[]) 34 (fun t76 => xS 34 (.pointer (some ⟨w.heap.size, 0, none⟩)) t76 (xD 34 (.pointer (some ⟨w.heap.size, 0, none⟩)) fun t4_1 => K (.tuple #[t4_1, .bool false]))) w4 := by
    rintro w4 ⟨a, b, c, d⟩
    have hl4 := lt_of_heap b
    simp -dsimp (disch := first | omega | (simp only [go_sem, seval]; first | done | omega)) only [go_sem, seval, b, noA]
    refine hK _ _ ⟨by rw [d]; rfl, ?_, c.set _ _ (.inr (Nat.le_refl _))⟩
    rw [heap_set_other _ _ _ _ (by omega)]
    exact a
  have chS : ∀ o : Obj, Chg [t] w (setBlk w1 t o) := fun o => (hc1.mono (by simp)).set _ _ (.inl (by simp))
  have keS : ∀ o : Obj, (setBlk w1 t o).heap[w.heap.size]? = some (.cells noA.cells.toArray 34) := fun o => by rw [heap_set_other _ _ _ _ (by omega)]; exact ho1
  refine Join0.cut (EscR t w.heap.size T p w) ?_ (fun w4 hw4 => fin w4 hw4)
  refine Join1.cut (fun v w' => v = .bool (decide (48 ≤ r ∧ r ≤ 57 ∧ T.E.mid = 0)) ∧ w' = w1) ?_ ?_
  · simp -dsimp (disch := first | omega | (simp only [go_sem, seval]; first | done | omega)) only [go_sem, seval]
    refine BrW.dec (fun g => ?_) (fun g => ⟨congrArg Value.bool (decide_eq_false (by omega)).symm, rfl⟩)
    simp -dsimp (disch := first | omega | (simp only [go_sem, seval]; first | done | omega)) only [go_sem, seval]
    refine BrW.dec (fun g' => ?_) (fun g' => ⟨congrArg Value.bool (decide_eq_false (by omega)).symm, rfl⟩)
    simp -dsimp (disch := first | omega | (simp only [go_sem, seval]; first | done | omega)) only [go_sem, seval, h1]
    exact congrArg Value.bool (decide_eq_decide.2 ⟨fun h => ⟨g, g', h⟩, fun h => h.2.2⟩)
  rintro v w2 ⟨rfl, rfl⟩
  refine BrW.dec (fun g1 => ?_) (fun g1 => ?_)
  · rw [if_pos g1] at hp
    obtain ⟨ts, th, kept, inn, priv, mid, n, nums⟩ := T
    have hlen : nums.length = 8 := ok.len
    have hnk : ∀ x ∈ nums, 0 ≤ x ∧ x ≤ 9999 := ok.k
    have hn9 : n ≤ 9 := ok.n9
    match nums, hlen with
    | [n0, n1, n2, n3, n4, n5, n6, n7], _ =>
    have k0 := hnk n0 (by simp)
    have k1 := hnk n1 (by simp)
    have k2 := hnk n2 (by simp)
    have k3 := hnk n3 (by simp)
    have k4 := hnk n4 (by simp)
    have k5 := hnk n5 (by simp)
    have k6 := hnk n6 (by simp)
    have k7 := hnk n7 (by simp)
    dsimp only at hp
    simp -dsimp (disch := first | omega | (simp only [go_sem, seval]; first | done | omega)) only [go_sem, seval, h1]
    refine BrW.dec (fun g2 => ?_) (fun g2 => ?_)
    · rw [if_pos g2] at hp
      have hm : max n 1 = 1 ∨ max n 1 = 2 ∨ max n 1 = 3 ∨ max n 1 = 4 ∨ max n 1 = 5 ∨ max n 1 = 6 ∨ max n 1 = 7 ∨ max n 1 = 8 := by omega
      rcases hm with hm | hm | hm | hm | hm | hm | hm | hm
      all_goals
        rw [hm] at hp ⊢
        subst hp
        simp only [List.getD_cons_zero, List.getD_cons_succ]
        simp -dsimp (disch := first | omega | (simp only [go_sem, seval]; first | done | omega)) only [go_sem, seval]
        exact ⟨set_heap _ hl1, keS _, (chS _).drew, rfl⟩
    · rw [if_neg g2] at hp
      subst hp
      exact ⟨set_heap _ hl1, keS _, chS _, rfl⟩
  rw [if_neg g1] at hp
  refine Join1.cut (fun v w' => v = .bool (decide ((r = 58 ∨ r = 59) ∧ T.E.mid = 0)) ∧ w' = w2) ?_ ?_
  · simp -dsimp (disch := first | omega | (simp only [go_sem, seval]; first | done | omega)) only [go_sem, seval]
    refine BrW.dec (fun g => ?_) (fun g => ?_)
    · simp -dsimp (disch := first | omega | (simp only [go_sem, seval]; first | done | omega)) only [go_sem, seval, h1]
      exact congrArg Value.bool (decide_eq_decide.2 ⟨fun h => ⟨.inl g, h⟩, fun h => h.2⟩)
    simp -dsimp (disch := first | omega | (simp only [go_sem, seval]; first | done | omega)) only [go_sem, seval]
    refine BrW.dec (fun g' => ?_) (fun g' => ⟨congrArg Value.bool (decide_eq_false (by omega)).symm, rfl⟩)
    simp -dsimp (disch := first | omega | (simp only [go_sem, seval]; first | done | omega)) only [go_sem, seval, h1]
    exact congrArg Value.bool (decide_eq_decide.2 ⟨fun h => ⟨.inr g', h⟩, fun h => h.2⟩)
  rintro v w3 ⟨rfl, rfl⟩
  refine BrW.dec (fun g2 => ?_) (fun g2 => ?_)
  · rw [if_pos g2] at hp
    subst hp
    have n0 := ok.n0
    have n9 := ok.n9
    simp -dsimp (disch := first | omega | (simp only [go_sem, seval]; first | done | omega)) only [go_sem, seval, h1]
    exact ⟨set_heap _ hl1, keS _, chS _, rfl⟩
  rw [if_neg g2] at hp
  refine Join1.cut (fun v w' => v = .bool (decide (60 ≤ r ∧ r ≤ 63 ∧ T.E.priv = 0 ∧ T.E.mid = 0 ∧ T.E.n = 0)) ∧ w' = w3) ?_ ?_
  · have fa : ¬(60 ≤ r ∧ r ≤ 63 ∧ T.E.priv = 0 ∧ T.E.mid = 0 ∧ T.E.n = 0) → Value.bool false = Value.bool (decide (60 ≤ r ∧ r ≤ 63 ∧ T.E.priv = 0 ∧ T.E.mid = 0 ∧ T.E.n = 0)) ∧ w3 = w3 := fun h => ⟨congrArg Value.bool (decide_eq_false h).symm, rfl⟩
    simp -dsimp (disch := first | omega | (simp only [go_sem, seval]; first | done | omega)) only [go_sem, seval]
    refine BrW.dec (fun a1 => ?_) (fun a1 => fa (by omega))
    simp -dsimp (disch := first | omega | (simp only [go_sem, seval]; first | done | omega)) only [go_sem, seval]
    refine BrW.dec (fun a2 => ?_) (fun a2 => fa (by omega))
    simp -dsimp (disch := first | omega | (simp only [go_sem, seval]; first | done | omega)) only [go_sem, seval, h1]
    refine BrW.dec (fun a3 => ?_) (fun a3 => fa (by omega))
    simp -dsimp (disch := first | omega | (simp only [go_sem, seval]; first | done | omega)) only [go_sem, seval, h1]
    refine BrW.dec (fun a4 => ?_) (fun a4 => fa (by omega))
    simp -dsimp (disch := first | omega | (simp only [go_sem, seval]; first | done | omega)) only [go_sem, seval, h1]
    exact congrArg Value.bool (decide_eq_decide.2 ⟨fun h => ⟨a1, a2, a3, a4, h⟩, fun h => h.2.2.2.2⟩)
  rintro v w4 ⟨rfl, rfl⟩
  refine BrW.dec (fun g3 => ?_) (fun g3 => ?_)
  · rw [if_pos g3] at hp
    subst hp
    simp -dsimp (disch := first | omega | (simp only [go_sem, seval]; first | done | omega)) only [go_sem, seval, h1]
    exact ⟨set_heap _ hl1, keS _, chS _, rfl⟩
  rw [if_neg g3] at hp
  refine Join1.cut (fun v w' => v = .bool (decide (r ≤ 47 ∧ T.E.mid = 0)) ∧ w' = w4) ?_ ?_
  · simp -dsimp (disch := first | omega | (simp only [go_sem, seval]; first | done | omega)) only [go_sem, seval]
    refine BrW.dec (fun g => ?_) (fun g => ⟨congrArg Value.bool (decide_eq_false (by omega)).symm, rfl⟩)
    simp -dsimp (disch := first | omega | (simp only [go_sem, seval]; first | done | omega)) only [go_sem, seval, h1]
    exact congrArg Value.bool (decide_eq_decide.2 ⟨fun h => ⟨g, h⟩, fun h => h.2⟩)
  rintro v w5 ⟨rfl, rfl⟩
  refine BrW.dec (fun g4 => ?_) (fun g4 => ?_)
  · rw [if_pos g4] at hp
    subst hp
    simp -dsimp (disch := first | omega | (simp only [go_sem, seval]; first | done | omega)) only [go_sem, seval, h1]
    exact ⟨set_heap _ hl1, keS _, chS _, rfl⟩
  rw [if_neg g4] at hp
  refine Join1.cut (fun v w' => v = .bool (decide (64 ≤ r ∧ r ≤ 126)) ∧ w' = w5) ?_ ?_
  · simp -dsimp (disch := first | omega | (simp only [go_sem, seval]; first | done | omega)) only [go_sem, seval]
    refine BrW.dec (fun g => ?_) (fun g => ⟨congrArg Value.bool (decide_eq_false (by omega)).symm, rfl⟩)
    simp -dsimp (disch := first | omega | (simp only [go_sem, seval]; first | done | omega)) only [go_sem, seval]
    exact congrArg Value.bool (decide_eq_decide.2 ⟨fun h => ⟨g, h⟩, fun h => h.2⟩)
  rintro v w6 ⟨rfl, rfl⟩
  refine BrW.dec (fun g5 => ?_) (fun g5 => ?_)
  · rw [if_pos g5] at hp
    subst hp
    have n0 := ok.n0
    have n9 := ok.n9
    simp -dsimp (disch := first | omega | (simp only [go_sem, seval]; first | done | omega)) only [go_sem, seval]
    refine Join1.cut (fun v w' => v = .pointer (some ⟨w6.heap.size, 0, none⟩) ∧ w'.heap[w6.heap.size]? = some (.cells (actOf 4 r T.E.priv T.E.mid (min T.E.n 8) T.E.nums).cells.toArray 34) ∧ Chg [] w6 w') ?_ ?_
    · simp -dsimp (maxSteps := 4000000) (disch := first | omega | (simp only [go_sem, seval]; first | done | omega)) only [go_sem, seval, h1]
      exact ⟨rfl, (chg_a1 _ _).drew⟩
    rintro v w7 ⟨rfl, hA7, hc7⟩
    have h7 := hc7.keep h1 (by simp)
    have ho7 := hc7.keep ho1 (by simp)
    refine OpX.call escape_Parser_Reset_b rfl (Calls.ret (ereset_c h7) ?_)
    rintro v w8 ⟨h8, hc8⟩
    have ho8 := hc8.keep ho7 (by simp; omega)
    have hA8 := hc8.keep hA7 (by simp; omega)
    have hl8 := lt_of_heap ho8
    simp -dsimp (disch := first | omega | (simp only [go_sem, seval]; first | done | omega)) only [go_sem, seval, hA8, ho8, noA]
    refine hK _ _ ⟨rfl, ?_, (((hc1.trans0 hc7).mono (by simp)).trans hc8 (by simp)).set _ _ (.inr (Nat.le_refl _))⟩
    rw [heap_set_other _ _ _ _ (by omega)]
    exact h8
  · rw [if_neg g5] at hp
    subst hp
    simp -dsimp (disch := first | omega | (simp only [go_sem, seval]; first | done | omega)) only [go_sem, seval, h1]
    exact ⟨set_heap _ hl1, keS _, chS _, rfl⟩
end Go.Proofs.YtjfembffjjijaaaGreat
namespace Go.Proofs.YtjfembffjjijaaaGreat
open Lyc Go
theorem estep_c {w : World} {t : Nat} {T : Tm} (h : w.heap[t]? = some T.obj) (ok : T.E.ok) (r : Int) (hr : i32ok r) : Calls Tryz.prog 82 #[.pointer (some ⟨t, 2, none⟩), .int .i32 r] w
    (retK (StepAt t T (T.E.step r) w)) := by
  have hl := lt_of_heap h
  have hr0 := hr.1
  have hr1 := hr.2
  apply escape_Parser_Step_link
  intro K hK
  unfold escape_Parser_Step
  simp -dsimp (disch := first | omega | (simp only [go_sem, seval]; first | done | omega)) only [go_sem, seval]
  obtain ⟨w1, hw1⟩ : ∃ w1, w1 = w.alloc (.cells noA.cells.toArray 34) := ⟨_, rfl⟩
  have hc1 : Chg [] w w1 := by rw [hw1]; exact chg_a1 _ _
  have ho1 : w1.heap[w.heap.size]? = some (.cells noA.cells.toArray 34) := by rw [hw1]; simp -dsimp (disch := first | omega | (simp only [go_sem, seval]; first | done | omega)) only [go_sem, seval]
  simp only [noA, Act'.cells] at hw1
  rw [← hw1]
  clear hw1
  have h1 := hc1.keep h (by simp)
  have hl1 := lt_of_heap h1
  have hlo := lt_of_heap ho1
  have hz1 := hc1.size
  obtain ⟨p, hp⟩ : ∃ p, p = T.E.step r := ⟨_, rfl⟩
  rw [← hp] at hK
  unfold Esc.step at hp
  have fin : ∀ w4 : World, EscR t w.heap.size T p w w4 →
      OpX Tryz.prog (.build 34 #[]) 34 (fun t76 => xS 34 (.pointer (some ⟨w.heap.size, 0, none⟩)) t76 (xD 34 (.pointer (some ⟨w.heap.size, 0, none⟩)) fun t4_1 => K (.tuple #[t4_1, .bool false]))) w4 := by
    rintro w4 ⟨a, b, c, d⟩
    have hl4 := lt_of_heap b
    simp -dsimp (disch := first | omega | (simp only [go_sem, seval]; first | done | omega)) only [go_sem, seval, b, noA]
    refine hK _ _ ⟨by rw [d]; rfl, ?_, c.set _ _ (.inr (Nat.le_refl _))⟩
    rw [heap_set_other _ _ _ _ (by omega)]
    exact a
  have chS : ∀ o : Obj, Chg [t] w (setBlk w1 t o) := fun o => (hc1.mono (by simp)).set _ _ (.inl (by simp))
  have keS : ∀ o : Obj, (setBlk w1 t o).heap[w.heap.size]? = some (.cells noA.cells.toArray 34) := fun o => by rw [heap_set_other _ _ _ _ (by omega)]; exact ho1
  have same : p = (T.E, none) → EscR t w.heap.size T p w w1 := fun e => by subst e; exact ⟨h1, ho1, hc1.mono (by simp), rfl⟩
  have tell : ∀ (a : Act') (w4 : World), p = (T.E, some a) → w4.heap[t]? = some T.obj → Chg [t] w w4 → K (.tuple #[a.val, .bool true]) w4 := fun a w4 e b c => hK _ _ ⟨by rw [e]; rfl, by rw [e]; exact b, c⟩
  have rst : ∀ (w4 : World), (w4.heap[t]? = some ({ T with E := Esc.new } : Tm).obj ∧ Chg [t] w1 w4) → p = (Esc.new, none) → EscR t w.heap.size T p w w4 := fun w4 h4 e => by
    subst e
    exact ⟨h4.1, h4.2.keep ho1 (by simp; omega), (hc1.mono (by simp)).trans h4.2 (by simp), rfl⟩
  refine BrW.dec (fun g1 => ?_) (fun g1 => ?_)
  · rw [if_pos g1] at hp
    simp -dsimp (disch := first | omega | (simp only [go_sem, seval]; first | done | omega)) only [go_sem, seval, h1, ho1, noA]
    refine hK _ _ ⟨by rw [hp]; rfl, ?_, (chS _).set _ _ (.inr (Nat.le_refl _))⟩
    rw [heap_set_other _ _ _ _ (by omega), set_heap _ hl1, hp]
    rfl
  rw [if_neg g1] at hp
  refine Join1.cut (fun v w' => v = .bool (decide (r = 24 ∨ r = 26)) ∧ w' = w1) ?_ ?_
  · simp -dsimp (disch := first | omega | (simp only [go_sem, seval]; first | done | omega)) only [go_sem, seval]
    refine BrW.dec (fun g => ⟨congrArg Value.bool (decide_eq_true (by omega)).symm, rfl⟩) (fun g => ?_)
    simp -dsimp (disch := first | omega | (simp only [go_sem, seval]; first | done | omega)) only [go_sem, seval]
    exact congrArg Value.bool (decide_eq_decide.2 ⟨fun h => .inr h, fun h => by omega⟩)
  rintro v w2 ⟨rfl, rfl⟩
  refine BrW.dec (fun g2 => ?_) (fun g2 => ?_)
  · rw [if_pos g2] at hp
    refine OpX.call escape_Parser_Reset_b rfl (Calls.ret (ereset_c h1) ?_)
    rintro v w3 h3
    exact fin _ (rst _ h3 hp)
  rw [if_neg g2] at hp
  refine Join1.cut (fun v w' => v = .bool (decide (r < 0 ∨ 127 ≤ r ∧ r ≤ 159 ∨ 1114111 < r)) ∧ w' = w2) ?_ ?_
  · have tr : (r < 0 ∨ 127 ≤ r ∧ r ≤ 159 ∨ 1114111 < r) → Value.bool true = Value.bool (decide (r < 0 ∨ 127 ≤ r ∧ r ≤ 159 ∨ 1114111 < r)) ∧ w2 = w2 := fun h => ⟨congrArg Value.bool (decide_eq_true h).symm, rfl⟩
    simp -dsimp (disch := first | omega | (simp only [go_sem, seval]; first | done | omega)) only [go_sem, seval]
    refine BrW.dec (fun a1 => tr (by omega)) (fun a1 => ?_)
    simp -dsimp (disch := first | omega | (simp only [go_sem, seval]; first | done | omega)) only [go_sem, seval]
    refine BrW.dec (fun a2 => ?_) (fun a2 => ?_)
    · simp -dsimp (disch := first | omega | (simp only [go_sem, seval]; first | done | omega)) only [go_sem, seval]
      refine BrW.dec (fun a3 => tr (by omega)) (fun a3 => ?_)
      simp -dsimp (disch := first | omega | (simp only [go_sem, seval]; first | done | omega)) only [go_sem, seval]
      exact congrArg Value.bool (decide_eq_decide.2 ⟨fun h => by omega, fun h => by omega⟩)
    · simp -dsimp (disch := first | omega | (simp only [go_sem, seval]; first | done | omega)) only [go_sem, seval]
      exact congrArg Value.bool (decide_eq_decide.2 ⟨fun h => by omega, fun h => by omega⟩)
  rintro v w3 ⟨rfl, rfl⟩
  refine BrW.dec (fun g3 => ?_) (fun g3 => ?_)
  · rw [if_pos g3] at hp
    exact fin _ (same hp)
  rw [if_neg g3] at hp
  refine Join1.cut (fun v w' => v = .bool (decide (r < 32 ∧ T.E.inn = 4)) ∧ w' = w3) ?_ ?_
  · simp -dsimp (disch := first | omega | (simp only [go_sem, seval]; first | done | omega)) only [go_sem, seval]
    refine BrW.dec (fun g => ?_) (fun g => ⟨congrArg Value.bool (decide_eq_false (by omega)).symm, rfl⟩)
    simp -dsimp (disch := first | omega | (simp only [go_sem, seval]; first | done | omega)) only [go_sem, seval, h1]
    exact congrArg Value.bool (decide_eq_decide.2 ⟨fun h => ⟨g, h⟩, fun h => h.2⟩)
  rintro v w4 ⟨rfl, rfl⟩
  refine BrW.dec (fun g4 => ?_) (fun g4 => ?_)
  · rw [if_pos g4] at hp
    refine Join0.cut (EscR t w.heap.size T p w) ?_ (fun w5 hw5 => fin w5 hw5)
    simp -dsimp (disch := first | omega | (simp only [go_sem, seval]; first | done | omega)) only [go_sem, seval]
    refine BrW.dec (fun g5 => ?_) (fun g5 => ?_)
    · rw [if_pos g5] at hp
      refine OpX.call escape_Parser_Reset_b rfl (Calls.ret (ereset_c h1) ?_)
      rintro v w5 h5
      exact rst _ h5 hp
    · rw [if_neg g5] at hp
      exact same hp
  rw [if_neg g4] at hp
  simp -dsimp (disch := first | omega | (simp only [go_sem, seval]; first | done | omega)) only [go_sem, seval]
  refine BrW.dec (fun g5 => ?_) (fun g5 => ?_)
  · rw [if_pos g5] at hp
    simp -dsimp (disch := first | omega | (simp only [go_sem, seval]; first | done | omega)) only [go_sem, seval, noA, ho1]
    refine tell (actOf 2 r 0 0 0 zeros8) _ hp ?_ ((hc1.mono (by simp)).set _ _ (.inr (Nat.le_refl _)))
    rw [heap_set_other _ _ _ _ (by omega)]
    exact h1
  rw [if_neg g5] at hp
  refine Join0.cut (EscR t w.heap.size T p w) ?_ (fun w5 hw5 => fin w5 hw5)
  simp -dsimp (disch := first | omega | (simp only [go_sem, seval]; first | done | omega)) only [go_sem, seval, h1]
  refine BrW.dec (fun g6 => ?_) (fun g6 => ?_)
  · rw [if_pos g6] at hp
    simp -dsimp (disch := first | omega | (simp only [go_sem, seval]; first | done | omega)) only [go_sem, seval, noA, ho1]
    refine tell (actOf 1 r 0 0 0 zeros8) _ hp ?_ ((hc1.mono (by simp)).set _ _ (.inr (Nat.le_refl _)))
    rw [heap_set_other _ _ _ _ (by omega)]
    exact h1
  rw [if_neg g6] at hp
  have told : ∀ (q : Esc × Option Act') (w5 : World) (v : Value), p = q → StepAt t T q w4 v w5 → ∃ a : Act', v = .tuple #[a.val, .bool q.2.isSome] ∧ K v (setBlk w5 w.heap.size (.cells a.cells.toArray 34)) := by
    rintro q w5 v rfl ⟨rfl, b, c⟩
    have hb5 := c.keep ho1 (by simp; omega)
    refine ⟨p.2.getD noA, rfl, hK _ _ ⟨rfl, ?_, ((hc1.mono (by simp)).trans c (by simp)).set _ _ (.inr (Nat.le_refl _))⟩⟩
    rw [heap_set_other _ _ _ _ (by omega)]
    exact b
  simp -dsimp (disch := first | omega | (simp only [go_sem, seval]; first | done | omega)) only [go_sem, seval]
  refine BrW.dec (fun g7 => ?_) (fun g7 => ?_)
  · rw [if_pos g7] at hp
    refine OpX.call escape_Parser_escape_b rfl (Calls.ret (eescape_c h1 r) ?_)
    rintro v w5 hs
    have hb5 := hs.2.2.keep ho1 (by simp; omega)
    obtain ⟨a, rfl, hk⟩ := told _ w5 v hp hs
    have hl5 := lt_of_heap hb5
    simp -dsimp (disch := first | omega | (simp only [go_sem, seval]; first | done | omega)) only [go_sem, seval, hb5, noA]
    exact hk
  rw [if_neg g7] at hp
  simp -dsimp (disch := first | omega | (simp only [go_sem, seval]; first | done | omega)) only [go_sem, seval]
  refine BrW.dec (fun g8 => ?_) (fun g8 => ?_)
  · rw [if_pos g8] at hp
    refine OpX.call escape_Parser_control_b rfl (Calls.ret (econtrol_c h1 ok r hr) ?_)
    rintro v w5 hs
    have hb5 := hs.2.2.keep ho1 (by simp; omega)
    obtain ⟨a, rfl, hk⟩ := told _ w5 v hp hs
    have hl5 := lt_of_heap hb5
    simp -dsimp (disch := first | omega | (simp only [go_sem, seval]; first | done | omega)) only [go_sem, seval, hb5, noA]
    exact hk
  rw [if_neg g8] at hp
  simp -dsimp (disch := first | omega | (simp only [go_sem, seval]; first | done | omega)) only [go_sem, seval]
  refine BrW.dec (fun g9 => ?_) (fun g9 => ?_)
  · rw [if_pos g9] at hp
    refine Join1.cut (fun v w' => v = .bool (decide (64 ≤ r ∧ r ≤ 126)) ∧ w' = w4) ?_ ?_
    · simp -dsimp (disch := first | omega | (simp only [go_sem, seval]; first | done | omega)) only [go_sem, seval]
      refine BrW.dec (fun g => ?_) (fun g => ⟨congrArg Value.bool (decide_eq_false (by omega)).symm, rfl⟩)
      simp -dsimp (disch := first | omega | (simp only [go_sem, seval]; first | done | omega)) only [go_sem, seval]
      exact congrArg Value.bool (decide_eq_decide.2 ⟨fun h => ⟨g, h⟩, fun h => h.2⟩)
    rintro v w5 ⟨rfl, rfl⟩
    refine BrW.dec (fun g10 => ?_) (fun g10 => ?_)
    · rw [if_pos g10] at hp
      refine OpX.call escape_Parser_Reset_b rfl (Calls.ret (ereset_c h1) ?_)
      rintro v w6 h6
      exact rst _ h6 hp
    · rw [if_neg g10] at hp
      exact same hp
  · rw [if_neg g9] at hp
    exact same hp
theorem efeed_c {w : World} {t : Nat} {T : Tm} (h : w.heap[t]? = some T.obj) (ok : T.E.ok) {e : Option TypeId} {a : Option Addr} {l : List Int} (hs : Sx w e runeF a l) (hp : ∀ b o, a = some ⟨b, o, none⟩ → l ≠ [] → b ≠ t) (cap : Nat) (hl : l.length ≤ 1000000) (hr : ∀ x ∈ l, i32ok x) :
    Calls Tryz.prog 49 #[.pointer (some ⟨t, 2, none⟩), .slice a l.length cap] w
    (retK fun v w' => Ox w.heap.size w' 34 13 Act'.cells v (T.E.feed l).2 ∧ w'.heap[t]? = some ({ T with E := (T.E.feed l).1 } : Tm).obj ∧ Chg [t] w w') := by
  have hlp := lt_of_heap h
  apply escape_Parser_Feed_link
  intro K hK
  unfold escape_Parser_Feed
  simp -dsimp (disch := first | omega | (simp only [go_sem, seval]; first | done | omega)) only [go_sem, seval]
  refine Loop2.st (fun s : Nat × Value => s.2) (fun s => .int .i64 s.1) (fun s w' => s.1 ≤ l.length ∧ Ox w.heap.size w' 34 13 Act'.cells s.2 (T.E.feed (l.take s.1)).2 ∧ w'.heap[t]? = some ({ T with E := (T.E.feed (l.take s.1)).1 } : Tm).obj ∧ Chg [t] w w') (fun s => l.length - s.1) (0, .slice none 0 0) rfl rfl ⟨by simp, Ox.nil _ _ _ _ _, h, Chg.refl _ _⟩ ?_
  rintro next ⟨k, v⟩ w' hn ⟨hk, ho, hb', hc⟩
  dsimp only at hk ho hb' ⊢
  simp -dsimp (disch := first | omega | (simp only [go_sem, seval]; first | done | omega)) only [go_sem, seval]
  refine BrW.dec (fun h1 => ?_) (fun h1 => ?_)
  · have hk' : k < l.length := by omega
    obtain ⟨b, o, rfl, hbl, hcell⟩ := (hs.chg hc (fun b o ha hne => by simp; exact hp b o ha hne)).get1 (g := fun n => .int .i32 n) (fun _ => rfl) (List.getElem?_eq_getElem hk')
    have hrr := hr _ (List.getElem_mem hk')
    obtain ⟨okE, -, hlq⟩ := Esc.feed_ok ok (l := l.take k) (fun x hx => hr x (List.mem_of_mem_take hx))
    have hlq' : (T.E.feed (l.take k)).2.length ≤ 1000000 := by rw [List.length_take] at hlq; omega
    have hfe : T.E.feed (l.take (k + 1)) = (((T.E.feed (l.take k)).1.step l[k]).1, (T.E.feed (l.take k)).2 ++ ((T.E.feed (l.take k)).1.step l[k]).2.toList) := by
      rw [take_next hk', Esc.feed_append]
      simp [Esc.feed]
    obtain ⟨F, hF⟩ : ∃ F, F = T.E.feed (l.take k) := ⟨_, rfl⟩
    rw [← hF] at ho hb' okE hfe hlq'
    obtain ⟨p, hpp⟩ : ∃ p, p = F.1.step l[k] := ⟨_, rfl⟩
    rw [← hpp] at hfe
    refine Join1.cut (fun u w2 => Ox w.heap.size w2 34 13 Act'.cells u (F.2 ++ p.2.toList) ∧ w2.heap[t]? = some ({ T with E := p.1 } : Tm).obj ∧ Chg [t] w w2) ?_ ?_
    · simp -dsimp (disch := first | omega | (simp only [go_sem, seval]; first | done | omega)) only [go_sem, seval, hcell]
      refine OpX.call escape_Parser_Step_b rfl (Calls.ret (estep_c hb' okE l[k] hrr) ?_)
      rintro v1 w1 hst
      dsimp only at hst
      rw [← hpp] at hst
      obtain ⟨rfl, hb1, hc1⟩ := hst
      have ho1 := ho.low hc1 (by simp; omega)
      have hc01 := hc.trans hc1 (fun x hx => .inl hx)
      have hz := hc01.size
      obtain ⟨A, hA⟩ : ∃ A, A = p.2.getD noA := ⟨_, rfl⟩
      rw [← hA]
      simp -dsimp (disch := first | omega | (simp only [go_sem, seval]; first | done | omega)) only [go_sem, seval]
      obtain ⟨w2, hw2⟩ : ∃ w2, w2 = setBlk (w1.alloc (.cells noA.cells.toArray 34)) w1.heap.size (.cells A.cells.toArray 34) := ⟨_, rfl⟩
      have hc2 : Chg [] w1 w2 := by rw [hw2]; exact (chg_a1 _ _).set _ _ (.inr (Nat.le_refl _))
      have hA2 : w2.heap[w1.heap.size]? = some (.cells A.cells.toArray 34) := by rw [hw2]; exact set_heap _ (by simp -dsimp (disch := first | omega | (simp only [go_sem, seval]; first | done | omega)) only [go_sem, seval]; omega)
      simp only [noA, Act'.cells] at hw2
      rw [← hw2]
      clear hw2
      have hb2 := hc2.keep hb1 (by simp)
      have ho2 := ho1.chg0 hc2
      have hz2 := hc2.size
      cases hpo : p.2 with
      | none =>
        refine BrW.by (fun h => by simp at h) (fun _ => ⟨?_, hb2, hc01.trans0 hc2⟩)
        simpa using ho2
      | some A' =>
        rw [hpo] at hA
        have hA' : A = A' := hA
        subst hA'
        refine BrW.by (fun _ => ?_) (fun h => by simp at h)
        simp -dsimp (disch := first | omega | (simp only [go_sem, seval]; first | done | omega)) only [go_sem, seval, hA2]
        refine app_x (l2 := [A]) ty25ap Act'.len Act'.ok (ho2.chg0 (chg_a1 _ _)) (Sx.built (c := A.cells) (by simp -dsimp (disch := first | omega | (simp only [go_sem, seval]; first | done | omega)) only [go_sem, seval]; rfl) (by simp)) rfl (by simp; omega) (by omega) (by simp -dsimp (disch := first | omega | (simp only [go_sem, seval]; first | done | omega)) only [go_sem, seval]; omega) ?_
        intro v' w3 ho3 hc3 _
        have hca : Chg v.ownBlock.toList w2 w3 := ((Chg.refl _ w2).alloc _).trans hc3 (fun x hx => .inl hx)
        have hlow := ho2.own_ge
        exact ⟨ho3, hca.keep hb2 (fun hm => by have := hlow _ hm; omega), own_chg' ho2 (Nat.le_refl _) (hc01.trans0 hc2) hca⟩
    · rintro u w2 ⟨ho2, hb2, hc2⟩
      have e1 : (k : Int) + 1 = ((k + 1 : Nat) : Int) := by omega
      (try simp -dsimp (disch := first | omega | (simp only [go_sem, seval]; first | done | omega)) only [go_sem, seval, e1])
      refine hn (k + 1, u) _ ⟨by dsimp only; omega, ?_, ?_, hc2⟩ (by dsimp only; omega)
      · dsimp only; rw [hfe]; exact ho2
      · dsimp only; rw [hfe]; exact hb2
  · have : k = l.length := by omega
    subst this
    rw [List.take_length] at ho hb'
    exact hK _ _ ⟨ho, hb', hc⟩
end Go.Proofs.YtjfembffjjijaaaGreat
namespace Go.Proofs.YtjfembffjjijaaaGreat
open Lyc Go
theorem bstr_get (l : List UInt8) (n : Nat) : (bstr l)[n]? = l[n]? := by
  by_cases h : n < l.length
  · rw [getElem?_pos (bstr l) n (by simpa [bstr, ByteArray.size] using h), List.getElem?_eq_getElem h]
    rfl
  · rw [getElem?_neg (bstr l) n (by simpa [bstr, ByteArray.size] using h), List.getElem?_eq_none (by omega)]
@[go_sem] theorem chL_bstr (l : List UInt8) (i : Int) : chL (bstr l) i = if 0 ≤ i then (l[i.toNat]?).map fun b => Value.int .u8 b.toNat else none := by
  unfold chL
  rw [bstr_get]
theorem bstr_extract (l : List UInt8) (i j : Nat) : (bstr l).extract i j = bstr ((l.drop i).take (j - i)) := by
  apply ByteArray.ext
  simp [bstr, ByteArray.data_extract]
theorem first_c (w : World) (s : List UInt8) (h : s ≠ []) (hl : s.length ≤ 1000000) : Calls Tryz.prog 123 #[.string (bstr s)] w
    (retK fun v w' => v = .tuple #[.int .i32 (first s).1, .int .i64 (first s).2.1, .bool (first s).2.2] ∧ w' = w) := by
  obtain ⟨b, l, rfl⟩ : ∃ b l, s = b :: l := by cases s with | nil => exact absurd rfl h | cons b l => exact ⟨b, l, rfl⟩
  have hb := b.toNat_lt
  obtain ⟨p, hp⟩ : ∃ p, p = first (b :: l) := ⟨_, rfl⟩
  rw [← hp]
  unfold first at hp
  simp only [List.getElem?_cons_zero] at hp
  apply runes_first_link
  intro K hK
  unfold runes_first
  simp -dsimp (disch := first | omega | (simp only [go_sem, seval]; first | done | omega)) only [go_sem, seval]
  refine Join2.cutK (fun v0 v1 w' => v0 = .int .i32 (headR b.toNat) ∧ v1 = .int .i64 (moreB b.toNat) ∧ moreB b.toNat ≠ 0 ∧ ¬ b.toNat ≤ 127 ∧ w' = w) ?_ ?_
  · intro k1 hk1
    simp -dsimp (disch := first | omega | (simp only [go_sem, seval]; first | done | omega)) only [go_sem, seval]
    refine BrW.dec (fun g => ?_) (fun g => ?_)
    · rw [if_pos (by omega)] at hp
      subst hp
      simp -dsimp (disch := first | omega | (simp only [go_sem, seval]; first | done | omega)) only [go_sem, seval]
      exact hK _ _ ⟨rfl, rfl⟩
    have g' : ¬ b.toNat ≤ 127 := by omega
    rw [if_neg g'] at hp
    refine Join1.cut (fun v w' => v = .bool (decide (194 ≤ b.toNat ∧ b.toNat ≤ 223)) ∧ w' = w) ?_ ?_
    · simp -dsimp (disch := first | omega | (simp only [go_sem, seval]; first | done | omega)) only [go_sem, seval]
      refine BrW.dec (fun g => ?_) (fun g => ⟨congrArg Value.bool (decide_eq_false (by omega)).symm, rfl⟩)
      simp -dsimp (disch := first | omega | (simp only [go_sem, seval]; first | done | omega)) only [go_sem, seval]
      exact congrArg Value.bool (decide_eq_decide.2 ⟨fun h => by omega, fun h => by omega⟩)
    rintro v w1 ⟨rfl, rfl⟩
    refine BrW.dec (fun g1 => ?_) (fun g1 => ?_)
    · have hm : moreB b.toNat = 1 := by unfold moreB; rw [if_pos g1]
      simp -dsimp (disch := first | omega | (simp only [go_sem, seval]; first | done | omega)) only [go_sem, seval]
      refine hk1 _ _ _ ⟨?_, by rw [hm]; rfl, by omega, g', rfl⟩
      unfold headR
      rw [hm]
      rfl
    refine Join1.cut (fun v w' => v = .bool (decide (224 ≤ b.toNat ∧ b.toNat ≤ 239)) ∧ w' = w1) ?_ ?_
    · simp -dsimp (disch := first | omega | (simp only [go_sem, seval]; first | done | omega)) only [go_sem, seval]
      refine BrW.dec (fun g => ?_) (fun g => ⟨congrArg Value.bool (decide_eq_false (by omega)).symm, rfl⟩)
      simp -dsimp (disch := first | omega | (simp only [go_sem, seval]; first | done | omega)) only [go_sem, seval]
      exact congrArg Value.bool (decide_eq_decide.2 ⟨fun h => by omega, fun h => by omega⟩)
    rintro v w2 ⟨rfl, rfl⟩
    refine BrW.dec (fun g2 => ?_) (fun g2 => ?_)
    · have hm : moreB b.toNat = 2 := by unfold moreB; rw [if_neg g1, if_pos g2]
      simp -dsimp (disch := first | omega | (simp only [go_sem, seval]; first | done | omega)) only [go_sem, seval]
      refine hk1 _ _ _ ⟨?_, by rw [hm]; rfl, by omega, g', rfl⟩
      unfold headR
      rw [hm]
      rfl
    refine Join1.cut (fun v w' => v = .bool (decide (240 ≤ b.toNat ∧ b.toNat ≤ 244)) ∧ w' = w2) ?_ ?_
    · simp -dsimp (disch := first | omega | (simp only [go_sem, seval]; first | done | omega)) only [go_sem, seval]
      refine BrW.dec (fun g => ?_) (fun g => ⟨congrArg Value.bool (decide_eq_false (by omega)).symm, rfl⟩)
      simp -dsimp (disch := first | omega | (simp only [go_sem, seval]; first | done | omega)) only [go_sem, seval]
      exact congrArg Value.bool (decide_eq_decide.2 ⟨fun h => by omega, fun h => by omega⟩)
    rintro v w3 ⟨rfl, rfl⟩
    refine BrW.dec (fun g3 => ?_) (fun g3 => ?_)
    · have hm : moreB b.toNat = 3 := by unfold moreB; rw [if_neg g1, if_neg g2, if_pos g3]
      simp -dsimp (disch := first | omega | (simp only [go_sem, seval]; first | done | omega)) only [go_sem, seval]
      refine hk1 _ _ _ ⟨?_, by rw [hm]; rfl, by omega, g', rfl⟩
      unfold headR
      rw [hm]
      rfl
    · have hm : moreB b.toNat = 0 := by unfold moreB; rw [if_neg g1, if_neg g2, if_neg g3]
      rw [if_pos hm] at hp
      subst hp
      exact hK _ _ ⟨rfl, rfl⟩
  rintro v0 v1 w1 ⟨rfl, rfl, hm, h127, rfl⟩
  rw [if_neg h127, if_neg hm] at hp
  refine Join2.cutK (fun v0 v1 w' => v0 = .int .u8 (lowB b.toNat) ∧ v1 = .int .u8 (highB b.toNat) ∧ w' = w1) ?_ ?_
  · intro k5 hk5
    unfold lowB highB at hk5
    simp -dsimp (disch := first | omega | (simp only [go_sem, seval]; first | done | omega)) only [go_sem, seval]
    refine BrW.dec (fun g => ?_) (fun g => ?_)
    · exact hk5 _ _ _ ⟨by rw [if_pos (by omega)]; rfl, by rw [if_neg (by omega), if_neg (by omega)]; rfl, rfl⟩
    simp -dsimp (disch := first | omega | (simp only [go_sem, seval]; first | done | omega)) only [go_sem, seval]
    refine BrW.dec (fun g1 => ?_) (fun g1 => ?_)
    · exact hk5 _ _ _ ⟨by rw [if_neg (by omega), if_neg (by omega)]; rfl, by rw [if_pos (by omega)]; rfl, rfl⟩
    simp -dsimp (disch := first | omega | (simp only [go_sem, seval]; first | done | omega)) only [go_sem, seval]
    refine BrW.dec (fun g2 => ?_) (fun g2 => ?_)
    · exact hk5 _ _ _ ⟨by rw [if_neg (by omega), if_pos (by omega)]; rfl, by rw [if_neg (by omega), if_neg (by omega)]; rfl, rfl⟩
    simp -dsimp (disch := first | omega | (simp only [go_sem, seval]; first | done | omega)) only [go_sem, seval]
    refine BrW.dec (fun g3 => ?_) (fun g3 => ?_)
    · exact hk5 _ _ _ ⟨by rw [if_neg (by omega), if_neg (by omega)]; rfl, by rw [if_neg (by omega), if_pos (by omega)]; rfl, rfl⟩
    · exact hk5 _ _ _ ⟨by rw [if_neg (by omega), if_neg (by omega)]; rfl, by rw [if_neg (by omega), if_neg (by omega)]; rfl, rfl⟩
  rintro v2 v3 w2 ⟨rfl, rfl, rfl⟩
  have hm3 : moreB b.toNat ≤ 3 := by unfold moreB; split <;> (try split) <;> (try split) <;> omega
  refine Loop4.st (fun q : Int × Nat × Nat × Nat => .int .i32 q.1) (fun q => .int .i64 q.2.1) (fun q => .int .u8 q.2.2.1) (fun q => .int .u8 q.2.2.2)
    (fun q w' => w' = w2 ∧ q.2.1 ≤ l.length + 1 ∧ q.2.1 ≤ moreB b.toNat + 1 ∧ q.2.2.1 ≤ 255 ∧ q.2.2.2 ≤ 255 ∧ i32ok q.1 ∧ p = firstGo (b :: l) (moreB b.toNat + 1 - q.2.1) q.1 q.2.1 q.2.2.1 q.2.2.2) (fun q => 10 - q.2.1)
    (headR b.toNat, 1, lowB b.toNat, highB b.toNat) rfl rfl rfl rfl ⟨rfl, by dsimp only; omega, by dsimp only; omega, by dsimp only; unfold lowB; split <;> (try split) <;> omega, by dsimp only; unfold highB; split <;> (try split) <;> omega, headR_ok _, hp⟩ ?_
  rintro next ⟨r, n, lo, hi⟩ w3 hn ⟨rfl, hnl, hn1, hlo, hhi, hr, hpq⟩
  dsimp only at hnl hn1 hlo hhi hr hpq ⊢
  simp -dsimp (disch := first | omega | (simp only [go_sem, seval]; first | done | omega)) only [go_sem, seval]
  refine BrW.dec (fun g => ?_) (fun g => ?_)
  · obtain ⟨k, hk⟩ : ∃ k, moreB b.toNat + 1 - n = k + 1 := ⟨moreB b.toNat - n, by omega⟩
    rw [hk] at hpq
    unfold firstGo at hpq
    simp -dsimp (disch := first | omega | (simp only [go_sem, seval]; first | done | omega)) only [go_sem, seval]
    refine BrW.dec (fun g1 => ?_) (fun g1 => ?_)
    · have hnone : (b :: l)[n]? = none := List.getElem?_eq_none (by rw [List.length_cons]; omega)
      rw [hnone] at hpq
      subst hpq
      exact hK _ _ ⟨rfl, rfl⟩
    · have hlt : n < (b :: l).length := by rw [List.length_cons]; omega
      obtain ⟨c, hc⟩ : ∃ c, (b :: l)[n]? = some c := ⟨_, List.getElem?_eq_getElem hlt⟩
      have hcb := c.toNat_lt
      rw [hc] at hpq
      dsimp only at hpq
      simp -dsimp (disch := first | omega | (simp only [go_sem, seval]; first | done | omega)) only [go_sem, seval, hc]
      refine Join1.cut (fun v w' => v = .bool (decide (c.toNat < lo ∨ hi < c.toNat)) ∧ w' = w3) ?_ ?_
      · simp -dsimp (disch := first | omega | (simp only [go_sem, seval]; first | done | omega)) only [go_sem, seval]
        refine BrW.dec (fun g => ⟨congrArg Value.bool (decide_eq_true (by omega)).symm, rfl⟩) (fun g => ?_)
        simp -dsimp (disch := first | omega | (simp only [go_sem, seval]; first | done | omega)) only [go_sem, seval]
        exact congrArg Value.bool (decide_eq_decide.2 ⟨fun h => by omega, fun h => by omega⟩)
      rintro v w4 ⟨rfl, rfl⟩
      refine BrW.dec (fun g2 => ?_) (fun g2 => ?_)
      · rw [if_pos g2] at hpq
        subst hpq
        exact hK _ _ ⟨rfl, rfl⟩
      · rw [if_neg g2] at hpq
        have e1 : (n : Int) + 1 = ((n + 1 : Nat) : Int) := by omega
        simp -dsimp (disch := first | omega | (simp only [go_sem, seval]; first | done | omega)) only [go_sem, seval, e1]
        refine hn (nextR r c, n + 1, 128, 191) _ ⟨rfl, by dsimp only; rw [List.length_cons] at hlt; omega, by dsimp only; omega, by dsimp only; omega, by dsimp only; omega, nextR_ok _ _, ?_⟩ (by dsimp only; omega)
        dsimp only
        rw [hpq, show moreB b.toNat + 1 - (n + 1) = k by omega]
  · have hk : moreB b.toNat + 1 - n = 0 := by omega
    rw [hk] at hpq
    subst hpq
    exact hK _ _ ⟨rfl, rfl⟩
theorem decode_c (w : World) (s : List UInt8) (hl : s.length ≤ 1000000) : Calls Tryz.prog 83 #[.string (bstr s)] w
    (retK fun v w' => ∃ u, v = .tuple #[u, .string (bstr (dec s).2)] ∧ Ox w.heap.size w' 21 1 runeF u (dec s).1 ∧ Chg [] w w') := by
  apply runes_decode_link
  intro K hK
  unfold runes_decode
  refine Join2.cut (fun v0 v1 w' => v0 = .string (bstr (dec s).2) ∧ Ox w.heap.size w' 21 1 runeF v1 (dec s).1 ∧ Chg [] w w') ?_ ?_
  · refine Loop2.st (fun q : List UInt8 × Value × List Int => .string (bstr q.1)) (fun q => q.2.1) (fun q w' => q.1.length ≤ s.length ∧ Ox w.heap.size w' 21 1 runeF q.2.1 q.2.2 ∧ q.2.2.length + q.1.length ≤ s.length ∧ dec s = (q.2.2 ++ (dec q.1).1, (dec q.1).2) ∧ Chg [] w w') (fun q => q.1.length) (s, .slice none 0 0, []) rfl rfl ⟨Nat.le_refl _, Ox.nil _ _ _ _ _, by simp, by simp, Chg.refl _ _⟩ ?_
    rintro next ⟨q, u, l⟩ w1 hn ⟨hq, ho, hlq, hd, hc⟩
    dsimp only at hq ho hlq hd ⊢
    simp -dsimp (disch := first | omega | (simp only [go_sem, seval]; first | done | omega)) only [go_sem, seval]
    refine BrW.dec (fun g => ?_) (fun g => ?_)
    · have hne : q ≠ [] := by rintro rfl; simp at g
      have hf := first_ok q hne
      refine OpX.call runes_first_b rfl (Calls.ret (first_c w1 q hne (by omega)) ?_)
      rintro v w2 ⟨rfl, rfl⟩
      simp -dsimp (disch := first | omega | (simp only [go_sem, seval]; first | done | omega)) only [go_sem, seval]
      cases hop : (first q).2.2 with
      | true =>
        refine BrW.by (fun _ => ?_) (fun h => by simp at h)
        rw [dec_open hne hop] at hd
        rw [hd]
        exact ⟨rfl, by simpa using ho, hc⟩
      | false =>
        refine BrW.by (fun h => by simp at h) (fun _ => ?_)
        rw [dec_step hne hop] at hd
        have hz := hc.size
        simp -dsimp (disch := first | omega | (simp only [go_sem, seval]; first | done | omega)) only [go_sem, seval]
        refine app_x (l2 := [(first q).1]) ty24ap runeF_len runeF_ok (ho.chg0 (chg_a1 _ _)) (Sx.built (c := runeF (first q).1) (by simp -dsimp (disch := first | omega | (simp only [go_sem, seval]; first | done | omega)) only [go_sem, seval]; rfl) (by simp)) rfl (by simp; omega) (by omega) (by simp -dsimp (disch := first | omega | (simp only [go_sem, seval]; first | done | omega)) only [go_sem, seval]; omega) ?_
        intro v' w3 ho3 hc3 _
        have hca : Chg u.ownBlock.toList w2 w3 := ((Chg.refl _ w2).alloc _).trans hc3 (fun x hx => .inl hx)
        simp -dsimp (disch := first | omega | (simp only [go_sem, seval]; first | done | omega)) only [go_sem, seval, bstr_extract]
        rw [List.take_of_length_le (by rw [List.length_drop]; exact Nat.le_refl _)]
        refine hn (q.drop (first q).2.1, v', l ++ [(first q).1]) _ ⟨by dsimp only; rw [List.length_drop]; omega, ho3, by dsimp only; rw [List.length_append, List.length_singleton, List.length_drop]; omega, ?_, own_chg' ho (Nat.le_refl _) hc hca⟩ (by dsimp only; rw [List.length_drop]; omega)
        dsimp only
        rw [hd]
        simp
    · have : q = [] := List.eq_nil_of_length_eq_zero (by omega)
      subst this
      rw [dec_nil] at hd
      rw [hd]
      exact ⟨rfl, by simpa using ho, hc⟩
  · rintro v0 v1 w1 ⟨rfl, ho, hc⟩
    exact hK _ _ ⟨v1, rfl, ho, hc⟩
theorem sclone_c (w : World) (s : List UInt8) (hl : s.length ≤ 1000000) : Calls Tryz.prog 84 #[.string (bstr s)] w
    (retK fun v w' => v = .string (bstr s) ∧ Chg [] w w') := by
  apply strings_Clone_link
  intro K hK
  unfold strings_Clone
  have hc : Calls Tryz.prog 124 #[.string (bstr s)] w (retK fun v w' => v = .string (bstr s) ∧ Chg [] w w') := by
    refine (Tryz.stringslite_Clone (bstr s) w (by rw [bstr_size]; omega)).mono fun e w' h => ?_
    obtain ⟨rfl, hb⟩ := h
    exact ⟨rfl, hb.os, hb.tape, hb.output, hb.size, fun b hb' _ => hb.block b hb'⟩
  refine OpX.call internal_stringslite_Clone_b rfl (Calls.ret (hc) ?_)
  rintro v w1 ⟨rfl, hc1⟩
  exact hK _ _ ⟨rfl, hc1⟩
theorem dfeed_c {w : World} {t : Nat} {T : Tm} (h : w.heap[t]? = some T.obj) (hk : T.kept.length ≤ 4) (s : List UInt8) (hl : s.length ≤ 10000) : Calls Tryz.prog 50 #[.pointer (some ⟨t, 1, none⟩), .string (bstr s)] w
    (retK fun v w' => Ox w.heap.size w' 21 1 runeF v (dec (T.kept ++ s)).1 ∧ w'.heap[t]? = some ({ T with kept := (dec (T.kept ++ s)).2 } : Tm).obj ∧ Chg [t] w w') := by
  have hl0 := lt_of_heap h
  apply runes_Decoder_Feed_link
  intro K hK
  unfold runes_Decoder_Feed
  simp -dsimp (disch := first | omega | (simp only [go_sem, seval]; first | done | omega)) only [go_sem, seval, h]
  refine OpX.call runes_decode_b rfl (Calls.ret (decode_c w (T.kept ++ s) (by rw [List.length_append]; omega)) ?_)
  rintro v w1 ⟨u, rfl, ho, hc1⟩
  have hd := dec_ok (T.kept ++ s)
  have h1 := hc1.keep h (by simp)
  simp -dsimp (disch := first | omega | (simp only [go_sem, seval]; first | done | omega)) only [go_sem, seval]
  refine OpX.call strings_Clone_b rfl (Calls.ret (sclone_c w1 _ (by omega)) ?_)
  rintro v w2 ⟨rfl, hc2⟩
  have h2 := hc2.keep h1 (by simp)
  have hl2 := lt_of_heap h2
  have ho2 := ho.chg0 hc2
  simp -dsimp (disch := first | omega | (simp only [go_sem, seval]; first | done | omega)) only [go_sem, seval, h2]
  refine hK _ _ ⟨ho2.low (F := [t]) ((Chg.refl _ _).set _ _ (by simp)) (by simp; omega), ?_, ((hc1.trans0 hc2).mono (by simp)).set _ _ (.inl (by simp))⟩
  rw [set_heap _ hl2]
  rfl
end Go.Proofs.YtjfembffjjijaaaGreat
namespace Go.Proofs.YtjfembffjjijaaaGreat
open Lyc Go
structure TmAt (base : Nat) (w : World) (t W H : Nat) (T : Tm) (M : Scm) (G : Hs) : Prop where
  hb : w.heap[t]? = some T.obj
  scr : SNew base w T.s W H M
  his : HAt w T.h G
  eok : T.E.ok
  kl : T.kept.length ≤ 4
  dk : dec T.kept = ([], T.kept)
  lo : ∀ x ∈ t :: T.h :: G.blk, base ≤ x
  sep : ∀ x ∈ M.gv.ownBlock.toList, x ∉ G.blk
  far : ∀ r ∈ G.all, ∀ b o, r.a = some ⟨b, o, none⟩ → r.cs ≠ [] → b ≠ M.b0 ∧ b ≠ M.b1
  rw : ∀ l ∈ G.list, l.length = W
section
variable {base : Nat} {w w' : World} {t W H : Nat} {T : Tm} {M : Scm} {G : Hs}
theorem tag_ne {w : World} {x y : Nat} {c c' : Array Value} {e e' : TypeId} {fr fr' : Nat × Nat} (h : w.heap[x]? = some (.cells c e fr)) (h' : w.heap[y]? = some (.cells c' e' fr')) (hne : Nat.beq e e' = false) : x ≠ y := by
  rintro rfl
  rw [h] at h'
  simp only [Option.some.injEq, Obj.cells.injEq] at h'
  rw [h'.2.1, Nat.beq_refl] at hne
  cases hne
theorem SAt.tags {s : Nat} (h : SAt w s M) : (∃ c fr, w.heap[s]? = some (.cells c 76 fr)) ∧ (∃ c fr, w.heap[M.b0]? = some (.cells c 70 fr)) ∧ (∃ c fr, w.heap[M.b1]? = some (.cells c 70 fr)) ∧ ∀ x ∈ M.gv.ownBlock.toList, ∃ c fr, w.heap[x]? = some (.cells c 36 fr) := by
  refine ⟨⟨_, _, h.hb⟩, ⟨_, _, h.h0⟩, ⟨_, _, h.h1⟩, fun x hx => ?_⟩
  obtain ⟨hl, ho⟩ := h.own
  rcases ho with ⟨hv, -⟩ | ⟨g, cap, cur, hv, -, hg, -⟩
  · rw [hv] at hx; simp [Value.ownBlock] at hx
  · rw [hv] at hx; simp [Value.ownBlock] at hx
    subst hx
    exact ⟨_, _, hg⟩
theorem HAt.tag2 {h : Nat} (hh : HAt w h G) : (∃ c fr, w.heap[h]? = some (.cells c 118 fr)) ∧ ∀ x ∈ G.blk, ∃ c fr, w.heap[x]? = some (.cells c 36 fr) := by
  refine ⟨⟨_, _, hh.hb⟩, fun x hx => ?_⟩
  obtain ⟨hl, ho⟩ := hh.own
  simp only [Hs.blk] at hx
  rcases ho with ⟨hv, -⟩ | ⟨g, cap, cur, hv, -, hg, -⟩
  · rw [hv] at hx; simp [Value.ownBlock] at hx
  · rw [hv] at hx; simp [Value.ownBlock] at hx
    subst hx
    exact ⟨_, _, hg⟩
theorem TmAt.s_h (h : TmAt base w t W H T M G) : ∀ x ∈ T.s :: M.blk, x ∉ T.h :: G.blk := by
  obtain ⟨⟨c1, f1, a1⟩, ⟨c2, f2, a2⟩, ⟨c3, f3, a3⟩, a4⟩ := h.scr.at_.tags
  obtain ⟨⟨c5, f5, a5⟩, a6⟩ := h.his.tag2
  intro x hx hm
  rcases List.mem_cons.1 hm with rfl | hm
  · simp only [Scm.blk, List.mem_cons] at hx
    rcases hx with e | e | e | hx
    · exact tag_ne a1 a5 rfl e.symm
    · exact tag_ne a2 a5 rfl e.symm
    · exact tag_ne a3 a5 rfl e.symm
    · obtain ⟨c, f, b⟩ := a4 _ hx
      exact tag_ne b a5 rfl rfl
  · obtain ⟨c7, f7, a7⟩ := a6 x hm
    simp only [Scm.blk, List.mem_cons] at hx
    rcases hx with rfl | rfl | rfl | hx
    · exact tag_ne a1 a7 rfl rfl
    · exact tag_ne a2 a7 rfl rfl
    · exact tag_ne a3 a7 rfl rfl
    · exact h.sep x hx hm
theorem TmAt.t_s (h : TmAt base w t W H T M G) : t ∉ T.s :: M.blk := by
  obtain ⟨⟨c1, f1, a1⟩, ⟨c2, f2, a2⟩, ⟨c3, f3, a3⟩, a4⟩ := h.scr.at_.tags
  have hb := h.hb
  unfold Tm.obj at hb
  intro hx
  simp only [Scm.blk, List.mem_cons] at hx
  rcases hx with e | e | e | hx
  · exact tag_ne a1 hb rfl e.symm
  · exact tag_ne a2 hb rfl e.symm
  · exact tag_ne a3 hb rfl e.symm
  · obtain ⟨c, f, b⟩ := a4 _ hx
    exact tag_ne b hb rfl rfl
theorem TmAt.t_h (h : TmAt base w t W H T M G) : t ∉ T.h :: G.blk := by
  obtain ⟨⟨c5, f5, a5⟩, a6⟩ := h.his.tag2
  have hb := h.hb
  unfold Tm.obj at hb
  intro hx
  rcases List.mem_cons.1 hx with e | hx
  · exact tag_ne a5 hb rfl e.symm
  · obtain ⟨c, f, b⟩ := a6 _ hx
    exact tag_ne b hb rfl rfl
theorem TmAt.rows_s (h : TmAt base w t W H T M G) : ∀ r ∈ G.all, ∀ b o, r.a = some ⟨b, o, none⟩ → r.cs ≠ [] → b ∉ T.s :: M.blk := by
  obtain ⟨⟨c1, f1, a1⟩, -, -, a4⟩ := h.scr.at_.tags
  intro r hr b o ha hne hx
  have hs := h.his.rows r hr
  simp only [Scm.blk, List.mem_cons] at hx
  rcases hx with rfl | rfl | rfl | hx
  · exact hs.ne ha hne a1 rfl rfl
  · exact (h.far r hr _ o ha hne).1 rfl
  · exact (h.far r hr _ o ha hne).2 rfl
  · obtain ⟨c, f, b'⟩ := a4 _ hx
    exact hs.ne ha hne b' rfl rfl
theorem TmAt.chg0 (h : TmAt base w t W H T M G) (hc : Chg [] w w') : TmAt base w' t W H T M G :=
  ⟨hc.keep h.hb (by simp), h.scr.chg0 hc, h.his.chg0 hc, h.eok, h.kl, h.dk, h.lo, h.sep, h.far, h.rw⟩
theorem TmAt.self (h : TmAt base w t W H T M G) (hc : Chg [t] w w') {k : List UInt8} {E : Esc} (hb : w'.heap[t]? = some ({ T with kept := k, E := E } : Tm).obj) (ek : E.ok) (kk : k.length ≤ 4) (kd : dec k = ([], k)) : TmAt base w' t W H { T with kept := k, E := E } M G := by
  have hts := h.t_s
  have hth := h.t_h
  have hb0 := h.hb
  unfold Tm.obj at hb0
  have hS : SAt w' T.s M := h.scr.at_.chg hc (fun x hx hm => by simp at hm; subst hm; exact hts hx) (fun r hr b o ha hne hm => by simp at hm; subst hm; exact (h.scr.at_.rows r hr).ne ha hne hb0 rfl rfl)
  refine ⟨hb, ⟨hS, h.scr.ok, h.scr.w, h.scr.h, h.scr.gw, h.scr.lo⟩, h.his.chg hc (fun x hx hm => by simp at hm; subst hm; exact hth hx) (fun r hr b o ha hne hm => by simp at hm; subst hm; exact (h.his.rows r hr).ne ha hne hb0 rfl rfl), ek, kk, kd, h.lo, h.sep, h.far, h.rw⟩
theorem TmAt.did (h : TmAt base w t W H T M G) {S : Scr} (hd : Did w T.s M w' S) (hn : Nx M.S S) (hb : base ≤ w.heap.size) : ∃ M', TmAt base w' t W H T M' G ∧ M'.S = S ∧ Chg (T.s :: M.blk) w w' ∧ ∀ b ∈ M'.blk, b ∈ M.blk ∨ w.heap.size ≤ b := by
  obtain ⟨M', hN, hS, hc, hk⟩ := h.scr.did hd hn hb
  have hsh := h.s_h
  have hlt := h.his.blk_lt
  have hts := h.t_s
  refine ⟨M', ⟨hc.keep h.hb hts, hN, h.his.chg hc (fun x hx hm => hsh x hm hx) h.rows_s, h.eok, h.kl, h.dk, h.lo, fun x hx hm => ?_, fun r hr b o ha hne => ?_, h.rw⟩, hS, hc, hk⟩
  · rcases hk x (by simp [Scm.blk, hx]) with h1 | h1
    · exact hsh x (by simp [h1]) (by simp [hm])
    · have := hlt x (by simp [hm]); omega
  · have hbl := (h.his.rows r hr).lt hne ha
    have hnot := h.rows_s r hr b o ha hne
    refine ⟨fun e => ?_, fun e => ?_⟩
    · rcases hk M'.b0 (by simp [Scm.blk]) with h1 | h1
      · exact hnot (by rw [e]; simp [h1])
      · omega
    · rcases hk M'.b1 (by simp [Scm.blk]) with h1 | h1
      · exact hnot (by rw [e]; simp [h1])
      · omega
end
def Town (t : Nat) (T : Tm) (M : Scm) (G : Hs) (x : Nat) : Prop := x = t ∨ x = T.s ∨ x ∈ M.blk ∨ x = T.h ∨ x ∈ G.blk ∨ ∃ r ∈ G.all, r.cs ≠ [] ∧ ∃ o, r.a = some ⟨x, o, none⟩
theorem TmAt.own_lt {base : Nat} {w : World} {t W H : Nat} {T : Tm} {M : Scm} {G : Hs} (h : TmAt base w t W H T M G) {x : Nat} (hx : Town t T M G x) : x < w.heap.size := by
  rcases hx with rfl | rfl | hx | rfl | hx | ⟨r, hr, hne, o, ha⟩
  · exact lt_of_heap h.hb
  · exact lt_of_heap h.scr.at_.hb
  · exact h.scr.at_.lt x (by simp [hx])
  · exact lt_of_heap h.his.hb
  · exact h.his.blk_lt x (by simp [hx])
  · exact (h.his.rows r hr).lt hne ha
theorem TmAt.frame {base : Nat} {w w' : World} {t W H : Nat} {T : Tm} {M : Scm} {G : Hs} (h : TmAt base w t W H T M G) (hm : M.rows = []) {F : List Nat} (hc : Chg F w w') (hF : ∀ x ∈ F, ¬Town t T M G x) : TmAt base w' t W H T M G := by
  have hS : SAt w' T.s M := h.scr.at_.chg hc (fun x hx hf => hF x hf (by rcases List.mem_cons.1 hx with e | hx; exact .inr (.inl e); exact .inr (.inr (.inl hx)))) (by rw [hm]; simp)
  exact ⟨hc.keep h.hb (fun hf => hF t hf (.inl rfl)), ⟨hS, h.scr.ok, h.scr.w, h.scr.h, h.scr.gw, h.scr.lo⟩,
    h.his.chg hc (fun x hx hf => hF x hf (by rcases List.mem_cons.1 hx with e | hx; exact .inr (.inr (.inr (.inl e))); exact .inr (.inr (.inr (.inr (.inl hx)))))) (fun r hr b o ha hne hf => hF b hf (.inr (.inr (.inr (.inr (.inr ⟨r, hr, hne, o, ha⟩)))))),
    h.eok, h.kl, h.dk, h.lo, h.sep, h.far, h.rw⟩
def fedT (S : Scr) (k : List UInt8) (E : Esc) (s : List UInt8) : Scr × List UInt8 × Esc :=
  (S.acts (E.feed (dec (k ++ s)).1).2, (dec (k ++ s)).2, (E.feed (dec (k ++ s)).1).1)
theorem fedT_nil (S : Scr) {k : List UInt8} (E : Esc) (hk : dec k = ([], k)) : fedT S k E [] = (S, k, E) := by
  unfold fedT
  rw [List.append_nil, hk]
  rfl
theorem fedT_append (S : Scr) (k : List UInt8) (E : Esc) (s t : List UInt8) : fedT S k E (s ++ t) = fedT (fedT S k E s).1 (fedT S k E s).2.1 (fedT S k E s).2.2 t := by
  unfold fedT
  rw [← List.append_assoc, dec_append (k ++ s) t]
  dsimp only
  rw [Esc.feed_append]
  unfold Scr.acts
  rw [List.foldl_append]
def fedAll (st : Scr × List UInt8 × Esc) (l : List (List UInt8)) : Scr × List UInt8 × Esc := l.foldl (fun st p => fedT st.1 st.2.1 st.2.2 p) st
def bsF (l : List UInt8) : List Value := [.string (bstr l)]
theorem nil_or {α : Type} (l : List α) (h : ¬ (0 : Int) < (l.length : Int)) : l = [] := List.eq_nil_of_length_eq_zero (by omega)
theorem pushed_mem {room : Nat} {l : List (List Cel)} {x y : List Cel} (h : y ∈ pushed room l x) : y ∈ l ∨ y = x := by
  unfold pushed at h
  split at h
  · exact .inl h
  split at h
  · rcases List.mem_append.1 h with h | h
    · exact .inl h
    · exact .inr (by simpa using h)
  · rcases List.mem_append.1 h with h | h
    · exact .inl (List.mem_of_mem_tail h)
    · exact .inr (by simpa using h)
theorem pushAll_mem {room : Nat} : ∀ {xs l : List (List Cel)} {y : List Cel}, y ∈ pushAll room l xs → y ∈ l ∨ ∃ x ∈ xs, y = mend x
  | [], l, y, h => .inl h
  | x :: xs, l, y, h => by
    unfold pushAll at h
    rw [List.foldl_cons] at h
    rcases pushAll_mem (xs := xs) h with h | ⟨z, hz, e⟩
    · rcases pushed_mem h with h | h
      · exact .inl h
      · exact .inr ⟨x, by simp, h⟩
    · exact .inr ⟨z, by simp [hz], e⟩
set_option maxHeartbeats 1000000 in
theorem twrite_c {base : Nat} {w : World} {t W H : Nat} {T : Tm} {M : Scm} {G : Hs} (h : TmAt base w t W H T M G) (hbase : base ≤ w.heap.size) {e : Option TypeId} {a : Option Addr} {l : List (List UInt8)} (hs : Sx w e bsF a l) (hlen : ∀ p ∈ l, p.length ≤ 1000000) (hfar : ∀ b o, a = some ⟨b, o, none⟩ → l ≠ [] → b ∉ t :: T.s :: M.blk) (cap : Nat) (hll : l.length ≤ 1000000) :
    Calls Tryz.prog 21 #[.pointer (some ⟨t, 0, none⟩), .slice a l.length cap] w
    (retK fun _ w' => ∃ M' G' k E, TmAt base w' t W H { T with kept := k, E := E } M' G' ∧ (M'.S, k, E) = ({ (fedAll (M.S, T.kept, T.E) l).1 with gone := [] }, (fedAll (M.S, T.kept, T.E) l).2.1, (fedAll (M.S, T.kept, T.E) l).2.2) ∧
      G'.room = G.room ∧ G'.list = pushAll G.room G.list (fedAll (M.S, T.kept, T.E) l).1.gone ∧ Chg (t :: T.s :: M.blk ++ T.h :: G.blk) w w' ∧ M'.rows = [] ∧ ∀ x, Town t { T with kept := k, E := E } M' G' x → Town t T M G x ∨ w.heap.size ≤ x) := by
  have hb := h.hb
  apply term_Term_Write_link
  intro K hK
  unfold term_Term_Write
  simp -dsimp (disch := first | omega | (simp only [go_sem, seval]; first | done | omega)) only [go_sem, seval]
  refine Loop1.st (fun q : Nat × Scm × List UInt8 × Esc => .int .i64 (q.1 : Int)) (fun q w' => q.1 ≤ l.length ∧ TmAt base w' t W H { T with kept := q.2.2.1, E := q.2.2.2 } q.2.1 G ∧ (q.2.1.S, q.2.2.1, q.2.2.2) = fedAll (M.S, T.kept, T.E) (l.take q.1) ∧ (∀ x ∈ q.2.1.blk, x ∈ M.blk ∨ w.heap.size ≤ x) ∧ Chg (t :: T.s :: M.blk) w w') (fun q => l.length - q.1) (0, M, T.kept, T.E) rfl ⟨by simp, h, rfl, fun x hx => .inl hx, Chg.refl _ _⟩ ?_
  rintro next ⟨i, Mi, k, E⟩ wi hn ⟨hi, hA, hst, hbk, hc⟩
  dsimp only at hi hA hst hbk ⊢
  simp -dsimp (disch := first | omega | (simp only [go_sem, seval]; first | done | omega)) only [go_sem, seval]
  refine BrW.dec (fun g => ?_) (fun g => ?_)
  · have hi' : i < l.length := by omega
    obtain ⟨b, o, rfl, hbl, hcell⟩ := (hs.chg hc hfar).get1 (g := fun p => .string (bstr p)) (fun _ => rfl) (List.getElem?_eq_getElem hi')
    have hpl := hlen _ (List.getElem_mem hi')
    obtain ⟨p, hp⟩ : ∃ p, p = l[i] := ⟨_, rfl⟩
    rw [← hp] at hcell hpl
    simp -dsimp (disch := first | omega | (simp only [go_sem, seval]; first | done | omega)) only [go_sem, seval, hcell]
    refine Loop1.st (fun q : List UInt8 × Scm × List UInt8 × Esc => .string (bstr q.1)) (fun q w' => q.1.length ≤ p.length ∧ TmAt base w' t W H { T with kept := q.2.2.1, E := q.2.2.2 } q.2.1 G ∧ fedT Mi.S k E p = fedT q.2.1.S q.2.2.1 q.2.2.2 q.1 ∧ (∀ x ∈ q.2.1.blk, x ∈ M.blk ∨ w.heap.size ≤ x) ∧ Chg (t :: T.s :: M.blk) w w') (fun q => q.1.length) (p, Mi, k, E) rfl ⟨Nat.le_refl _, hA, rfl, hbk, hc⟩ ?_
    rintro next2 ⟨q, Mq, kq, Eq⟩ wq hn2 ⟨hq, hAq, hfq, hbq', hcq⟩
    dsimp only at hq hAq hfq hbq' ⊢
    simp -dsimp (disch := first | omega | (simp only [go_sem, seval]; first | done | omega)) only [go_sem, seval]
    refine BrW.dec (fun g2 => ?_) (fun g2 => ?_)
    · obtain ⟨n, hnn⟩ : ∃ n : Nat, n = min q.length 4096 := ⟨_, rfl⟩
      have en : min (q.length : Int) 4096 = (n : Int) := by omega
      have hbq := hAq.hb
      have hzq := hcq.size
      have hA0 := hAq.chg0 (show Chg [] wq wq.drew from (Chg.refl _ _).drew)
      simp -dsimp (disch := first | omega | (simp only [go_sem, seval]; first | done | omega)) only [go_sem, seval, hbq, en, bstr_extract]
      obtain ⟨c, hcc⟩ : ∃ c, c = q.take n := ⟨_, rfl⟩
      rw [Nat.sub_zero, ← hcc]
      have hcl : c.length ≤ 4096 := by rw [hcc, List.length_take]; omega
      have hkl : kq.length ≤ 4 := hAq.kl
      refine OpX.call runes_Decoder_Feed_b rfl (Calls.ret (dfeed_c hA0.hb hkl c (by omega)) ?_)
      rintro v w1 ⟨ho, hb1, hc1⟩
      have hd := dec_ok (kq ++ c)
      have hA1 := hA0.self hc1 hb1 hAq.eok hd.2.2 (dec_kept _)
      have hz1 : wq.heap.size ≤ w1.heap.size := hc1.size
      obtain ⟨a1, cp1, rfl, -, hs1, -, hf1⟩ := ho.form
      have hb1' := hA1.hb
      have hlt := lt_of_heap hbq
      dsimp only at hd hb1 ho hs1 hA1 hb1' hf1
      simp -dsimp (disch := first | omega | (simp only [go_sem, seval]; first | done | omega)) only [go_sem, seval, hb1']
      have hrl : (dec (kq ++ c)).1.length ≤ 1000000 := by have := hd.2.1; rw [List.length_append] at this; omega
      refine OpX.call escape_Parser_Feed_b rfl (Calls.ret (efeed_c hA1.hb hA1.eok hs1 (fun b o hb hne => by obtain ⟨g, hg, hge, -⟩ := hf1 hne; rw [hg] at hb; cases hb; have h9 : wq.heap.size ≤ b := hge; omega) cp1 hrl hd.1) ?_)
      rintro v w2 ⟨ho2, hb2, hc2⟩
      have hfe := Esc.feed_ok hA1.eok (l := (dec (kq ++ c)).1) hd.1
      have hA2 := hA1.self hc2 hb2 hfe.1 hd.2.2 (dec_kept _)
      have hz2 := hc2.size
      obtain ⟨a2, cp2, rfl, -, hs2, -, -⟩ := ho2.form
      have hb2' := hA2.hb
      dsimp only at hfe ho2 hs2 hA2 hb2'
      have hfar2 : ∀ b o, a2 = some ⟨b, o, none⟩ → (Eq.feed (dec (kq ++ c)).1).2 ≠ [] → b ∉ T.s :: Mq.blk := fun b o hb _ hm => hA2.scr.at_.act_off ho2 b hm (by rw [hb]; simp [Value.ownBlock])
      simp -dsimp (disch := first | omega | (simp only [go_sem, seval]; first | done | omega)) only [go_sem, seval, hb2']
      refine OpX.call screen_Screen_Do_b rfl (Calls.ret (sdo_c hA2.scr.at_ hA2.scr.ok hs2 hfar2 cp2 (by omega) hfe.2.1) ?_)
      rintro v w3 hd3
      obtain ⟨M3, hA3, hS3, hc3, hk3⟩ := hA2.did hd3 hA2.scr.ok.acts (by omega)
      simp -dsimp (disch := first | omega | (simp only [go_sem, seval]; first | done | omega)) only [go_sem, seval, bstr_extract, en]
      rw [List.take_of_length_le (by rw [List.length_drop]; exact Nat.le_refl _)]
      have hfc : fedT Mq.S kq Eq c = (M3.S, (dec (kq ++ c)).2, (Eq.feed (dec (kq ++ c)).1).1) := by unfold fedT; rw [hS3]
      refine hn2 (q.drop n, M3, (dec (kq ++ c)).2, (Eq.feed (dec (kq ++ c)).1).1) _ ⟨by dsimp only; rw [List.length_drop]; omega, hA3, ?_, fun x hx => (hk3 x hx).elim (fun h => hbq' x h) (fun h => .inr (by omega)), ?_⟩ (by dsimp only; rw [List.length_drop]; omega)
      · dsimp only
        rw [hfq]
        conv => lhs; rw [← List.take_append_drop n q, ← hcc, fedT_append, hfc]
      · have hsm : ∀ x ∈ T.s :: Mq.blk, x ∈ t :: T.s :: M.blk ∨ w.heap.size ≤ x := by
          intro x hx
          rcases List.mem_cons.1 hx with rfl | hx
          · exact .inl (by simp)
          · exact (hbq' x hx).imp (fun h => by simp [h]) id
        exact ((hcq.trans (show Chg [t] wq w1 from hc1.low_drew) (by simp)).trans hc2 (by simp)).trans hc3 hsm
    · have hq0 := nil_or q g2
      subst hq0
      rw [fedT_nil _ _ hAq.dk] at hfq
      have e1 : (i : Int) + 1 = ((i + 1 : Nat) : Int) := by omega
      simp -dsimp (disch := first | omega | (simp only [go_sem, seval]; first | done | omega)) only [go_sem, seval, e1]
      refine hn (i + 1, Mq, kq, Eq) _ ⟨by dsimp only; omega, hAq, ?_, hbq', hcq⟩ (by dsimp only; omega)
      dsimp only
      rw [take_next hi', ← hp]
      unfold fedAll at hst ⊢
      rw [List.foldl_append, ← hst]
      exact hfq.symm
  · have hil : i = l.length := by omega
    subst hil
    rw [List.take_length] at hst
    have hbi := hA.hb
    simp -dsimp (disch := first | omega | (simp only [go_sem, seval]; first | done | omega)) only [go_sem, seval, hbi]
    have hc0 : Chg [] wi wi.drew := (Chg.refl _ _).drew
    have hA0 := hA.chg0 hc0
    have ok := hA0.scr.ok
    have hz := hc.size
    refine OpX.call screen_Screen_Gone_b rfl (Calls.ret (sgone_c hA0.scr.at_ ok.w0) ?_)
    rintro v w1 ⟨rfl, hS1, hc1⟩
    have hN1 := hA0.scr.gone hS1
    have hth := hA0.t_h
    have hts := hA0.t_s
    have hsh := hA0.s_h
    have hb1 := hc1.keep hA0.hb (fun hm => hts (by simp at hm; simp [hm]))
    have hH1 : HAt w1 T.h G := hA0.his.chg hc1 (fun x hx hm => hsh T.s (by simp) (by simp at hm; subst hm; exact hx)) (fun r hr b o ha hne hm => hA0.rows_s r hr b o ha hne (by simp at hm; simp [hm]))
    have hrows : ∀ r ∈ Mi.rows, SxC w1 (some 70) r.a r.cs := fun r hr => (hA0.scr.at_.rows r hr).chg hc1 fun b o ha hne => by simp; exact (hA0.scr.at_.row_ne r hr b o ha hne).1
    have hown : Ox 0 w1 36 1 Rw.f Mi.gv Mi.rows := hA0.scr.at_.own.chg hc1 fun b hb hm => by
      simp at hm; subst hm
      exact hA0.scr.at_.s_own (by simp [← hb])
    obtain ⟨ga, gc, hgv, -, hsg, -, -⟩ := hown.form
    have hgl : Mi.rows.length ≤ 500 := by
      have := ok.gl
      rw [hA0.scr.at_.gone] at this
      simpa using this
    have hgr : ∀ r ∈ Mi.rows, right r.cs = true ∧ r.cs.length = W := by
      intro r hr
      have hm : r.cs ∈ Mi.S.gone := by rw [hA0.scr.at_.gone]; exact List.mem_map.2 ⟨r, hr, rfl⟩
      exact ⟨(ok.gr _ hm).1, hA0.scr.gw _ hm⟩
    have hW : W ≤ 200 := by have := ok.w1; rw [hA0.scr.w] at this; exact this
    have hab : ∀ b o, ga = some ⟨b, o, none⟩ → b ∉ T.h :: G.blk := fun b o hb hm => hsh b (by simp only [Scm.blk]; rw [hgv, hb]; simp [Value.ownBlock]) hm
    rw [hgv]
    simp -dsimp (disch := first | omega | (simp only [go_sem, seval]; first | done | omega)) only [go_sem, seval, hb1]
    refine OpX.call history_History_Push_b rfl (Calls.ret (push2_c hH1 hsg hab hrows (fun r hr => by rw [(hgr r hr).2]; omega) (by omega) gc) ?_)
    rintro v w2 ⟨G', hG', hroom, hlist, hc2, hblk, hall⟩
    have hz1 : wi.heap.size ≤ w1.heap.size := hc1.size
    have hc12 : Chg (t :: T.s :: M.blk ++ T.h :: G.blk) w w2 := by
      refine ((hc.trans0 hc0).trans hc1 (by simp)).mono (F' := t :: T.s :: M.blk ++ T.h :: G.blk) (fun x hx => .inl (by simp at hx ⊢; rcases hx with h | h | h <;> simp [h])) |>.trans hc2 (fun x hx => .inl (by simp at hx ⊢; rcases hx with h | h <;> simp [h]))
    have hgone : Mi.rows.map Rw.cs = Mi.S.gone := hA0.scr.at_.gone.symm
    have hS' : (Mi.S, k, E) = fedAll (M.S, T.kept, T.E) l := hst
    have hs1 : Mi.S = (fedAll (M.S, T.kept, T.E) l).1 := congrArg Prod.fst hS'
    refine hK _ _ ⟨{ Mi with S := { Mi.S with gone := [] }, gv := .slice none 0 0, rows := [] }, G', k, E, ?_, ?_, hroom, ?_, hc12, rfl, ?_⟩
    · have hsub : ∀ x ∈ T.s :: ({ Mi with S := { Mi.S with gone := [] }, gv := .slice none 0 0, rows := [] } : Scm).blk, x ∈ T.s :: Mi.blk := fun x hx => by
        simp [Scm.blk, Value.ownBlock] at hx ⊢
        rcases hx with h | h | h <;> simp [h]
      have hS2 := hS1.chg hc2 (fun x hx hm => hsh x (hsub x hx) hm) (by simp)
      refine ⟨hc2.keep hb1 hth, ⟨hS2, hN1.ok, hN1.w, hN1.h, hN1.gw, hN1.lo⟩, hG', hA0.eok, hA0.kl, hA0.dk, fun x hx => ?_, by simp [Value.ownBlock], fun r hr b o ha hne => ?_, fun y hy => ?_⟩
      · simp only [List.mem_cons] at hx
        rcases hx with rfl | rfl | hx
        · exact hA0.lo _ (by simp)
        · exact hA0.lo _ (by simp)
        · rcases hblk x hx with h | h
          · exact hA0.lo _ (by simp [h])
          · omega
      · rcases hall r hr with h | h
        · exact hA0.far r h b o ha hne
        · have := h b o ha hne
          have l0 := hS1.lt Mi.b0 (by simp [Scm.blk])
          have l1 := hS1.lt Mi.b1 (by simp [Scm.blk])
          exact ⟨by show b ≠ Mi.b0; omega, by show b ≠ Mi.b1; omega⟩
      · rw [hlist] at hy
        rcases pushAll_mem hy with h | ⟨z, hz, rfl⟩
        · exact hA0.rw y h
        · obtain ⟨r, hr, rfl⟩ := List.mem_map.1 hz
          rw [mend_len, (hgr r hr).2]
    · rw [← hS']
    · rw [hlist, hgone, hs1]
    · rintro x (rfl | rfl | hx | rfl | hx | ⟨r, hr, hne, o, ha⟩)
      · exact .inl (.inl rfl)
      · exact .inl (.inr (.inl rfl))
      · have hx' : x ∈ Mi.blk := by
          simp [Scm.blk, Value.ownBlock] at hx ⊢
          rcases hx with h | h <;> simp [h]
        exact (hbk x hx').imp (fun h => .inr (.inr (.inl h))) id
      · exact .inl (.inr (.inr (.inr (.inl rfl))))
      · rcases hblk x hx with h | h
        · exact .inl (.inr (.inr (.inr (.inr (.inl h)))))
        · exact .inr (by omega)
      · rcases hall r hr with h | h
        · exact .inl (.inr (.inr (.inr (.inr (.inr ⟨r, h, hne, o, ha⟩)))))
        · have := h x o ha hne
          exact .inr (by omega)
end Go.Proofs.YtjfembffjjijaaaGreat
namespace Lyc
open Go
def Scr.rs0 (S : Scr) (w h : Nat) : Scr := { S with w := w, h := h, top := 0, fin := h }
def Scr.rsG (S : Scr) (a : Bool) : Scr :=
  bif a then { S with g1 := S.g1.resize S.w S.h Cel.blank, s1 := ⟨clampN S.s1.x S.w, clampN S.s1.y S.h, S.s1.pen⟩ }
  else { S with g0 := S.g0.resize S.w S.h Cel.blank, s0 := ⟨clampN S.s0.x S.w, clampN S.s0.y S.h, S.s0.pen⟩ }
def Scr.stage (S : Scr) (w h : Nat) : Nat → Scr
  | 0 => S.rs0 w h
  | 1 => (S.rs0 w h).rsG false
  | _ => ((S.rs0 w h).rsG false).rsG true
end Lyc
namespace Go.Proofs.YtjfembffjjijaaaGreat
open Lyc Go
theorem sdo_nil (w : World) (v : Value) : Calls Tryz.prog 12 #[.pointer none, v] w (retK fun _ w' => Chg [] w w') := by
  apply screen_Screen_Do_link
  intro K hK
  unfold screen_Screen_Do
  refine OpX.call screen_Screen_none_b rfl (Calls.ret (snone_nil w) ?_)
  rintro v w1 ⟨rfl, rfl⟩
  simp -dsimp (disch := first | omega | (simp only [go_sem, seval]; first | done | omega)) only [go_sem, seval]
  exact hK _ _ (Chg.refl _ _)
theorem sgrid_nil (w : World) : Calls Tryz.prog 13 #[.pointer none] w (retK fun v w' => v = noGrid ∧ Chg [] w w') := by
  apply screen_Screen_Grid_link
  intro K hK
  unfold screen_Screen_Grid
  simp -dsimp (disch := first | omega | (simp only [go_sem, seval]; first | done | omega)) only [go_sem, seval]
  refine OpX.call screen_Screen_none_b rfl (Calls.ret (snone_nil _) ?_)
  rintro v w1 ⟨rfl, rfl⟩
  simp -dsimp (disch := first | omega | (simp only [go_sem, seval]; first | done | omega)) only [go_sem, seval]
  exact hK _ _ ⟨rfl, by (repeat (first | exact Chg.refl _ _ | apply Chg.drew | apply Chg.alloc | (refine Chg.set ?_ _ _ (by first | (left; simp; done) | (right; omega)))))⟩
theorem sresize_nil (w : World) (x y : Value) : Calls Tryz.prog 61 #[.pointer none, x, y] w (retK fun v w' => v = .bool false ∧ Chg [] w w') := by
  apply screen_Screen_Resize_link
  intro K hK
  unfold screen_Screen_Resize
  refine Join1.cut (fun v w' => v = .bool true ∧ w' = w) ?_ ?_
  · refine OpX.call screen_Screen_none_b rfl (Calls.ret (snone_nil w) ?_)
    rintro v w1 ⟨rfl, rfl⟩
    simp -dsimp (disch := first | omega | (simp only [go_sem, seval]; first | done | omega)) only [go_sem, seval]
  rintro v w1 ⟨rfl, rfl⟩
  simp -dsimp (disch := first | omega | (simp only [go_sem, seval]; first | done | omega)) only [go_sem, seval]
  exact hK _ _ ⟨rfl, Chg.refl _ _⟩
theorem sgone_nil (w : World) : Calls Tryz.prog 16 #[.pointer none] w (retK fun v w' => v = .slice none 0 0 ∧ Chg [] w w') := by
  apply screen_Screen_Gone_link
  intro K hK
  unfold screen_Screen_Gone
  refine OpX.call screen_Screen_none_b rfl (Calls.ret (snone_nil w) ?_)
  rintro v w1 ⟨rfl, rfl⟩
  simp -dsimp (disch := first | omega | (simp only [go_sem, seval]; first | done | omega)) only [go_sem, seval]
  exact hK _ _ ⟨rfl, Chg.refl _ _⟩
theorem sresize_bad {w : World} {s : Nat} {M : Scm} (h : SAt w s M) (hw : 0 < M.S.w) (x y : Int) (hf : fitsG x y = false) : Calls Tryz.prog 61 #[.pointer (some ⟨s, 0, none⟩), .int .i64 x, .int .i64 y] w (retK fun v w' => v = .bool false ∧ Chg [] w w') := by
  apply screen_Screen_Resize_link
  intro K hK
  unfold screen_Screen_Resize
  refine Join1.cut (fun v w' => v = .bool true ∧ Chg [] w w') ?_ ?_
  · refine OpX.call screen_Screen_none_b rfl (Calls.ret (snone_c h hw) ?_)
    rintro v w1 ⟨rfl, rfl⟩
    simp -dsimp (disch := first | omega | (simp only [go_sem, seval]; first | done | omega)) only [go_sem, seval]
    refine OpX.call grid_New_b rfl (Calls.ret (gnew_bad w x y hf) ?_)
    rintro v w1 ⟨rfl, hc1⟩
    simp -dsimp (disch := first | omega | (simp only [go_sem, seval]; first | done | omega)) only [go_sem, seval, noGrid]
    refine OpX.call grid_Check_b rfl (Calls.ret (gcheck_bad _) ?_)
    rintro v w2 ⟨rfl, hc2⟩
    simp -dsimp (disch := first | omega | (simp only [go_sem, seval]; first | done | omega)) only [go_sem, seval]
    exact hc1.trans0 hc2
  rintro v w1 ⟨rfl, hc⟩
  simp -dsimp (disch := first | omega | (simp only [go_sem, seval]; first | done | omega)) only [go_sem, seval]
  exact hK _ _ ⟨rfl, hc⟩
def Scm.setG (M : Scm) (a : Bool) (G : Gr) (b c : Nat) (p : List Value) : Scm :=
  bif a then { M with S := { M.S with g1 := G }, b1 := b, c1 := c, p1 := p } else { M with S := { M.S with g0 := G }, b0 := b, c0 := c, p0 := p }
theorem SAt.newG {w w' : World} {s : Nat} {M : Scm} (a : Bool) (h : SAt w s M) (hc : Chg [] w w') {G : Gr} {nb cap : Nat} {sp : List Value} (k : G.cs.length ≤ cap) (hn : w.heap.size ≤ nb) (hb : w'.heap[nb]? = some (.cells (G.cs.flatMap Cel.cells ++ sp).toArray 70)) :
    SAt (setBlk w' s (M.setG a G nb cap sp).obj) s (M.setG a G nb cap sp) ∧ Chg (s :: M.blk) w (setBlk w' s (M.setG a G nb cap sp).obj) ∧ ∀ b ∈ (M.setG a G nb cap sp).blk, b ∈ M.blk ∨ w.heap.size ≤ b := by
  have h' := h.chg0 hc
  have hs := h'.s_ne
  have hl := h.lt
  have hls := lt_of_heap h'.hb
  have hlt0 := hl M.b0 (by simp [Scm.blk])
  have hlt1 := hl M.b1 (by simp [Scm.blk])
  have hlts := hl s (by simp)
  have hc2 : Chg [s] w' (setBlk w' s (M.setG a G nb cap sp).obj) := (Chg.refl _ _).set _ _ (by simp)
  have hown := h'.own.chg hc2 fun b hb hm => by
    simp at hm; subst hm
    exact h'.s_own (by simp [← hb])
  have hrows : ∀ r ∈ M.rows, SxC (setBlk w' s (M.setG a G nb cap sp).obj) (some 70) r.a r.cs := fun r hr => (h'.rows r hr).chg hc2 fun b o ha hne => by simp; exact (h'.row_ne r hr b o ha hne).1
  have hself : (setBlk w' s (M.setG a G nb cap sp).obj).heap[s]? = some (M.setG a G nb cap sp).obj := heap_set_same _ _ _ _ rfl hls
  have hk0 := hc2.keep h'.h0 (by simp; omega)
  have hk1 := hc2.keep h'.h1 (by simp; omega)
  have hkn := hc2.keep hb (by simp; omega)
  have hch : Chg (s :: M.blk) w (setBlk w' s (M.setG a G nb cap sp).obj) := (hc.mono (by simp)).trans hc2 (by simp)
  clear hc2
  generalize setBlk w' s (M.setG a G nb cap sp).obj = w2 at hself hk0 hk1 hkn hown hrows hch ⊢
  refine ⟨?_, hch, ?_⟩
  · cases a with
    | true => exact ⟨hself, hk0, h'.k0, hkn, k, by show M.b0 ≠ nb; omega, h'.tl, hown, hrows, fun r hr b o hx hne => ⟨(h'.far r hr b o hx hne).1, by have := h.row_lt r hr b o hx hne; show b ≠ nb; omega⟩, h'.gone⟩
    | false => exact ⟨hself, hkn, k, hk1, h'.k1, by show nb ≠ M.b1; omega, h'.tl, hown, hrows, fun r hr b o hx hne => ⟨by have := h.row_lt r hr b o hx hne; show b ≠ nb; omega, (h'.far r hr b o hx hne).2⟩, h'.gone⟩
  · intro b hbb
    cases a <;> simp [Scm.setG, Scm.blk] at hbb ⊢ <;> rcases hbb with rfl | rfl | hbb <;> first | (right; omega) | simp_all
theorem SAt.g0_s {w : World} {s : Nat} {M : Scm} (h : SAt w s M) : SxC w (some 70) (some ⟨M.b0, 0, none⟩) M.S.g0.cs := ⟨fun _ => ⟨M.b0, 0, _, _, _, [], M.p0, rfl, h.h0, by simp [tagOk], by simp, rfl⟩⟩
theorem SAt.g1_s {w : World} {s : Nat} {M : Scm} (h : SAt w s M) : SxC w (some 70) (some ⟨M.b1, 0, none⟩) M.S.g1.cs := ⟨fun _ => ⟨M.b1, 0, _, _, _, [], M.p1, rfl, h.h1, by simp [tagOk], by simp, rfl⟩⟩
theorem smove2_c {w : World} {s : Nat} {M : Scm} (h : SAt w s M) (w0 : 0 < M.S.w) (h0 : 0 < M.S.h) (w1 : M.S.w ≤ 200) (h1' : M.S.h ≤ 60) (x y : Int) : Calls Tryz.prog 98 #[.pointer (some ⟨s, 0, none⟩), .int .i64 x, .int .i64 y] w
    (retK fun _ w' => Did w s M w' (M.S.move x y)) := by
  have tl := h.tl
  apply screen_Screen_move_link
  intro K hK
  unfold screen_Screen_move
  refine OpX.call screen_Screen_within_b rfl (Calls.ret (swithin_c h w1 h1' x y) ?_)
  rintro v w1 ⟨rfl, hc1⟩
  have h1 := h.chg0 hc1
  have hb := h1.hb
  have hl := lt_of_heap hb
  have e1 : min (max x 0) ((M.S.w : Int) - 1) = ((clampN x M.S.w : Nat) : Int) := by unfold clampN; omega
  have e2 : min (max y 0) ((M.S.h : Int) - 1) = ((clampN y M.S.h : Nat) : Int) := by unfold clampN; omega
  rw [e1, e2]
  simp -dsimp (disch := first | omega | (simp only [go_sem, seval]; first | done | omega)) only [go_sem, seval, hb]
  exact hK _ _ (Did.set h1 (hc1.mono (by simp)) (fun b hb => .inl hb) _ rfl rfl tl rfl)
theorem sresize_c {w : World} {s : Nat} {M : Scm} (h : SAt w s M) (ok : M.S.ok) (W H : Nat) (W0 : 0 < W) (W1 : W ≤ 200) (H0 : 0 < H) (H1 : H ≤ 60) : Calls Tryz.prog 61 #[.pointer (some ⟨s, 0, none⟩), .int .i64 W, .int .i64 H] w
    (retK fun v w' => v = .bool true ∧ Did w s M w' (M.S.resize W H)) := by
  have hf : fitsG W H = true := by unfold fitsG; simp; omega
  have hb := h.hb
  have hls := lt_of_heap hb
  have tl := h.tl
  apply screen_Screen_Resize_link
  intro K hK
  unfold screen_Screen_Resize
  refine Join1.cut (fun v w' => v = .bool false ∧ Chg [] w w') ?_ ?_
  · refine OpX.call screen_Screen_none_b rfl (Calls.ret (snone_c h ok.w0) ?_)
    rintro v w1 ⟨rfl, rfl⟩
    simp -dsimp (disch := first | omega | (simp only [go_sem, seval]; first | done | omega)) only [go_sem, seval]
    refine OpX.call grid_New_b rfl (Calls.ret (gnew_c w W H W0 W1 H0 H1) ?_)
    rintro v w1 ⟨hg, hc1⟩
    obtain ⟨nb, cap, rfl, q1, q2, q3, q4⟩ := hg.sx
    simp -dsimp (disch := first | omega | (simp only [go_sem, seval]; first | done | omega)) only [go_sem, seval, Gr.val]
    have hfit := Gr.fit_plain W0 W1 H0 H1
    refine OpX.call grid_Check_b rfl (Calls.ret (gcheck_c hfit.ok q4 cap q1) ?_)
    rintro v w3 ⟨rfl, hc3⟩
    simp -dsimp (disch := first | omega | (simp only [go_sem, seval]; first | done | omega)) only [go_sem, seval, hfit.r]
    exact hc1.trans0 hc3
  rintro v w1 ⟨rfl, hc1⟩
  have h1 := h.chg0 hc1
  have hb1 := h1.hb
  have hl1 := lt_of_heap hb1
  simp -dsimp (disch := first | omega | (simp only [go_sem, seval]; first | done | omega)) only [go_sem, seval, hb1]
  have hA0 := h1.set (M.S.rs0 W H) rfl rfl tl rfl
  have hc0 : Chg (s :: M.blk) w (setBlk w1 s ({ M with S := M.S.rs0 W H } : Scm).obj) := (hc1.mono (by simp)).set _ _ (.inl (by simp))
  refine Loop1.st (fun q : Nat × Scm => .int .i64 (q.1 : Int)) (fun q w' => q.1 ≤ 2 ∧ SAt w' s q.2 ∧ Chg (s :: M.blk) w w' ∧ (∀ b ∈ q.2.blk, b ∈ M.blk ∨ w.heap.size ≤ b) ∧ q.2.S = M.S.stage W H q.1) (fun q => 2 - q.1) (0, { M with S := M.S.rs0 W H }) rfl ⟨by simp, hA0, hc0, fun b hb => .inl hb, rfl⟩ ?_
  rintro next ⟨i, N⟩ w2 hnx ⟨hi, hN, hc, hbl, hS⟩
  dsimp only at hi hN hc hbl hS ⊢
  by_cases hi2 : i < 2
  · rcases (show i = 0 ∨ i = 1 by omega) with hi0 | hi0
    · have hi0 : i = 0 := by omega
      subst hi0
      dsimp only [Scr.stage] at hS
      have hN2 := hN.chg0 (show Chg [] w2 w2.drew from (Chg.refl _ _).drew)
      have hb2 := hN.hb
      have hw : N.S.w = W := by rw [hS]; rfl
      have hh : N.S.h = H := by rw [hS]; rfl
      have hfit : N.S.g0.fit M.S.w M.S.h := by rw [hS]; exact ok.g0
      have tlN := hN.tl
      simp -dsimp (disch := first | omega | (simp only [go_sem, seval]; first | done | omega)) only [go_sem, seval, hb2]
      refine OpX.call cell_Blank_b rfl (Calls.ret (cblank_c _) ?_)
      rintro v w3 ⟨rfl, hc3⟩
      have hN3 := hN2.chg0 hc3
      have hb3 := hN3.hb
      simp -dsimp (disch := first | omega | (simp only [go_sem, seval]; first | done | omega)) only [go_sem, seval, hb3]
      refine OpX.call grid_Resize_b rfl (Calls.ret (gresize_c hfit.ok hfit.r hN3.g0_s N.c0 hN3.k0 (by decide) W0 W1 H0 H1) ?_)
      rintro v w4 ⟨⟨nb, cp, sp, rfl, p1, p2, p3⟩, hc4⟩
      have hc24 : Chg [] w2 w4 := (((Chg.refl _ _).drew).trans0 hc3).trans0 hc4
      have hz3 := hc3.size
      have hz3' : w2.heap.size ≤ w3.heap.size := hz3
      obtain ⟨k1, k2, k3⟩ := hN.newG false hc24 p1 (by omega) p3
      have hN4 := hN3.chg0 hc4
      have hb4 := hN4.hb
      have hl4 := lt_of_heap hb4
      have hp := N.wG0 (N.S.g0.resize W H Cel.blank) nb cp sp tlN
      simp -dsimp (disch := first | omega | (simp only [go_sem, seval]; first | done | omega)) only [go_sem, seval, Gr.val, hb4, hp]
      simp only [Scm.setG, cond_true, cond_false] at k1 k2 k3
      obtain ⟨N5, hN5⟩ : ∃ N5 : Scm, N5 = { N with S := { N.S with g0 := N.S.g0.resize W H Cel.blank }, b0 := nb, c0 := cp, p0 := sp } := ⟨_, rfl⟩
      rw [← hN5] at k1 k2 k3 ⊢
      have e5 : N5.S = { N.S with g0 := N.S.g0.resize W H Cel.blank } := by rw [hN5]
      clear hN5
      have hb5 := k1.hb
      have tl5 := k1.tl
      have hw5 : N5.S.w = W := by rw [e5]; exact hw
      have hh5 : N5.S.h = H := by rw [e5]; exact hh
      obtain ⟨w5, hw5'⟩ : ∃ w5, w5 = setBlk w4 s N5.obj := ⟨_, rfl⟩
      rw [← hw5'] at k1 k2 hb5 ⊢
      clear hw5'
      have hc5 := hc.trans k2 (fun x hx => by
        rcases List.mem_cons.1 hx with rfl | hx
        · exact .inl (by simp)
        · exact (hbl x hx).imp (fun h => by simp [h]) id)
      have hz := hc.size
      (try simp -dsimp (disch := first | omega | (simp only [go_sem, seval]; first | done | omega)) only [go_sem, seval, hb5])
      refine OpX.call screen_Screen_within_b rfl (Calls.ret (swithin_c (k1.chg0 (Chg.refl _ _).drew) (by omega) (by omega) _ _) ?_)
      rintro v w6 ⟨rfl, hc6⟩
      have hN6 := k1.chg0 (((Chg.refl _ _).drew).trans0 hc6)
      have hb6 := hN6.hb
      have hl6 := lt_of_heap hb6
      have x1 : min (max (N.S.s0.x : Int) 0) ((N5.S.w : Int) - 1) = ((clampN N.S.s0.x W : Nat) : Int) := by rw [hw5]; unfold clampN; omega
      have x2 : min (max (N.S.s0.y : Int) 0) ((N5.S.h : Int) - 1) = ((clampN N.S.s0.y H : Nat) : Int) := by rw [hh5]; unfold clampN; omega
      rw [x1, x2]
      simp -dsimp (disch := first | omega | (simp only [go_sem, seval]; first | done | omega)) only [go_sem, seval, hb6]
      have hc6' := hc5.trans0 (((Chg.refl _ _).drew).trans0 hc6)
      have kS := hN6.set { N5.S with s0 := ⟨clampN N.S.s0.x W, clampN N.S.s0.y H, N5.S.s0.pen⟩ } rfl rfl tl5 rfl
      refine hnx (1, { N5 with S := { N5.S with s0 := ⟨clampN N.S.s0.x W, clampN N.S.s0.y H, N5.S.s0.pen⟩ } }) _ ⟨by dsimp only; omega, kS, hc6'.set _ _ (.inl (by simp)), fun b hb => ?_, ?_⟩ (by dsimp only; omega)
      · rcases k3 b hb with h | h
        · exact hbl b h
        · exact .inr (by omega)
      · dsimp only [Scr.stage]
        rw [e5, hS]
        rfl
    · have hi0 : i = 1 := by omega
      subst hi0
      dsimp only [Scr.stage] at hS
      have hN2 := hN.chg0 (show Chg [] w2 w2.drew from (Chg.refl _ _).drew)
      have hb2 := hN.hb
      have hw : N.S.w = W := by rw [hS]; rfl
      have hh : N.S.h = H := by rw [hS]; rfl
      have hfit : N.S.g1.fit M.S.w M.S.h := by rw [hS]; exact ok.g1
      have tlN := hN.tl
      simp -dsimp (disch := first | omega | (simp only [go_sem, seval]; first | done | omega)) only [go_sem, seval, hb2]
      refine OpX.call cell_Blank_b rfl (Calls.ret (cblank_c _) ?_)
      rintro v w3 ⟨rfl, hc3⟩
      have hN3 := hN2.chg0 hc3
      have hb3 := hN3.hb
      simp -dsimp (disch := first | omega | (simp only [go_sem, seval]; first | done | omega)) only [go_sem, seval, hb3]
      refine OpX.call grid_Resize_b rfl (Calls.ret (gresize_c hfit.ok hfit.r hN3.g1_s N.c1 hN3.k1 (by decide) W0 W1 H0 H1) ?_)
      rintro v w4 ⟨⟨nb, cp, sp, rfl, p1, p2, p3⟩, hc4⟩
      have hc24 : Chg [] w2 w4 := (((Chg.refl _ _).drew).trans0 hc3).trans0 hc4
      have hz3 := hc3.size
      have hz3' : w2.heap.size ≤ w3.heap.size := hz3
      obtain ⟨k1, k2, k3⟩ := hN.newG true hc24 p1 (by omega) p3
      have hN4 := hN3.chg0 hc4
      have hb4 := hN4.hb
      have hl4 := lt_of_heap hb4
      have hp := N.wG1 (N.S.g1.resize W H Cel.blank) nb cp sp tlN
      simp -dsimp (disch := first | omega | (simp only [go_sem, seval]; first | done | omega)) only [go_sem, seval, Gr.val, hb4, hp]
      simp only [Scm.setG, cond_true, cond_false] at k1 k2 k3
      obtain ⟨N5, hN5⟩ : ∃ N5 : Scm, N5 = { N with S := { N.S with g1 := N.S.g1.resize W H Cel.blank }, b1 := nb, c1 := cp, p1 := sp } := ⟨_, rfl⟩
      rw [← hN5] at k1 k2 k3 ⊢
      have e5 : N5.S = { N.S with g1 := N.S.g1.resize W H Cel.blank } := by rw [hN5]
      clear hN5
      have hb5 := k1.hb
      have tl5 := k1.tl
      have hw5 : N5.S.w = W := by rw [e5]; exact hw
      have hh5 : N5.S.h = H := by rw [e5]; exact hh
      obtain ⟨w5, hw5'⟩ : ∃ w5, w5 = setBlk w4 s N5.obj := ⟨_, rfl⟩
      rw [← hw5'] at k1 k2 hb5 ⊢
      clear hw5'
      have hc5 := hc.trans k2 (fun x hx => by
        rcases List.mem_cons.1 hx with rfl | hx
        · exact .inl (by simp)
        · exact (hbl x hx).imp (fun h => by simp [h]) id)
      have hz := hc.size
      (try simp -dsimp (disch := first | omega | (simp only [go_sem, seval]; first | done | omega)) only [go_sem, seval, hb5])
      refine OpX.call screen_Screen_within_b rfl (Calls.ret (swithin_c (k1.chg0 (Chg.refl _ _).drew) (by omega) (by omega) _ _) ?_)
      rintro v w6 ⟨rfl, hc6⟩
      have hN6 := k1.chg0 (((Chg.refl _ _).drew).trans0 hc6)
      have hb6 := hN6.hb
      have hl6 := lt_of_heap hb6
      have x1 : min (max (N.S.s1.x : Int) 0) ((N5.S.w : Int) - 1) = ((clampN N.S.s1.x W : Nat) : Int) := by rw [hw5]; unfold clampN; omega
      have x2 : min (max (N.S.s1.y : Int) 0) ((N5.S.h : Int) - 1) = ((clampN N.S.s1.y H : Nat) : Int) := by rw [hh5]; unfold clampN; omega
      rw [x1, x2]
      simp -dsimp (disch := first | omega | (simp only [go_sem, seval]; first | done | omega)) only [go_sem, seval, hb6]
      have hc6' := hc5.trans0 (((Chg.refl _ _).drew).trans0 hc6)
      have kS := hN6.set { N5.S with s1 := ⟨clampN N.S.s1.x W, clampN N.S.s1.y H, N5.S.s1.pen⟩ } rfl rfl tl5 rfl
      refine hnx (2, { N5 with S := { N5.S with s1 := ⟨clampN N.S.s1.x W, clampN N.S.s1.y H, N5.S.s1.pen⟩ } }) _ ⟨by dsimp only; omega, kS, hc6'.set _ _ (.inl (by simp)), fun b hb => ?_, ?_⟩ (by dsimp only; omega)
      · rcases k3 b hb with h | h
        · exact hbl b h
        · exact .inr (by omega)
      · dsimp only [Scr.stage]
        rw [e5, hS]
        rfl
  · have hi0 : i = 2 := by omega
    subst hi0
    dsimp only [Scr.stage] at hS
    have hb2 := hN.hb
    have hl2 := lt_of_heap hb2
    have hw : N.S.w = W := by rw [hS]; rfl
    have hh : N.S.h = H := by rw [hS]; rfl
    simp -dsimp (disch := first | omega | (simp only [go_sem, seval]; first | done | omega)) only [go_sem, seval, hb2]
    refine OpX.call screen_Screen_move_b rfl (Calls.ret (smove2_c (hN.chg0 (show Chg [] w2 w2.drew from (Chg.refl _ _).drew)) (by omega) (by omega) (by omega) (by omega) N.S.now.x N.S.now.y) ?_)
    rintro v w3 ⟨N3, hN3, hS3, hc3, hbl3⟩
    have hb3 := hN3.hb
    have hl3 := lt_of_heap hb3
    have tl3 := hN3.tl
    simp -dsimp (disch := first | omega | (simp only [go_sem, seval]; first | done | omega)) only [go_sem, seval, hb3]
    have hz := hc.size
    refine hK _ _ ⟨rfl, _, hN3.set { N3.S with waits := false } rfl rfl tl3 rfl, ?_, ?_, fun b hb => ?_⟩
    · show { N3.S with waits := false } = _
      rw [hS3, hS]
      unfold Scr.move
      rw [← hS, hw, hh, hS]
      rfl
    · refine (hc.trans hc3.low_drew fun x hx => ?_).set _ _ (.inl (by simp))
      rcases List.mem_cons.1 hx with rfl | hx
      · exact .inl (by simp)
      · exact (hbl x hx).imp (fun h => by simp [h]) id
    · rcases hbl3 b hb with h | h
      · exact hbl b h
      · have h' : w2.heap.size ≤ b := h
        exact .inr (by omega)
end Go.Proofs.YtjfembffjjijaaaGreat
namespace Go.Proofs.YtjfembffjjijaaaGreat
open Lyc Go
theorem tnew_c (w : World) (W H : Nat) (W0 : 0 < W) (W1 : W ≤ 200) (H0 : 0 < H) (H1 : H ≤ 60) (room : Int) : Calls Tryz.prog 20 #[.int .i64 W, .int .i64 H, .int .i64 room] w
    (retK fun v w' => ∃ t s h M G, v = .pointer (some ⟨t, 0, none⟩) ∧ TmAt w.heap.size w' t W H ⟨s, h, [], Esc.new⟩ M G ∧ M.S = Scr.new W H ∧ G.list = [] ∧ G.room = (min (max room 0) 500).toNat ∧ Chg [] w w' ∧ (∀ x, Town t ⟨s, h, [], Esc.new⟩ M G x → w.heap.size ≤ x) ∧ M.rows = []) := by
  apply term_New_link
  intro K hK
  unfold term_New
  refine OpX.call screen_New_b rfl (Calls.ret (snew2_c w W H W0 W1 H0 H1) ?_)
  rintro v w1 ⟨s, M, rfl, hN, hS, hc1⟩
  simp -dsimp (disch := first | omega | (simp only [go_sem, seval]; first | done | omega)) only [go_sem, seval]
  refine OpX.call history_New_b rfl (Calls.ret (hnew_c w1 room) ?_)
  rintro v w2 ⟨G, rfl, hG, hgb, hgl, hgr, hc2⟩
  have hz1 := hc1.size
  have hN2 := hN.chg0 hc2
  have hhl := lt_of_heap hG.hb
  have hall : G.all = [] := by
    have := G.list_len
    rw [hgl] at this
    exact List.eq_nil_of_length_eq_zero this.symm
  simp -dsimp (disch := first | omega | (simp only [go_sem, seval]; first | done | omega)) only [go_sem, seval]
  refine hK _ _ ⟨w2.heap.size, s, w1.heap.size, M, G, rfl, ?_, hS, hgl, hgr, (hc1.trans0 hc2).alloc _, ?_, ?_⟩
  rotate_left
  · rintro x (rfl | rfl | hx | rfl | hx | ⟨r, hr, hne, o, ha⟩)
    · have := hc2.size; omega
    · exact hN.lo _ (by simp)
    · exact hN.lo _ (by simp [hx])
    · exact hz1
    · rw [hgb] at hx; simp at hx
    · rw [hall] at hr; simp at hr
  · have hg := hN.at_.gone
    rw [hS] at hg
    cases hr : M.rows with
    | nil => rfl
    | cons r l => rw [hr] at hg; simp [Scr.new] at hg
  have hc3 := chg_a1 w2 (.cells #[.pointer (some ⟨s, 0, none⟩), .string ⟨#[]⟩, .int .i64 0, .int .u8 0, .int .u8 0, .int .i64 0, .int .i64 0, .int .i64 0, .int .i64 0, .int .i64 0, .int .i64 0, .int .i64 0, .int .i64 0, .int .i64 0, .pointer (some ⟨w1.heap.size, 0, none⟩)] 94)
  refine ⟨Lyc.heap_alloc_new _ _ _ rfl, hN2.chg0 hc3, hG.chg0 hc3, Esc.new_ok, by simp, rfl, fun x hx => ?_, by rw [hgb]; simp, by rw [hall]; simp, by rw [hgl]; simp⟩
  rw [hgb] at hx
  simp at hx
  omega
theorem tnew_bad (w : World) (x y : Int) (hf : fitsG x y = false) (room : Value) : Calls Tryz.prog 20 #[.int .i64 x, .int .i64 y, room] w (retK fun v w' => v = .pointer none ∧ Chg [] w w') := by
  apply term_New_link
  intro K hK
  unfold term_New
  refine OpX.call screen_New_b rfl (Calls.ret (snew_bad w x y hf) ?_)
  rintro v w1 ⟨rfl, hc1⟩
  simp -dsimp (disch := first | omega | (simp only [go_sem, seval]; first | done | omega)) only [go_sem, seval]
  exact hK _ _ ⟨rfl, hc1⟩
section
variable {base : Nat} {w w' : World} {t W H : Nat} {T : Tm} {M : Scm} {G : Hs}
theorem tgrid_c (h : TmAt base w t W H T M G) : Calls Tryz.prog 26 #[.pointer (some ⟨t, 0, none⟩)] w (retK fun v w' => GAt w.heap.size w' v M.S.cur ∧ Chg [] w w') := by
  apply term_Term_Grid_link
  intro K hK
  unfold term_Term_Grid
  simp -dsimp (disch := first | omega | (simp only [go_sem, seval]; first | done | omega)) only [go_sem, seval]
  obtain ⟨w1, hw1⟩ : ∃ w1, w1 = w.alloc (.cells #[.int .i64 0, .int .i64 0, .slice none 0 0] 38) := ⟨_, rfl⟩
  have hc1 : Chg [] w w1 := by rw [hw1]; (repeat (first | exact Chg.refl _ _ | apply Chg.drew | apply Chg.alloc | (refine Chg.set ?_ _ _ (by first | (left; simp; done) | (right; omega)))))
  have ho1 : w1.heap[w.heap.size]? = some (.cells #[.int .i64 0, .int .i64 0, .slice none 0 0] 38) := by rw [hw1]; simp -dsimp (disch := first | omega | (simp only [go_sem, seval]; first | done | omega)) only [go_sem, seval]
  rw [← hw1]
  clear hw1
  have h1 := h.chg0 hc1
  have hb1 := h1.hb
  have hz1 := hc1.size
  simp -dsimp (disch := first | omega | (simp only [go_sem, seval]; first | done | omega)) only [go_sem, seval, hb1]
  refine OpX.call screen_Screen_Grid_b rfl (Calls.ret (sgrid_c h1.scr.at_ h1.scr.ok) ?_)
  rintro v w2 ⟨⟨nb, cp, sp, rfl, p1, p2, p3⟩, hc2⟩
  have ho2 := hc2.keep ho1 (by simp)
  have hl2 := lt_of_heap ho2
  simp -dsimp (disch := first | omega | (simp only [go_sem, seval]; first | done | omega)) only [go_sem, seval, Gr.val, ho2]
  have hlo := lt_of_heap ho1
  have hcs : Chg [w.heap.size] w2 (setBlk w2 w.heap.size (.cells #[.int .i64 M.S.cur.w, .int .i64 M.S.cur.h, .slice (some ⟨nb, 0, none⟩) M.S.cur.cs.length cp] 38)) := (Chg.refl _ _).set _ _ (by simp)
  refine hK _ _ ⟨⟨nb, cp, sp, rfl, p1, by omega, ?_⟩, (hc1.trans0 hc2).trans hcs (by simp)⟩
  exact hcs.keep p3 (by simp; omega)
theorem tcursor_c (h : TmAt base w t W H T M G) : Calls Tryz.prog 27 #[.pointer (some ⟨t, 0, none⟩)] w (retK fun v w' => v = .tuple #[.int .i64 M.S.now.x, .int .i64 M.S.now.y, .bool M.S.shown] ∧ Chg [] w w') := by
  have hb := h.hb
  apply term_Term_Cursor_link
  intro K hK
  unfold term_Term_Cursor
  simp -dsimp (disch := first | omega | (simp only [go_sem, seval]; first | done | omega)) only [go_sem, seval, hb]
  refine OpX.call screen_Screen_Cursor_b rfl (Calls.ret (scursor_c h.scr.at_ h.scr.ok.w0) ?_)
  rintro v w1 ⟨rfl, hc1⟩
  simp -dsimp (disch := first | omega | (simp only [go_sem, seval]; first | done | omega)) only [go_sem, seval]
  exact hK _ _ ⟨rfl, hc1⟩
theorem trows_c (h : TmAt base w t W H T M G) : Calls Tryz.prog 22 #[.pointer (some ⟨t, 0, none⟩)] w (retK fun v w' => v = .int .i64 G.list.length ∧ Chg [] w w') := by
  have hb := h.hb
  apply term_Term_Rows_link
  intro K hK
  unfold term_Term_Rows
  simp -dsimp (disch := first | omega | (simp only [go_sem, seval]; first | done | omega)) only [go_sem, seval, hb]
  refine OpX.call history_History_Len_b rfl (Calls.ret (hlen_c h.his) ?_)
  rintro v w1 ⟨rfl, rfl⟩
  exact hK _ _ ⟨rfl, Chg.refl _ _⟩
def viewOf (S : Scr) (L : List (List Cel)) (back : Int) : Gr := Gr.of S.cur.w S.cur.h (viewRow S.cur L (L.length - min back.toNat L.length))
theorem tview_c (h : TmAt base w t W H T M G) (back : Int) : Calls Tryz.prog 24 #[.pointer (some ⟨t, 0, none⟩), .int .i64 back] w (retK fun v w' => GAt w.heap.size w' v (viewOf M.S G.list back) ∧ Chg [] w w') := by
  apply term_Term_View_link
  intro K hK
  unfold term_Term_View
  simp -dsimp (disch := first | omega | (simp only [go_sem, seval]; first | done | omega)) only [go_sem, seval]
  obtain ⟨w1, hw1⟩ : ∃ w1, w1 = w.alloc (.cells #[.int .i64 0, .int .i64 0, .slice none 0 0] 38) := ⟨_, rfl⟩
  have hc1 : Chg [] w w1 := by rw [hw1]; (repeat (first | exact Chg.refl _ _ | apply Chg.drew | apply Chg.alloc | (refine Chg.set ?_ _ _ (by first | (left; simp; done) | (right; omega)))))
  have ho1 : w1.heap[w.heap.size]? = some (.cells #[.int .i64 0, .int .i64 0, .slice none 0 0] 38) := by rw [hw1]; simp -dsimp (disch := first | omega | (simp only [go_sem, seval]; first | done | omega)) only [go_sem, seval]
  rw [← hw1]
  clear hw1
  have h1 := h.chg0 hc1
  have hb1 := h1.hb
  have hz1 := hc1.size
  simp -dsimp (disch := first | omega | (simp only [go_sem, seval]; first | done | omega)) only [go_sem, seval, hb1]
  have h1' := h1.chg0 (show Chg [] w1 w1.drew from (Chg.refl _ _).drew)
  refine OpX.call term_Term_Grid_b rfl (Calls.ret (tgrid_c h1') ?_)
  rintro v w2 ⟨⟨nb, cp, sp, rfl, p1, p2, p3⟩, hc2⟩
  have hc2' := hc2.low_drew
  have h2 := h1.chg0 hc2'
  have hb2 := h2.hb
  have hg := h2.scr.ok.cur
  have hsG : SxC w2 (some 70) (some ⟨nb, 0, none⟩) M.S.cur.cs := ⟨fun _ => ⟨nb, 0, _, _, _, [], sp, rfl, p3, by simp [tagOk], by simp, rfl⟩⟩
  have hrw : ∀ l ∈ G.list, l.length = M.S.cur.w := fun l hl => by rw [hg.w, h2.scr.w]; exact h2.rw l hl
  simp -dsimp (disch := first | omega | (simp only [go_sem, seval]; first | done | omega)) only [go_sem, seval, hb2]
  refine OpX.call history_History_View_b rfl (Calls.ret (hview_c h2.his hg.ok hg.r hsG cp p1 hrw back) ?_)
  rintro v w3 ⟨⟨nb3, cp3, sp3, rfl, q1, q2, q3⟩, hc3⟩
  have ho3 := hc3.keep (hc2'.keep ho1 (by simp)) (by simp)
  have hl3 := lt_of_heap ho3
  have hz2 := hc2'.size
  simp -dsimp (disch := first | omega | (simp only [go_sem, seval]; first | done | omega)) only [go_sem, seval, Gr.val, ho3]
  have hlo := lt_of_heap ho1
  obtain ⟨V, hV⟩ : ∃ V, V = Gr.of M.S.cur.w M.S.cur.h (viewRow M.S.cur G.list (G.list.length - min back.toNat G.list.length)) := ⟨_, rfl⟩
  rw [← hV] at q1 q3 ⊢
  have hcs : Chg [w.heap.size] w3 (setBlk w3 w.heap.size (.cells #[.int .i64 V.w, .int .i64 V.h, .slice (some ⟨nb3, 0, none⟩) V.cs.length cp3] 38)) := (Chg.refl _ _).set _ _ (by simp)
  refine hK _ _ ⟨⟨nb3, cp3, sp3, ?_, ?_, by omega, ?_⟩, ((hc1.trans0 hc2').trans0 hc3).trans hcs (by simp)⟩
  · rw [viewOf, ← hV]; rfl
  · rw [viewOf, ← hV]; exact q1
  · rw [viewOf, ← hV]; exact hcs.keep q3 (by simp; omega)
theorem twaits_c (h : TmAt base w t W H T M G) : Calls Tryz.prog 29 #[.pointer (some ⟨t, 0, none⟩)] w (retK fun v w' => v = .bool (decide (T.kept ≠ [] ∨ T.E.inn ≠ 0)) ∧ Chg [] w w') := by
  have hb := h.hb
  apply term_Term_Waits_link
  intro K hK
  unfold term_Term_Waits
  have hp : Calls Tryz.prog 58 #[.pointer (some ⟨t, 1, none⟩)] w (retK fun v w' => v = .int .i64 T.kept.length ∧ Chg [] w w') := by
    apply runes_Decoder_Pending_link
    intro K hK
    unfold runes_Decoder_Pending
    simp -dsimp (disch := first | omega | (simp only [go_sem, seval]; first | done | omega)) only [go_sem, seval, hb]
    exact hK _ _ ⟨rfl, Chg.refl _ _⟩
  have hi : ∀ w1, Chg [] w w1 → Calls Tryz.prog 59 #[.pointer (some ⟨t, 2, none⟩)] w1 (retK fun v w' => v = .bool (decide (T.E.inn = 0)) ∧ Chg [] w1 w') := by
    intro w1 hc
    have hb1 := hc.keep hb (by simp)
    apply escape_Parser_Idle_link
    intro K hK
    unfold escape_Parser_Idle
    refine Join1.inl ?_
    simp -dsimp (disch := first | omega | (simp only [go_sem, seval]; first | done | omega)) only [go_sem, seval, hb1]
    exact hK _ _ ⟨rfl, Chg.refl _ _⟩
  simp -dsimp (disch := first | omega | (simp only [go_sem, seval]; first | done | omega)) only [go_sem, seval]
  refine Join1.cut (fun v w' => v = .bool (decide (T.kept ≠ [] ∨ T.E.inn ≠ 0)) ∧ Chg [] w w') ?_ (fun v w' h => hK _ _ h)
  simp -dsimp (disch := first | omega | (simp only [go_sem, seval]; first | done | omega)) only [go_sem, seval]
  refine OpX.call runes_Decoder_Pending_b rfl (Calls.ret (hp) ?_)
  rintro v w1 ⟨rfl, hc1⟩
  simp -dsimp (disch := first | omega | (simp only [go_sem, seval]; first | done | omega)) only [go_sem, seval]
  refine BrW.dec (fun g => ?_) (fun g => ?_)
  · refine ⟨congrArg Value.bool (decide_eq_true (.inl ?_)).symm, hc1⟩
    intro e; rw [e] at g; simp at g
  · have hk := nil_or T.kept g
    simp -dsimp (disch := first | omega | (simp only [go_sem, seval]; first | done | omega)) only [go_sem, seval]
    refine OpX.call escape_Parser_Idle_b rfl (Calls.ret (hi w1 hc1) ?_)
    rintro v w2 ⟨rfl, hc2⟩
    simp -dsimp (disch := first | omega | (simp only [go_sem, seval]; first | done | omega)) only [go_sem, seval]
    exact ⟨congrArg Value.bool (decide_eq_decide.2 ⟨fun h => Or.inr h, fun h => Or.resolve_left h (fun k => k hk)⟩), hc1.trans0 hc2⟩
end
theorem viewRow_ok {g : Gr} (hg : g.ok) (hr : g.right = true) {L : List (List Cel)} (hL : ∀ l ∈ L, l.length = g.w) {n : Nat} (hn : n ≤ L.length) : ∀ y, y < g.h → (viewRow g L n y).length = g.w ∧ Lyc.right (viewRow g L n y) = true := by
  intro y hy
  unfold viewRow
  split
  · rename_i h
    have hm : L.getD (n + y) [] ∈ L := by rw [List.getD_eq_getElem?_getD, List.getElem?_eq_getElem h]; exact List.getElem_mem h
    exact ⟨by rw [mend_len, hL _ hm], right_mend _⟩
  · exact ⟨hg.row_len (by omega), Gr.right.at hr (by omega)⟩
theorem viewOf_ok {S : Scr} (h : S.ok) {L : List (List Cel)} (hL : ∀ l ∈ L, l.length = S.w) (back : Int) : (viewOf S L back).fit S.w S.h := by
  have hc := h.cur
  have hv := viewRow_ok hc.ok hc.r (fun l hl => (hL l hl).trans hc.w.symm) (show L.length - min back.toNat L.length ≤ L.length by omega)
  refine ⟨Gr.of_ok hc.ok.w0 hc.ok.w1 hc.ok.h0 hc.ok.h1 fun y hy => (hv y hy).1, Gr.right_of fun y hy => ?_, hc.w, hc.h⟩
  have hr : (viewOf S L back).row y = viewRow S.cur L (L.length - min back.toNat L.length) y := Gr.of_row (fun y hy => (hv y hy).1) hy
  rw [hr]
  exact (hv y hy).2
theorem twrite_nil (w : World) (v : Value) : Calls Tryz.prog 21 #[.pointer none, v] w (retK fun _ w' => Chg [] w w') := by
  apply term_Term_Write_link
  intro K hK
  unfold term_Term_Write
  simp -dsimp (disch := first | omega | (simp only [go_sem, seval]; first | done | omega)) only [go_sem, seval]
  exact hK _ _ (Chg.refl _ _)
theorem tgrid_nil (w : World) : Calls Tryz.prog 26 #[.pointer none] w (retK fun v w' => v = noGrid ∧ Chg [] w w') := by
  apply term_Term_Grid_link
  intro K hK
  unfold term_Term_Grid
  simp -dsimp (disch := first | omega | (simp only [go_sem, seval]; first | done | omega)) only [go_sem, seval]
  exact hK _ _ ⟨rfl, by (repeat (first | exact Chg.refl _ _ | apply Chg.drew | apply Chg.alloc | (refine Chg.set ?_ _ _ (by first | (left; simp; done) | (right; omega)))))⟩
theorem tview_nil (w : World) (v : Value) : Calls Tryz.prog 24 #[.pointer none, v] w (retK fun v w' => v = noGrid ∧ Chg [] w w') := by
  apply term_Term_View_link
  intro K hK
  unfold term_Term_View
  simp -dsimp (disch := first | omega | (simp only [go_sem, seval]; first | done | omega)) only [go_sem, seval]
  exact hK _ _ ⟨rfl, by (repeat (first | exact Chg.refl _ _ | apply Chg.drew | apply Chg.alloc | (refine Chg.set ?_ _ _ (by first | (left; simp; done) | (right; omega)))))⟩
theorem tcursor_nil (w : World) : Calls Tryz.prog 27 #[.pointer none] w (retK fun v w' => v = .tuple #[.int .i64 0, .int .i64 0, .bool false] ∧ Chg [] w w') := by
  apply term_Term_Cursor_link
  intro K hK
  unfold term_Term_Cursor
  simp -dsimp (disch := first | omega | (simp only [go_sem, seval]; first | done | omega)) only [go_sem, seval]
  exact hK _ _ ⟨rfl, Chg.refl _ _⟩
theorem trows_nil (w : World) : Calls Tryz.prog 22 #[.pointer none] w (retK fun v w' => v = .int .i64 0 ∧ Chg [] w w') := by
  apply term_Term_Rows_link
  intro K hK
  unfold term_Term_Rows
  simp -dsimp (disch := first | omega | (simp only [go_sem, seval]; first | done | omega)) only [go_sem, seval]
  exact hK _ _ ⟨rfl, Chg.refl _ _⟩
theorem twaits_nil (w : World) : Calls Tryz.prog 29 #[.pointer none] w (retK fun v w' => v = .bool false ∧ Chg [] w w') := by
  apply term_Term_Waits_link
  intro K hK
  unfold term_Term_Waits
  simp -dsimp (disch := first | omega | (simp only [go_sem, seval]; first | done | omega)) only [go_sem, seval]
  exact hK _ _ ⟨rfl, Chg.refl _ _⟩
theorem tresize_nil (w : World) (x y : Value) : Calls Tryz.prog 31 #[.pointer none, x, y] w (retK fun v w' => v = .bool false ∧ Chg [] w w') := by
  apply term_Term_Resize_link
  intro K hK
  unfold term_Term_Resize
  simp -dsimp (disch := first | omega | (simp only [go_sem, seval]; first | done | omega)) only [go_sem, seval]
  exact hK _ _ ⟨rfl, Chg.refl _ _⟩
theorem tfind_nil (w : World) (x y : Value) : Calls Tryz.prog 30 #[.pointer none, x, y] w (retK fun v w' => v = .tuple #[.int .i64 0, .bool false] ∧ Chg [] w w') := by
  apply term_Term_Find_link
  intro K hK
  unfold term_Term_Find
  simp -dsimp (disch := first | omega | (simp only [go_sem, seval]; first | done | omega)) only [go_sem, seval]
  exact hK _ _ ⟨rfl, Chg.refl _ _⟩
end Go.Proofs.YtjfembffjjijaaaGreat
namespace Go.Proofs.YtjfembffjjijaaaGreat
open Lyc Go
def strF (s : ByteArray) : List Value := [.string s]
theorem strF_len (s : ByteArray) : (strF s).length = 1 := rfl
theorem strF_ok (s : ByteArray) : okCells (strF s) = true := rfl
def rowText (l : List Cel) : ByteArray := bstr ((trimE (shown l)).map ascB)
theorem glines_c {w : World} {g : Gr} (hg : g.ok) {e : Option TypeId} {a : Option Addr} (hs : SxC w e a g.cs) (cap : Nat) (hcap : g.cs.length ≤ cap) (ha : ∀ y, y < g.h → ∀ r ∈ trimE (shown (g.row y)), asc r) : Calls Tryz.prog 23 #[g.val a cap] w
    (retK fun v w' => Ox w.heap.size w' 9 1 strF v ((List.range g.h).map fun y => rowText (g.row y)) ∧ Chg [] w w') := by
  obtain ⟨b, o, _, _, _, _, _, rfl, hb0, _⟩ := hs.at_ hg.ne
  have hb0' := lt_of_heap hb0
  clear hb0
  have h0 := hg.h0
  have h1 := hg.h1
  have h2 := hg.w1
  apply grid_Lines_link
  intro K hK
  unfold grid_Lines
  simp -dsimp (disch := first | omega | (simp only [go_sem, seval]; first | done | omega)) only [go_sem, seval, Gr.val]
  have hc0 := chg_a1 w (.cells #[.int .i64 g.w, .int .i64 g.h, .slice (some ⟨b, o, none⟩) g.cs.length cap] 38)
  have hg0 : (w.alloc (.cells #[.int .i64 g.w, .int .i64 g.h, .slice (some ⟨b, o, none⟩) g.cs.length cap] 38)).heap[w.heap.size]? = some (.cells #[.int .i64 g.w, .int .i64 g.h, .slice (some ⟨b, o, none⟩) g.cs.length cap] 38) := by simp -dsimp (disch := first | omega | (simp only [go_sem, seval]; first | done | omega)) only [go_sem, seval]
  generalize w.alloc (.cells #[.int .i64 g.w, .int .i64 g.h, .slice (some ⟨b, o, none⟩) g.cs.length cap] 38) = w0 at hc0 hg0 ⊢
  refine OpX.call grid_whole_b rfl (Calls.ret (whole_c hg (some ⟨b, o, none⟩) cap) ?_)
  rintro v w1 ⟨rfl, hc1⟩
  have hg1 := hc1.keep hg0 (by simp)
  have hlt1 := lt_of_heap hg1
  simp -dsimp (disch := first | omega | (simp only [go_sem, seval]; first | done | omega)) only [go_sem, seval, hg1]
  have hc2 := (hc0.trans0 hc1).alloc (.cells #[.slice none 0 0] 51)
  have hr2 : (w1.alloc (.cells #[.slice none 0 0] 51)).heap[w1.heap.size]? = some (.cells #[.slice none 0 0] 51) := by simp -dsimp (disch := first | omega | (simp only [go_sem, seval]; first | done | omega)) only [go_sem, seval]
  obtain ⟨t3, ht3⟩ : ∃ t3, t3 = w1.heap.size := ⟨_, rfl⟩
  rw [← ht3] at hr2 ⊢
  generalize w1.alloc (.cells #[.slice none 0 0] 51) = w2 at hc2 hr2 ⊢
  refine OpX.call grid_rows_b rfl (Calls.ret (rows_c _ g (some ⟨b, o, none⟩) cap 0 g.h) ?_)
  rintro v w3 ⟨rfl, hB, hc3, hsz⟩
  have hr3 := hc3.keep hr2 (by simp)
  have hc23 := hc2.trans0 hc3
  have hs3 := hs.chg0 hc23
  have hlt2 := lt_of_heap hr2
  have hlt3 := lt_of_heap hr3
  refine rng_rows hg hcap (by omega) (by omega) hB [t3] (by simp; omega)
    (fun y w4 => ∃ v, w4.heap[t3]? = some (.cells #[v] 51) ∧ (∃ a n c, v = .slice a n c) ∧ Ox (w3.heap.size + 2) w4 9 1 strF v ((List.range y).map fun y => rowText (g.row y)))
    (fun _ => False) ?_ ?_ ⟨_, hr3, ⟨_, _, _, rfl⟩, Ox.nil _ _ _ _ _⟩ ?_ ?_ ?_
  · rintro y w4 w5 ⟨v, h1, h2, h3⟩ hc
    exact ⟨v, hc.keep h1 (by simp; omega), h2, h3.low hc (by simp)⟩
  · intro w4 w5 h _
    exact h
  · rintro y kn kr kx w4 hc4 hsz42 ⟨v, hr4, ⟨a4, n4, c4, rfl⟩, ho4⟩ - - hy hkn _
    have hrl := hg.row_len hy
    have hs4 : SxC w4 e (some ⟨b, o + y * g.w * 4, none⟩) (g.row y) := by
      refine Sx.sub (hs3.chg hc4 ?_) Cel.len (y * g.w) g.w _ (.inr (.inr rfl))
      intro b' o' hb' _ hm'
      cases hb'
      simp at hm'
      have := hc0.size
      have := hc1.size
      omega
    have htx := text_asc (hs4.chg0 (Chg.refl _ _).drew) g.w (by omega) (ha y hy)
    rw [hrl] at htx
    have hsz4 := hc4.size
    have hlt4 := lt_of_heap hr4
    simp -dsimp (disch := first | omega | (simp only [go_sem, seval]; first | done | omega)) only [go_sem, seval, hr4, rowV]
    refine OpX.call cell_Text_b rfl (Calls.ret (htx) ?_)
    rintro v5 w5 ⟨rfl, hc5⟩
    have hr5 := hc5.keep (show w4.drew.heap[t3]? = _ from hr4) (by simp)
    have ho5 := (ho4.chg0 (Chg.refl _ _).drew).chg0 hc5
    have hlt5 := lt_of_heap hr5
    have hsz5 : w4.heap.size ≤ w5.heap.size := hc5.size
    have hlow : ∀ x ∈ (Value.slice a4 n4 c4).ownBlock.toList, w3.heap.size + 2 ≤ x := fun x hx => (ho5.lt x (by cases hv : (Value.slice a4 n4 c4).ownBlock <;> simp_all)).1
    simp -dsimp (disch := first | omega | (simp only [go_sem, seval]; first | done | omega)) only [go_sem, seval, hr5]
    refine app_x (f := strF) (l2 := [rowText (g.row y)]) ty51ap strF_len strF_ok (ho5.chg0 (chg_a1 _ _)) (Sx.built (c := strF (rowText (g.row y))) (by simp -dsimp (disch := first | omega | (simp only [go_sem, seval]; first | done | omega)) only [go_sem, seval]; rfl) (by simp)) rfl (by simp; omega) (by omega) (by simp -dsimp (disch := first | omega | (simp only [go_sem, seval]; first | done | omega)) only [go_sem, seval]; omega) ?_
    intro v' w' ho' hc' _
    have hca : Chg (Value.slice a4 n4 c4).ownBlock.toList w5 w' := ((Chg.refl _ w5).alloc _).trans hc' (fun x hx => .inl hx)
    have hr6 := hca.keep hr5 (fun hm => by have := hlow _ hm; omega)
    have hlt6 := lt_of_heap hr6
    obtain ⟨a', cap', rfl, _⟩ := ho'.form
    simp -dsimp (disch := first | omega | (simp only [go_sem, seval]; first | done | omega)) only [go_sem, seval, hr6]
    refine hkn _ (t3 :: (Value.slice a4 n4 c4).ownBlock.toList) (((hc5.low_drew.mono (by simp)).trans hca (fun x hx => .inl (by simp [hx]))).set _ _ (by simp)) (fun x hx => ?_) ⟨_, heap_set_same _ _ _ _ rfl hlt6, ⟨_, _, _, rfl⟩, ?_⟩
    · rcases List.mem_cons.1 hx with rfl | hx
      · exact .inl (by simp)
      · exact .inr (hlow x hx)
    · rw [List.range_succ, List.map_append]
      exact ho'.low ((Chg.refl [t3] _).set _ _ (by simp)) (by simp; omega)
  · rintro y w4 hc4 hd ⟨v, hr4, ⟨a4, n4, c4, rfl⟩, ho4⟩ - h5 h6
    have hyh : y = g.h := by omega
    subst hyh
    simp -dsimp (disch := first | omega | (simp only [go_sem, seval]; first | done | omega)) only [go_sem, seval, hr4]
    refine close_by hd ?_
    refine hK _ _ ⟨?_, ?_⟩
    · have := (ho4.base_le (base' := w.heap.size) (by have := hc23.size; omega))
      refine Ox.chg this (F := [w3.heap.size]) ((Chg.refl _ _).set _ _ (by simp)) ?_
      intro x hx
      have := ho4.lt x hx.symm
      simp; omega
    · have h9 := hc0.size
      have h10 := hc1.size
      have h11 := hc23.size
      exact (hc23.trans hc4 (by simp; omega)).set _ _ (.inr (by omega))
  · intro w4 _ _ h
    exact h.elim
end Go.Proofs.YtjfembffjjijaaaGreat
namespace Go.Proofs.YtjfembffjjijaaaGreat
open Lyc Go
def szN (n m : Int) : Nat := (1 + (n.tmod m + m).tmod m).toNat
theorem szN_eq {n m : Int} (h : 0 < m) : 1 + (n.tmod m + m).tmod m = (szN n m : Int) ∧ 0 < szN n m ∧ (szN n m : Int) ≤ m := by
  have h1 := Int.lt_tmod_of_pos n h
  have h2 := Int.tmod_nonneg m (show 0 ≤ n.tmod m + m by omega)
  have h3 := Int.tmod_lt_of_pos (n.tmod m + m) h
  unfold szN
  omega
theorem size11_c (w : World) (x y : Int) : Calls Tryz.prog 19 #[.agg #[.int .i64 x, .int .i64 y]] w
    (retK fun v w' => v = .tuple #[.int .i64 (szN x 14), .int .i64 (szN y 8)] ∧ Chg [] w w') := by
  obtain ⟨ex, -, -⟩ := szN_eq (n := x) (m := 14) (by omega)
  obtain ⟨ey, -, -⟩ := szN_eq (n := y) (m := 8) (by omega)
  have b1 := tmod_bd x 14 (by omega)
  have b2 := tmod_bd y 8 (by omega)
  have b3 := tmod_bd (x.tmod 14 + 14) 14 (by omega)
  have b4 := tmod_bd (y.tmod 8 + 8) 8 (by omega)
  apply lyceumlaw11_Size_size_link
  intro K hK
  unfold lyceumlaw11_Size_size
  simp -dsimp (disch := first | omega | (simp only [go_sem, seval]; first | done | omega)) only [go_sem, seval, ex, ey]
  exact hK _ _ ⟨rfl, (chg_a1 _ _).drew⟩
theorem short_c (w : World) (s : List UInt8) (n : Nat) : Calls Tryz.prog 25 #[.string (bstr s), .int .i64 n] w (retK fun v w' => v = .string (bstr (s.take n)) ∧ Chg [] w w') := by
  apply lyceumlaw11_short_link
  intro K hK
  unfold lyceumlaw11_short
  simp -dsimp (disch := first | omega | (simp only [go_sem, seval]; first | done | omega)) only [go_sem, seval]
  refine BrW.dec (fun g => ?_) (fun g => ?_)
  · simp -dsimp (disch := first | omega | (simp only [go_sem, seval]; first | done | omega)) only [go_sem, seval, bstr_extract]
    exact hK _ _ ⟨by simp, Chg.refl _ _⟩
  · exact hK _ _ ⟨by rw [List.take_of_length_le (by omega)], Chg.refl _ _⟩
def ex11 : Scr × List UInt8 × Esc := fedAll (Scr.new 3 1, [], Esc.new) [[97, 98], [195], [169], [100]]
theorem ex11_g : ex11.1.cur = ⟨3, 1, [⟨100, 0, 0, 0⟩, ⟨32, 0, 0, 0⟩, ⟨32, 0, 0, 0⟩]⟩ := by decide +kernel
theorem ex11_n : ex11.1.gone.length = 1 := by decide +kernel
theorem awake11_c (w : World) : Calls Tryz.prog 18 #[] w (retK fun v w' => v = .bool true ∧ Chg [] w w') := by
  apply lyceumlaw11_awake_link
  intro K hK
  unfold lyceumlaw11_awake
  refine OpX.call term_New_b rfl (Calls.ret (tnew_c w 3 1 (by omega) (by omega) (by omega) (by omega) 9) ?_)
  rintro v w1 ⟨t, s, h, M, G, rfl, hA, hS, hgl, hgr, hc1, -, -⟩
  simp -dsimp (disch := first | omega | (simp only [go_sem, seval]; first | done | omega)) only [go_sem, seval]
  refine OpX.gen fun w2 hw2 => ?_
  have hc2 : Chg [] w1 w2 := by rw [hw2]; exact chg_a1 _ _
  have hr2 : w2.heap[w1.heap.size]? = some (.cells #[.string (bstr [97, 98]), .string (bstr [195]), .string (bstr [169]), .string (bstr [100])] 9) := by rw [hw2]; simp -dsimp (disch := first | omega | (simp only [go_sem, seval]; first | done | omega)) only [go_sem, seval]; rfl
  clear hw2
  have hsr : Sx w2 (some 9) bsF (some ⟨w1.heap.size, 0, none⟩) [[97, 98], [195], [169], [100]] := Sx.built (c := [.string (bstr [97, 98]), .string (bstr [195]), .string (bstr [169]), .string (bstr [100])]) hr2 rfl
  have hA2 := hA.chg0 hc2
  have hfar : ∀ b o, some (⟨w1.heap.size, 0, none⟩ : Addr) = some ⟨b, o, none⟩ → ([[97, 98], [195], [169], [100]] : List (List UInt8)) ≠ [] → b ∉ t :: s :: M.blk := by
    intro b o hb _ hm
    cases hb
    rcases List.mem_cons.1 hm with e | hm
    · have := lt_of_heap hA.hb; omega
    · have := hA.scr.at_.lt _ hm; omega
  have hz1 := hc1.size
  have hz2 := hc2.size
  refine OpX.call term_Term_Write_b rfl (Calls.ret (twrite_c hA2 (by omega) hsr (by simp) hfar 4 (by simp)) ?_)
  rintro v w3 ⟨M3, G3, k3, E3, hA3, hst, hroom, hlist, hc3, -, -⟩
  have hSe : ex11 = fedAll (M.S, [], Esc.new) [[97, 98], [195], [169], [100]] := by rw [hS]; rfl
  have hM3 : M3.S = { ex11.1 with gone := [] } := by rw [hSe]; exact congrArg Prod.fst hst
  have hcur : M3.S.cur = ⟨3, 1, [⟨100, 0, 0, 0⟩, ⟨32, 0, 0, 0⟩, ⟨32, 0, 0, 0⟩]⟩ := by rw [hM3]; exact ex11_g
  have hn : G3.list.length = 1 := by
    have hl : G3.list = pushAll G.room G.list ex11.1.gone := by rw [hSe]; exact hlist
    have hr : G.room = 9 := by rw [hgr]; rfl
    have hg := ex11_n
    rw [hl, hgl, hr]
    match ex11.1.gone, hg with
    | [x], _ => rfl
  have hc13 : Chg [] w w3 := by
    refine (hc1.trans0 hc2).trans hc3 fun x hx => ?_
    simp only [List.cons_append, List.mem_cons, List.mem_append] at hx
    rcases hx with rfl | rfl | hx | rfl | hx
    · exact .inr (hA.lo _ (by simp))
    · exact .inr (hA.scr.lo _ (by simp))
    · exact .inr (hA.scr.lo _ (by simp [hx]))
    · exact .inr (hA.lo _ (by simp))
    · exact .inr (hA.lo _ (by simp [hx]))
  refine OpX.call term_Term_Grid_b rfl (Calls.ret (tgrid_c hA3) ?_)
  rintro v w5 ⟨⟨nb5, cap5, sp5, rfl, p1, p2, p3⟩, hc5⟩
  rw [hcur] at p1 p3 ⊢
  have hok : (⟨3, 1, [⟨100, 0, 0, 0⟩, ⟨32, 0, 0, 0⟩, ⟨32, 0, 0, 0⟩]⟩ : Gr).ok := ⟨by decide, by decide, by decide, by decide, rfl⟩
  have h9 : ∀ y, y < 1 → ∀ r ∈ trimE (shown ((⟨3, 1, [⟨100, 0, 0, 0⟩, ⟨32, 0, 0, 0⟩, ⟨32, 0, 0, 0⟩]⟩ : Gr).row y)), asc r := by
    intro y hy
    have : y = 0 := by omega
    subst this
    show ∀ r ∈ trimE (shown ((⟨3, 1, [⟨100, 0, 0, 0⟩, ⟨32, 0, 0, 0⟩, ⟨32, 0, 0, 0⟩]⟩ : Gr).row 0)), 0 ≤ r ∧ r ≤ 127
    decide +kernel
  have hs5 : SxC w5 (some 70) (some ⟨nb5, 0, none⟩) (⟨3, 1, [⟨100, 0, 0, 0⟩, ⟨32, 0, 0, 0⟩, ⟨32, 0, 0, 0⟩]⟩ : Gr).cs := ⟨fun _ => ⟨nb5, 0, _, _, _, [], sp5, rfl, p3, by simp [tagOk], by simp, rfl⟩⟩
  refine OpX.call grid_Lines_b rfl (Calls.ret (glines_c hok hs5 cap5 p1 h9) ?_)
  rintro v w7 ⟨ho7, hc7⟩
  have et : ((List.range (⟨3, 1, [⟨100, 0, 0, 0⟩, ⟨32, 0, 0, 0⟩, ⟨32, 0, 0, 0⟩]⟩ : Gr).h).map fun y => rowText ((⟨3, 1, [⟨100, 0, 0, 0⟩, ⟨32, 0, 0, 0⟩, ⟨32, 0, 0, 0⟩]⟩ : Gr).row y)) = [bstr [100]] := by decide +kernel
  rw [et] at ho7
  obtain ⟨a7, cap7, rfl, -, hs7, -⟩ := ho7.form
  obtain ⟨b7, o7, rfl, hb7, hcell7⟩ := hs7.get1 (g := fun s => .string s) (fun _ => rfl) (i := 0) rfl
  have el : (({ data := #[100] } : ByteArray)).toList = [100] := bstr_toList [100]
  have hcell7' : cellAt w7.heap[b7]? o7 = some (.string (bstr [100])) := hcell7
  have hA7 := (hA3.chg0 hc5).chg0 hc7
  have hca := (hc13.trans0 hc5).trans0 hc7
  refine Join1.cut (fun v w' => v = .bool true ∧ Chg [] w w') ?_ (fun v w' h => hK _ _ h)
  simp -dsimp (disch := first | omega | (simp only [go_sem, seval]; first | done | omega)) only [go_sem, seval, hcell7', el]
  refine OpX.call term_Term_Rows_b rfl (Calls.ret (trows_c hA7) ?_)
  rintro v w8 ⟨rfl, hc8⟩
  rw [hn]
  simp -dsimp (disch := first | omega | (simp only [go_sem, seval]; first | done | omega)) only [go_sem, seval]
  exact hca.trans0 hc8
theorem fitsG_iff (x y : Int) : fitsG x y = decide (1 ≤ x ∧ x ≤ 200 ∧ 1 ≤ y ∧ y ≤ 60) := by unfold fitsG; exact decide_eq_decide.2 ⟨fun h => by omega, fun h => by omega⟩
theorem tnil11_c (w : World) (s : List UInt8) (x y : Int) : Calls Tryz.prog 7 #[.string (bstr s), .int .i64 x, .int .i64 y] w (retK fun v w' => v = .bool true ∧ Chg [] w w') := by
  apply lyceumlaw11_TermNil_link
  intro K hK
  unfold lyceumlaw11_TermNil
  refine OpX.call lyceumlaw11_short_b rfl (Calls.ret (short_c w s 20) ?_)
  rintro v w1 ⟨rfl, hc1⟩
  simp -dsimp (disch := first | omega | (simp only [go_sem, seval]; first | done | omega)) only [go_sem, seval]
  refine OpX.gen fun w2 hw2 => ?_
  have hc2 : Chg [] w w2 := by rw [hw2]; exact hc1.alloc _
  clear hw2
  refine OpX.call term_Term_Write_b rfl (Calls.ret (twrite_nil w2 _) ?_)
  rintro v w3 hc3
  refine OpX.call term_Term_Cursor_b rfl (Calls.ret (tcursor_nil w3) ?_)
  rintro v w4 ⟨rfl, hc4⟩
  simp -dsimp (disch := first | omega | (simp only [go_sem, seval]; first | done | omega)) only [go_sem, seval]
  refine OpX.call term_Term_Find_b rfl (Calls.ret (tfind_nil w4 _ _) ?_)
  rintro v w5 ⟨rfl, hc5⟩
  simp -dsimp (disch := first | omega | (simp only [go_sem, seval]; first | done | omega)) only [go_sem, seval]
  have hc05 := ((hc2.trans0 hc3).trans0 hc4).trans0 hc5
  refine Join1.cut (fun v w' => v = .bool (fitsG x y) ∧ w' = w5) ?_ ?_
  · rw [fitsG_iff]
    simp -dsimp (disch := first | omega | (simp only [go_sem, seval]; first | done | omega)) only [go_sem, seval]
    refine BrW.dec (fun h => ?_) (fun h => ⟨congrArg Value.bool (decide_eq_false (by omega)).symm, rfl⟩)
    simp -dsimp (disch := first | omega | (simp only [go_sem, seval]; first | done | omega)) only [go_sem, seval]
    refine BrW.dec (fun h => ?_) (fun h => ⟨congrArg Value.bool (decide_eq_false (by omega)).symm, rfl⟩)
    simp -dsimp (disch := first | omega | (simp only [go_sem, seval]; first | done | omega)) only [go_sem, seval]
    refine BrW.dec (fun h => ?_) (fun h => ⟨congrArg Value.bool (decide_eq_false (by omega)).symm, rfl⟩)
    simp -dsimp (disch := first | omega | (simp only [go_sem, seval]; first | done | omega)) only [go_sem, seval]
    exact congrArg Value.bool (decide_eq_decide.2 ⟨fun h => by omega, fun h => by omega⟩)
  rintro v w6 ⟨rfl, rfl⟩
  refine Join1.cut (fun v w' => v = .bool true ∧ Chg [] w w') ?_ (fun v w' h => hK _ _ h)
  refine OpX.call lyceumlaw11_awake_b rfl (Calls.ret (awake11_c w6) ?_)
  rintro v w7 ⟨rfl, hc7⟩
  simp -dsimp (disch := first | omega | (simp only [go_sem, seval]; first | done | omega)) only [go_sem, seval]
  refine OpX.call term_Term_Grid_b rfl (Calls.ret (tgrid_nil w7) ?_)
  rintro v w8 ⟨rfl, hc8⟩
  simp -dsimp (disch := first | omega | (simp only [go_sem, seval]; first | done | omega)) only [go_sem, seval, noGrid]
  refine OpX.call term_Term_View_b rfl (Calls.ret (tview_nil w8 _) ?_)
  rintro v w9 ⟨rfl, hc9⟩
  simp -dsimp (disch := first | omega | (simp only [go_sem, seval]; first | done | omega)) only [go_sem, seval, noGrid]
  refine OpX.call term_Term_Rows_b rfl (Calls.ret (trows_nil w9) ?_)
  rintro v w10 ⟨rfl, hc10⟩
  simp -dsimp (disch := first | omega | (simp only [go_sem, seval]; first | done | omega)) only [go_sem, seval]
  refine OpX.call term_Term_Waits_b rfl (Calls.ret (twaits_nil w10) ?_)
  rintro v w11 ⟨rfl, hc11⟩
  simp -dsimp (disch := first | omega | (simp only [go_sem, seval]; first | done | omega)) only [go_sem, seval]
  refine OpX.call term_Term_Resize_b rfl (Calls.ret (tresize_nil w11 _ _) ?_)
  rintro v w12 ⟨rfl, hc12⟩
  have hc012 := (((((hc05.trans0 hc7).trans0 hc8).trans0 hc9).trans0 hc10).trans0 hc11).trans0 hc12
  simp -dsimp (disch := first | omega | (simp only [go_sem, seval]; first | done | omega)) only [go_sem, seval]
  rcases Bool.eq_false_or_eq_true (fitsG x y) with hf | hf
  · have hf' := hf
    rw [fitsG_iff] at hf'
    have hf' := of_decide_eq_true hf'
    obtain ⟨p, rfl⟩ := Int.eq_ofNat_of_zero_le (show 0 ≤ x by omega)
    obtain ⟨q, rfl⟩ := Int.eq_ofNat_of_zero_le (show 0 ≤ y by omega)
    refine OpX.call term_New_b rfl (Calls.ret (tnew_c w12 p q (by omega) (by omega) (by omega) (by omega) 3) ?_)
    rintro v w13 ⟨t, s, h, M, G, rfl, -, -, -, -, hc13, -, -⟩
    simp -dsimp (disch := first | omega | (simp only [go_sem, seval]; first | done | omega)) only [go_sem, seval, hf]
    exact hc012.trans0 hc13
  · refine OpX.call term_New_b rfl (Calls.ret (tnew_bad w12 x y hf _) ?_)
    rintro v w13 ⟨rfl, hc13⟩
    simp -dsimp (disch := first | omega | (simp only [go_sem, seval]; first | done | omega)) only [go_sem, seval, hf]
    exact hc012.trans0 hc13
end Go.Proofs.YtjfembffjjijaaaGreat
namespace Go.Proofs.YtjfembffjjijaaaGreat
open Lyc Go Go.Joins Go.ChangeShapes Go.WideShapes Go.ChangeAt Go.RowKit Go.Deep
set_option maxRecDepth 100000
theorem own : ownKnob Tryz.prog.godebug = none := by kernel_rfl
theorem laidOut : laidOutB Tryz.prog = true := by kernel_rfl
theorem open_size {H : Type} {enc : TypeId × Value → H} {w : World} {base b0 : Nat} {spare : Nat → Bool} {held : Bool} {v : Value} {d : DataW H} {p : List MemPlace} (hv : Value.okWide Tryz.prog w .any b0 47 v) (h : DataW.Trod enc Tryz.prog w base spare held 47 v d p) : ∃ x y : Int, v = .agg #[.int .i64 x, .int .i64 y] := by
  obtain ⟨x0, x1, y0, y1, n, rfl, -, -, t0, t1⟩ := open_agg2 Tryz.underlying47 (by kernel_rfl) (by kernel_rfl) hv h
  obtain ⟨k0, e0, -, -⟩ := DataW.trod_int Tryz.underlying3 t0
  obtain ⟨k1, e1, -, -⟩ := DataW.trod_int Tryz.underlying3 t1
  cases e0; cases e1
  exact ⟨k0, k1, rfl⟩
theorem open_strs {H : Type} {enc : TypeId × Value → H} {w : World} {base b0 : Nat} {spare : Nat → Bool} {held : Bool} {v : Value} {d : DataW H} {p : List MemPlace} (hv : Value.okWide Tryz.prog w .any b0 51 v) (h : DataW.Trod enc Tryz.prog w base spare held 51 v d p) :
    ∃ (a : Option Addr) (l : List (List UInt8)) (cap : Nat), v = .slice a l.length cap ∧ Sx w none bsF a l ∧ l.length ≤ maxLen := by
  obtain ⟨a, l, cap, rfl, hs, -, hm, -⟩ := open_things (m := 1) bsF (fun _ => True) Tryz.underlying51 (by kernel_rfl) (by omega) (fun _ => rfl) (fun n cs y h => let ⟨s, h1, _, _⟩ := DataW.trod_string Tryz.underlying9 h; ⟨s.toList, by rw [h1, bsF, bstr_of], trivial⟩) hv h
  exact ⟨a, l, cap, rfl, hs, hm⟩
theorem open_text {w : World} {b0 : Nat} {v : Value} (hv : Value.okWide Tryz.prog w .any b0 9 v) : ∃ l : List UInt8, v = .string (bstr l) := by
  obtain ⟨s, rfl⟩ := okWide_string Tryz.underlying9 hv
  exact ⟨s.toList, by rw [bstr_of]⟩
end Go.Proofs.YtjfembffjjijaaaGreat
