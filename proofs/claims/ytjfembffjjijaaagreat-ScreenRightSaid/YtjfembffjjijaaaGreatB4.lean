/- Helpers of this claim, part 4: engine, translated functions, contracts, plain laws. -/
import Derived.Test.YtjfembffjjijaaaGreatB3
import Derived.Test.YtjfembffjjijaaaGreatB1
import Derived.Test.YtjfembffjjijaaaGreatB2
import Derived.Laws.BytesString
set_option linter.unusedSimpArgs false
set_option linter.unusedVariables false
namespace Go.Proofs.YtjfembffjjijaaaGreat
open Lyc Go
theorem num_i64 {a : Act'} (hf : a.fits) {i : Nat} (hi : i < 8) : i64ok (a.nums.getD i 0) := by
  refine hf.nums _ ?_
  have hl : a.nums.length = 8 := rfl
  rw [List.getD_eq_getElem?_getD, List.getElem?_eq_getElem (by omega)]
  exact List.getElem_mem _
theorem num_le {a : Act'} (hf : a.fits) {i : Nat} {least : Int} (hl : i64ok least) : i64ok (a.num i least) := by
  unfold Act'.num
  split
  · exact hl
  · have := num_i64 hf (i := i) (by omega)
    unfold i64ok at *
    omega
theorem snum_c (w : World) (a : Act') (i : Nat) (least : Int) : Calls Tryz.prog 111 #[a.val, .int .i64 i, .int .i64 least] w (retK fun v w' => v = .int .i64 (a.num i least) ∧ Chg [] w w') := by
  apply escape_Num_link
  intro K hK
  unfold escape_Num
  simp -dsimp (disch := first | omega | (simp only [go_sem, seval]; first | done | omega)) only [go_sem, seval]
  have hc : Chg [] w (w.alloc (.cells a.cells.toArray 34)) := (Chg.refl _ _).alloc _
  refine Join1.cut (fun v w' => v = .bool (decide (8 ≤ i ∨ a.n ≤ i)) ∧ w' = (w.alloc (.cells a.cells.toArray 34))) ?_ ?_
  · simp -dsimp (disch := first | omega | (simp only [go_sem, seval]; first | done | omega)) only [go_sem, seval]
    refine BrW.dec (fun h2 => ?_) (fun h2 => ?_)
    · omega
    simp -dsimp (disch := first | omega | (simp only [go_sem, seval]; first | done | omega)) only [go_sem, seval]
    refine BrW.dec (fun h3 => ?_) (fun h3 => ?_)
    · exact ⟨congrArg Value.bool (decide_eq_true (.inl (by omega))).symm, rfl⟩
    simp -dsimp (disch := first | omega | (simp only [go_sem, seval]; first | done | omega)) only [go_sem, seval]
    exact congrArg Value.bool (decide_eq_decide.2 (by omega))
  rintro v w1 ⟨rfl, rfl⟩
  unfold Act'.num at hK
  refine BrW.dec (fun h2 => ?_) (fun h2 => ?_)
  · rw [if_pos h2] at hK
    exact hK _ _ ⟨rfl, hc⟩
  · rw [if_neg h2] at hK
    have hi : i = 0 ∨ i = 1 ∨ i = 2 ∨ i = 3 ∨ i = 4 ∨ i = 5 ∨ i = 6 ∨ i = 7 := by omega
    clear h2
    rcases hi with rfl | rfl | rfl | rfl | rfl | rfl | rfl | rfl <;> (simp -dsimp (disch := first | omega | (simp only [go_sem, seval]; first | done | omega)) only [go_sem, seval]; exact hK _ _ ⟨rfl, hc⟩)
def scrUp (S : Scr) (n : Int) : Scr := S.at S.now.x (max ((S.now.y : Int) - n) (if S.top ≤ S.now.y then (S.top : Int) else 0)).toNat
def scrDn (S : Scr) (n : Int) : Scr := S.at S.now.x (min ((S.now.y : Int) + n) (if S.now.y + 1 ≤ S.fin then (S.fin : Int) - 1 else (S.h : Int) - 1)).toNat
theorem smoved_c {w : World} {s : Nat} {M : Scm} (h : SAt w s M) (ok : M.S.ok) (a : Act') (hf : a.fits) : Calls Tryz.prog 78 #[.pointer (some ⟨s, 0, none⟩), a.val] w
    (retK fun v w' => v = .bool (M.S.moved a).isSome ∧ Did w s M w' ((M.S.moved a).getD M.S)) := by
  have hls := lt_of_heap h.hb
  have hlt := h.lt
  have tl := h.tl
  have w0 := ok.w0
  have w1b := ok.w1
  have h0 := ok.h0
  have h1b := ok.h1
  have nx := ok.nx
  have ny := ok.ny
  have tf := ok.tf
  have fh := ok.fh
  have n1 := num_ge a 0 1
  have n2 := num_ge a 1 1
  have n3 := num_le hf (i := 1) (least := 1) (by unfold i64ok; omega)
  unfold i64ok at n3
  apply screen_Screen_moved_link
  intro K hK
  unfold screen_Screen_moved
  simp -dsimp (disch := first | omega | (simp only [go_sem, seval]; first | done | omega)) only [go_sem, seval]
  have hc1 : Chg [] w (w.alloc (.cells a.cells.toArray 34)) := (Chg.refl _ _).alloc _
  have ha1 : (w.alloc (.cells a.cells.toArray 34)).heap[w.heap.size]? = some (.cells a.cells.toArray 34) := by simp -dsimp (disch := first | omega | (simp only [go_sem, seval]; first | done | omega)) only [go_sem, seval]
  refine OpX.gen fun w1 hw1 => ?_
  replace hw1 : w1 = (w.alloc (.cells a.cells.toArray 34)) := hw1
  rw [← hw1] at hc1 ha1
  clear hw1
  refine OpX.call escape_Num_b rfl (Calls.ret (snum_c _ a 0 1) ?_)
  rintro v w2 ⟨rfl, hc2⟩
  replace ha1 := hc2.keep ha1 (by simp)
  replace hc1 := hc1.trans0 hc2
  clear hc2
  have hla := lt_of_heap ha1
  have hA := h.chg0 hc1
  have hb := hA.hb
  have hs2 := hc1.size
  obtain ⟨n, hn⟩ : ∃ n, n = min (a.num 0 1) 9999 := ⟨_, rfl⟩
  have hn1 : 1 ≤ n ∧ n ≤ 9999 := by omega
  simp -dsimp (disch := first | omega | (simp only [go_sem, seval]; first | done | omega)) only [go_sem, seval, ha1]
  rw [← hn]
  have hna : w.heap.size ∉ s :: M.blk := fun hm => by have := hlt _ hm; omega
  refine Join0.cut (fun w' => ∃ T, Did w2 s M w' T ∧ M.S.moved a = some T) ?_ ?_
  · refine Join0.cut (fun w' => ∃ M1 : Scm, SAt w' s M1 ∧ M1.S.ok ∧ Chg (s :: M.blk) w2 w' ∧ M1.blk = M.blk ∧ M.S.moved a = some (scrDn M1.S n)) ?_ ?_
    · refine Join0.cut (fun w' => ∃ M1 : Scm, SAt w' s M1 ∧ M1.S.ok ∧ Chg (s :: M.blk) w2 w' ∧ M1.blk = M.blk ∧ M.S.moved a = some (scrUp M1.S n)) ?_ ?_
      · simp -dsimp (disch := first | omega | (simp only [go_sem, seval]; first | done | omega)) only [go_sem, seval]
        refine BrW.dec (fun c1 => ?_) (fun c1 => ?_)
        · simp -dsimp (disch := first | omega | (simp only [go_sem, seval]; first | done | omega)) only [go_sem, seval, hb]
          refine ⟨_, hA.set (M.S.at 0 M.S.now.y) rfl rfl tl rfl, (ok.at w0 ny).ok, (Chg.refl _ _).set _ _ (by simp), rfl, ?_⟩
          unfold Scr.moved
          dsimp only
          rw [← hn, if_pos c1]
          rfl
        simp -dsimp (disch := first | omega | (simp only [go_sem, seval]; first | done | omega)) only [go_sem, seval]
        refine BrW.dec (fun c2 => ?_) (fun c2 => ?_)
        · refine ⟨_, hA, ok, Chg.refl _ _, rfl, ?_⟩
          unfold Scr.moved
          dsimp only
          rw [← hn, if_neg c1, if_pos c2]
          rfl
        simp -dsimp (disch := first | omega | (simp only [go_sem, seval]; first | done | omega)) only [go_sem, seval]
        refine BrW.dec (fun c3 => ?_) (fun c3 => ?_)
        · simp -dsimp (disch := first | omega | (simp only [go_sem, seval]; first | done | omega)) only [go_sem, seval, hb]
          refine ⟨_, hA.set (M.S.at 0 M.S.now.y) rfl rfl tl rfl, (ok.at w0 ny).ok, (Chg.refl _ _).set _ _ (by simp), rfl, ?_⟩
          unfold Scr.moved
          dsimp only
          rw [← hn, if_neg c1, if_neg c2, if_pos c3]
          rfl
        simp -dsimp (disch := first | omega | (simp only [go_sem, seval]; first | done | omega)) only [go_sem, seval]
        refine BrW.dec (fun c4 => ?_) (fun c4 => ?_)
        · refine ⟨_, hA, ok, Chg.refl _ _, rfl, ?_⟩
          unfold Scr.moved
          dsimp only
          rw [← hn, if_neg c1, if_neg c2, if_neg c3, if_pos c4]
          rfl
        simp -dsimp (disch := first | omega | (simp only [go_sem, seval]; first | done | omega)) only [go_sem, seval]
        refine BrW.dec (fun c5 => ?_) (fun c5 => ?_)
        · simp -dsimp (disch := first | omega | (simp only [go_sem, seval]; first | done | omega)) only [go_sem, seval, hb]
          refine OpX.call screen_Screen_move_b rfl (Calls.ret (smove_c (hA.chg0 (Chg.refl _ _).drew) ok (M.S.now.x + n) M.S.now.y) ?_)
          rintro v w3 hd
          refine ⟨_, Did.trans (M1 := M) (Chg.refl _ _).drew (fun b hb => .inl hb) hd, ?_⟩
          unfold Scr.moved
          dsimp only
          rw [← hn, if_neg c1, if_neg c2, if_neg c3, if_neg c4, if_pos c5]
        simp -dsimp (disch := first | omega | (simp only [go_sem, seval]; first | done | omega)) only [go_sem, seval]
        refine BrW.dec (fun c6 => ?_) (fun c6 => ?_)
        · simp -dsimp (disch := first | omega | (simp only [go_sem, seval]; first | done | omega)) only [go_sem, seval, hb]
          refine OpX.call screen_Screen_move_b rfl (Calls.ret (smove_c (hA.chg0 (Chg.refl _ _).drew) ok (M.S.now.x - n) M.S.now.y) ?_)
          rintro v w3 hd
          refine ⟨_, Did.trans (M1 := M) (Chg.refl _ _).drew (fun b hb => .inl hb) hd, ?_⟩
          unfold Scr.moved
          dsimp only
          rw [← hn, if_neg c1, if_neg c2, if_neg c3, if_neg c4, if_neg c5, if_pos c6]
        refine Join1.cut (fun v w' => v = .bool (decide (a.r = 71 ∨ a.r = 96)) ∧ w2 = w') ?_ ?_
        · simp -dsimp (disch := first | omega | (simp only [go_sem, seval]; first | done | omega)) only [go_sem, seval]
          refine BrW.dec (fun h4 => ?_) (fun h4 => ?_)
          · exact ⟨congrArg Value.bool (decide_eq_true (.inl h4)).symm, rfl⟩
          · simp -dsimp (disch := first | omega | (simp only [go_sem, seval]; first | done | omega)) only [go_sem, seval]
            simp [h4]
        rintro v w3 ⟨rfl, rfl⟩
        refine BrW.dec (fun c7 => ?_) (fun c7 => ?_)
        · simp -dsimp (disch := first | omega | (simp only [go_sem, seval]; first | done | omega)) only [go_sem, seval, hb]
          refine OpX.call screen_Screen_move_b rfl (Calls.ret (smove_c hA ok (n - 1) M.S.now.y) ?_)
          rintro v w3 hd
          refine ⟨_, hd, ?_⟩
          unfold Scr.moved
          dsimp only
          rw [← hn, if_neg c1, if_neg c2, if_neg c3, if_neg c4, if_neg c5, if_neg c6, if_pos c7]
        simp -dsimp (disch := first | omega | (simp only [go_sem, seval]; first | done | omega)) only [go_sem, seval]
        refine BrW.dec (fun c8 => ?_) (fun c8 => ?_)
        · simp -dsimp (disch := first | omega | (simp only [go_sem, seval]; first | done | omega)) only [go_sem, seval, hb]
          refine OpX.call screen_Screen_move_b rfl (Calls.ret (smove_c hA ok M.S.now.x (n - 1)) ?_)
          rintro v w3 hd
          refine ⟨_, hd, ?_⟩
          unfold Scr.moved
          dsimp only
          rw [← hn, if_neg c1, if_neg c2, if_neg c3, if_neg c4, if_neg c5, if_neg c6, if_neg c7, if_pos c8]
        refine Join1.cut (fun v w' => v = .bool (decide (a.r = 72 ∨ a.r = 102)) ∧ w2 = w') ?_ ?_
        · simp -dsimp (disch := first | omega | (simp only [go_sem, seval]; first | done | omega)) only [go_sem, seval]
          refine BrW.dec (fun h4 => ?_) (fun h4 => ?_)
          · exact ⟨congrArg Value.bool (decide_eq_true (.inl h4)).symm, rfl⟩
          · simp -dsimp (disch := first | omega | (simp only [go_sem, seval]; first | done | omega)) only [go_sem, seval]
            simp [h4]
        rintro v w3 ⟨rfl, rfl⟩
        refine BrW.dec (fun c9 => ?_) (fun c9 => ?_)
        · simp -dsimp (disch := first | omega | (simp only [go_sem, seval]; first | done | omega)) only [go_sem, seval, ha1]
          refine OpX.call escape_Num_b rfl (Calls.ret (snum_c _ a 1 1) ?_)
          rintro v w3 ⟨rfl, hc2⟩
          simp -dsimp (disch := first | omega | (simp only [go_sem, seval]; first | done | omega)) only [go_sem, seval]
          refine OpX.call screen_Screen_move_b rfl (Calls.ret (smove_c (hA.chg0 hc2) ok (a.num 1 1 - 1) (n - 1)) ?_)
          rintro v w4 hd
          refine ⟨_, Did.trans (M1 := M) (hc2.mono (by simp)) (fun b hb => .inl hb) hd, ?_⟩
          unfold Scr.moved
          dsimp only
          rw [← hn, if_neg c1, if_neg c2, if_neg c3, if_neg c4, if_neg c5, if_neg c6, if_neg c7, if_neg c8, if_pos c9]
        simp -dsimp (disch := first | omega | (simp only [go_sem, seval]; first | done | omega)) only [go_sem, seval]
        refine BrW.dec (fun c10 => ?_) (fun c10 => ?_)
        · simp -dsimp (disch := first | omega | (simp only [go_sem, seval]; first | done | omega)) only [go_sem, seval, hb]
          refine OpX.call screen_Screen_restore_b rfl (Calls.ret (srestore_c hA) ?_)
          rintro v w3 hd
          refine ⟨_, hd, ?_⟩
          unfold Scr.moved
          dsimp only
          rw [← hn, if_neg c1, if_neg c2, if_neg c3, if_neg c4, if_neg c5, if_neg c6, if_neg c7, if_neg c8, if_neg c9, if_pos c10]
        have e : M.S.moved a = none := by
          unfold Scr.moved
          dsimp only
          rw [if_neg c1, if_neg c2, if_neg c3, if_neg c4, if_neg c5, if_neg c6, if_neg c7, if_neg c8, if_neg c9, if_neg c10]
        rw [e] at hK
        exact hK _ _ ⟨rfl, Did.trans (M1 := M) (hc1.mono (by simp)) (fun b hb => .inl hb) (Did.refl hA)⟩
      · rintro w3 ⟨M1, hA1, ok1, hcc, hbl, e⟩
        have hb1 := hA1.hb
        have tl1 := hA1.tl
        have ny1 := ok1.ny
        have h1c := ok1.h1
        have tf1 := ok1.tf
        have fh1 := ok1.fh
        have hl1 := lt_of_heap hb1
        obtain ⟨L, hL⟩ : ∃ L : Nat, L = if M1.S.top ≤ M1.S.now.y then M1.S.top else 0 := ⟨_, rfl⟩
        have hL2 : (L : Int) = if M1.S.top ≤ M1.S.now.y then (M1.S.top : Int) else 0 := by rw [hL]; split <;> rfl
        have hL3 : L < M1.S.h := by rw [hL]; split <;> omega
        have hd : ∀ w4 : World, Chg [] w3 w4 → ∃ w5 : World, w5 = setBlk w4 s ({ M1 with S := { M1.S with now := { M1.S.now with y := (max ((M1.S.now.y : Int) - n) (L : Int)).toNat } } } : Scm).obj ∧ Did w2 s M w5 (scrUp M1.S n) := by
          intro w4 hc4
          refine ⟨_, rfl, Did.trans hcc (fun b hb => .inl (by rw [← hbl]; exact hb)) (Did.trans (M1 := M1) (hc4.mono (by simp)) (fun b hb => .inl hb) ?_)⟩
          have := Did.set (hA1.chg0 hc4) (Chg.refl _ _) (fun b hb => .inl hb) (scrUp M1.S n) rfl rfl tl1 rfl
          unfold scrUp at this
          rw [← hL2] at this
          unfold scrUp
          rw [← hL2]
          exact this
        refine Join1.cut (fun v w' => v = .int .i64 (L : Int) ∧ Chg [] w3 w') ?_ ?_
        · simp -dsimp (disch := first | omega | (simp only [go_sem, seval]; first | done | omega)) only [go_sem, seval, hb1]
          refine BrW.dec (fun h4 => ?_) (fun h4 => ?_)
          · rw [if_pos (by omega)] at hL
            simp -dsimp (disch := first | omega | (simp only [go_sem, seval]; first | done | omega)) only [go_sem, seval, hb1]
            exact ⟨by rw [hL], (Chg.refl _ _).drew⟩
          · rw [if_neg (by omega)] at hL
            exact ⟨by rw [hL]; rfl, (Chg.refl _ _).drew⟩
        · rintro v w4 ⟨rfl, hc4⟩
          obtain ⟨w5, e5, hd5⟩ := hd w4 hc4
          have hb4 := (hA1.chg0 hc4).hb
          have hl4 := lt_of_heap hb4
          have e1 : max ((M1.S.now.y : Int) - n) (L : Int) = (((max ((M1.S.now.y : Int) - n) (L : Int)).toNat : Nat) : Int) := by omega
          simp -dsimp (disch := first | omega | (simp only [go_sem, seval]; first | done | omega)) only [go_sem, seval, hb4]
          rw [e1]
          simp -dsimp (disch := first | omega | (simp only [go_sem, seval]; first | done | omega)) only [go_sem, seval, hb4]
          rw [← e5]
          exact ⟨_, hd5, e⟩
    · rintro w3 ⟨M1, hA1, ok1, hcc, hbl, e⟩
      have hb1 := hA1.hb
      have tl1 := hA1.tl
      have ny1 := ok1.ny
      have h1c := ok1.h1
      have h0c := ok1.h0
      have tf1 := ok1.tf
      have fh1 := ok1.fh
      have hl1 := lt_of_heap hb1
      obtain ⟨L, hL⟩ : ∃ L : Nat, L = if M1.S.now.y + 1 ≤ M1.S.fin then M1.S.fin - 1 else M1.S.h - 1 := ⟨_, rfl⟩
      have hL2 : (L : Int) = if M1.S.now.y + 1 ≤ M1.S.fin then (M1.S.fin : Int) - 1 else (M1.S.h : Int) - 1 := by rw [hL]; split <;> omega
      have hL3 : L < M1.S.h := by rw [hL]; split <;> omega
      have hd : ∀ w4 : World, Chg [] w3 w4 → ∃ w5 : World, w5 = setBlk w4 s ({ M1 with S := { M1.S with now := { M1.S.now with y := (min ((M1.S.now.y : Int) + n) (L : Int)).toNat } } } : Scm).obj ∧ Did w2 s M w5 (scrDn M1.S n) := by
        intro w4 hc4
        refine ⟨_, rfl, Did.trans hcc (fun b hb => .inl (by rw [← hbl]; exact hb)) (Did.trans (M1 := M1) (hc4.mono (by simp)) (fun b hb => .inl hb) ?_)⟩
        have := Did.set (hA1.chg0 hc4) (Chg.refl _ _) (fun b hb => .inl hb) (scrDn M1.S n) rfl rfl tl1 rfl
        unfold scrDn at this
        rw [← hL2] at this
        unfold scrDn
        rw [← hL2]
        exact this
      simp -dsimp (disch := first | omega | (simp only [go_sem, seval]; first | done | omega)) only [go_sem, seval, hb1]
      refine Join1.cut (fun v w' => v = .int .i64 (L : Int) ∧ Chg [] w3 w') ?_ ?_
      · simp -dsimp (disch := first | omega | (simp only [go_sem, seval]; first | done | omega)) only [go_sem, seval, hb1]
        refine BrW.dec (fun h4 => ?_) (fun h4 => ?_)
        · rw [if_pos (by omega)] at hL
          simp -dsimp (disch := first | omega | (simp only [go_sem, seval]; first | done | omega)) only [go_sem, seval, hb1]
          exact ⟨congrArg (Value.int .i64) (by omega), (Chg.refl _ _).drew⟩
        · rw [if_neg (by omega)] at hL
          exact ⟨congrArg (Value.int .i64) (by rw [wrap_i64 _ (by omega) (by omega)]; omega), (Chg.refl _ _).drew⟩
      · rintro v w4 ⟨rfl, hc4⟩
        obtain ⟨w5, e5, hd5⟩ := hd w4 hc4
        have hb4 := (hA1.chg0 hc4).hb
        have hl4 := lt_of_heap hb4
        have e1 : min ((M1.S.now.y : Int) + n) (L : Int) = (((min ((M1.S.now.y : Int) + n) (L : Int)).toNat : Nat) : Int) := by omega
        simp -dsimp (disch := first | omega | (simp only [go_sem, seval]; first | done | omega)) only [go_sem, seval, hb4]
        rw [e1]
        simp -dsimp (disch := first | omega | (simp only [go_sem, seval]; first | done | omega)) only [go_sem, seval, hb4]
        rw [← e5]
        exact ⟨_, hd5, e⟩
  · rintro w3 ⟨T, hd, e⟩
    rw [e] at hK
    exact hK _ _ ⟨rfl, Did.trans (M1 := M) (hc1.mono (by simp)) (fun b hb => .inl hb) hd⟩
end Go.Proofs.YtjfembffjjijaaaGreat
namespace Go.Proofs.YtjfembffjjijaaaGreat
open Lyc Go
theorem wipeRows_now (S : Scr) (k : Int) : (S.wipeRows k).now = S.now := by
  unfold Scr.wipeRows Scr.clear
  split
  · exact setCur_now _
  · split
    · exact setCur_now _
    · split
      · exact setCur_now _
      · rfl
theorem sshift_line {w : World} {s : Nat} {M : Scm} (h : SAt w s M) (ok : M.S.ok) {bp bx bn : Nat} {k : Int} (hp : w.heap[bp]? = some (.cells #[.pointer (some ⟨s, 0, none⟩)] 29)) (hx : w.heap[bx]? = some (.cells #[.int .i64 M.S.now.x] 3)) (hn : w.heap[bn]? = some (.cells #[.int .i64 k] 3)) :
    LineF (.func (.func 114) #[] #[.pointer (some ⟨bx, 0, none⟩), .pointer (some ⟨bn, 0, none⟩), .pointer (some ⟨bp, 0, none⟩)]) w s M (fun g => g.shift M.S.now.x 0 k M.S.free) := by
  intro w2 g b o cap hc2 hg hcap hs
  refine YCall.of (us := []) (cs := [_, _, _]) screen_Screen_changed_1_b ?_
  have hp2 := hc2.keep hp (by simp)
  have hx2 := hc2.keep hx (by simp)
  have hn2 := hc2.keep hn (by simp)
  have hA2 := h.chg0 hc2
  have hb2 := hA2.hb
  have hlp := lt_of_heap hp2
  have hlx := lt_of_heap hx2
  have hln := lt_of_heap hn2
  have nx := ok.nx
  have w1 := ok.w1
  have w1b := hg.ok.w1
  have h1b := hg.ok.h1
  apply screen_Screen_changed_1_link
  intro K hK
  unfold screen_Screen_changed_1
  simp -dsimp (disch := first | omega | (simp only [go_sem, seval]; first | done | omega)) only [go_sem, seval, Gr.val, hx2, hp2, hn2]
  have hc3 : Chg [] w2 (((w2.alloc (.cells #[.int .i64 g.w, .int .i64 g.h, .slice (some ⟨b, o, none⟩) g.cs.length cap] 38)).alloc (.cells #[.int .i64 0, .int .i64 0, .slice none 0 0] 38)).drew) := (chg_a2 _ _ _).drew
  have hg3 : (((w2.alloc (.cells #[.int .i64 g.w, .int .i64 g.h, .slice (some ⟨b, o, none⟩) g.cs.length cap] 38)).alloc (.cells #[.int .i64 0, .int .i64 0, .slice none 0 0] 38)).drew).heap[w2.heap.size]? = some (.cells #[.int .i64 g.w, .int .i64 g.h, .slice (some ⟨b, o, none⟩) g.cs.length cap] 38) := by simp -dsimp (disch := first | omega | (simp only [go_sem, seval]; first | done | omega)) only [go_sem, seval]
  have ho3 : (((w2.alloc (.cells #[.int .i64 g.w, .int .i64 g.h, .slice (some ⟨b, o, none⟩) g.cs.length cap] 38)).alloc (.cells #[.int .i64 0, .int .i64 0, .slice none 0 0] 38)).drew).heap[w2.heap.size + 1]? = some (.cells #[.int .i64 0, .int .i64 0, .slice none 0 0] 38) := by simp -dsimp (disch := first | omega | (simp only [go_sem, seval]; first | done | omega)) only [go_sem, seval]
  have hz3 : (w2.alloc (.cells #[.int .i64 g.w, .int .i64 g.h, .slice (some ⟨b, o, none⟩) g.cs.length cap] 38)).heap.size = w2.heap.size + 1 := by simp -dsimp (disch := first | omega | (simp only [go_sem, seval]; first | done | omega)) only [go_sem, seval]
  rw [hz3]
  generalize (World.alloc _ _).drew = w3 at hc3 hg3 ho3 ⊢
  have hlo := lt_of_heap ho3
  refine OpX.call screen_Screen_free_b rfl (Calls.ret (sfree_c (hA2.chg0 hc3)) ?_)
  rintro v w4 ⟨rfl, hc4⟩
  have hc5 := hc3.trans0 hc4
  have hn4 := hc5.keep hn2 (by simp)
  have hx4 := hc5.keep hx2 (by simp)
  have hg4 := hc4.keep hg3 (by simp)
  have ho4 := hc4.keep ho3 (by simp)
  simp -dsimp (disch := first | omega | (simp only [go_sem, seval]; first | done | omega)) only [go_sem, seval, hn4, hx4, hg4]
  refine OpX.call grid_Shift_b rfl (Calls.ret (gshift_c (X := M.S.now.x) (Y := 0) (N := k) hg.ok hg.r (hs.chg0 hc5) cap hcap (free_usual _) (by omega) (by omega)) ?_)
  rintro v w5 ⟨⟨nb, cap', sp, rfl, q1, q2, q3⟩, hc6⟩
  have ho5 := hc6.keep ho4 (by simp)
  have hc7 := hc5.trans0 hc6
  have hz := hc5.size
  have hz4 := hc4.size
  have hlo5 := lt_of_heap ho5
  have hnb := lt_of_heap q3
  simp -dsimp (disch := first | omega | (simp only [go_sem, seval]; first | done | omega)) only [go_sem, seval, Gr.val, ho5]
  refine hK _ _ ⟨⟨nb, cap', sp, rfl, q1, by omega, ?_⟩, hc7.set _ _ (.inr (by omega))⟩
  simp -dsimp (disch := first | omega | (simp only [go_sem, seval]; first | done | omega)) only [go_sem, seval]
  exact q3
theorem schanged_c {w : World} {s : Nat} {M : Scm} (h : SAt w s M) (ok : M.S.ok) (a : Act') (hf : a.fits) : Calls Tryz.prog 79 #[.pointer (some ⟨s, 0, none⟩), a.val] w
    (retK fun v w' => v = .bool (M.S.changed a).isSome ∧ Did w s M w' ((M.S.changed a).getD M.S)) := by
  have hls := lt_of_heap h.hb
  have hlt := h.lt
  have tl := h.tl
  have w0 := ok.w0
  have w1b := ok.w1
  have h0 := ok.h0
  have h1b := ok.h1
  have nx := ok.nx
  have ny := ok.ny
  have tf := ok.tf
  have fh := ok.fh
  have n1 := num_ge a 0 1
  have n4 := num_ge a 1 0
  have n3 := num_le hf (i := 1) (least := 0) (by unfold i64ok; omega)
  unfold i64ok at n3
  apply screen_Screen_changed_link
  intro K hK
  unfold screen_Screen_changed
  simp -dsimp (disch := first | omega | (simp only [go_sem, seval]; first | done | omega)) only [go_sem, seval]
  have hz : (w.alloc (.cells #[.pointer (some ⟨s, 0, none⟩)] 29)).heap.size = w.heap.size + 1 := by simp -dsimp (disch := first | omega | (simp only [go_sem, seval]; first | done | omega)) only [go_sem, seval]
  rw [hz]
  refine OpX.gen fun w1 hw1 => ?_
  have hc1 : Chg [] w w1 := by rw [hw1]; exact chg_a2 _ _ _
  have hp1 : w1.heap[w.heap.size]? = some (.cells #[.pointer (some ⟨s, 0, none⟩)] 29) := by rw [hw1]; simp -dsimp (disch := first | omega | (simp only [go_sem, seval]; first | done | omega)) only [go_sem, seval]
  have ha1 : w1.heap[w.heap.size + 1]? = some (.cells a.cells.toArray 34) := by rw [hw1]; simp -dsimp (disch := first | omega | (simp only [go_sem, seval]; first | done | omega)) only [go_sem, seval]
  clear hw1 hz
  refine OpX.call escape_Num_b rfl (Calls.ret (snum_c _ a 0 1) ?_)
  rintro v w2 ⟨rfl, hc2⟩
  replace ha1 := hc2.keep ha1 (by simp)
  replace hp1 := hc2.keep hp1 (by simp)
  replace hc1 := hc1.trans0 hc2
  clear hc2
  have hla := lt_of_heap ha1
  have hlp := lt_of_heap hp1
  have hA := h.chg0 hc1
  have hb := hA.hb
  have hs2 := hc1.size
  obtain ⟨n, hn⟩ : ∃ n, n = min (a.num 0 1) 9999 := ⟨_, rfl⟩
  have hn1 : 1 ≤ n ∧ n ≤ 9999 := by omega
  simp -dsimp (disch := first | omega | (simp only [go_sem, seval]; first | done | omega)) only [go_sem, seval, ha1, hp1, hb]
  rw [← hn]
  have hz : (w2.alloc (.cells #[.int .i64 n] 3)).drew.heap.size = w2.heap.size + 1 := by simp -dsimp (disch := first | omega | (simp only [go_sem, seval]; first | done | omega)) only [go_sem, seval]
  rw [hz]
  obtain ⟨w3, hw3⟩ : ∃ w3, w3 = ((w2.alloc (.cells #[.int .i64 n] 3)).alloc (.cells #[.int .i64 M.S.now.x] 3)).drew := ⟨_, rfl⟩
  rw [← hw3]
  have hc3 : Chg [] w2 w3 := by rw [hw3]; exact (chg_a2 _ _ _).drew
  have hn3 : w3.heap[w2.heap.size]? = some (.cells #[.int .i64 n] 3) := by rw [hw3]; simp -dsimp (disch := first | omega | (simp only [go_sem, seval]; first | done | omega)) only [go_sem, seval]
  have hx3 : w3.heap[w2.heap.size + 1]? = some (.cells #[.int .i64 M.S.now.x] 3) := by rw [hw3]; simp -dsimp (disch := first | omega | (simp only [go_sem, seval]; first | done | omega)) only [go_sem, seval]
  clear hw3 hz
  replace hp1 := hc3.keep hp1 (by simp)
  replace ha1 := hc3.keep ha1 (by simp)
  replace hA := hA.chg0 hc3
  replace hb := hA.hb
  replace hc1 := hc1.trans0 hc3
  have hop : w.heap.size ∉ s :: M.blk := fun hm => by have := hlt _ hm; omega
  have hoa : w.heap.size + 1 ∉ s :: M.blk := fun hm => by have := hlt _ hm; omega
  have hon : w2.heap.size ∉ s :: M.blk := fun hm => by have := hlt _ hm; omega
  have hox : w2.heap.size + 1 ∉ s :: M.blk := fun hm => by have := hlt _ hm; omega
  have hlx := lt_of_heap hx3
  clear hc3
  have hAn : ∀ w', Chg [w2.heap.size] w3 w' → SAt w' s M := fun w' hc => hA.chg hc (fun x hx hm => hon (by rw [← List.mem_singleton.1 hm]; exact hx)) (fun r hr b o hb' hne hm => by
    have h9 := h.row_lt r hr b o hb' hne
    have h8 := List.mem_singleton.1 hm
    omega)
  have base : ∀ w' T, Did w3 s M w' T → Did w s M w' T := fun w' T hd => Did.trans (M1 := M) (hc1.mono (by simp)) (fun b hb => .inl hb) hd
  refine Join0.cut (fun w' => ∃ T, Did w s M w' T ∧ M.S.changed a = some T) ?_ ?_
  · refine Join0.cut (fun w' => ∃ k : Int, (-9999 ≤ k ∧ k ≤ 9999) ∧ Chg [w2.heap.size] w3 w' ∧ w'.heap[w2.heap.size]? = some (.cells #[.int .i64 k] 3) ∧ M.S.changed a = some (M.S.line fun g => g.shift M.S.now.x 0 k M.S.free)) ?_ ?_
    · refine Join0.cut (fun w' => ∃ k : Int, (-9999 ≤ k ∧ k ≤ 9999) ∧ Chg [w2.heap.size] w3 w' ∧ w'.heap[w2.heap.size]? = some (.cells #[.int .i64 k] 3) ∧ M.S.changed a = some (M.S.shiftRows k)) ?_ ?_
      · refine Join0.cut (fun w' => ∃ T : Scr, Did w3 s M w' T ∧ T.now = M.S.now ∧ T.ok ∧ M.S.changed a = some (T.wipeLine (a.num 0 0))) ?_ ?_
        · simp -dsimp (disch := first | omega | (simp only [go_sem, seval]; first | done | omega)) only [go_sem, seval]
          refine BrW.dec (fun c1 => ?_) (fun c1 => ?_)
          · simp -dsimp (disch := first | omega | (simp only [go_sem, seval]; first | done | omega)) only [go_sem, seval, ha1]
            have e : M.S.changed a = some ((M.S.wipeRows (a.num 0 0)).wipeLine (a.num 0 0)) := by unfold Scr.changed; dsimp only; rw [if_pos c1]
            refine OpX.call escape_Num_b rfl (Calls.ret (snum_c _ a 0 0) ?_)
            rintro v w4 ⟨rfl, hc4⟩
            have hp4 := hc4.keep hp1 (by simp)
            have hA4 := hA.chg0 hc4
            have hb4 := hA4.hb
            have fin : ∀ w', Did w4 s M w' (M.S.wipeRows (a.num 0 0)) → ∃ T : Scr, Did w3 s M w' T ∧ T.now = M.S.now ∧ T.ok ∧ M.S.changed a = some (T.wipeLine (a.num 0 0)) := fun w' hd => ⟨_, Did.trans (M1 := M) (hc4.mono (by simp)) (fun b hb => .inl hb) hd, wipeRows_now _ _, ok.wipeRows.ok, e⟩
            unfold Scr.wipeRows at fin
            simp -dsimp (disch := first | omega | (simp only [go_sem, seval]; first | done | omega)) only [go_sem, seval]
            refine BrW.dec (fun d1 => ?_) (fun d1 => ?_)
            · rw [if_pos d1] at fin
              simp -dsimp (disch := first | omega | (simp only [go_sem, seval]; first | done | omega)) only [go_sem, seval, hp4, hb4]
              refine OpX.call screen_Screen_clear_b rfl (Calls.ret (sclear_c (hA4.chg0 (Chg.refl _ _).drew) ok (M.S.now.y + 1) M.S.h (by omega) (by omega)) ?_)
              rintro v w5 hd
              exact fin _ (Did.trans (M1 := M) (Chg.refl _ _).drew (fun b hb => .inl hb) hd)
            rw [if_neg d1] at fin
            simp -dsimp (disch := first | omega | (simp only [go_sem, seval]; first | done | omega)) only [go_sem, seval]
            refine BrW.dec (fun d2 => ?_) (fun d2 => ?_)
            · rw [if_pos d2] at fin
              simp -dsimp (disch := first | omega | (simp only [go_sem, seval]; first | done | omega)) only [go_sem, seval, hp4, hb4]
              refine OpX.call screen_Screen_clear_b rfl (Calls.ret (sclear_c hA4 ok 0 M.S.now.y (by omega) (by omega)) ?_)
              rintro v w5 hd
              exact fin _ hd
            rw [if_neg d2] at fin
            simp -dsimp (disch := first | omega | (simp only [go_sem, seval]; first | done | omega)) only [go_sem, seval]
            refine BrW.dec (fun d3 => ?_) (fun d3 => ?_)
            · rw [if_pos d3] at fin
              simp -dsimp (disch := first | omega | (simp only [go_sem, seval]; first | done | omega)) only [go_sem, seval, hp4, hb4]
              refine OpX.call screen_Screen_clear_b rfl (Calls.ret (sclear_c (hA4.chg0 (Chg.refl _ _).drew) ok 0 M.S.h (by omega) (by omega)) ?_)
              rintro v w5 hd
              exact fin _ (Did.trans (M1 := M) (Chg.refl _ _).drew (fun b hb => .inl hb) hd)
            rw [if_neg d3] at fin
            exact fin _ (Did.refl hA4)
          simp -dsimp (disch := first | omega | (simp only [go_sem, seval]; first | done | omega)) only [go_sem, seval]
          refine BrW.dec (fun c2 => ?_) (fun c2 => ?_)
          · exact ⟨_, Did.refl hA, rfl, ok, by unfold Scr.changed; dsimp only; rw [if_neg c1, if_pos c2]⟩
          simp -dsimp (disch := first | omega | (simp only [go_sem, seval]; first | done | omega)) only [go_sem, seval]
          refine BrW.dec (fun c3 => ?_) (fun c3 => ?_)
          · simp -dsimp (disch := first | omega | (simp only [go_sem, seval]; first | done | omega)) only [go_sem, seval, hn3]
            exact ⟨-n, by omega, (Chg.refl _ _).set _ _ (by simp), (by simp -dsimp (disch := first | omega | (simp only [go_sem, seval]; first | done | omega)) only [go_sem, seval]), by unfold Scr.changed; dsimp only; rw [if_neg c1, if_neg c2, if_pos c3, hn]⟩
          simp -dsimp (disch := first | omega | (simp only [go_sem, seval]; first | done | omega)) only [go_sem, seval]
          refine BrW.dec (fun c4 => ?_) (fun c4 => ?_)
          · exact ⟨n, by omega, Chg.refl _ _, hn3, by unfold Scr.changed; dsimp only; rw [if_neg c1, if_neg c2, if_neg c3, if_pos c4, hn]⟩
          simp -dsimp (disch := first | omega | (simp only [go_sem, seval]; first | done | omega)) only [go_sem, seval]
          refine BrW.dec (fun c5 => ?_) (fun c5 => ?_)
          · simp -dsimp (disch := first | omega | (simp only [go_sem, seval]; first | done | omega)) only [go_sem, seval, hn3]
            exact ⟨-n, by omega, (Chg.refl _ _).set _ _ (by simp), (by simp -dsimp (disch := first | omega | (simp only [go_sem, seval]; first | done | omega)) only [go_sem, seval]), by unfold Scr.changed; dsimp only; rw [if_neg c1, if_neg c2, if_neg c3, if_neg c4, if_pos c5, hn]⟩
          simp -dsimp (disch := first | omega | (simp only [go_sem, seval]; first | done | omega)) only [go_sem, seval]
          refine BrW.dec (fun c6 => ?_) (fun c6 => ?_)
          · exact ⟨n, by omega, Chg.refl _ _, hn3, by unfold Scr.changed; dsimp only; rw [if_neg c1, if_neg c2, if_neg c3, if_neg c4, if_neg c5, if_pos c6, hn]⟩
          simp -dsimp (disch := first | omega | (simp only [go_sem, seval]; first | done | omega)) only [go_sem, seval]
          refine BrW.dec (fun c7 => ?_) (fun c7 => ?_)
          · simp -dsimp (disch := first | omega | (simp only [go_sem, seval]; first | done | omega)) only [go_sem, seval, hp1, hx3, hn3]
            refine OpX.call screen_Screen_erase_b rfl (Calls.ret (serase_c hA ok M.S.now.x n (by omega) (by omega)) ?_)
            rintro v w4 hd
            exact ⟨_, base _ _ hd, by unfold Scr.changed; dsimp only; rw [if_neg c1, if_neg c2, if_neg c3, if_neg c4, if_neg c5, if_neg c6, if_pos c7, hn]⟩
          simp -dsimp (disch := first | omega | (simp only [go_sem, seval]; first | done | omega)) only [go_sem, seval]
          refine BrW.dec (fun c8 => ?_) (fun c8 => ?_)
          · simp -dsimp (disch := first | omega | (simp only [go_sem, seval]; first | done | omega)) only [go_sem, seval, hp1, hn3]
            refine OpX.call screen_Screen_up_b rfl (Calls.ret (sup_c hA ok n) ?_)
            rintro v w4 hd
            exact ⟨_, base _ _ hd, by unfold Scr.changed; dsimp only; rw [if_neg c1, if_neg c2, if_neg c3, if_neg c4, if_neg c5, if_neg c6, if_neg c7, if_pos c8, hn]⟩
          simp -dsimp (disch := first | omega | (simp only [go_sem, seval]; first | done | omega)) only [go_sem, seval]
          refine BrW.dec (fun c9 => ?_) (fun c9 => ?_)
          · simp -dsimp (disch := first | omega | (simp only [go_sem, seval]; first | done | omega)) only [go_sem, seval, hp1, hn3, hb]
            refine OpX.call screen_Screen_scroll_b rfl (Calls.ret (sscroll_c (hA.chg0 (Chg.refl _ _).drew) ok M.S.top (-n)) ?_)
            rintro v w4 hd
            exact ⟨_, base _ _ (Did.trans (M1 := M) (Chg.refl _ _).drew (fun b hb => .inl hb) hd), by unfold Scr.changed; dsimp only; rw [if_neg c1, if_neg c2, if_neg c3, if_neg c4, if_neg c5, if_neg c6, if_neg c7, if_neg c8, if_pos c9, hn]⟩
          simp -dsimp (disch := first | omega | (simp only [go_sem, seval]; first | done | omega)) only [go_sem, seval]
          refine BrW.dec (fun c10 => ?_) (fun c10 => ?_)
          · simp -dsimp (disch := first | omega | (simp only [go_sem, seval]; first | done | omega)) only [go_sem, seval, hp1, hn3, ha1]
            refine OpX.call escape_Num_b rfl (Calls.ret (snum_c _ a 1 0) ?_)
            rintro v w4 ⟨rfl, hc4⟩
            have hc5 : Chg [] w3 w4 := (Chg.refl _ _).drew.trans0 hc4
            have hp4 := hc5.keep hp1 (by simp)
            have hn4 := hc5.keep hn3 (by simp)
            simp -dsimp (disch := first | omega | (simp only [go_sem, seval]; first | done | omega)) only [go_sem, seval, hp4, hn4]
            refine OpX.call screen_Screen_region_b rfl (Calls.ret (sregion_c (hA.chg0 hc5) ok (n - 1) (a.num 1 0) (by omega) (by omega) (by omega) (by omega)) ?_)
            rintro v w5 hd
            exact ⟨_, base _ _ (Did.trans (M1 := M) (hc5.mono (by simp)) (fun b hb => .inl hb) hd), by unfold Scr.changed; dsimp only; rw [if_neg c1, if_neg c2, if_neg c3, if_neg c4, if_neg c5, if_neg c6, if_neg c7, if_neg c8, if_neg c9, if_pos c10, hn]⟩
          have e : M.S.changed a = none := by
            unfold Scr.changed
            dsimp only
            rw [if_neg c1, if_neg c2, if_neg c3, if_neg c4, if_neg c5, if_neg c6, if_neg c7, if_neg c8, if_neg c9, if_neg c10]
          rw [e] at hK
          exact hK _ _ ⟨rfl, Did.trans (M1 := M) (hc1.mono (by simp)) (fun b hb => .inl hb) (Did.refl hA)⟩
        · rintro w4 ⟨T, hd, hnw, ok4, e⟩
          have hp4 := hd.keep hp1 hop
          have ha4 := hd.keep ha1 hoa
          have hx4 := hd.keep hx3 hox
          obtain ⟨M4, hA4, rfl, hc4, hbl4⟩ := hd
          simp -dsimp (disch := first | omega | (simp only [go_sem, seval]; first | done | omega)) only [go_sem, seval, ha4]
          refine OpX.call escape_Num_b rfl (Calls.ret (snum_c _ a 0 0) ?_)
          rintro v w5 ⟨rfl, hc5⟩
          have hp5 := hc5.keep hp4 (by simp)
          have hx5 := hc5.keep hx4 (by simp)
          have hA5 := hA4.chg0 hc5
          have hb5 := hA5.hb
          have w15 := ok4.w1
          have nx5 := ok4.nx
          rw [hnw] at nx5
          have fin : ∀ w', Did w5 s M4 w' (M4.S.wipeLine (a.num 0 0)) → ∃ T, Did w s M w' T ∧ M.S.changed a = some T := fun w' hd => ⟨_, base _ _ (Did.trans hc4 hbl4 (Did.trans (M1 := M4) (hc5.mono (by simp)) (fun b hb => .inl hb) hd)), e⟩
          unfold Scr.wipeLine at fin
          rw [hnw] at fin
          simp -dsimp (disch := first | omega | (simp only [go_sem, seval]; first | done | omega)) only [go_sem, seval]
          refine BrW.dec (fun d1 => ?_) (fun d1 => ?_)
          · rw [if_pos d1] at fin
            simp -dsimp (disch := first | omega | (simp only [go_sem, seval]; first | done | omega)) only [go_sem, seval, hp5, hb5, hx5]
            refine OpX.call screen_Screen_erase_b rfl (Calls.ret (serase_c (hA5.chg0 (Chg.refl _ _).drew) ok4 M.S.now.x M4.S.w (by omega) (by omega)) ?_)
            rintro v w6 hd
            exact fin _ (Did.trans (M1 := M4) (Chg.refl _ _).drew (fun b hb => .inl hb) hd)
          rw [if_neg d1] at fin
          simp -dsimp (disch := first | omega | (simp only [go_sem, seval]; first | done | omega)) only [go_sem, seval]
          refine BrW.dec (fun d2 => ?_) (fun d2 => ?_)
          · rw [if_pos d2] at fin
            simp -dsimp (disch := first | omega | (simp only [go_sem, seval]; first | done | omega)) only [go_sem, seval, hp5, hb5, hx5]
            refine OpX.call screen_Screen_erase_b rfl (Calls.ret (serase_c hA5 ok4 0 (M.S.now.x + 1) (by omega) (by omega)) ?_)
            rintro v w6 hd
            exact fin _ hd
          rw [if_neg d2] at fin
          simp -dsimp (disch := first | omega | (simp only [go_sem, seval]; first | done | omega)) only [go_sem, seval]
          refine BrW.dec (fun d3 => ?_) (fun d3 => ?_)
          · rw [if_pos d3] at fin
            simp -dsimp (disch := first | omega | (simp only [go_sem, seval]; first | done | omega)) only [go_sem, seval, hp5, hb5, hx5]
            refine OpX.call screen_Screen_erase_b rfl (Calls.ret (serase_c (hA5.chg0 (Chg.refl _ _).drew) ok4 0 M4.S.w (by omega) (by omega)) ?_)
            rintro v w6 hd
            exact fin _ (Did.trans (M1 := M4) (Chg.refl _ _).drew (fun b hb => .inl hb) hd)
          rw [if_neg d3] at fin
          exact fin _ (Did.refl hA5)
      · rintro w4 ⟨k, hk, hc4, hn4, e⟩
        have hp4 := hc4.keep hp1 (by simp; omega)
        have hA4 := hAn w4 hc4
        have hb4 := hA4.hb
        have hl4 := lt_of_heap hb4
        have hc5 : Chg [] w w4 := hc1.trans hc4 (by simp; omega)
        unfold Scr.shiftRows at e
        refine Join1.cut (fun v w' => v = .bool (decide (M.S.top ≤ M.S.now.y ∧ M.S.now.y < M.S.fin)) ∧ w4 = w') ?_ ?_
        · simp -dsimp (disch := first | omega | (simp only [go_sem, seval]; first | done | omega)) only [go_sem, seval, hp4, hb4]
          refine BrW.dec (fun d1 => ?_) (fun d1 => ?_)
          · simp -dsimp (disch := first | omega | (simp only [go_sem, seval]; first | done | omega)) only [go_sem, seval, hp4, hb4]
            exact congrArg Value.bool (decide_eq_decide.2 (by omega))
          · exact ⟨congrArg Value.bool (decide_eq_false (by omega)).symm, rfl⟩
        · rintro v w5 ⟨rfl, rfl⟩
          refine BrW.dec (fun d1 => ?_) (fun d1 => ?_)
          · rw [if_pos d1] at e
            simp -dsimp (disch := first | omega | (simp only [go_sem, seval]; first | done | omega)) only [go_sem, seval, hp4, hn4]
            refine OpX.call screen_Screen_scroll_b rfl (Calls.ret (sscroll_c hA4 ok M.S.now.y (-k)) ?_)
            rintro v w5 hd
            have hp5 := hd.keep hp4 hop
            obtain ⟨M5, hA5, hS5, hc6, hbl5⟩ := hd
            have hb5 := hA5.hb
            have tl5 := hA5.tl
            have hl5 := lt_of_heap hb5
            simp -dsimp (disch := first | omega | (simp only [go_sem, seval]; first | done | omega)) only [go_sem, seval, hp5, hb5]
            have hx5 : M5.S.now = M.S.now := by rw [hS5]; exact setCur_now _
            rw [← hS5, ← hx5] at e
            exact ⟨_, Did.trans (M1 := M) (hc5.mono (by simp)) (fun b hb => .inl hb) (Did.trans hc6 hbl5 (Did.set hA5 (Chg.refl _ _) (fun b hb => .inl hb) _ rfl rfl tl5 rfl)), e⟩
          · rw [if_neg d1] at e
            exact ⟨_, Did.trans (M1 := M) (hc5.mono (by simp)) (fun b hb => .inl hb) (Did.refl hA4), e⟩
    · rintro w4 ⟨k, hk, hc4, hn4, e⟩
      have hp4 := hc4.keep hp1 (by simp; omega)
      have hx4 := hc4.keep hx3 (by simp)
      have hA4 := hAn w4 hc4
      simp -dsimp (disch := first | omega | (simp only [go_sem, seval]; first | done | omega)) only [go_sem, seval, hp4]
      refine OpX.call screen_Screen_line_b rfl (Calls.ret (sline_c hA4 ok (sshift_line hA4 ok hp4 hx4 hn4) (fun _ hg => hg.shift)) ?_)
      rintro v w5 hd
      have hc5 : Chg [] w w4 := hc1.trans hc4 (by simp; omega)
      exact ⟨_, Did.trans (M1 := M) (hc5.mono (by simp)) (fun b hb => .inl hb) hd, e⟩
  · rintro w4 ⟨T, hd, e⟩
    rw [e] at hK
    exact hK _ _ ⟨rfl, hd⟩
end Go.Proofs.YtjfembffjjijaaaGreat
namespace Lyc
open Go
section
variable {P : Program}
theorem tarr_u {t : TypeId} {q : Nat × Nat} (h : tarr P t = some q) : ∃ e, P.underlying t = some (.array q.1 e) ∧ tsize P e = some q.2 := by
  unfold tarr at h
  cases hu : P.underlying t with
  | none => rw [hu] at h; simp at h
  | some d =>
    rw [hu] at h
    cases d <;> simp at h
    obtain ⟨m, hm, rfl⟩ := h
    exact ⟨_, rfl, hm⟩
theorem r_sliceA_hi (t ty : TypeId) (b o : Nat) (q : Nat × Nat) (k : IntKind) (i : Int) (h : tarr P t = some q) (h0 : 0 ≤ i) (h1 : i ≤ q.1) : PureRun P (.slice t (.const (.pointer (some ⟨b, o, none⟩))) none (some (.const (.int k i))) none) ty (.slice (some ⟨b, o, none⟩) i.toNat q.1) := by
  obtain ⟨e, hu, hs⟩ := tarr_u h
  refine ⟨fun ρ hg w => ?_⟩
  simp [execOp, mkOper, hg.1, Instr.sliceAt, Instr.sureAddr, Instr.sliceBounds, Instr.sliceBound, asIntOf, run_underlying hu, run_size hs, h0, h1, Addr.add]
@[go_sem] theorem x_sliceA_hi (t ty : TypeId) (b o : Nat) (k : IntKind) (i : Int) (K : Value → World → Prop) (w : World) (h0 : 0 ≤ i) (h1 : i ≤ ((tarr P t).getD (0, 0)).1) : OpX P (.slice t (.const (.pointer (some ⟨b, o, none⟩))) none (some (.const (.int k i))) none) ty K w = OrK (tarr P t) (fun q => K (.slice (some ⟨b, o, none⟩) i.toNat q.1) w) (OpX P (.slice t (.const (.pointer (some ⟨b, o, none⟩))) none (some (.const (.int k i))) none) ty K w) () :=
  OrK_by (fun q h => (r_sliceA_hi t ty b o q k i h h0 (by rw [h] at h1; exact h1)).op K w) rfl
theorem r_slice3_hi (t ty : TypeId) (a : Option Addr) (len cap n : Nat) (k k' : IntKind) (i q : Int) (h : tslice P t = some n) (h0 : 0 ≤ i) (h1 : i ≤ q) (h2 : q ≤ cap) : PureRun P (.slice t (.const (.slice a len cap)) none (some (.const (.int k i))) (some (.const (.int k' q)))) ty (.slice a i.toNat q.toNat) := by
  obtain ⟨e, hu, hs⟩ := tslice_u h
  refine ⟨fun ρ hg w => ?_⟩
  have h4 : 0 ≤ q := by omega
  have h6 : i ≤ max q 0 := by omega
  cases a with
  | none =>
    simp [execOp, mkOper, hg.1, Instr.sliceAt, Instr.slice, Instr.sliceBounds, Instr.sliceBound, asIntOf, run_underlying hu, run_size hs, h0, h2, h4]
    intro hc; omega
  | some a =>
    obtain ⟨b, o, sp⟩ := a
    simp [execOp, mkOper, hg.1, Instr.sliceAt, Instr.slice, Instr.sliceBounds, Instr.sliceBound, asIntOf, run_underlying hu, run_size hs, h0, h2, h4, Addr.add]
    intro hc; omega
@[go_sem] theorem x_slice3_hi (t ty : TypeId) (a : Option Addr) (len cap : Nat) (k k' : IntKind) (i q : Int) (K : Value → World → Prop) (w : World) (h0 : 0 ≤ i) (h1 : i ≤ q) (h2 : q ≤ cap) : OpX P (.slice t (.const (.slice a len cap)) none (some (.const (.int k i))) (some (.const (.int k' q)))) ty K w = OrK (tslice P t) (fun _ => K (.slice a i.toNat q.toNat) w) (OpX P (.slice t (.const (.slice a len cap)) none (some (.const (.int k i))) (some (.const (.int k' q)))) ty K w) () :=
  OrK_by (fun n h => (r_slice3_hi t ty a len cap n k k' i q h h0 h1 h2).op K w) rfl
end
theorem wrap_u8_bv (x : Int) : IntKind.u8.wrap x = ((BitVec.ofInt 8 x).toNat : Int) := by
  rw [BitVec.toNat_ofInt]
  show x % 256 = _
  omega
end Lyc
namespace Go.Proofs.YtjfembffjjijaaaGreat
open Lyc Go
theorem pcolour_c (w : World) (n : Int) : Calls Tryz.prog 145 #[.int .i64 n] w (retK fun v w' => v = .int .u8 (hue n).toNat ∧ w = w') := by
  apply pen_colour_link
  intro K hK
  unfold pen_colour
  simp -dsimp (disch := first | omega | (simp only [go_sem, seval]; first | done | omega)) only [go_sem, seval]
  refine hK _ _ ⟨?_, rfl⟩
  rw [wrap_u8_bv]
  rfl
theorem ppart_c (w : World) (n : Int) : Calls Tryz.prog 153 #[.int .i64 n] w (retK fun v w' => v = .int .i64 (part43 n) ∧ w = w') := by
  apply pen_Colour_1_link
  intro K hK
  unfold pen_Colour_1
  simp -dsimp (disch := first | omega | (simp only [go_sem, seval]; first | done | omega)) only [go_sem, seval]
  have e : (min (max n 0) 255).tdiv 43 = part43 n := by unfold part43; rw [Int.tdiv_eq_ediv_of_nonneg (by omega)]
  have hb : 0 ≤ part43 n ∧ part43 n ≤ 255 := by unfold part43; omega
  rw [e, wrap_i64 _ (by omega) (by omega)]
  exact hK _ _ ⟨rfl, rfl⟩
theorem part43_bd (n : Int) : 0 ≤ part43 n ∧ part43 n ≤ 5 := by unfold part43; omega
theorem pColour_c (w : World) (r g b : Int) : Calls Tryz.prog 146 #[.int .i64 r, .int .i64 g, .int .i64 b] w (retK fun v w' => v = .int .u8 (rgb r g b).toNat ∧ w = w') := by
  have h1 := part43_bd r
  have h2 := part43_bd g
  have h3 := part43_bd b
  apply pen_Colour_link
  intro K hK
  unfold pen_Colour
  refine OpX.callV (us := []) (cs := []) pen_Colour_1_b rfl (Calls.ret (ppart_c w r) ?_)
  rintro v w1 ⟨rfl, rfl⟩
  simp -dsimp (disch := first | omega | (simp only [go_sem, seval]; first | done | omega)) only [go_sem, seval]
  refine OpX.callV (us := []) (cs := []) pen_Colour_1_b rfl (Calls.ret (ppart_c w g) ?_)
  rintro v w1 ⟨rfl, rfl⟩
  simp -dsimp (disch := first | omega | (simp only [go_sem, seval]; first | done | omega)) only [go_sem, seval]
  refine OpX.callV (us := []) (cs := []) pen_Colour_1_b rfl (Calls.ret (ppart_c w b) ?_)
  rintro v w1 ⟨rfl, rfl⟩
  simp -dsimp (disch := first | omega | (simp only [go_sem, seval]; first | done | omega)) only [go_sem, seval]
  refine hK _ _ ⟨congrArg (Value.int .u8) ?_, rfl⟩
  unfold rgb
  rw [← wrap_u8_bv, wrap_u8 _ (by omega) (by omega)]
section
attribute [-go_sem] x_build x_buildA
theorem pways_c (w : World) : Calls Tryz.prog 147 #[] w (retK fun v w' => v = .agg #[.int .u8 0, .int .u8 1, .int .u8 2, .int .u8 4, .int .u8 8, .int .u8 16, .int .u8 0, .int .u8 32] ∧ Chg [] w w') := by
  apply pen_ways_link
  intro K hK
  unfold pen_ways
  simp -dsimp (disch := first | omega | (simp only [go_sem, seval]; first | done | omega)) only [go_sem, seval]
  refine OpX.build (c := #[.int .u8 0, .int .u8 1, .int .u8 2, .int .u8 4, .int .u8 8, .int .u8 16, .int .u8 0, .int .u8 32]) (by kernel_rfl) ?_
  simp -dsimp (disch := first | omega | (simp only [go_sem, seval]; first | done | omega)) only [go_sem, seval]
  exact hK _ _ ⟨rfl, (Chg.refl _ _).alloc _⟩
end
def fI (n : Int) : List Value := [.int .i64 n]
def LeftAt (w : World) (b5 : Nat) (l : List Int) : Prop := ∃ g o cap, w.heap[b5]? = some (.cells #[.slice (some ⟨g, o, none⟩) l.length cap] 52) ∧ l.length ≤ cap ∧ l.length ≤ 8 ∧ g ≠ b5 ∧ ∃ e, (e = 34 ∨ e = 3) ∧ Sx w (some e) fI (some ⟨g, o, none⟩) l
theorem LeftAt.chg0 {w w' : World} {b5 : Nat} {l : List Int} (h : LeftAt w b5 l) (hc : Chg [] w w') : LeftAt w' b5 l := by
  obtain ⟨g, o, cap, h1, h2, h3, h4, e, he, h5⟩ := h
  exact ⟨g, o, cap, hc.keep h1 (by simp), h2, h3, h4, e, he, h5.chg0 hc⟩
theorem LeftAt.low {w w' : World} {b b5 : Nat} {l : List Int} (h : LeftAt w b5 l) (hc : Chg [b] w w') (hb : b ≠ b5) {c : Array Value} {fr : Nat × Nat} (hg : w.heap[b]? = some (.cells c 70 fr)) : LeftAt w' b5 l := by
  obtain ⟨g, o, cap, h1, h2, h3, h4, e, he, h5⟩ := h
  refine ⟨g, o, cap, hc.keep h1 (by simp; omega), h2, h3, h4, e, he, h5.chg hc ?_⟩
  intro b' o' ha hne hm
  rw [List.mem_singleton.1 hm] at ha
  rcases he with rfl | rfl
  · exact h5.ne ha hne hg rfl rfl
  · exact h5.ne ha hne hg rfl rfl
theorem ptake_c {w : World} {b5 : Nat} {l : List Int} (hL : LeftAt w b5 l) (k : Nat) (hk : k ≤ 8) : Calls Tryz.prog 133 #[.int .i64 k, .pointer (some ⟨b5, 0, none⟩)] w
    (retK fun v w' => (∃ g o cap, v = .slice (some ⟨g, o, none⟩) (l.take k).length cap ∧ g ≠ b5 ∧ Sx w' none fI (some ⟨g, o, none⟩) (l.take k)) ∧ LeftAt w' b5 (l.drop k) ∧ Chg [b5] w w') := by
  obtain ⟨g, o, cap, h1, h2, h3, h4, e5, he5, h5⟩ := hL
  have hl := lt_of_heap h1
  apply pen_Apply_1_link
  intro K hK
  unfold pen_Apply_1
  have e : min (k : Int) (l.length : Int) = ((min k l.length : Nat) : Int) := by omega
  simp -dsimp (disch := first | omega | (simp only [go_sem, seval]; first | done | omega)) only [go_sem, seval, h1, e]
  have hc : Chg [b5] w (setBlk w b5 (.cells #[.slice (some ⟨g, slo o cap (min k l.length) 1, none⟩) (l.length - min k l.length) (cap - min k l.length)] 52)) := (Chg.refl _ _).set _ _ (by simp)
  have h5' := h5.chg hc (fun b o' ha hne hm => by cases ha; exact h4 (List.mem_singleton.1 hm))
  have ht : l.take k = (l.drop 0).take (min k l.length) := by rw [List.drop_zero]; exact (List.take_eq_take_min ..).trans (by rfl)
  have hd : l.drop k = (l.drop (min k l.length)).take (l.length - min k l.length) := by
    rcases Nat.le_total k l.length with hkl | hkl
    · rw [Nat.min_eq_left hkl, List.take_of_length_le (by simp)]
    · rw [Nat.min_eq_right hkl, List.drop_eq_nil_of_le hkl, List.drop_eq_nil_of_le (Nat.le_refl _)]; simp
  refine hK _ _ ⟨⟨g, o, min k l.length, by rw [List.length_take], h4, ?_⟩, ⟨g, slo o cap (min k l.length) 1, cap - min k l.length, ?_, ?_, ?_, h4, e5, he5, ?_⟩, hc⟩
  · rw [ht]
    exact (h5'.sub (m := 1) (fun _ => rfl) 0 _ _ (.inr (.inr (by simp)))).untag
  · have : (l.drop k).length = l.length - min k l.length := by rw [List.length_drop]; omega
    rw [this]
    simp -dsimp (disch := first | omega | (simp only [go_sem, seval]; first | done | omega)) only [go_sem, seval]
  · rw [List.length_drop]; omega
  · rw [List.length_drop]; omega
  · rw [hd]
    refine h5'.sub (m := 1) (fun _ => rfl) (min k l.length) _ _ ?_
    unfold slo
    split
    · left; omega
    · right; right; rfl
theorem fI_cell {w : World} {g o : Nat} {l : List Int} (h : Sx w none fI (some ⟨g, o, none⟩) l) {i : Nat} {n : Int} (hi : l[i]? = some n) : cellAt w.heap[g]? (o + i) = some (.int .i64 n) := by
  obtain ⟨b, o', h1, h2, h3⟩ := h.get1 (g := fun n => Value.int .i64 n) (fun _ => rfl) hi
  cases h1; exact h3
def takeF (b5 : Nat) : Value := .func (.func 133) #[] #[.pointer (some ⟨b5, 0, none⟩)]
theorem pchosen_c {w : World} {b5 : Nat} {l : List Int} (hL : LeftAt w b5 l) : Calls Tryz.prog 134 #[takeF b5] w
    (retK fun v w' => v = .tuple #[.int .u8 ((chosenP l).1.getD 0).toNat, .bool (chosenP l).1.isSome] ∧ LeftAt w' b5 (chosenP l).2 ∧ Chg [b5] w w') := by
  apply pen_chosen_link
  intro K hK
  unfold pen_chosen
  refine OpX.callV (us := []) (cs := [_]) pen_Apply_1_b rfl (Calls.ret (ptake_c hL 1 (by omega)) ?_)
  rintro v w1 ⟨⟨g, o, cap, rfl, hg, hs⟩, hL1, hc1⟩
  have last : ∀ (w2 : World) (l2 : List Int), Chg [b5] w w2 → LeftAt w2 b5 l2 → chosenP l = (none, []) → OpX Tryz.prog (.call { callee := .value (.const (takeF b5)), args := #[.const (.int .i64 8)], argTypes := #[3] }) 52 (fun _ => K (.tuple #[(.int .u8 0), (.bool false)])) w2 := by
    intro w2 l2 hc2 hL2 e
    have hl2 : l2.length ≤ 8 := by obtain ⟨_, _, _, _, _, h3, _⟩ := hL2; exact h3
    refine OpX.callV (us := []) (cs := [_]) pen_Apply_1_b rfl (Calls.ret (ptake_c hL2 8 (by omega)) ?_)
    rintro v w3 ⟨-, hL3, hc3⟩
    rw [List.drop_eq_nil_of_le hl2] at hL3
    refine hK _ _ ⟨by rw [e]; rfl, by rw [e]; exact hL3, hc2.trans hc3 (by simp)⟩
  rcases l with _ | ⟨n, l⟩
  · refine Join0.cut (fun w' => w1 = w') ?_ ?_
    · refine Join1.cut (fun v w' => v = .bool false ∧ w1 = w') ?_ ?_
      · simp -dsimp (disch := first | omega | (simp only [go_sem, seval]; first | done | omega)) only [go_sem, seval]
        exact BrW.dec (fun h => by simp at h) (fun _ => ⟨rfl, rfl⟩)
      · rintro v w2 ⟨rfl, rfl⟩
        simp -dsimp (disch := first | omega | (simp only [go_sem, seval]; first | done | omega)) only [go_sem, seval]
    · rintro w2 rfl
      refine Join0.cut (fun w' => w1 = w') ?_ ?_
      · refine Join1.cut (fun v w' => v = .bool false ∧ w1 = w') ?_ ?_
        · simp -dsimp (disch := first | omega | (simp only [go_sem, seval]; first | done | omega)) only [go_sem, seval]
          exact BrW.dec (fun h => by simp at h) (fun _ => ⟨rfl, rfl⟩)
        · rintro v w2 ⟨rfl, rfl⟩
          simp -dsimp (disch := first | omega | (simp only [go_sem, seval]; first | done | omega)) only [go_sem, seval]
      · rintro w2 rfl
        exact last _ _ hc1 hL1 rfl
  · have e1 : (n :: l).take 1 = [n] := rfl
    have e2 : (n :: l).drop 1 = l := rfl
    rw [e1] at hs ⊢
    rw [e2] at hL1
    have hcell := fI_cell hs (i := 0) rfl
    simp only [Nat.add_zero] at hcell
    refine Join0.cut (fun w' => (∃ l2, LeftAt w' b5 l2 ∧ (n ≠ 5 → l2 = l)) ∧ (n = 5 → chosenP (n :: l) = (none, [])) ∧ Chg [b5] w w' ∧ Sx w' none fI (some ⟨g, o, none⟩) [n]) ?_ ?_
    · refine Join1.cut (fun v w' => v = .bool (decide (n = 5)) ∧ w1 = w') ?_ ?_
      · simp -dsimp (disch := first | omega | (simp only [go_sem, seval]; first | done | omega)) only [go_sem, seval, hcell]
      · rintro v w2 ⟨rfl, rfl⟩
        refine BrW.dec (fun h5 => ?_) (fun h5 => ?_)
        · subst h5
          refine OpX.callV (us := []) (cs := [_]) pen_Apply_1_b rfl (Calls.ret (ptake_c hL1 1 (by omega)) ?_)
          rintro v w2 ⟨⟨g2, o2, cap2, rfl, hg2, hs2⟩, hL2, hc2⟩
          have hs' := hs.chg hc2 (fun b o' ha hne hm => by cases ha; exact hg (List.mem_singleton.1 hm))
          have hc3 := hc1.trans hc2 (by simp)
          rcases l with _ | ⟨m, l⟩
          · simp -dsimp (disch := first | omega | (simp only [go_sem, seval]; first | done | omega)) only [go_sem, seval]
            refine BrW.dec (fun h => by simp at h) (fun _ => ?_)
            exact ⟨⟨_, hL2, fun h => absurd rfl h⟩, fun _ => rfl, hc3, hs'⟩
          · have e3 : (m :: l).take 1 = [m] := rfl
            have e4 : (m :: l).drop 1 = l := rfl
            rw [e3] at hs2 ⊢
            rw [e4] at hL2
            have hcell2 := fI_cell hs2 (i := 0) rfl
            simp only [Nat.add_zero] at hcell2
            simp -dsimp (disch := first | omega | (simp only [go_sem, seval]; first | done | omega)) only [go_sem, seval, hcell2]
            refine Join1.cut (fun v w' => v = .bool (decide (m < 0 ∨ 255 < m)) ∧ w2 = w') ?_ ?_
            · simp -dsimp (disch := first | omega | (simp only [go_sem, seval]; first | done | omega)) only [go_sem, seval]
              refine BrW.dec (fun d1 => ?_) (fun d1 => ?_)
              · exact ⟨congrArg Value.bool (decide_eq_true (.inl d1)).symm, rfl⟩
              · simp -dsimp (disch := first | omega | (simp only [go_sem, seval]; first | done | omega)) only [go_sem, seval]
                exact congrArg Value.bool (decide_eq_decide.2 (by omega))
            · rintro v w3 ⟨rfl, rfl⟩
              refine BrW.dec (fun d1 => ?_) (fun d1 => ?_)
              · have e : chosenP (5 :: m :: l) = (none, l) := by unfold chosenP; simp; omega
                rw [e] at hK
                exact hK _ _ ⟨rfl, hL2, hc3⟩
              · have e : chosenP (5 :: m :: l) = (some (hue m), l) := by unfold chosenP; simp; omega
                rw [e] at hK
                refine OpX.call pen_colour_b rfl (Calls.ret (pcolour_c w2 m) ?_)
                rintro v w3 ⟨rfl, rfl⟩
                exact hK _ _ ⟨rfl, hL2, hc3⟩
        · exact ⟨⟨_, hL1, fun _ => rfl⟩, fun h => absurd h h5, hc1, hs⟩
    · rintro w2 ⟨⟨l2, hL2, hl2⟩, h5, hc2, hs2⟩
      have hcell2 := fI_cell hs2 (i := 0) rfl
      simp only [Nat.add_zero] at hcell2
      refine Join0.cut (fun w' => (∃ l2, LeftAt w' b5 l2) ∧ chosenP (n :: l) = (none, []) ∧ Chg [b5] w w') ?_ ?_
      · refine Join1.cut (fun v w' => v = .bool (decide (n = 2)) ∧ w2 = w') ?_ ?_
        · simp -dsimp (disch := first | omega | (simp only [go_sem, seval]; first | done | omega)) only [go_sem, seval, hcell2]
        · rintro v w3 ⟨rfl, rfl⟩
          refine BrW.dec (fun d1 => ?_) (fun d1 => ?_)
          · subst d1
            have := hl2 (by decide)
            subst this
            refine OpX.callV (us := []) (cs := [_]) pen_Apply_1_b rfl (Calls.ret (ptake_c hL2 3 (by omega)) ?_)
            rintro v w3 ⟨⟨g3, o3, cap3, rfl, hg3, hs3⟩, hL3, hc3⟩
            have hc4 := hc2.trans hc3 (by simp)
            simp -dsimp (disch := first | omega | (simp only [go_sem, seval]; first | done | omega)) only [go_sem, seval]
            refine BrW.dec (fun h => ?_) (fun h => ?_)
            · rcases l2 with _ | ⟨r, _ | ⟨gg, _ | ⟨bb, l3⟩⟩⟩
              · simp at h
              · simp at h
              · simp at h
              have e3 : (r :: gg :: bb :: l3).take 3 = [r, gg, bb] := rfl
              rw [e3] at hs3 ⊢
              have q0 := fI_cell hs3 (i := 0) rfl
              have q1 := fI_cell hs3 (i := 1) rfl
              have q2 := fI_cell hs3 (i := 2) rfl
              simp only [Nat.add_zero] at q0
              have e : chosenP (2 :: r :: gg :: bb :: l3) = (some (rgb r gg bb), l3) := rfl
              rw [e] at hK
              simp -dsimp (disch := first | omega | (simp only [go_sem, seval]; first | done | omega)) only [go_sem, seval, q0, q1, q2]
              refine OpX.call pen_Colour_b rfl (Calls.ret (pColour_c _ r gg bb) ?_)
              rintro v w4 ⟨rfl, rfl⟩
              exact hK _ _ ⟨rfl, hL3.chg0 (Chg.refl _ _).drew, hc4.drew⟩
            · refine ⟨⟨_, hL3⟩, ?_, hc4⟩
              rcases l2 with _ | ⟨r, _ | ⟨gg, _ | ⟨bb, l3⟩⟩⟩
              · rfl
              · rfl
              · rfl
              · simp at h
          · refine ⟨⟨_, hL2⟩, ?_, hc2⟩
            by_cases h : n = 5
            · exact h5 h
            · unfold chosenP
              split
              · simp_all
              · simp_all
              · rfl
      · rintro w3 ⟨⟨l3, hL3⟩, e, hc3⟩
        exact last _ _ hc3 hL3 e
def ObeyR (w : World) (d : Cel) (w' : World) : Prop := Chg [] w w' ∧ w'.heap[w.heap.size]? = some (.cells d.cells.toArray 70) ∧ w'.heap[w.heap.size + 1]? = some (.cells #[.int .i32 0, .int .u8 0, .int .u8 0, .int .u8 0] 70)
theorem pobey_c (w : World) (c : Cel) (n : Int) (n0 : i64ok n) : Calls Tryz.prog 135 #[c.val, .int .i64 n] w (retK fun v w' => v = (obeyP c n).val ∧ Chg [] w w') := by
  unfold i64ok at n0
  apply pen_obey_link
  intro K hK
  unfold pen_obey
  simp -dsimp (disch := first | omega | (simp only [go_sem, seval]; first | done | omega)) only [go_sem, seval]
  have hc1 : Chg [] w ((w.alloc (.cells c.cells.toArray 70)).alloc (.cells #[.int .i32 0, .int .u8 0, .int .u8 0, .int .u8 0] 70)) := chg_a2 _ _ _
  have hz : (w.alloc (.cells #[.int .i32 c.r, .int .u8 c.fg.toNat, .int .u8 c.bg.toNat, .int .u8 c.a.toNat] 70)).heap.size = w.heap.size + 1 := by simp -dsimp (disch := first | omega | (simp only [go_sem, seval]; first | done | omega)) only [go_sem, seval]
  rw [hz]
  obtain ⟨w1, hw1⟩ : ∃ w1, w1 = ((w.alloc (.cells #[.int .i32 c.r, .int .u8 c.fg.toNat, .int .u8 c.bg.toNat, .int .u8 c.a.toNat] 70)).alloc (.cells #[.int .i32 0, .int .u8 0, .int .u8 0, .int .u8 0] 70)) := ⟨_, rfl⟩
  rw [← hw1]
  simp only [Cel.cells] at hc1
  rw [← hw1] at hc1
  have hp1 : w1.heap[w.heap.size]? = some (.cells #[.int .i32 c.r, .int .u8 c.fg.toNat, .int .u8 c.bg.toNat, .int .u8 c.a.toNat] 70) := by rw [hw1]; simp -dsimp (disch := first | omega | (simp only [go_sem, seval]; first | done | omega)) only [go_sem, seval]
  have ho1 : w1.heap[w.heap.size + 1]? = some (.cells #[.int .i32 0, .int .u8 0, .int .u8 0, .int .u8 0] 70) := by rw [hw1]; simp -dsimp (disch := first | omega | (simp only [go_sem, seval]; first | done | omega)) only [go_sem, seval]
  clear hw1 hz
  refine OpX.call pen_ways_b rfl (Calls.ret (pways_c w1) ?_)
  rintro v w2 ⟨rfl, hc2⟩
  have hl1 := lt_of_heap (hc2.keep ho1 (by simp))
  simp -dsimp (disch := first | omega | (simp only [go_sem, seval]; first | done | omega)) only [go_sem, seval]
  obtain ⟨w3, hw3⟩ : ∃ w3, w3 = (w2.alloc (.cells #[.int .u8 0, .int .u8 1, .int .u8 2, .int .u8 4, .int .u8 8, .int .u8 16, .int .u8 0, .int .u8 32] 175)) := ⟨_, rfl⟩
  rw [← hw3]
  have hc3 : Chg [] w w3 := by rw [hw3]; exact (hc1.trans0 hc2).alloc _
  have hp : w3.heap[w.heap.size]? = some (.cells #[.int .i32 c.r, .int .u8 c.fg.toNat, .int .u8 c.bg.toNat, .int .u8 c.a.toNat] 70) := by rw [hw3]; exact ((Chg.refl [] _).alloc _).keep (hc2.keep hp1 (by simp)) (by simp)
  have ho : w3.heap[w.heap.size + 1]? = some (.cells #[.int .i32 0, .int .u8 0, .int .u8 0, .int .u8 0] 70) := by rw [hw3]; exact ((Chg.refl [] _).alloc _).keep (hc2.keep ho1 (by simp)) (by simp)
  have hq : w3.heap[w2.heap.size]? = some (.cells #[.int .u8 0, .int .u8 1, .int .u8 2, .int .u8 4, .int .u8 8, .int .u8 16, .int .u8 0, .int .u8 32] 175) := by rw [hw3]; simp -dsimp (disch := first | omega | (simp only [go_sem, seval]; first | done | omega)) only [go_sem, seval]
  have hl3 := lt_of_heap ho
  clear hw3 hc1 hc2 hp1 ho1
  obtain ⟨D, hD⟩ : ∃ D, D = obeyP c n := ⟨_, rfl⟩
  rw [← hD] at hK
  refine Join0.cut (fun w' => ObeyR w D w') ?_ ?_
  · have done : ∀ (f b a : BitVec 8) (w4 : World), (w4 = setBlk w3 w.heap.size (.cells #[.int .i32 c.r, .int .u8 f.toNat, .int .u8 b.toNat, .int .u8 a.toNat] 70) ∨ w4 = (setBlk w3 w.heap.size (.cells #[.int .i32 c.r, .int .u8 f.toNat, .int .u8 b.toNat, .int .u8 a.toNat] 70)).drew) → D = ⟨c.r, f, b, a⟩ →
        ObeyR w D w4 := by
      intro f b a w4 h4 e
      rw [e]
      have hcc := hc3.set w.heap.size (.cells #[.int .i32 c.r, .int .u8 f.toNat, .int .u8 b.toNat, .int .u8 a.toNat] 70) (.inr (Nat.le_refl _))
      rcases h4 with rfl | rfl
      · exact ⟨hcc, (by simp -dsimp (disch := first | omega | (simp only [go_sem, seval]; first | done | omega)) only [go_sem, seval]), (by simp -dsimp (disch := first | omega | (simp only [go_sem, seval]; first | done | omega)) only [go_sem, seval, ho])⟩
      · exact ⟨hcc.drew, (by simp -dsimp (disch := first | omega | (simp only [go_sem, seval]; first | done | omega)) only [go_sem, seval]), (by simp -dsimp (disch := first | omega | (simp only [go_sem, seval]; first | done | omega)) only [go_sem, seval, ho])⟩
    unfold obeyP at hD
    simp -dsimp (disch := first | omega | (simp only [go_sem, seval]; first | done | omega)) only [go_sem, seval]
    refine BrW.dec (fun d1 => ?_) (fun d1 => ?_)
    · rw [if_pos d1] at hD
      simp -dsimp (disch := first | omega | (simp only [go_sem, seval]; first | done | omega)) only [go_sem, seval, hp]
      exact done 0 0 0 _ (.inl rfl) hD
    rw [if_neg d1] at hD
    refine Join1.cut (fun v w' => v = .bool (decide (0 < n ∧ n < 8)) ∧ w3 = w') ?_ ?_
    · simp -dsimp (disch := first | omega | (simp only [go_sem, seval]; first | done | omega)) only [go_sem, seval]
      refine BrW.dec (fun g1 => ?_) (fun g1 => ?_)
      · simp -dsimp (disch := first | omega | (simp only [go_sem, seval]; first | done | omega)) only [go_sem, seval]
        exact congrArg Value.bool (decide_eq_decide.2 (by omega))
      · exact ⟨congrArg Value.bool (decide_eq_false (by omega)).symm, rfl⟩
    rintro v w4 ⟨rfl, rfl⟩
    refine BrW.dec (fun d2 => ?_) (fun d2 => ?_)
    · rw [if_pos d2] at hD
      have hn : n = 1 ∨ n = 2 ∨ n = 3 ∨ n = 4 ∨ n = 5 ∨ n = 6 ∨ n = 7 := by omega
      rcases hn with rfl | rfl | rfl | rfl | rfl | rfl | rfl <;> (simp -dsimp (disch := first | omega | (simp only [go_sem, seval]; first | done | omega)) only [go_sem, seval, hp, hq, bitV_or_u8]; exact done c.fg c.bg _ _ (.inr rfl) hD)
    rw [if_neg d2] at hD
    simp -dsimp (disch := first | omega | (simp only [go_sem, seval]; first | done | omega)) only [go_sem, seval]
    refine BrW.dec (fun d3 => ?_) (fun d3 => ?_)
    · rw [if_pos d3] at hD
      simp -dsimp (disch := first | omega | (simp only [go_sem, seval]; first | done | omega)) only [go_sem, seval, hp, bitV_andNot_u8]
      exact done c.fg c.bg _ _ (.inl rfl) hD
    rw [if_neg d3] at hD
    refine Join1.cut (fun v w' => v = .bool (decide (23 ≤ n ∧ n ≤ 27)) ∧ w3 = w') ?_ ?_
    · simp -dsimp (disch := first | omega | (simp only [go_sem, seval]; first | done | omega)) only [go_sem, seval]
      refine BrW.dec (fun g1 => ?_) (fun g1 => ?_)
      · simp -dsimp (disch := first | omega | (simp only [go_sem, seval]; first | done | omega)) only [go_sem, seval]
        exact congrArg Value.bool (decide_eq_decide.2 (by omega))
      · exact ⟨congrArg Value.bool (decide_eq_false (by omega)).symm, rfl⟩
    rintro v w4 ⟨rfl, rfl⟩
    refine BrW.dec (fun d4 => ?_) (fun d4 => ?_)
    · rw [if_pos d4] at hD
      have hn : n = 23 ∨ n = 24 ∨ n = 25 ∨ n = 26 ∨ n = 27 := by omega
      rcases hn with rfl | rfl | rfl | rfl | rfl <;> (simp -dsimp (disch := first | omega | (simp only [go_sem, seval]; first | done | omega)) only [go_sem, seval, hp, hq, bitV_andNot_u8]; exact done c.fg c.bg _ _ (.inr rfl) hD)
    rw [if_neg d4] at hD
    refine Join1.cut (fun v w' => v = .bool (decide (30 ≤ n ∧ n ≤ 37)) ∧ w3 = w') ?_ ?_
    · simp -dsimp (disch := first | omega | (simp only [go_sem, seval]; first | done | omega)) only [go_sem, seval]
      refine BrW.dec (fun g1 => ?_) (fun g1 => ?_)
      · simp -dsimp (disch := first | omega | (simp only [go_sem, seval]; first | done | omega)) only [go_sem, seval]
        exact congrArg Value.bool (decide_eq_decide.2 (by omega))
      · exact ⟨congrArg Value.bool (decide_eq_false (by omega)).symm, rfl⟩
    rintro v w4 ⟨rfl, rfl⟩
    refine BrW.dec (fun d5 => ?_) (fun d5 => ?_)
    · rw [if_pos d5] at hD
      simp -dsimp (disch := first | omega | (simp only [go_sem, seval]; first | done | omega)) only [go_sem, seval]
      refine OpX.call pen_colour_b rfl (Calls.ret (pcolour_c _ (n - 30)) ?_)
      rintro v w4 ⟨rfl, rfl⟩
      simp -dsimp (disch := first | omega | (simp only [go_sem, seval]; first | done | omega)) only [go_sem, seval, hp]
      exact done (hue (n - 30)) c.bg c.a _ (.inl rfl) hD
    rw [if_neg d5] at hD
    simp -dsimp (disch := first | omega | (simp only [go_sem, seval]; first | done | omega)) only [go_sem, seval]
    refine BrW.dec (fun d6 => ?_) (fun d6 => ?_)
    · rw [if_pos d6] at hD
      simp -dsimp (disch := first | omega | (simp only [go_sem, seval]; first | done | omega)) only [go_sem, seval, hp]
      exact done 0 c.bg c.a _ (.inl rfl) hD
    rw [if_neg d6] at hD
    refine Join1.cut (fun v w' => v = .bool (decide (40 ≤ n ∧ n ≤ 47)) ∧ w3 = w') ?_ ?_
    · simp -dsimp (disch := first | omega | (simp only [go_sem, seval]; first | done | omega)) only [go_sem, seval]
      refine BrW.dec (fun g1 => ?_) (fun g1 => ?_)
      · simp -dsimp (disch := first | omega | (simp only [go_sem, seval]; first | done | omega)) only [go_sem, seval]
        exact congrArg Value.bool (decide_eq_decide.2 (by omega))
      · exact ⟨congrArg Value.bool (decide_eq_false (by omega)).symm, rfl⟩
    rintro v w4 ⟨rfl, rfl⟩
    refine BrW.dec (fun d7 => ?_) (fun d7 => ?_)
    · rw [if_pos d7] at hD
      simp -dsimp (disch := first | omega | (simp only [go_sem, seval]; first | done | omega)) only [go_sem, seval]
      refine OpX.call pen_colour_b rfl (Calls.ret (pcolour_c _ (n - 40)) ?_)
      rintro v w4 ⟨rfl, rfl⟩
      simp -dsimp (disch := first | omega | (simp only [go_sem, seval]; first | done | omega)) only [go_sem, seval, hp]
      exact done c.fg (hue (n - 40)) c.a _ (.inl rfl) hD
    rw [if_neg d7] at hD
    simp -dsimp (disch := first | omega | (simp only [go_sem, seval]; first | done | omega)) only [go_sem, seval]
    refine BrW.dec (fun d8 => ?_) (fun d8 => ?_)
    · rw [if_pos d8] at hD
      simp -dsimp (disch := first | omega | (simp only [go_sem, seval]; first | done | omega)) only [go_sem, seval, hp]
      exact done c.fg 0 c.a _ (.inl rfl) hD
    rw [if_neg d8] at hD
    refine Join1.cut (fun v w' => v = .bool (decide (90 ≤ n ∧ n ≤ 97)) ∧ w3 = w') ?_ ?_
    · simp -dsimp (disch := first | omega | (simp only [go_sem, seval]; first | done | omega)) only [go_sem, seval]
      refine BrW.dec (fun g1 => ?_) (fun g1 => ?_)
      · simp -dsimp (disch := first | omega | (simp only [go_sem, seval]; first | done | omega)) only [go_sem, seval]
        exact congrArg Value.bool (decide_eq_decide.2 (by omega))
      · exact ⟨congrArg Value.bool (decide_eq_false (by omega)).symm, rfl⟩
    rintro v w4 ⟨rfl, rfl⟩
    refine BrW.dec (fun d9 => ?_) (fun d9 => ?_)
    · rw [if_pos d9] at hD
      simp -dsimp (disch := first | omega | (simp only [go_sem, seval]; first | done | omega)) only [go_sem, seval]
      refine OpX.call pen_colour_b rfl (Calls.ret (pcolour_c _ (n - 82)) ?_)
      rintro v w4 ⟨rfl, rfl⟩
      simp -dsimp (disch := first | omega | (simp only [go_sem, seval]; first | done | omega)) only [go_sem, seval, hp]
      exact done (hue (n - 82)) c.bg c.a _ (.inl rfl) hD
    rw [if_neg d9] at hD
    refine Join1.cut (fun v w' => v = .bool (decide (100 ≤ n ∧ n ≤ 107)) ∧ w3 = w') ?_ ?_
    · simp -dsimp (disch := first | omega | (simp only [go_sem, seval]; first | done | omega)) only [go_sem, seval]
      refine BrW.dec (fun g1 => ?_) (fun g1 => ?_)
      · simp -dsimp (disch := first | omega | (simp only [go_sem, seval]; first | done | omega)) only [go_sem, seval]
        exact congrArg Value.bool (decide_eq_decide.2 (by omega))
      · exact ⟨congrArg Value.bool (decide_eq_false (by omega)).symm, rfl⟩
    rintro v w4 ⟨rfl, rfl⟩
    refine BrW.dec (fun d10 => ?_) (fun d10 => ?_)
    · rw [if_pos d10] at hD
      simp -dsimp (disch := first | omega | (simp only [go_sem, seval]; first | done | omega)) only [go_sem, seval]
      refine OpX.call pen_colour_b rfl (Calls.ret (pcolour_c _ (n - 92)) ?_)
      rintro v w4 ⟨rfl, rfl⟩
      simp -dsimp (disch := first | omega | (simp only [go_sem, seval]; first | done | omega)) only [go_sem, seval, hp]
      exact done c.fg (hue (n - 92)) c.a _ (.inl rfl) hD
    rw [if_neg d10] at hD
    subst hD
    exact ⟨hc3, hp, ho⟩
  · rintro w4 ⟨hc4, hp4, ho4⟩
    have hl4 := lt_of_heap ho4
    simp -dsimp (disch := first | omega | (simp only [go_sem, seval]; first | done | omega)) only [go_sem, seval, hp4, ho4]
    exact hK _ _ ⟨rfl, hc4.set _ _ (.inr (by omega))⟩
end Go.Proofs.YtjfembffjjijaaaGreat
namespace Go.Proofs.YtjfembffjjijaaaGreat
open Lyc Go
theorem chosenP_mem {l : List Int} {x : Int} (h : x ∈ (chosenP l).2) : x ∈ l := by
  unfold chosenP at h
  split at h
  · exact List.mem_cons_of_mem _ (List.mem_cons_of_mem _ h)
  · exact List.mem_cons_of_mem _ (List.mem_cons_of_mem _ (List.mem_cons_of_mem _ (List.mem_cons_of_mem _ h)))
  · simp at h
theorem left_i64 {a : Act'} (hf : a.fits) : ∀ x ∈ a.left, i64ok x := by
  intro x hx
  unfold Act'.left at hx
  dsimp only at hx
  split at hx
  · simp at hx; subst hx; unfold i64ok; omega
  · exact hf.nums x (List.mem_of_mem_take hx)
def PenI (w : World) (b b5 : Nat) (R : Cel) (l : List Int) (c : Cel) (w' : World) : Prop :=
  Chg [] w w' ∧ w'.heap[b]? = some (.cells c.cells.toArray 70) ∧ w'.heap[b + 2]? = some (.cells #[.int .i32 0, .int .u8 0, .int .u8 0, .int .u8 0] 70) ∧ LeftAt w' b5 l ∧ (∀ x ∈ l, i64ok x) ∧ ∃ k, l.length ≤ k ∧ penGo k l c = R
theorem penGo_nil (k : Nat) (c : Cel) : penGo k [] c = c := by cases k <;> rfl
theorem papply_c (w : World) (c : Cel) (a : Act') (hf : a.fits) : Calls Tryz.prog 110 #[c.val, a.val] w (retK fun v w' => v = (penP c a).val ∧ Chg [] w w') := by
  apply pen_Apply_link
  intro K hK
  unfold pen_Apply
  simp -dsimp (disch := first | omega | (simp only [go_sem, seval]; first | done | omega)) only [go_sem, seval]
  have hz : (w.alloc (.cells #[.int .i32 c.r, .int .u8 c.fg.toNat, .int .u8 c.bg.toNat, .int .u8 c.a.toNat] 70)).heap.size = w.heap.size + 1 := by simp -dsimp (disch := first | omega | (simp only [go_sem, seval]; first | done | omega)) only [go_sem, seval]
  have hz2 : ((w.alloc (.cells #[.int .i32 c.r, .int .u8 c.fg.toNat, .int .u8 c.bg.toNat, .int .u8 c.a.toNat] 70)).alloc (.cells a.cells.toArray 34)).heap.size = w.heap.size + 2 := by simp -dsimp (disch := first | omega | (simp only [go_sem, seval]; first | done | omega)) only [go_sem, seval]
  simp only [Act'.cells] at hz2
  rw [hz2, hz]
  obtain ⟨w1, hw1⟩ : ∃ w1, w1 = (((w.alloc (.cells c.cells.toArray 70)).alloc (.cells a.cells.toArray 34)).alloc (.cells #[.int .i32 0, .int .u8 0, .int .u8 0, .int .u8 0] 70)) := ⟨_, rfl⟩
  have hc1 : Chg [] w w1 := by rw [hw1]; exact chg_a3 _ _ _ _
  have hp1 : w1.heap[w.heap.size]? = some (.cells c.cells.toArray 70) := by rw [hw1]; simp -dsimp (disch := first | omega | (simp only [go_sem, seval]; first | done | omega)) only [go_sem, seval]
  have ha1 : w1.heap[w.heap.size + 1]? = some (.cells a.cells.toArray 34) := by rw [hw1]; simp -dsimp (disch := first | omega | (simp only [go_sem, seval]; first | done | omega)) only [go_sem, seval]
  have ho1 : w1.heap[w.heap.size + 2]? = some (.cells #[.int .i32 0, .int .u8 0, .int .u8 0, .int .u8 0] 70) := by rw [hw1]; simp -dsimp (disch := first | omega | (simp only [go_sem, seval]; first | done | omega)) only [go_sem, seval]
  have hl1 := lt_of_heap ho1
  simp only [Act'.cells, Cel.cells] at hw1
  rw [← hw1]
  clear hw1 hz hz2
  refine Join1.cut (fun v w' => v = .bool (decide (a.kind ≠ 4 ∨ a.r ≠ 109 ∨ a.priv ≠ 0 ∨ a.mid ≠ 0)) ∧ w1 = w') ?_ ?_
  · simp -dsimp (disch := first | omega | (simp only [go_sem, seval]; first | done | omega)) only [go_sem, seval, ha1]
    refine BrW.dec (fun g1 => ?_) (fun g1 => ?_)
    · exact ⟨congrArg Value.bool (decide_eq_true (.inl g1)).symm, rfl⟩
    simp -dsimp (disch := first | omega | (simp only [go_sem, seval]; first | done | omega)) only [go_sem, seval, ha1]
    refine BrW.dec (fun g2 => ?_) (fun g2 => ?_)
    · exact ⟨congrArg Value.bool (decide_eq_true (.inr (.inl g2))).symm, rfl⟩
    simp -dsimp (disch := first | omega | (simp only [go_sem, seval]; first | done | omega)) only [go_sem, seval, ha1]
    refine BrW.dec (fun g3 => ?_) (fun g3 => ?_)
    · exact ⟨congrArg Value.bool (decide_eq_true (.inr (.inr (.inl g3)))).symm, rfl⟩
    simp -dsimp (disch := first | omega | (simp only [go_sem, seval]; first | done | omega)) only [go_sem, seval, ha1]
    refine congrArg Value.bool (decide_eq_decide.2 ⟨fun h => .inr (.inr (.inr h)), fun h => ?_⟩)
    rcases h with h | h | h | h
    · exact absurd h g1
    · exact absurd h g2
    · exact absurd h g3
    · exact h
  rintro v w2 ⟨rfl, rfl⟩
  unfold penP at hK
  refine BrW.dec (fun d1 => ?_) (fun d1 => ?_)
  · rw [if_pos d1] at hK
    simp -dsimp (disch := first | omega | (simp only [go_sem, seval]; first | done | omega)) only [go_sem, seval, hp1, ho1]
    exact hK _ _ ⟨rfl, hc1.set _ _ (.inr (by omega))⟩
  rw [if_neg d1] at hK
  obtain ⟨R, hR⟩ : ∃ R, R = penGo 9 a.left c := ⟨_, rfl⟩
  rw [← hR] at hK
  simp -dsimp (disch := first | omega | (simp only [go_sem, seval]; first | done | omega)) only [go_sem, seval, ha1]
  refine Join0.cut (fun w' => PenI w w.heap.size w1.heap.size R a.left c w') ?_ ?_
  · obtain ⟨n, hn⟩ : ∃ n, n = (min (max a.n 0) 8).toNat := ⟨_, rfl⟩
    have hn8 : n ≤ 8 := by omega
    rw [← hn]
    obtain ⟨w2, hw2⟩ : ∃ w2, w2 = w1.alloc (.cells #[.slice (some ⟨w.heap.size + 1, 5, none⟩) n 8] 52) := ⟨_, rfl⟩
    have hc2 : Chg [] w1 w2 := by rw [hw2]; exact chg_a1 _ _
    have h52 : w2.heap[w1.heap.size]? = some (.cells #[.slice (some ⟨w.heap.size + 1, 5, none⟩) n 8] 52) := by rw [hw2]; simp -dsimp (disch := first | omega | (simp only [go_sem, seval]; first | done | omega)) only [go_sem, seval]
    have hl52 := lt_of_heap h52
    have ha2 := hc2.keep ha1 (by simp)
    have hsx : Sx w2 (some 34) fI (some ⟨w.heap.size + 1, 5, none⟩) (a.nums.take n) := by
      have h0 : Sx w2 (some 34) fI (some ⟨w.heap.size + 1, 5, none⟩) a.nums := ⟨fun _ => ⟨w.heap.size + 1, 5, _, _, _, a.cells.take 5, [], rfl, ha2, by simp [tagOk], rfl, rfl⟩⟩
      have := h0.sub (m := 1) (fun _ => rfl) 0 n (some ⟨w.heap.size + 1, 5, none⟩) (.inr (.inr rfl))
      simpa using this
    have hlen : (a.nums.take n).length = n := by rw [List.length_take, show a.nums.length = 8 from rfl]; omega
    rw [← hw2]
    have hp2 := hc2.keep hp1 (by simp)
    have ho2 := hc2.keep ho1 (by simp)
    clear hw2
    simp -dsimp (disch := first | omega | (simp only [go_sem, seval]; first | done | omega)) only [go_sem, seval, h52]
    refine BrW.dec (fun d2 => ?_) (fun d2 => ?_)
    · have hleft : a.left = [0] := by
        unfold Act'.left
        dsimp only
        rw [← hn, if_pos (List.eq_nil_of_length_eq_zero (by omega))]
      simp -dsimp (disch := first | omega | (simp only [go_sem, seval]; first | done | omega)) only [go_sem, seval, h52]
      rw [hleft] at hR ⊢
      refine ⟨?_, ?_, ?_, ⟨w2.heap.size, 0, 1, ?_, by simp, by simp, Nat.ne_of_gt hl52, 3, .inr rfl, ?_⟩, by simp [i64ok], 9, by simp, hR.symm⟩
      · exact ((hc1.trans0 hc2).set w1.heap.size _ (.inr (by omega))).alloc _
      · simp -dsimp (disch := first | omega | (simp only [go_sem, seval]; first | done | omega)) only [go_sem, seval, hp2]
      · simp -dsimp (disch := first | omega | (simp only [go_sem, seval]; first | done | omega)) only [go_sem, seval, ho2]
      · simp -dsimp (disch := first | omega | (simp only [go_sem, seval]; first | done | omega)) only [go_sem, seval]
      · refine Sx.built (c := [.int .i64 0]) ?_ rfl
        simp -dsimp (disch := first | omega | (simp only [go_sem, seval]; first | done | omega)) only [go_sem, seval]
    · have hleft : a.left = a.nums.take n := by
        unfold Act'.left
        dsimp only
        rw [← hn, if_neg (fun h => d2 (by rw [h] at hlen; simp at hlen; omega))]
      refine ⟨hc1.trans0 hc2, hp2, ho2, ⟨w.heap.size + 1, 5, 8, ?_, ?_, ?_, by omega, 34, .inl rfl, ?_⟩, left_i64 hf, 9, ?_, hR.symm⟩
      · rw [hleft, hlen]; exact h52
      · rw [hleft, hlen]; exact hn8
      · rw [hleft, hlen]; exact hn8
      · rw [hleft]; exact hsx
      · rw [hleft, hlen]; omega
  · intro w2 hI
    simp -dsimp (disch := first | omega | (simp only [go_sem, seval]; first | done | omega)) only [go_sem, seval]
    refine Loop0.st (fun (st : List Int × Cel) w' => PenI w w.heap.size w1.heap.size R st.1 st.2 w') (fun st => st.1.length) (a.left, c) hI ?_
    clear hI hp1 ha1 ho1 w2
    rintro next ⟨l, c2⟩ w2 hn ⟨hc2, hp2, ho2, hL, hi, k, hk, hR⟩
    dsimp only at hp2 hL hi hk hR
    have hl2 := lt_of_heap ho2
    have hL' := hL
    obtain ⟨g, o, cap, q1, q2, q3, q4, -⟩ := hL'
    have hl3 := lt_of_heap q1
    simp -dsimp (disch := first | omega | (simp only [go_sem, seval]; first | done | omega)) only [go_sem, seval, q1]
    refine BrW.dec (fun d2 => ?_) (fun d2 => ?_)
    · rcases l with _ | ⟨n, l⟩
      · simp at d2
      obtain ⟨k, rfl⟩ : ∃ k', k = k' + 1 := ⟨k - 1, by simp at hk; omega⟩
      refine OpX.callV (us := []) (cs := [_]) pen_Apply_1_b rfl (Calls.ret (ptake_c hL 1 (by omega)) ?_)
      rintro v w3 ⟨⟨g3, o3, cap3, rfl, hg3, hs3⟩, hL3, hc3⟩
      have e1 : (n :: l).take 1 = [n] := rfl
      have e2 : (n :: l).drop 1 = l := rfl
      rw [e1] at hs3 ⊢
      rw [e2] at hL3
      have hcell := fI_cell hs3 (i := 0) rfl
      simp only [Nat.add_zero] at hcell
      have hc4 : Chg [] w w3 := hc2.trans hc3 (by simp; omega)
      have hp3 := hc3.keep hp2 (by simp; omega)
      have ho3 := hc3.keep ho2 (by simp; omega)
      have hl4 := lt_of_heap ho3
      simp -dsimp (disch := first | omega | (simp only [go_sem, seval]; first | done | omega)) only [go_sem, seval, hcell]
      refine Join1.cut (fun v w' => v = .bool (decide (n = 38 ∨ n = 48)) ∧ w3 = w') ?_ ?_
      · simp -dsimp (disch := first | omega | (simp only [go_sem, seval]; first | done | omega)) only [go_sem, seval]
        refine BrW.dec (fun g1 => ?_) (fun g1 => ?_)
        · exact ⟨congrArg Value.bool (decide_eq_true (.inl g1)).symm, rfl⟩
        · simp -dsimp (disch := first | omega | (simp only [go_sem, seval]; first | done | omega)) only [go_sem, seval]
          simp [g1]
      rintro v w4 ⟨rfl, rfl⟩
      unfold penGo at hR
      refine BrW.dec (fun d3 => ?_) (fun d3 => ?_)
      · refine OpX.call pen_chosen_b rfl (Calls.ret (pchosen_c hL3) ?_)
        rintro v w4 ⟨rfl, hL4, hc5⟩
        have hc6 : Chg [] w w4 := hc4.trans hc5 (by simp; omega)
        have hp4 := hc5.keep hp3 (by simp; omega)
        have ho4 := hc5.keep ho3 (by simp; omega)
        have hl5 := lt_of_heap ho4
        have hi' : ∀ x ∈ (chosenP l).2, i64ok x := fun x hx => hi x (List.mem_cons_of_mem _ (chosenP_mem hx))
        have hlen := chosenP_len l
        have hlk : (chosenP l).2.length ≤ k := by simp at hk; omega
        have hlt : (chosenP l).2.length < (n :: l).length := by simp; omega
        have hlt4 : w.heap.size < w4.heap.size := by omega
        obtain ⟨q, hq⟩ : ∃ q, q = (chosenP l).1 := ⟨_, rfl⟩
        rw [← hq] at hR ⊢
        have nx : ∀ (f b : BitVec 8) (w5 : World), w5 = setBlk w4 w.heap.size (.cells #[.int .i32 c2.r, .int .u8 f.toNat, .int .u8 b.toNat, .int .u8 c2.a.toNat] 70) → penGo k (chosenP l).2 ⟨c2.r, f, b, c2.a⟩ = R → next w5 := by
          intro f b w5 h5 e
          subst h5
          refine hn ((chosenP l).2, ⟨c2.r, f, b, c2.a⟩) _ ⟨hc6.set _ _ (.inr (Nat.le_refl _)), ?_, ?_, ?_, hi', k, hlk, e⟩ hlt
          · simp -dsimp (disch := first | omega | (simp only [go_sem, seval]; first | done | omega)) only [go_sem, seval]
          · simp -dsimp (disch := first | omega | (simp only [go_sem, seval]; first | done | omega)) only [go_sem, seval, ho4]
          · exact hL4.low ((Chg.refl [w.heap.size] w4).set _ _ (by simp)) (by omega) hp4
        simp -dsimp (disch := first | omega | (simp only [go_sem, seval]; first | done | omega)) only [go_sem, seval]
        rcases q with _ | x
        · refine Join1.cut (fun v w' => v = .bool false ∧ w4 = w') ?_ ?_
          · exact BrW.by (fun h => by simp at h) (fun _ => ⟨rfl, rfl⟩)
          rintro v w5 ⟨rfl, rfl⟩
          simp -dsimp (disch := first | omega | (simp only [go_sem, seval]; first | done | omega)) only [go_sem, seval]
          refine hn ((chosenP l).2, c2) _ ⟨hc6, hp4, ho4, hL4, hi', k, hlk, ?_⟩ hlt
          rw [← hR]
          split
          · rfl
          · split
            · rfl
            · omega
        · refine Join1.cut (fun v w' => v = .bool (decide (n = 38)) ∧ w4 = w') ?_ ?_
          · refine BrW.by (fun _ => ?_) (fun h => by simp at h)
            simp -dsimp (disch := first | omega | (simp only [go_sem, seval]; first | done | omega)) only [go_sem, seval]
          rintro v w5 ⟨rfl, rfl⟩
          refine BrW.dec (fun g1 => ?_) (fun g1 => ?_)
          · rw [if_pos g1] at hR
            simp -dsimp (disch := first | omega | (simp only [go_sem, seval]; first | done | omega)) only [go_sem, seval, hp4]
            exact nx x c2.bg _ rfl hR
          · rw [if_neg g1, if_pos (by omega)] at hR
            refine BrW.by (fun _ => ?_) (fun h => by simp at h)
            simp -dsimp (disch := first | omega | (simp only [go_sem, seval]; first | done | omega)) only [go_sem, seval, hp4]
            exact nx c2.fg x _ rfl hR
      · rw [if_neg (by omega), if_neg (by omega)] at hR
        simp -dsimp (disch := first | omega | (simp only [go_sem, seval]; first | done | omega)) only [go_sem, seval, hp3]
        refine OpX.call pen_obey_b rfl (Calls.ret (pobey_c _ c2 n (hi n (by simp))) ?_)
        rintro v w4 ⟨rfl, hc5⟩
        have hp4 := hc5.keep hp3 (by simp)
        have ho4 := hc5.keep ho3 (by simp)
        have hl5 := lt_of_heap ho4
        have hc6 := hc4.trans0 hc5
        simp -dsimp (disch := first | omega | (simp only [go_sem, seval]; first | done | omega)) only [go_sem, seval, hp4]
        refine hn (l, obeyP c2 n) _ ⟨hc6.set _ _ (.inr (Nat.le_refl _)), ?_, ?_, ?_, fun x hx => hi x (List.mem_cons_of_mem _ hx), k, by simp at hk; exact hk, hR⟩ (by simp)
        · simp -dsimp (disch := first | omega | (simp only [go_sem, seval]; first | done | omega)) only [go_sem, seval]
        · simp -dsimp (disch := first | omega | (simp only [go_sem, seval]; first | done | omega)) only [go_sem, seval, ho4]
        · exact (hL3.chg0 hc5).low ((Chg.refl [w.heap.size] w4).set _ _ (by simp)) (by omega) hp4
    · have hl0 : l = [] := by cases l with | nil => rfl | cons x l => simp at d2
      subst hl0
      rw [penGo_nil] at hR
      simp -dsimp (disch := first | omega | (simp only [go_sem, seval]; first | done | omega)) only [go_sem, seval, hp2, ho2]
      exact hK _ _ ⟨by rw [hR]; rfl, hc2.set _ _ (.inr (by omega))⟩
end Go.Proofs.YtjfembffjjijaaaGreat
namespace Go.Proofs.YtjfembffjjijaaaGreat
open Lyc Go
theorem Scm.wTabs (M : Scm) (h : M.S.tabs.length = 200) : putAt (some M.obj) 29 (List.replicate 200 (.bool false)) = some ({ M with S := { M.S with tabs := List.replicate 200 false } } : Scm).obj := by
  refine M.put _ 29 _ h (by rw [List.length_replicate]; omega) ?_
  have e1 : M.cells = M.cells.take 29 ++ (M.S.tabs.map Value.bool ++ [.bool M.S.wraps, .bool M.S.waits, .bool M.S.shown, M.gv]) := rfl
  have e2 : M.cells.drop (29 + (List.replicate 200 (Value.bool false)).length) = [.bool M.S.wraps, .bool M.S.waits, .bool M.S.shown, M.gv] := by
    rw [List.length_replicate, e1, ← List.append_assoc]
    exact List.drop_left' (by rw [List.length_append, List.length_map, h]; rfl)
  rw [e2]
  unfold Scm.cells Scm.end
  dsimp only
  rw [List.map_replicate]
  rfl
section
attribute [-go_sem] x_build x_buildA
theorem sset_c {w : World} {s : Nat} {M : Scm} (h : SAt w s M) (ok : M.S.ok) (a : Act') (hf : a.fits) : Calls Tryz.prog 77 #[.pointer (some ⟨s, 0, none⟩), a.val] w
    (retK fun v w' => v = .bool (M.S.set a).isSome ∧ Did w s M w' ((M.S.set a).getD M.S)) := by
  have hls := lt_of_heap h.hb
  have tl := h.tl
  have w1b := ok.w1
  have nx := ok.nx
  apply screen_Screen_set_link
  intro K hK
  unfold screen_Screen_set
  simp -dsimp (disch := first | omega | (simp only [go_sem, seval]; first | done | omega)) only [go_sem, seval]
  obtain ⟨w1, hw1⟩ : ∃ w1, w1 = w.alloc (.cells a.cells.toArray 34) := ⟨_, rfl⟩
  have hc1 : Chg [] w w1 := by rw [hw1]; exact chg_a1 _ _
  have ha1 : w1.heap[w.heap.size]? = some (.cells a.cells.toArray 34) := by rw [hw1]; simp -dsimp (disch := first | omega | (simp only [go_sem, seval]; first | done | omega)) only [go_sem, seval]
  simp only [Act'.cells] at hw1
  rw [← hw1]
  clear hw1
  have hla := lt_of_heap ha1
  have hA := h.chg0 hc1
  have hb := hA.hb
  have base : ∀ w' T, Did w1 s M w' T → Did w s M w' T := fun w' T hd => Did.trans (M1 := M) (hc1.mono (by simp)) (fun b hb => .inl hb) hd
  refine Join0.cut (fun w' => ∃ T, Did w s M w' T ∧ M.S.set a = some T) ?_ ?_
  · simp -dsimp (disch := first | omega | (simp only [go_sem, seval]; first | done | omega)) only [go_sem, seval, ha1]
    refine BrW.dec (fun c1 => ?_) (fun c1 => ?_)
    · simp -dsimp (disch := first | omega | (simp only [go_sem, seval]; first | done | omega)) only [go_sem, seval, ha1, hb]
      refine OpX.call pen_Apply_b rfl (Calls.ret (papply_c _ M.S.now.pen a hf) ?_)
      rintro v w2 ⟨rfl, hc2⟩
      have hc3 : Chg [] w1 w2 := (Chg.refl _ _).drew.trans0 hc2
      have hA2 := hA.chg0 hc3
      have hb2 := hA2.hb
      have hl2 := lt_of_heap hb2
      simp -dsimp (disch := first | omega | (simp only [go_sem, seval]; first | done | omega)) only [go_sem, seval, hb2]
      refine ⟨_, base _ _ (Did.set hA2 (hc3.mono (by simp)) (fun b hb => .inl hb) { M.S with now := { M.S.now with pen := penP M.S.now.pen a } } rfl rfl tl rfl), ?_⟩
      unfold Scr.set
      rw [if_pos c1]
    simp -dsimp (disch := first | omega | (simp only [go_sem, seval]; first | done | omega)) only [go_sem, seval, ha1]
    refine BrW.dec (fun c2 => ?_) (fun c2 => ?_)
    · simp -dsimp (disch := first | omega | (simp only [go_sem, seval]; first | done | omega)) only [go_sem, seval, ha1]
      refine OpX.call escape_Num_b rfl (Calls.ret (snum_c _ a 0 0) ?_)
      rintro v w2 ⟨rfl, hc2⟩
      have hA2 := hA.chg0 hc2
      have hb2 := hA2.hb
      have hl2 := lt_of_heap hb2
      have e : M.S.set a = some (if a.num 0 0 = 0 then { M.S with tabs := M.S.tabs.set M.S.now.x false } else if a.num 0 0 = 3 then { M.S with tabs := List.replicate 200 false } else M.S) := by
        unfold Scr.set
        rw [if_neg c1, if_pos c2]
      simp -dsimp (disch := first | omega | (simp only [go_sem, seval]; first | done | omega)) only [go_sem, seval]
      refine BrW.dec (fun d1 => ?_) (fun d1 => ?_)
      · rw [if_pos d1] at e
        simp -dsimp (disch := first | omega | (simp only [go_sem, seval]; first | done | omega)) only [go_sem, seval, hb2]
        exact ⟨_, base _ _ (Did.set (hA2.chg0 (Chg.refl _ _).drew) (hc2.mono (by simp)).drew (fun b hb => .inl hb) { M.S with tabs := M.S.tabs.set M.S.now.x false } rfl rfl (by rw [List.length_set]; exact tl) rfl), e⟩
      rw [if_neg d1] at e
      simp -dsimp (disch := first | omega | (simp only [go_sem, seval]; first | done | omega)) only [go_sem, seval]
      refine BrW.dec (fun d2 => ?_) (fun d2 => ?_)
      · rw [if_pos d2] at e
        refine OpX.build (c := (List.replicate 200 (.bool false)).toArray) (by kernel_rfl) ?_
        obtain ⟨z, hz⟩ : ∃ z, z = (List.replicate 200 (Value.bool false)).toArray := ⟨_, rfl⟩
        rw [← hz]
        simp -dsimp (disch := first | omega | (simp only [go_sem, seval]; first | done | omega)) only [go_sem, seval]
        rw [x_store _ _ _ _ _ _ _ (by rw [hz]; kernel_rfl) (by rw [hz]; kernel_rfl)]
        have hp : putAt w2.heap[s]? 29 (Value.agg z).cells.toList = some ({ M with S := { M.S with tabs := List.replicate 200 false } } : Scm).obj := by
          rw [hz, hb2]
          exact M.wTabs tl
        rw [hp, StX_some]
        exact ⟨_, base _ _ (Did.set hA2 (hc2.mono (by simp)) (fun b hb => .inl hb) { M.S with tabs := List.replicate 200 false } rfl rfl (by rw [List.length_replicate]) rfl), e⟩
      · rw [if_neg d2] at e
        exact ⟨_, base _ _ (Did.trans (M1 := M) (hc2.mono (by simp)) (fun b hb => .inl hb) (Did.refl hA2)), e⟩
    simp -dsimp (disch := first | omega | (simp only [go_sem, seval]; first | done | omega)) only [go_sem, seval]
    refine BrW.dec (fun c3 => ?_) (fun c3 => ?_)
    · simp -dsimp (disch := first | omega | (simp only [go_sem, seval]; first | done | omega)) only [go_sem, seval]
      refine OpX.call screen_Screen_save_b rfl (Calls.ret (ssave_c hA) ?_)
      rintro v w2 hd
      refine ⟨_, base _ _ hd, ?_⟩
      unfold Scr.set
      rw [if_neg c1, if_neg c2, if_pos c3]
    have e : M.S.set a = none := by
      unfold Scr.set
      rw [if_neg c1, if_neg c2, if_neg c3]
    rw [e] at hK
    exact hK _ _ ⟨rfl, base _ _ (Did.refl hA)⟩
  · rintro w2 ⟨T, hd, e⟩
    rw [e] at hK
    exact hK _ _ ⟨rfl, hd⟩
end
end Go.Proofs.YtjfembffjjijaaaGreat
namespace Go.Proofs.YtjfembffjjijaaaGreat
open Lyc Go
theorem modes_snoc (S : Scr) (l : List Int) (x : Int) (on : Bool) : S.modes (l ++ [x]) on = (S.modes l on).mode x on := by unfold Scr.modes; rw [List.foldl_append]; rfl
theorem nums_sx {w : World} {b : Nat} {a : Act'} (h : w.heap[b]? = some (.cells a.cells.toArray 34)) : Sx w none fI (some ⟨b, 5, none⟩) a.nums := ⟨fun _ => ⟨b, 5, _, _, _, a.cells.take 5, [], rfl, h, by simp [tagOk], rfl, rfl⟩⟩
theorem scsi_c {w : World} {s : Nat} {M : Scm} (h : SAt w s M) (ok : M.S.ok) (a : Act') (hf : a.fits) : Calls Tryz.prog 40 #[.pointer (some ⟨s, 0, none⟩), a.val] w
    (retK fun _ w' => Did w s M w' (M.S.csi a)) := by
  have hls := lt_of_heap h.hb
  have hlt := h.lt
  have tl := h.tl
  apply screen_Screen_csi_link
  intro K hK
  unfold screen_Screen_csi
  simp -dsimp (disch := first | omega | (simp only [go_sem, seval]; first | done | omega)) only [go_sem, seval]
  obtain ⟨w1, hw1⟩ : ∃ w1, w1 = w.alloc (.cells a.cells.toArray 34) := ⟨_, rfl⟩
  have hc1 : Chg [] w w1 := by rw [hw1]; exact chg_a1 _ _
  have ha1 : w1.heap[w.heap.size]? = some (.cells a.cells.toArray 34) := by rw [hw1]; simp -dsimp (disch := first | omega | (simp only [go_sem, seval]; first | done | omega)) only [go_sem, seval]
  simp only [Act'.cells] at hw1
  rw [← hw1]
  clear hw1
  have hla := lt_of_heap ha1
  have hA := h.chg0 hc1
  have hoa : w.heap.size ∉ s :: M.blk := fun hm => by have := hlt _ hm; omega
  have base : ∀ w' T, Did w1 s M w' T → Did w s M w' T := fun w' T hd => Did.trans (M1 := M) (hc1.mono (by simp)) (fun b hb => .inl hb) hd
  obtain ⟨C, hC⟩ : ∃ C, C = M.S.csi a := ⟨_, rfl⟩
  rw [← hC] at hK
  unfold Scr.csi at hC
  refine Join1.cut (fun v w' => v = .bool (decide (a.priv = 63 ∧ a.mid = 0 ∧ (a.r = 104 ∨ a.r = 108))) ∧ w1 = w') ?_ ?_
  · simp -dsimp (disch := first | omega | (simp only [go_sem, seval]; first | done | omega)) only [go_sem, seval, ha1]
    refine BrW.dec (fun g1 => ?_) (fun g1 => ?_)
    · simp -dsimp (disch := first | omega | (simp only [go_sem, seval]; first | done | omega)) only [go_sem, seval, ha1]
      refine BrW.dec (fun g2 => ?_) (fun g2 => ?_)
      · simp -dsimp (disch := first | omega | (simp only [go_sem, seval]; first | done | omega)) only [go_sem, seval, ha1]
        refine BrW.dec (fun g3 => ?_) (fun g3 => ?_)
        · exact ⟨congrArg Value.bool (decide_eq_true ⟨g1, g2, .inl g3⟩).symm, rfl⟩
        · simp -dsimp (disch := first | omega | (simp only [go_sem, seval]; first | done | omega)) only [go_sem, seval, ha1]
          exact congrArg Value.bool (decide_eq_decide.2 ⟨fun h => ⟨g1, g2, .inr h⟩, fun h => h.2.2.resolve_left g3⟩)
      · exact ⟨congrArg Value.bool (decide_eq_false (fun h => g2 h.2.1)).symm, rfl⟩
    · exact ⟨congrArg Value.bool (decide_eq_false (fun h => g1 h.1)).symm, rfl⟩
  rintro v w2 ⟨rfl, rfl⟩
  refine BrW.dec (fun d1 => ?_) (fun d1 => ?_)
  · rw [if_pos d1] at hC
    obtain ⟨n, hn⟩ : ∃ n, n = (min (max a.n 0) 8).toNat := ⟨_, rfl⟩
    have hn8 : n ≤ 8 := by omega
    rw [← hn] at hC
    simp -dsimp (disch := first | omega | (simp only [go_sem, seval]; first | done | omega)) only [go_sem, seval, ha1]
    rw [← hn]
    refine Loop1.st (fun i : Nat => .int .i64 (i : Int)) (fun i w' => i ≤ n ∧ Did w1 s M w' (M.S.modes (a.nums.take i) (decide (a.r = 104)))) (fun i => n - i) 0 rfl ⟨by omega, Did.refl hA⟩ ?_
    rintro next i w2 hnx ⟨hi, hd⟩
    have ha2 := hd.keep ha1 hoa
    have hl2 := lt_of_heap ha2
    simp -dsimp (disch := first | omega | (simp only [go_sem, seval]; first | done | omega)) only [go_sem, seval]
    refine BrW.dec (fun d2 => ?_) (fun d2 => ?_)
    · have hi8 : i < a.nums.length := by rw [show a.nums.length = 8 from rfl]; omega
      have hcell := fI_cell (nums_sx ha2) (i := i) (List.getElem?_eq_getElem hi8)
      have hx := hf.nums _ (List.getElem_mem hi8)
      obtain ⟨M2, hA2, hS2, hc2, hbl2⟩ := hd
      have ok2 : M2.S.ok := by rw [hS2]; exact ok.modes.ok
      simp -dsimp (disch := first | omega | (simp only [go_sem, seval]; first | done | omega)) only [go_sem, seval, hcell]
      simp -dsimp (disch := first | omega | (simp only [go_sem, seval]; first | done | omega)) only [go_sem, seval, ha2]
      refine OpX.call screen_Screen_mode_b rfl (Calls.ret (smode_c hA2 ok2 (a.nums[i]) (decide (a.r = 104))) ?_)
      rintro v w3 hd3
      have e1 : (i : Int) + 1 = ((i + 1 : Nat) : Int) := by omega
      simp -dsimp (disch := first | omega | (simp only [go_sem, seval]; first | done | omega)) only [go_sem, seval, e1]
      refine hnx (i + 1) _ ⟨by omega, ?_⟩ (by omega)
      rw [take_next hi8, modes_snoc, ← hS2]
      exact Did.trans hc2 hbl2 hd3
    · have : i = n := by omega
      subst this
      exact hK _ _ (base _ _ (by rw [hC]; exact hd))
  rw [if_neg d1] at hC
  refine Join1.cut (fun v w' => v = .bool (decide (a.priv ≠ 0 ∨ a.mid ≠ 0)) ∧ w1 = w') ?_ ?_
  · simp -dsimp (disch := first | omega | (simp only [go_sem, seval]; first | done | omega)) only [go_sem, seval, ha1]
    refine BrW.dec (fun g1 => ?_) (fun g1 => ?_)
    · exact ⟨congrArg Value.bool (decide_eq_true (.inl g1)).symm, rfl⟩
    · simp -dsimp (disch := first | omega | (simp only [go_sem, seval]; first | done | omega)) only [go_sem, seval, ha1]
      refine congrArg Value.bool (decide_eq_decide.2 ⟨fun h => .inr h, fun h => ?_⟩)
      rcases h with h | h
      · exact absurd h g1
      · exact h
  rintro v w2 ⟨rfl, rfl⟩
  refine BrW.dec (fun d2 => ?_) (fun d2 => ?_)
  · rw [if_pos d2] at hC
    exact hK _ _ (base _ _ (by rw [hC]; exact Did.refl hA))
  rw [if_neg d2] at hC
  simp -dsimp (disch := first | omega | (simp only [go_sem, seval]; first | done | omega)) only [go_sem, seval, ha1]
  refine OpX.call screen_Screen_set_b rfl (Calls.ret (sset_c hA ok a hf) ?_)
  rintro v w2 ⟨rfl, hd2⟩
  have ha2 := hd2.keep ha1 hoa
  rcases hs : M.S.set a with _ | T
  · rw [hs] at hd2 hC
    dsimp only [Option.getD] at hd2 hC
    obtain ⟨M2, hA2, hS2, hc2, hbl2⟩ := hd2
    have ok2 : M2.S.ok := by rw [hS2]; exact ok
    have hz2 := hc2.size
    have hoa2 := blk_off hbl2 hoa hla
    rw [← hS2] at hC
    refine BrW.by (fun h => by simp at h) (fun _ => ?_)
    refine Join1.cut (fun v w' => ∃ b T, v = .bool b ∧ Did w1 s M w' T ∧ C = bif b then T.calm else T) ?_ ?_
    · simp -dsimp (disch := first | omega | (simp only [go_sem, seval]; first | done | omega)) only [go_sem, seval, ha2]
      refine OpX.call screen_Screen_moved_b rfl (Calls.ret (smoved_c hA2 ok2 a hf) ?_)
      rintro v w3 ⟨rfl, hd3⟩
      have ha3 := hd3.keep ha2 hoa2
      rcases hm : M2.S.moved a with _ | T
      · rw [hm] at hd3 hC
        dsimp only [Option.getD] at hd3 hC
        obtain ⟨M3, hA3, hS3, hc3, hbl3⟩ := hd3
        have ok3 : M3.S.ok := by rw [hS3]; exact ok2
        rw [← hS3] at hC
        refine BrW.by (fun h => by simp at h) (fun _ => ?_)
        simp -dsimp (disch := first | omega | (simp only [go_sem, seval]; first | done | omega)) only [go_sem, seval, ha3]
        refine OpX.call screen_Screen_changed_b rfl (Calls.ret (schanged_c hA3 ok3 a hf) ?_)
        rintro v w4 ⟨rfl, hd4⟩
        rcases hch : M3.S.changed a with _ | T
        · rw [hch] at hd4 hC
          exact ⟨false, _, rfl, Did.trans hc2 hbl2 (Did.trans hc3 hbl3 hd4), hC⟩
        · rw [hch] at hd4 hC
          exact ⟨true, _, rfl, Did.trans hc2 hbl2 (Did.trans hc3 hbl3 hd4), hC⟩
      · rw [hm] at hd3 hC
        exact BrW.by (fun _ => ⟨true, _, rfl, Did.trans hc2 hbl2 hd3, hC⟩) (fun h => by simp at h)
    · rintro v w3 ⟨b, T, rfl, hd3, e⟩
      cases b with
      | true =>
        obtain ⟨M4, hb4, hS4, tl4, hd4⟩ := hd3.calm
        refine BrW.by (fun _ => ?_) (fun h => by simp at h)
        simp -dsimp (disch := first | omega | (simp only [go_sem, seval]; first | done | omega)) only [go_sem, seval, hb4]
        exact hK _ _ (base _ _ (by rw [e]; exact hd4))
      | false => exact BrW.by (fun h => by simp at h) (fun _ => hK _ _ (base _ _ (by rw [e]; exact hd3)))
  · rw [hs] at hd2 hC
    exact BrW.by (fun _ => hK _ _ (base _ _ (by rw [hC]; exact hd2))) (fun h => by simp at h)
theorem sdo_c {w : World} {s : Nat} {M : Scm} (h : SAt w s M) (ok : M.S.ok) {e : Option TypeId} {ad : Option Addr} {l : List Act'} (hs : Sx w e Act'.cells ad l) (hfar : ∀ b o, ad = some ⟨b, o, none⟩ → l ≠ [] → b ∉ s :: M.blk) (cap : Nat) (hl : l.length ≤ 1000000) (hf : ∀ a ∈ l, a.fits) : Calls Tryz.prog 12 #[.pointer (some ⟨s, 0, none⟩), .slice ad l.length cap] w
    (retK fun _ w' => Did w s M w' (M.S.acts l)) := by
  have w0 := ok.w0
  apply screen_Screen_Do_link
  intro K hK
  unfold screen_Screen_Do
  refine OpX.call screen_Screen_none_b rfl (Calls.ret (snone_c h w0) ?_)
  rintro v w1 ⟨rfl, rfl⟩
  simp -dsimp (disch := first | omega | (simp only [go_sem, seval]; first | done | omega)) only [go_sem, seval]
  refine Loop1.st (fun i : Nat => .int .i64 (i : Int)) (fun i w' => i ≤ l.length ∧ Did w s M w' (M.S.acts (l.take i))) (fun i => l.length - i) 0 rfl ⟨by omega, Did.refl h⟩ ?_
  rintro next i w2 hnx ⟨hi, hd⟩
  simp -dsimp (disch := first | omega | (simp only [go_sem, seval]; first | done | omega)) only [go_sem, seval]
  refine BrW.dec (fun d2 => ?_) (fun d2 => ?_)
  · have hi8 : i < l.length := by omega
    have hne : l ≠ [] := by rintro rfl; simp at hi8
    obtain ⟨M2, hA2, hS2, hc2, hbl2⟩ := hd
    have ok2 : M2.S.ok := by rw [hS2]; exact ok.acts.ok
    have hs2 := hs.chg hc2 hfar
    obtain ⟨b, o, rfl, hlb, hag⟩ := hs2.get (m := 13) Act'.len (List.getElem?_eq_getElem hi8)
    have hfa := hf _ (List.getElem_mem hi8)
    have e2 : M.S.acts (l.take (i + 1)) = M2.S.act l[i] := by rw [take_next hi8, hS2]; unfold Scr.acts; rw [List.foldl_append]; rfl
    obtain ⟨a, ha⟩ : ∃ a, a = l[i] := ⟨_, rfl⟩
    rw [← ha] at hag hfa e2
    have e1 : (i : Int) + 1 = ((i + 1 : Nat) : Int) := by omega
    refine Join0.cut (fun w' => Did w2 s M2 w' (M2.S.act a)) ?_ ?_
    · simp -dsimp (disch := first | omega | (simp only [go_sem, seval]; first | done | omega)) only [go_sem, seval, hag]
      obtain ⟨w3, hw3⟩ : ∃ w3, w3 = w2.alloc (.cells a.cells.toArray 34) := ⟨_, rfl⟩
      have hc3 : Chg [] w2 w3 := by rw [hw3]; exact chg_a1 _ _
      have ha3 : w3.heap[w2.heap.size]? = some (.cells a.cells.toArray 34) := by rw [hw3]; simp -dsimp (disch := first | omega | (simp only [go_sem, seval]; first | done | omega)) only [go_sem, seval]
      simp only [Act'.cells] at hw3
      rw [← hw3]
      clear hw3
      have hA3 := hA2.chg0 hc3
      have base : ∀ w' T, Did w3 s M2 w' T → Did w2 s M2 w' T := fun w' T hd => Did.trans (M1 := M2) (hc3.mono (by simp)) (fun b hb => .inl hb) hd
      obtain ⟨C, hC⟩ : ∃ C, C = M2.S.act a := ⟨_, rfl⟩
      rw [← hC]
      unfold Scr.act at hC
      refine BrW.dec (fun c1 => ?_) (fun c1 => ?_)
      · rw [if_pos c1] at hC
        simp -dsimp (disch := first | omega | (simp only [go_sem, seval]; first | done | omega)) only [go_sem, seval, ha3]
        refine OpX.call screen_Screen_print_b rfl (Calls.ret (sprint_c hA3 ok2 a.r) ?_)
        rintro v w4 hd
        rw [hC]; exact base _ _ hd
      rw [if_neg c1] at hC
      simp -dsimp (disch := first | omega | (simp only [go_sem, seval]; first | done | omega)) only [go_sem, seval]
      refine BrW.dec (fun c2 => ?_) (fun c2 => ?_)
      · rw [if_pos c2] at hC
        simp -dsimp (disch := first | omega | (simp only [go_sem, seval]; first | done | omega)) only [go_sem, seval, ha3]
        refine OpX.call screen_Screen_ctl_b rfl (Calls.ret (sctl_c hA3 ok2 a.r) ?_)
        rintro v w4 hd
        rw [hC]; exact base _ _ hd
      rw [if_neg c2] at hC
      simp -dsimp (disch := first | omega | (simp only [go_sem, seval]; first | done | omega)) only [go_sem, seval]
      refine BrW.dec (fun c3 => ?_) (fun c3 => ?_)
      · rw [if_pos c3] at hC
        simp -dsimp (disch := first | omega | (simp only [go_sem, seval]; first | done | omega)) only [go_sem, seval, ha3]
        refine BrW.dec (fun c4 => ?_) (fun c4 => ?_)
        · rw [if_pos c4] at hC
          simp -dsimp (disch := first | omega | (simp only [go_sem, seval]; first | done | omega)) only [go_sem, seval, ha3]
          refine OpX.call screen_Screen_esc_b rfl (Calls.ret (sesc_c hA3 ok2 a.r) ?_)
          rintro v w4 hd
          rw [hC]; exact base _ _ hd
        · rw [if_neg c4] at hC
          rw [hC]; exact base _ _ (Did.refl hA3)
      rw [if_neg c3] at hC
      simp -dsimp (disch := first | omega | (simp only [go_sem, seval]; first | done | omega)) only [go_sem, seval]
      refine BrW.dec (fun c4 => ?_) (fun c4 => ?_)
      · rw [if_pos c4] at hC
        simp -dsimp (disch := first | omega | (simp only [go_sem, seval]; first | done | omega)) only [go_sem, seval, ha3]
        refine OpX.call screen_Screen_csi_b rfl (Calls.ret (scsi_c hA3 ok2 a hfa) ?_)
        rintro v w4 hd
        rw [hC]; exact base _ _ hd
      rw [if_neg c4] at hC
      rw [hC]; exact base _ _ (Did.refl hA3)
    · intro w3 hd3
      simp -dsimp (disch := first | omega | (simp only [go_sem, seval]; first | done | omega)) only [go_sem, seval, e1]
      refine hnx (i + 1) _ ⟨by omega, ?_⟩ (by omega)
      rw [e2]
      exact Did.trans hc2 hbl2 hd3
  · have : i = l.length := by omega
    subst this
    rw [List.take_length] at hd
    exact hK _ _ hd
end Go.Proofs.YtjfembffjjijaaaGreat
namespace Go.Proofs.YtjfembffjjijaaaGreat
open Lyc Go
def noGrid : Value := .agg #[.int .i64 0, .int .i64 0, .slice none 0 0]
theorem gnew_bad (w : World) (x y : Int) (hf : fitsG x y = false) : Calls Tryz.prog 32 #[.int .i64 x, .int .i64 y] w (retK fun v w' => v = noGrid ∧ Chg [] w w') := by
  apply grid_New_link
  intro K hK
  unfold grid_New
  simp -dsimp (disch := first | omega | (simp only [go_sem, seval]; first | done | omega)) only [go_sem, seval]
  refine OpX.call grid_fits_b rfl (Calls.ret (fits_c _ x y) ?_)
  rintro v w1 ⟨rfl, rfl⟩
  simp -dsimp (disch := first | omega | (simp only [go_sem, seval]; first | done | omega)) only [go_sem, seval, hf]
  have hc1 := chg_a1 w (.cells #[.int .i64 0, .int .i64 0, .slice none 0 0] 38)
  exact hK _ _ ⟨rfl, hc1⟩
theorem gcheck_bad (w : World) : Calls Tryz.prog 33 #[noGrid] w (retK fun v w' => v = .bool false ∧ Chg [] w w') := by
  have hf : fitsG 0 0 = false := by decide
  apply grid_Check_link
  intro K hK
  unfold grid_Check
  simp -dsimp (disch := first | omega | (simp only [go_sem, seval]; first | done | omega)) only [go_sem, seval, noGrid]
  refine Join1.inl ?_
  simp -dsimp (disch := first | omega | (simp only [go_sem, seval]; first | done | omega)) only [go_sem, seval]
  refine OpX.call grid_fits_b rfl (Calls.ret (fits_c _ 0 0) ?_)
  rintro v w1 ⟨rfl, rfl⟩
  simp -dsimp (disch := first | omega | (simp only [go_sem, seval]; first | done | omega)) only [go_sem, seval, hf]
  exact hK _ _ ⟨rfl, chg_a2 _ _ _⟩
theorem snew_bad (w : World) (x y : Int) (hf : fitsG x y = false) : Calls Tryz.prog 10 #[.int .i64 x, .int .i64 y] w (retK fun v w' => v = .pointer none ∧ Chg [] w w') := by
  apply screen_New_link
  intro K hK
  unfold screen_New
  refine OpX.call grid_New_b rfl (Calls.ret (gnew_bad w x y hf) ?_)
  rintro v w1 ⟨rfl, hc1⟩
  simp -dsimp (disch := first | omega | (simp only [go_sem, seval]; first | done | omega)) only [go_sem, seval, noGrid]
  refine OpX.call grid_Check_b rfl (Calls.ret (gcheck_bad _) ?_)
  rintro v w2 ⟨rfl, hc2⟩
  simp -dsimp (disch := first | omega | (simp only [go_sem, seval]; first | done | omega)) only [go_sem, seval]
  exact hK _ _ ⟨rfl, ((hc1.alloc _).trans0 hc2)⟩
def new0 (W H : Nat) : List Value :=
  [(.int .i64 W : Value), .int .i64 H] ++ noGr ++ noGr ++ [(.int .i64 0 : Value), .int .i64 0, .int .i32 0, .int .u8 0, .int .u8 0, .int .u8 0, .int .i64 0, .int .i64 0, .int .i32 0, .int .u8 0, .int .u8 0, .int .u8 0, .int .i64 0, .int .i64 0, .int .i64 0, .int .i32 0, .int .u8 0, .int .u8 0, .int .u8 0, .int .i64 0, .int .i64 0] ++ List.replicate 200 (.bool false) ++ [.bool false, .bool false, .bool false, .slice none 0 0]
section
attribute [-go_sem] x_build x_buildA
theorem snew_c (w : World) (W H : Nat) (W0 : 0 < W) (W1 : W ≤ 200) (H0 : 0 < H) (H1 : H ≤ 60) : Calls Tryz.prog 10 #[.int .i64 W, .int .i64 H] w
    (retK fun v w' => ∃ s M, v = .pointer (some ⟨s, 0, none⟩) ∧ SAt w' s M ∧ M.S = Scr.new W H ∧ Chg [] w w' ∧ w.heap.size ≤ s ∧ ∀ b ∈ M.blk, w.heap.size ≤ b) := by
  apply screen_New_link
  intro K hK
  unfold screen_New
  refine OpX.call grid_New_b rfl (Calls.ret (gnew_c w W H W0 W1 H0 H1) ?_)
  rintro v w1 ⟨hg, hc1⟩
  obtain ⟨nb, cap, rfl, q1, q2, q3, q4⟩ := hg.sx
  simp -dsimp (disch := first | omega | (simp only [go_sem, seval]; first | done | omega)) only [go_sem, seval, Gr.val]
  refine OpX.gen fun w2 hw2 => ?_
  have hc2 : Chg [] w1 w2 := by rw [hw2]; exact chg_a1 _ _
  clear hw2
  have hfit := Gr.fit_plain W0 W1 H0 H1
  refine OpX.call grid_Check_b rfl (Calls.ret (gcheck_c hfit.ok (q4.chg0 hc2) cap q1) ?_)
  rintro v w3 ⟨rfl, hc3⟩
  simp -dsimp (disch := first | omega | (simp only [go_sem, seval]; first | done | omega)) only [go_sem, seval, hfit.r]
  refine OpX.build (c := (new0 W H).toArray) (by kernel_rfl) ?_
  rw [x_box]
  obtain ⟨z, hz⟩ : ∃ z, z = (Value.agg (new0 W H).toArray).cells := ⟨_, rfl⟩
  rw [← hz]
  have hb : (w3.alloc (.cells z 76)).heap[w3.heap.size]? = some (.cells (new0 W H).toArray 76) := by
    rw [hz]
    exact Lyc.heap_alloc_new _ _ _ rfl
  have hc4 : Chg [] w w3 := (hc1.trans0 hc2).trans0 hc3
  have hc5 : Chg [] w3 (w3.alloc (.cells z 76)) := chg_a1 _ _
  have hs5 : (w3.alloc (.cells z 76)).heap.size = w3.heap.size + 1 := by simp -dsimp (disch := first | omega | (simp only [go_sem, seval]; first | done | omega)) only [go_sem, seval]
  have hlen : (new0 W H).length = 233 := by unfold new0; simp only [List.length_append, List.length_replicate, List.length_cons, List.length_nil, noGr]
  have hz3 := hc4.size
  clear hz
  refine OpX.call screen_Screen_renew_b rfl (Calls.ret (srenew_c (W := W) (H := H) (rows := []) hb hlen rfl rfl rfl W0 W1 H0 H1 (Ox.nil _ _ _ _ _) (by simp)) ?_)
  rintro v w4 ⟨M, hA, hS, hgv, hc6, k1, k2⟩
  refine hK _ _ ⟨w3.heap.size, M, rfl, hA, ?_, (hc4.trans0 hc5).trans hc6 (by simp; omega), hz3, ?_⟩
  · rw [hS, snew_new]; rfl
  · intro b hb
    simp only [Scm.blk, List.mem_cons] at hb
    rcases hb with rfl | rfl | hb
    · omega
    · omega
    · rw [hgv] at hb; simp [Value.ownBlock] at hb
end
end Go.Proofs.YtjfembffjjijaaaGreat
namespace Go.Proofs.YtjfembffjjijaaaGreat
open Lyc Go
structure PSt where
  inn : Int
  A : Act'
  any : Bool
@[go_sem] def PSt.obj (P : PSt) : Obj := .cells #[.int .i64 P.inn, .int .i64 P.A.kind, .int .i32 P.A.r, .int .u8 P.A.priv, .int .u8 P.A.mid, .int .i64 P.A.n, .int .i64 P.A.n0, .int .i64 P.A.n1, .int .i64 P.A.n2, .int .i64 P.A.n3, .int .i64 P.A.n4, .int .i64 P.A.n5, .int .i64 P.A.n6, .int .i64 P.A.n7, .bool P.any] 79
structure PSt.ok (P : PSt) : Prop where
  n0 : 0 ≤ P.A.n
  n1 : P.A.n ≤ 9
  k : ∀ x ∈ P.A.nums, 0 ≤ x ∧ x ≤ 9999
  r : P.A.r = 0
def zeroA : Act' := ⟨0, 0, 0, 0, 0, 0, 0, 0, 0, 0, 0, 0, 0⟩
def printA (r : Int) : Act' := ⟨1, r, 0, 0, 0, 0, 0, 0, 0, 0, 0, 0, 0⟩
theorem fits_of {a : Act'} (r0 : -2147483648 ≤ a.r) (r1 : a.r ≤ 2147483647) (n0 : 0 ≤ a.n) (n1 : a.n ≤ 9) (k : ∀ x ∈ a.nums, 0 ≤ x ∧ x ≤ 9999) : a.fits :=
  ⟨r0, r1, by unfold i64ok; omega, fun x hx => by have := k x hx; unfold i64ok; omega⟩
theorem zeros_ok : ∀ x ∈ [(0 : Int), 0, 0, 0, 0, 0, 0, 0], 0 ≤ x ∧ x ≤ 9999 := by intro x hx; simp at hx; omega
theorem zeroA_fits : zeroA.fits := fits_of (by decide) (by decide) (by decide) (by decide) zeros_ok
def StepR (w : World) (p : Nat) (v : Value) (w' : World) : Prop := ∃ (P' : PSt) (a : Act'), w'.heap[p]? = some P'.obj ∧ P'.ok ∧ v = a.val ∧ a.fits ∧ Chg [p] w w'
theorem StepR.low {w w1 w' : World} {p : Nat} {v : Value} (h : StepR w1 p v w') (hc : Chg [] w w1) : StepR w p v w' := by
  obtain ⟨P', a, h1, h2, h3, h4, h5⟩ := h
  exact ⟨P', a, h1, h2, h3, h4, (hc.mono (by simp)).trans h5 (fun x hx => .inl hx)⟩
theorem pescape_c {w : World} {p : Nat} {P : PSt} (hb : w.heap[p]? = some P.obj) (ok : P.ok) (r : Int) (r0 : -2147483648 ≤ r) (r1 : r ≤ 2147483647) :
    Calls Tryz.prog 102 #[.pointer (some ⟨p, 0, none⟩), .int .i32 r] w (retK (StepR w p)) := by
  have hl := lt_of_heap hb
  apply lyceumref07_Parser_escape_link
  intro K hK
  unfold lyceumref07_Parser_escape
  have fin0 : ∀ (w4 : World) (P' : PSt), w4.heap[p]? = some P'.obj → P'.ok → Chg [p] w w4 → K zeroA.val w4 := fun w4 P' h1 h2 h3 => hK _ _ ⟨P', zeroA, h1, h2, rfl, zeroA_fits, h3⟩
  simp -dsimp (disch := first | omega | (simp only [go_sem, seval]; first | done | omega)) only [go_sem, seval]
  refine BrW.dec (fun c1 => ?_) (fun c1 => ?_)
  · refine Join0.inl ?_
    simp -dsimp (disch := first | omega | (simp only [go_sem, seval]; first | done | omega)) only [go_sem, seval, hb]
    refine BrW.dec (fun c2 => ?_) (fun c2 => ?_)
    · simp -dsimp (disch := first | omega | (simp only [go_sem, seval]; first | done | omega)) only [go_sem, seval, hb]
      refine fin0 _ ⟨P.inn, { P.A with mid := IntKind.u8.wrap r }, P.any⟩ ?_ ⟨ok.n0, ok.n1, ok.k, ok.r⟩ ?_
      · simp -dsimp (disch := first | omega | (simp only [go_sem, seval]; first | done | omega)) only [go_sem, seval]
      · (repeat (first | exact Chg.refl _ _ | apply Chg.drew | apply Chg.alloc | (refine Chg.set ?_ _ _ (by first | (left; simp; done) | (right; omega)))))
    · simp -dsimp (disch := first | omega | (simp only [go_sem, seval]; first | done | omega)) only [go_sem, seval, hb]
      refine fin0 _ ⟨P.inn, { P.A with mid := 255 }, P.any⟩ ?_ ⟨ok.n0, ok.n1, ok.k, ok.r⟩ ?_
      · simp -dsimp (disch := first | omega | (simp only [go_sem, seval]; first | done | omega)) only [go_sem, seval]
      · (repeat (first | exact Chg.refl _ _ | apply Chg.drew | apply Chg.alloc | (refine Chg.set ?_ _ _ (by first | (left; simp; done) | (right; omega)))))
  refine Join1.cut (fun v w' => ∃ b, v = .bool b ∧ w' = w.alloc (.cells zeroA.cells.toArray 34)) ?_ ?_
  · simp -dsimp (disch := first | omega | (simp only [go_sem, seval]; first | done | omega)) only [go_sem, seval, hb]
    refine BrW.dec (fun c2 => ?_) (fun c2 => ?_)
    · simp -dsimp (disch := first | omega | (simp only [go_sem, seval]; first | done | omega)) only [go_sem, seval]
      first | exact ⟨_, rfl, rfl⟩ | exact ⟨_, rfl⟩
    · first | exact ⟨_, rfl, rfl⟩ | exact ⟨_, rfl⟩
  rintro v w1 ⟨b, rfl, rfl⟩
  refine BrW.by (fun c2 => ?_) (fun c2 => ?_)
  · simp -dsimp (disch := first | omega | (simp only [go_sem, seval]; first | done | omega)) only [go_sem, seval, hb, zeroA]
    refine fin0 _ ⟨2, P.A, P.any⟩ ?_ ⟨ok.n0, ok.n1, ok.k, ok.r⟩ ?_
    · simp -dsimp (disch := first | omega | (simp only [go_sem, seval]; first | done | omega)) only [go_sem, seval]
    · (repeat (first | exact Chg.refl _ _ | apply Chg.drew | apply Chg.alloc | (refine Chg.set ?_ _ _ (by first | (left; simp; done) | (right; omega)))))
  clear c2 b
  refine Join1.cut (fun v w' => ∃ b, v = .bool b ∧ w' = w.alloc (.cells zeroA.cells.toArray 34)) ?_ ?_
  · simp -dsimp (disch := first | omega | (simp only [go_sem, seval]; first | done | omega)) only [go_sem, seval, hb]
    refine BrW.dec (fun c2 => ?_) (fun c2 => ?_)
    · simp -dsimp (disch := first | omega | (simp only [go_sem, seval]; first | done | omega)) only [go_sem, seval]
      refine BrW.dec (fun c3 => ?_) (fun c3 => ?_)
      · first | exact ⟨_, rfl, rfl⟩ | exact ⟨_, rfl⟩
      simp -dsimp (disch := first | omega | (simp only [go_sem, seval]; first | done | omega)) only [go_sem, seval]
      refine BrW.dec (fun c4 => ?_) (fun c4 => ?_)
      · first | exact ⟨_, rfl, rfl⟩ | exact ⟨_, rfl⟩
      simp -dsimp (disch := first | omega | (simp only [go_sem, seval]; first | done | omega)) only [go_sem, seval]
      refine BrW.dec (fun c5 => ?_) (fun c5 => ?_)
      · simp -dsimp (disch := first | omega | (simp only [go_sem, seval]; first | done | omega)) only [go_sem, seval]
        first | exact ⟨_, rfl, rfl⟩ | exact ⟨_, rfl⟩
      · first | exact ⟨_, rfl, rfl⟩ | exact ⟨_, rfl⟩
    · first | exact ⟨_, rfl, rfl⟩ | exact ⟨_, rfl⟩
  rintro v w1 ⟨b, rfl, rfl⟩
  refine BrW.by (fun c2 => ?_) (fun c2 => ?_)
  · simp -dsimp (disch := first | omega | (simp only [go_sem, seval]; first | done | omega)) only [go_sem, seval, hb, zeroA]
    refine fin0 _ ⟨4, P.A, P.any⟩ ?_ ⟨ok.n0, ok.n1, ok.k, ok.r⟩ ?_
    · simp -dsimp (disch := first | omega | (simp only [go_sem, seval]; first | done | omega)) only [go_sem, seval]
    · (repeat (first | exact Chg.refl _ _ | apply Chg.drew | apply Chg.alloc | (refine Chg.set ?_ _ _ (by first | (left; simp; done) | (right; omega)))))
  clear c2 b
  simp -dsimp (disch := first | omega | (simp only [go_sem, seval]; first | done | omega)) only [go_sem, seval, hb, zeroA]
  refine Join1.inl ?_
  simp -dsimp (disch := first | omega | (simp only [go_sem, seval]; first | done | omega)) only [go_sem, seval]
  refine BrW.dec (fun c2 => ?_) (fun c2 => ?_)
  · simp -dsimp (disch := first | omega | (simp only [go_sem, seval]; first | done | omega)) only [go_sem, seval]
    refine fin0 _ ⟨0, P.A, P.any⟩ ?_ ⟨ok.n0, ok.n1, ok.k, ok.r⟩ ?_
    · simp -dsimp (disch := first | omega | (simp only [go_sem, seval]; first | done | omega)) only [go_sem, seval]
    · (repeat (first | exact Chg.refl _ _ | apply Chg.drew | apply Chg.alloc | (refine Chg.set ?_ _ _ (by first | (left; simp; done) | (right; omega)))))
  simp -dsimp (disch := first | omega | (simp only [go_sem, seval]; first | done | omega)) only [go_sem, seval, hb]
  refine BrW.dec (fun c3 => ?_) (fun c3 => ?_)
  · simp -dsimp (disch := first | omega | (simp only [go_sem, seval]; first | done | omega)) only [go_sem, seval]
    refine fin0 _ ⟨0, P.A, P.any⟩ ?_ ⟨ok.n0, ok.n1, ok.k, ok.r⟩ ?_
    · simp -dsimp (disch := first | omega | (simp only [go_sem, seval]; first | done | omega)) only [go_sem, seval]
    · (repeat (first | exact Chg.refl _ _ | apply Chg.drew | apply Chg.alloc | (refine Chg.set ?_ _ _ (by first | (left; simp; done) | (right; omega)))))
  simp -dsimp (disch := first | omega | (simp only [go_sem, seval]; first | done | omega)) only [go_sem, seval, hb]
  refine hK _ _ ⟨⟨0, P.A, P.any⟩, ⟨3, r, 0, P.A.mid, 0, 0, 0, 0, 0, 0, 0, 0, 0⟩, ?_, ⟨ok.n0, ok.n1, ok.k, ok.r⟩, rfl, fits_of r0 r1 (Int.le_refl 0) (by show (0 : Int) ≤ 9; decide) zeros_ok, ?_⟩
  · simp -dsimp (disch := first | omega | (simp only [go_sem, seval]; first | done | omega)) only [go_sem, seval]
  · (repeat (first | exact Chg.refl _ _ | apply Chg.drew | apply Chg.alloc | (refine Chg.set ?_ _ _ (by first | (left; simp; done) | (right; omega)))))
def CsiI (w : World) (p : Nat) (i : Int) (A : Act') (w' : World) : Prop := w'.heap[p]? = some (PSt.mk i A true).obj ∧ (PSt.mk i A true).ok ∧ w'.heap[w.heap.size]? = some (.cells zeroA.cells.toArray 34) ∧ Chg [p] w w'
theorem pcsi_c {w : World} {p : Nat} {P : PSt} (hb : w.heap[p]? = some P.obj) (ok : P.ok) (r : Int) (r0 : -2147483648 ≤ r) (r1 : r ≤ 2147483647) :
    Calls Tryz.prog 103 #[.pointer (some ⟨p, 0, none⟩), .int .i32 r] w (retK (StepR w p)) := by
  have hl := lt_of_heap hb
  apply lyceumref07_Parser_csi_link
  intro K hK
  unfold lyceumref07_Parser_csi
  have fin0 : ∀ (w4 : World) (P' : PSt), w4.heap[p]? = some P'.obj → P'.ok → Chg [p] w w4 → K zeroA.val w4 := fun w4 P' h1 h2 h3 => hK _ _ ⟨P', zeroA, h1, h2, rfl, zeroA_fits, h3⟩
  simp -dsimp (disch := first | omega | (simp only [go_sem, seval]; first | done | omega)) only [go_sem, seval, hb]
  obtain ⟨w1, hw1⟩ : ∃ w1, w1 = (setBlk w p (PSt.mk P.inn P.A true).obj).alloc (.cells zeroA.cells.toArray 34) := ⟨_, rfl⟩
  have hI : CsiI w p P.inn P.A w1 := by
    refine ⟨?_, ⟨ok.n0, ok.n1, ok.k, ok.r⟩, ?_, ?_⟩
    · rw [hw1]; simp -dsimp (disch := first | omega | (simp only [go_sem, seval]; first | done | omega)) only [go_sem, seval]
    · rw [hw1]; simp -dsimp (disch := first | omega | (simp only [go_sem, seval]; first | done | omega)) only [go_sem, seval, zeroA]
    · rw [hw1]; (repeat (first | exact Chg.refl _ _ | apply Chg.drew | apply Chg.alloc | (refine Chg.set ?_ _ _ (by first | (left; simp; done) | (right; omega)))))
  simp only [PSt.obj, zeroA, Act'.cells] at hw1
  rw [← hw1]
  clear hw1
  have hne : p ≠ w.heap.size := by omega
  have fz : ∀ (w4 : World) (i : Int) (A : Act'), CsiI w p i A w4 → OpX Tryz.prog (.build 34 #[]) 34 (fun t76 => xS 34 (.pointer (some ⟨w.heap.size, 0, none⟩)) t76 (xD 34 (.pointer (some ⟨w.heap.size, 0, none⟩)) fun t4_1 => K t4_1)) w4 := by
    rintro w4 i A ⟨h1, h2, h3, h4⟩
    have hl4 := lt_of_heap h3
    simp -dsimp (disch := first | omega | (simp only [go_sem, seval]; first | done | omega)) only [go_sem, seval, h3, zeroA]
    refine fin0 _ _ ?_ h2 (h4.set _ _ (.inr (Nat.le_refl _)))
    simp -dsimp (disch := first | omega | (simp only [go_sem, seval]; first | done | omega)) only [go_sem, seval]
    exact h1
  obtain ⟨hb1, ok1, ho1, hc1⟩ := hI
  have hl1 := lt_of_heap hb1
  have hlo1 := lt_of_heap ho1
  have step : ∀ (i : Int) (A : Act') (w4 : World), CsiI w p P.inn P.A w1 → (PSt.mk i A true).ok → w4 = setBlk w1 p (PSt.mk i A true).obj → CsiI w p i A w4 := by
    rintro i A w4 - h2 rfl
    refine ⟨?_, h2, ?_, hc1.set _ _ (.inl (by simp))⟩
    · simp -dsimp (disch := first | omega | (simp only [go_sem, seval]; first | done | omega)) only [go_sem, seval]
    · simp -dsimp (disch := first | omega | (simp only [go_sem, seval]; first | done | omega)) only [go_sem, seval, ho1]
  refine Join1.cut (fun v w' => ∃ b, v = .bool b ∧ (b = true → 48 ≤ r ∧ r ≤ 57) ∧ w1 = w') ?_ ?_
  · simp -dsimp (disch := first | omega | (simp only [go_sem, seval]; first | done | omega)) only [go_sem, seval]
    refine BrW.dec (fun c1 => ?_) (fun c1 => ?_)
    · simp -dsimp (disch := first | omega | (simp only [go_sem, seval]; first | done | omega)) only [go_sem, seval]
      refine BrW.dec (fun c2 => ?_) (fun c2 => ?_)
      · simp -dsimp (disch := first | omega | (simp only [go_sem, seval]; first | done | omega)) only [go_sem, seval, hb1]
        first | exact ⟨_, rfl, fun _ => ⟨c1, c2⟩, rfl⟩ | exact ⟨_, rfl, fun _ => ⟨c1, c2⟩⟩
      · exact ⟨_, rfl, fun h => by simp at h, rfl⟩
    · exact ⟨_, rfl, fun h => by simp at h, rfl⟩
  rintro v w2 ⟨b, rfl, hbr, rfl⟩
  refine BrW.by (fun c2 => ?_) (fun c2 => ?_)
  · have hr := hbr c2
    refine Join0.cut (fun w' => ∃ A, 1 ≤ A.n ∧ CsiI w p P.inn A w') ?_ ?_
    · simp -dsimp (disch := first | omega | (simp only [go_sem, seval]; first | done | omega)) only [go_sem, seval, hb1]
      refine BrW.dec (fun d1 => ?_) (fun d1 => ?_)
      · simp -dsimp (disch := first | omega | (simp only [go_sem, seval]; first | done | omega)) only [go_sem, seval, hb1]
        exact ⟨{ P.A with n := 1 }, Int.le_refl 1, step _ _ _ ⟨hb1, ok1, ho1, hc1⟩ ⟨by show (0 : Int) ≤ 1; decide, by show (1 : Int) ≤ 9; decide, ok1.k, ok1.r⟩ rfl⟩
      · exact ⟨P.A, by have := ok1.n0; have h9 : (PSt.mk P.inn P.A true).A.n = P.A.n := rfl; omega, hb1, ok1, ho1, hc1⟩
    rintro w2 ⟨A, n1, hb2, ok2, ho2, hc2⟩
    have hl2 := lt_of_heap hb2
    have hlo2 := lt_of_heap ho2
    refine Join0.cut (fun w' => ∃ A, CsiI w p P.inn A w') ?_ ?_
    · obtain ⟨ak, ar, ap, am, an, a0, a1, a2, a3, a4, a5, a6, a7⟩ := A
      have k0 := ok2.k a0 (by simp [Act'.nums])
      have k1 := ok2.k a1 (by simp [Act'.nums])
      have k2 := ok2.k a2 (by simp [Act'.nums])
      have k3 := ok2.k a3 (by simp [Act'.nums])
      have k4 := ok2.k a4 (by simp [Act'.nums])
      have k5 := ok2.k a5 (by simp [Act'.nums])
      have k6 := ok2.k a6 (by simp [Act'.nums])
      have k7 := ok2.k a7 (by simp [Act'.nums])
      have n9 : an ≤ 9 := ok2.n1
      have rr : ar = 0 := ok2.r
      replace n1 : 1 ≤ an := n1
      simp -dsimp (disch := first | omega | (simp only [go_sem, seval]; first | done | omega)) only [go_sem, seval, hb2]
      refine BrW.dec (fun d1 => ?_) (fun d1 => ?_)
      · have hn : an = 1 ∨ an = 2 ∨ an = 3 ∨ an = 4 ∨ an = 5 ∨ an = 6 ∨ an = 7 ∨ an = 8 := by omega
        rcases hn with rfl | rfl | rfl | rfl | rfl | rfl | rfl | rfl
        · simp -dsimp (disch := first | omega | (simp only [go_sem, seval]; first | done | omega)) only [go_sem, seval, hb2]
          rw [wrap_i64 _ (by omega) (by omega)]
          refine Join1.cut (fun v w' => ∃ k : Int, v = .int .i64 k ∧ 0 ≤ k ∧ k ≤ 9999 ∧ w' = w2.drew) ?_ ?_
          · simp -dsimp (disch := first | omega | (simp only [go_sem, seval]; first | done | omega)) only [go_sem, seval]
            refine BrW.dec (fun d2 => ?_) (fun d2 => ?_)
            · exact ⟨9999, rfl, by omega, by omega, rfl⟩
            · exact ⟨_, rfl, by omega, by omega, rfl⟩
          rintro v w3 ⟨k, rfl, q0, q1, rfl⟩
          simp -dsimp (disch := first | omega | (simp only [go_sem, seval]; first | done | omega)) only [go_sem, seval, hb2]
          refine ⟨⟨ak, ar, ap, am, 1, k, a1, a2, a3, a4, a5, a6, a7⟩, ?_, ⟨by show (0 : Int) ≤ 1; decide, by show (1 : Int) ≤ 9; decide, ?_, rr⟩, ?_, ?_⟩
          · simp -dsimp (disch := first | omega | (simp only [go_sem, seval]; first | done | omega)) only [go_sem, seval]
          · intro x hx
            simp [Act'.nums] at hx
            rcases hx with rfl | rfl | rfl | rfl | rfl | rfl | rfl | rfl <;> omega
          · simp -dsimp (disch := first | omega | (simp only [go_sem, seval]; first | done | omega)) only [go_sem, seval, ho2]
          · exact ((hc2.drew.set _ _ (.inl (by simp)))).drew
        · simp -dsimp (disch := first | omega | (simp only [go_sem, seval]; first | done | omega)) only [go_sem, seval, hb2]
          rw [wrap_i64 _ (by omega) (by omega)]
          refine Join1.cut (fun v w' => ∃ k : Int, v = .int .i64 k ∧ 0 ≤ k ∧ k ≤ 9999 ∧ w' = w2.drew) ?_ ?_
          · simp -dsimp (disch := first | omega | (simp only [go_sem, seval]; first | done | omega)) only [go_sem, seval]
            refine BrW.dec (fun d2 => ?_) (fun d2 => ?_)
            · exact ⟨9999, rfl, by omega, by omega, rfl⟩
            · exact ⟨_, rfl, by omega, by omega, rfl⟩
          rintro v w3 ⟨k, rfl, q0, q1, rfl⟩
          simp -dsimp (disch := first | omega | (simp only [go_sem, seval]; first | done | omega)) only [go_sem, seval, hb2]
          refine ⟨⟨ak, ar, ap, am, 2, a0, k, a2, a3, a4, a5, a6, a7⟩, ?_, ⟨by show (0 : Int) ≤ 2; decide, by show (2 : Int) ≤ 9; decide, ?_, rr⟩, ?_, ?_⟩
          · simp -dsimp (disch := first | omega | (simp only [go_sem, seval]; first | done | omega)) only [go_sem, seval]
          · intro x hx
            simp [Act'.nums] at hx
            rcases hx with rfl | rfl | rfl | rfl | rfl | rfl | rfl | rfl <;> omega
          · simp -dsimp (disch := first | omega | (simp only [go_sem, seval]; first | done | omega)) only [go_sem, seval, ho2]
          · exact ((hc2.drew.set _ _ (.inl (by simp)))).drew
        · simp -dsimp (disch := first | omega | (simp only [go_sem, seval]; first | done | omega)) only [go_sem, seval, hb2]
          rw [wrap_i64 _ (by omega) (by omega)]
          refine Join1.cut (fun v w' => ∃ k : Int, v = .int .i64 k ∧ 0 ≤ k ∧ k ≤ 9999 ∧ w' = w2.drew) ?_ ?_
          · simp -dsimp (disch := first | omega | (simp only [go_sem, seval]; first | done | omega)) only [go_sem, seval]
            refine BrW.dec (fun d2 => ?_) (fun d2 => ?_)
            · exact ⟨9999, rfl, by omega, by omega, rfl⟩
            · exact ⟨_, rfl, by omega, by omega, rfl⟩
          rintro v w3 ⟨k, rfl, q0, q1, rfl⟩
          simp -dsimp (disch := first | omega | (simp only [go_sem, seval]; first | done | omega)) only [go_sem, seval, hb2]
          refine ⟨⟨ak, ar, ap, am, 3, a0, a1, k, a3, a4, a5, a6, a7⟩, ?_, ⟨by show (0 : Int) ≤ 3; decide, by show (3 : Int) ≤ 9; decide, ?_, rr⟩, ?_, ?_⟩
          · simp -dsimp (disch := first | omega | (simp only [go_sem, seval]; first | done | omega)) only [go_sem, seval]
          · intro x hx
            simp [Act'.nums] at hx
            rcases hx with rfl | rfl | rfl | rfl | rfl | rfl | rfl | rfl <;> omega
          · simp -dsimp (disch := first | omega | (simp only [go_sem, seval]; first | done | omega)) only [go_sem, seval, ho2]
          · exact ((hc2.drew.set _ _ (.inl (by simp)))).drew
        · simp -dsimp (disch := first | omega | (simp only [go_sem, seval]; first | done | omega)) only [go_sem, seval, hb2]
          rw [wrap_i64 _ (by omega) (by omega)]
          refine Join1.cut (fun v w' => ∃ k : Int, v = .int .i64 k ∧ 0 ≤ k ∧ k ≤ 9999 ∧ w' = w2.drew) ?_ ?_
          · simp -dsimp (disch := first | omega | (simp only [go_sem, seval]; first | done | omega)) only [go_sem, seval]
            refine BrW.dec (fun d2 => ?_) (fun d2 => ?_)
            · exact ⟨9999, rfl, by omega, by omega, rfl⟩
            · exact ⟨_, rfl, by omega, by omega, rfl⟩
          rintro v w3 ⟨k, rfl, q0, q1, rfl⟩
          simp -dsimp (disch := first | omega | (simp only [go_sem, seval]; first | done | omega)) only [go_sem, seval, hb2]
          refine ⟨⟨ak, ar, ap, am, 4, a0, a1, a2, k, a4, a5, a6, a7⟩, ?_, ⟨by show (0 : Int) ≤ 4; decide, by show (4 : Int) ≤ 9; decide, ?_, rr⟩, ?_, ?_⟩
          · simp -dsimp (disch := first | omega | (simp only [go_sem, seval]; first | done | omega)) only [go_sem, seval]
          · intro x hx
            simp [Act'.nums] at hx
            rcases hx with rfl | rfl | rfl | rfl | rfl | rfl | rfl | rfl <;> omega
          · simp -dsimp (disch := first | omega | (simp only [go_sem, seval]; first | done | omega)) only [go_sem, seval, ho2]
          · exact ((hc2.drew.set _ _ (.inl (by simp)))).drew
        · simp -dsimp (disch := first | omega | (simp only [go_sem, seval]; first | done | omega)) only [go_sem, seval, hb2]
          rw [wrap_i64 _ (by omega) (by omega)]
          refine Join1.cut (fun v w' => ∃ k : Int, v = .int .i64 k ∧ 0 ≤ k ∧ k ≤ 9999 ∧ w' = w2.drew) ?_ ?_
          · simp -dsimp (disch := first | omega | (simp only [go_sem, seval]; first | done | omega)) only [go_sem, seval]
            refine BrW.dec (fun d2 => ?_) (fun d2 => ?_)
            · exact ⟨9999, rfl, by omega, by omega, rfl⟩
            · exact ⟨_, rfl, by omega, by omega, rfl⟩
          rintro v w3 ⟨k, rfl, q0, q1, rfl⟩
          simp -dsimp (disch := first | omega | (simp only [go_sem, seval]; first | done | omega)) only [go_sem, seval, hb2]
          refine ⟨⟨ak, ar, ap, am, 5, a0, a1, a2, a3, k, a5, a6, a7⟩, ?_, ⟨by show (0 : Int) ≤ 5; decide, by show (5 : Int) ≤ 9; decide, ?_, rr⟩, ?_, ?_⟩
          · simp -dsimp (disch := first | omega | (simp only [go_sem, seval]; first | done | omega)) only [go_sem, seval]
          · intro x hx
            simp [Act'.nums] at hx
            rcases hx with rfl | rfl | rfl | rfl | rfl | rfl | rfl | rfl <;> omega
          · simp -dsimp (disch := first | omega | (simp only [go_sem, seval]; first | done | omega)) only [go_sem, seval, ho2]
          · exact ((hc2.drew.set _ _ (.inl (by simp)))).drew
        · simp -dsimp (disch := first | omega | (simp only [go_sem, seval]; first | done | omega)) only [go_sem, seval, hb2]
          rw [wrap_i64 _ (by omega) (by omega)]
          refine Join1.cut (fun v w' => ∃ k : Int, v = .int .i64 k ∧ 0 ≤ k ∧ k ≤ 9999 ∧ w' = w2.drew) ?_ ?_
          · simp -dsimp (disch := first | omega | (simp only [go_sem, seval]; first | done | omega)) only [go_sem, seval]
            refine BrW.dec (fun d2 => ?_) (fun d2 => ?_)
            · exact ⟨9999, rfl, by omega, by omega, rfl⟩
            · exact ⟨_, rfl, by omega, by omega, rfl⟩
          rintro v w3 ⟨k, rfl, q0, q1, rfl⟩
          simp -dsimp (disch := first | omega | (simp only [go_sem, seval]; first | done | omega)) only [go_sem, seval, hb2]
          refine ⟨⟨ak, ar, ap, am, 6, a0, a1, a2, a3, a4, k, a6, a7⟩, ?_, ⟨by show (0 : Int) ≤ 6; decide, by show (6 : Int) ≤ 9; decide, ?_, rr⟩, ?_, ?_⟩
          · simp -dsimp (disch := first | omega | (simp only [go_sem, seval]; first | done | omega)) only [go_sem, seval]
          · intro x hx
            simp [Act'.nums] at hx
            rcases hx with rfl | rfl | rfl | rfl | rfl | rfl | rfl | rfl <;> omega
          · simp -dsimp (disch := first | omega | (simp only [go_sem, seval]; first | done | omega)) only [go_sem, seval, ho2]
          · exact ((hc2.drew.set _ _ (.inl (by simp)))).drew
        · simp -dsimp (disch := first | omega | (simp only [go_sem, seval]; first | done | omega)) only [go_sem, seval, hb2]
          rw [wrap_i64 _ (by omega) (by omega)]
          refine Join1.cut (fun v w' => ∃ k : Int, v = .int .i64 k ∧ 0 ≤ k ∧ k ≤ 9999 ∧ w' = w2.drew) ?_ ?_
          · simp -dsimp (disch := first | omega | (simp only [go_sem, seval]; first | done | omega)) only [go_sem, seval]
            refine BrW.dec (fun d2 => ?_) (fun d2 => ?_)
            · exact ⟨9999, rfl, by omega, by omega, rfl⟩
            · exact ⟨_, rfl, by omega, by omega, rfl⟩
          rintro v w3 ⟨k, rfl, q0, q1, rfl⟩
          simp -dsimp (disch := first | omega | (simp only [go_sem, seval]; first | done | omega)) only [go_sem, seval, hb2]
          refine ⟨⟨ak, ar, ap, am, 7, a0, a1, a2, a3, a4, a5, k, a7⟩, ?_, ⟨by show (0 : Int) ≤ 7; decide, by show (7 : Int) ≤ 9; decide, ?_, rr⟩, ?_, ?_⟩
          · simp -dsimp (disch := first | omega | (simp only [go_sem, seval]; first | done | omega)) only [go_sem, seval]
          · intro x hx
            simp [Act'.nums] at hx
            rcases hx with rfl | rfl | rfl | rfl | rfl | rfl | rfl | rfl <;> omega
          · simp -dsimp (disch := first | omega | (simp only [go_sem, seval]; first | done | omega)) only [go_sem, seval, ho2]
          · exact ((hc2.drew.set _ _ (.inl (by simp)))).drew
        · simp -dsimp (disch := first | omega | (simp only [go_sem, seval]; first | done | omega)) only [go_sem, seval, hb2]
          rw [wrap_i64 _ (by omega) (by omega)]
          refine Join1.cut (fun v w' => ∃ k : Int, v = .int .i64 k ∧ 0 ≤ k ∧ k ≤ 9999 ∧ w' = w2.drew) ?_ ?_
          · simp -dsimp (disch := first | omega | (simp only [go_sem, seval]; first | done | omega)) only [go_sem, seval]
            refine BrW.dec (fun d2 => ?_) (fun d2 => ?_)
            · exact ⟨9999, rfl, by omega, by omega, rfl⟩
            · exact ⟨_, rfl, by omega, by omega, rfl⟩
          rintro v w3 ⟨k, rfl, q0, q1, rfl⟩
          simp -dsimp (disch := first | omega | (simp only [go_sem, seval]; first | done | omega)) only [go_sem, seval, hb2]
          refine ⟨⟨ak, ar, ap, am, 8, a0, a1, a2, a3, a4, a5, a6, k⟩, ?_, ⟨by show (0 : Int) ≤ 8; decide, by show (8 : Int) ≤ 9; decide, ?_, rr⟩, ?_, ?_⟩
          · simp -dsimp (disch := first | omega | (simp only [go_sem, seval]; first | done | omega)) only [go_sem, seval]
          · intro x hx
            simp [Act'.nums] at hx
            rcases hx with rfl | rfl | rfl | rfl | rfl | rfl | rfl | rfl <;> omega
          · simp -dsimp (disch := first | omega | (simp only [go_sem, seval]; first | done | omega)) only [go_sem, seval, ho2]
          · exact ((hc2.drew.set _ _ (.inl (by simp)))).drew
      · exact ⟨_, hb2, ok2, ho2, hc2⟩
    · rintro w3 ⟨A3, h3⟩
      exact fz _ _ _ h3
  clear c2 hbr b
  have hI1 : CsiI w p P.inn P.A w1 := ⟨hb1, ok1, ho1, hc1⟩
  refine Join1.cut (fun v w' => ∃ b, v = .bool b ∧ w1 = w') ?_ ?_
  · simp -dsimp (disch := first | omega | (simp only [go_sem, seval]; first | done | omega)) only [go_sem, seval]
    refine BrW.dec (fun c1 => ?_) (fun c1 => ?_)
    · simp -dsimp (disch := first | omega | (simp only [go_sem, seval]; first | done | omega)) only [go_sem, seval, hb1]
      first | exact ⟨_, rfl, rfl⟩ | exact ⟨_, rfl⟩
    · simp -dsimp (disch := first | omega | (simp only [go_sem, seval]; first | done | omega)) only [go_sem, seval]
      refine BrW.dec (fun c2 => ?_) (fun c2 => ?_)
      · simp -dsimp (disch := first | omega | (simp only [go_sem, seval]; first | done | omega)) only [go_sem, seval, hb1]
        first | exact ⟨_, rfl, rfl⟩ | exact ⟨_, rfl⟩
      · exact ⟨_, rfl, rfl⟩
  rintro v w2 ⟨b, rfl, rfl⟩
  refine BrW.by (fun c2 => ?_) (fun c2 => ?_)
  · refine Join0.cut (fun w' => ∃ A, CsiI w p P.inn A w') ?_ ?_
    · simp -dsimp (disch := first | omega | (simp only [go_sem, seval]; first | done | omega)) only [go_sem, seval, hb1]
      refine BrW.dec (fun d1 => ?_) (fun d1 => ?_)
      · simp -dsimp (disch := first | omega | (simp only [go_sem, seval]; first | done | omega)) only [go_sem, seval, hb1]
        exact ⟨{ P.A with n := 1 }, step _ _ _ hI1 ⟨by show (0 : Int) ≤ 1; decide, by show (1 : Int) ≤ 9; decide, ok1.k, ok1.r⟩ rfl⟩
      · exact ⟨P.A, hI1⟩
    rintro w2 ⟨A, hb2, ok2, ho2, hc2⟩
    have hl2 := lt_of_heap hb2
    have hlo2 := lt_of_heap ho2
    have n0 : 0 ≤ A.n := ok2.n0
    refine Join0.cut (fun w' => ∃ A, CsiI w p P.inn A w') ?_ ?_
    · simp -dsimp (disch := first | omega | (simp only [go_sem, seval]; first | done | omega)) only [go_sem, seval, hb2]
      refine BrW.dec (fun d1 => ?_) (fun d1 => ?_)
      · simp -dsimp (disch := first | omega | (simp only [go_sem, seval]; first | done | omega)) only [go_sem, seval, hb2]
        refine ⟨{ A with n := A.n + 1 }, ?_, ⟨by show 0 ≤ A.n + 1; omega, by show A.n + 1 ≤ 9; omega, ok2.k, ok2.r⟩, ?_, hc2.set _ _ (.inl (by simp))⟩
        · simp -dsimp (disch := first | omega | (simp only [go_sem, seval]; first | done | omega)) only [go_sem, seval]
        · simp -dsimp (disch := first | omega | (simp only [go_sem, seval]; first | done | omega)) only [go_sem, seval, ho2]
      · exact ⟨A, hb2, ok2, ho2, hc2⟩
    · rintro w3 ⟨A3, h3⟩
      exact fz _ _ _ h3
  clear c2 b
  refine Join1.cut (fun v w' => ∃ b, v = .bool b ∧ w1 = w') ?_ ?_
  · simp -dsimp (disch := first | omega | (simp only [go_sem, seval]; first | done | omega)) only [go_sem, seval]
    refine BrW.dec (fun c1 => ?_) (fun c1 => ?_)
    · simp -dsimp (disch := first | omega | (simp only [go_sem, seval]; first | done | omega)) only [go_sem, seval]
      refine BrW.dec (fun c2 => ?_) (fun c2 => ?_)
      · simp -dsimp (disch := first | omega | (simp only [go_sem, seval]; first | done | omega)) only [go_sem, seval]
        first | exact ⟨_, rfl, rfl⟩ | exact ⟨_, rfl⟩
      · exact ⟨_, rfl, rfl⟩
    · exact ⟨_, rfl, rfl⟩
  rintro v w2 ⟨b, rfl, rfl⟩
  refine BrW.by (fun c2 => ?_) (fun c2 => ?_)
  · simp -dsimp (disch := first | omega | (simp only [go_sem, seval]; first | done | omega)) only [go_sem, seval, hb1, ho1, zeroA]
    refine fin0 _ ⟨P.inn, { P.A with priv := IntKind.u8.wrap r }, true⟩ ?_ ⟨ok1.n0, ok1.n1, ok1.k, ok1.r⟩ ((hc1.set p _ (.inl (by simp))).set w.heap.size _ (.inr (Nat.le_refl _)))
    simp -dsimp (disch := first | omega | (simp only [go_sem, seval]; first | done | omega)) only [go_sem, seval]
  clear c2 b
  refine Join1.cut (fun v w' => ∃ b, v = .bool b ∧ w1 = w') ?_ ?_
  · simp -dsimp (disch := first | omega | (simp only [go_sem, seval]; first | done | omega)) only [go_sem, seval]
    refine BrW.dec (fun c1 => ?_) (fun c1 => ?_)
    · simp -dsimp (disch := first | omega | (simp only [go_sem, seval]; first | done | omega)) only [go_sem, seval, hb1]
      first | exact ⟨_, rfl, rfl⟩ | exact ⟨_, rfl⟩
    · exact ⟨_, rfl, rfl⟩
  rintro v w2 ⟨b, rfl, rfl⟩
  refine BrW.by (fun c2 => ?_) (fun c2 => ?_)
  · simp -dsimp (disch := first | omega | (simp only [go_sem, seval]; first | done | omega)) only [go_sem, seval, hb1, ho1, zeroA]
    refine fin0 _ ⟨P.inn, { P.A with mid := IntKind.u8.wrap r }, true⟩ ?_ ⟨ok1.n0, ok1.n1, ok1.k, ok1.r⟩ ((hc1.set p _ (.inl (by simp))).set w.heap.size _ (.inr (Nat.le_refl _)))
    simp -dsimp (disch := first | omega | (simp only [go_sem, seval]; first | done | omega)) only [go_sem, seval]
  clear c2 b
  refine Join1.cut (fun v w' => ∃ b, v = .bool b ∧ w1 = w') ?_ ?_
  · simp -dsimp (disch := first | omega | (simp only [go_sem, seval]; first | done | omega)) only [go_sem, seval]
    refine BrW.dec (fun c1 => ?_) (fun c1 => ?_)
    · simp -dsimp (disch := first | omega | (simp only [go_sem, seval]; first | done | omega)) only [go_sem, seval]
      first | exact ⟨_, rfl, rfl⟩ | exact ⟨_, rfl⟩
    · exact ⟨_, rfl, rfl⟩
  rintro v w2 ⟨b, rfl, rfl⟩
  refine BrW.by (fun c2 => ?_) (fun c2 => ?_)
  · simp -dsimp (disch := first | omega | (simp only [go_sem, seval]; first | done | omega)) only [go_sem, seval, hb1, ho1, zeroA]
    have hz : (setBlk w1 p (.cells #[.int .i64 0, .int .i64 P.A.kind, .int .i32 P.A.r, .int .u8 P.A.priv, .int .u8 P.A.mid, .int .i64 P.A.n, .int .i64 P.A.n0, .int .i64 P.A.n1, .int .i64 P.A.n2, .int .i64 P.A.n3, .int .i64 P.A.n4, .int .i64 P.A.n5, .int .i64 P.A.n6, .int .i64 P.A.n7, .bool true] 79)).heap.size = w1.heap.size := by simp -dsimp (disch := first | omega | (simp only [go_sem, seval]; first | done | omega)) only [go_sem, seval]
    rw [hz]
    obtain ⟨w2, hw2⟩ : ∃ w2, w2 = (setBlk w1 p (PSt.mk 0 P.A true).obj).alloc (.cells ({ P.A with kind := 4, r := r } : Act').cells.toArray 34) := ⟨_, rfl⟩
    have hb2 : w2.heap[p]? = some (PSt.mk 0 P.A true).obj := by rw [hw2]; simp -dsimp (disch := first | omega | (simp only [go_sem, seval]; first | done | omega)) only [go_sem, seval]
    have ho2 : w2.heap[w.heap.size]? = some (.cells zeroA.cells.toArray 34) := by rw [hw2]; simp -dsimp (disch := first | omega | (simp only [go_sem, seval]; first | done | omega)) only [go_sem, seval, ho1, zeroA]
    have hx2 : w2.heap[w1.heap.size]? = some (.cells ({ P.A with kind := 4, r := r } : Act').cells.toArray 34) := by rw [hw2]; simp -dsimp (disch := first | omega | (simp only [go_sem, seval]; first | done | omega)) only [go_sem, seval]
    have hc2 : Chg [p] w w2 := by rw [hw2]; exact (hc1.set p _ (.inl (by simp))).alloc _
    simp only [PSt.obj, Act'.cells] at hw2
    rw [← hw2]
    clear hw2 hz
    have hlx := lt_of_heap hx2
    have hz1 := hc1.size
    have n0 := ok1.n0
    have n1 := ok1.n1
    refine Join0.cut (fun w' => ∃ A' : Act', A'.fits ∧ w'.heap[p]? = some (PSt.mk 0 P.A true).obj ∧ w'.heap[w.heap.size]? = some (.cells zeroA.cells.toArray 34) ∧ w'.heap[w1.heap.size]? = some (.cells A'.cells.toArray 34) ∧ Chg [p] w w') ?_ ?_
    · simp -dsimp (disch := first | omega | (simp only [go_sem, seval]; first | done | omega)) only [go_sem, seval, hx2]
      refine BrW.dec (fun d1 => ?_) (fun d1 => ?_)
      · simp -dsimp (disch := first | omega | (simp only [go_sem, seval]; first | done | omega)) only [go_sem, seval, hx2]
        refine ⟨{ P.A with kind := 4, r := r, n := 8 }, fits_of r0 r1 (by show (0 : Int) ≤ 8; decide) (by show (8 : Int) ≤ 9; decide) ok1.k, ?_, ?_, ?_, hc2.set _ _ (.inr (by omega))⟩
        · simp -dsimp (disch := first | omega | (simp only [go_sem, seval]; first | done | omega)) only [go_sem, seval, hb2]
        · simp -dsimp (disch := first | omega | (simp only [go_sem, seval]; first | done | omega)) only [go_sem, seval, ho2, zeroA]
        · simp -dsimp (disch := first | omega | (simp only [go_sem, seval]; first | done | omega)) only [go_sem, seval]
      · exact ⟨{ P.A with kind := 4, r := r }, fits_of r0 r1 n0 n1 ok1.k, hb2, ho2, hx2, hc2⟩
    · rintro w3 ⟨A', hf, hb3, ho3, hx3, hc3⟩
      have hl3 := lt_of_heap ho3
      have hl4 := lt_of_heap hx3
      have hl5 := lt_of_heap hb3
      simp -dsimp (disch := first | omega | (simp only [go_sem, seval]; first | done | omega)) only [go_sem, seval, hx3, ho3, zeroA]
      refine hK _ _ ⟨⟨0, P.A, true⟩, A', ?_, ⟨ok1.n0, ok1.n1, ok1.k, ok1.r⟩, rfl, hf, hc3.set w.heap.size _ (.inr (Nat.le_refl _))⟩
      simp -dsimp (disch := first | omega | (simp only [go_sem, seval]; first | done | omega)) only [go_sem, seval, hb3]
  · simp -dsimp (disch := first | omega | (simp only [go_sem, seval]; first | done | omega)) only [go_sem, seval, hb1, ho1, zeroA]
    refine fin0 _ ⟨3, P.A, true⟩ ?_ ⟨ok1.n0, ok1.n1, ok1.k, ok1.r⟩ ((hc1.set p _ (.inl (by simp))).set w.heap.size _ (.inr (Nat.le_refl _)))
    simp -dsimp (disch := first | omega | (simp only [go_sem, seval]; first | done | omega)) only [go_sem, seval]
def StepQ (w : World) (p : Nat) (P : PSt) (r : Int) (v : Value) (w' : World) : Prop := ∃ (P' : PSt) (a : Act'), w'.heap[p]? = some P'.obj ∧ P'.ok ∧ v = a.val ∧ a.fits ∧ Chg [p] w w' ∧ (P.inn = 0 → 32 ≤ r → r < 127 → P' = P ∧ a = printA r)
theorem pstep_c {w : World} {p : Nat} {P : PSt} (hb : w.heap[p]? = some P.obj) (ok : P.ok) (r : Int) (r0 : -2147483648 ≤ r) (r1 : r ≤ 2147483647) :
    Calls Tryz.prog 66 #[.pointer (some ⟨p, 0, none⟩), .int .i32 r] w (retK (StepQ w p P r)) := by
  have hl := lt_of_heap hb
  apply lyceumref07_Parser_Step_link
  intro K hK
  unfold lyceumref07_Parser_Step
  have fin0 : ∀ (w4 : World) (P' : PSt), w4.heap[p]? = some P'.obj → P'.ok → Chg [p] w w4 → (P.inn = 0 → 32 ≤ r → r < 127 → False) → K zeroA.val w4 := fun w4 P' h1 h2 h3 h4 => hK _ _ ⟨P', zeroA, h1, h2, rfl, zeroA_fits, h3, fun a b c => (h4 a b c).elim⟩
  simp -dsimp (disch := first | omega | (simp only [go_sem, seval]; first | done | omega)) only [go_sem, seval, hb]
  refine BrW.dec (fun c1 => ?_) (fun c1 => ?_)
  · simp -dsimp (disch := first | omega | (simp only [go_sem, seval]; first | done | omega)) only [go_sem, seval, hb]
    refine fin0 _ ⟨1, zeroA, false⟩ ?_ ⟨Int.le_refl 0, by show (0 : Int) ≤ 9; decide, zeros_ok, rfl⟩ ?_ (by omega)
    · simp -dsimp (disch := first | omega | (simp only [go_sem, seval]; first | done | omega)) only [go_sem, seval, zeroA]
    · (repeat (first | exact Chg.refl _ _ | apply Chg.drew | apply Chg.alloc | (refine Chg.set ?_ _ _ (by first | (left; simp; done) | (right; omega)))))
  obtain ⟨w1, hw1⟩ : ∃ w1, w1 = w.alloc (.cells zeroA.cells.toArray 34) := ⟨_, rfl⟩
  have hb1 : w1.heap[p]? = some P.obj := by rw [hw1]; simp -dsimp (disch := first | omega | (simp only [go_sem, seval]; first | done | omega)) only [go_sem, seval, hb]
  have ho1 : w1.heap[w.heap.size]? = some (.cells zeroA.cells.toArray 34) := by rw [hw1]; simp -dsimp (disch := first | omega | (simp only [go_sem, seval]; first | done | omega)) only [go_sem, seval]
  have hc1 : Chg [p] w w1 := by rw [hw1]; (repeat (first | exact Chg.refl _ _ | apply Chg.drew | apply Chg.alloc | (refine Chg.set ?_ _ _ (by first | (left; simp; done) | (right; omega)))))
  have hc0 : Chg [] w w1 := by rw [hw1]; (repeat (first | exact Chg.refl _ _ | apply Chg.drew | apply Chg.alloc | (refine Chg.set ?_ _ _ (by first | (left; simp; done) | (right; omega)))))
  simp only [zeroA, Act'.cells] at hw1
  rw [← hw1]
  clear hw1
  have hl1 := lt_of_heap hb1
  have hlo := lt_of_heap ho1
  refine Join1.cut (fun v w' => ∃ b, v = .bool b ∧ (b = true → r = 24 ∨ r = 26) ∧ w1 = w') ?_ ?_
  · simp -dsimp (disch := first | omega | (simp only [go_sem, seval]; first | done | omega)) only [go_sem, seval]
    refine BrW.dec (fun c2 => ?_) (fun c2 => ?_)
    · exact ⟨_, rfl, fun _ => .inl c2, rfl⟩
    · simp -dsimp (disch := first | omega | (simp only [go_sem, seval]; first | done | omega)) only [go_sem, seval]
      first | exact ⟨_, rfl, fun h => .inr (of_decide_eq_true h), rfl⟩ | exact ⟨_, rfl, fun h => .inr (of_decide_eq_true h)⟩ | exact ⟨_, rfl, fun h => .inr h⟩
  rintro v w2 ⟨b, rfl, hbr, rfl⟩
  refine BrW.by (fun c2 => ?_) (fun c2 => ?_)
  · simp -dsimp (disch := first | omega | (simp only [go_sem, seval]; first | done | omega)) only [go_sem, seval, hb1, ho1, zeroA]
    refine fin0 _ ⟨0, P.A, P.any⟩ ?_ ⟨ok.n0, ok.n1, ok.k, ok.r⟩ ((hc1.set p _ (.inl (by simp))).set w.heap.size _ (.inr (Nat.le_refl _))) (fun _ _ _ => by rcases hbr c2 with h | h <;> omega)
    simp -dsimp (disch := first | omega | (simp only [go_sem, seval]; first | done | omega)) only [go_sem, seval]
  clear c2 hbr b
  refine Join1.cut (fun v w' => ∃ b, v = .bool b ∧ (b = true → r < 32 ∨ 127 ≤ r) ∧ w1 = w') ?_ ?_
  · simp -dsimp (disch := first | omega | (simp only [go_sem, seval]; first | done | omega)) only [go_sem, seval]
    refine BrW.dec (fun c2 => ?_) (fun c2 => ?_)
    · exact ⟨_, rfl, fun _ => .inl (by omega), rfl⟩
    simp -dsimp (disch := first | omega | (simp only [go_sem, seval]; first | done | omega)) only [go_sem, seval]
    refine BrW.dec (fun c3 => ?_) (fun c3 => ?_)
    · exact ⟨_, rfl, fun _ => .inr (by omega), rfl⟩
    simp -dsimp (disch := first | omega | (simp only [go_sem, seval]; first | done | omega)) only [go_sem, seval]
    refine BrW.dec (fun c4 => ?_) (fun c4 => ?_)
    · simp -dsimp (disch := first | omega | (simp only [go_sem, seval]; first | done | omega)) only [go_sem, seval]
      first | exact ⟨_, rfl, fun _ => .inr c4, rfl⟩ | exact ⟨_, rfl, fun _ => .inr c4⟩
    · exact ⟨_, rfl, fun h => by simp at h, rfl⟩
  rintro v w2 ⟨b, rfl, hbr, rfl⟩
  refine BrW.by (fun c2 => ?_) (fun c2 => ?_)
  · simp -dsimp (disch := first | omega | (simp only [go_sem, seval]; first | done | omega)) only [go_sem, seval, hb1, ho1, zeroA]
    refine fin0 _ P ?_ ok (hc1.set w.heap.size _ (.inr (Nat.le_refl _))) (fun _ _ _ => by rcases hbr c2 with h | h <;> omega)
    simp -dsimp (disch := first | omega | (simp only [go_sem, seval]; first | done | omega)) only [go_sem, seval, hb1]
  clear c2 hbr b
  simp -dsimp (disch := first | omega | (simp only [go_sem, seval]; first | done | omega)) only [go_sem, seval]
  refine BrW.dec (fun c2 => ?_) (fun c2 => ?_)
  · simp -dsimp (disch := first | omega | (simp only [go_sem, seval]; first | done | omega)) only [go_sem, seval, hb1]
    refine BrW.dec (fun c3 => ?_) (fun c3 => ?_)
    · simp -dsimp (disch := first | omega | (simp only [go_sem, seval]; first | done | omega)) only [go_sem, seval, ho1, zeroA]
      refine hK _ _ ⟨P, ⟨2, r, 0, 0, 0, 0, 0, 0, 0, 0, 0, 0, 0⟩, ?_, ok, rfl, fits_of r0 r1 (Int.le_refl 0) (by show (0 : Int) ≤ 9; decide) zeros_ok, hc1.set w.heap.size _ (.inr (Nat.le_refl _)), fun _ _ _ => by omega⟩
      simp -dsimp (disch := first | omega | (simp only [go_sem, seval]; first | done | omega)) only [go_sem, seval, hb1]
    · refine Join0.inl ?_
      simp -dsimp (disch := first | omega | (simp only [go_sem, seval]; first | done | omega)) only [go_sem, seval]
      refine BrW.dec (fun c4 => ?_) (fun c4 => ?_)
      · simp -dsimp (disch := first | omega | (simp only [go_sem, seval]; first | done | omega)) only [go_sem, seval, hb1, ho1, zeroA]
        refine fin0 _ ⟨0, P.A, P.any⟩ ?_ ⟨ok.n0, ok.n1, ok.k, ok.r⟩ ((hc1.set p _ (.inl (by simp))).set w.heap.size _ (.inr (Nat.le_refl _))) (fun _ _ _ => by omega)
        simp -dsimp (disch := first | omega | (simp only [go_sem, seval]; first | done | omega)) only [go_sem, seval]
      · simp -dsimp (disch := first | omega | (simp only [go_sem, seval]; first | done | omega)) only [go_sem, seval, hb1, ho1, zeroA]
        refine fin0 _ P ?_ ok (hc1.set w.heap.size _ (.inr (Nat.le_refl _))) (fun _ _ _ => by omega)
        simp -dsimp (disch := first | omega | (simp only [go_sem, seval]; first | done | omega)) only [go_sem, seval, hb1]
  · refine Join0.cut (fun w' => w'.heap[w.heap.size]? = some (.cells zeroA.cells.toArray 34) ∧ Chg [p] w w' ∧ (∃ i, w'.heap[p]? = some (PSt.mk i P.A P.any).obj) ∧ P.inn ≠ 0) ?_ ?_
    · simp -dsimp (disch := first | omega | (simp only [go_sem, seval]; first | done | omega)) only [go_sem, seval, hb1]
      refine BrW.dec (fun c3 => ?_) (fun c3 => ?_)
      · simp -dsimp (disch := first | omega | (simp only [go_sem, seval]; first | done | omega)) only [go_sem, seval, ho1, zeroA]
        refine hK _ _ ⟨P, printA r, ?_, ok, rfl, fits_of r0 r1 (Int.le_refl 0) (by show (0 : Int) ≤ 9; decide) zeros_ok, hc1.set w.heap.size _ (.inr (Nat.le_refl _)), fun _ _ _ => ⟨rfl, rfl⟩⟩
        simp -dsimp (disch := first | omega | (simp only [go_sem, seval]; first | done | omega)) only [go_sem, seval, hb1]
      simp -dsimp (disch := first | omega | (simp only [go_sem, seval]; first | done | omega)) only [go_sem, seval]
      refine BrW.dec (fun c4 => ?_) (fun c4 => ?_)
      · simp -dsimp (disch := first | omega | (simp only [go_sem, seval]; first | done | omega)) only [go_sem, seval]
        refine OpX.call lyceumref07_Parser_escape_b rfl (Calls.ret (pescape_c hb1 ok r r0 r1) ?_)
        rintro v w2 ⟨P', a, h1, h2, rfl, h4, h5⟩
        have ho2 := h5.keep ho1 (by simp; omega)
        have hlo2 := lt_of_heap ho2
        have hlp2 := lt_of_heap h1
        simp -dsimp (disch := first | omega | (simp only [go_sem, seval]; first | done | omega)) only [go_sem, seval, ho2, zeroA]
        refine hK _ _ ⟨P', a, ?_, h2, rfl, h4, (hc1.trans h5 (fun x hx => .inl hx)).set w.heap.size _ (.inr (Nat.le_refl _)), fun h => by omega⟩
        simp -dsimp (disch := first | omega | (simp only [go_sem, seval]; first | done | omega)) only [go_sem, seval, h1]
      simp -dsimp (disch := first | omega | (simp only [go_sem, seval]; first | done | omega)) only [go_sem, seval]
      refine BrW.dec (fun c5 => ?_) (fun c5 => ?_)
      · simp -dsimp (disch := first | omega | (simp only [go_sem, seval]; first | done | omega)) only [go_sem, seval]
        refine OpX.call lyceumref07_Parser_csi_b rfl (Calls.ret (pcsi_c hb1 ok r r0 r1) ?_)
        rintro v w2 ⟨P', a, h1, h2, rfl, h4, h5⟩
        have ho2 := h5.keep ho1 (by simp; omega)
        have hlo2 := lt_of_heap ho2
        have hlp2 := lt_of_heap h1
        simp -dsimp (disch := first | omega | (simp only [go_sem, seval]; first | done | omega)) only [go_sem, seval, ho2, zeroA]
        refine hK _ _ ⟨P', a, ?_, h2, rfl, h4, (hc1.trans h5 (fun x hx => .inl hx)).set w.heap.size _ (.inr (Nat.le_refl _)), fun h => by omega⟩
        simp -dsimp (disch := first | omega | (simp only [go_sem, seval]; first | done | omega)) only [go_sem, seval, h1]
      simp -dsimp (disch := first | omega | (simp only [go_sem, seval]; first | done | omega)) only [go_sem, seval]
      refine BrW.dec (fun c6 => ?_) (fun c6 => ?_)
      · refine Join1.cut (fun v w' => ∃ b, v = .bool b ∧ w1 = w') ?_ ?_
        · simp -dsimp (disch := first | omega | (simp only [go_sem, seval]; first | done | omega)) only [go_sem, seval]
          refine BrW.dec (fun g1 => ?_) (fun g1 => ?_)
          · simp -dsimp (disch := first | omega | (simp only [go_sem, seval]; first | done | omega)) only [go_sem, seval]
            first | exact ⟨_, rfl, rfl⟩ | exact ⟨_, rfl⟩
          · exact ⟨_, rfl, rfl⟩
        rintro v w2 ⟨b, rfl, rfl⟩
        refine BrW.by (fun g2 => ?_) (fun g2 => ?_)
        · simp -dsimp (disch := first | omega | (simp only [go_sem, seval]; first | done | omega)) only [go_sem, seval, hb1]
          refine ⟨?_, hc1.set p _ (.inl (by simp)), ⟨0, ?_⟩, c3⟩
          · simp -dsimp (disch := first | omega | (simp only [go_sem, seval]; first | done | omega)) only [go_sem, seval, ho1]
          · simp -dsimp (disch := first | omega | (simp only [go_sem, seval]; first | done | omega)) only [go_sem, seval]
        · exact ⟨ho1, hc1, ⟨P.inn, hb1⟩, c3⟩
      · exact ⟨ho1, hc1, ⟨P.inn, hb1⟩, c3⟩
    · rintro w2 ⟨ho2, hc2, ⟨i, hb2⟩, hi⟩
      have hlo2 := lt_of_heap ho2
      have hlp2 := lt_of_heap hb2
      simp -dsimp (disch := first | omega | (simp only [go_sem, seval]; first | done | omega)) only [go_sem, seval, ho2, zeroA]
      refine fin0 _ ⟨i, P.A, P.any⟩ ?_ ⟨ok.n0, ok.n1, ok.k, ok.r⟩ (hc2.set w.heap.size _ (.inr (Nat.le_refl _))) (fun h => absurd h hi)
      simp -dsimp (disch := first | omega | (simp only [go_sem, seval]; first | done | omega)) only [go_sem, seval, hb2]
end Go.Proofs.YtjfembffjjijaaaGreat
namespace Lyc
open Go
section
variable {P : Program}
def bstr (l : List UInt8) : ByteArray := ⟨l.toArray⟩
def byteF (b : UInt8) : List Value := [.int .u8 b.toNat]
theorem byteF_len (b : UInt8) : (byteF b).length = 1 := rfl
theorem byteF_ok (b : UInt8) : okCells (byteF b) = true := rfl
theorem byteF_flat (l : List UInt8) : l.flatMap byteF = l.map fun b => .int .u8 b.toNat := by
  induction l with
  | nil => rfl
  | cons b l ih => simp [byteF, ih]
@[go_sem] theorem bstr_size (l : List UInt8) : (bstr l).size = l.length := by simp [bstr, ByteArray.size]
@[go_sem] theorem bstr_toList (l : List UInt8) : (bstr l).toList = l := by rw [ByteArray.toList_eq]; rfl
theorem bstr_of (s : ByteArray) : bstr s.toList = s := by
  rw [ByteArray.toList_eq]; rfl
@[go_sem] theorem bstr_append (a b : List UInt8) : bstr a ++ bstr b = bstr (a ++ b) := by
  apply ByteArray.ext
  simp [bstr]
theorem foldl_bytes (l : List UInt8) : ∀ (acc : List UInt8), ((l.map fun b : UInt8 => (b.toNat : Int)).foldl (fun (r : ByteArray) n => r.push (UInt8.ofNat n.toNat)) (bstr acc)) = bstr (acc ++ l) := by
  induction l with
  | nil => intro acc; simp
  | cons b l ih =>
    intro acc
    simp only [List.map_cons, List.foldl_cons]
    have : (bstr acc).push (UInt8.ofNat ((b.toNat : Int)).toNat) = bstr (acc ++ [b]) := by
      apply ByteArray.ext
      simp [bstr]
    rw [this, ih]; simp
def tbytesSl (P : Program) (t : TypeId) : Bool := match P.underlying t with | some (.slice e) => (match P.underlying e with | some (.int .u8) => true | _ => false) | _ => false
theorem tbytesSl_spec {t : TypeId} (h : tbytesSl P t = true) : ∃ e, P.underlying t = some (.slice e) ∧ P.underlying e = some (.int .u8) := by
  unfold tbytesSl at h
  split at h
  · rename_i e hu
    split at h
    · rename_i hk; exact ⟨e, hu, hk⟩
    · simp at h
  · simp at h
theorem bytes_str {s d ty : TypeId} {a : Option Addr} {l : List UInt8} {c : Nat} {e : Option TypeId} {K : Value → World → Prop} {w : World} (hs : tbytesSl P s = true) (hd : tkind P d = some 3) (h : Sx w e byteF a l) :
    OpX P (.convert s d (.const (.slice a l.length c))) ty K w = K (.string (bstr l)) w := by
  obtain ⟨e0, h1, h2⟩ := tbytesSl_spec hs
  refine OpX_ok fun ρ hg => ?_
  simp only [execOp, mkOper, hg.1, Sem.run_bind]
  rw [run_convert_bytes_string w s d e0 a l.length c h1 h2 (tkind_3 hd)]
  have key : (Conv.bytesToString (.slice a l.length c)).run P w = .ok (.string (bstr l)) w := by
    cases a with
    | none =>
      have hl : l = [] := by
        cases l with
        | nil => rfl
        | cons x l => obtain ⟨b, o, _, _, _, _, _, h, _⟩ := h.at_ (by simp); simp at h
      subst hl
      simp [Conv.bytesToString]
      rfl
    | some ad =>
      have hl : (loadCells ad l.length).run P w = .ok ((l.map fun b : UInt8 => (b.toNat : Int)).map (Value.int .u8)).toArray w := by
        by_cases hn : l = []
        · subst hn; simp [loadCells, loadCellsFrom]
        · obtain ⟨b, o, c', e', fr, pre, post, h3, h4, h5, h6, h7⟩ := h.at_ hn
          cases h3
          have := run_loadCells_list (P := P) w ⟨b, o, none⟩ (l.flatMap byteF) (fun j v hj => by
            rw [add_mk, cell?_at, h4, h6, cellAt_cells]
            have hj' := (List.getElem?_eq_some_iff.1 hj).1
            rw [List.getElem?_toArray, List.append_assoc, List.getElem?_append_right (by omega), List.getElem?_append_left (by omega)]
            rw [← hj]; congr 1; omega)
          rw [byteF_flat] at this
          simpa [Function.comp_def] using this
      rw [run_bytesToString w ad l.length c _ hl]
      have := foldl_bytes l []
      rw [show (ByteArray.empty) = bstr [] from rfl, this]
      simp
  rw [key]
  rfl
end
end Lyc
namespace Go.Proofs.YtjfembffjjijaaaGreat
open Lyc Go
def runeF (r : Int) : List Value := [.int .i32 r]
theorem runeF_len (r : Int) : (runeF r).length = 1 := rfl
theorem runeF_ok (r : Int) : okCells (runeF r) = true := rfl
def asc (r : Int) : Prop := 0 ≤ r ∧ r ≤ 127
instance (r : Int) : Decidable (asc r) := by unfold asc; infer_instance
def ascB (r : Int) : UInt8 := UInt8.ofNat r.toNat
theorem ascB_nat {r : Int} (h : asc r) : ((ascB r).toNat : Int) = r := by
  obtain ⟨h0, h1⟩ := h
  simp only [ascB, UInt8.toNat_ofNat']
  omega
theorem valid_asc (w : World) (r : Int) (h : asc r) : Calls Tryz.prog 125 #[.int .i32 r] w (retK fun v w' => v = .bool true ∧ w' = w) := by
  obtain ⟨h0, h1⟩ := h
  apply unicode_utf8_ValidRune_link
  intro K hK
  unfold unicode_utf8_ValidRune
  refine Join1.inl ?_
  simp -dsimp (disch := first | omega | (simp only [go_sem, seval]; first | done | omega)) only [go_sem, seval]
  refine BrW.dec (fun _ => ?_) (fun h => absurd h0 h)
  simp -dsimp (disch := first | omega | (simp only [go_sem, seval]; first | done | omega)) only [go_sem, seval]
  refine BrW.dec (fun _ => ?_) (fun h => absurd h1 (by omega))
  exact hK _ _ ⟨rfl, rfl⟩
theorem appendRune_asc {base : Nat} {w : World} {v : Value} {l : List UInt8} (ho : Ox base w 5 1 byteF v l) (hb : base ≤ w.heap.size) (hl : l.length ≤ 100000000) (r : Int) (h : asc r) : Calls Tryz.prog 126 #[v, .int .i32 r] w
    (retK fun v' w' => Ox base w' 5 1 byteF v' (l ++ [ascB r]) ∧ Chg v.ownBlock.toList w w') := by
  obtain ⟨h0, h1⟩ := h
  have h2 := ascB_nat ⟨h0, h1⟩
  obtain ⟨a, cap, rfl, -⟩ := ho.form
  apply unicode_utf8_AppendRune_link
  intro K hK
  unfold unicode_utf8_AppendRune
  simp -dsimp (disch := first | omega | (simp only [go_sem, seval]; first | done | omega)) only [go_sem, seval]
  refine BrW.dec (fun _ => ?_) (fun h => absurd h1 (by omega))
  simp -dsimp (disch := first | omega | (simp only [go_sem, seval]; first | done | omega)) only [go_sem, seval]
  have hc1 := (Chg.refl [] w).alloc (.cells #[.int .u8 r] 5)
  refine app_x (l2 := [ascB r]) (e' := some 5) ty53ap byteF_len byteF_ok (ho.chg0 hc1) (Sx.built (c := [.int .u8 r]) (by simp -dsimp (disch := first | omega | (simp only [go_sem, seval]; first | done | omega)) only [go_sem, seval]) (by simp [byteF, h2])) rfl (by simp; omega) (by omega) (by simp -dsimp (disch := first | omega | (simp only [go_sem, seval]; first | done | omega)) only [go_sem, seval]; omega) ?_
  intro v' w' ho' hc' _
  exact hK _ _ ⟨ho', (hc1.mono (by simp)).trans hc' (fun x hx => .inl hx)⟩
theorem encode_asc {w : World} {e : Option TypeId} {a : Option Addr} {l : List Int} (hs : Sx w e runeF a l) (cap : Nat) (hl : l.length ≤ 100000) (h : ∀ r ∈ l, asc r) : Calls Tryz.prog 91 #[.slice a l.length cap] w
    (retK fun v w' => v = .string (bstr (l.map ascB)) ∧ Chg [] w w') := by
  apply runes_Encode_link
  intro K hK
  unfold runes_Encode
  simp -dsimp (disch := first | omega | (simp only [go_sem, seval]; first | done | omega)) only [go_sem, seval]
  refine Loop2.st (fun s : Nat × Value => s.2) (fun s : Nat × Value => .int .i64 s.1) (fun s w' => s.1 ≤ l.length ∧ Ox w.heap.size w' 5 1 byteF s.2 ((l.take s.1).map ascB) ∧ Chg [] w w') (fun s => l.length - s.1) (0, .slice none 0 0) rfl rfl ⟨by simp, Ox.nil _ _ _ _ _, Chg.refl _ _⟩ ?_
  rintro next ⟨k, v⟩ w' hn ⟨hk, ho, hc⟩
  dsimp only at hk ho ⊢
  simp -dsimp (disch := first | omega | (simp only [go_sem, seval]; first | done | omega)) only [go_sem, seval]
  refine BrW.dec (fun h1 => ?_) (fun h1 => ?_)
  · have hk' : k < l.length := by omega
    obtain ⟨b, o, rfl, hb, hcell⟩ := (hs.chg0 hc).get1 (g := fun r => .int .i32 r) (fun _ => rfl) (List.getElem?_eq_getElem hk')
    have ha := h _ (List.getElem_mem hk')
    simp -dsimp (disch := first | omega | (simp only [go_sem, seval]; first | done | omega)) only [go_sem, seval, hcell]
    refine Join1.inl ?_
    refine OpX.call unicode_utf8_ValidRune_b rfl (Calls.ret (valid_asc _ _ ha) ?_)
    rintro v1 w1 ⟨rfl, rfl⟩
    simp -dsimp (disch := first | omega | (simp only [go_sem, seval]; first | done | omega)) only [go_sem, seval]
    refine OpX.call unicode_utf8_AppendRune_b rfl (Calls.ret (appendRune_asc ho hc.size (by simp; omega) _ ha) ?_)
    rintro v2 w2 ⟨ho2, hc2⟩
    simp -dsimp (disch := first | omega | (simp only [go_sem, seval]; first | done | omega)) only [go_sem, seval]
    refine hn (k + 1, v2) _ ⟨by dsimp only; omega, ?_, own_chg ho hc hc2⟩ (by dsimp only; omega)
    dsimp only
    rw [take_next hk', List.map_append]
    exact ho2
  · have hk' : k = l.length := by omega
    subst hk'
    rw [List.take_length] at ho
    obtain ⟨a', cap', rfl, -, hs', -⟩ := ho.form
    rw [bytes_str (by kernel_rfl) (by kernel_rfl) hs']
    exact hK _ _ ⟨rfl, hc⟩
def shown (l : List Cel) : List Int := l.filterMap fun c => if c.check then (if c.tail then none else some c.r) else some 63
def trimR : List Int → List Int
  | [] => []
  | r :: l => if r :: l = List.replicate (l.length + 1) 32 then [] else r :: trimR l
def trimE (l : List Int) : List Int := (l.reverse.dropWhile (· == 32)).reverse
theorem trimE_step (l : List Int) (h : l ≠ []) (hl : l.getLast h = 32) : trimE l = trimE l.dropLast := by
  have e : l = l.dropLast ++ [32] := by rw [← hl]; exact (List.dropLast_concat_getLast h).symm
  conv => lhs; rw [e]
  simp [trimE]
theorem trimE_done (l : List Int) (h : l ≠ []) (hl : l.getLast h ≠ 32) : trimE l = l := by
  have e : l = l.dropLast ++ [l.getLast h] := (List.dropLast_concat_getLast h).symm
  rw [e]
  simp [trimE, hl]
theorem text_asc {w : World} {e : Option TypeId} {a : Option Addr} {l : List Cel} (hs : SxC w e a l) (cap : Nat) (hl : l.length ≤ 100000) (h : ∀ r ∈ trimE (shown l), asc r) : Calls Tryz.prog 55 #[.slice a l.length cap] w
    (retK fun v w' => v = .string (bstr ((trimE (shown l)).map ascB)) ∧ Chg [] w w') := by
  apply cell_Text_link
  intro K hK
  unfold cell_Text
  simp -dsimp (disch := first | omega | (simp only [go_sem, seval]; first | done | omega)) only [go_sem, seval]
  refine Loop2.st (fun s : Nat × Value => s.2) (fun s : Nat × Value => .int .i64 s.1) (fun s w' => s.1 ≤ l.length ∧ Ox w.heap.size w' 21 1 runeF s.2 (shown (l.take s.1)) ∧ Chg [] w w') (fun s => l.length - s.1) (0, .slice none 0 0) rfl rfl ⟨by simp, Ox.nil _ _ _ _ _, Chg.refl _ _⟩ ?_
  rintro next ⟨k, v⟩ w' hn ⟨hk, ho, hc⟩
  dsimp only at hk ho ⊢
  simp -dsimp (disch := first | omega | (simp only [go_sem, seval]; first | done | omega)) only [go_sem, seval]
  refine BrW.dec (fun h1 => ?_) (fun h1 => ?_)
  · have hk' : k < l.length := by omega
    obtain ⟨b, o, rfl, hb, hcell, -⟩ := SxC.cel (hs.chg0 hc) (List.getElem?_eq_getElem hk')
    have hsh : shown (l.take (k + 1)) = shown (l.take k) ++ shown [l[k]] := by
      rw [take_next hk', shown, List.filterMap_append]; rfl
    have hlen : (shown (l.take k)).length ≤ 100000 := Nat.le_trans (List.length_filterMap_le _ _) (by simp; omega)
    simp -dsimp (disch := first | omega | (simp only [go_sem, seval]; first | done | omega)) only [go_sem, seval, hcell]
    have hc1 := hc.alloc (.cells l[k].cells.toArray 70)
    have hb1 : w'.heap.size < (w'.alloc (.cells l[k].cells.toArray 70)).heap.size := by simp -dsimp (disch := first | omega | (simp only [go_sem, seval]; first | done | omega)) only [go_sem, seval]; omega
    have hh1 : (w'.alloc (.cells l[k].cells.toArray 70)).heap[w'.heap.size]? = some (.cells l[k].cells.toArray 70) := by simp -dsimp (disch := first | omega | (simp only [go_sem, seval]; first | done | omega)) only [go_sem, seval]
    have ho1 := ho.chg0 ((Chg.refl [] w').alloc (.cells l[k].cells.toArray 70))
    refine OpX.call cell_Check_b rfl (Calls.ret (check_c _ l[k]) ?_)
    rintro v1 w1 ⟨rfl, hc2⟩
    have hh2 := hc2.keep hh1 (by simp)
    have hc3 := hc1.trans0 hc2
    have ho2 := ho1.chg0 hc2
    simp -dsimp (disch := first | omega | (simp only [go_sem, seval]; first | done | omega)) only [go_sem, seval]
    refine BrW.by (fun h2 => ?_) (fun h2 => ?_)
    · have hc4 := (Chg.refl [] w1).alloc (.cells #[.int .i32 63] 21)
      obtain ⟨a', cap', rfl, -⟩ := ho2.form
      simp -dsimp (disch := first | omega | (simp only [go_sem, seval]; first | done | omega)) only [go_sem, seval]
      refine app_x (l2 := [(63 : Int)]) (e' := some 21) ty24ap runeF_len runeF_ok (ho2.chg0 hc4) (Sx.built (c := [.int .i32 63]) (by simp -dsimp (disch := first | omega | (simp only [go_sem, seval]; first | done | omega)) only [go_sem, seval]) rfl) rfl (by simp; omega) (by omega) (by have := hc3.size; simp -dsimp (disch := first | omega | (simp only [go_sem, seval]; first | done | omega)) only [go_sem, seval]; omega) ?_
      intro v' w2 ho3 hc5 _
      simp -dsimp (disch := first | omega | (simp only [go_sem, seval]; first | done | omega)) only [go_sem, seval]
      refine hn (k + 1, v') _ ⟨by dsimp only; omega, ?_, own_chg (ho2.chg0 hc4) (hc3.trans0 hc4) hc5⟩ (by dsimp only; omega)
      dsimp only
      rw [hsh]
      have : shown [l[k]] = [63] := by simp at h2; simp [shown, h2]
      rw [this]; exact ho3
    · simp -dsimp (disch := first | omega | (simp only [go_sem, seval]; first | done | omega)) only [go_sem, seval, hh2]
      refine BrW.dec (fun h3 => ?_) (fun h3 => ?_)
      · have hc4 := (Chg.refl [] w1).alloc (.cells #[.int .i32 l[k].r] 21)
        obtain ⟨a', cap', rfl, -⟩ := ho2.form
        simp -dsimp (disch := first | omega | (simp only [go_sem, seval]; first | done | omega)) only [go_sem, seval, hh2]
        refine app_x (l2 := [l[k].r]) (e' := some 21) ty24ap runeF_len runeF_ok (ho2.chg0 hc4) (Sx.built (c := [.int .i32 l[k].r]) (by simp -dsimp (disch := first | omega | (simp only [go_sem, seval]; first | done | omega)) only [go_sem, seval]) rfl) rfl (by simp; omega) (by omega) (by have := hc3.size; simp -dsimp (disch := first | omega | (simp only [go_sem, seval]; first | done | omega)) only [go_sem, seval]; omega) ?_
        intro v' w2 ho3 hc5 _
        simp -dsimp (disch := first | omega | (simp only [go_sem, seval]; first | done | omega)) only [go_sem, seval]
        refine hn (k + 1, v') _ ⟨by dsimp only; omega, ?_, own_chg (ho2.chg0 hc4) (hc3.trans0 hc4) hc5⟩ (by dsimp only; omega)
        dsimp only
        rw [hsh]
        have : shown [l[k]] = [l[k].r] := by simp at h2; simp [shown, h2, Cel.tail, h3]
        rw [this]; exact ho3
      · simp -dsimp (disch := first | omega | (simp only [go_sem, seval]; first | done | omega)) only [go_sem, seval]
        refine hn (k + 1, v) _ ⟨by dsimp only; omega, ?_, hc3⟩ (by dsimp only; omega)
        dsimp only
        rw [hsh]
        have : shown [l[k]] = [] := by simp at h2; simp [shown, h2, Cel.tail, h3]
        rw [this, List.append_nil]; exact ho2
  · have hk' : k = l.length := by omega
    subst hk'
    rw [List.take_length] at ho
    obtain ⟨a', cap', hv, hcp, hs', -⟩ := ho.form
    have hlen : (shown l).length ≤ 100000 := Nat.le_trans (List.length_filterMap_le _ _) hl
    refine Loop1.st (fun s : List Int => .slice a' s.length cap') (fun s w2 => Sx w2 (some 21) runeF a' s ∧ trimE s = trimE (shown l) ∧ s.length ≤ (shown l).length ∧ Chg [] w w2) (fun s => s.length) (shown l) hv ⟨hs', rfl, Nat.le_refl _, hc⟩ ?_
    rintro next2 s w2 hn2 ⟨hs2, he, hsl, hc2⟩
    refine Join1.inl ?_
    simp -dsimp (disch := first | omega | (simp only [go_sem, seval]; first | done | omega)) only [go_sem, seval]
    refine BrW.dec (fun h2 => ?_) (fun h2 => ?_)
    · have hne : s ≠ [] := by rintro rfl; simp at h2
      have hlast : s[s.length - 1]? = some (s.getLast hne) := by rw [List.getLast_eq_getElem]; exact List.getElem?_eq_getElem _
      obtain ⟨b, o, rfl, hb, hcell⟩ := hs2.get1 (g := fun r => .int .i32 r) (fun _ => rfl) hlast
      have hi : ((s.length : Int) - 1).toNat = s.length - 1 := by omega
      simp -dsimp (disch := first | omega | (simp only [go_sem, seval]; first | done | omega)) only [go_sem, seval, hi, hcell]
      refine BrW.dec (fun h3 => ?_) (fun h3 => ?_)
      · simp -dsimp (disch := first | omega | (simp only [go_sem, seval]; first | done | omega)) only [go_sem, seval, hi]
        have hd : s.dropLast.length = s.length - 1 := by simp
        rw [← hd]
        refine hn2 s.dropLast _ ⟨?_, by rw [← he]; exact (trimE_step s hne h3).symm, by omega, hc2⟩ (by omega)
        have := hs2.sub runeF_len 0 (s.length - 1) (some ⟨b, o, none⟩) (.inr (.inr (by simp)))
        rw [List.dropLast_eq_take]
        simpa using this
      · rw [← he, trimE_done s hne h3] at h
        try simp -dsimp (disch := first | omega | (simp only [go_sem, seval]; first | done | omega)) only [go_sem, seval]
        refine OpX.call runes_Encode_b rfl (Calls.ret (encode_asc hs2 cap' (by omega) h) ?_)
        rintro v1 w3 ⟨rfl, hc3⟩
        refine hK _ _ ⟨?_, hc2.trans0 hc3⟩
        rw [← he, trimE_done s hne h3]
    · have hs0 : s = [] := List.eq_nil_of_length_eq_zero (by omega)
      subst hs0
      simp -dsimp (disch := first | omega | (simp only [go_sem, seval]; first | done | omega)) only [go_sem, seval]
      refine OpX.call runes_Encode_b rfl (Calls.ret (encode_asc hs2 cap' (by omega) (by simp)) ?_)
      rintro v1 w3 ⟨rfl, hc3⟩
      refine hK _ _ ⟨?_, hc2.trans0 hc3⟩
      rw [← he]; rfl
end Go.Proofs.YtjfembffjjijaaaGreat
namespace Go.Proofs.YtjfembffjjijaaaGreat
open Lyc Go
def strF (s : ByteArray) : List Value := [.string s]
theorem strF_len (s : ByteArray) : (strF s).length = 1 := rfl
theorem strF_ok (s : ByteArray) : okCells (strF s) = true := rfl
def rowText (l : List Cel) : ByteArray := bstr ((trimE (shown l)).map ascB)
theorem glines_c {w : World} {g : Gr} (hg : g.ok) {e : Option TypeId} {a : Option Addr} (hs : SxC w e a g.cs) (cap : Nat) (hcap : g.cs.length ≤ cap) (ha : ∀ y, y < g.h → ∀ r ∈ trimE (shown (g.row y)), asc r) : Calls Tryz.prog 23 #[g.val a cap] w
    (retK fun v w' => Ox w.heap.size w' 9 1 strF v ((List.range g.h).map fun y => rowText (g.row y)) ∧ Chg [] w w') := by
  obtain ⟨b, o, _, _, _, _, _, rfl, hb0, _⟩ := hs.at_ hg.ne
  have hb0' := lt_of_heap hb0
  clear hb0
  have h0 := hg.h0
  have h1 := hg.h1
  have h2 := hg.w1
  apply grid_Lines_link
  intro K hK
  unfold grid_Lines
  simp -dsimp (disch := first | omega | (simp only [go_sem, seval]; first | done | omega)) only [go_sem, seval, Gr.val]
  have hc0 := chg_a1 w (.cells #[.int .i64 g.w, .int .i64 g.h, .slice (some ⟨b, o, none⟩) g.cs.length cap] 38)
  have hg0 : (w.alloc (.cells #[.int .i64 g.w, .int .i64 g.h, .slice (some ⟨b, o, none⟩) g.cs.length cap] 38)).heap[w.heap.size]? = some (.cells #[.int .i64 g.w, .int .i64 g.h, .slice (some ⟨b, o, none⟩) g.cs.length cap] 38) := by simp -dsimp (disch := first | omega | (simp only [go_sem, seval]; first | done | omega)) only [go_sem, seval]
  generalize w.alloc (.cells #[.int .i64 g.w, .int .i64 g.h, .slice (some ⟨b, o, none⟩) g.cs.length cap] 38) = w0 at hc0 hg0 ⊢
  refine OpX.call grid_whole_b rfl (Calls.ret (whole_c hg (some ⟨b, o, none⟩) cap) ?_)
  rintro v w1 ⟨rfl, hc1⟩
  have hg1 := hc1.keep hg0 (by simp)
  have hlt1 := lt_of_heap hg1
  simp -dsimp (disch := first | omega | (simp only [go_sem, seval]; first | done | omega)) only [go_sem, seval, hg1]
  have hc2 := (hc0.trans0 hc1).alloc (.cells #[.slice none 0 0] 51)
  have hr2 : (w1.alloc (.cells #[.slice none 0 0] 51)).heap[w1.heap.size]? = some (.cells #[.slice none 0 0] 51) := by simp -dsimp (disch := first | omega | (simp only [go_sem, seval]; first | done | omega)) only [go_sem, seval]
  obtain ⟨t3, ht3⟩ : ∃ t3, t3 = w1.heap.size := ⟨_, rfl⟩
  rw [← ht3] at hr2 ⊢
  generalize w1.alloc (.cells #[.slice none 0 0] 51) = w2 at hc2 hr2 ⊢
  refine OpX.call grid_rows_b rfl (Calls.ret (rows_c _ g (some ⟨b, o, none⟩) cap 0 g.h) ?_)
  rintro v w3 ⟨rfl, hB, hc3, hsz⟩
  have hr3 := hc3.keep hr2 (by simp)
  have hc23 := hc2.trans0 hc3
  have hs3 := hs.chg0 hc23
  have hlt2 := lt_of_heap hr2
  have hlt3 := lt_of_heap hr3
  refine rng_rows hg hcap (by omega) (by omega) hB [t3] (by simp; omega)
    (fun y w4 => ∃ v, w4.heap[t3]? = some (.cells #[v] 51) ∧ (∃ a n c, v = .slice a n c) ∧ Ox (w3.heap.size + 2) w4 9 1 strF v ((List.range y).map fun y => rowText (g.row y)))
    (fun _ => False) ?_ ?_ ⟨_, hr3, ⟨_, _, _, rfl⟩, Ox.nil _ _ _ _ _⟩ ?_ ?_ ?_
  · rintro y w4 w5 ⟨v, h1, h2, h3⟩ hc
    exact ⟨v, hc.keep h1 (by simp; omega), h2, h3.low hc (by simp)⟩
  · intro w4 w5 h _
    exact h
  · rintro y kn kr kx w4 hc4 hsz42 ⟨v, hr4, ⟨a4, n4, c4, rfl⟩, ho4⟩ - - hy hkn _
    have hrl := hg.row_len hy
    have hs4 : SxC w4 e (some ⟨b, o + y * g.w * 4, none⟩) (g.row y) := by
      refine Sx.sub (hs3.chg hc4 ?_) Cel.len (y * g.w) g.w _ (.inr (.inr rfl))
      intro b' o' hb' _ hm'
      cases hb'
      simp at hm'
      have := hc0.size
      have := hc1.size
      omega
    have htx := text_asc (hs4.chg0 (Chg.refl _ _).drew) g.w (by omega) (ha y hy)
    rw [hrl] at htx
    have hsz4 := hc4.size
    have hlt4 := lt_of_heap hr4
    simp -dsimp (disch := first | omega | (simp only [go_sem, seval]; first | done | omega)) only [go_sem, seval, hr4, rowV]
    refine OpX.call cell_Text_b rfl (Calls.ret (htx) ?_)
    rintro v5 w5 ⟨rfl, hc5⟩
    have hr5 := hc5.keep (show w4.drew.heap[t3]? = _ from hr4) (by simp)
    have ho5 := (ho4.chg0 (Chg.refl _ _).drew).chg0 hc5
    have hlt5 := lt_of_heap hr5
    have hsz5 : w4.heap.size ≤ w5.heap.size := hc5.size
    have hlow : ∀ x ∈ (Value.slice a4 n4 c4).ownBlock.toList, w3.heap.size + 2 ≤ x := fun x hx => (ho5.lt x (by cases hv : (Value.slice a4 n4 c4).ownBlock <;> simp_all)).1
    simp -dsimp (disch := first | omega | (simp only [go_sem, seval]; first | done | omega)) only [go_sem, seval, hr5]
    refine app_x (f := strF) (l2 := [rowText (g.row y)]) ty51ap strF_len strF_ok (ho5.chg0 (chg_a1 _ _)) (Sx.built (c := strF (rowText (g.row y))) (by simp -dsimp (disch := first | omega | (simp only [go_sem, seval]; first | done | omega)) only [go_sem, seval]; rfl) (by simp)) rfl (by simp; omega) (by omega) (by simp -dsimp (disch := first | omega | (simp only [go_sem, seval]; first | done | omega)) only [go_sem, seval]; omega) ?_
    intro v' w' ho' hc' _
    have hca : Chg (Value.slice a4 n4 c4).ownBlock.toList w5 w' := ((Chg.refl _ w5).alloc _).trans hc' (fun x hx => .inl hx)
    have hr6 := hca.keep hr5 (fun hm => by have := hlow _ hm; omega)
    have hlt6 := lt_of_heap hr6
    obtain ⟨a', cap', rfl, _⟩ := ho'.form
    simp -dsimp (disch := first | omega | (simp only [go_sem, seval]; first | done | omega)) only [go_sem, seval, hr6]
    refine hkn _ (t3 :: (Value.slice a4 n4 c4).ownBlock.toList) (((hc5.low_drew.mono (by simp)).trans hca (fun x hx => .inl (by simp [hx]))).set _ _ (by simp)) (fun x hx => ?_) ⟨_, heap_set_same _ _ _ _ rfl hlt6, ⟨_, _, _, rfl⟩, ?_⟩
    · rcases List.mem_cons.1 hx with rfl | hx
      · exact .inl (by simp)
      · exact .inr (hlow x hx)
    · rw [List.range_succ, List.map_append]
      exact ho'.low ((Chg.refl [t3] _).set _ _ (by simp)) (by simp; omega)
  · rintro y w4 hc4 hd ⟨v, hr4, ⟨a4, n4, c4, rfl⟩, ho4⟩ - h5 h6
    have hyh : y = g.h := by omega
    subst hyh
    simp -dsimp (disch := first | omega | (simp only [go_sem, seval]; first | done | omega)) only [go_sem, seval, hr4]
    refine close_by hd ?_
    refine hK _ _ ⟨?_, ?_⟩
    · have := (ho4.base_le (base' := w.heap.size) (by have := hc23.size; omega))
      refine Ox.chg this (F := [w3.heap.size]) ((Chg.refl _ _).set _ _ (by simp)) ?_
      intro x hx
      have := ho4.lt x hx.symm
      simp; omega
    · have h9 := hc0.size
      have h10 := hc1.size
      have h11 := hc23.size
      exact (hc23.trans hc4 (by simp; omega)).set _ _ (.inr (by omega))
  · intro w4 _ _ h
    exact h.elim
end Go.Proofs.YtjfembffjjijaaaGreat
namespace Go.Proofs.YtjfembffjjijaaaGreat
open Lyc Go
theorem pfeed_c {w : World} {p : Nat} {P : PSt} (hb : w.heap[p]? = some P.obj) (ok : P.ok) {e : Option TypeId} {a : Option Addr} {l : List Int} (hs : Sx w e runeF a l) (hp : ∀ b o, a = some ⟨b, o, none⟩ → l ≠ [] → b ≠ p) (cap : Nat) (hl : l.length ≤ 1000000) (hr : ∀ x ∈ l, -2147483648 ≤ x ∧ x ≤ 2147483647) :
    Calls Tryz.prog 35 #[.pointer (some ⟨p, 0, none⟩), .slice a l.length cap] w
    (retK fun v w' => ∃ qs, Ox w.heap.size w' 34 13 Act'.cells v qs ∧ qs.length ≤ l.length ∧ (∀ a ∈ qs, a.fits) ∧ Chg [p] w w' ∧ (P.inn = 0 → (∀ x ∈ l, 32 ≤ x ∧ x < 127) → qs = l.map printA)) := by
  have hlp := lt_of_heap hb
  apply lyceumref07_Parser_Feed_link
  intro K hK
  unfold lyceumref07_Parser_Feed
  refine Loop2.st (fun s : Nat × Value × PSt × List Act' => s.2.1) (fun s => .int .i64 s.1) (fun s w' => s.1 ≤ l.length ∧ Ox w.heap.size w' 34 13 Act'.cells s.2.1 s.2.2.2 ∧ s.2.2.2.length ≤ s.1 ∧ (∀ a ∈ s.2.2.2, a.fits) ∧ w'.heap[p]? = some s.2.2.1.obj ∧ s.2.2.1.ok ∧ Chg [p] w w' ∧ (P.inn = 0 → (∀ x ∈ l, 32 ≤ x ∧ x < 127) → s.2.2.1 = P ∧ s.2.2.2 = (l.take s.1).map printA)) (fun s => l.length - s.1) (0, .slice none 0 0, P, []) rfl rfl ⟨by simp, Ox.nil _ _ _ _ _, by simp, by simp, hb, ok, Chg.refl _ _, fun _ _ => ⟨rfl, rfl⟩⟩ ?_
  rintro next ⟨k, v, Q, qs⟩ w' hn ⟨hk, ho, hla, hfa, hb', ok', hc, hpr⟩
  dsimp only at hk ho hla hfa hb' ok' hpr ⊢
  simp -dsimp (disch := first | omega | (simp only [go_sem, seval]; first | done | omega)) only [go_sem, seval]
  refine BrW.dec (fun h1 => ?_) (fun h1 => ?_)
  · have hk' : k < l.length := by omega
    obtain ⟨b, o, rfl, hbl, hcell⟩ := (hs.chg hc (fun b o ha hne => by simp; exact hp b o ha hne)).get1 (g := fun n => .int .i32 n) (fun _ => rfl) (List.getElem?_eq_getElem hk')
    have hrr := hr _ (List.getElem_mem hk')
    refine Join1.cut (fun u w2 => ∃ Q2 A qs2, Ox w.heap.size w2 34 13 Act'.cells u qs2 ∧ w2.heap[p]? = some (PSt.obj Q2) ∧ Q2.ok ∧ Chg [p] w w2 ∧ A.fits ∧ qs2 = (if A.kind ≠ 0 then qs ++ [A] else qs) ∧ (Q.inn = 0 → 32 ≤ l[k] → l[k] < 127 → Q2 = Q ∧ A = printA l[k])) ?_ ?_
    · simp -dsimp (disch := first | omega | (simp only [go_sem, seval]; first | done | omega)) only [go_sem, seval, hcell]
      refine OpX.call lyceumref07_Parser_Step_b rfl (Calls.ret (pstep_c hb' ok' l[k] hrr.1 hrr.2) ?_)
      rintro v1 w1 ⟨Q2, A, hb1, ok1, rfl, hfA, hc1, hp1⟩
      have ho1 := ho.low hc1 (by simp; omega)
      have hc01 := hc.trans hc1 (fun x hx => .inl hx)
      have hz := hc01.size
      (try simp -dsimp (disch := first | omega | (simp only [go_sem, seval]; first | done | omega)) only [go_sem, seval])
      obtain ⟨w2, hw2⟩ : ∃ w2, w2 = w1.alloc (.cells A.cells.toArray 34) := ⟨_, rfl⟩
      have hc2 : Chg [] w1 w2 := by rw [hw2]; exact chg_a1 _ _
      have hA2 : w2.heap[w1.heap.size]? = some (.cells A.cells.toArray 34) := by rw [hw2]; simp -dsimp (disch := first | omega | (simp only [go_sem, seval]; first | done | omega)) only [go_sem, seval]
      simp only [Act'.cells] at hw2
      rw [← hw2]
      clear hw2
      have hb2 := hc2.keep hb1 (by simp)
      have ho2 := ho1.chg0 hc2
      have hz2 := hc2.size
      refine BrW.dec (fun h2 => ?_) (fun h2 => ?_)
      · simp -dsimp (disch := first | omega | (simp only [go_sem, seval]; first | done | omega)) only [go_sem, seval, hA2]
        refine app_x (l2 := [A]) ty25ap Act'.len Act'.ok (ho2.chg0 (chg_a1 _ _)) (Sx.built (c := A.cells) (by simp -dsimp (disch := first | omega | (simp only [go_sem, seval]; first | done | omega)) only [go_sem, seval]; rfl) (by simp)) rfl (by simp; omega) (by omega) (by simp -dsimp (disch := first | omega | (simp only [go_sem, seval]; first | done | omega)) only [go_sem, seval]; omega) ?_
        intro v' w3 ho3 hc3 _
        have hca : Chg v.ownBlock.toList w2 w3 := ((Chg.refl _ w2).alloc _).trans hc3 (fun x hx => .inl hx)
        have hlow := ho2.own_ge
        exact ⟨Q2, A, _, ho3, hca.keep hb2 (fun hm => by have := hlow _ hm; omega), ok1, own_chg' ho2 (Nat.le_refl _) (hc01.trans0 hc2) hca, hfA, by rw [if_pos h2], hp1⟩
      · exact ⟨Q2, A, qs, ho2, hb2, ok1, hc01.trans0 hc2, hfA, by rw [if_neg h2], hp1⟩
    · rintro u w2 ⟨Q2, A, qs2, ho2, hb2, ok2, hc2, hfA, hq2, hp2⟩
      have e1 : (k : Int) + 1 = ((k + 1 : Nat) : Int) := by omega
      (try simp -dsimp (disch := first | omega | (simp only [go_sem, seval]; first | done | omega)) only [go_sem, seval, e1])
      refine hn (k + 1, u, Q2, qs2) _ ⟨by dsimp only; omega, ho2, ?_, ?_, hb2, ok2, hc2, ?_⟩ (by dsimp only; omega)
      · dsimp only; rw [hq2]; split <;> (try rw [List.length_append, List.length_singleton]) <;> omega
      · dsimp only
        rw [hq2]
        split
        · intro x hx
          rcases List.mem_append.1 hx with h | h
          · exact hfa _ h
          · simp at h; rw [h]; exact hfA
        · exact hfa
      · intro h0 hpl
        dsimp only
        obtain ⟨rfl, rfl⟩ := hpr h0 hpl
        have hlk := hpl _ (List.getElem_mem hk')
        obtain ⟨rfl, rfl⟩ := hp2 h0 hlk.1 hlk.2
        refine ⟨rfl, ?_⟩
        rw [hq2, if_pos (by show (1 : Int) ≠ 0; decide), take_next hk', List.map_append]
        rfl
  · have : k = l.length := by omega
    subst this
    refine hK _ _ ⟨qs, ho, hla, hfa, hc, fun h0 hpl => ?_⟩
    rw [(hpr h0 hpl).2, List.take_length]
theorem PSt.ok0 : (PSt.mk 0 zeroA false).ok := ⟨Int.le_refl 0, by show (0 : Int) ≤ 9; decide, zeros_ok, rfl⟩
theorem acts_c {w : World} {e : Option TypeId} {a : Option Addr} {l : List Int} (hs : Sx w e runeF a l) (cap : Nat) (hcap : l.length ≤ cap) (hr : ∀ x ∈ l, -2147483648 ≤ x ∧ x ≤ 2147483647) (most : Nat) (hm : most ≤ 1000000) :
    Calls Tryz.prog 11 #[.slice a l.length cap, .int .i64 most] w
    (retK fun v w' => ∃ qs, Ox w.heap.size w' 34 13 Act'.cells v qs ∧ qs.length ≤ most ∧ (∀ a ∈ qs, a.fits) ∧ Chg [] w w' ∧ (l.length ≤ most → (∀ x ∈ l, 32 ≤ x ∧ x < 127) → qs = l.map printA)) := by
  apply lyceumlaw09_acts_link
  intro K hK
  unfold lyceumlaw09_acts
  refine Join1.cut (fun v w' => v = .slice a (l.take most).length cap ∧ w' = w) ?_ ?_
  · simp -dsimp (disch := first | omega | (simp only [go_sem, seval]; first | done | omega)) only [go_sem, seval]
    refine BrW.dec (fun h1 => ?_) (fun h1 => ?_)
    · simp -dsimp (disch := first | omega | (simp only [go_sem, seval]; first | done | omega)) only [go_sem, seval]
      rw [List.length_take, Nat.min_eq_left (by omega)]
    · exact ⟨by rw [List.take_of_length_le (by omega)], rfl⟩
  rintro v w1 ⟨rfl, rfl⟩
  simp -dsimp (disch := first | omega | (simp only [go_sem, seval]; first | done | omega)) only [go_sem, seval]
  obtain ⟨w2, hw2⟩ : ∃ w2, w2 = w1.alloc (PSt.mk 0 zeroA false).obj := ⟨_, rfl⟩
  have hc2 : Chg [] w1 w2 := by rw [hw2]; exact chg_a1 _ _
  have hb2 : w2.heap[w1.heap.size]? = some (PSt.mk 0 zeroA false).obj := by rw [hw2]; simp -dsimp (disch := first | omega | (simp only [go_sem, seval]; first | done | omega)) only [go_sem, seval]
  have hz2 : w2.heap.size = w1.heap.size + 1 := by rw [hw2]; simp -dsimp (disch := first | omega | (simp only [go_sem, seval]; first | done | omega)) only [go_sem, seval]
  simp only [PSt.obj, zeroA] at hw2
  rw [← hw2]
  clear hw2
  have hs2 : Sx w2 e runeF a (l.take most) := by
    cases l with
    | nil => simp; exact Sx.nil _ _ _ _
    | cons x l =>
      obtain ⟨b, o, c, e', fr, pre, post, rfl, -⟩ := hs.at_ (by simp)
      have := (hs.chg0 hc2).sub runeF_len 0 most (some ⟨b, o, none⟩) (.inr (.inr (by simp)))
      simpa using this
  have hne : ∀ b o, a = some ⟨b, o, none⟩ → l.take most ≠ [] → b ≠ w1.heap.size := by
    intro b o ha hl
    have : l ≠ [] := by rintro rfl; simp at hl
    have := hs.lt this ha
    omega
  refine OpX.call lyceumref07_Parser_Feed_b rfl (Calls.ret (pfeed_c hb2 PSt.ok0 hs2 hne cap (by rw [List.length_take]; omega) (fun x hx => hr x (List.mem_of_mem_take hx))) ?_)
  rintro v w3 ⟨qs, ho, hlq, hf, hc3, hpr⟩
  refine hK _ _ ⟨qs, ho.base_le (by omega), by rw [List.length_take] at hlq; omega, hf, hc2.trans hc3 (by simp), fun hl hp => ?_⟩
  have := hpr rfl (fun x hx => hp x (List.mem_of_mem_take hx))
  rwa [List.take_of_length_le hl] at this
end Go.Proofs.YtjfembffjjijaaaGreat
namespace Go.Proofs.YtjfembffjjijaaaGreat
open Lyc Go
set_option maxRecDepth 100000
def lyceumref06_Check (p0 : Value) (K : Value → World → Prop) : World → Prop :=
  xB 38 p0 fun t1 =>
  xF 38 t1 0 fun t6 =>
  xL 3 t6 fun t7 =>
  xF 38 t1 1 fun t8 =>
  xL 3 t8 fun t9 =>
  xC 42 [.const t7, .const t9] [3, 3] 4 fun t10 =>
  Join1 (fun k1 =>
  xN 4 t10 fun t12 =>
  xW t12
  (k1 (.bool true)) <|
  xF 38 t1 2 fun t14 =>
  xL 36 t14 fun t15 =>
  xU t15 36 fun t16 =>
  xF 38 t1 0 fun t17 =>
  xL 3 t17 fun t18 =>
  xF 38 t1 1 fun t19 =>
  xL 3 t19 fun t20 =>
  xO .mul 3 t18 t20 fun t21 =>
  xO .neq 3 t16 t21 fun t22 =>
  k1 t22) fun t23 =>
  xW t23
  (K (.bool false)) <|
  Loop1 (.int .i64 0) fun t4 next2 =>
  xF 38 t1 1 fun t25 =>
  xL 3 t25 fun t26 =>
  xO .lss 3 t4 t26 fun t27 =>
  xW t27
  (xL 38 t1 fun t30 =>
  xC 43 [.const t30, .const t4] [38, 3] 36 fun t32 =>
  xC 17 [.const t32] [36] 4 fun t33 =>
  xN 4 t33 fun t35 =>
  xW t35
  (K (.bool false)) <|
  xO .add 3 t4 (.int .i64 1) fun t29 =>
  next2 t29) <|
  K (.bool true)
theorem lyceumref06_Check_link (p0 : Value) : Lk 15 #[p0] (lyceumref06_Check p0) := lk [p0] [(6, [23]), (16, [4])] Tryz.func15 (by kernel_rfl) fun _ _ => by kernel_rfl
theorem lyceumref06_Check_b : Bodied Tryz.prog 15 := bd Tryz.func15 (by kernel_rfl)
def lyceumref06_Same (p0 p1 : Value) (K : Value → World → Prop) : World → Prop :=
  xB 38 p0 fun t2 =>
  xB 38 p1 fun t3 =>
  xF 38 t2 2 fun t6 =>
  xL 36 t6 fun t7 =>
  xF 38 t3 2 fun t8 =>
  xL 36 t8 fun t9 =>
  xC 57 [.const t7, .const t9] [36, 36] 4 fun t10 =>
  Join1 (fun k1 =>
  xW t10
  (xF 38 t2 0 fun t13 =>
  xL 3 t13 fun t14 =>
  xF 38 t3 0 fun t15 =>
  xL 3 t15 fun t16 =>
  xO .eql 3 t14 t16 fun t17 =>
  xW t17
  (xF 38 t2 1 fun t20 =>
  xL 3 t20 fun t21 =>
  xF 38 t3 1 fun t22 =>
  xL 3 t22 fun t23 =>
  xO .eql 3 t21 t23 fun t24 =>
  k1 t24) <|
  k1 (.bool false)) <|
  k1 (.bool false)) fun t4 =>
  K t4
theorem lyceumref06_Same_link (p0 p1 : Value) : Lk 28 #[p0, p1] (lyceumref06_Same p0 p1) := lk [p0, p1] [(5, [4])] Tryz.func28 (by kernel_rfl) fun _ _ => by kernel_rfl
theorem lyceumref06_Same_b : Bodied Tryz.prog 28 := bd Tryz.func28 (by kernel_rfl)
def lyceumref06_size (p0 p1 : Value) (K : Value → World → Prop) : World → Prop :=
  Join1 (fun k1 =>
  xO .geq 3 p0 (.int .i64 1) fun t6 =>
  xW t6
  (xO .leq 3 p0 (.int .i64 200) fun t9 =>
  xW t9
  (xO .geq 3 p1 (.int .i64 1) fun t13 =>
  xW t13
  (xO .leq 3 p1 (.int .i64 60) fun t17 =>
  k1 t17) <|
  k1 (.bool false)) <|
  k1 (.bool false)) <|
  k1 (.bool false)) fun t4 =>
  K t4
theorem lyceumref06_size_link (p0 p1 : Value) : Lk 42 #[p0, p1] (lyceumref06_size p0 p1) := lk [p0, p1] [(3, [4])] Tryz.func42 (by kernel_rfl) fun _ _ => by kernel_rfl
theorem lyceumref06_size_b : Bodied Tryz.prog 42 := bd Tryz.func42 (by kernel_rfl)
def lyceumref06_Row (p0 p1 : Value) (K : Value → World → Prop) : World → Prop :=
  xB 38 p0 fun t2 =>
  DrewW <|
  Join1 (fun k1 =>
  qP .lss 3 p1 (.int .i64 0) fun t6 =>
  xW t6
  (k1 (.bool true)) <|
  qF 38 t2 1 fun t9 =>
  qL 3 t9 fun t10 =>
  qP .geq 3 p1 t10 fun t11 =>
  xW t11
  (k1 (.bool true)) <|
  qF 38 t2 0 fun t14 =>
  qL 3 t14 fun t15 =>
  qP .lss 3 t15 (.int .i64 1) fun t16 =>
  xW t16
  (k1 (.bool true)) <|
  qF 38 t2 1 fun t19 =>
  qL 3 t19 fun t20 =>
  qF 38 t2 2 fun t21 =>
  qL 36 t21 fun t22 =>
  xR (.call { callee := .builtin .len, args := #[.const t22], argTypes := #[36] }) 3 fun t23 =>
  qF 38 t2 0 fun t24 =>
  qL 3 t24 fun t25 =>
  qP .quo 3 t23 t25 fun t26 =>
  qP .gtr 3 t20 t26 fun t27 =>
  k1 t27) fun t28 =>
  xW t28
  (K (.slice none 0 0)) <|
  OpX Tryz.prog (.buildSlice 36 0 #[]) 36 fun t29 =>
  xF 38 t2 2 fun t30 =>
  xL 36 t30 fun t31 =>
  xF 38 t2 0 fun t33 =>
  xL 3 t33 fun t34 =>
  xO .mul 3 p1 t34 fun t35 =>
  xF 38 t2 0 fun t37 =>
  xL 3 t37 fun t38 =>
  xO .mul 3 p1 t38 fun t39 =>
  xF 38 t2 0 fun t40 =>
  xL 3 t40 fun t41 =>
  xO .add 3 t39 t41 fun t42 =>
  OpX Tryz.prog (.slice 36 (.const t31) (some (.const t35)) (some (.const t42)) none) 36 fun t43 =>
  OpX Tryz.prog (.call { callee := .builtin .append, args := #[.const t29, .const t43], argTypes := #[36, 36] }) 36 fun t44 =>
  K t44
theorem lyceumref06_Row_link (p0 p1 : Value) : Lk 43 #[p0, p1] (lyceumref06_Row p0 p1) := lk [p0, p1] [(4, [28])] Tryz.func43 (by kernel_rfl) fun _ _ => by kernel_rfl
theorem lyceumref06_Row_b : Bodied Tryz.prog 43 := bd Tryz.func43 (by kernel_rfl)
end Go.Proofs.YtjfembffjjijaaaGreat
namespace Go.Proofs.YtjfembffjjijaaaGreat
open Lyc Go
theorem rem64 (x : BitVec 8) : (x.toNat : Int).tmod 64 = ((x &&& 63#8).toNat : Int) := by
  have h : ∀ x : BitVec 8, x.toNat % 64 = (x &&& 63#8).toNat := by decide +kernel
  rw [show (64 : Int) = ((64 : Nat) : Int) from rfl, ← Int.ofNat_tmod, h]
theorem low_lt (x : BitVec 8) : (x &&& 63#8).toNat < 64 := by
  have h : ∀ x : BitVec 8, (x &&& 63#8).toNat < 64 := by decide +kernel
  exact h x
theorem low64 (x : BitVec 8) : ((x &&& 63#8).toNat : Int) + 64 = (((x &&& 63#8) ||| 64#8).toNat : Int) := by
  have h : ∀ x : BitVec 8, (x &&& 63#8).toNat + 64 = ((x &&& 63#8) ||| 64#8).toNat := by decide +kernel
  have := h x; omega
theorem low128 (x : BitVec 8) : ((x &&& 63#8).toNat : Int) + 128 = (((x &&& 63#8) ||| 128#8).toNat : Int) := by
  have h : ∀ x : BitVec 8, (x &&& 63#8).toNat + 128 = ((x &&& 63#8) ||| 128#8).toNat := by decide +kernel
  have := h x; omega
theorem low_low (x : BitVec 8) : ((x &&& 63#8) ||| 64#8) &&& 63#8 = x &&& 63#8 := by
  have h : ∀ x : BitVec 8, ((x &&& 63#8) ||| 64#8) &&& 63#8 = x &&& 63#8 := by decide +kernel
  exact h x
theorem tail_low (x : BitVec 8) : (((x &&& 63#8) ||| 64#8) &&& ~~~64#8) ||| 128#8 = (x &&& 63#8) ||| 128#8 := by
  have h : ∀ x : BitVec 8, (((x &&& 63#8) ||| 64#8) &&& ~~~64#8) ||| 128#8 = (x &&& 63#8) ||| 128#8 := by decide +kernel
  exact h x
theorem none_c (w : World) (r : Int) : Calls Tryz.prog 118 #[.int .i32 r] w (retK fun v w' => v = .bool (decide (r < 0 ∨ 1114111 < r ∨ (55296 ≤ r ∧ r ≤ 57343))) ∧ w' = w) := by
  apply lyceumref04_none_link
  intro K hK
  unfold lyceumref04_none
  refine Join1.inl ?_
  simp -dsimp (disch := first | omega | (simp only [go_sem, seval]; first | done | omega)) only [go_sem, seval]
  refine BrW.dec (fun h1 => ?_) (fun h1 => ?_)
  · exact hK _ _ ⟨by simp [h1], rfl⟩
  · simp -dsimp (disch := first | omega | (simp only [go_sem, seval]; first | done | omega)) only [go_sem, seval]
    refine BrW.dec (fun h2 => ?_) (fun h2 => ?_)
    · exact hK _ _ ⟨by simp [h2], rfl⟩
    · simp -dsimp (disch := first | omega | (simp only [go_sem, seval]; first | done | omega)) only [go_sem, seval]
      refine BrW.dec (fun h3 => ?_) (fun h3 => ?_)
      · simp -dsimp (disch := first | omega | (simp only [go_sem, seval]; first | done | omega)) only [go_sem, seval]
        refine hK _ _ ⟨?_, rfl⟩
        congr 1
        simp [h1, h2, h3]
      · simp -dsimp (disch := first | omega | (simp only [go_sem, seval]; first | done | omega)) only [go_sem, seval]
        refine hK _ _ ⟨?_, rfl⟩
        congr 1
        simp [h1, h2, h3]
theorem within_c (w : World) (r a b : Int) (h1 : -2147483648 ≤ r) (h2 : r ≤ 2147483647) : Calls Tryz.prog 119 #[.int .i32 r, .int .i64 a, .int .i64 b] w (retK fun v w' => v = .bool (decide (a ≤ r ∧ r ≤ b)) ∧ w' = w) := by
  apply lyceumref04_within_link
  intro K hK
  unfold lyceumref04_within
  refine Join1.inl ?_
  simp -dsimp (disch := first | omega | (simp only [go_sem, seval]; first | done | omega)) only [go_sem, seval]
  refine BrW.dec (fun h3 => ?_) (fun h3 => ?_)
  · simp -dsimp (disch := first | omega | (simp only [go_sem, seval]; first | done | omega)) only [go_sem, seval]
    exact hK _ _ ⟨by simp [h3], rfl⟩
  · simp -dsimp (disch := first | omega | (simp only [go_sem, seval]; first | done | omega)) only [go_sem, seval]
    exact hK _ _ ⟨by simp [h3], rfl⟩
def w0 (r : Int) : Prop := (r < 0 ∨ 1114111 < r ∨ (55296 ≤ r ∧ r ≤ 57343)) ∨ r < 32 ∨ (127 ≤ r ∧ r ≤ 159) ∨ (768 ≤ r ∧ r ≤ 879) ∨ (8203 ≤ r ∧ r ≤ 8207) ∨ (65024 ≤ r ∧ r ≤ 65039)
def w2 (r : Int) : Prop := (4352 ≤ r ∧ r ≤ 4447) ∨ (11904 ≤ r ∧ r ≤ 12350) ∨ (12353 ≤ r ∧ r ≤ 42191) ∨ (44032 ≤ r ∧ r ≤ 55203) ∨ (63744 ≤ r ∧ r ≤ 64255) ∨ (65072 ≤ r ∧ r ≤ 65135) ∨ (65281 ≤ r ∧ r ≤ 65376) ∨ (65504 ≤ r ∧ r ≤ 65510) ∨ (127744 ≤ r ∧ r ≤ 128591) ∨ (129280 ≤ r ∧ r ≤ 129535) ∨ (131072 ≤ r ∧ r ≤ 262141)
instance (r : Int) : Decidable (w0 r) := by unfold w0; infer_instance
instance (r : Int) : Decidable (w2 r) := by unfold w2; infer_instance
theorem width_w0 {r : Int} (h : w0 r) : width r = 0 := by
  unfold w0 at h
  simp only [width, spans, spanW]
  repeat' split
  all_goals first | rfl | omega
theorem width_w2 {r : Int} (h0 : ¬ w0 r) (h : w2 r) : width r = 2 := by
  unfold w0 at h0
  unfold w2 at h
  simp only [width, spans, spanW]
  repeat' split
  all_goals first | rfl | omega
theorem width_w1 {r : Int} (h0 : ¬ w0 r) (h : ¬ w2 r) : width r = 1 := by
  unfold w0 at h0
  unfold w2 at h
  simp only [width, spans, spanW]
  repeat' split
  all_goals first | rfl | omega
theorem or_step {w w' : World} {p q : Prop} [Decidable p] [Decidable q] {k : Value → World → Prop} {M : Prop} (ht : p → k (.bool true) w') (hf : ¬ p → M) : BrW (.bool (decide p)) (k (.bool true) w') M () := BrW.dec ht hf
theorem rwidth_c (w : World) (r : Int) (h1 : -2147483648 ≤ r) (h2 : r ≤ 2147483647) : Calls Tryz.prog 80 #[.int .i32 r] w (retK fun v w' => v = .int .i64 (width r) ∧ w' = w) := by
  apply lyceumref04_Width_link
  intro K hK
  unfold lyceumref04_Width
  refine Join1.cut (fun v w' => v = .bool (decide (w0 r)) ∧ w' = w) ?_ ?_
  · refine OpX.call lyceumref04_none_b rfl (Calls.ret (none_c w r) ?_)
    rintro v w1 ⟨rfl, rfl⟩
    refine BrW.dec (fun h => ⟨by simp [w0, h], rfl⟩) (fun h3 => ?_)
    simp -dsimp (disch := first | omega | (simp only [go_sem, seval]; first | done | omega)) only [go_sem, seval]
    refine BrW.dec (fun h => ⟨by simp [w0, h], rfl⟩) (fun h4 => ?_)
    refine OpX.call lyceumref04_within_b rfl (Calls.ret (within_c _ r 127 159 h1 h2) ?_)
    rintro v w1 ⟨rfl, rfl⟩
    refine BrW.dec (fun h => ⟨by simp [w0, h], rfl⟩) (fun h5 => ?_)
    refine OpX.call lyceumref04_within_b rfl (Calls.ret (within_c _ r 768 879 h1 h2) ?_)
    rintro v w1 ⟨rfl, rfl⟩
    refine BrW.dec (fun h => ⟨by simp [w0, h], rfl⟩) (fun h6 => ?_)
    refine OpX.call lyceumref04_within_b rfl (Calls.ret (within_c _ r 8203 8207 h1 h2) ?_)
    rintro v w1 ⟨rfl, rfl⟩
    refine BrW.dec (fun h => ⟨by simp [w0, h], rfl⟩) (fun h7 => ?_)
    refine OpX.call lyceumref04_within_b rfl (Calls.ret (within_c _ r 65024 65039 h1 h2) ?_)
    rintro v w1 ⟨rfl, rfl⟩
    refine ⟨?_, rfl⟩
    congr 1
    unfold w0
    simp only [h3, h4, h5, h6, h7, false_or]
  · rintro v w1 ⟨rfl, rfl⟩
    refine BrW.dec (fun h => hK _ _ ⟨by rw [width_w0 h], rfl⟩) (fun h0 => ?_)
    refine Join1.cut (fun v w' => v = .bool (decide (w2 r)) ∧ w' = w1) ?_ ?_
    · refine OpX.call lyceumref04_within_b rfl (Calls.ret (within_c _ r 4352 4447 h1 h2) ?_)
      rintro v w1 ⟨rfl, rfl⟩
      refine BrW.dec (fun h => ⟨by simp [w2, h], rfl⟩) (fun h3 => ?_)
      refine OpX.call lyceumref04_within_b rfl (Calls.ret (within_c _ r 11904 12350 h1 h2) ?_)
      rintro v w1 ⟨rfl, rfl⟩
      refine BrW.dec (fun h => ⟨by simp [w2, h], rfl⟩) (fun h4 => ?_)
      refine OpX.call lyceumref04_within_b rfl (Calls.ret (within_c _ r 12353 42191 h1 h2) ?_)
      rintro v w1 ⟨rfl, rfl⟩
      refine BrW.dec (fun h => ⟨by simp [w2, h], rfl⟩) (fun h5 => ?_)
      refine OpX.call lyceumref04_within_b rfl (Calls.ret (within_c _ r 44032 55203 h1 h2) ?_)
      rintro v w1 ⟨rfl, rfl⟩
      refine BrW.dec (fun h => ⟨by simp [w2, h], rfl⟩) (fun h6 => ?_)
      refine OpX.call lyceumref04_within_b rfl (Calls.ret (within_c _ r 63744 64255 h1 h2) ?_)
      rintro v w1 ⟨rfl, rfl⟩
      refine BrW.dec (fun h => ⟨by simp [w2, h], rfl⟩) (fun h7 => ?_)
      refine OpX.call lyceumref04_within_b rfl (Calls.ret (within_c _ r 65072 65135 h1 h2) ?_)
      rintro v w1 ⟨rfl, rfl⟩
      refine BrW.dec (fun h => ⟨by simp [w2, h], rfl⟩) (fun h8 => ?_)
      refine OpX.call lyceumref04_within_b rfl (Calls.ret (within_c _ r 65281 65376 h1 h2) ?_)
      rintro v w1 ⟨rfl, rfl⟩
      refine BrW.dec (fun h => ⟨by simp [w2, h], rfl⟩) (fun h9 => ?_)
      refine OpX.call lyceumref04_within_b rfl (Calls.ret (within_c _ r 65504 65510 h1 h2) ?_)
      rintro v w1 ⟨rfl, rfl⟩
      refine BrW.dec (fun h => ⟨by simp [w2, h], rfl⟩) (fun h10 => ?_)
      refine OpX.call lyceumref04_within_b rfl (Calls.ret (within_c _ r 127744 128591 h1 h2) ?_)
      rintro v w1 ⟨rfl, rfl⟩
      refine BrW.dec (fun h => ⟨by simp [w2, h], rfl⟩) (fun h11 => ?_)
      refine OpX.call lyceumref04_within_b rfl (Calls.ret (within_c _ r 129280 129535 h1 h2) ?_)
      rintro v w1 ⟨rfl, rfl⟩
      refine BrW.dec (fun h => ⟨by simp [w2, h], rfl⟩) (fun h12 => ?_)
      refine OpX.call lyceumref04_within_b rfl (Calls.ret (within_c _ r 131072 262141 h1 h2) ?_)
      rintro v w1 ⟨rfl, rfl⟩
      refine ⟨?_, rfl⟩
      congr 1
      unfold w2
      simp only [h3, h4, h5, h6, h7, h8, h9, h10, h11, h12, false_or]
    · rintro v w1 ⟨rfl, rfl⟩
      refine BrW.dec (fun h => hK _ _ ⟨by rw [width_w2 h0 h], rfl⟩) (fun h => hK _ _ ⟨by rw [width_w1 h0 h], rfl⟩)
theorem rtail_c (w : World) (c : Cel) : Calls Tryz.prog 81 #[c.val] w (retK fun v w' => v = (⟨0, c.fg, c.bg, (c.a &&& 63#8) ||| 128#8⟩ : Cel).val ∧ Chg [] w w') := by
  have := low_lt c.a
  apply lyceumref05_Tail_link
  intro K hK
  unfold lyceumref05_Tail
  simp -dsimp (disch := first | omega | (simp only [go_sem, seval]; first | done | omega)) only [go_sem, seval, rem64, low128]
  exact hK _ _ ⟨rfl, ((Chg.refl [] w).alloc _).alloc _⟩
theorem rsame_c {w : World} {e e' : Option TypeId} {a a' : Option Addr} {l l' : List Cel} (hs : SxC w e a l) (hs' : SxC w e' a' l') (cap cap' : Nat) (hl : l.length ≤ 1000000000) : Calls Tryz.prog 57 #[.slice a l.length cap, .slice a' l'.length cap'] w (retK fun v w' => v = .bool (decide (l = l')) ∧ Chg [] w w') := by
  apply lyceumref05_Same_link
  intro K hK
  unfold lyceumref05_Same
  simp -dsimp (disch := first | omega | (simp only [go_sem, seval]; first | done | omega)) only [go_sem, seval]
  refine BrW.dec (fun h1 => ?_) (fun h1 => ?_)
  · refine hK _ _ ⟨?_, Chg.refl _ _⟩
    have : l ≠ l' := by rintro rfl; exact h1 rfl
    simp [this]
  · have hlen : l.length = l'.length := by omega
    refine Loop1.st (fun k : Nat => .int .i64 k) (fun k w' => Chg [] w w' ∧ k ≤ l.length ∧ l.take k = l'.take k) (fun k => l.length - k) 0 rfl ⟨Chg.refl _ _, by omega, rfl⟩ ?_
    rintro next k w' hn ⟨hc, hk, he⟩
    simp -dsimp (disch := first | omega | (simp only [go_sem, seval]; first | done | omega)) only [go_sem, seval]
    refine BrW.dec (fun h2 => ?_) (fun h2 => ?_)
    · have hk1 : k < l.length := by omega
      have hk2 : k < l'.length := by omega
      obtain ⟨b, o, rfl, hb, h3, -⟩ := SxC.cel (hs.chg0 hc) (List.getElem?_eq_getElem hk1)
      obtain ⟨b', o', rfl, hb', h3', -⟩ := SxC.cel (hs'.chg0 hc) (List.getElem?_eq_getElem hk2)
      simp -dsimp (disch := first | omega | (simp only [go_sem, seval]; first | done | omega)) only [go_sem, seval, h3, h3']
      refine BrW.dec (fun h4 => ?_) (fun h4 => ?_)
      · refine hK _ _ ⟨?_, hc.drew⟩
        have : l ≠ l' := by rintro rfl; exact h4 rfl
        simp [this]
      · simp -dsimp (disch := first | omega | (simp only [go_sem, seval]; first | done | omega)) only [go_sem, seval]
        refine hn (k + 1) _ ⟨hc.drew, by omega, ?_⟩ (by omega)
        rw [take_next hk1, take_next hk2, he]
        rw [Decidable.not_not.1 h4]
    · have hk1 : k = l.length := by omega
      subst hk1
      refine hK _ _ ⟨?_, hc⟩
      rw [List.take_length, hlen, List.take_length] at he
      simp [he]
end Go.Proofs.YtjfembffjjijaaaGreat
namespace Go.Proofs.YtjfembffjjijaaaGreat
open Lyc Go
theorem tail_eq (c : Cel) : (⟨0, c.fg, c.bg, (c.a &&& 63#8) ||| 128#8⟩ : Cel) = c.tailOf := by
  have h : ∀ a : BitVec 8, (a &&& 63#8) ||| 128#8 = (a &&& ~~~64#8) ||| 128#8 := by decide
  simp only [Cel.tailOf, h]
theorem rwide_c (w : World) (c : Cel) : Calls Tryz.prog 45 #[c.val] w (retK fun v w' => v = .bool c.wide ∧ Chg [] w w') := by
  have h : ∀ a : BitVec 8, decide (a.toNat / 64 % 2 = 1) = decide (¬ a &&& 64#8 = 0#8) := by decide
  have hb := c.a.isLt
  apply lyceumref05_wide_link
  intro K hK
  unfold lyceumref05_wide
  simp -dsimp (disch := first | omega | (simp only [go_sem, seval]; first | done | omega)) only [go_sem, seval]
  refine hK _ _ ⟨?_, chg_a1 _ _⟩
  unfold Cel.wide
  rw [← h c.a]
  congr 1
  apply decide_eq_decide.2
  have e1 : (c.a.toNat : Int).tdiv 64 = ((c.a.toNat / 64 : Nat) : Int) := by rw [Int.tdiv_eq_ediv_of_nonneg (by omega)]; rfl
  rw [e1, wrap_u8 _ (by omega) (by omega)]
  have e2 : ((c.a.toNat / 64 : Nat) : Int).tmod 2 = ((c.a.toNat / 64 % 2 : Nat) : Int) := by rw [Int.tmod_eq_emod_of_nonneg (by omega)]; rfl
  rw [e2]
  omega
theorem rtailq_c (w : World) (c : Cel) : Calls Tryz.prog 47 #[c.val] w (retK fun v w' => v = .bool c.tail ∧ Chg [] w w') := by
  have h : ∀ a : BitVec 8, decide (a.toNat / 128 = 1) = decide (¬ a &&& 128#8 = 0#8) := by decide
  have hb := c.a.isLt
  apply lyceumref05_tail_link
  intro K hK
  unfold lyceumref05_tail
  simp -dsimp (disch := first | omega | (simp only [go_sem, seval]; first | done | omega)) only [go_sem, seval]
  refine hK _ _ ⟨?_, chg_a1 _ _⟩
  unfold Cel.tail
  rw [← h c.a]
  congr 1
  apply decide_eq_decide.2
  have e1 : (c.a.toNat : Int).tdiv 128 = ((c.a.toNat / 128 : Nat) : Int) := by rw [Int.tdiv_eq_ediv_of_nonneg (by omega)]; rfl
  rw [e1, wrap_u8 _ (by omega) (by omega)]
  omega
theorem rcheck_c (w : World) (c : Cel) (hc : c.fits) : Calls Tryz.prog 44 #[c.val] w (retK fun v w' => v = .bool c.check ∧ Chg [] w w') := by
  apply lyceumref05_Check_link
  intro K hK
  unfold lyceumref05_Check
  simp -dsimp (disch := first | omega | (simp only [go_sem, seval]; first | done | omega)) only [go_sem, seval]
  have hc0 := chg_a1 w (.cells c.cells.toArray 70)
  have hb0 : (w.alloc (.cells c.cells.toArray 70)).heap[w.heap.size]? = some (.cells c.cells.toArray 70) := by simp -dsimp (disch := first | omega | (simp only [go_sem, seval]; first | done | omega)) only [go_sem, seval]
  refine OpX.call lyceumref04_Width_b rfl (Calls.ret (rwidth_c _ c.r hc.1 hc.2) ?_)
  rintro v w1 ⟨rfl, rfl⟩
  simp -dsimp (disch := first | omega | (simp only [go_sem, seval]; first | done | omega)) only [go_sem, seval]
  refine OpX.call lyceumref05_tail_b rfl (Calls.ret (rtailq_c _ c) ?_)
  rintro v w2 ⟨rfl, hc2⟩
  have hb2 := hc2.keep hb0 (by simp)
  have hc02 := hc0.trans0 hc2
  unfold Cel.check at hK
  refine BrW.by (fun h => ?_) (fun h => ?_)
  · rw [if_pos h] at hK
    refine Join1.inl ?_
    simp -dsimp (disch := first | omega | (simp only [go_sem, seval]; first | done | omega)) only [go_sem, seval, hb2]
    refine OpX.call lyceumref05_wide_b rfl (Calls.ret (rwide_c _ c) ?_)
    rintro v w3 ⟨rfl, hc3⟩
    have hb3 := hc3.keep hb2 (by simp)
    simp -dsimp (disch := first | omega | (simp only [go_sem, seval]; first | done | omega)) only [go_sem, seval]
    refine BrW.by (fun h => ?_) (fun h => ?_)
    · simp -dsimp (disch := first | omega | (simp only [go_sem, seval]; first | done | omega)) only [go_sem, seval, hb3]
      refine hK _ _ ⟨?_, hc02.trans0 hc3⟩
      simp at h; simp [h]
    · refine hK _ _ ⟨?_, hc02.trans0 hc3⟩
      simp at h; simp [h]
  · rw [if_neg (by simp [h])] at hK
    refine Join1.inl ?_
    simp -dsimp (disch := first | omega | (simp only [go_sem, seval]; first | done | omega)) only [go_sem, seval]
    refine BrW.dec (fun h1 => ?_) (fun h1 => ?_)
    · simp -dsimp (disch := first | omega | (simp only [go_sem, seval]; first | done | omega)) only [go_sem, seval, hb2]
      refine OpX.call lyceumref05_wide_b rfl (Calls.ret (rwide_c _ c) ?_)
      rintro v w3 ⟨rfl, hc3⟩
      have hb3 := hc3.keep hb2 (by simp)
      simp -dsimp (disch := first | omega | (simp only [go_sem, seval]; first | done | omega)) only [go_sem, seval]
      refine BrW.by (fun h2 => ?_) (fun h2 => ?_)
      · simp at h2
        refine hK _ _ ⟨?_, hc02.trans0 hc3⟩
        simp [h2, h1]
      · simp at h2
        simp -dsimp (disch := first | omega | (simp only [go_sem, seval]; first | done | omega)) only [go_sem, seval]
        have h3 : ¬ width c.r = 2 := by omega
        refine BrW.dec (fun h4 => absurd h4 h3) (fun h4 => ?_)
        refine hK _ _ ⟨?_, hc02.trans0 hc3⟩
        simp [h2, h3]
    · simp -dsimp (disch := first | omega | (simp only [go_sem, seval]; first | done | omega)) only [go_sem, seval]
      refine BrW.dec (fun h4 => ?_) (fun h4 => ?_)
      · simp -dsimp (disch := first | omega | (simp only [go_sem, seval]; first | done | omega)) only [go_sem, seval, hb2]
        refine OpX.call lyceumref05_wide_b rfl (Calls.ret (rwide_c _ c) ?_)
        rintro v w3 ⟨rfl, hc3⟩
        refine hK _ _ ⟨?_, hc02.trans0 hc3⟩
        cases hw : c.wide <;> simp [h1, h4]
      · refine hK _ _ ⟨?_, hc02⟩
        cases hw : c.wide <;> simp [h1, h4]
theorem rpair_c {w : World} {e : Option TypeId} {a : Option Addr} {l : List Cel} (hs : SxC w e a l) (cap : Nat) (i : Int) (h1 : -1 ≤ i) (h2 : i ≤ l.length) (hl : l.length ≤ 1000000) (hf : ∀ c ∈ l, c.fits) : Calls Tryz.prog 46 #[.slice a l.length cap, .int .i64 i] w
    (retK fun v w' => v = .bool (decide (0 ≤ i) && pairAt l i.toNat) ∧ Chg [] w w') := by
  apply lyceumref05_pair_link
  intro K hK
  unfold lyceumref05_pair
  refine Join1.cut (fun v w' => v = .bool (decide (0 ≤ i) && pairAt l i.toNat) ∧ Chg [] w w') ?_ ?_
  · simp -dsimp (disch := first | omega | (simp only [go_sem, seval]; first | done | omega)) only [go_sem, seval]
    refine BrW.dec (fun h3 => ?_) (fun h3 => ⟨by simp [h3], (Chg.refl _ _).drew⟩)
    obtain ⟨k, rfl⟩ := Int.eq_ofNat_of_zero_le h3
    simp -dsimp (disch := first | omega | (simp only [go_sem, seval]; first | done | omega)) only [go_sem, seval]
    refine BrW.dec (fun h4 => ?_) (fun h4 => ⟨by have := @pairAt_lt l k; simp; cases hp : pairAt l k <;> simp_all; omega, (Chg.refl _ _).drew⟩)
    have hk : k < l.length := by omega
    have hk1 : k + 1 < l.length := by omega
    have hpa : pairAt l k = pairOK l[k] l[k + 1] := by
      unfold pairAt; rw [List.getElem?_eq_getElem hk, List.getElem?_eq_getElem hk1]
    have hgo : (decide (0 ≤ (k : Int)) && pairAt l (k : Int).toNat) = pairOK l[k] l[k + 1] := by simp [hpa]
    rw [hgo]
    obtain ⟨b, o, rfl, hb, m1, -⟩ := SxC.cel hs (List.getElem?_eq_getElem hk)
    simp -dsimp (disch := first | omega | (simp only [go_sem, seval]; first | done | omega)) only [go_sem, seval, m1]
    refine OpX.call lyceumref05_Check_b rfl (Calls.ret (rcheck_c _ l[k] (hf _ (List.getElem_mem hk))) ?_)
    rintro v w1 ⟨rfl, hc1⟩
    refine BrW.by (fun h5 => ?_) (fun h5 => ⟨by simp [pairOK, h5], hc1.low_drew⟩)
    obtain ⟨b', o', hbo, hb', m1, -⟩ := SxC.cel ((hs.chg0 (Chg.refl _ _).drew).chg0 hc1) (List.getElem?_eq_getElem hk)
    cases hbo
    simp -dsimp (disch := first | omega | (simp only [go_sem, seval]; first | done | omega)) only [go_sem, seval, m1]
    refine OpX.call lyceumref05_wide_b rfl (Calls.ret (rwide_c _ l[k]) ?_)
    rintro v w2 ⟨rfl, hc2⟩
    have hc12 := hc1.trans0 hc2
    refine BrW.by (fun h6 => ?_) (fun h6 => ⟨by simp [pairOK, h6], hc12.low_drew⟩)
    obtain ⟨b', o', hbo, hb', m1, -⟩ := SxC.cel ((hs.chg0 (Chg.refl _ _).drew).chg0 hc12) (List.getElem?_eq_getElem hk)
    cases hbo
    obtain ⟨b', o', hbo, hb', m2, -⟩ := SxC.cel ((hs.chg0 (Chg.refl _ _).drew).chg0 hc12) (List.getElem?_eq_getElem hk1)
    cases hbo
    have ek : (k : Int) + 1 = ((k + 1 : Nat) : Int) := by simp
    simp -dsimp (disch := first | omega | (simp only [go_sem, seval]; first | done | omega)) only [go_sem, seval, m1, m2, ek]
    refine OpX.call lyceumref05_Tail_b rfl (Calls.ret (rtail_c _ l[k]) ?_)
    rintro v w3 ⟨rfl, hc3⟩
    rw [tail_eq]
    obtain ⟨b', o', hbo, hb', m2, -⟩ := SxC.cel (((hs.chg0 (Chg.refl _ _).drew).chg0 hc12).chg0 hc3) (List.getElem?_eq_getElem hk1)
    cases hbo
    simp -dsimp (disch := first | omega | (simp only [go_sem, seval]; first | done | omega)) only [go_sem, seval, m2]
    refine ⟨by simp [pairOK, h5, h6], (hc12.trans0 hc3).low_drew⟩
  · rintro v w1 ⟨rfl, hc⟩
    exact hK _ _ ⟨rfl, hc⟩
theorem near_eq (l : List Cel) (i : Nat) : near l i = (pairAt l i || (decide (0 ≤ (i : Int) - 1) && pairAt l ((i : Int) - 1).toNat)) := by
  cases i with
  | zero => simp [near]
  | succ i =>
    have e1 : (((i + 1 : Nat) : Int) - 1).toNat = i := by omega
    have e2 : decide (0 ≤ ((i + 1 : Nat) : Int) - 1) = true := by apply decide_eq_true; omega
    rw [e1, e2]; simp [near]
theorem single_eq (c : Cel) : c.single = (c.check && (!c.wide && !c.tail)) := by
  have h : ∀ a : BitVec 8, decide (a &&& 192#8 = 0#8) = (!decide (¬ a &&& 64#8 = 0#8) && !decide (¬ a &&& 128#8 = 0#8)) := by decide
  unfold Cel.single Cel.plain Cel.wide Cel.tail
  rw [h, Bool.and_comm]
theorem prev_eq (l : List Cel) (i : Nat) : (decide (0 ≤ (i : Int) - 1) && pairAt l ((i : Int) - 1).toNat) = prev l i := by
  cases i with
  | zero => simp [prev]
  | succ i =>
    have e1 : (((i + 1 : Nat) : Int) - 1).toNat = i := by omega
    have e2 : decide (0 ≤ ((i + 1 : Nat) : Int) - 1) = true := by apply decide_eq_true; omega
    rw [e1, e2]; simp [prev]
theorem rright_c {w : World} {e : Option TypeId} {a : Option Addr} {l : List Cel} (hs : SxC w e a l) (cap : Nat) (hl : l.length ≤ 100000) (hf : ∀ c ∈ l, c.fits) : Calls Tryz.prog 17 #[.slice a l.length cap] w
    (retK fun v w' => v = .bool (right l) ∧ Chg [] w w') := by
  apply lyceumref05_Right_link
  intro K hK
  unfold lyceumref05_Right
  refine Loop1.st (fun k : Nat => .int .i64 k) (fun k w' => Chg [] w w' ∧ k ≤ l.length ∧ ∀ i c, i < k → l[i]? = some c → near l i = true ∨ c.single = true) (fun k => l.length - k) 0 rfl ⟨Chg.refl _ _, by omega, by simp⟩ ?_
  rintro next k w1 hn ⟨hc1, hk1, hi1⟩
  simp -dsimp (disch := first | omega | (simp only [go_sem, seval]; first | done | omega)) only [go_sem, seval]
  refine BrW.dec (fun h1 => ?_) (fun h1 => ?_)
  · have hk : k < l.length := by omega
    have hs1 := hs.chg0 hc1
    have hgk := List.getElem?_eq_getElem hk
    have hiff := ok_iff hgk
    refine Join1.cut (fun v w' => v = .bool (!decide (near l k = true ∨ l[k].single = true)) ∧ Chg [] w1 w') ?_ ?_
    · obtain ⟨b, o, rfl, hb, m1, -⟩ := SxC.cel hs1 hgk
      simp -dsimp (disch := first | omega | (simp only [go_sem, seval]; first | done | omega)) only [go_sem, seval, m1]
      refine OpX.call lyceumref05_Check_b rfl (Calls.ret (rcheck_c _ l[k] (hf _ (List.getElem_mem hk))) ?_)
      rintro v2 w2 ⟨rfl, hc2⟩
      simp -dsimp (disch := first | omega | (simp only [go_sem, seval]; first | done | omega)) only [go_sem, seval]
      refine BrW.by (fun h2 => ⟨?_, hc2⟩) (fun h2 => ?_)
      · simp at h2; simp [hiff, h2]
      · simp at h2
        obtain ⟨b', o', hbo, hb', m2, -⟩ := SxC.cel (hs1.chg0 hc2) hgk
        cases hbo
        simp -dsimp (disch := first | omega | (simp only [go_sem, seval]; first | done | omega)) only [go_sem, seval, m2]
        refine OpX.call lyceumref05_wide_b rfl (Calls.ret (rwide_c _ l[k]) ?_)
        rintro v3 w3 ⟨rfl, hc3⟩
        have hc13 := hc2.trans0 hc3
        obtain ⟨b', o', hbo, hb', m3, -⟩ := SxC.cel (hs1.chg0 hc13) hgk
        cases hbo
        refine BrW.by (fun h3 => ?_) (fun h3 => ?_)
        · refine OpX.call lyceumref05_pair_b rfl (Calls.ret (rpair_c (hs1.chg0 hc13) cap (k : Int) (by omega) (by omega) (by omega) hf) ?_)
          rintro v4 w4 ⟨rfl, hc4⟩
          have hc14 := hc13.trans0 hc4
          have hp0 : (decide (0 ≤ (k : Int)) && pairAt l (k : Int).toNat) = pairAt l k := by simp
          rw [hp0]
          simp -dsimp (disch := first | omega | (simp only [go_sem, seval]; first | done | omega)) only [go_sem, seval]
          refine BrW.by (fun h4 => ⟨?_, hc14⟩) (fun h4 => ?_)
          · simp at h4; simp [hiff, h3, h4]
          · simp at h4
            obtain ⟨b', o', hbo, hb', m4, -⟩ := SxC.cel (hs1.chg0 hc14) hgk
            cases hbo
            simp -dsimp (disch := first | omega | (simp only [go_sem, seval]; first | done | omega)) only [go_sem, seval, m4]
            refine OpX.call lyceumref05_tail_b rfl (Calls.ret (rtailq_c _ l[k]) ?_)
            rintro v5 w5 ⟨rfl, hc5⟩
            have hc15 := hc14.trans0 hc5
            refine BrW.by (fun h5 => ?_) (fun h5 => ?_)
            · simp -dsimp (disch := first | omega | (simp only [go_sem, seval]; first | done | omega)) only [go_sem, seval]
              refine OpX.call lyceumref05_pair_b rfl (Calls.ret (rpair_c (hs1.chg0 hc15) cap ((k : Int) - 1) (by omega) (by omega) (by omega) hf) ?_)
              rintro v6 w6 ⟨rfl, hc6⟩
              rw [prev_eq]
              simp -dsimp (disch := first | omega | (simp only [go_sem, seval]; first | done | omega)) only [go_sem, seval]
              refine ⟨?_, hc15.trans0 hc6⟩
              simp [hiff, h2, h4, h5]
            · refine ⟨?_, hc15⟩
              simp [hiff, h2, h4, h5]
        · simp -dsimp (disch := first | omega | (simp only [go_sem, seval]; first | done | omega)) only [go_sem, seval, m3]
          refine OpX.call lyceumref05_tail_b rfl (Calls.ret (rtailq_c _ l[k]) ?_)
          rintro v5 w5 ⟨rfl, hc5⟩
          have hc15 := hc13.trans0 hc5
          refine BrW.by (fun h5 => ?_) (fun h5 => ?_)
          · simp -dsimp (disch := first | omega | (simp only [go_sem, seval]; first | done | omega)) only [go_sem, seval]
            refine OpX.call lyceumref05_pair_b rfl (Calls.ret (rpair_c (hs1.chg0 hc15) cap ((k : Int) - 1) (by omega) (by omega) (by omega) hf) ?_)
            rintro v6 w6 ⟨rfl, hc6⟩
            rw [prev_eq]
            simp -dsimp (disch := first | omega | (simp only [go_sem, seval]; first | done | omega)) only [go_sem, seval]
            refine ⟨?_, hc15.trans0 hc6⟩
            simp [hiff, h2, h3, h5]
          · refine ⟨?_, hc15⟩
            simp [hiff, h2, h3, h5]
    · rintro v w2 ⟨rfl, hc2⟩
      refine BrW.by (fun h2 => ?_) (fun h2 => ?_)
      · have hnr : right l = false := by
          cases hr : right l
          · rfl
          · simp at h2
            rcases right_get l hr k _ hgk with h | h
            · rw [h] at h2; simp at h2
            · rw [h] at h2; simp at h2
        exact hK _ _ ⟨by rw [hnr], hc1.trans0 hc2⟩
      · simp -dsimp (disch := first | omega | (simp only [go_sem, seval]; first | done | omega)) only [go_sem, seval]
        refine hn (k + 1) _ ⟨hc1.trans0 hc2, by omega, ?_⟩ (by omega)
        intro i c hi hic
        by_cases he : i = k
        · subst he
          rw [hgk] at hic; cases hic
          rw [Bool.not_eq_false'] at h2
          exact of_decide_eq_true h2
        · exact hi1 i c (by omega) hic
  · have hk : k = l.length := by omega
    refine hK _ _ ⟨?_, hc1⟩
    rw [right_of_get l fun i c hic => hi1 i c (by rw [hk]; exact (List.getElem?_eq_some_iff.1 hic).1) hic]
end Go.Proofs.YtjfembffjjijaaaGreat
namespace Go.Proofs.YtjfembffjjijaaaGreat
open Lyc Go
theorem rsize_c (w : World) (x y : Int) : Calls Tryz.prog 42 #[.int .i64 x, .int .i64 y] w (retK fun v w' => v = .bool (fitsG x y) ∧ w' = w) := by
  apply lyceumref06_size_link
  intro K hK
  unfold lyceumref06_size
  refine Join1.inl ?_
  simp -dsimp (disch := first | omega | (simp only [go_sem, seval]; first | done | omega)) only [go_sem, seval]
  refine BrW.dec (fun h1 => ?_) (fun h1 => ?_)
  · simp -dsimp (disch := first | omega | (simp only [go_sem, seval]; first | done | omega)) only [go_sem, seval]
    refine BrW.dec (fun h2 => ?_) (fun h2 => ?_)
    · simp -dsimp (disch := first | omega | (simp only [go_sem, seval]; first | done | omega)) only [go_sem, seval]
      refine BrW.dec (fun h3 => ?_) (fun h3 => ?_)
      · simp -dsimp (disch := first | omega | (simp only [go_sem, seval]; first | done | omega)) only [go_sem, seval]
        refine hK _ _ ⟨?_, rfl⟩
        simp [fitsG, h1, h2, h3]
      · refine hK _ _ ⟨?_, rfl⟩
        simp [fitsG, h3]
    · refine hK _ _ ⟨?_, rfl⟩
      simp [fitsG, h2]
  · refine hK _ _ ⟨?_, rfl⟩
    simp [fitsG, h1]
theorem GAt.of_ox {base : Nat} {w : World} {v : Value} {W H : Nat} {cs : List Cel} (h : Ox base w 70 4 Cel.cells v cs) (hn : cs ≠ []) : GAt base w (.agg #[.int .i64 W, .int .i64 H, v]) ⟨W, H, cs⟩ := by
  obtain ⟨nb, cap, sp, rfl, h1, h2, h3⟩ := h.blk hn
  exact ⟨nb, cap, sp, rfl, h1, h2, h3⟩
theorem div_h {g : Gr} (hg : g.ok) : (g.cs.length : Int).tdiv g.w = g.h := by
  rw [hg.len]
  have h0 := hg.w0
  have : ((g.w * g.h : Nat) : Int) = (g.w : Int) * g.h := by simp
  rw [this, Int.mul_tdiv_cancel_left _ (by omega)]
theorem rrow_c {w : World} {g : Gr} (hg : g.ok) {e : Option TypeId} {a : Option Addr} (hs : SxC w e a g.cs) (cap : Nat) (hcap : g.cs.length ≤ cap) (y : Nat) (hy : y < g.h) : Calls Tryz.prog 43 #[g.val a cap, .int .i64 y] w
    (retK fun v w' => Ox w.heap.size w' 70 4 Cel.cells v (g.row y) ∧ Chg [] w w') := by
  have h1 := hg.row_lt hy
  have h2 := hg.le
  have h3 := hg.w0
  have h4 := hg.w1
  have h5 := hg.h1
  have hd := div_h hg
  obtain ⟨b, o, _, _, _, _, _, rfl, hb0, _⟩ := hs.at_ hg.ne
  clear hb0
  apply lyceumref06_Row_link
  intro K hK
  unfold lyceumref06_Row
  simp -dsimp (disch := first | omega | (simp only [go_sem, seval]; first | done | omega)) only [go_sem, seval, Gr.val]
  have hc0 := chg_a1 w (.cells #[.int .i64 g.w, .int .i64 g.h, .slice (some ⟨b, o, none⟩) g.cs.length cap] 38)
  have hg0 : (w.alloc (.cells #[.int .i64 g.w, .int .i64 g.h, .slice (some ⟨b, o, none⟩) g.cs.length cap] 38)).heap[w.heap.size]? = some (.cells #[.int .i64 g.w, .int .i64 g.h, .slice (some ⟨b, o, none⟩) g.cs.length cap] 38) := by simp -dsimp (disch := first | omega | (simp only [go_sem, seval]; first | done | omega)) only [go_sem, seval]
  refine Join1.cut (fun v w' => v = .bool false ∧ w' = (w.alloc (.cells #[.int .i64 g.w, .int .i64 g.h, .slice (some ⟨b, o, none⟩) g.cs.length cap] 38)).drew) ?_ ?_
  · simp -dsimp (disch := first | omega | (simp only [go_sem, seval]; first | done | omega)) only [go_sem, seval]
    refine BrW.dec (fun h => by omega) (fun _ => ?_)
    simp -dsimp (disch := first | omega | (simp only [go_sem, seval]; first | done | omega)) only [go_sem, seval]
    refine BrW.dec (fun h => by omega) (fun _ => ?_)
    simp -dsimp (disch := first | omega | (simp only [go_sem, seval]; first | done | omega)) only [go_sem, seval]
    refine BrW.dec (fun h => by omega) (fun _ => ?_)
    simp -dsimp (disch := first | omega | (simp only [go_sem, seval]; first | done | omega)) only [go_sem, seval, hd]
    simp
  · rintro v w1 ⟨rfl, rfl⟩
    have e1 : (y : Int) * (g.w : Int) = ((y * g.w : Nat) : Int) := by simp
    have e2 : ((y * g.w : Nat) : Int) + (g.w : Int) = ((y * g.w + g.w : Nat) : Int) := by simp
    simp -dsimp (disch := first | omega | (simp only [go_sem, seval]; first | done | omega)) only [go_sem, seval, e1, e2]
    have e3 : slo o cap (y * g.w) 4 = o + y * g.w * 4 := by unfold slo; rw [if_neg (by omega)]
    have e4 : y * g.w + g.w - y * g.w = g.w := by omega
    rw [e3, e4]
    have hrl := hg.row_len hy
    have hs1 : SxC (((w.alloc (.cells #[.int .i64 g.w, .int .i64 g.h, .slice (some ⟨b, o, none⟩) g.cs.length cap] 38)).alloc (.cells #[] 70)).drew) e (some ⟨b, o + y * g.w * 4, none⟩) (g.row y) := Sx.sub (hs.chg0 (chg_a2 _ _ _).drew) Cel.len (y * g.w) g.w _ (.inr (.inr rfl))
    have ho : Ox w.heap.size (((w.alloc (.cells #[.int .i64 g.w, .int .i64 g.h, .slice (some ⟨b, o, none⟩) g.cs.length cap] 38)).alloc (.cells #[] 70)).drew) 70 4 Cel.cells (.slice (some ⟨w.heap.size + 1, 0, none⟩) 0 0) [] := Ox.built (c := []) (by simp -dsimp (disch := first | omega | (simp only [go_sem, seval]; first | done | omega)) only [go_sem, seval]) Cel.len (by omega) rfl rfl (by omega) rfl
    refine app_x (l := []) (l2 := g.row y) ty36ap Cel.len Cel.ok ho hs1 (by rw [hrl]) (by simp; omega) (by omega) (by simp -dsimp (disch := first | omega | (simp only [go_sem, seval]; first | done | omega)) only [go_sem, seval]; omega) ?_
    intro v' w' ho' hc' _
    exact hK _ _ ⟨by simpa using ho', own_chg ho (chg_a2 _ _ _).drew hc'⟩
theorem row_sub {g : Gr} {y : Nat} {c : Cel} (h : c ∈ g.row y) : c ∈ g.cs := List.mem_of_mem_drop (List.mem_of_mem_take h)
theorem rgcheck_c {w : World} {g : Gr} (hg : g.ok) (hr : g.right = true) {e : Option TypeId} {a : Option Addr} (hs : SxC w e a g.cs) (cap : Nat) (hcap : g.cs.length ≤ cap) : Calls Tryz.prog 15 #[g.val a cap] w
    (retK fun v w' => v = .bool true ∧ Chg [] w w') := by
  have hle := hg.le
  have hm : (g.w : Int) * (g.h : Int) = (g.cs.length : Int) := by rw [hg.len]; simp
  have h4 := hg.w1
  have h5 := hg.h1
  apply lyceumref06_Check_link
  intro K hK
  unfold lyceumref06_Check
  simp -dsimp (disch := first | omega | (simp only [go_sem, seval]; first | done | omega)) only [go_sem, seval, Gr.val]
  have hc0 := chg_a1 w (.cells #[.int .i64 g.w, .int .i64 g.h, .slice a g.cs.length cap] 38)
  have hg0 : (w.alloc (.cells #[.int .i64 g.w, .int .i64 g.h, .slice a g.cs.length cap] 38)).heap[w.heap.size]? = some (.cells #[.int .i64 g.w, .int .i64 g.h, .slice a g.cs.length cap] 38) := by simp -dsimp (disch := first | omega | (simp only [go_sem, seval]; first | done | omega)) only [go_sem, seval]
  refine OpX.call lyceumref06_size_b rfl (Calls.ret (rsize_c _ g.w g.h) ?_)
  rintro v w1 ⟨rfl, rfl⟩
  refine Join1.inl ?_
  simp -dsimp (disch := first | omega | (simp only [go_sem, seval]; first | done | omega)) only [go_sem, seval, hg.fits, hm]
  refine Loop1.st (fun k : Nat => .int .i64 k) (fun k w' => Chg [] w w' ∧ k ≤ g.h ∧ w'.heap[w.heap.size]? = some (.cells #[.int .i64 g.w, .int .i64 g.h, .slice a g.cs.length cap] 38)) (fun k => g.h - k) 0 rfl ⟨hc0, by omega, hg0⟩ ?_
  rintro next k w2 hn ⟨hc2, hk, hg2⟩
  simp -dsimp (disch := first | omega | (simp only [go_sem, seval]; first | done | omega)) only [go_sem, seval, hg2]
  refine BrW.dec (fun h1 => ?_) (fun h1 => hK _ _ ⟨rfl, hc2⟩)
  have hky : k < g.h := by omega
  simp -dsimp (disch := first | omega | (simp only [go_sem, seval]; first | done | omega)) only [go_sem, seval, hg2]
  refine OpX.call lyceumref06_Row_b rfl (Calls.ret (rrow_c hg (hs.chg0 hc2) cap hcap k hky) ?_)
  rintro v3 w3 ⟨ho3, hc3⟩
  obtain ⟨a3, cap3, rfl, hcap3, hs3, -⟩ := ho3.form
  have hrl := hg.row_len hky
  have hrr := Gr.right.at hr hky
  refine OpX.call lyceumref05_Right_b rfl (Calls.ret (rright_c hs3 cap3 (by omega) (right_fits hrr)) ?_)
  rintro v4 w4 ⟨rfl, hc4⟩
  rw [hrr]
  simp -dsimp (disch := first | omega | (simp only [go_sem, seval]; first | done | omega)) only [go_sem, seval]
  exact hn (k + 1) _ ⟨(hc2.trans0 hc3).trans0 hc4, by omega, (hc3.trans0 hc4).keep hg2 (by simp)⟩ (by omega)
end Go.Proofs.YtjfembffjjijaaaGreat
namespace Go.Proofs.YtjfembffjjijaaaGreat
open Lyc Go
def szN (n m : Int) : Nat := (1 + (n.tmod m + m).tmod m).toNat
theorem szN_eq {n m : Int} (h : 0 < m) : 1 + (n.tmod m + m).tmod m = (szN n m : Int) ∧ 0 < szN n m ∧ (szN n m : Int) ≤ m := by
  have h1 := Int.lt_tmod_of_pos n h
  have h2 := Int.tmod_nonneg m (show 0 ≤ n.tmod m + m by omega)
  have h3 := Int.tmod_lt_of_pos (n.tmod m + m) h
  unfold szN
  omega
theorem size09_c (w : World) (x y : Int) : Calls Tryz.prog 9 #[.agg #[.int .i64 x, .int .i64 y]] w
    (retK fun v w' => v = .tuple #[.int .i64 (szN x 14), .int .i64 (szN y 8)] ∧ Chg [] w w') := by
  obtain ⟨ex, -, -⟩ := szN_eq (n := x) (m := 14) (by omega)
  obtain ⟨ey, -, -⟩ := szN_eq (n := y) (m := 8) (by omega)
  have b1 := tmod_bd x 14 (by omega)
  have b2 := tmod_bd y 8 (by omega)
  have b3 := tmod_bd (x.tmod 14 + 14) 14 (by omega)
  have b4 := tmod_bd (y.tmod 8 + 8) 8 (by omega)
  apply lyceumlaw09_Size_size_link
  intro K hK
  unfold lyceumlaw09_Size_size
  simp -dsimp (disch := first | omega | (simp only [go_sem, seval]; first | done | omega)) only [go_sem, seval, ex, ey]
  exact hK _ _ ⟨rfl, (chg_a1 _ _).drew⟩
theorem SAt.act_off {w : World} {s : Nat} {M : Scm} (h : SAt w s M) {b0 : Nat} {v : Value} {qs : List Act'} (ho : Ox b0 w 34 13 Act'.cells v qs) : ∀ x ∈ s :: M.blk, x ∉ v.ownBlock.toList := by
  intro x hx hm
  have hm : v.ownBlock = some x := by simpa using hm
  simp only [Scm.blk, List.mem_cons] at hx
  rcases hx with rfl | rfl | rfl | hx
  · have hb := h.hb
    unfold Scm.obj at hb
    exact ho.off hb rfl hm
  · exact ho.off h.h0 rfl hm
  · exact ho.off h.h1 rfl hm
  · obtain ⟨hl, hg⟩ := h.own
    rcases hg with ⟨hv, -⟩ | ⟨g, cap, cur, hv, -, hg, -⟩
    · rw [hv] at hx; simp [Value.ownBlock] at hx
    · rw [hv] at hx; simp [Value.ownBlock] at hx
      subst hx
      exact ho.off hg rfl hm
theorem SAt.act_rows {w : World} {s : Nat} {M : Scm} (h : SAt w s M) {b0 : Nat} {v : Value} {qs : List Act'} (ho : Ox b0 w 34 13 Act'.cells v qs) : ∀ r ∈ M.rows, ∀ b o, r.a = some ⟨b, o, none⟩ → r.cs ≠ [] → b ∉ v.ownBlock.toList := by
  intro r hr b o ha hne hm
  have hm : v.ownBlock = some b := by simpa using hm
  obtain ⟨hl, hg⟩ := ho
  rcases hg with ⟨hv, -⟩ | ⟨g, cap, cur, hv, -, hg, -⟩
  · rw [hv] at hm; simp [Value.ownBlock] at hm
  · rw [hv] at hm; simp [Value.ownBlock] at hm
    subst hm
    exact (h.rows r hr).ne ha hne hg rfl rfl
theorem SAt.act {w w' : World} {s : Nat} {M : Scm} (h : SAt w s M) {b0 : Nat} {v : Value} {qs : List Act'} (ho : Ox b0 w 34 13 Act'.cells v qs) (hc : Chg v.ownBlock.toList w w') : SAt w' s M :=
  h.chg hc (h.act_off ho) (h.act_rows ho)
def ex09 : Gr := ((Scr.new 4 2).acts ([97, 98, 99, 100, 101].map printA)).cur
theorem ex09_e : ex09 = ⟨4, 2, [⟨97, 0, 0, 0⟩, ⟨98, 0, 0, 0⟩, ⟨99, 0, 0, 0⟩, ⟨100, 0, 0, 0⟩, ⟨101, 0, 0, 0⟩, ⟨32, 0, 0, 0⟩, ⟨32, 0, 0, 0⟩, ⟨32, 0, 0, 0⟩]⟩ := by decide +kernel
theorem awake09_c (w : World) : Calls Tryz.prog 8 #[] w (retK fun v w' => v = .bool true ∧ Chg [] w w') := by
  apply lyceumlaw09_awake_link
  intro K hK
  unfold lyceumlaw09_awake
  refine OpX.call screen_New_b rfl (Calls.ret (snew_c w 4 2 (by omega) (by omega) (by omega) (by omega)) ?_)
  rintro v w1 ⟨s, M, rfl, hA, hS, hc1, hs1, hb1⟩
  simp -dsimp (disch := first | omega | (simp only [go_sem, seval]; first | done | omega)) only [go_sem, seval]
  refine OpX.gen fun w2 hw2 => ?_
  have hc2 : Chg [] w1 w2 := by rw [hw2]; exact chg_a1 _ _
  have hr2 : w2.heap[w1.heap.size]? = some (.cells #[.int .i32 97, .int .i32 98, .int .i32 99, .int .i32 100, .int .i32 101] 21) := by rw [hw2]; simp -dsimp (disch := first | omega | (simp only [go_sem, seval]; first | done | omega)) only [go_sem, seval]
  clear hw2
  have hsr : Sx w2 (some 21) runeF (some ⟨w1.heap.size, 0, none⟩) [97, 98, 99, 100, 101] := Sx.built (c := [.int .i32 97, .int .i32 98, .int .i32 99, .int .i32 100, .int .i32 101]) hr2 rfl
  refine OpX.call lyceumlaw09_acts_b rfl (Calls.ret (acts_c hsr 5 (by simp) (by decide) 9 (by omega)) ?_)
  rintro v w3 ⟨qs, ho, hlq, hf, hc3, hpr⟩
  have hq := hpr (by simp) (by decide)
  have hA3 := (hA.chg0 hc2).chg0 hc3
  obtain ⟨a, cap, rfl, hcap, hsq, -, hfm⟩ := ho.form
  have ok : M.S.ok := by rw [hS]; exact Scr.ok_new (by omega) (by omega) (by omega) (by omega)
  have hfar : ∀ b o, a = some ⟨b, o, none⟩ → qs ≠ [] → b ∉ s :: M.blk := fun b o ha _ hm => hA3.act_off ho b hm (by rw [ha]; simp [Value.ownBlock])
  refine OpX.call screen_Screen_Do_b rfl (Calls.ret (sdo_c hA3 ok hsq hfar cap (by omega) hf) ?_)
  rintro v w4 ⟨M4, hA4, hS4, hc4, hb4⟩
  have ok4 : M4.S.ok := by rw [hS4]; exact ok.acts.ok
  refine OpX.call screen_Screen_Grid_b rfl (Calls.ret (sgrid_c hA4 ok4) ?_)
  rintro v w5 ⟨⟨nb5, cap5, sp5, rfl, p1, p2, p3⟩, hc5⟩
  have e5 : M4.S.cur = ex09 := by rw [hS4, hS, hq]; rfl
  rw [e5, ex09_e] at p1 p3 ⊢
  have hok : (⟨4, 2, [⟨97, 0, 0, 0⟩, ⟨98, 0, 0, 0⟩, ⟨99, 0, 0, 0⟩, ⟨100, 0, 0, 0⟩, ⟨101, 0, 0, 0⟩, ⟨32, 0, 0, 0⟩, ⟨32, 0, 0, 0⟩, ⟨32, 0, 0, 0⟩]⟩ : Gr).ok := ⟨by decide, by decide, by decide, by decide, rfl⟩
  have h9 : ∀ y, y < 2 → ∀ r ∈ trimE (shown ((⟨4, 2, [⟨97, 0, 0, 0⟩, ⟨98, 0, 0, 0⟩, ⟨99, 0, 0, 0⟩, ⟨100, 0, 0, 0⟩, ⟨101, 0, 0, 0⟩, ⟨32, 0, 0, 0⟩, ⟨32, 0, 0, 0⟩, ⟨32, 0, 0, 0⟩]⟩ : Gr).row y)), asc r := by
    intro y hy
    have : y = 0 ∨ y = 1 := by omega
    rcases this with rfl | rfl
    · show ∀ r ∈ trimE (shown ((⟨4, 2, [⟨97, 0, 0, 0⟩, ⟨98, 0, 0, 0⟩, ⟨99, 0, 0, 0⟩, ⟨100, 0, 0, 0⟩, ⟨101, 0, 0, 0⟩, ⟨32, 0, 0, 0⟩, ⟨32, 0, 0, 0⟩, ⟨32, 0, 0, 0⟩]⟩ : Gr).row 0)), 0 ≤ r ∧ r ≤ 127
      decide +kernel
    · show ∀ r ∈ trimE (shown ((⟨4, 2, [⟨97, 0, 0, 0⟩, ⟨98, 0, 0, 0⟩, ⟨99, 0, 0, 0⟩, ⟨100, 0, 0, 0⟩, ⟨101, 0, 0, 0⟩, ⟨32, 0, 0, 0⟩, ⟨32, 0, 0, 0⟩, ⟨32, 0, 0, 0⟩]⟩ : Gr).row 1)), 0 ≤ r ∧ r ≤ 127
      decide +kernel
  have hs5 : SxC w5 (some 70) (some ⟨nb5, 0, none⟩) (⟨4, 2, [⟨97, 0, 0, 0⟩, ⟨98, 0, 0, 0⟩, ⟨99, 0, 0, 0⟩, ⟨100, 0, 0, 0⟩, ⟨101, 0, 0, 0⟩, ⟨32, 0, 0, 0⟩, ⟨32, 0, 0, 0⟩, ⟨32, 0, 0, 0⟩]⟩ : Gr).cs := ⟨fun _ => ⟨nb5, 0, _, _, _, [], sp5, rfl, p3, by simp [tagOk], by simp, rfl⟩⟩
  refine OpX.call grid_Lines_b rfl (Calls.ret (glines_c hok hs5 cap5 p1 h9) ?_)
  rintro v w7 ⟨ho7, hc7⟩
  have et : ((List.range (⟨4, 2, [⟨97, 0, 0, 0⟩, ⟨98, 0, 0, 0⟩, ⟨99, 0, 0, 0⟩, ⟨100, 0, 0, 0⟩, ⟨101, 0, 0, 0⟩, ⟨32, 0, 0, 0⟩, ⟨32, 0, 0, 0⟩, ⟨32, 0, 0, 0⟩]⟩ : Gr).h).map fun y => rowText ((⟨4, 2, [⟨97, 0, 0, 0⟩, ⟨98, 0, 0, 0⟩, ⟨99, 0, 0, 0⟩, ⟨100, 0, 0, 0⟩, ⟨101, 0, 0, 0⟩, ⟨32, 0, 0, 0⟩, ⟨32, 0, 0, 0⟩, ⟨32, 0, 0, 0⟩]⟩ : Gr).row y)) = [bstr [97, 98, 99, 100], bstr [101]] := by decide +kernel
  rw [et] at ho7
  obtain ⟨a7, cap7, rfl, -, hs7, -⟩ := ho7.form
  obtain ⟨b7, o7, rfl, hb7, hcell7⟩ := hs7.get1 (g := fun s => .string s) (fun _ => rfl) (i := 0) rfl
  obtain ⟨b7', o7', hbo, hb7', hcell8⟩ := hs7.get1 (g := fun s => .string s) (fun _ => rfl) (i := 1) rfl
  cases hbo
  have el : (({ data := #[97, 98, 99, 100] } : ByteArray)).toList = [97, 98, 99, 100] := bstr_toList [97, 98, 99, 100]
  have el2 : (({ data := #[101] } : ByteArray)).toList = [101] := bstr_toList [101]
  have hcell7' : cellAt w7.heap[b7]? o7 = some (.string (bstr [97, 98, 99, 100])) := hcell7
  have hcell8' : cellAt w7.heap[b7]? (o7 + 1) = some (.string (bstr [101])) := hcell8
  have hca : Chg [] w w7 := by
    refine ((((hc1.trans0 hc2).trans0 hc3).trans hc4 ?_).trans0 hc5).trans0 hc7
    intro x hx
    rcases List.mem_cons.1 hx with rfl | hx
    · exact .inr hs1
    · exact .inr (hb1 x hx)
  refine Join1.inl ?_
  simp -dsimp (disch := first | omega | (simp only [go_sem, seval]; first | done | omega)) only [go_sem, seval, hcell7', hcell8', el, el2]
  exact hK _ _ ⟨by simp, hca⟩
end Go.Proofs.YtjfembffjjijaaaGreat
namespace Go.Proofs.YtjfembffjjijaaaGreat
open Lyc Go
structure SNew (base : Nat) (w : World) (s : Nat) (W H : Nat) (M : Scm) : Prop where
  at_ : SAt w s M
  ok : M.S.ok
  w : M.S.w = W
  h : M.S.h = H
  gw : ∀ r ∈ M.S.gone, r.length = W
  lo : ∀ x ∈ s :: M.blk, base ≤ x
theorem SNew.did {base : Nat} {w w' : World} {s W H : Nat} {M : Scm} {T : Scr} (h : SNew base w s W H M) (hd : Did w s M w' T) (hn : Nx M.S T) (hb : base ≤ w.heap.size) : ∃ M', SNew base w' s W H M' ∧ M'.S = T ∧ Chg (s :: M.blk) w w' := by
  obtain ⟨M', a, rfl, c, d⟩ := hd
  refine ⟨M', ⟨a, hn.ok, hn.w.trans h.w, hn.h.trans h.h, fun r hr => ?_, fun x hx => ?_⟩, rfl, c⟩
  · rw [← h.w, ← hn.w]; exact hn.gw (fun r hr => by rw [h.w]; exact h.gw r hr) r hr
  · rcases List.mem_cons.1 hx with e | hx
    · exact h.lo x (by rw [e]; simp)
    · rcases d x hx with hx | hx
      · exact h.lo x (by simp [hx])
      · omega
theorem SNew.chg0 {base : Nat} {w w' : World} {s W H : Nat} {M : Scm} (h : SNew base w s W H M) (hc : Chg [] w w') : SNew base w' s W H M := ⟨h.at_.chg0 hc, h.ok, h.w, h.h, h.gw, h.lo⟩
theorem snew2_c (w : World) (W H : Nat) (W0 : 0 < W) (W1 : W ≤ 200) (H0 : 0 < H) (H1 : H ≤ 60) : Calls Tryz.prog 10 #[.int .i64 W, .int .i64 H] w
    (retK fun v w' => ∃ s M, v = .pointer (some ⟨s, 0, none⟩) ∧ SNew w.heap.size w' s W H M ∧ M.S = Scr.new W H ∧ Chg [] w w') := by
  refine (snew_c w W H W0 W1 H0 H1).mono fun e w' h => ?_
  cases e with
  | returned v =>
    obtain ⟨s, M, rfl, hA, hS, hc, h1, h2⟩ := h
    refine ⟨s, M, rfl, ⟨hA, by rw [hS]; exact Scr.ok_new W0 W1 H0 H1, by rw [hS]; rfl, by rw [hS]; rfl, by rw [hS]; simp [Scr.new], fun x hx => ?_⟩, hS, hc⟩
    rcases List.mem_cons.1 hx with rfl | hx
    · exact h1
    · exact h2 x hx
  | _ => exact h.elim
theorem sright_c {w : World} {e : Option TypeId} {a : Option Addr} {l : List Int} (hs : Sx w e runeF a l) (cap : Nat) (hcap : l.length ≤ cap) (hr : ∀ x ∈ l, -2147483648 ≤ x ∧ x ≤ 2147483647)
    {e2 : Option TypeId} {a2 : Option Addr} {raw : List Act'} (hs2 : Sx w e2 Act'.cells a2 raw) (cap2 : Nat) (hf2 : ∀ a ∈ raw, a.fits) (hl2 : raw.length ≤ maxLen) (W H : Int) :
    Calls Tryz.prog 3 #[.agg #[.int .i64 W, .int .i64 H], .slice a l.length cap, .slice a2 raw.length cap2] w (retK fun v w' => v = .bool true ∧ Chg [] w w') := by
  obtain ⟨-, u0, u1⟩ := szN_eq (n := W) (m := 14) (by omega)
  obtain ⟨-, v0, v1⟩ := szN_eq (n := H) (m := 8) (by omega)
  simp only [maxLen] at hl2
  apply lyceumlaw09_ScreenRight_link
  intro K hK
  unfold lyceumlaw09_ScreenRight
  simp -dsimp (disch := first | omega | (simp only [go_sem, seval]; first | done | omega)) only [go_sem, seval]
  refine OpX.gen fun w0 hw0 => ?_
  have hc0 : Chg [] w w0 := by rw [hw0]; exact chg_a1 _ _
  have hz0 : w0.heap[w.heap.size]? = some (.cells #[.int .i64 W, .int .i64 H] 23) := by rw [hw0]; simp -dsimp (disch := first | omega | (simp only [go_sem, seval]; first | done | omega)) only [go_sem, seval]
  clear hw0
  refine OpX.call lyceumlaw09_awake_b rfl (Calls.ret (awake09_c _) ?_)
  rintro v w1 ⟨rfl, hc1⟩
  have hz1 := hc1.keep hz0 (by simp)
  simp -dsimp (disch := first | omega | (simp only [go_sem, seval]; first | done | omega)) only [go_sem, seval, hz1]
  refine OpX.call lyceumlaw09_Size_size_b rfl (Calls.ret (size09_c _ W H) ?_)
  rintro v w2 ⟨rfl, hc2⟩
  generalize szN W 14 = X at *
  generalize szN H 8 = Y at *
  simp -dsimp (disch := first | omega | (simp only [go_sem, seval]; first | done | omega)) only [go_sem, seval]
  refine OpX.call screen_New_b rfl (Calls.ret (snew2_c w2 X Y (by omega) (by omega) (by omega) (by omega)) ?_)
  rintro v w3 ⟨s, M, rfl, hN, -, hc3⟩
  have hc02 := (hc0.trans0 hc1).trans0 hc2
  have hc03 := hc02.trans0 hc3
  simp -dsimp (disch := first | omega | (simp only [go_sem, seval]; first | done | omega)) only [go_sem, seval]
  refine OpX.call lyceumlaw09_acts_b rfl (Calls.ret (acts_c (hs.chg0 hc03) cap hcap hr 150 (by omega)) ?_)
  rintro v w4 ⟨qs, ho, hlq, hfq, hc4, -⟩
  have hN4 := hN.chg0 hc4
  have hz2 := hc02.size
  have hz3 := hc3.size
  have hz4 := hc4.size
  refine Loop2.st (fun s : Nat × Value => s.2) (fun s => .int .i64 s.1) (fun q w' => q.1 ≤ raw.length ∧ q.1 ≤ 20 ∧ Ox w3.heap.size w' 34 13 Act'.cells q.2 (qs ++ raw.take q.1) ∧ SNew w2.heap.size w' s X Y M ∧ Chg [] w3 w') (fun q => raw.length - q.1) (0, v) rfl rfl ⟨by simp, by simp, by simpa using ho, hN4, hc4⟩ ?_
  rintro next ⟨k, u⟩ w5 hn ⟨hk, hk20, ho5, hN5, hc5⟩
  dsimp only at hk hk20 ho5 hN5 hc5 ⊢
  have hlen5 : (qs ++ raw.take k).length ≤ 170 := by simp; omega
  refine Join1.cut (fun v w' => v = .bool (decide (k < raw.length ∧ k < 20)) ∧ w' = w5) ?_ ?_
  · simp -dsimp (disch := first | omega | (simp only [go_sem, seval]; first | done | omega)) only [go_sem, seval]
    refine BrW.dec (fun h1 => ?_) (fun h1 => ?_)
    · simp -dsimp (disch := first | omega | (simp only [go_sem, seval]; first | done | omega)) only [go_sem, seval]
      exact congrArg Value.bool (decide_eq_decide.2 ⟨fun h => ⟨by omega, by omega⟩, fun h => by omega⟩)
    · exact ⟨congrArg Value.bool (decide_eq_false (fun h => by omega)).symm, rfl⟩
  rintro v w6 ⟨rfl, rfl⟩
  refine BrW.dec (fun h1 => ?_) (fun h1 => ?_)
  · have hk' : k < raw.length := h1.1
    obtain ⟨b, o, rfl, hbl, hag⟩ := ((hs2.chg0 hc03).chg0 hc5).get (m := 13) Act'.len (List.getElem?_eq_getElem hk')
    simp -dsimp (disch := first | omega | (simp only [go_sem, seval]; first | done | omega)) only [go_sem, seval, hag]
    refine app_x (l2 := [raw[k]]) ty25ap Act'.len Act'.ok (ho5.chg0 (chg_a1 _ _)) (Sx.built (c := (raw[k]).cells) (by simp -dsimp (disch := first | omega | (simp only [go_sem, seval]; first | done | omega)) only [go_sem, seval]; rfl) (by simp)) rfl (by simp; omega) (by omega) (by have := hc5.size; simp -dsimp (disch := first | omega | (simp only [go_sem, seval]; first | done | omega)) only [go_sem, seval]; omega) ?_
    intro v' w7 ho7 hc7 _
    have hca : Chg u.ownBlock.toList w6 w7 := ((Chg.refl _ w6).alloc _).trans hc7 (fun x hx => .inl hx)
    have e1 : (k : Int) + 1 = ((k + 1 : Nat) : Int) := by omega
    (try simp -dsimp (disch := first | omega | (simp only [go_sem, seval]; first | done | omega)) only [go_sem, seval, e1])
    refine hn (k + 1, v') _ ⟨by dsimp only; omega, by dsimp only; omega, ?_, ⟨hN5.at_.act ho5 hca, hN5.ok, hN5.w, hN5.h, hN5.gw, hN5.lo⟩, own_chg' ho5 (Nat.le_refl _) hc5 hca⟩ (by dsimp only; omega)
    dsimp only
    rw [take_next hk', ← List.append_assoc]
    exact ho7
  · obtain ⟨m, hm⟩ : ∃ m, m = qs ++ raw.take k := ⟨_, rfl⟩
    have hfm : ∀ a ∈ m, a.fits := by
      intro x hx
      rw [hm] at hx
      rcases List.mem_append.1 hx with h | h
      · exact hfq x h
      · exact hf2 x (List.mem_of_mem_take h)
    rw [← hm] at ho5 hlen5
    obtain ⟨am, cm, rfl, -, -, -, -⟩ := ho5.form
    clear hN hN4 hm
    refine Loop1.st (fun q : Nat × Scm => .int .i64 q.1) (fun q w' => q.1 ≤ m.length ∧ Ox w3.heap.size w' 34 13 Act'.cells (.slice am m.length cm) m ∧ SNew w2.heap.size w' s X Y q.2 ∧ Chg [] w2 w') (fun q => m.length - q.1) (0, M) rfl ⟨by simp, ho5, hN5, hc3.trans0 hc5⟩ ?_
    rintro next2 ⟨j, M7⟩ w7 hn2 ⟨hj, ho7, hN7, hc7⟩
    dsimp only at hj ho7 hN7 hc7 ⊢
    simp -dsimp (disch := first | omega | (simp only [go_sem, seval]; first | done | omega)) only [go_sem, seval]
    refine BrW.dec (fun h2 => ?_) (fun h2 => ?_)
    · have hj' : j < m.length := by omega
      obtain ⟨_, _, hv7, -, hsm, -, -⟩ := ho7.form
      cases hv7
      obtain ⟨b, o, rfl, hbl, hag⟩ := hsm.get (m := 13) Act'.len (List.getElem?_eq_getElem hj')
      have hfj := hfm _ (List.getElem_mem hj')
      simp -dsimp (disch := first | omega | (simp only [go_sem, seval]; first | done | omega)) only [go_sem, seval, hag]
      obtain ⟨A, hA⟩ : ∃ A, A = m[j] := ⟨_, rfl⟩
      rw [← hA] at hfj ⊢
      refine OpX.gen fun w8 hw8 => ?_
      have hc8 : Chg [] w7 w8 := by rw [hw8]; exact chg_a1 _ _
      have hb8 : w8.heap[w7.heap.size]? = some (.cells A.cells.toArray 34) := by rw [hw8]; simp -dsimp (disch := first | omega | (simp only [go_sem, seval]; first | done | omega)) only [go_sem, seval]
      clear hw8
      have hs8 : Sx w8 (some 34) Act'.cells (some ⟨w7.heap.size, 0, none⟩) [A] := Sx.built (c := A.cells) hb8 (by simp)
      have hN8 := hN7.chg0 hc8
      have hfar : ∀ b o, some (⟨w7.heap.size, 0, none⟩ : Addr) = some ⟨b, o, none⟩ → [A] ≠ [] → b ∉ s :: M7.blk := by
        intro b o hb _ hm
        cases hb
        have := hN7.at_.lt _ hm
        omega
      have hz7 := hc7.size
      have hz8 := hc8.size
      refine OpX.call screen_Screen_Do_b rfl (Calls.ret (sdo_c hN8.at_ hN8.ok hs8 hfar 1 (by simp) (by simp; exact hfj)) ?_)
      rintro v w9 hd9
      obtain ⟨M9, hN9, -, hc9⟩ := hN8.did hd9 hN8.ok.acts (by omega)
      have ho9 := (ho7.chg0 hc8).chg hc9 (fun b hb hm => hN8.at_.act_off (ho7.chg0 hc8) b hm (by simp [← hb]))
      have hc79 : Chg [] w2 w9 := (hc7.trans0 hc8).trans hc9 (fun x hx => .inr (hN8.lo x hx))
      refine OpX.call screen_Screen_Grid_b rfl (Calls.ret (sgrid_c hN9.at_ hN9.ok) ?_)
      rintro v w10 ⟨⟨nb, cp, sp, rfl, p1, p2, p3⟩, hc10⟩
      have hg := hN9.ok.cur
      have hsG : SxC w10 (some 70) (some ⟨nb, 0, none⟩) M9.S.cur.cs := ⟨fun _ => ⟨nb, 0, _, _, _, [], sp, rfl, p3, by simp [tagOk], by simp, rfl⟩⟩
      have hN10 := hN9.chg0 hc10
      have ho10 := ho9.chg0 hc10
      have hc10' := hc79.trans0 hc10
      have gw : M9.S.cur.w = X := hg.w.trans hN9.w
      have gh : M9.S.cur.h = Y := hg.h.trans hN9.h
      have nx := hN9.ok.nx
      have ny := hN9.ok.ny
      rw [hN9.w] at nx
      rw [hN9.h] at ny
      generalize M9.S.cur = G at *
      simp -dsimp (disch := first | omega | (simp only [go_sem, seval]; first | done | omega)) only [go_sem, seval, Gr.val]
      refine OpX.gen fun w11 hw11 => ?_
      have hc11 : Chg [] w10 w11 := by rw [hw11]; exact (chg_a1 _ _)
      have hb11 : w11.heap[w10.heap.size]? = some (.cells #[.int .i64 G.w, .int .i64 G.h, .slice (some ⟨nb, 0, none⟩) G.cs.length cp] 38) := by rw [hw11]; simp -dsimp (disch := first | omega | (simp only [go_sem, seval]; first | done | omega)) only [go_sem, seval]
      clear hw11
      have hN11 := hN10.chg0 hc11
      refine OpX.call screen_Screen_Cursor_b rfl (Calls.ret (scursor_c hN11.at_ hN11.ok.w0) ?_)
      rintro v w12 ⟨rfl, hc12⟩
      have hb12 := hc12.keep hb11 (by simp)
      have hc012 := hc11.trans0 hc12
      simp -dsimp (disch := first | omega | (simp only [go_sem, seval]; first | done | omega)) only [go_sem, seval, hb12]
      refine OpX.call lyceumref06_Check_b rfl (Calls.ret (rgcheck_c hg.ok hg.r (hsG.chg0 hc012) cp p1) ?_)
      rintro v w13 ⟨rfl, hc13⟩
      have hb13 := hc13.keep hb12 (by simp)
      have hc013 := hc012.trans0 hc13
      refine Join1.cut (fun v w' => v = .bool false ∧ w' = w13) ?_ ?_
      · simp -dsimp (disch := first | omega | (simp only [go_sem, seval]; first | done | omega)) only [go_sem, seval, hb13, gw, gh]
        refine BrW.dec (fun h => absurd h (by omega)) (fun _ => ?_)
        simp -dsimp (disch := first | omega | (simp only [go_sem, seval]; first | done | omega)) only [go_sem, seval]
        refine BrW.dec (fun h => absurd h (by omega)) (fun _ => ?_)
        simp -dsimp (disch := first | omega | (simp only [go_sem, seval]; first | done | omega)) only [go_sem, seval]
        refine BrW.dec (fun h => absurd h (by omega)) (fun _ => ?_)
        simp -dsimp (disch := first | omega | (simp only [go_sem, seval]; first | done | omega)) only [go_sem, seval]
        first | done | omega | exact congrArg Value.bool (decide_eq_false (by omega))
      rintro v w14 ⟨rfl, rfl⟩
      have e1 : (j : Int) + 1 = ((j + 1 : Nat) : Int) := by omega
      simp -dsimp (disch := first | omega | (simp only [go_sem, seval]; first | done | omega)) only [go_sem, seval, e1]
      exact hn2 (j + 1, M9) _ ⟨by dsimp only; omega, ho10.chg0 hc013, hN10.chg0 hc013, hc10'.trans0 hc013⟩ (by dsimp only; omega)
    · have hz7 := hc7.size
      have hwp := hN7.ok.w0
      refine OpX.call screen_Screen_Gone_b rfl (Calls.ret (sgone_c hN7.at_ hwp) ?_)
      rintro v w8 ⟨rfl, hA8, hc8⟩
      have hrows : ∀ r ∈ M7.rows, SxC w8 (some 70) r.a r.cs := fun r hr => (hN7.at_.rows r hr).chg hc8 fun b o ha hne => by simp; exact (hN7.at_.row_ne r hr b o ha hne).1
      have hown : Ox 0 w8 36 1 Rw.f M7.gv M7.rows := hN7.at_.own.chg hc8 fun b hb hm => by
        simp at hm; subst hm
        exact hN7.at_.s_own (by simp [← hb])
      have hgr : ∀ r ∈ M7.rows, right r.cs = true ∧ r.cs.length = X := by
        intro r hr
        have hm : r.cs ∈ M7.S.gone := by rw [hN7.at_.gone]; exact List.mem_map.2 ⟨r, hr, rfl⟩
        exact ⟨(hN7.ok.gr _ hm).1, hN7.gw _ hm⟩
      have hgl : M7.rows.length ≤ 500 := by
        have := hN7.ok.gl
        rw [hN7.at_.gone] at this
        simpa using this
      have hc28 : Chg [] w2 w8 := hc7.trans hc8 (by simp; exact hN7.lo s (by simp))
      obtain ⟨gl, gc, hgv, -, hsg, -, -⟩ := hown.form
      rw [hgv]
      refine Loop1.st (fun q : Nat => .int .i64 q) (fun q w' => q ≤ M7.rows.length ∧ Chg [] w8 w') (fun q => M7.rows.length - q) 0 rfl ⟨by omega, Chg.refl _ _⟩ ?_
      rintro next3 q w9 hn3 ⟨hq, hc9⟩
      simp -dsimp (disch := first | omega | (simp only [go_sem, seval]; first | done | omega)) only [go_sem, seval]
      refine BrW.dec (fun h3 => ?_) (fun h3 => ?_)
      · have hq' : q < M7.rows.length := by omega
        obtain ⟨b, o, rfl, hbl, hcell⟩ := (hsg.chg0 hc9).get1 (g := Rw.val) (fun _ => rfl) (List.getElem?_eq_getElem hq')
        have hrm := List.getElem_mem hq'
        have hsr := (hrows _ hrm).chg0 hc9
        obtain ⟨hrr, hrl⟩ := hgr _ hrm
        generalize M7.rows[q] = r at *
        simp -dsimp (disch := first | omega | (simp only [go_sem, seval]; first | done | omega)) only [go_sem, seval, hcell, Rw.val]
        refine OpX.call lyceumref05_Right_b rfl (Calls.ret (rright_c hsr r.cap (by omega) (right_fits hrr)) ?_)
        rintro v w10 ⟨rfl, hc10⟩
        have hcell10 : cellAt w10.heap[b]? (o + q) = some r.val := by rw [hc10.same b hbl (by simp)]; exact hcell
        refine Join1.cut (fun v w' => v = .bool false ∧ w' = w10) ?_ ?_
        · simp -dsimp (disch := first | omega | (simp only [go_sem, seval]; first | done | omega)) only [go_sem, seval, hcell10, Rw.val, hrr, hrl]
        rintro v w11 ⟨rfl, rfl⟩
        have e1 : (q : Int) + 1 = ((q + 1 : Nat) : Int) := by omega
        simp -dsimp (disch := first | omega | (simp only [go_sem, seval]; first | done | omega)) only [go_sem, seval, e1]
        exact hn3 (q + 1) _ ⟨by omega, hc9.trans0 hc10⟩ (by omega)
      · refine Join1.cut (fun v w' => v = .bool true ∧ Chg [s] w9 w') ?_ ?_
        · simp -dsimp (disch := first | omega | (simp only [go_sem, seval]; first | done | omega)) only [go_sem, seval]
          refine OpX.call screen_Screen_Gone_b rfl (Calls.ret (sgone_c (hA8.chg0 hc9) hwp) ?_)
          rintro v w10 ⟨rfl, -, hc10⟩
          simp -dsimp (disch := first | omega | (simp only [go_sem, seval]; first | done | omega)) only [go_sem, seval]
          exact hc10
        rintro v w10 ⟨rfl, hc10⟩
        exact hK _ _ ⟨rfl, hc02.trans0 ((hc28.trans0 hc9).trans hc10 (by simp; exact hN7.lo s (by simp)))⟩
end Go.Proofs.YtjfembffjjijaaaGreat
