/- Helpers of this claim, part 5: engine, translated functions, contracts, plain laws. -/
import Derived.Test.YtjfembffjjijaaaGreatB2
import Derived.Test.YtjfembffjjijaaaGreatB3
import Derived.Test.YtjfembffjjijaaaGreatB4
set_option linter.unusedSimpArgs false
set_option linter.unusedVariables false
namespace Go.Proofs.YtjfembffjjijaaaGreat
open Lyc Go
theorem rem64 (x : BitVec 8) : (x.toNat : Int).tmod 64 = ((x &&& 63#8).toNat : Int) := by
  have h : ∀ x : BitVec 8, x.toNat % 64 = (x &&& 63#8).toNat := by decide +kernel
  rw [show (64 : Int) = ((64 : Nat) : Int) from rfl, ← Int.ofNat_tmod, h]
theorem low_lt (x : BitVec 8) : (x &&& 63#8).toNat < 64 := by
  have h : ∀ x : BitVec 8, (x &&& 63#8).toNat < 64 := by decide +kernel
  exact h x
theorem low64 (x : BitVec 8) : ((x &&& 63#8).toNat : Int) + 64 = (((x &&& 63#8) ||| 64#8).toNat : Int) := by
  have h : ∀ x : BitVec 8, (x &&& 63#8).toNat + 64 = ((x &&& 63#8) ||| 64#8).toNat := by decide +kernel
  have := h x; omega
theorem low128 (x : BitVec 8) : ((x &&& 63#8).toNat : Int) + 128 = (((x &&& 63#8) ||| 128#8).toNat : Int) := by
  have h : ∀ x : BitVec 8, (x &&& 63#8).toNat + 128 = ((x &&& 63#8) ||| 128#8).toNat := by decide +kernel
  have := h x; omega
theorem low_low (x : BitVec 8) : ((x &&& 63#8) ||| 64#8) &&& 63#8 = x &&& 63#8 := by
  have h : ∀ x : BitVec 8, ((x &&& 63#8) ||| 64#8) &&& 63#8 = x &&& 63#8 := by decide +kernel
  exact h x
theorem tail_low (x : BitVec 8) : (((x &&& 63#8) ||| 64#8) &&& ~~~64#8) ||| 128#8 = (x &&& 63#8) ||| 128#8 := by
  have h : ∀ x : BitVec 8, (((x &&& 63#8) ||| 64#8) &&& ~~~64#8) ||| 128#8 = (x &&& 63#8) ||| 128#8 := by decide +kernel
  exact h x
theorem none_c (w : World) (r : Int) : Calls Tryz.prog 118 #[.int .i32 r] w (retK fun v w' => v = .bool (decide (r < 0 ∨ 1114111 < r ∨ (55296 ≤ r ∧ r ≤ 57343))) ∧ w' = w) := by
  apply lyceumref04_none_link
  intro K hK
  unfold lyceumref04_none
  refine Join1.inl ?_
  simp -dsimp (disch := first | omega | (simp only [go_sem, seval]; first | done | omega)) only [go_sem, seval]
  refine BrW.dec (fun h1 => ?_) (fun h1 => ?_)
  · exact hK _ _ ⟨by simp [h1], rfl⟩
  · simp -dsimp (disch := first | omega | (simp only [go_sem, seval]; first | done | omega)) only [go_sem, seval]
    refine BrW.dec (fun h2 => ?_) (fun h2 => ?_)
    · exact hK _ _ ⟨by simp [h2], rfl⟩
    · simp -dsimp (disch := first | omega | (simp only [go_sem, seval]; first | done | omega)) only [go_sem, seval]
      refine BrW.dec (fun h3 => ?_) (fun h3 => ?_)
      · simp -dsimp (disch := first | omega | (simp only [go_sem, seval]; first | done | omega)) only [go_sem, seval]
        refine hK _ _ ⟨?_, rfl⟩
        congr 1
        simp [h1, h2, h3]
      · simp -dsimp (disch := first | omega | (simp only [go_sem, seval]; first | done | omega)) only [go_sem, seval]
        refine hK _ _ ⟨?_, rfl⟩
        congr 1
        simp [h1, h2, h3]
theorem within_c (w : World) (r a b : Int) (h1 : -2147483648 ≤ r) (h2 : r ≤ 2147483647) : Calls Tryz.prog 119 #[.int .i32 r, .int .i64 a, .int .i64 b] w (retK fun v w' => v = .bool (decide (a ≤ r ∧ r ≤ b)) ∧ w' = w) := by
  apply lyceumref04_within_link
  intro K hK
  unfold lyceumref04_within
  refine Join1.inl ?_
  simp -dsimp (disch := first | omega | (simp only [go_sem, seval]; first | done | omega)) only [go_sem, seval]
  refine BrW.dec (fun h3 => ?_) (fun h3 => ?_)
  · simp -dsimp (disch := first | omega | (simp only [go_sem, seval]; first | done | omega)) only [go_sem, seval]
    exact hK _ _ ⟨by simp [h3], rfl⟩
  · simp -dsimp (disch := first | omega | (simp only [go_sem, seval]; first | done | omega)) only [go_sem, seval]
    exact hK _ _ ⟨by simp [h3], rfl⟩
def w0 (r : Int) : Prop := (r < 0 ∨ 1114111 < r ∨ (55296 ≤ r ∧ r ≤ 57343)) ∨ r < 32 ∨ (127 ≤ r ∧ r ≤ 159) ∨ (768 ≤ r ∧ r ≤ 879) ∨ (8203 ≤ r ∧ r ≤ 8207) ∨ (65024 ≤ r ∧ r ≤ 65039)
def w2 (r : Int) : Prop := (4352 ≤ r ∧ r ≤ 4447) ∨ (11904 ≤ r ∧ r ≤ 12350) ∨ (12353 ≤ r ∧ r ≤ 42191) ∨ (44032 ≤ r ∧ r ≤ 55203) ∨ (63744 ≤ r ∧ r ≤ 64255) ∨ (65072 ≤ r ∧ r ≤ 65135) ∨ (65281 ≤ r ∧ r ≤ 65376) ∨ (65504 ≤ r ∧ r ≤ 65510) ∨ (127744 ≤ r ∧ r ≤ 128591) ∨ (129280 ≤ r ∧ r ≤ 129535) ∨ (131072 ≤ r ∧ r ≤ 262141)
instance (r : Int) : Decidable (w0 r) := by unfold w0; infer_instance
instance (r : Int) : Decidable (w2 r) := by unfold w2; infer_instance
theorem width_w0 {r : Int} (h : w0 r) : width r = 0 := by
  unfold w0 at h
  simp only [width, spans, spanW]
  repeat' split
  all_goals first | rfl | omega
theorem width_w2 {r : Int} (h0 : ¬ w0 r) (h : w2 r) : width r = 2 := by
  unfold w0 at h0
  unfold w2 at h
  simp only [width, spans, spanW]
  repeat' split
  all_goals first | rfl | omega
theorem width_w1 {r : Int} (h0 : ¬ w0 r) (h : ¬ w2 r) : width r = 1 := by
  unfold w0 at h0
  unfold w2 at h
  simp only [width, spans, spanW]
  repeat' split
  all_goals first | rfl | omega
theorem or_step {w w' : World} {p q : Prop} [Decidable p] [Decidable q] {k : Value → World → Prop} {M : Prop} (ht : p → k (.bool true) w') (hf : ¬ p → M) : BrW (.bool (decide p)) (k (.bool true) w') M () := BrW.dec ht hf
theorem rwidth_c (w : World) (r : Int) (h1 : -2147483648 ≤ r) (h2 : r ≤ 2147483647) : Calls Tryz.prog 80 #[.int .i32 r] w (retK fun v w' => v = .int .i64 (width r) ∧ w' = w) := by
  apply lyceumref04_Width_link
  intro K hK
  unfold lyceumref04_Width
  refine Join1.cut (fun v w' => v = .bool (decide (w0 r)) ∧ w' = w) ?_ ?_
  · refine OpX.call lyceumref04_none_b rfl (Calls.ret (none_c w r) ?_)
    rintro v w1 ⟨rfl, rfl⟩
    refine BrW.dec (fun h => ⟨by simp [w0, h], rfl⟩) (fun h3 => ?_)
    simp -dsimp (disch := first | omega | (simp only [go_sem, seval]; first | done | omega)) only [go_sem, seval]
    refine BrW.dec (fun h => ⟨by simp [w0, h], rfl⟩) (fun h4 => ?_)
    refine OpX.call lyceumref04_within_b rfl (Calls.ret (within_c _ r 127 159 h1 h2) ?_)
    rintro v w1 ⟨rfl, rfl⟩
    refine BrW.dec (fun h => ⟨by simp [w0, h], rfl⟩) (fun h5 => ?_)
    refine OpX.call lyceumref04_within_b rfl (Calls.ret (within_c _ r 768 879 h1 h2) ?_)
    rintro v w1 ⟨rfl, rfl⟩
    refine BrW.dec (fun h => ⟨by simp [w0, h], rfl⟩) (fun h6 => ?_)
    refine OpX.call lyceumref04_within_b rfl (Calls.ret (within_c _ r 8203 8207 h1 h2) ?_)
    rintro v w1 ⟨rfl, rfl⟩
    refine BrW.dec (fun h => ⟨by simp [w0, h], rfl⟩) (fun h7 => ?_)
    refine OpX.call lyceumref04_within_b rfl (Calls.ret (within_c _ r 65024 65039 h1 h2) ?_)
    rintro v w1 ⟨rfl, rfl⟩
    refine ⟨?_, rfl⟩
    congr 1
    unfold w0
    simp only [h3, h4, h5, h6, h7, false_or]
  · rintro v w1 ⟨rfl, rfl⟩
    refine BrW.dec (fun h => hK _ _ ⟨by rw [width_w0 h], rfl⟩) (fun h0 => ?_)
    refine Join1.cut (fun v w' => v = .bool (decide (w2 r)) ∧ w' = w1) ?_ ?_
    · refine OpX.call lyceumref04_within_b rfl (Calls.ret (within_c _ r 4352 4447 h1 h2) ?_)
      rintro v w1 ⟨rfl, rfl⟩
      refine BrW.dec (fun h => ⟨by simp [w2, h], rfl⟩) (fun h3 => ?_)
      refine OpX.call lyceumref04_within_b rfl (Calls.ret (within_c _ r 11904 12350 h1 h2) ?_)
      rintro v w1 ⟨rfl, rfl⟩
      refine BrW.dec (fun h => ⟨by simp [w2, h], rfl⟩) (fun h4 => ?_)
      refine OpX.call lyceumref04_within_b rfl (Calls.ret (within_c _ r 12353 42191 h1 h2) ?_)
      rintro v w1 ⟨rfl, rfl⟩
      refine BrW.dec (fun h => ⟨by simp [w2, h], rfl⟩) (fun h5 => ?_)
      refine OpX.call lyceumref04_within_b rfl (Calls.ret (within_c _ r 44032 55203 h1 h2) ?_)
      rintro v w1 ⟨rfl, rfl⟩
      refine BrW.dec (fun h => ⟨by simp [w2, h], rfl⟩) (fun h6 => ?_)
      refine OpX.call lyceumref04_within_b rfl (Calls.ret (within_c _ r 63744 64255 h1 h2) ?_)
      rintro v w1 ⟨rfl, rfl⟩
      refine BrW.dec (fun h => ⟨by simp [w2, h], rfl⟩) (fun h7 => ?_)
      refine OpX.call lyceumref04_within_b rfl (Calls.ret (within_c _ r 65072 65135 h1 h2) ?_)
      rintro v w1 ⟨rfl, rfl⟩
      refine BrW.dec (fun h => ⟨by simp [w2, h], rfl⟩) (fun h8 => ?_)
      refine OpX.call lyceumref04_within_b rfl (Calls.ret (within_c _ r 65281 65376 h1 h2) ?_)
      rintro v w1 ⟨rfl, rfl⟩
      refine BrW.dec (fun h => ⟨by simp [w2, h], rfl⟩) (fun h9 => ?_)
      refine OpX.call lyceumref04_within_b rfl (Calls.ret (within_c _ r 65504 65510 h1 h2) ?_)
      rintro v w1 ⟨rfl, rfl⟩
      refine BrW.dec (fun h => ⟨by simp [w2, h], rfl⟩) (fun h10 => ?_)
      refine OpX.call lyceumref04_within_b rfl (Calls.ret (within_c _ r 127744 128591 h1 h2) ?_)
      rintro v w1 ⟨rfl, rfl⟩
      refine BrW.dec (fun h => ⟨by simp [w2, h], rfl⟩) (fun h11 => ?_)
      refine OpX.call lyceumref04_within_b rfl (Calls.ret (within_c _ r 129280 129535 h1 h2) ?_)
      rintro v w1 ⟨rfl, rfl⟩
      refine BrW.dec (fun h => ⟨by simp [w2, h], rfl⟩) (fun h12 => ?_)
      refine OpX.call lyceumref04_within_b rfl (Calls.ret (within_c _ r 131072 262141 h1 h2) ?_)
      rintro v w1 ⟨rfl, rfl⟩
      refine ⟨?_, rfl⟩
      congr 1
      unfold w2
      simp only [h3, h4, h5, h6, h7, h8, h9, h10, h11, h12, false_or]
    · rintro v w1 ⟨rfl, rfl⟩
      refine BrW.dec (fun h => hK _ _ ⟨by rw [width_w2 h0 h], rfl⟩) (fun h => hK _ _ ⟨by rw [width_w1 h0 h], rfl⟩)
theorem rtail_c (w : World) (c : Cel) : Calls Tryz.prog 81 #[c.val] w (retK fun v w' => v = (⟨0, c.fg, c.bg, (c.a &&& 63#8) ||| 128#8⟩ : Cel).val ∧ Chg [] w w') := by
  have := low_lt c.a
  apply lyceumref05_Tail_link
  intro K hK
  unfold lyceumref05_Tail
  simp -dsimp (disch := first | omega | (simp only [go_sem, seval]; first | done | omega)) only [go_sem, seval, rem64, low128]
  exact hK _ _ ⟨rfl, ((Chg.refl [] w).alloc _).alloc _⟩
theorem rsame_c {w : World} {e e' : Option TypeId} {a a' : Option Addr} {l l' : List Cel} (hs : SxC w e a l) (hs' : SxC w e' a' l') (cap cap' : Nat) (hl : l.length ≤ 1000000000) : Calls Tryz.prog 57 #[.slice a l.length cap, .slice a' l'.length cap'] w (retK fun v w' => v = .bool (decide (l = l')) ∧ Chg [] w w') := by
  apply lyceumref05_Same_link
  intro K hK
  unfold lyceumref05_Same
  simp -dsimp (disch := first | omega | (simp only [go_sem, seval]; first | done | omega)) only [go_sem, seval]
  refine BrW.dec (fun h1 => ?_) (fun h1 => ?_)
  · refine hK _ _ ⟨?_, Chg.refl _ _⟩
    have : l ≠ l' := by rintro rfl; exact h1 rfl
    simp [this]
  · have hlen : l.length = l'.length := by omega
    refine Loop1.st (fun k : Nat => .int .i64 k) (fun k w' => Chg [] w w' ∧ k ≤ l.length ∧ l.take k = l'.take k) (fun k => l.length - k) 0 rfl ⟨Chg.refl _ _, by omega, rfl⟩ ?_
    rintro next k w' hn ⟨hc, hk, he⟩
    simp -dsimp (disch := first | omega | (simp only [go_sem, seval]; first | done | omega)) only [go_sem, seval]
    refine BrW.dec (fun h2 => ?_) (fun h2 => ?_)
    · have hk1 : k < l.length := by omega
      have hk2 : k < l'.length := by omega
      obtain ⟨b, o, rfl, hb, h3, -⟩ := SxC.cel (hs.chg0 hc) (List.getElem?_eq_getElem hk1)
      obtain ⟨b', o', rfl, hb', h3', -⟩ := SxC.cel (hs'.chg0 hc) (List.getElem?_eq_getElem hk2)
      simp -dsimp (disch := first | omega | (simp only [go_sem, seval]; first | done | omega)) only [go_sem, seval, h3, h3']
      refine BrW.dec (fun h4 => ?_) (fun h4 => ?_)
      · refine hK _ _ ⟨?_, hc.drew⟩
        have : l ≠ l' := by rintro rfl; exact h4 rfl
        simp [this]
      · simp -dsimp (disch := first | omega | (simp only [go_sem, seval]; first | done | omega)) only [go_sem, seval]
        refine hn (k + 1) _ ⟨hc.drew, by omega, ?_⟩ (by omega)
        rw [take_next hk1, take_next hk2, he]
        rw [Decidable.not_not.1 h4]
    · have hk1 : k = l.length := by omega
      subst hk1
      refine hK _ _ ⟨?_, hc⟩
      rw [List.take_length, hlen, List.take_length] at he
      simp [he]
end Go.Proofs.YtjfembffjjijaaaGreat
namespace Go.Proofs.YtjfembffjjijaaaGreat
open Lyc Go
theorem tail_eq (c : Cel) : (⟨0, c.fg, c.bg, (c.a &&& 63#8) ||| 128#8⟩ : Cel) = c.tailOf := by
  have h : ∀ a : BitVec 8, (a &&& 63#8) ||| 128#8 = (a &&& ~~~64#8) ||| 128#8 := by decide
  simp only [Cel.tailOf, h]
theorem rwide_c (w : World) (c : Cel) : Calls Tryz.prog 45 #[c.val] w (retK fun v w' => v = .bool c.wide ∧ Chg [] w w') := by
  have h : ∀ a : BitVec 8, decide (a.toNat / 64 % 2 = 1) = decide (¬ a &&& 64#8 = 0#8) := by decide
  have hb := c.a.isLt
  apply lyceumref05_wide_link
  intro K hK
  unfold lyceumref05_wide
  simp -dsimp (disch := first | omega | (simp only [go_sem, seval]; first | done | omega)) only [go_sem, seval]
  refine hK _ _ ⟨?_, chg_a1 _ _⟩
  unfold Cel.wide
  rw [← h c.a]
  congr 1
  apply decide_eq_decide.2
  have e1 : (c.a.toNat : Int).tdiv 64 = ((c.a.toNat / 64 : Nat) : Int) := by rw [Int.tdiv_eq_ediv_of_nonneg (by omega)]; rfl
  rw [e1, wrap_u8 _ (by omega) (by omega)]
  have e2 : ((c.a.toNat / 64 : Nat) : Int).tmod 2 = ((c.a.toNat / 64 % 2 : Nat) : Int) := by rw [Int.tmod_eq_emod_of_nonneg (by omega)]; rfl
  rw [e2]
  omega
theorem rtailq_c (w : World) (c : Cel) : Calls Tryz.prog 47 #[c.val] w (retK fun v w' => v = .bool c.tail ∧ Chg [] w w') := by
  have h : ∀ a : BitVec 8, decide (a.toNat / 128 = 1) = decide (¬ a &&& 128#8 = 0#8) := by decide
  have hb := c.a.isLt
  apply lyceumref05_tail_link
  intro K hK
  unfold lyceumref05_tail
  simp -dsimp (disch := first | omega | (simp only [go_sem, seval]; first | done | omega)) only [go_sem, seval]
  refine hK _ _ ⟨?_, chg_a1 _ _⟩
  unfold Cel.tail
  rw [← h c.a]
  congr 1
  apply decide_eq_decide.2
  have e1 : (c.a.toNat : Int).tdiv 128 = ((c.a.toNat / 128 : Nat) : Int) := by rw [Int.tdiv_eq_ediv_of_nonneg (by omega)]; rfl
  rw [e1, wrap_u8 _ (by omega) (by omega)]
  omega
theorem rcheck_c (w : World) (c : Cel) (hc : c.fits) : Calls Tryz.prog 44 #[c.val] w (retK fun v w' => v = .bool c.check ∧ Chg [] w w') := by
  apply lyceumref05_Check_link
  intro K hK
  unfold lyceumref05_Check
  simp -dsimp (disch := first | omega | (simp only [go_sem, seval]; first | done | omega)) only [go_sem, seval]
  have hc0 := chg_a1 w (.cells c.cells.toArray 70)
  have hb0 : (w.alloc (.cells c.cells.toArray 70)).heap[w.heap.size]? = some (.cells c.cells.toArray 70) := by simp -dsimp (disch := first | omega | (simp only [go_sem, seval]; first | done | omega)) only [go_sem, seval]
  refine OpX.call lyceumref04_Width_b rfl (Calls.ret (rwidth_c _ c.r hc.1 hc.2) ?_)
  rintro v w1 ⟨rfl, rfl⟩
  simp -dsimp (disch := first | omega | (simp only [go_sem, seval]; first | done | omega)) only [go_sem, seval]
  refine OpX.call lyceumref05_tail_b rfl (Calls.ret (rtailq_c _ c) ?_)
  rintro v w2 ⟨rfl, hc2⟩
  have hb2 := hc2.keep hb0 (by simp)
  have hc02 := hc0.trans0 hc2
  unfold Cel.check at hK
  refine BrW.by (fun h => ?_) (fun h => ?_)
  · rw [if_pos h] at hK
    refine Join1.inl ?_
    simp -dsimp (disch := first | omega | (simp only [go_sem, seval]; first | done | omega)) only [go_sem, seval, hb2]
    refine OpX.call lyceumref05_wide_b rfl (Calls.ret (rwide_c _ c) ?_)
    rintro v w3 ⟨rfl, hc3⟩
    have hb3 := hc3.keep hb2 (by simp)
    simp -dsimp (disch := first | omega | (simp only [go_sem, seval]; first | done | omega)) only [go_sem, seval]
    refine BrW.by (fun h => ?_) (fun h => ?_)
    · simp -dsimp (disch := first | omega | (simp only [go_sem, seval]; first | done | omega)) only [go_sem, seval, hb3]
      refine hK _ _ ⟨?_, hc02.trans0 hc3⟩
      simp at h; simp [h]
    · refine hK _ _ ⟨?_, hc02.trans0 hc3⟩
      simp at h; simp [h]
  · rw [if_neg (by simp [h])] at hK
    refine Join1.inl ?_
    simp -dsimp (disch := first | omega | (simp only [go_sem, seval]; first | done | omega)) only [go_sem, seval]
    refine BrW.dec (fun h1 => ?_) (fun h1 => ?_)
    · simp -dsimp (disch := first | omega | (simp only [go_sem, seval]; first | done | omega)) only [go_sem, seval, hb2]
      refine OpX.call lyceumref05_wide_b rfl (Calls.ret (rwide_c _ c) ?_)
      rintro v w3 ⟨rfl, hc3⟩
      have hb3 := hc3.keep hb2 (by simp)
      simp -dsimp (disch := first | omega | (simp only [go_sem, seval]; first | done | omega)) only [go_sem, seval]
      refine BrW.by (fun h2 => ?_) (fun h2 => ?_)
      · simp at h2
        refine hK _ _ ⟨?_, hc02.trans0 hc3⟩
        simp [h2, h1]
      · simp at h2
        simp -dsimp (disch := first | omega | (simp only [go_sem, seval]; first | done | omega)) only [go_sem, seval]
        have h3 : ¬ width c.r = 2 := by omega
        refine BrW.dec (fun h4 => absurd h4 h3) (fun h4 => ?_)
        refine hK _ _ ⟨?_, hc02.trans0 hc3⟩
        simp [h2, h3]
    · simp -dsimp (disch := first | omega | (simp only [go_sem, seval]; first | done | omega)) only [go_sem, seval]
      refine BrW.dec (fun h4 => ?_) (fun h4 => ?_)
      · simp -dsimp (disch := first | omega | (simp only [go_sem, seval]; first | done | omega)) only [go_sem, seval, hb2]
        refine OpX.call lyceumref05_wide_b rfl (Calls.ret (rwide_c _ c) ?_)
        rintro v w3 ⟨rfl, hc3⟩
        refine hK _ _ ⟨?_, hc02.trans0 hc3⟩
        cases hw : c.wide <;> simp [h1, h4]
      · refine hK _ _ ⟨?_, hc02⟩
        cases hw : c.wide <;> simp [h1, h4]
theorem rpair_c {w : World} {e : Option TypeId} {a : Option Addr} {l : List Cel} (hs : SxC w e a l) (cap : Nat) (i : Int) (h1 : -1 ≤ i) (h2 : i ≤ l.length) (hl : l.length ≤ 1000000) (hf : ∀ c ∈ l, c.fits) : Calls Tryz.prog 46 #[.slice a l.length cap, .int .i64 i] w
    (retK fun v w' => v = .bool (decide (0 ≤ i) && pairAt l i.toNat) ∧ Chg [] w w') := by
  apply lyceumref05_pair_link
  intro K hK
  unfold lyceumref05_pair
  refine Join1.cut (fun v w' => v = .bool (decide (0 ≤ i) && pairAt l i.toNat) ∧ Chg [] w w') ?_ ?_
  · simp -dsimp (disch := first | omega | (simp only [go_sem, seval]; first | done | omega)) only [go_sem, seval]
    refine BrW.dec (fun h3 => ?_) (fun h3 => ⟨by simp [h3], (Chg.refl _ _).drew⟩)
    obtain ⟨k, rfl⟩ := Int.eq_ofNat_of_zero_le h3
    simp -dsimp (disch := first | omega | (simp only [go_sem, seval]; first | done | omega)) only [go_sem, seval]
    refine BrW.dec (fun h4 => ?_) (fun h4 => ⟨by have := @pairAt_lt l k; simp; cases hp : pairAt l k <;> simp_all; omega, (Chg.refl _ _).drew⟩)
    have hk : k < l.length := by omega
    have hk1 : k + 1 < l.length := by omega
    have hpa : pairAt l k = pairOK l[k] l[k + 1] := by
      unfold pairAt; rw [List.getElem?_eq_getElem hk, List.getElem?_eq_getElem hk1]
    have hgo : (decide (0 ≤ (k : Int)) && pairAt l (k : Int).toNat) = pairOK l[k] l[k + 1] := by simp [hpa]
    rw [hgo]
    obtain ⟨b, o, rfl, hb, m1, -⟩ := SxC.cel hs (List.getElem?_eq_getElem hk)
    simp -dsimp (disch := first | omega | (simp only [go_sem, seval]; first | done | omega)) only [go_sem, seval, m1]
    refine OpX.call lyceumref05_Check_b rfl (Calls.ret (rcheck_c _ l[k] (hf _ (List.getElem_mem hk))) ?_)
    rintro v w1 ⟨rfl, hc1⟩
    refine BrW.by (fun h5 => ?_) (fun h5 => ⟨by simp [pairOK, h5], hc1.low_drew⟩)
    obtain ⟨b', o', hbo, hb', m1, -⟩ := SxC.cel ((hs.chg0 (Chg.refl _ _).drew).chg0 hc1) (List.getElem?_eq_getElem hk)
    cases hbo
    simp -dsimp (disch := first | omega | (simp only [go_sem, seval]; first | done | omega)) only [go_sem, seval, m1]
    refine OpX.call lyceumref05_wide_b rfl (Calls.ret (rwide_c _ l[k]) ?_)
    rintro v w2 ⟨rfl, hc2⟩
    have hc12 := hc1.trans0 hc2
    refine BrW.by (fun h6 => ?_) (fun h6 => ⟨by simp [pairOK, h6], hc12.low_drew⟩)
    obtain ⟨b', o', hbo, hb', m1, -⟩ := SxC.cel ((hs.chg0 (Chg.refl _ _).drew).chg0 hc12) (List.getElem?_eq_getElem hk)
    cases hbo
    obtain ⟨b', o', hbo, hb', m2, -⟩ := SxC.cel ((hs.chg0 (Chg.refl _ _).drew).chg0 hc12) (List.getElem?_eq_getElem hk1)
    cases hbo
    have ek : (k : Int) + 1 = ((k + 1 : Nat) : Int) := by simp
    simp -dsimp (disch := first | omega | (simp only [go_sem, seval]; first | done | omega)) only [go_sem, seval, m1, m2, ek]
    refine OpX.call lyceumref05_Tail_b rfl (Calls.ret (rtail_c _ l[k]) ?_)
    rintro v w3 ⟨rfl, hc3⟩
    rw [tail_eq]
    obtain ⟨b', o', hbo, hb', m2, -⟩ := SxC.cel (((hs.chg0 (Chg.refl _ _).drew).chg0 hc12).chg0 hc3) (List.getElem?_eq_getElem hk1)
    cases hbo
    simp -dsimp (disch := first | omega | (simp only [go_sem, seval]; first | done | omega)) only [go_sem, seval, m2]
    refine ⟨by simp [pairOK, h5, h6], (hc12.trans0 hc3).low_drew⟩
  · rintro v w1 ⟨rfl, hc⟩
    exact hK _ _ ⟨rfl, hc⟩
theorem near_eq (l : List Cel) (i : Nat) : near l i = (pairAt l i || (decide (0 ≤ (i : Int) - 1) && pairAt l ((i : Int) - 1).toNat)) := by
  cases i with
  | zero => simp [near]
  | succ i =>
    have e1 : (((i + 1 : Nat) : Int) - 1).toNat = i := by omega
    have e2 : decide (0 ≤ ((i + 1 : Nat) : Int) - 1) = true := by apply decide_eq_true; omega
    rw [e1, e2]; simp [near]
theorem single_eq (c : Cel) : c.single = (c.check && (!c.wide && !c.tail)) := by
  have h : ∀ a : BitVec 8, decide (a &&& 192#8 = 0#8) = (!decide (¬ a &&& 64#8 = 0#8) && !decide (¬ a &&& 128#8 = 0#8)) := by decide
  unfold Cel.single Cel.plain Cel.wide Cel.tail
  rw [h, Bool.and_comm]
theorem prev_eq (l : List Cel) (i : Nat) : (decide (0 ≤ (i : Int) - 1) && pairAt l ((i : Int) - 1).toNat) = prev l i := by
  cases i with
  | zero => simp [prev]
  | succ i =>
    have e1 : (((i + 1 : Nat) : Int) - 1).toNat = i := by omega
    have e2 : decide (0 ≤ ((i + 1 : Nat) : Int) - 1) = true := by apply decide_eq_true; omega
    rw [e1, e2]; simp [prev]
theorem rright_c {w : World} {e : Option TypeId} {a : Option Addr} {l : List Cel} (hs : SxC w e a l) (cap : Nat) (hl : l.length ≤ 100000) (hf : ∀ c ∈ l, c.fits) : Calls Tryz.prog 17 #[.slice a l.length cap] w
    (retK fun v w' => v = .bool (right l) ∧ Chg [] w w') := by
  apply lyceumref05_Right_link
  intro K hK
  unfold lyceumref05_Right
  refine Loop1.st (fun k : Nat => .int .i64 k) (fun k w' => Chg [] w w' ∧ k ≤ l.length ∧ ∀ i c, i < k → l[i]? = some c → near l i = true ∨ c.single = true) (fun k => l.length - k) 0 rfl ⟨Chg.refl _ _, by omega, by simp⟩ ?_
  rintro next k w1 hn ⟨hc1, hk1, hi1⟩
  simp -dsimp (disch := first | omega | (simp only [go_sem, seval]; first | done | omega)) only [go_sem, seval]
  refine BrW.dec (fun h1 => ?_) (fun h1 => ?_)
  · have hk : k < l.length := by omega
    have hs1 := hs.chg0 hc1
    have hgk := List.getElem?_eq_getElem hk
    have hiff := ok_iff hgk
    refine Join1.cut (fun v w' => v = .bool (!decide (near l k = true ∨ l[k].single = true)) ∧ Chg [] w1 w') ?_ ?_
    · obtain ⟨b, o, rfl, hb, m1, -⟩ := SxC.cel hs1 hgk
      simp -dsimp (disch := first | omega | (simp only [go_sem, seval]; first | done | omega)) only [go_sem, seval, m1]
      refine OpX.call lyceumref05_Check_b rfl (Calls.ret (rcheck_c _ l[k] (hf _ (List.getElem_mem hk))) ?_)
      rintro v2 w2 ⟨rfl, hc2⟩
      simp -dsimp (disch := first | omega | (simp only [go_sem, seval]; first | done | omega)) only [go_sem, seval]
      refine BrW.by (fun h2 => ⟨?_, hc2⟩) (fun h2 => ?_)
      · simp at h2; simp [hiff, h2]
      · simp at h2
        obtain ⟨b', o', hbo, hb', m2, -⟩ := SxC.cel (hs1.chg0 hc2) hgk
        cases hbo
        simp -dsimp (disch := first | omega | (simp only [go_sem, seval]; first | done | omega)) only [go_sem, seval, m2]
        refine OpX.call lyceumref05_wide_b rfl (Calls.ret (rwide_c _ l[k]) ?_)
        rintro v3 w3 ⟨rfl, hc3⟩
        have hc13 := hc2.trans0 hc3
        obtain ⟨b', o', hbo, hb', m3, -⟩ := SxC.cel (hs1.chg0 hc13) hgk
        cases hbo
        refine BrW.by (fun h3 => ?_) (fun h3 => ?_)
        · refine OpX.call lyceumref05_pair_b rfl (Calls.ret (rpair_c (hs1.chg0 hc13) cap (k : Int) (by omega) (by omega) (by omega) hf) ?_)
          rintro v4 w4 ⟨rfl, hc4⟩
          have hc14 := hc13.trans0 hc4
          have hp0 : (decide (0 ≤ (k : Int)) && pairAt l (k : Int).toNat) = pairAt l k := by simp
          rw [hp0]
          simp -dsimp (disch := first | omega | (simp only [go_sem, seval]; first | done | omega)) only [go_sem, seval]
          refine BrW.by (fun h4 => ⟨?_, hc14⟩) (fun h4 => ?_)
          · simp at h4; simp [hiff, h3, h4]
          · simp at h4
            obtain ⟨b', o', hbo, hb', m4, -⟩ := SxC.cel (hs1.chg0 hc14) hgk
            cases hbo
            simp -dsimp (disch := first | omega | (simp only [go_sem, seval]; first | done | omega)) only [go_sem, seval, m4]
            refine OpX.call lyceumref05_tail_b rfl (Calls.ret (rtailq_c _ l[k]) ?_)
            rintro v5 w5 ⟨rfl, hc5⟩
            have hc15 := hc14.trans0 hc5
            refine BrW.by (fun h5 => ?_) (fun h5 => ?_)
            · simp -dsimp (disch := first | omega | (simp only [go_sem, seval]; first | done | omega)) only [go_sem, seval]
              refine OpX.call lyceumref05_pair_b rfl (Calls.ret (rpair_c (hs1.chg0 hc15) cap ((k : Int) - 1) (by omega) (by omega) (by omega) hf) ?_)
              rintro v6 w6 ⟨rfl, hc6⟩
              rw [prev_eq]
              simp -dsimp (disch := first | omega | (simp only [go_sem, seval]; first | done | omega)) only [go_sem, seval]
              refine ⟨?_, hc15.trans0 hc6⟩
              simp [hiff, h2, h4, h5]
            · refine ⟨?_, hc15⟩
              simp [hiff, h2, h4, h5]
        · simp -dsimp (disch := first | omega | (simp only [go_sem, seval]; first | done | omega)) only [go_sem, seval, m3]
          refine OpX.call lyceumref05_tail_b rfl (Calls.ret (rtailq_c _ l[k]) ?_)
          rintro v5 w5 ⟨rfl, hc5⟩
          have hc15 := hc13.trans0 hc5
          refine BrW.by (fun h5 => ?_) (fun h5 => ?_)
          · simp -dsimp (disch := first | omega | (simp only [go_sem, seval]; first | done | omega)) only [go_sem, seval]
            refine OpX.call lyceumref05_pair_b rfl (Calls.ret (rpair_c (hs1.chg0 hc15) cap ((k : Int) - 1) (by omega) (by omega) (by omega) hf) ?_)
            rintro v6 w6 ⟨rfl, hc6⟩
            rw [prev_eq]
            simp -dsimp (disch := first | omega | (simp only [go_sem, seval]; first | done | omega)) only [go_sem, seval]
            refine ⟨?_, hc15.trans0 hc6⟩
            simp [hiff, h2, h3, h5]
          · refine ⟨?_, hc15⟩
            simp [hiff, h2, h3, h5]
    · rintro v w2 ⟨rfl, hc2⟩
      refine BrW.by (fun h2 => ?_) (fun h2 => ?_)
      · have hnr : right l = false := by
          cases hr : right l
          · rfl
          · simp at h2
            rcases right_get l hr k _ hgk with h | h
            · rw [h] at h2; simp at h2
            · rw [h] at h2; simp at h2
        exact hK _ _ ⟨by rw [hnr], hc1.trans0 hc2⟩
      · simp -dsimp (disch := first | omega | (simp only [go_sem, seval]; first | done | omega)) only [go_sem, seval]
        refine hn (k + 1) _ ⟨hc1.trans0 hc2, by omega, ?_⟩ (by omega)
        intro i c hi hic
        by_cases he : i = k
        · subst he
          rw [hgk] at hic; cases hic
          rw [Bool.not_eq_false'] at h2
          exact of_decide_eq_true h2
        · exact hi1 i c (by omega) hic
  · have hk : k = l.length := by omega
    refine hK _ _ ⟨?_, hc1⟩
    rw [right_of_get l fun i c hic => hi1 i c (by rw [hk]; exact (List.getElem?_eq_some_iff.1 hic).1) hic]
end Go.Proofs.YtjfembffjjijaaaGreat
namespace Go.Proofs.YtjfembffjjijaaaGreat
open Lyc Go
theorem rsize_c (w : World) (x y : Int) : Calls Tryz.prog 42 #[.int .i64 x, .int .i64 y] w (retK fun v w' => v = .bool (fitsG x y) ∧ w' = w) := by
  apply lyceumref06_size_link
  intro K hK
  unfold lyceumref06_size
  refine Join1.inl ?_
  simp -dsimp (disch := first | omega | (simp only [go_sem, seval]; first | done | omega)) only [go_sem, seval]
  refine BrW.dec (fun h1 => ?_) (fun h1 => ?_)
  · simp -dsimp (disch := first | omega | (simp only [go_sem, seval]; first | done | omega)) only [go_sem, seval]
    refine BrW.dec (fun h2 => ?_) (fun h2 => ?_)
    · simp -dsimp (disch := first | omega | (simp only [go_sem, seval]; first | done | omega)) only [go_sem, seval]
      refine BrW.dec (fun h3 => ?_) (fun h3 => ?_)
      · simp -dsimp (disch := first | omega | (simp only [go_sem, seval]; first | done | omega)) only [go_sem, seval]
        refine hK _ _ ⟨?_, rfl⟩
        simp [fitsG, h1, h2, h3]
      · refine hK _ _ ⟨?_, rfl⟩
        simp [fitsG, h3]
    · refine hK _ _ ⟨?_, rfl⟩
      simp [fitsG, h2]
  · refine hK _ _ ⟨?_, rfl⟩
    simp [fitsG, h1]
theorem GAt.of_ox {base : Nat} {w : World} {v : Value} {W H : Nat} {cs : List Cel} (h : Ox base w 70 4 Cel.cells v cs) (hn : cs ≠ []) : GAt base w (.agg #[.int .i64 W, .int .i64 H, v]) ⟨W, H, cs⟩ := by
  obtain ⟨nb, cap, sp, rfl, h1, h2, h3⟩ := h.blk hn
  exact ⟨nb, cap, sp, rfl, h1, h2, h3⟩
theorem div_h {g : Gr} (hg : g.ok) : (g.cs.length : Int).tdiv g.w = g.h := by
  rw [hg.len]
  have h0 := hg.w0
  have : ((g.w * g.h : Nat) : Int) = (g.w : Int) * g.h := by simp
  rw [this, Int.mul_tdiv_cancel_left _ (by omega)]
theorem rrow_c {w : World} {g : Gr} (hg : g.ok) {e : Option TypeId} {a : Option Addr} (hs : SxC w e a g.cs) (cap : Nat) (hcap : g.cs.length ≤ cap) (y : Nat) (hy : y < g.h) : Calls Tryz.prog 43 #[g.val a cap, .int .i64 y] w
    (retK fun v w' => Ox w.heap.size w' 70 4 Cel.cells v (g.row y) ∧ Chg [] w w') := by
  have h1 := hg.row_lt hy
  have h2 := hg.le
  have h3 := hg.w0
  have h4 := hg.w1
  have h5 := hg.h1
  have hd := div_h hg
  obtain ⟨b, o, _, _, _, _, _, rfl, hb0, _⟩ := hs.at_ hg.ne
  clear hb0
  apply lyceumref06_Row_link
  intro K hK
  unfold lyceumref06_Row
  simp -dsimp (disch := first | omega | (simp only [go_sem, seval]; first | done | omega)) only [go_sem, seval, Gr.val]
  have hc0 := chg_a1 w (.cells #[.int .i64 g.w, .int .i64 g.h, .slice (some ⟨b, o, none⟩) g.cs.length cap] 38)
  have hg0 : (w.alloc (.cells #[.int .i64 g.w, .int .i64 g.h, .slice (some ⟨b, o, none⟩) g.cs.length cap] 38)).heap[w.heap.size]? = some (.cells #[.int .i64 g.w, .int .i64 g.h, .slice (some ⟨b, o, none⟩) g.cs.length cap] 38) := by simp -dsimp (disch := first | omega | (simp only [go_sem, seval]; first | done | omega)) only [go_sem, seval]
  refine Join1.cut (fun v w' => v = .bool false ∧ w' = (w.alloc (.cells #[.int .i64 g.w, .int .i64 g.h, .slice (some ⟨b, o, none⟩) g.cs.length cap] 38)).drew) ?_ ?_
  · simp -dsimp (disch := first | omega | (simp only [go_sem, seval]; first | done | omega)) only [go_sem, seval]
    refine BrW.dec (fun h => by omega) (fun _ => ?_)
    simp -dsimp (disch := first | omega | (simp only [go_sem, seval]; first | done | omega)) only [go_sem, seval]
    refine BrW.dec (fun h => by omega) (fun _ => ?_)
    simp -dsimp (disch := first | omega | (simp only [go_sem, seval]; first | done | omega)) only [go_sem, seval]
    refine BrW.dec (fun h => by omega) (fun _ => ?_)
    simp -dsimp (disch := first | omega | (simp only [go_sem, seval]; first | done | omega)) only [go_sem, seval, hd]
    simp
  · rintro v w1 ⟨rfl, rfl⟩
    have e1 : (y : Int) * (g.w : Int) = ((y * g.w : Nat) : Int) := by simp
    have e2 : ((y * g.w : Nat) : Int) + (g.w : Int) = ((y * g.w + g.w : Nat) : Int) := by simp
    simp -dsimp (disch := first | omega | (simp only [go_sem, seval]; first | done | omega)) only [go_sem, seval, e1, e2]
    have e3 : slo o cap (y * g.w) 4 = o + y * g.w * 4 := by unfold slo; rw [if_neg (by omega)]
    have e4 : y * g.w + g.w - y * g.w = g.w := by omega
    rw [e3, e4]
    have hrl := hg.row_len hy
    have hs1 : SxC (((w.alloc (.cells #[.int .i64 g.w, .int .i64 g.h, .slice (some ⟨b, o, none⟩) g.cs.length cap] 38)).alloc (.cells #[] 70)).drew) e (some ⟨b, o + y * g.w * 4, none⟩) (g.row y) := Sx.sub (hs.chg0 (chg_a2 _ _ _).drew) Cel.len (y * g.w) g.w _ (.inr (.inr rfl))
    have ho : Ox w.heap.size (((w.alloc (.cells #[.int .i64 g.w, .int .i64 g.h, .slice (some ⟨b, o, none⟩) g.cs.length cap] 38)).alloc (.cells #[] 70)).drew) 70 4 Cel.cells (.slice (some ⟨w.heap.size + 1, 0, none⟩) 0 0) [] := Ox.built (c := []) (by simp -dsimp (disch := first | omega | (simp only [go_sem, seval]; first | done | omega)) only [go_sem, seval]) Cel.len (by omega) rfl rfl (by omega) rfl
    refine app_x (l := []) (l2 := g.row y) ty36ap Cel.len Cel.ok ho hs1 (by rw [hrl]) (by simp; omega) (by omega) (by simp -dsimp (disch := first | omega | (simp only [go_sem, seval]; first | done | omega)) only [go_sem, seval]; omega) ?_
    intro v' w' ho' hc' _
    exact hK _ _ ⟨by simpa using ho', own_chg ho (chg_a2 _ _ _).drew hc'⟩
theorem row_sub {g : Gr} {y : Nat} {c : Cel} (h : c ∈ g.row y) : c ∈ g.cs := List.mem_of_mem_drop (List.mem_of_mem_take h)
theorem rgcheck_c {w : World} {g : Gr} (hg : g.ok) (hr : g.right = true) {e : Option TypeId} {a : Option Addr} (hs : SxC w e a g.cs) (cap : Nat) (hcap : g.cs.length ≤ cap) : Calls Tryz.prog 15 #[g.val a cap] w
    (retK fun v w' => v = .bool true ∧ Chg [] w w') := by
  have hle := hg.le
  have hm : (g.w : Int) * (g.h : Int) = (g.cs.length : Int) := by rw [hg.len]; simp
  have h4 := hg.w1
  have h5 := hg.h1
  apply lyceumref06_Check_link
  intro K hK
  unfold lyceumref06_Check
  simp -dsimp (disch := first | omega | (simp only [go_sem, seval]; first | done | omega)) only [go_sem, seval, Gr.val]
  have hc0 := chg_a1 w (.cells #[.int .i64 g.w, .int .i64 g.h, .slice a g.cs.length cap] 38)
  have hg0 : (w.alloc (.cells #[.int .i64 g.w, .int .i64 g.h, .slice a g.cs.length cap] 38)).heap[w.heap.size]? = some (.cells #[.int .i64 g.w, .int .i64 g.h, .slice a g.cs.length cap] 38) := by simp -dsimp (disch := first | omega | (simp only [go_sem, seval]; first | done | omega)) only [go_sem, seval]
  refine OpX.call lyceumref06_size_b rfl (Calls.ret (rsize_c _ g.w g.h) ?_)
  rintro v w1 ⟨rfl, rfl⟩
  refine Join1.inl ?_
  simp -dsimp (disch := first | omega | (simp only [go_sem, seval]; first | done | omega)) only [go_sem, seval, hg.fits, hm]
  refine Loop1.st (fun k : Nat => .int .i64 k) (fun k w' => Chg [] w w' ∧ k ≤ g.h ∧ w'.heap[w.heap.size]? = some (.cells #[.int .i64 g.w, .int .i64 g.h, .slice a g.cs.length cap] 38)) (fun k => g.h - k) 0 rfl ⟨hc0, by omega, hg0⟩ ?_
  rintro next k w2 hn ⟨hc2, hk, hg2⟩
  simp -dsimp (disch := first | omega | (simp only [go_sem, seval]; first | done | omega)) only [go_sem, seval, hg2]
  refine BrW.dec (fun h1 => ?_) (fun h1 => hK _ _ ⟨rfl, hc2⟩)
  have hky : k < g.h := by omega
  simp -dsimp (disch := first | omega | (simp only [go_sem, seval]; first | done | omega)) only [go_sem, seval, hg2]
  refine OpX.call lyceumref06_Row_b rfl (Calls.ret (rrow_c hg (hs.chg0 hc2) cap hcap k hky) ?_)
  rintro v3 w3 ⟨ho3, hc3⟩
  obtain ⟨a3, cap3, rfl, hcap3, hs3, -⟩ := ho3.form
  have hrl := hg.row_len hky
  have hrr := Gr.right.at hr hky
  refine OpX.call lyceumref05_Right_b rfl (Calls.ret (rright_c hs3 cap3 (by omega) (right_fits hrr)) ?_)
  rintro v4 w4 ⟨rfl, hc4⟩
  rw [hrr]
  simp -dsimp (disch := first | omega | (simp only [go_sem, seval]; first | done | omega)) only [go_sem, seval]
  exact hn (k + 1) _ ⟨(hc2.trans0 hc3).trans0 hc4, by omega, (hc3.trans0 hc4).keep hg2 (by simp)⟩ (by omega)
end Go.Proofs.YtjfembffjjijaaaGreat
namespace Go.Proofs.YtjfembffjjijaaaGreat
open Lyc Go
theorem viewRow_ok {g : Gr} (hg : g.ok) (hr : g.right = true) {L : List (List Cel)} (hL : ∀ l ∈ L, l.length = g.w) {n : Nat} (hn : n ≤ L.length) : ∀ y, y < g.h → (viewRow g L n y).length = g.w ∧ Lyc.right (viewRow g L n y) = true := by
  intro y hy
  unfold viewRow
  split
  · rename_i h
    have hm : L.getD (n + y) [] ∈ L := by rw [List.getD_eq_getElem?_getD, List.getElem?_eq_getElem h]; exact List.getElem_mem h
    exact ⟨by rw [mend_len, hL _ hm], right_mend _⟩
  · exact ⟨hg.row_len (by omega), Gr.right.at hr (by omega)⟩
theorem viewOf_ok {S : Scr} (h : S.ok) {L : List (List Cel)} (hL : ∀ l ∈ L, l.length = S.w) (back : Int) : (viewOf S L back).fit S.w S.h := by
  have hc := h.cur
  have hv := viewRow_ok hc.ok hc.r (fun l hl => (hL l hl).trans hc.w.symm) (show L.length - min back.toNat L.length ≤ L.length by omega)
  refine ⟨Gr.of_ok hc.ok.w0 hc.ok.w1 hc.ok.h0 hc.ok.h1 fun y hy => (hv y hy).1, Gr.right_of fun y hy => ?_, hc.w, hc.h⟩
  have hr : (viewOf S L back).row y = viewRow S.cur L (L.length - min back.toNat L.length) y := Gr.of_row (fun y hy => (hv y hy).1) hy
  rw [hr]
  exact (hv y hy).2
set_option maxHeartbeats 1000000 in
theorem tright_c {w : World} {e : Option TypeId} {a : Option Addr} {l : List (List UInt8)} (hs : Sx w e bsF a l) (cap : Nat) (hll : l.length ≤ maxLen) (W H back : Int) :
    Calls Tryz.prog 5 #[.agg #[.int .i64 W, .int .i64 H], .slice a l.length cap, .int .i64 back] w (retK fun v w' => v = .bool true ∧ Chg [] w w') := by
  simp only [maxLen] at hll
  obtain ⟨-, u0, u1⟩ := szN_eq (n := W) (m := 14) (by omega)
  obtain ⟨-, v0, v1⟩ := szN_eq (n := H) (m := 8) (by omega)
  apply lyceumlaw11_TermRight_link
  intro K hK
  unfold lyceumlaw11_TermRight
  simp -dsimp (disch := first | omega | (simp only [go_sem, seval]; first | done | omega)) only [go_sem, seval]
  refine OpX.gen fun w0 hw0 => ?_
  have hc0 : Chg [] w w0 := by rw [hw0]; exact chg_a1 _ _
  have hz0 : w0.heap[w.heap.size]? = some (.cells #[.int .i64 W, .int .i64 H] 47) := by rw [hw0]; simp -dsimp (disch := first | omega | (simp only [go_sem, seval]; first | done | omega)) only [go_sem, seval]
  clear hw0
  refine OpX.call lyceumlaw11_awake_b rfl (Calls.ret (awake11_c _) ?_)
  rintro v w1 ⟨rfl, hc1⟩
  have hz1 := hc1.keep hz0 (by simp)
  simp -dsimp (disch := first | omega | (simp only [go_sem, seval]; first | done | omega)) only [go_sem, seval, hz1]
  refine OpX.call lyceumlaw11_Size_size_b rfl (Calls.ret (size11_c _ W H) ?_)
  rintro v w2 ⟨rfl, hc2⟩
  generalize szN W 14 = X at *
  generalize szN H 8 = Y at *
  simp -dsimp (disch := first | omega | (simp only [go_sem, seval]; first | done | omega)) only [go_sem, seval]
  refine OpX.call term_New_b rfl (Calls.ret (tnew_c w2 X Y (by omega) (by omega) (by omega) (by omega) 20) ?_)
  rintro v w3 ⟨t, s, h, M, G, rfl, hA, hS, hgl, hgr, hc3⟩
  have hc02 := (hc0.trans0 hc1).trans0 hc2
  have hroom : G.room = 20 := by rw [hgr]; rfl
  simp -dsimp (disch := first | omega | (simp only [go_sem, seval]; first | done | omega)) only [go_sem, seval]
  refine Loop1.st (fun q : Nat × Tm × Scm × Hs => .int .i64 (q.1 : Int)) (fun q w' => q.1 ≤ l.length ∧ q.1 ≤ 30 ∧ TmAt w2.heap.size w' t X Y q.2.1 q.2.2.1 q.2.2.2 ∧ q.2.2.2.room = 20 ∧ Chg [] w2 w') (fun q => l.length - q.1) (0, ⟨s, h, [], Esc.new⟩, M, G) rfl ⟨by simp, by simp, hA, hroom, hc3⟩ ?_
  rintro next ⟨i, T, M', G'⟩ w4 hn ⟨hi, hi30, hA4, hr4, hc4⟩
  dsimp only at hi hi30 hA4 hr4 ⊢
  refine Join1.cut (fun v w' => v = .bool (decide (i < l.length ∧ i < 30)) ∧ w' = w4) ?_ ?_
  · simp -dsimp (disch := first | omega | (simp only [go_sem, seval]; first | done | omega)) only [go_sem, seval]
    refine BrW.dec (fun h1 => ?_) (fun h1 => ⟨congrArg Value.bool (decide_eq_false (fun h => by omega)).symm, rfl⟩)
    simp -dsimp (disch := first | omega | (simp only [go_sem, seval]; first | done | omega)) only [go_sem, seval]
    exact congrArg Value.bool (decide_eq_decide.2 ⟨fun h => ⟨by omega, by omega⟩, fun h => by omega⟩)
  rintro v w5 ⟨rfl, rfl⟩
  refine BrW.dec (fun h1 => ?_) (fun h1 => hK _ _ ⟨rfl, hc02.trans0 hc4⟩)
  obtain ⟨b, o, rfl, hbl, hcell⟩ := ((hs.chg0 hc02).chg0 hc4).get1 (g := fun p => .string (bstr p)) (fun _ => rfl) (List.getElem?_eq_getElem h1.1)
  generalize l[i] = p at *
  simp -dsimp (disch := first | omega | (simp only [go_sem, seval]; first | done | omega)) only [go_sem, seval, hcell]
  refine OpX.call lyceumlaw11_short_b rfl (Calls.ret (short_c w5 p 12) ?_)
  rintro v w6 ⟨rfl, hc6⟩
  have hz4 := hc4.size
  have hz6 := hc6.size
  simp -dsimp (disch := first | omega | (simp only [go_sem, seval]; first | done | omega)) only [go_sem, seval]
  refine OpX.gen fun w7 hw7 => ?_
  have hc7 : Chg [] w6 w7 := by rw [hw7]; exact chg_a1 _ _
  have hb7 : w7.heap[w6.heap.size]? = some (.cells #[.string (bstr (p.take 12))] 9) := by rw [hw7]; simp -dsimp (disch := first | omega | (simp only [go_sem, seval]; first | done | omega)) only [go_sem, seval]
  clear hw7
  have hs7 : Sx w7 (some 9) bsF (some ⟨w6.heap.size, 0, none⟩) [p.take 12] := Sx.built (c := [.string (bstr (p.take 12))]) hb7 rfl
  have hA6 := hA4.chg0 hc6
  have hA7 := hA6.chg0 hc7
  have hfar : ∀ b o, some (⟨w6.heap.size, 0, none⟩ : Addr) = some ⟨b, o, none⟩ → [p.take 12] ≠ [] → b ∉ t :: T.s :: M'.blk := by
    intro b o hb _ hm
    cases hb
    rcases List.mem_cons.1 hm with e | hm
    · have := lt_of_heap hA6.hb; omega
    · have := hA6.scr.at_.lt _ hm; omega
  have hz7 := hc7.size
  refine OpX.call term_Term_Write_b rfl (Calls.ret (twrite_c hA7 (by omega) hs7 (by simp; omega) hfar 1 (by simp)) ?_)
  rintro v w8 ⟨M8, G8, k8, E8, hA8, -, hroom8, -, hc8⟩
  have hc28 : Chg [] w2 w8 := by
    refine ((hc4.trans0 hc6).trans0 hc7).trans hc8 fun x hx => ?_
    simp only [List.cons_append, List.mem_cons, List.mem_append] at hx
    rcases hx with rfl | rfl | hx | rfl | hx
    · exact .inr (hA7.lo _ (by simp))
    · exact .inr (hA7.scr.lo _ (by simp))
    · exact .inr (hA7.scr.lo _ (by simp [hx]))
    · exact .inr (hA7.lo _ (by simp))
    · exact .inr (hA7.lo _ (by simp [hx]))
  have ok8 := hA8.scr.ok
  refine OpX.call term_Term_Grid_b rfl (Calls.ret (tgrid_c hA8) ?_)
  rintro v w9 ⟨⟨nb, cp, sp, rfl, p1, p2, p3⟩, hc9⟩
  have hg := ok8.cur
  have nx := ok8.nx
  have ny := ok8.ny
  rw [hA8.scr.w] at nx hg
  rw [hA8.scr.h] at ny hg
  have hv := viewOf_ok ok8 (fun l hl => (hA8.rw l hl).trans hA8.scr.w.symm) back
  rw [hA8.scr.w, hA8.scr.h] at hv
  obtain ⟨A, hAA⟩ : ∃ A, A = M8.S.cur := ⟨_, rfl⟩
  obtain ⟨V, hV⟩ : ∃ V, V = viewOf M8.S G8.list back := ⟨_, rfl⟩
  rw [← hAA] at p1 p3 hg ⊢
  rw [← hV] at hv
  simp -dsimp (disch := first | omega | (simp only [go_sem, seval]; first | done | omega)) only [go_sem, seval, Gr.val]
  obtain ⟨t12, ht12⟩ : ∃ t12, t12 = w9.heap.size := ⟨_, rfl⟩
  obtain ⟨w10, hw10⟩ : ∃ w10, w10 = w9.alloc (.cells #[.int .i64 A.w, .int .i64 A.h, .slice (some ⟨nb, 0, none⟩) A.cs.length cp] 38) := ⟨_, rfl⟩
  have hc10 : Chg [] w9 w10 := by rw [hw10]; (repeat (first | exact Chg.refl _ _ | apply Chg.drew | apply Chg.alloc | (refine Chg.set ?_ _ _ (by first | (left; simp; done) | (right; omega)))))
  have hb10 : w10.heap[t12]? = some (.cells #[.int .i64 A.w, .int .i64 A.h, .slice (some ⟨nb, 0, none⟩) A.cs.length cp] 38) := by rw [hw10, ht12]; simp -dsimp (disch := first | omega | (simp only [go_sem, seval]; first | done | omega)) only [go_sem, seval]
  rw [← hw10, ← ht12]
  clear hw10
  have hA10 := (hA8.chg0 hc9).chg0 hc10
  refine OpX.call term_Term_View_b rfl (Calls.ret (tview_c hA10 back) ?_)
  rintro v w11 ⟨⟨nb2, cp2, sp2, hvv, q1, q2, q3⟩, hc11⟩
  rw [← hV] at hvv q1 q3
  subst hvv
  have hb11 := hc11.keep hb10 (by simp)
  simp -dsimp (disch := first | omega | (simp only [go_sem, seval]; first | done | omega)) only [go_sem, seval, Gr.val]
  obtain ⟨t13, ht13⟩ : ∃ t13, t13 = w11.heap.size := ⟨_, rfl⟩
  have hl11 := lt_of_heap hb11
  obtain ⟨w12, hw12⟩ : ∃ w12, w12 = w11.alloc (.cells #[.int .i64 V.w, .int .i64 V.h, .slice (some ⟨nb2, 0, none⟩) V.cs.length cp2] 38) := ⟨_, rfl⟩
  have hc12 : Chg [] w11 w12 := by rw [hw12]; (repeat (first | exact Chg.refl _ _ | apply Chg.drew | apply Chg.alloc | (refine Chg.set ?_ _ _ (by first | (left; simp; done) | (right; omega)))))
  have hd12 : w12.heap[t13]? = some (.cells #[.int .i64 V.w, .int .i64 V.h, .slice (some ⟨nb2, 0, none⟩) V.cs.length cp2] 38) := by rw [hw12, ht13]; simp -dsimp (disch := first | omega | (simp only [go_sem, seval]; first | done | omega)) only [go_sem, seval]
  rw [← hw12, ← ht13]
  clear hw12
  have hb12 := hc12.keep hb11 (by simp)
  have hc912 := (hc10.trans0 hc11).trans0 hc12
  have hsA : SxC w12 (some 70) (some ⟨nb, 0, none⟩) A.cs := ⟨fun _ => ⟨nb, 0, _, _, _, [], sp, rfl, hc912.keep p3 (by simp), by simp [tagOk], by simp, rfl⟩⟩
  have hsV : SxC w12 (some 70) (some ⟨nb2, 0, none⟩) V.cs := ⟨fun _ => ⟨nb2, 0, _, _, _, [], sp2, rfl, hc12.keep q3 (by simp), by simp [tagOk], by simp, rfl⟩⟩
  simp -dsimp (disch := first | omega | (simp only [go_sem, seval]; first | done | omega)) only [go_sem, seval, hb12]
  refine OpX.call lyceumref06_Check_b rfl (Calls.ret (rgcheck_c hg.ok hg.r hsA cp p1) ?_)
  rintro v w13 ⟨rfl, hc13⟩
  have hd13 := hc13.keep hd12 (by simp)
  simp -dsimp (disch := first | omega | (simp only [go_sem, seval]; first | done | omega)) only [go_sem, seval, hd13]
  refine OpX.call lyceumref06_Check_b rfl (Calls.ret (rgcheck_c hv.ok hv.r (hsV.chg0 hc13) cp2 q1) ?_)
  rintro v w14 ⟨rfl, hc14⟩
  have hb14 := hc14.keep (hc13.keep hb12 (by simp)) (by simp)
  have hd14 := hc14.keep hd13 (by simp)
  have hA14 := (((hA10.chg0 hc11).chg0 hc12).chg0 hc13).chg0 hc14
  refine OpX.call term_Term_Cursor_b rfl (Calls.ret (tcursor_c hA14) ?_)
  rintro v w15 ⟨rfl, hc15⟩
  have hb15 := hc15.keep hb14 (by simp)
  have hd15 := hc15.keep hd14 (by simp)
  have hA15 := hA14.chg0 hc15
  have aw := hg.w
  have ah := hg.h
  have vw := hv.w
  have vh := hv.h
  have hrl : G8.list.length ≤ 20 := by
    have h1 := hA15.his.fit
    rw [hroom8, hr4] at h1
    rw [G8.list_len]
    exact h1
  simp -dsimp (disch := first | omega | (simp only [go_sem, seval]; first | done | omega)) only [go_sem, seval]
  refine Join1.cut (fun v w' => v = .bool false ∧ Chg [] w15 w') ?_ ?_
  · simp -dsimp (disch := first | omega | (simp only [go_sem, seval]; first | done | omega)) only [go_sem, seval, hb15, hd15, aw, ah, vw, vh]
    refine BrW.dec (fun h => absurd h (by omega)) (fun _ => ?_)
    simp -dsimp (disch := first | omega | (simp only [go_sem, seval]; first | done | omega)) only [go_sem, seval]
    refine BrW.dec (fun h => absurd h (by omega)) (fun _ => ?_)
    simp -dsimp (disch := first | omega | (simp only [go_sem, seval]; first | done | omega)) only [go_sem, seval]
    refine BrW.dec (fun h => absurd h (by omega)) (fun _ => ?_)
    simp -dsimp (disch := first | omega | (simp only [go_sem, seval]; first | done | omega)) only [go_sem, seval]
    refine BrW.dec (fun h => absurd h (by omega)) (fun _ => ?_)
    simp -dsimp (disch := first | omega | (simp only [go_sem, seval]; first | done | omega)) only [go_sem, seval]
    refine OpX.call term_Term_Rows_b rfl (Calls.ret (trows_c hA15) ?_)
    rintro v w16 ⟨rfl, hc16⟩
    simp -dsimp (disch := first | omega | (simp only [go_sem, seval]; first | done | omega)) only [go_sem, seval]
    refine BrW.dec (fun h => absurd h (by omega)) (fun _ => ?_)
    refine OpX.call term_Term_Rows_b rfl (Calls.ret (trows_c (hA15.chg0 hc16)) ?_)
    rintro v w17 ⟨rfl, hc17⟩
    simp -dsimp (disch := first | omega | (simp only [go_sem, seval]; first | done | omega)) only [go_sem, seval]
    exact ⟨congrArg Value.bool (decide_eq_false (by omega)), hc16.trans0 hc17⟩
  rintro v w16 ⟨rfl, hc16⟩
  have e1 : (i : Int) + 1 = ((i + 1 : Nat) : Int) := by omega
  simp -dsimp (disch := first | omega | (simp only [go_sem, seval]; first | done | omega)) only [go_sem, seval, e1]
  refine hn (i + 1, _, M8, G8) _ ⟨by dsimp only; omega, by dsimp only; omega, hA15.chg0 hc16, hroom8.trans hr4, ?_⟩ (by dsimp only; omega)
  exact (((((hc28.trans0 hc9).trans0 hc912).trans0 hc13).trans0 hc14).trans0 hc15).trans0 hc16
end Go.Proofs.YtjfembffjjijaaaGreat
