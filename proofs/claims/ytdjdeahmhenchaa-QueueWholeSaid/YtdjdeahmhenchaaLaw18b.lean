/- The laws of layer 18, walked: QueueWhole, QueueNil. -/
import Derived.Test.YtdjdeahmhenchaaLaw18
import Derived.Test.YtdjdeahmhenchaaLycOps5
set_option linter.unusedSimpArgs false
set_option linter.unusedVariables false
namespace Go.Proofs.Ytdjdeahmhenchaa
open Lyc Go

/-- The frame of a step. -/
def Op18.fr (o : Op18) : Fr := if o.far then ⟨o.gen, o.seq, o.key, ⟨#[]⟩⟩ else ⟨0, bitV .and .i64 o.seq 1023, o.key, ⟨#[98]⟩⟩

theorem frame18_c (w : World) (o : Op18) : Calls Try.prog 20 #[.agg o.cells.toArray] w (retK fun v w' => v = o.fr.v ∧ Chg [] w w') := by
  apply lyceumlaw18_Op_frame_link
  intro K hK
  unfold lyceumlaw18_Op_frame
  unfold Op18.cells
  simp -dsimp (disch := (first | omega | (simp only [go_sem, Nat.reduceAdd]; done) | (simp only [go_sem, Nat.reduceAdd]; omega))) only [go_sem, reduceIte, reduceCtorEq, Nat.reduceAdd, Nat.reduceMul, Nat.reduceSub, Nat.reduceDiv, Nat.reduceMod, Nat.reduceEqDiff, Nat.reduceLT, Nat.reduceLeDiff, Nat.reducePow, Int.reduceNeg, Int.reduceAdd, Int.reduceSub, Int.reduceMul, Int.reduceEq, Int.reduceNe, Int.reduceLT, Int.reduceLE, Int.reduceToNat, Int.reduceTDiv, Int.reduceTMod, Int.reduceFDiv, Int.reducePow]
  cases hf : o.far with
  | true =>
    simp -dsimp (disch := (first | omega | (simp only [go_sem, Nat.reduceAdd]; done) | (simp only [go_sem, Nat.reduceAdd]; omega))) only [go_sem, reduceIte, reduceCtorEq, Nat.reduceAdd, Nat.reduceMul, Nat.reduceSub, Nat.reduceDiv, Nat.reduceMod, Nat.reduceEqDiff, Nat.reduceLT, Nat.reduceLeDiff, Nat.reducePow, Int.reduceNeg, Int.reduceAdd, Int.reduceSub, Int.reduceMul, Int.reduceEq, Int.reduceNe, Int.reduceLT, Int.reduceLE, Int.reduceToNat, Int.reduceTDiv, Int.reduceTMod, Int.reduceFDiv, Int.reducePow]
    refine hK _ _ ⟨?_, ?_⟩
    · simp [Op18.fr, hf, Fr.v, Fr.cells]
    · exact ((Chg.refl _ _).alloc _).alloc _
  | false =>
    simp -dsimp (disch := (first | omega | (simp only [go_sem, Nat.reduceAdd]; done) | (simp only [go_sem, Nat.reduceAdd]; omega))) only [go_sem, reduceIte, reduceCtorEq, Nat.reduceAdd, Nat.reduceMul, Nat.reduceSub, Nat.reduceDiv, Nat.reduceMod, Nat.reduceEqDiff, Nat.reduceLT, Nat.reduceLeDiff, Nat.reducePow, Int.reduceNeg, Int.reduceAdd, Int.reduceSub, Int.reduceMul, Int.reduceEq, Int.reduceNe, Int.reduceLT, Int.reduceLE, Int.reduceToNat, Int.reduceTDiv, Int.reduceTMod, Int.reduceFDiv, Int.reducePow]
    refine hK _ _ ⟨?_, ?_⟩
    · simp [Op18.fr, hf, Fr.v, Fr.cells]
    · exact ((Chg.refl _ _).alloc _).alloc _

theorem Qs.push_le (S : Qs) (f : Fr) : (S.push f).2.dropped + (S.push f).2.l.length ≤ S.dropped + S.l.length + 1 := by
  unfold Qs.push
  repeat' split
  all_goals simp
  all_goals omega

theorem Qs.pop_le (S : Qs) : S.pop.2.dropped + S.pop.2.l.length ≤ S.dropped + S.l.length := by
  cases h : S.l <;> simp [Qs.pop, h] <;> omega

theorem whole_c {w : World} (room : Int) {v : Value} {len : Nat} {ops : Nat → Op18} (hv : SlA w v len 5 fun i => (ops i).cells) (hlen : len ≤ 9223372036854775807) :
    Calls Try.prog 4 #[.int .i64 room, v] w (retK fun v w' => v = .bool true ∧ Chg [] w w') := by
  apply lyceumlaw18_QueueWhole_link
  intro K hK
  unfold lyceumlaw18_QueueWhole
  refine OpX.call lyceumlaw18_awake_b rfl (Calls.ret (awake18_c w) ?_)
  rintro v1 w1 ⟨rfl, hc1⟩
  refine OpX.call queue_New_b rfl (Calls.ret (new_c w1 room) ?_)
  rintro v2 w2 ⟨q, c, rfl, hq, hc, hc2, hQ2⟩
  have hb2 := hc1.trans0 hc2
  have hs1 := hc1.size
  simp -dsimp (disch := (first | omega | (simp only [go_sem, Nat.reduceAdd]; done) | (simp only [go_sem, Nat.reduceAdd]; omega))) only [go_sem, reduceIte, reduceCtorEq, Nat.reduceAdd, Nat.reduceMul, Nat.reduceSub, Nat.reduceDiv, Nat.reduceMod, Nat.reduceEqDiff, Nat.reduceLT, Nat.reduceLeDiff, Nat.reducePow, Int.reduceNeg, Int.reduceAdd, Int.reduceSub, Int.reduceMul, Int.reduceEq, Int.reduceNe, Int.reduceLT, Int.reduceLE, Int.reduceToNat, Int.reduceTDiv, Int.reduceTMod, Int.reduceFDiv, Int.reducePow]
  refine Loop1.st (St := Nat × Qs) (fun s => .int .i64 s.1)
    (fun s w' => QAt w' q c s.2 ∧ s.1 ≤ 40 ∧ s.1 ≤ len ∧ s.2.dropped + s.2.l.length ≤ s.1 ∧ Chg [] w w')
    (fun s => 40 - s.1) (0, _) rfl
    ⟨hQ2, by simp, by simp, by simp [Qs.new], hb2⟩ ?_
  rintro next ⟨i, S⟩ w3 hn ⟨hQ3, hi60, hil, hdr, hc3⟩
  dsimp only at hQ3 hi60 hil hdr hc3 ⊢
  have hn := fun S' w' h h2 => hn (i + 1, S') w' h h2
  dsimp only at hn
  have hd0 := hQ3.d0
  have hone := hQ3.one
  obtain ⟨a, cap, rfl, -⟩ := id hv
  refine Join1.cutK (fun v w' => w' = w3 ∧ v = .bool (decide (i < len ∧ i < 40))) (fun k hk => ?_) ?_
  · simp -dsimp (disch := (first | omega | (simp only [go_sem, Nat.reduceAdd]; done) | (simp only [go_sem, Nat.reduceAdd]; omega))) only [go_sem, reduceIte, reduceCtorEq, Nat.reduceAdd, Nat.reduceMul, Nat.reduceSub, Nat.reduceDiv, Nat.reduceMod, Nat.reduceEqDiff, Nat.reduceLT, Nat.reduceLeDiff, Nat.reducePow, Int.reduceNeg, Int.reduceAdd, Int.reduceSub, Int.reduceMul, Int.reduceEq, Int.reduceNe, Int.reduceLT, Int.reduceLE, Int.reduceToNat, Int.reduceTDiv, Int.reduceTMod, Int.reduceFDiv, Int.reducePow]
    refine BrW.dec (fun h1 => ?_) (fun h1 => hk _ _ ⟨rfl, by simp only [show ¬ (i < len ∧ i < 40) by omega, decide_false]⟩)
    simp -dsimp (disch := (first | omega | (simp only [go_sem, Nat.reduceAdd]; done) | (simp only [go_sem, Nat.reduceAdd]; omega))) only [go_sem, reduceIte, reduceCtorEq, Nat.reduceAdd, Nat.reduceMul, Nat.reduceSub, Nat.reduceDiv, Nat.reduceMod, Nat.reduceEqDiff, Nat.reduceLT, Nat.reduceLeDiff, Nat.reducePow, Int.reduceNeg, Int.reduceAdd, Int.reduceSub, Int.reduceMul, Int.reduceEq, Int.reduceNe, Int.reduceLT, Int.reduceLE, Int.reduceToNat, Int.reduceTDiv, Int.reduceTMod, Int.reduceFDiv, Int.reducePow]
    exact hk _ _ ⟨rfl, by congr 1; simp only [decide_eq_decide]; omega⟩
  rintro _ _ ⟨rfl, rfl⟩
  refine BrW.dec (fun h1 => ?_) (fun h1 => ?_)
  · obtain ⟨h1, h2⟩ := h1
    obtain ⟨a', cap', b, o, he, rfl, hbl, hag⟩ := hv.at hc3 (by simp) i (by omega)
    cases he
    simp only [Op18.cells] at hag
    have hsz := hc3.size
    simp -dsimp (disch := (first | omega | (simp only [go_sem, Nat.reduceAdd]; done) | (simp only [go_sem, Nat.reduceAdd]; omega))) only [go_sem, reduceIte, reduceCtorEq, Nat.reduceAdd, Nat.reduceMul, Nat.reduceSub, Nat.reduceDiv, Nat.reduceMod, Nat.reduceEqDiff, Nat.reduceLT, Nat.reduceLeDiff, Nat.reducePow, Int.reduceNeg, Int.reduceAdd, Int.reduceSub, Int.reduceMul, Int.reduceEq, Int.reduceNe, Int.reduceLT, Int.reduceLE, Int.reduceToNat, Int.reduceTDiv, Int.reduceTMod, Int.reduceFDiv, Int.reducePow, hag]
    refine BrW.dec (fun h => ?_) (fun _ => ?_)
    · refine OpX.call queue_Queue_Pop_b rfl (Calls.ret (pop_c (hQ3.alloc _)) ?_)
      rintro v w4 ⟨-, hc4, hQ4⟩
      simp -dsimp (disch := (first | omega | (simp only [go_sem, Nat.reduceAdd]; done) | (simp only [go_sem, Nat.reduceAdd]; omega))) only [go_sem, reduceIte, reduceCtorEq, Nat.reduceAdd, Nat.reduceMul, Nat.reduceSub, Nat.reduceDiv, Nat.reduceMod, Nat.reduceEqDiff, Nat.reduceLT, Nat.reduceLeDiff, Nat.reducePow, Int.reduceNeg, Int.reduceAdd, Int.reduceSub, Int.reduceMul, Int.reduceEq, Int.reduceNe, Int.reduceLT, Int.reduceLE, Int.reduceToNat, Int.reduceTDiv, Int.reduceTMod, Int.reduceFDiv, Int.reducePow]
      have := S.pop_le
      exact hn S.pop.2 _ ⟨hQ4, by omega, by omega, by omega, (hc3.alloc _).trans hc4 (by simp; omega)⟩ (by omega)
    · simp -dsimp (disch := (first | omega | (simp only [go_sem, Nat.reduceAdd]; done) | (simp only [go_sem, Nat.reduceAdd]; omega))) only [go_sem, reduceIte, reduceCtorEq, Nat.reduceAdd, Nat.reduceMul, Nat.reduceSub, Nat.reduceDiv, Nat.reduceMod, Nat.reduceEqDiff, Nat.reduceLT, Nat.reduceLeDiff, Nat.reducePow, Int.reduceNeg, Int.reduceAdd, Int.reduceSub, Int.reduceMul, Int.reduceEq, Int.reduceNe, Int.reduceLT, Int.reduceLE, Int.reduceToNat, Int.reduceTDiv, Int.reduceTMod, Int.reduceFDiv, Int.reducePow]
      refine OpX.call lyceumlaw18_Op_frame_b rfl (Calls.ret (frame18_c _ (ops i)) ?_)
      rintro v w4 ⟨rfl, hc4⟩
      refine OpX.call queue_Queue_Push_b rfl (Calls.ret (push_c (ops i).fr ((hQ3.alloc _).chg hc4 (by simp) (by simp)) (by omega)) ?_)
      rintro v w5 ⟨-, hc5, hQ5⟩
      simp -dsimp (disch := (first | omega | (simp only [go_sem, Nat.reduceAdd]; done) | (simp only [go_sem, Nat.reduceAdd]; omega))) only [go_sem, reduceIte, reduceCtorEq, Nat.reduceAdd, Nat.reduceMul, Nat.reduceSub, Nat.reduceDiv, Nat.reduceMod, Nat.reduceEqDiff, Nat.reduceLT, Nat.reduceLeDiff, Nat.reducePow, Int.reduceNeg, Int.reduceAdd, Int.reduceSub, Int.reduceMul, Int.reduceEq, Int.reduceNe, Int.reduceLT, Int.reduceLE, Int.reduceToNat, Int.reduceTDiv, Int.reduceTMod, Int.reduceFDiv, Int.reducePow]
      have := S.push_le (ops i).fr
      exact hn _ _ ⟨hQ5, by omega, by omega, by omega, ((hc3.alloc _).trans0 hc4).trans hc5 (by simp; omega)⟩ (by omega)
  · simp -dsimp (disch := (first | omega | (simp only [go_sem, Nat.reduceAdd]; done) | (simp only [go_sem, Nat.reduceAdd]; omega))) only [go_sem, reduceIte, reduceCtorEq, Nat.reduceAdd, Nat.reduceMul, Nat.reduceSub, Nat.reduceDiv, Nat.reduceMod, Nat.reduceEqDiff, Nat.reduceLT, Nat.reduceLeDiff, Nat.reducePow, Int.reduceNeg, Int.reduceAdd, Int.reduceSub, Int.reduceMul, Int.reduceEq, Int.reduceNe, Int.reduceLT, Int.reduceLE, Int.reduceToNat, Int.reduceTDiv, Int.reduceTMod, Int.reduceFDiv, Int.reducePow]
    have hw : (⟨3, 7, true, ⟨#[119]⟩⟩ : Fr).ok = true := by decide
    have hw2 : (⟨3, 8, false, ⟨#[]⟩⟩ : Fr).ok = true := by decide
    have hw3 : (⟨3, 9, false, ⟨#[]⟩⟩ : Fr).ok = true := by decide
    have p1 : S.push ⟨3, 7, true, ⟨#[119]⟩⟩ = (true, { S with l := [⟨3, 7, true, ⟨#[119]⟩⟩], dropped := S.dropped + S.l.length, needs := false }) := by simp [Qs.push, hw]
    refine OpX.call queue_Queue_Push_b rfl (Calls.ret (push_c ⟨3, 7, true, ⟨#[119]⟩⟩ hQ3 (by omega)) ?_)
    rw [p1]
    rintro v w4 ⟨rfl, hc4, hQ4⟩
    dsimp only at hQ4
    have hb4 := hc3.trans hc4 (by simp; omega)
    try simp -dsimp (disch := (first | omega | (simp only [go_sem, Nat.reduceAdd]; done) | (simp only [go_sem, Nat.reduceAdd]; omega))) only [go_sem, reduceIte, reduceCtorEq, Nat.reduceAdd, Nat.reduceMul, Nat.reduceSub, Nat.reduceDiv, Nat.reduceMod, Nat.reduceEqDiff, Nat.reduceLT, Nat.reduceLeDiff, Nat.reducePow, Int.reduceNeg, Int.reduceAdd, Int.reduceSub, Int.reduceMul, Int.reduceEq, Int.reduceNe, Int.reduceLT, Int.reduceLE, Int.reduceToNat, Int.reduceTDiv, Int.reduceTMod, Int.reduceFDiv, Int.reducePow]
    refine OpX.call queue_Queue_Len_b rfl (Calls.ret (len_c hQ4) ?_)
    rintro v w5 ⟨rfl, rfl⟩
    try simp -dsimp (disch := (first | omega | (simp only [go_sem, Nat.reduceAdd]; done) | (simp only [go_sem, Nat.reduceAdd]; omega))) only [go_sem, reduceIte, reduceCtorEq, Nat.reduceAdd, Nat.reduceMul, Nat.reduceSub, Nat.reduceDiv, Nat.reduceMod, Nat.reduceEqDiff, Nat.reduceLT, Nat.reduceLeDiff, Nat.reducePow, Int.reduceNeg, Int.reduceAdd, Int.reduceSub, Int.reduceMul, Int.reduceEq, Int.reduceNe, Int.reduceLT, Int.reduceLE, Int.reduceToNat, Int.reduceTDiv, Int.reduceTMod, Int.reduceFDiv, Int.reducePow]
    refine OpX.call queue_Queue_Needs_b rfl (Calls.ret (needs_c hQ4) ?_)
    rintro v w5 ⟨rfl, rfl⟩
    try simp -dsimp (disch := (first | omega | (simp only [go_sem, Nat.reduceAdd]; done) | (simp only [go_sem, Nat.reduceAdd]; omega))) only [go_sem, reduceIte, reduceCtorEq, Nat.reduceAdd, Nat.reduceMul, Nat.reduceSub, Nat.reduceDiv, Nat.reduceMod, Nat.reduceEqDiff, Nat.reduceLT, Nat.reduceLeDiff, Nat.reducePow, Int.reduceNeg, Int.reduceAdd, Int.reduceSub, Int.reduceMul, Int.reduceEq, Int.reduceNe, Int.reduceLT, Int.reduceLE, Int.reduceToNat, Int.reduceTDiv, Int.reduceTMod, Int.reduceFDiv, Int.reducePow]
    refine OpX.call queue_Queue_Pop_b rfl (Calls.ret (pop_c hQ4) ?_)
    rintro v w5 ⟨hv5, hc5, hQ5⟩
    have hb5 := hb4.trans hc5 (by simp; omega)
    simp only [Qs.pop, popV, Fr.v, Fr.cells] at hv5 hQ5
    subst hv5
    simp -dsimp (disch := (first | omega | (simp only [go_sem, Nat.reduceAdd]; done) | (simp only [go_sem, Nat.reduceAdd]; omega))) only [go_sem, reduceIte, reduceCtorEq, Nat.reduceAdd, Nat.reduceMul, Nat.reduceSub, Nat.reduceDiv, Nat.reduceMod, Nat.reduceEqDiff, Nat.reduceLT, Nat.reduceLeDiff, Nat.reducePow, Int.reduceNeg, Int.reduceAdd, Int.reduceSub, Int.reduceMul, Int.reduceEq, Int.reduceNe, Int.reduceLT, Int.reduceLE, Int.reduceToNat, Int.reduceTDiv, Int.reduceTMod, Int.reduceFDiv, Int.reducePow]
    generalize hw5a : w5.alloc _ = w5a
    have hb5a : Chg [] w w5a := hw5a ▸ hb5.alloc _
    have hQ5a := hw5a ▸ hQ5.alloc (.cells #[.int .i64 3, .int .i64 7, .bool true, .string ⟨#[119]⟩] 29)
    have hce : w5a.heap[w5.heap.size]? = some (.cells #[.int .i64 3, .int .i64 7, .bool true, .string ⟨#[119]⟩] 29) := by rw [← hw5a]; simp -dsimp (disch := (first | omega | (simp only [go_sem, Nat.reduceAdd]; done) | (simp only [go_sem, Nat.reduceAdd]; omega))) only [go_sem, reduceIte, reduceCtorEq, Nat.reduceAdd, Nat.reduceMul, Nat.reduceSub, Nat.reduceDiv, Nat.reduceMod, Nat.reduceEqDiff, Nat.reduceLT, Nat.reduceLeDiff, Nat.reducePow, Int.reduceNeg, Int.reduceAdd, Int.reduceSub, Int.reduceMul, Int.reduceEq, Int.reduceNe, Int.reduceLT, Int.reduceLE, Int.reduceToNat, Int.reduceTDiv, Int.reduceTMod, Int.reduceFDiv, Int.reducePow]
    have hge := hb5.size
    have hqge := lt_of_heap hQ5.hq
    obtain ⟨s5, r5, hcc5⟩ := hQ5.hc
    have hcge := lt_of_heap hcc5
    clear hw5a hcc5
    have p2 : ({ cap := S.cap, l := [], needs := false, dropped := S.dropped + S.l.length } : Qs).push ⟨3, 8, false, ⟨#[]⟩⟩ = (true, { cap := S.cap, l := [⟨3, 8, false, ⟨#[]⟩⟩], needs := false, dropped := S.dropped + S.l.length }) := by
      simp [Qs.push, hw2]; omega
    refine OpX.call queue_Queue_Push_b rfl (Calls.ret (push_c ⟨3, 8, false, ⟨#[]⟩⟩ hQ5a (by dsimp only; omega)) ?_)
    rw [p2]
    rintro v w6 ⟨-, hc6, hQ6⟩
    dsimp only at hQ6
    have hb6 := hb5a.trans hc6 (by simp; omega)
    have hce6 := hc6.keep hce (by simp; omega)
    refine OpX.call queue_Queue_Len_b rfl (Calls.ret (len_c hQ6) ?_)
    rintro v w7 ⟨rfl, rfl⟩
    refine OpX.call queue_Queue_Want_b rfl (Calls.ret (want_c hQ6 (by dsimp only; omega)) ?_)
    rintro v w8 ⟨-, hc8, hQ8⟩
    have hb8 := hb6.trans hc8 (by simp; omega)
    have hce8 := hc8.keep hce6 (by simp; omega)
    simp -dsimp (disch := (first | omega | (simp only [go_sem, Nat.reduceAdd]; done) | (simp only [go_sem, Nat.reduceAdd]; omega))) only [go_sem, reduceIte, reduceCtorEq, Nat.reduceAdd, Nat.reduceMul, Nat.reduceSub, Nat.reduceDiv, Nat.reduceMod, Nat.reduceEqDiff, Nat.reduceLT, Nat.reduceLeDiff, Nat.reducePow, Int.reduceNeg, Int.reduceAdd, Int.reduceSub, Int.reduceMul, Int.reduceEq, Int.reduceNe, Int.reduceLT, Int.reduceLE, Int.reduceToNat, Int.reduceTDiv, Int.reduceTMod, Int.reduceFDiv, Int.reducePow]
    obtain ⟨S8, hS8⟩ : ∃ S8, S8 = ({ cap := S.cap, l := [⟨3, 8, false, ⟨#[]⟩⟩], needs := false, dropped := S.dropped + S.l.length } : Qs).want := ⟨_, rfl⟩
    rw [← hS8] at hQ8
    have p3 : S8.push ⟨3, 9, false, ⟨#[]⟩⟩ = (false, { S8 with dropped := S8.dropped + 1 }) := by
      rw [hS8]; simp [Qs.push, hw3, Qs.want]
    refine OpX.call queue_Queue_Push_b rfl (Calls.ret (push_c ⟨3, 9, false, ⟨#[]⟩⟩ hQ8 (by rw [hS8]; simp [Qs.want]; omega)) ?_)
    rw [p3]
    rintro v w9 ⟨rfl, hc9, hQ9⟩
    dsimp only at hQ9
    have hb9 := hb8.trans hc9 (by simp; omega)
    have hce9 := hc9.keep hce8 (by simp; omega)
    refine Join1.inl ?_
    simp -dsimp (disch := (first | omega | (simp only [go_sem, Nat.reduceAdd]; done) | (simp only [go_sem, Nat.reduceAdd]; omega))) only [go_sem, reduceIte, reduceCtorEq, Nat.reduceAdd, Nat.reduceMul, Nat.reduceSub, Nat.reduceDiv, Nat.reduceMod, Nat.reduceEqDiff, Nat.reduceLT, Nat.reduceLeDiff, Nat.reducePow, Int.reduceNeg, Int.reduceAdd, Int.reduceSub, Int.reduceMul, Int.reduceEq, Int.reduceNe, Int.reduceLT, Int.reduceLE, Int.reduceToNat, Int.reduceTDiv, Int.reduceTMod, Int.reduceFDiv, Int.reducePow, hce9]
    refine OpX.call queue_Queue_Len_b rfl (Calls.ret (len_c hQ9) ?_)
    rintro v w10 ⟨rfl, rfl⟩
    have hl : (S8.l.length : Int) = 0 := by rw [hS8]; rfl
    rw [hl]
    simp -dsimp (disch := (first | omega | (simp only [go_sem, Nat.reduceAdd]; done) | (simp only [go_sem, Nat.reduceAdd]; omega))) only [go_sem, reduceIte, reduceCtorEq, Nat.reduceAdd, Nat.reduceMul, Nat.reduceSub, Nat.reduceDiv, Nat.reduceMod, Nat.reduceEqDiff, Nat.reduceLT, Nat.reduceLeDiff, Nat.reducePow, Int.reduceNeg, Int.reduceAdd, Int.reduceSub, Int.reduceMul, Int.reduceEq, Int.reduceNe, Int.reduceLT, Int.reduceLE, Int.reduceToNat, Int.reduceTDiv, Int.reduceTMod, Int.reduceFDiv, Int.reducePow]
    refine OpX.call queue_Queue_Needs_b rfl (Calls.ret (needs_c hQ9) ?_)
    rintro v w10 ⟨rfl, rfl⟩
    exact hK _ _ ⟨by rw [hS8]; rfl, hb9⟩
end Go.Proofs.Ytdjdeahmhenchaa
