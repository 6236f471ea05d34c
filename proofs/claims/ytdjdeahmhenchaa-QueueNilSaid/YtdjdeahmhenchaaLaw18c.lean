/- The laws of layer 18, walked: QueueNil. -/
import Derived.Test.YtdjdeahmhenchaaLaw18
import Derived.Test.YtdjdeahmhenchaaLycOps5
set_option linter.unusedSimpArgs false
set_option linter.unusedVariables false
namespace Go.Proofs.Ytdjdeahmhenchaa
open Lyc Go

theorem push_nil (w : World) (f : Fr) : Calls Try.prog 19 #[.pointer none, f.v] w (retK fun v w' => v = .bool false ∧ Chg [] w w') := by
  apply queue_Queue_Push_link
  intro K hK
  unfold queue_Queue_Push
  unfold Fr.v Fr.cells
  simp -dsimp (disch := (first | omega | (simp only [go_sem, Nat.reduceAdd]; done) | (simp only [go_sem, Nat.reduceAdd]; omega))) only [go_sem, reduceIte, reduceCtorEq, Nat.reduceAdd, Nat.reduceMul, Nat.reduceSub, Nat.reduceDiv, Nat.reduceMod, Nat.reduceEqDiff, Nat.reduceLT, Nat.reduceLeDiff, Nat.reducePow, Int.reduceNeg, Int.reduceAdd, Int.reduceSub, Int.reduceMul, Int.reduceEq, Int.reduceNe, Int.reduceLT, Int.reduceLE, Int.reduceToNat, Int.reduceTDiv, Int.reduceTMod, Int.reduceFDiv, Int.reducePow]
  refine Join1.inl ?_
  refine OpX.call queue_Queue_none_b rfl (Calls.ret (none_nil _) ?_)
  rintro v w1 ⟨rfl, rfl⟩
  simp -dsimp (disch := (first | omega | (simp only [go_sem, Nat.reduceAdd]; done) | (simp only [go_sem, Nat.reduceAdd]; omega))) only [go_sem, reduceIte, reduceCtorEq, Nat.reduceAdd, Nat.reduceMul, Nat.reduceSub, Nat.reduceDiv, Nat.reduceMod, Nat.reduceEqDiff, Nat.reduceLT, Nat.reduceLeDiff, Nat.reducePow, Int.reduceNeg, Int.reduceAdd, Int.reduceSub, Int.reduceMul, Int.reduceEq, Int.reduceNe, Int.reduceLT, Int.reduceLE, Int.reduceToNat, Int.reduceTDiv, Int.reduceTMod, Int.reduceFDiv, Int.reducePow]
  exact hK _ _ ⟨rfl, (Chg.refl _ _).alloc _⟩
theorem push_new (F : Fr) : ((Qs.new 3).push F).1 = (F.ok && F.key) ∧ ((Qs.new 3).push F).2.needs = !(F.ok && F.key) := by
  cases h : F.ok <;> cases h2 : F.key <;> simp [Qs.push, Qs.new, h, h2]

theorem nil18_c (w : World) (f : Fr) (hf : f.body.size ≤ 9223372036854775807) : Calls Try.prog 5 #[f.v] w (retK fun v w' => v = .bool true ∧ Chg [] w w') := by
  apply lyceumlaw18_QueueNil_link
  intro K hK
  unfold lyceumlaw18_QueueNil
  unfold Fr.v Fr.cells
  simp -dsimp (disch := (first | omega | (simp only [go_sem, Nat.reduceAdd]; done) | (simp only [go_sem, Nat.reduceAdd]; omega))) only [go_sem, reduceIte, reduceCtorEq, Nat.reduceAdd, Nat.reduceMul, Nat.reduceSub, Nat.reduceDiv, Nat.reduceMod, Nat.reduceEqDiff, Nat.reduceLT, Nat.reduceLeDiff, Nat.reducePow, Int.reduceNeg, Int.reduceAdd, Int.reduceSub, Int.reduceMul, Int.reduceEq, Int.reduceNe, Int.reduceLT, Int.reduceLE, Int.reduceToNat, Int.reduceTDiv, Int.reduceTMod, Int.reduceFDiv, Int.reducePow]
  refine Join0.cutK (fun w' => Chg [] w w' ∧ w.heap.size < w'.heap.size ∧ ∃ b, w'.heap[w.heap.size]? = some (.cells #[.int .i64 f.gen, .int .i64 f.seq, .bool f.key, .string b] 29)) (fun k hk => ?_) ?_
  · simp -dsimp (disch := (first | omega | (simp only [go_sem, Nat.reduceAdd]; done) | (simp only [go_sem, Nat.reduceAdd]; omega))) only [go_sem, reduceIte, reduceCtorEq, Nat.reduceAdd, Nat.reduceMul, Nat.reduceSub, Nat.reduceDiv, Nat.reduceMod, Nat.reduceEqDiff, Nat.reduceLT, Nat.reduceLeDiff, Nat.reducePow, Int.reduceNeg, Int.reduceAdd, Int.reduceSub, Int.reduceMul, Int.reduceEq, Int.reduceNe, Int.reduceLT, Int.reduceLE, Int.reduceToNat, Int.reduceTDiv, Int.reduceTMod, Int.reduceFDiv, Int.reducePow]
    refine BrW.dec (fun h => ?_) (fun h => ?_)
    · simp -dsimp (disch := (first | omega | (simp only [go_sem, Nat.reduceAdd]; done) | (simp only [go_sem, Nat.reduceAdd]; omega))) only [go_sem, reduceIte, reduceCtorEq, Nat.reduceAdd, Nat.reduceMul, Nat.reduceSub, Nat.reduceDiv, Nat.reduceMod, Nat.reduceEqDiff, Nat.reduceLT, Nat.reduceLeDiff, Nat.reducePow, Int.reduceNeg, Int.reduceAdd, Int.reduceSub, Int.reduceMul, Int.reduceEq, Int.reduceNe, Int.reduceLT, Int.reduceLE, Int.reduceToNat, Int.reduceTDiv, Int.reduceTMod, Int.reduceFDiv, Int.reducePow]
      exact hk _ ⟨(Chg.refl _ _).alloc _, by simp, _, heap_alloc_new w _⟩
    · exact hk _ ⟨(Chg.refl _ _).alloc _, by simp, _, heap_alloc_new w _⟩
  rintro w1 ⟨hc1, hlt, b, hb⟩
  refine OpX.call queue_Queue_Want_b rfl (Calls.ret (want_nil w1) ?_)
  rintro v w2 ⟨rfl, rfl⟩
  refine OpX.call queue_Queue_Pop_b rfl (Calls.ret (pop_nil w1) ?_)
  rintro v w2 ⟨rfl, hc2⟩
  unfold popV Fr.zero Fr.v Fr.cells
  simp -dsimp (disch := (first | omega | (simp only [go_sem, Nat.reduceAdd]; done) | (simp only [go_sem, Nat.reduceAdd]; omega))) only [go_sem, reduceIte, reduceCtorEq, Nat.reduceAdd, Nat.reduceMul, Nat.reduceSub, Nat.reduceDiv, Nat.reduceMod, Nat.reduceEqDiff, Nat.reduceLT, Nat.reduceLeDiff, Nat.reducePow, Int.reduceNeg, Int.reduceAdd, Int.reduceSub, Int.reduceMul, Int.reduceEq, Int.reduceNe, Int.reduceLT, Int.reduceLE, Int.reduceToNat, Int.reduceTDiv, Int.reduceTMod, Int.reduceFDiv, Int.reducePow]
  have hc3 := hc1.trans0 (hc2.alloc (.cells #[.int .i64 0, .int .i64 0, .bool false, .string ⟨#[]⟩] 29))
  have hb3 := (hc2.alloc (.cells #[.int .i64 0, .int .i64 0, .bool false, .string ⟨#[]⟩] 29)).keep hb (by simp)
  refine OpX.call queue_New_b rfl (Calls.ret (new_c _ 3) ?_)
  rintro v w3 ⟨q, c, rfl, hq, hc, hc4, hQ4⟩
  have hc5 := hc3.trans0 hc4
  have hb5 := hc4.keep hb3 (by simp)
  have hle := hc3.size
  have hle2 := hc2.size
  have hqw : w.heap.size < q := by simp at hq; omega
  have hcw : w.heap.size < c := by simp at hc; omega
  simp -dsimp (disch := (first | omega | (simp only [go_sem, Nat.reduceAdd]; done) | (simp only [go_sem, Nat.reduceAdd]; omega))) only [go_sem, reduceIte, reduceCtorEq, Nat.reduceAdd, Nat.reduceMul, Nat.reduceSub, Nat.reduceDiv, Nat.reduceMod, Nat.reduceEqDiff, Nat.reduceLT, Nat.reduceLeDiff, Nat.reducePow, Int.reduceNeg, Int.reduceAdd, Int.reduceSub, Int.reduceMul, Int.reduceEq, Int.reduceNe, Int.reduceLT, Int.reduceLE, Int.reduceToNat, Int.reduceTDiv, Int.reduceTMod, Int.reduceFDiv, Int.reducePow]
  obtain ⟨F, hF⟩ : ∃ F : Fr, F = ⟨f.gen, f.seq, f.key, b⟩ := ⟨_, rfl⟩
  have hbF : w3.heap[w.heap.size]? = some (.cells #[.int .i64 F.gen, .int .i64 F.seq, .bool F.key, .string F.body] 29) := by rw [hF]; exact hb5
  refine Join1.cutK (fun v w' => w' = w3 ∧ v = .bool F.ok) (fun k hk => ?_) ?_
  · simp -dsimp (disch := (first | omega | (simp only [go_sem, Nat.reduceAdd]; done) | (simp only [go_sem, Nat.reduceAdd]; omega))) only [go_sem, reduceIte, reduceCtorEq, Nat.reduceAdd, Nat.reduceMul, Nat.reduceSub, Nat.reduceDiv, Nat.reduceMod, Nat.reduceEqDiff, Nat.reduceLT, Nat.reduceLeDiff, Nat.reducePow, Int.reduceNeg, Int.reduceAdd, Int.reduceSub, Int.reduceMul, Int.reduceEq, Int.reduceNe, Int.reduceLT, Int.reduceLE, Int.reduceToNat, Int.reduceTDiv, Int.reduceTMod, Int.reduceFDiv, Int.reducePow, hbF]
    refine BrW.dec (fun h1 => ?_) (fun h1 => hk _ _ ⟨rfl, by simp [Fr.ok, h1]⟩)
    simp -dsimp (disch := (first | omega | (simp only [go_sem, Nat.reduceAdd]; done) | (simp only [go_sem, Nat.reduceAdd]; omega))) only [go_sem, reduceIte, reduceCtorEq, Nat.reduceAdd, Nat.reduceMul, Nat.reduceSub, Nat.reduceDiv, Nat.reduceMod, Nat.reduceEqDiff, Nat.reduceLT, Nat.reduceLeDiff, Nat.reducePow, Int.reduceNeg, Int.reduceAdd, Int.reduceSub, Int.reduceMul, Int.reduceEq, Int.reduceNe, Int.reduceLT, Int.reduceLE, Int.reduceToNat, Int.reduceTDiv, Int.reduceTMod, Int.reduceFDiv, Int.reducePow, hbF]
    refine BrW.dec (fun h2 => ?_) (fun h2 => hk _ _ ⟨rfl, by simp [Fr.ok, h2]⟩)
    simp -dsimp (disch := (first | omega | (simp only [go_sem, Nat.reduceAdd]; done) | (simp only [go_sem, Nat.reduceAdd]; omega))) only [go_sem, reduceIte, reduceCtorEq, Nat.reduceAdd, Nat.reduceMul, Nat.reduceSub, Nat.reduceDiv, Nat.reduceMod, Nat.reduceEqDiff, Nat.reduceLT, Nat.reduceLeDiff, Nat.reducePow, Int.reduceNeg, Int.reduceAdd, Int.reduceSub, Int.reduceMul, Int.reduceEq, Int.reduceNe, Int.reduceLT, Int.reduceLE, Int.reduceToNat, Int.reduceTDiv, Int.reduceTMod, Int.reduceFDiv, Int.reducePow, hbF]
    refine BrW.dec (fun h3 => ?_) (fun h3 => hk _ _ ⟨rfl, by simp [Fr.ok, h3]⟩)
    simp -dsimp (disch := (first | omega | (simp only [go_sem, Nat.reduceAdd]; done) | (simp only [go_sem, Nat.reduceAdd]; omega))) only [go_sem, reduceIte, reduceCtorEq, Nat.reduceAdd, Nat.reduceMul, Nat.reduceSub, Nat.reduceDiv, Nat.reduceMod, Nat.reduceEqDiff, Nat.reduceLT, Nat.reduceLeDiff, Nat.reducePow, Int.reduceNeg, Int.reduceAdd, Int.reduceSub, Int.reduceMul, Int.reduceEq, Int.reduceNe, Int.reduceLT, Int.reduceLE, Int.reduceToNat, Int.reduceTDiv, Int.reduceTMod, Int.reduceFDiv, Int.reducePow, hbF]
    exact hk _ _ ⟨rfl, by simp [Fr.ok, h1, h2, h3]⟩
  rintro _ _ ⟨rfl, rfl⟩
  refine Join1.inl ?_
  refine OpX.call lyceumlaw18_awake_b rfl (Calls.ret (awake18_c _) ?_)
  rintro v w6 ⟨rfl, hc6⟩
  have hc7 := hc5.trans0 hc6
  have hb7 := hc6.keep hbF (by simp)
  have hQ7 := hQ4.chg hc6 (by simp) (by simp)
  simp -dsimp (disch := (first | omega | (simp only [go_sem, Nat.reduceAdd]; done) | (simp only [go_sem, Nat.reduceAdd]; omega))) only [go_sem, reduceIte, reduceCtorEq, Nat.reduceAdd, Nat.reduceMul, Nat.reduceSub, Nat.reduceDiv, Nat.reduceMod, Nat.reduceEqDiff, Nat.reduceLT, Nat.reduceLeDiff, Nat.reducePow, Int.reduceNeg, Int.reduceAdd, Int.reduceSub, Int.reduceMul, Int.reduceEq, Int.reduceNe, Int.reduceLT, Int.reduceLE, Int.reduceToNat, Int.reduceTDiv, Int.reduceTMod, Int.reduceFDiv, Int.reducePow, hb7]
  refine OpX.call queue_Queue_Push_b rfl (Calls.ret (push_nil w6 F) ?_)
  rintro v w8 ⟨rfl, hc8⟩
  have hc9 := hc7.trans0 hc8
  have hb9 := hc8.keep hb7 (by simp)
  have hQ9 := hQ7.chg hc8 (by simp) (by simp)
  simp -dsimp (disch := (first | omega | (simp only [go_sem, Nat.reduceAdd]; done) | (simp only [go_sem, Nat.reduceAdd]; omega))) only [go_sem, reduceIte, reduceCtorEq, Nat.reduceAdd, Nat.reduceMul, Nat.reduceSub, Nat.reduceDiv, Nat.reduceMod, Nat.reduceEqDiff, Nat.reduceLT, Nat.reduceLeDiff, Nat.reducePow, Int.reduceNeg, Int.reduceAdd, Int.reduceSub, Int.reduceMul, Int.reduceEq, Int.reduceNe, Int.reduceLT, Int.reduceLE, Int.reduceToNat, Int.reduceTDiv, Int.reduceTMod, Int.reduceFDiv, Int.reducePow]
  refine OpX.call queue_Queue_Needs_b rfl (Calls.ret (needs_nil _) ?_)
  rintro v w10 ⟨rfl, rfl⟩
  simp -dsimp (disch := (first | omega | (simp only [go_sem, Nat.reduceAdd]; done) | (simp only [go_sem, Nat.reduceAdd]; omega))) only [go_sem, reduceIte, reduceCtorEq, Nat.reduceAdd, Nat.reduceMul, Nat.reduceSub, Nat.reduceDiv, Nat.reduceMod, Nat.reduceEqDiff, Nat.reduceLT, Nat.reduceLeDiff, Nat.reducePow, Int.reduceNeg, Int.reduceAdd, Int.reduceSub, Int.reduceMul, Int.reduceEq, Int.reduceNe, Int.reduceLT, Int.reduceLE, Int.reduceToNat, Int.reduceTDiv, Int.reduceTMod, Int.reduceFDiv, Int.reducePow]
  refine OpX.call queue_Queue_Len_b rfl (Calls.ret (len_nil _) ?_)
  rintro v w10 ⟨rfl, rfl⟩
  try simp -dsimp (disch := (first | omega | (simp only [go_sem, Nat.reduceAdd]; done) | (simp only [go_sem, Nat.reduceAdd]; omega))) only [go_sem, reduceIte, reduceCtorEq, Nat.reduceAdd, Nat.reduceMul, Nat.reduceSub, Nat.reduceDiv, Nat.reduceMod, Nat.reduceEqDiff, Nat.reduceLT, Nat.reduceLeDiff, Nat.reducePow, Int.reduceNeg, Int.reduceAdd, Int.reduceSub, Int.reduceMul, Int.reduceEq, Int.reduceNe, Int.reduceLT, Int.reduceLE, Int.reduceToNat, Int.reduceTDiv, Int.reduceTMod, Int.reduceFDiv, Int.reducePow]
  refine OpX.call queue_Queue_Dropped_b rfl (Calls.ret (dropped_nil _) ?_)
  rintro v w10 ⟨rfl, rfl⟩
  simp -dsimp (disch := (first | omega | (simp only [go_sem, Nat.reduceAdd]; done) | (simp only [go_sem, Nat.reduceAdd]; omega))) only [go_sem, reduceIte, reduceCtorEq, Nat.reduceAdd, Nat.reduceMul, Nat.reduceSub, Nat.reduceDiv, Nat.reduceMod, Nat.reduceEqDiff, Nat.reduceLT, Nat.reduceLeDiff, Nat.reducePow, Int.reduceNeg, Int.reduceAdd, Int.reduceSub, Int.reduceMul, Int.reduceEq, Int.reduceNe, Int.reduceLT, Int.reduceLE, Int.reduceToNat, Int.reduceTDiv, Int.reduceTMod, Int.reduceFDiv, Int.reducePow, hb9]
  refine OpX.call queue_Queue_Push_b rfl (Calls.ret (push_c F hQ9 (by simp [Qs.new])) ?_)
  rintro v w11 ⟨rfl, hc11, hQ11⟩
  have hc12 := hc9.trans hc11 (by simp; omega)
  have hb12 := hc11.keep hb9 (by simp; omega)
  obtain ⟨e1, e2⟩ := push_new F
  rw [e1]
  cases hok : F.ok with
  | true =>
    simp -dsimp (disch := (first | omega | (simp only [go_sem, Nat.reduceAdd]; done) | (simp only [go_sem, Nat.reduceAdd]; omega))) only [go_sem, reduceIte, reduceCtorEq, Nat.reduceAdd, Nat.reduceMul, Nat.reduceSub, Nat.reduceDiv, Nat.reduceMod, Nat.reduceEqDiff, Nat.reduceLT, Nat.reduceLeDiff, Nat.reducePow, Int.reduceNeg, Int.reduceAdd, Int.reduceSub, Int.reduceMul, Int.reduceEq, Int.reduceNe, Int.reduceLT, Int.reduceLE, Int.reduceToNat, Int.reduceTDiv, Int.reduceTMod, Int.reduceFDiv, Int.reducePow, hb12]
    cases hk : F.key with
    | true =>
      try simp -dsimp (disch := (first | omega | (simp only [go_sem, Nat.reduceAdd]; done) | (simp only [go_sem, Nat.reduceAdd]; omega))) only [go_sem, reduceIte, reduceCtorEq, Nat.reduceAdd, Nat.reduceMul, Nat.reduceSub, Nat.reduceDiv, Nat.reduceMod, Nat.reduceEqDiff, Nat.reduceLT, Nat.reduceLeDiff, Nat.reducePow, Int.reduceNeg, Int.reduceAdd, Int.reduceSub, Int.reduceMul, Int.reduceEq, Int.reduceNe, Int.reduceLT, Int.reduceLE, Int.reduceToNat, Int.reduceTDiv, Int.reduceTMod, Int.reduceFDiv, Int.reducePow]
      refine OpX.call queue_Queue_Needs_b rfl (Calls.ret (needs_c hQ11) ?_)
      rintro v w13 ⟨rfl, rfl⟩
      rw [e2, hok, hk]
      simp -dsimp (disch := (first | omega | (simp only [go_sem, Nat.reduceAdd]; done) | (simp only [go_sem, Nat.reduceAdd]; omega))) only [go_sem, reduceIte, reduceCtorEq, Nat.reduceAdd, Nat.reduceMul, Nat.reduceSub, Nat.reduceDiv, Nat.reduceMod, Nat.reduceEqDiff, Nat.reduceLT, Nat.reduceLeDiff, Nat.reducePow, Int.reduceNeg, Int.reduceAdd, Int.reduceSub, Int.reduceMul, Int.reduceEq, Int.reduceNe, Int.reduceLT, Int.reduceLE, Int.reduceToNat, Int.reduceTDiv, Int.reduceTMod, Int.reduceFDiv, Int.reducePow, hb12, hk]
      exact hK _ _ ⟨rfl, hc12⟩
    | false =>
      try simp -dsimp (disch := (first | omega | (simp only [go_sem, Nat.reduceAdd]; done) | (simp only [go_sem, Nat.reduceAdd]; omega))) only [go_sem, reduceIte, reduceCtorEq, Nat.reduceAdd, Nat.reduceMul, Nat.reduceSub, Nat.reduceDiv, Nat.reduceMod, Nat.reduceEqDiff, Nat.reduceLT, Nat.reduceLeDiff, Nat.reducePow, Int.reduceNeg, Int.reduceAdd, Int.reduceSub, Int.reduceMul, Int.reduceEq, Int.reduceNe, Int.reduceLT, Int.reduceLE, Int.reduceToNat, Int.reduceTDiv, Int.reduceTMod, Int.reduceFDiv, Int.reducePow]
      refine OpX.call queue_Queue_Needs_b rfl (Calls.ret (needs_c hQ11) ?_)
      rintro v w13 ⟨rfl, rfl⟩
      rw [e2, hok, hk]
      simp -dsimp (disch := (first | omega | (simp only [go_sem, Nat.reduceAdd]; done) | (simp only [go_sem, Nat.reduceAdd]; omega))) only [go_sem, reduceIte, reduceCtorEq, Nat.reduceAdd, Nat.reduceMul, Nat.reduceSub, Nat.reduceDiv, Nat.reduceMod, Nat.reduceEqDiff, Nat.reduceLT, Nat.reduceLeDiff, Nat.reducePow, Int.reduceNeg, Int.reduceAdd, Int.reduceSub, Int.reduceMul, Int.reduceEq, Int.reduceNe, Int.reduceLT, Int.reduceLE, Int.reduceToNat, Int.reduceTDiv, Int.reduceTMod, Int.reduceFDiv, Int.reducePow, hb12, hk]
      exact hK _ _ ⟨rfl, hc12⟩
  | false =>
    try simp -dsimp (disch := (first | omega | (simp only [go_sem, Nat.reduceAdd]; done) | (simp only [go_sem, Nat.reduceAdd]; omega))) only [go_sem, reduceIte, reduceCtorEq, Nat.reduceAdd, Nat.reduceMul, Nat.reduceSub, Nat.reduceDiv, Nat.reduceMod, Nat.reduceEqDiff, Nat.reduceLT, Nat.reduceLeDiff, Nat.reducePow, Int.reduceNeg, Int.reduceAdd, Int.reduceSub, Int.reduceMul, Int.reduceEq, Int.reduceNe, Int.reduceLT, Int.reduceLE, Int.reduceToNat, Int.reduceTDiv, Int.reduceTMod, Int.reduceFDiv, Int.reducePow, hb12]
    refine OpX.call queue_Queue_Needs_b rfl (Calls.ret (needs_c hQ11) ?_)
    rintro v w13 ⟨rfl, rfl⟩
    rw [e2, hok]
    simp -dsimp (disch := (first | omega | (simp only [go_sem, Nat.reduceAdd]; done) | (simp only [go_sem, Nat.reduceAdd]; omega))) only [go_sem, reduceIte, reduceCtorEq, Nat.reduceAdd, Nat.reduceMul, Nat.reduceSub, Nat.reduceDiv, Nat.reduceMod, Nat.reduceEqDiff, Nat.reduceLT, Nat.reduceLeDiff, Nat.reducePow, Int.reduceNeg, Int.reduceAdd, Int.reduceSub, Int.reduceMul, Int.reduceEq, Int.reduceNe, Int.reduceLT, Int.reduceLE, Int.reduceToNat, Int.reduceTDiv, Int.reduceTMod, Int.reduceFDiv, Int.reducePow]
    exact hK _ _ ⟨rfl, hc12⟩
end Go.Proofs.Ytdjdeahmhenchaa
