/- The laws of layer 20, walked: KidsQueues. -/
import Derived.Test.YtdjdeahmhenchaaLaw20
set_option linter.unusedSimpArgs false
set_option linter.unusedVariables false
namespace Go.Proofs.Ytdjdeahmhenchaa
open Lyc Go

theorem queues_c {w : World} (frames a b : Int) :
    Calls Try.prog 6 #[.int .i64 frames, .int .i64 a, .int .i64 b] w (retK fun v w' => v = .bool true ∧ Chg [] w w') := by
  apply lyceumlaw20_KidsQueues_link
  intro K hK
  unfold lyceumlaw20_KidsQueues
  refine OpX.call lyceumlaw20_awake_b rfl (Calls.ret (awake20_c w) ?_)
  rintro v w1 ⟨rfl, hc1⟩
  have hx := and_bd a 15 (by omega) (by omega)
  have hr := tmod_bd b 14 (by omega)
  have e2 : (b.tmod 14 + 14).tmod 14 = (b.tmod 14 + 14) % 14 := Int.tmod_eq_emod_of_nonneg (by omega)
  have e3 : (bitV .and .i64 a 15 + 1 + (b.tmod 14 + 14) % 14).tmod 16 = (bitV .and .i64 a 15 + 1 + (b.tmod 14 + 14) % 14) % 16 := Int.tmod_eq_emod_of_nonneg (by omega)
  simp -dsimp (disch := (first | omega | (simp only [go_sem, Nat.reduceAdd]; done) | (simp only [go_sem, Nat.reduceAdd]; omega))) only [go_sem, reduceIte, reduceCtorEq, Nat.reduceAdd, Nat.reduceMul, Nat.reduceSub, Nat.reduceDiv, Nat.reduceMod, Nat.reduceEqDiff, Nat.reduceLT, Nat.reduceLeDiff, Nat.reducePow, Int.reduceNeg, Int.reduceAdd, Int.reduceSub, Int.reduceMul, Int.reduceEq, Int.reduceNe, Int.reduceLT, Int.reduceLE, Int.reduceToNat, Int.reduceTDiv, Int.reduceTMod, Int.reduceFDiv, Int.reducePow, e2]
  generalize hy : (bitV .and .i64 a 15 + 1 + (b.tmod 14 + 14) % 14).tmod 16 = y at e3 ⊢
  generalize bitV .and .i64 a 15 = x at hx hy e3
  have hxy : x ≠ y ∧ 0 ≤ y ∧ y < 16 := by omega
  clear hy e2 e3 hr
  refine OpX.call kids_New_b rfl (Calls.ret (knew_c w1 15 frames) ?_)
  rintro v w2 ⟨k, m, rfl, hk, hm, hc2, hT2⟩
  have hb2 := hc1.trans0 hc2
  have hle1 := hc1.size
  have hle2 := hb2.size
  refine Join1.inl ?_
  simp -dsimp (disch := (first | omega | (simp only [go_sem, Nat.reduceAdd]; done) | (simp only [go_sem, Nat.reduceAdd]; omega))) only [go_sem, reduceIte, reduceCtorEq, Nat.reduceAdd, Nat.reduceMul, Nat.reduceSub, Nat.reduceDiv, Nat.reduceMod, Nat.reduceEqDiff, Nat.reduceLT, Nat.reduceLeDiff, Nat.reducePow, Int.reduceNeg, Int.reduceAdd, Int.reduceSub, Int.reduceMul, Int.reduceEq, Int.reduceNe, Int.reduceLT, Int.reduceLE, Int.reduceToNat, Int.reduceTDiv, Int.reduceTMod, Int.reduceFDiv, Int.reducePow]
  have hd : min (max (15 : Int) 0) 15 = 15 := by decide
  refine OpX.call kids_Kids_Add_b rfl (Calls.ret (kadd_new hT2 x (by omega) (by omega) (by simp [Kt.find, Kt.new]) (by simp [Kt.new, hd])) ?_)
  rintro v w3 ⟨b1, q1, c1, rfl, hb1, hq1, hcc1, hc3, hT3⟩
  have hb3 := hb2.trans hc3 (by simp; omega)
  have hle3 := hb3.size
  simp -dsimp (disch := (first | omega | (simp only [go_sem, Nat.reduceAdd]; done) | (simp only [go_sem, Nat.reduceAdd]; omega))) only [go_sem, reduceIte, reduceCtorEq, Nat.reduceAdd, Nat.reduceMul, Nat.reduceSub, Nat.reduceDiv, Nat.reduceMod, Nat.reduceEqDiff, Nat.reduceLT, Nat.reduceLeDiff, Nat.reducePow, Int.reduceNeg, Int.reduceAdd, Int.reduceSub, Int.reduceMul, Int.reduceEq, Int.reduceNe, Int.reduceLT, Int.reduceLE, Int.reduceToNat, Int.reduceTDiv, Int.reduceTMod, Int.reduceFDiv, Int.reducePow]
  have hne : (x == y) = false := by simp; omega
  have hne' : (y == x) = false := by simp; omega
  have f3 : ((Kt.new 15 frames).add x b1 q1 c1).find y = none := by simp [Kt.find, Kt.add, Kt.new]; omega
  have r3 : ((((Kt.new 15 frames).add x b1 q1 c1).kids.length : Nat) : Int) < ((Kt.new 15 frames).add x b1 q1 c1).room := by
    show (1 : Int) < min (max 15 0) 15
    decide
  have y0 : 0 ≤ y := hxy.2.1
  have y1 : y < 16 := hxy.2.2
  refine OpX.call kids_Kids_Add_b rfl (Calls.ret (kadd_new hT3 y y0 y1 f3 r3) ?_)
  rintro v w4 ⟨b2, q2, c2, rfl, hb2', hq2, hcc2, hc4, hT4⟩
  have hb4 := hb3.trans hc4 (by simp; omega)
  have hle4 := hb4.size
  simp -dsimp (disch := (first | omega | (simp only [go_sem, Nat.reduceAdd]; done) | (simp only [go_sem, Nat.reduceAdd]; omega))) only [go_sem, reduceIte, reduceCtorEq, Nat.reduceAdd, Nat.reduceMul, Nat.reduceSub, Nat.reduceDiv, Nat.reduceMod, Nat.reduceEqDiff, Nat.reduceLT, Nat.reduceLeDiff, Nat.reducePow, Int.reduceNeg, Int.reduceAdd, Int.reduceSub, Int.reduceMul, Int.reduceEq, Int.reduceNe, Int.reduceLT, Int.reduceLE, Int.reduceToNat, Int.reduceTDiv, Int.reduceTMod, Int.reduceFDiv, Int.reducePow]
  generalize hT4e : ((Kt.new 15 frames).add x b1 q1 c1).add y b2 q2 c2 = T4 at hT4
  have f4x : T4.find x = some ⟨x, b1, q1, c1, 0, 0, Qs.new frames⟩ := by rw [← hT4e]; simp [Kt.find, Kt.add, Kt.new]
  have f4y : T4.find y = some ⟨y, b2, q2, c2, 1, 0, Qs.new frames⟩ := by rw [← hT4e]; simp [Kt.find, Kt.add, Kt.new, hne]
  have hQ4 := (hT4.each _ (Kt.find_mem f4x).1).hq
  refine OpX.call kids_Kids_Queue_b rfl (Calls.ret (kqueue_some hT4 x f4x) ?_)
  rintro v w5 ⟨rfl, rfl⟩
  simp -dsimp (disch := (first | omega | (simp only [go_sem, Nat.reduceAdd]; done) | (simp only [go_sem, Nat.reduceAdd]; omega))) only [go_sem, reduceIte, reduceCtorEq, Nat.reduceAdd, Nat.reduceMul, Nat.reduceSub, Nat.reduceDiv, Nat.reduceMod, Nat.reduceEqDiff, Nat.reduceLT, Nat.reduceLeDiff, Nat.reducePow, Int.reduceNeg, Int.reduceAdd, Int.reduceSub, Int.reduceMul, Int.reduceEq, Int.reduceNe, Int.reduceLT, Int.reduceLE, Int.reduceToNat, Int.reduceTDiv, Int.reduceTMod, Int.reduceFDiv, Int.reducePow]
  refine OpX.call queue_Queue_Push_b rfl (Calls.ret (push_c ⟨0, 0, true, ⟨#[]⟩⟩ hQ4 (by simp [Qs.new])) ?_)
  rintro v w5 ⟨-, hc5, hQ5⟩
  have hT5 := hT4.setS (Kt.find_mem f4x).1 hc5 hQ5
  have hb5 := hb4.trans hc5 (by simp; omega)
  have hle5 := hb5.size
  generalize hS1 : ((Qs.new frames).push ⟨0, 0, true, ⟨#[]⟩⟩).2 = S1 at hT5 hQ5
  have hl1 : S1.l.length = 1 := by rw [← hS1]; simp [Qs.push, Fr.ok, Qs.new]
  dsimp only at hT5 hQ5
  have f5x : (T4.setS x S1).find x = some ⟨x, b1, q1, c1, 0, 0, S1⟩ := by rw [← hT4e]; simp [Kt.find, Kt.add, Kt.new, Kt.setS]
  have f5y : (T4.setS x S1).find y = some ⟨y, b2, q2, c2, 1, 0, Qs.new frames⟩ := by rw [← hT4e]; simp [Kt.find, Kt.add, Kt.new, Kt.setS, hne, show ¬ y = x by omega]
  refine OpX.call kids_Kids_Queue_b rfl (Calls.ret (kqueue_some hT5 x f5x) ?_)
  rintro v w6 ⟨rfl, rfl⟩
  try simp -dsimp (disch := (first | omega | (simp only [go_sem, Nat.reduceAdd]; done) | (simp only [go_sem, Nat.reduceAdd]; omega))) only [go_sem, reduceIte, reduceCtorEq, Nat.reduceAdd, Nat.reduceMul, Nat.reduceSub, Nat.reduceDiv, Nat.reduceMod, Nat.reduceEqDiff, Nat.reduceLT, Nat.reduceLeDiff, Nat.reducePow, Int.reduceNeg, Int.reduceAdd, Int.reduceSub, Int.reduceMul, Int.reduceEq, Int.reduceNe, Int.reduceLT, Int.reduceLE, Int.reduceToNat, Int.reduceTDiv, Int.reduceTMod, Int.reduceFDiv, Int.reducePow]
  refine OpX.call queue_Queue_Len_b rfl (Calls.ret (len_c (hT5.each _ (Kt.find_mem f5x).1).hq) ?_)
  rintro v w6 ⟨rfl, rfl⟩
  try simp -dsimp (disch := (first | omega | (simp only [go_sem, Nat.reduceAdd]; done) | (simp only [go_sem, Nat.reduceAdd]; omega))) only [go_sem, reduceIte, reduceCtorEq, Nat.reduceAdd, Nat.reduceMul, Nat.reduceSub, Nat.reduceDiv, Nat.reduceMod, Nat.reduceEqDiff, Nat.reduceLT, Nat.reduceLeDiff, Nat.reducePow, Int.reduceNeg, Int.reduceAdd, Int.reduceSub, Int.reduceMul, Int.reduceEq, Int.reduceNe, Int.reduceLT, Int.reduceLE, Int.reduceToNat, Int.reduceTDiv, Int.reduceTMod, Int.reduceFDiv, Int.reducePow]
  refine OpX.call kids_Kids_Queue_b rfl (Calls.ret (kqueue_some hT5 y f5y) ?_)
  rintro v w6 ⟨rfl, rfl⟩
  try simp -dsimp (disch := (first | omega | (simp only [go_sem, Nat.reduceAdd]; done) | (simp only [go_sem, Nat.reduceAdd]; omega))) only [go_sem, reduceIte, reduceCtorEq, Nat.reduceAdd, Nat.reduceMul, Nat.reduceSub, Nat.reduceDiv, Nat.reduceMod, Nat.reduceEqDiff, Nat.reduceLT, Nat.reduceLeDiff, Nat.reducePow, Int.reduceNeg, Int.reduceAdd, Int.reduceSub, Int.reduceMul, Int.reduceEq, Int.reduceNe, Int.reduceLT, Int.reduceLE, Int.reduceToNat, Int.reduceTDiv, Int.reduceTMod, Int.reduceFDiv, Int.reducePow]
  refine OpX.call queue_Queue_Len_b rfl (Calls.ret (len_c (hT5.each _ (Kt.find_mem f5y).1).hq) ?_)
  rintro v w6 ⟨rfl, rfl⟩
  try simp -dsimp (disch := (first | omega | (simp only [go_sem, Nat.reduceAdd]; done) | (simp only [go_sem, Nat.reduceAdd]; omega))) only [go_sem, reduceIte, reduceCtorEq, Nat.reduceAdd, Nat.reduceMul, Nat.reduceSub, Nat.reduceDiv, Nat.reduceMod, Nat.reduceEqDiff, Nat.reduceLT, Nat.reduceLeDiff, Nat.reducePow, Int.reduceNeg, Int.reduceAdd, Int.reduceSub, Int.reduceMul, Int.reduceEq, Int.reduceNe, Int.reduceLT, Int.reduceLE, Int.reduceToNat, Int.reduceTDiv, Int.reduceTMod, Int.reduceFDiv, Int.reducePow]
  refine OpX.call kids_Kids_Add_b rfl (Calls.ret (kadd_some hT5 x f5x) ?_)
  rintro v w6 ⟨rfl, hc6, hT6⟩
  have hb6 := hb5.trans hc6 (by simp; omega)
  have hle6 := hb6.size
  have f6x : ((T4.setS x S1).hear x).find x = some ⟨x, b1, q1, c1, 0, 0, S1⟩ := by rw [← hT4e]; simp [Kt.find, Kt.add, Kt.new, Kt.setS, Kt.hear, Kid.heard]
  try simp -dsimp (disch := (first | omega | (simp only [go_sem, Nat.reduceAdd]; done) | (simp only [go_sem, Nat.reduceAdd]; omega))) only [go_sem, reduceIte, reduceCtorEq, Nat.reduceAdd, Nat.reduceMul, Nat.reduceSub, Nat.reduceDiv, Nat.reduceMod, Nat.reduceEqDiff, Nat.reduceLT, Nat.reduceLeDiff, Nat.reducePow, Int.reduceNeg, Int.reduceAdd, Int.reduceSub, Int.reduceMul, Int.reduceEq, Int.reduceNe, Int.reduceLT, Int.reduceLE, Int.reduceToNat, Int.reduceTDiv, Int.reduceTMod, Int.reduceFDiv, Int.reducePow]
  refine OpX.call kids_Kids_Queue_b rfl (Calls.ret (kqueue_some hT6 x f6x) ?_)
  rintro v w7 ⟨rfl, rfl⟩
  try simp -dsimp (disch := (first | omega | (simp only [go_sem, Nat.reduceAdd]; done) | (simp only [go_sem, Nat.reduceAdd]; omega))) only [go_sem, reduceIte, reduceCtorEq, Nat.reduceAdd, Nat.reduceMul, Nat.reduceSub, Nat.reduceDiv, Nat.reduceMod, Nat.reduceEqDiff, Nat.reduceLT, Nat.reduceLeDiff, Nat.reducePow, Int.reduceNeg, Int.reduceAdd, Int.reduceSub, Int.reduceMul, Int.reduceEq, Int.reduceNe, Int.reduceLT, Int.reduceLE, Int.reduceToNat, Int.reduceTDiv, Int.reduceTMod, Int.reduceFDiv, Int.reducePow]
  refine OpX.call queue_Queue_Len_b rfl (Calls.ret (len_c (hT6.each _ (Kt.find_mem f6x).1).hq) ?_)
  rintro v w7 ⟨rfl, rfl⟩
  try simp -dsimp (disch := (first | omega | (simp only [go_sem, Nat.reduceAdd]; done) | (simp only [go_sem, Nat.reduceAdd]; omega))) only [go_sem, reduceIte, reduceCtorEq, Nat.reduceAdd, Nat.reduceMul, Nat.reduceSub, Nat.reduceDiv, Nat.reduceMod, Nat.reduceEqDiff, Nat.reduceLT, Nat.reduceLeDiff, Nat.reducePow, Int.reduceNeg, Int.reduceAdd, Int.reduceSub, Int.reduceMul, Int.reduceEq, Int.reduceNe, Int.reduceLT, Int.reduceLE, Int.reduceToNat, Int.reduceTDiv, Int.reduceTMod, Int.reduceFDiv, Int.reducePow]
  refine OpX.call kids_Kids_Drop_b rfl (Calls.ret (kdrop_c hT6 x) ?_)
  rintro v w7 ⟨-, hc7, hT7⟩
  have hb7 := hb6.trans hc7 (by simp; omega)
  have hle7 := hb7.size
  have f7x : (((T4.setS x S1).hear x).drop x).find x = none := by rw [← hT4e]; simp [Kt.find, Kt.add, Kt.new, Kt.setS, Kt.hear, Kid.heard, Kt.drop, show ¬ y = x by omega]
  try simp -dsimp (disch := (first | omega | (simp only [go_sem, Nat.reduceAdd]; done) | (simp only [go_sem, Nat.reduceAdd]; omega))) only [go_sem, reduceIte, reduceCtorEq, Nat.reduceAdd, Nat.reduceMul, Nat.reduceSub, Nat.reduceDiv, Nat.reduceMod, Nat.reduceEqDiff, Nat.reduceLT, Nat.reduceLeDiff, Nat.reducePow, Int.reduceNeg, Int.reduceAdd, Int.reduceSub, Int.reduceMul, Int.reduceEq, Int.reduceNe, Int.reduceLT, Int.reduceLE, Int.reduceToNat, Int.reduceTDiv, Int.reduceTMod, Int.reduceFDiv, Int.reducePow]
  refine OpX.call kids_Kids_Queue_b rfl (Calls.ret (kqueue_none hT7 x f7x) ?_)
  rintro v w8 ⟨rfl, rfl⟩
  simp -dsimp (disch := (first | omega | (simp only [go_sem, Nat.reduceAdd]; done) | (simp only [go_sem, Nat.reduceAdd]; omega))) only [go_sem, reduceIte, reduceCtorEq, Nat.reduceAdd, Nat.reduceMul, Nat.reduceSub, Nat.reduceDiv, Nat.reduceMod, Nat.reduceEqDiff, Nat.reduceLT, Nat.reduceLeDiff, Nat.reducePow, Int.reduceNeg, Int.reduceAdd, Int.reduceSub, Int.reduceMul, Int.reduceEq, Int.reduceNe, Int.reduceLT, Int.reduceLE, Int.reduceToNat, Int.reduceTDiv, Int.reduceTMod, Int.reduceFDiv, Int.reducePow]
  have r7 : (((((T4.setS x S1).hear x).drop x).kids.length : Nat) : Int) < (((T4.setS x S1).hear x).drop x).room := by
    rw [← hT4e]; simp [Kt.add, Kt.new, Kt.setS, Kt.hear, Kid.heard, Kt.drop, hd]
  refine OpX.call kids_Kids_Add_b rfl (Calls.ret (kadd_new hT7 x (by omega) (by omega) f7x r7) ?_)
  rintro v w8 ⟨b3, q3, c3, -, hb3', hq3, hcc3, hc8, hT8⟩
  have hb8 := hb7.trans hc8 (by simp; omega)
  have f8x : ((((T4.setS x S1).hear x).drop x).add x b3 q3 c3).find x = some ⟨x, b3, q3, c3, 2, 0, Qs.new frames⟩ := by rw [← hT4e]; simp [Kt.find, Kt.add, Kt.new, Kt.setS, Kt.hear, Kid.heard, Kt.drop, show ¬ y = x by omega]
  have f8y : ((((T4.setS x S1).hear x).drop x).add x b3 q3 c3).find y = some ⟨y, b2, q2, c2, 1, 0, Qs.new frames⟩ := by rw [← hT4e]; simp [Kt.find, Kt.add, Kt.new, Kt.setS, Kt.hear, Kid.heard, Kt.drop, show ¬ y = x by omega]
  refine Join1.inl ?_
  rw [hl1]
  have hl0 : (Qs.new frames).l.length = 0 := rfl
  simp -dsimp (disch := (first | omega | (simp only [go_sem, Nat.reduceAdd]; done) | (simp only [go_sem, Nat.reduceAdd]; omega))) only [go_sem, reduceIte, reduceCtorEq, Nat.reduceAdd, Nat.reduceMul, Nat.reduceSub, Nat.reduceDiv, Nat.reduceMod, Nat.reduceEqDiff, Nat.reduceLT, Nat.reduceLeDiff, Nat.reducePow, Int.reduceNeg, Int.reduceAdd, Int.reduceSub, Int.reduceMul, Int.reduceEq, Int.reduceNe, Int.reduceLT, Int.reduceLE, Int.reduceToNat, Int.reduceTDiv, Int.reduceTMod, Int.reduceFDiv, Int.reducePow, hl0]
  refine OpX.call kids_Kids_Queue_b rfl (Calls.ret (kqueue_some hT8 x f8x) ?_)
  rintro v w9 ⟨rfl, rfl⟩
  try simp -dsimp (disch := (first | omega | (simp only [go_sem, Nat.reduceAdd]; done) | (simp only [go_sem, Nat.reduceAdd]; omega))) only [go_sem, reduceIte, reduceCtorEq, Nat.reduceAdd, Nat.reduceMul, Nat.reduceSub, Nat.reduceDiv, Nat.reduceMod, Nat.reduceEqDiff, Nat.reduceLT, Nat.reduceLeDiff, Nat.reducePow, Int.reduceNeg, Int.reduceAdd, Int.reduceSub, Int.reduceMul, Int.reduceEq, Int.reduceNe, Int.reduceLT, Int.reduceLE, Int.reduceToNat, Int.reduceTDiv, Int.reduceTMod, Int.reduceFDiv, Int.reducePow]
  refine OpX.call queue_Queue_Len_b rfl (Calls.ret (len_c (hT8.each _ (Kt.find_mem f8x).1).hq) ?_)
  rintro v w9 ⟨rfl, rfl⟩
  simp -dsimp (disch := (first | omega | (simp only [go_sem, Nat.reduceAdd]; done) | (simp only [go_sem, Nat.reduceAdd]; omega))) only [go_sem, reduceIte, reduceCtorEq, Nat.reduceAdd, Nat.reduceMul, Nat.reduceSub, Nat.reduceDiv, Nat.reduceMod, Nat.reduceEqDiff, Nat.reduceLT, Nat.reduceLeDiff, Nat.reducePow, Int.reduceNeg, Int.reduceAdd, Int.reduceSub, Int.reduceMul, Int.reduceEq, Int.reduceNe, Int.reduceLT, Int.reduceLE, Int.reduceToNat, Int.reduceTDiv, Int.reduceTMod, Int.reduceFDiv, Int.reducePow, hl0]
  refine OpX.call kids_Kids_Queue_b rfl (Calls.ret (kqueue_some hT8 x f8x) ?_)
  rintro v w9 ⟨rfl, rfl⟩
  try simp -dsimp (disch := (first | omega | (simp only [go_sem, Nat.reduceAdd]; done) | (simp only [go_sem, Nat.reduceAdd]; omega))) only [go_sem, reduceIte, reduceCtorEq, Nat.reduceAdd, Nat.reduceMul, Nat.reduceSub, Nat.reduceDiv, Nat.reduceMod, Nat.reduceEqDiff, Nat.reduceLT, Nat.reduceLeDiff, Nat.reducePow, Int.reduceNeg, Int.reduceAdd, Int.reduceSub, Int.reduceMul, Int.reduceEq, Int.reduceNe, Int.reduceLT, Int.reduceLE, Int.reduceToNat, Int.reduceTDiv, Int.reduceTMod, Int.reduceFDiv, Int.reducePow]
  refine OpX.call queue_Queue_Needs_b rfl (Calls.ret (needs_c (hT8.each _ (Kt.find_mem f8x).1).hq) ?_)
  rintro v w9 ⟨rfl, rfl⟩
  have hn0 : (Qs.new frames).needs = true := rfl
  simp -dsimp (disch := (first | omega | (simp only [go_sem, Nat.reduceAdd]; done) | (simp only [go_sem, Nat.reduceAdd]; omega))) only [go_sem, reduceIte, reduceCtorEq, Nat.reduceAdd, Nat.reduceMul, Nat.reduceSub, Nat.reduceDiv, Nat.reduceMod, Nat.reduceEqDiff, Nat.reduceLT, Nat.reduceLeDiff, Nat.reducePow, Int.reduceNeg, Int.reduceAdd, Int.reduceSub, Int.reduceMul, Int.reduceEq, Int.reduceNe, Int.reduceLT, Int.reduceLE, Int.reduceToNat, Int.reduceTDiv, Int.reduceTMod, Int.reduceFDiv, Int.reducePow, hn0]
  refine OpX.call kids_Kids_Queue_b rfl (Calls.ret (kqueue_some hT8 y f8y) ?_)
  rintro v w9 ⟨rfl, rfl⟩
  try simp -dsimp (disch := (first | omega | (simp only [go_sem, Nat.reduceAdd]; done) | (simp only [go_sem, Nat.reduceAdd]; omega))) only [go_sem, reduceIte, reduceCtorEq, Nat.reduceAdd, Nat.reduceMul, Nat.reduceSub, Nat.reduceDiv, Nat.reduceMod, Nat.reduceEqDiff, Nat.reduceLT, Nat.reduceLeDiff, Nat.reducePow, Int.reduceNeg, Int.reduceAdd, Int.reduceSub, Int.reduceMul, Int.reduceEq, Int.reduceNe, Int.reduceLT, Int.reduceLE, Int.reduceToNat, Int.reduceTDiv, Int.reduceTMod, Int.reduceFDiv, Int.reducePow]
  refine OpX.call queue_Queue_Needs_b rfl (Calls.ret (needs_c (hT8.each _ (Kt.find_mem f8y).1).hq) ?_)
  rintro v w9 ⟨rfl, rfl⟩
  exact hK _ _ ⟨rfl, hb8⟩
end Go.Proofs.Ytdjdeahmhenchaa
