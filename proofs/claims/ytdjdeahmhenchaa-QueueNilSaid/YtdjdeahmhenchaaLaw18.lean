/- The laws of layer 18, walked. -/
import Derived.Test.YtdjdeahmhenchaaW2
import Derived.Test.YtdjdeahmhenchaaQueue
set_option linter.unusedSimpArgs false
set_option linter.unusedVariables false
namespace Go.Proofs.Ytdjdeahmhenchaa
open Lyc Go

theorem awake18_c (w : World) : Calls Try.prog 15 #[] w (retK fun v w' => v = .bool true ∧ Chg [] w w') := by
  apply lyceumlaw18_awake_link
  intro K hK
  unfold lyceumlaw18_awake
  refine OpX.call queue_New_b rfl (Calls.ret (new_c w 2) ?_)
  rintro v w1 ⟨q, c, rfl, hq, hc, hc1, hQ1⟩
  simp -dsimp (disch := (first | omega | (simp only [go_sem, Nat.reduceAdd]; done) | (simp only [go_sem, Nat.reduceAdd]; omega))) only [go_sem, reduceIte, reduceCtorEq, Nat.reduceAdd, Nat.reduceMul, Nat.reduceSub, Nat.reduceDiv, Nat.reduceMod, Nat.reduceEqDiff, Nat.reduceLT, Nat.reduceLeDiff, Nat.reducePow, Int.reduceNeg, Int.reduceAdd, Int.reduceSub, Int.reduceMul, Int.reduceEq, Int.reduceNe, Int.reduceLT, Int.reduceLE, Int.reduceToNat, Int.reduceTDiv, Int.reduceTMod, Int.reduceFDiv, Int.reducePow]
  refine OpX.call queue_Queue_Push_b rfl (Calls.ret (push_c ⟨0, 0, true, ⟨#[]⟩⟩ hQ1 (by decide)) ?_)
  rintro v w2 ⟨rfl, hc2, hQ2⟩
  simp -dsimp (disch := (first | omega | (simp only [go_sem, Nat.reduceAdd]; done) | (simp only [go_sem, Nat.reduceAdd]; omega))) only [go_sem, reduceIte, reduceCtorEq, Nat.reduceAdd, Nat.reduceMul, Nat.reduceSub, Nat.reduceDiv, Nat.reduceMod, Nat.reduceEqDiff, Nat.reduceLT, Nat.reduceLeDiff, Nat.reducePow, Int.reduceNeg, Int.reduceAdd, Int.reduceSub, Int.reduceMul, Int.reduceEq, Int.reduceNe, Int.reduceLT, Int.reduceLE, Int.reduceToNat, Int.reduceTDiv, Int.reduceTMod, Int.reduceFDiv, Int.reducePow]
  refine OpX.call queue_Queue_Push_b rfl (Calls.ret (push_c ⟨0, 1, false, ⟨#[]⟩⟩ hQ2 (by decide)) ?_)
  rintro v w3 ⟨rfl, hc3, hQ3⟩
  simp -dsimp (disch := (first | omega | (simp only [go_sem, Nat.reduceAdd]; done) | (simp only [go_sem, Nat.reduceAdd]; omega))) only [go_sem, reduceIte, reduceCtorEq, Nat.reduceAdd, Nat.reduceMul, Nat.reduceSub, Nat.reduceDiv, Nat.reduceMod, Nat.reduceEqDiff, Nat.reduceLT, Nat.reduceLeDiff, Nat.reducePow, Int.reduceNeg, Int.reduceAdd, Int.reduceSub, Int.reduceMul, Int.reduceEq, Int.reduceNe, Int.reduceLT, Int.reduceLE, Int.reduceToNat, Int.reduceTDiv, Int.reduceTMod, Int.reduceFDiv, Int.reducePow]
  have e1 : ((Qs.new 2).push ⟨0, 0, true, ⟨#[]⟩⟩).1 = true := by decide
  have e2 : (((Qs.new 2).push ⟨0, 0, true, ⟨#[]⟩⟩).2.push ⟨0, 1, false, ⟨#[]⟩⟩).1 = true := by decide
  have e3 : ((((Qs.new 2).push ⟨0, 0, true, ⟨#[]⟩⟩).2.push ⟨0, 1, false, ⟨#[]⟩⟩).2.push ⟨0, 2, false, ⟨#[]⟩⟩).1 = false := by decide
  refine OpX.call queue_Queue_Push_b rfl (Calls.ret (push_c ⟨0, 2, false, ⟨#[]⟩⟩ hQ3 (by decide)) ?_)
  rintro v w4 ⟨rfl, hc4, hQ4⟩
  refine Join1.inl ?_
  rw [e1, e2, e3]
  simp -dsimp (disch := (first | omega | (simp only [go_sem, Nat.reduceAdd]; done) | (simp only [go_sem, Nat.reduceAdd]; omega))) only [go_sem, reduceIte, reduceCtorEq, Nat.reduceAdd, Nat.reduceMul, Nat.reduceSub, Nat.reduceDiv, Nat.reduceMod, Nat.reduceEqDiff, Nat.reduceLT, Nat.reduceLeDiff, Nat.reducePow, Int.reduceNeg, Int.reduceAdd, Int.reduceSub, Int.reduceMul, Int.reduceEq, Int.reduceNe, Int.reduceLT, Int.reduceLE, Int.reduceToNat, Int.reduceTDiv, Int.reduceTMod, Int.reduceFDiv, Int.reducePow]
  refine OpX.call queue_Queue_Needs_b rfl (Calls.ret (needs_c hQ4) ?_)
  rintro v w5 ⟨rfl, rfl⟩
  refine hK _ _ ⟨rfl, (((hc1.trans hc2 ?_).trans hc3 ?_).trans hc4 ?_)⟩ <;> (intro x hx; simp at hx; omega)

/-- A step of a script. -/
structure Op18 where
  kind : Int
  gen : Int
  seq : Int
  key : Bool
  far : Bool
def Op18.cells (o : Op18) : List Value := [.int .i64 o.kind, .int .i64 o.gen, .int .i64 o.seq, .bool o.key, .bool o.far]

/-- What waits goes on behind the last one popped. -/
def Run : List Fr → Int → Int → Prop
  | [], last, n => last = n - 1
  | f :: l, last, n => last < f.seq ∧ f.seq < n ∧ (f.key = true ∨ f.seq = last + 1) ∧ Run l f.seq n
theorem Run.snoc {l : List Fr} {last n : Int} (h : Run l last n) (hn : last < n) (f : Fr) (hf : f.seq = n) : Run (l ++ [f]) last (n + 1) := by
  induction l generalizing last with
  | nil => have h : last = n - 1 := h; exact ⟨by omega, by omega, .inr (by omega), show f.seq = n + 1 - 1 by omega⟩
  | cons g l ih => exact ⟨h.1, by have := h.2.1; omega, h.2.2.1, ih h.2.2.2 h.2.1⟩

/-- What holds between two steps. -/
structure Inv18 (S : Qs) (n last : Int) : Prop where
  lt : last < n
  lo : -1 ≤ last
  need : S.needs = true → S.l = []
  run : S.needs = false → Run S.l last n

theorem inv18_push {S : Qs} {n last : Int} (h : Inv18 S n last) (k : Bool) (h0 : 0 ≤ n) (h1 : n ≤ 100) (hcap : 1 ≤ S.cap) :
    Inv18 (S.push ⟨0, n, k, ⟨#[]⟩⟩).2 (n + 1) last ∧ (S.push ⟨0, n, k, ⟨#[]⟩⟩).2.dropped + (S.push ⟨0, n, k, ⟨#[]⟩⟩).2.l.length ≤ S.dropped + S.l.length + 1 := by
  have hok : (⟨0, n, k, ⟨#[]⟩⟩ : Fr).ok = true := by simp [Fr.ok]; omega
  have hlt := h.lt
  have hlo := h.lo
  cases k with
  | true =>
    have e : (S.push ⟨0, n, true, ⟨#[]⟩⟩).2 = { S with l := [⟨0, n, true, ⟨#[]⟩⟩], dropped := S.dropped + S.l.length, needs := false } := by simp [Qs.push, hok]
    rw [e]
    exact ⟨⟨by omega, hlo, fun h => by simp at h, fun _ => ⟨hlt, show n < n + 1 by omega, .inl rfl, show n = n + 1 - 1 by omega⟩⟩, by simp⟩
  | false =>
    cases hn : S.needs with
    | true =>
      have e : (S.push ⟨0, n, false, ⟨#[]⟩⟩).2 = { S with dropped := S.dropped + 1 } := by simp [Qs.push, hok, hn]
      rw [e]
      exact ⟨⟨by omega, hlo, fun _ => h.need hn, fun h => by simp [hn] at h⟩, by simp; omega⟩
    | false =>
      by_cases hr : S.l.length < S.cap
      · have e : (S.push ⟨0, n, false, ⟨#[]⟩⟩).2 = { S with l := S.l ++ [⟨0, n, false, ⟨#[]⟩⟩] } := by simp [Qs.push, hok, hn, hr]
        rw [e]
        exact ⟨⟨by omega, hlo, fun h => by simp [hn] at h, fun _ => (h.run hn).snoc hlt _ rfl⟩, by simp; omega⟩
      · have e : (S.push ⟨0, n, false, ⟨#[]⟩⟩).2 = { S with l := [], dropped := S.dropped + S.l.length + 1, needs := true } := by simp [Qs.push, hok, hn, hr]
        rw [e]
        exact ⟨⟨by omega, hlo, fun _ => rfl, fun h => by simp at h⟩, by simp⟩

theorem and_le (a m : Int) (h0 : 0 ≤ m) (h1 : m < 9223372036854775808) : 0 ≤ bitV .and .i64 a m ∧ bitV .and .i64 a m ≤ m := by
  have hm : (BitVec.ofInt 64 m).toNat = m.toNat := by rw [BitVec.toNat_ofInt]; congr 1; omega
  have h := Nat.and_le_right (n := (BitVec.ofInt 64 a).toNat) (m := m.toNat)
  have e : (BitVec.ofInt 64 a &&& BitVec.ofInt 64 m).toNat = (BitVec.ofInt 64 a).toNat &&& m.toNat := by rw [BitVec.toNat_and, hm]
  show 0 ≤ IntKind.i64.wrap ((BitVec.ofInt 64 a &&& BitVec.ofInt 64 m).toNat : Int) ∧ _ ≤ m
  rw [e, wrap_i64 _ (by omega) (by omega)]
  show _ ∧ IntKind.i64.wrap ((BitVec.ofInt 64 a &&& BitVec.ofInt 64 m).toNat : Int) ≤ m
  rw [e, wrap_i64 _ (by omega) (by omega)]
  omega

theorem order_c {w : World} (room : Int) {v : Value} {len : Nat} {ops : Nat → Op18} (hv : SlA w v len 5 fun i => (ops i).cells) (hlen : len ≤ 9223372036854775807) :
    Calls Try.prog 3 #[.int .i64 room, v] w (retK fun v w' => v = .bool true ∧ Chg [] w w') := by
  apply lyceumlaw18_QueueOrder_link
  intro K hK
  unfold lyceumlaw18_QueueOrder
  refine OpX.call lyceumlaw18_awake_b rfl (Calls.ret (awake18_c w) ?_)
  rintro v1 w1 ⟨rfl, hc1⟩
  refine OpX.call queue_New_b rfl (Calls.ret (new_c w1 room) ?_)
  rintro v2 w2 ⟨q, c, rfl, hq, hc, hc2, hQ2⟩
  have hb2 := hc1.trans0 hc2
  have hs1 := hc1.size
  simp -dsimp (disch := (first | omega | (simp only [go_sem, Nat.reduceAdd]; done) | (simp only [go_sem, Nat.reduceAdd]; omega))) only [go_sem, reduceIte, reduceCtorEq, Nat.reduceAdd, Nat.reduceMul, Nat.reduceSub, Nat.reduceDiv, Nat.reduceMod, Nat.reduceEqDiff, Nat.reduceLT, Nat.reduceLeDiff, Nat.reducePow, Int.reduceNeg, Int.reduceAdd, Int.reduceSub, Int.reduceMul, Int.reduceEq, Int.reduceNe, Int.reduceLT, Int.reduceLE, Int.reduceToNat, Int.reduceTDiv, Int.reduceTMod, Int.reduceFDiv, Int.reducePow]
  refine Loop3.st (St := Int × Int × Nat × Qs) (fun s => .int .i64 s.1) (fun s => .int .i64 s.2.1) (fun s => .int .i64 s.2.2.1)
    (fun s w' => QAt w' q c s.2.2.2 ∧ Inv18 s.2.2.2 s.1 s.2.1 ∧ 0 ≤ s.1 ∧ s.1 ≤ s.2.2.1 ∧ s.2.2.1 ≤ 60 ∧ s.2.2.1 ≤ len ∧ s.2.2.2.dropped + s.2.2.2.l.length ≤ s.2.2.1 ∧ Chg [] w w')
    (fun s => 60 - s.2.2.1) (0, -1, 0, _) rfl rfl rfl
    ⟨hQ2, ⟨by simp, by simp, by simp [Qs.new], by simp [Qs.new]⟩, by simp, by simp, by simp, by simp, by simp [Qs.new], hb2⟩ ?_
  rintro next ⟨n, last, i, S⟩ w3 hn ⟨hQ3, hI, h0n, hni, hi60, hil, hdr, hc3⟩
  dsimp only at hQ3 hI h0n hni hi60 hil hdr hc3 ⊢
  have hn := fun n' l' S' w' h h2 => hn (n', l', i + 1, S') w' h h2
  dsimp only at hn
  have hlt := hI.lt
  have hlo := hI.lo
  have hd0 := hQ3.d0
  obtain ⟨a, cap, rfl, -⟩ := id hv
  refine Join1.inl ?_
  simp -dsimp (disch := (first | omega | (simp only [go_sem, Nat.reduceAdd]; done) | (simp only [go_sem, Nat.reduceAdd]; omega))) only [go_sem, reduceIte, reduceCtorEq, Nat.reduceAdd, Nat.reduceMul, Nat.reduceSub, Nat.reduceDiv, Nat.reduceMod, Nat.reduceEqDiff, Nat.reduceLT, Nat.reduceLeDiff, Nat.reducePow, Int.reduceNeg, Int.reduceAdd, Int.reduceSub, Int.reduceMul, Int.reduceEq, Int.reduceNe, Int.reduceLT, Int.reduceLE, Int.reduceToNat, Int.reduceTDiv, Int.reduceTMod, Int.reduceFDiv, Int.reducePow]
  refine BrW.dec (fun h1 => ?_) (fun h1 => ?_)
  · simp -dsimp (disch := (first | omega | (simp only [go_sem, Nat.reduceAdd]; done) | (simp only [go_sem, Nat.reduceAdd]; omega))) only [go_sem, reduceIte, reduceCtorEq, Nat.reduceAdd, Nat.reduceMul, Nat.reduceSub, Nat.reduceDiv, Nat.reduceMod, Nat.reduceEqDiff, Nat.reduceLT, Nat.reduceLeDiff, Nat.reducePow, Int.reduceNeg, Int.reduceAdd, Int.reduceSub, Int.reduceMul, Int.reduceEq, Int.reduceNe, Int.reduceLT, Int.reduceLE, Int.reduceToNat, Int.reduceTDiv, Int.reduceTMod, Int.reduceFDiv, Int.reducePow]
    refine BrW.dec (fun h2 => ?_) (fun h2 => ?_)
    · obtain ⟨a', cap', b, o, he, rfl, hbl, hag⟩ := hv.at hc3 (by simp) i (by omega)
      cases he
      simp only [Op18.cells] at hag
      have hsz := hc3.size
      simp -dsimp (disch := (first | omega | (simp only [go_sem, Nat.reduceAdd]; done) | (simp only [go_sem, Nat.reduceAdd]; omega))) only [go_sem, reduceIte, reduceCtorEq, Nat.reduceAdd, Nat.reduceMul, Nat.reduceSub, Nat.reduceDiv, Nat.reduceMod, Nat.reduceEqDiff, Nat.reduceLT, Nat.reduceLeDiff, Nat.reducePow, Int.reduceNeg, Int.reduceAdd, Int.reduceSub, Int.reduceMul, Int.reduceEq, Int.reduceNe, Int.reduceLT, Int.reduceLE, Int.reduceToNat, Int.reduceTDiv, Int.reduceTMod, Int.reduceFDiv, Int.reducePow, hag]
      generalize bitV BinOp.and IntKind.i64 (ops i).kind 7 = r
      generalize hwa : w3.alloc _ = wa
      have hca : Chg [] w3 wa := hwa ▸ (Chg.refl _ _).alloc _
      have hop : wa.heap[w3.heap.size]? = some (.cells #[.int .i64 (ops i).kind, .int .i64 (ops i).gen, .int .i64 (ops i).seq, .bool (ops i).key, .bool (ops i).far] 27) := by rw [← hwa]; simp -dsimp (disch := (first | omega | (simp only [go_sem, Nat.reduceAdd]; done) | (simp only [go_sem, Nat.reduceAdd]; omega))) only [go_sem, reduceIte, reduceCtorEq, Nat.reduceAdd, Nat.reduceMul, Nat.reduceSub, Nat.reduceDiv, Nat.reduceMod, Nat.reduceEqDiff, Nat.reduceLT, Nat.reduceLeDiff, Nat.reducePow, Int.reduceNeg, Int.reduceAdd, Int.reduceSub, Int.reduceMul, Int.reduceEq, Int.reduceNe, Int.reduceLT, Int.reduceLE, Int.reduceToNat, Int.reduceTDiv, Int.reduceTMod, Int.reduceFDiv, Int.reducePow]
      clear hwa
      have hQa := hQ3.chg hca (by simp) (by simp)
      have hcb := hc3.trans0 hca
      refine Join1.cutK (fun v w' => w' = wa ∧ ∃ b, v = .bool b) (fun k hk => ?_) ?_
      · simp -dsimp (disch := (first | omega | (simp only [go_sem, Nat.reduceAdd]; done) | (simp only [go_sem, Nat.reduceAdd]; omega))) only [go_sem, reduceIte, reduceCtorEq, Nat.reduceAdd, Nat.reduceMul, Nat.reduceSub, Nat.reduceDiv, Nat.reduceMod, Nat.reduceEqDiff, Nat.reduceLT, Nat.reduceLeDiff, Nat.reducePow, Int.reduceNeg, Int.reduceAdd, Int.reduceSub, Int.reduceMul, Int.reduceEq, Int.reduceNe, Int.reduceLT, Int.reduceLE, Int.reduceToNat, Int.reduceTDiv, Int.reduceTMod, Int.reduceFDiv, Int.reducePow]
        refine BrW.dec (fun _ => hk _ _ ⟨rfl, _, rfl⟩) (fun _ => ?_)
        simp -dsimp (disch := (first | omega | (simp only [go_sem, Nat.reduceAdd]; done) | (simp only [go_sem, Nat.reduceAdd]; omega))) only [go_sem, reduceIte, reduceCtorEq, Nat.reduceAdd, Nat.reduceMul, Nat.reduceSub, Nat.reduceDiv, Nat.reduceMod, Nat.reduceEqDiff, Nat.reduceLT, Nat.reduceLeDiff, Nat.reducePow, Int.reduceNeg, Int.reduceAdd, Int.reduceSub, Int.reduceMul, Int.reduceEq, Int.reduceNe, Int.reduceLT, Int.reduceLE, Int.reduceToNat, Int.reduceTDiv, Int.reduceTMod, Int.reduceFDiv, Int.reducePow]
        refine BrW.dec (fun _ => hk _ _ ⟨rfl, _, rfl⟩) (fun _ => ?_)
        simp -dsimp (disch := (first | omega | (simp only [go_sem, Nat.reduceAdd]; done) | (simp only [go_sem, Nat.reduceAdd]; omega))) only [go_sem, reduceIte, reduceCtorEq, Nat.reduceAdd, Nat.reduceMul, Nat.reduceSub, Nat.reduceDiv, Nat.reduceMod, Nat.reduceEqDiff, Nat.reduceLT, Nat.reduceLeDiff, Nat.reducePow, Int.reduceNeg, Int.reduceAdd, Int.reduceSub, Int.reduceMul, Int.reduceEq, Int.reduceNe, Int.reduceLT, Int.reduceLE, Int.reduceToNat, Int.reduceTDiv, Int.reduceTMod, Int.reduceFDiv, Int.reducePow]
        exact hk _ _ ⟨rfl, _, rfl⟩
      rintro _ _ ⟨rfl, b, rfl⟩
      cases b with
      | true =>
        simp -dsimp (disch := (first | omega | (simp only [go_sem, Nat.reduceAdd]; done) | (simp only [go_sem, Nat.reduceAdd]; omega))) only [go_sem, reduceIte, reduceCtorEq, Nat.reduceAdd, Nat.reduceMul, Nat.reduceSub, Nat.reduceDiv, Nat.reduceMod, Nat.reduceEqDiff, Nat.reduceLT, Nat.reduceLeDiff, Nat.reducePow, Int.reduceNeg, Int.reduceAdd, Int.reduceSub, Int.reduceMul, Int.reduceEq, Int.reduceNe, Int.reduceLT, Int.reduceLE, Int.reduceToNat, Int.reduceTDiv, Int.reduceTMod, Int.reduceFDiv, Int.reducePow]
        refine OpX.call queue_Queue_Pop_b rfl (Calls.ret (pop_c hQa) ?_)
        rintro v w4 ⟨hv, hc4, hQ4⟩
        have hc5 := hcb.trans hc4 (by simp; omega)
        cases hl : S.l with
        | nil =>
          simp only [Qs.pop, hl, popV, Fr.v, Fr.cells] at hQ4 hv
          subst hv
          simp -dsimp (disch := (first | omega | (simp only [go_sem, Nat.reduceAdd]; done) | (simp only [go_sem, Nat.reduceAdd]; omega))) only [go_sem, reduceIte, reduceCtorEq, Nat.reduceAdd, Nat.reduceMul, Nat.reduceSub, Nat.reduceDiv, Nat.reduceMod, Nat.reduceEqDiff, Nat.reduceLT, Nat.reduceLeDiff, Nat.reducePow, Int.reduceNeg, Int.reduceAdd, Int.reduceSub, Int.reduceMul, Int.reduceEq, Int.reduceNe, Int.reduceLT, Int.reduceLE, Int.reduceToNat, Int.reduceTDiv, Int.reduceTMod, Int.reduceFDiv, Int.reducePow]
          refine Join1.inl ?_
          simp -dsimp (disch := (first | omega | (simp only [go_sem, Nat.reduceAdd]; done) | (simp only [go_sem, Nat.reduceAdd]; omega))) only [go_sem, reduceIte, reduceCtorEq, Nat.reduceAdd, Nat.reduceMul, Nat.reduceSub, Nat.reduceDiv, Nat.reduceMod, Nat.reduceEqDiff, Nat.reduceLT, Nat.reduceLeDiff, Nat.reducePow, Int.reduceNeg, Int.reduceAdd, Int.reduceSub, Int.reduceMul, Int.reduceEq, Int.reduceNe, Int.reduceLT, Int.reduceLE, Int.reduceToNat, Int.reduceTDiv, Int.reduceTMod, Int.reduceFDiv, Int.reducePow]
          exact hn _ _ S _ ⟨hQ4.alloc _, hI, h0n, by omega, by omega, by omega, by omega, hc5.alloc _⟩ (by omega)
        | cons f l =>
          have hnd : S.needs = false := by
            cases h : S.needs with
            | false => rfl
            | true => have := hI.need h; simp [hl] at this
          obtain ⟨hr1, hr2, hr3, hr4⟩ : Run (f :: l) last n := hl ▸ hI.run hnd
          have hI' : Inv18 { S with l := l } n f.seq := ⟨hr2, by omega, fun h => by simp [hnd] at h, fun _ => hr4⟩
          simp only [hl, List.length_cons] at hdr
          simp only [Qs.pop, hl, popV, Fr.v, Fr.cells] at hQ4 hv
          subst hv
          simp -dsimp (disch := (first | omega | (simp only [go_sem, Nat.reduceAdd]; done) | (simp only [go_sem, Nat.reduceAdd]; omega))) only [go_sem, reduceIte, reduceCtorEq, Nat.reduceAdd, Nat.reduceMul, Nat.reduceSub, Nat.reduceDiv, Nat.reduceMod, Nat.reduceEqDiff, Nat.reduceLT, Nat.reduceLeDiff, Nat.reducePow, Int.reduceNeg, Int.reduceAdd, Int.reduceSub, Int.reduceMul, Int.reduceEq, Int.reduceNe, Int.reduceLT, Int.reduceLE, Int.reduceToNat, Int.reduceTDiv, Int.reduceTMod, Int.reduceFDiv, Int.reducePow]
          refine Join1.cutK (fun v w' => w' = w4.alloc (.cells #[.int .i64 f.gen, .int .i64 f.seq, .bool f.key, .string f.body] 29) ∧ v = .bool false) (fun k hk => ?_) ?_
          · simp -dsimp (disch := (first | omega | (simp only [go_sem, Nat.reduceAdd]; done) | (simp only [go_sem, Nat.reduceAdd]; omega))) only [go_sem, reduceIte, reduceCtorEq, Nat.reduceAdd, Nat.reduceMul, Nat.reduceSub, Nat.reduceDiv, Nat.reduceMod, Nat.reduceEqDiff, Nat.reduceLT, Nat.reduceLeDiff, Nat.reducePow, Int.reduceNeg, Int.reduceAdd, Int.reduceSub, Int.reduceMul, Int.reduceEq, Int.reduceNe, Int.reduceLT, Int.reduceLE, Int.reduceToNat, Int.reduceTDiv, Int.reduceTMod, Int.reduceFDiv, Int.reducePow]
            refine BrW.dec (fun h => absurd h (by omega)) (fun _ => ?_)
            simp -dsimp (disch := (first | omega | (simp only [go_sem, Nat.reduceAdd]; done) | (simp only [go_sem, Nat.reduceAdd]; omega))) only [go_sem, reduceIte, reduceCtorEq, Nat.reduceAdd, Nat.reduceMul, Nat.reduceSub, Nat.reduceDiv, Nat.reduceMod, Nat.reduceEqDiff, Nat.reduceLT, Nat.reduceLeDiff, Nat.reducePow, Int.reduceNeg, Int.reduceAdd, Int.reduceSub, Int.reduceMul, Int.reduceEq, Int.reduceNe, Int.reduceLT, Int.reduceLE, Int.reduceToNat, Int.reduceTDiv, Int.reduceTMod, Int.reduceFDiv, Int.reducePow]
            refine BrW.dec (fun h => absurd h (by omega)) (fun _ => ?_)
            simp -dsimp (disch := (first | omega | (simp only [go_sem, Nat.reduceAdd]; done) | (simp only [go_sem, Nat.reduceAdd]; omega))) only [go_sem, reduceIte, reduceCtorEq, Nat.reduceAdd, Nat.reduceMul, Nat.reduceSub, Nat.reduceDiv, Nat.reduceMod, Nat.reduceEqDiff, Nat.reduceLT, Nat.reduceLeDiff, Nat.reducePow, Int.reduceNeg, Int.reduceAdd, Int.reduceSub, Int.reduceMul, Int.reduceEq, Int.reduceNe, Int.reduceLT, Int.reduceLE, Int.reduceToNat, Int.reduceTDiv, Int.reduceTMod, Int.reduceFDiv, Int.reducePow]
            cases hky : f.key with
            | true => 
              simp -dsimp (disch := (first | omega | (simp only [go_sem, Nat.reduceAdd]; done) | (simp only [go_sem, Nat.reduceAdd]; omega))) only [go_sem, reduceIte, reduceCtorEq, Nat.reduceAdd, Nat.reduceMul, Nat.reduceSub, Nat.reduceDiv, Nat.reduceMod, Nat.reduceEqDiff, Nat.reduceLT, Nat.reduceLeDiff, Nat.reducePow, Int.reduceNeg, Int.reduceAdd, Int.reduceSub, Int.reduceMul, Int.reduceEq, Int.reduceNe, Int.reduceLT, Int.reduceLE, Int.reduceToNat, Int.reduceTDiv, Int.reduceTMod, Int.reduceFDiv, Int.reducePow]
              exact hk _ _ ⟨by rw [hky], rfl⟩
            | false =>
              simp -dsimp (disch := (first | omega | (simp only [go_sem, Nat.reduceAdd]; done) | (simp only [go_sem, Nat.reduceAdd]; omega))) only [go_sem, reduceIte, reduceCtorEq, Nat.reduceAdd, Nat.reduceMul, Nat.reduceSub, Nat.reduceDiv, Nat.reduceMod, Nat.reduceEqDiff, Nat.reduceLT, Nat.reduceLeDiff, Nat.reducePow, Int.reduceNeg, Int.reduceAdd, Int.reduceSub, Int.reduceMul, Int.reduceEq, Int.reduceNe, Int.reduceLT, Int.reduceLE, Int.reduceToNat, Int.reduceTDiv, Int.reduceTMod, Int.reduceFDiv, Int.reducePow]
              exact hk _ _ ⟨by rw [hky], by simp [hky] at hr3; simp; omega⟩
          rintro _ _ ⟨rfl, rfl⟩
          simp -dsimp (disch := (first | omega | (simp only [go_sem, Nat.reduceAdd]; done) | (simp only [go_sem, Nat.reduceAdd]; omega))) only [go_sem, reduceIte, reduceCtorEq, Nat.reduceAdd, Nat.reduceMul, Nat.reduceSub, Nat.reduceDiv, Nat.reduceMod, Nat.reduceEqDiff, Nat.reduceLT, Nat.reduceLeDiff, Nat.reducePow, Int.reduceNeg, Int.reduceAdd, Int.reduceSub, Int.reduceMul, Int.reduceEq, Int.reduceNe, Int.reduceLT, Int.reduceLE, Int.reduceToNat, Int.reduceTDiv, Int.reduceTMod, Int.reduceFDiv, Int.reducePow]
          exact hn _ _ { S with l := l } _ ⟨hQ4.alloc _, hI', h0n, by omega, by omega, by omega, by dsimp only; omega, hc5.alloc _⟩ (by omega)
      | false =>
        simp -dsimp (disch := (first | omega | (simp only [go_sem, Nat.reduceAdd]; done) | (simp only [go_sem, Nat.reduceAdd]; omega))) only [go_sem, reduceIte, reduceCtorEq, Nat.reduceAdd, Nat.reduceMul, Nat.reduceSub, Nat.reduceDiv, Nat.reduceMod, Nat.reduceEqDiff, Nat.reduceLT, Nat.reduceLeDiff, Nat.reducePow, Int.reduceNeg, Int.reduceAdd, Int.reduceSub, Int.reduceMul, Int.reduceEq, Int.reduceNe, Int.reduceLT, Int.reduceLE, Int.reduceToNat, Int.reduceTDiv, Int.reduceTMod, Int.reduceFDiv, Int.reducePow]
        refine BrW.dec (fun h => ?_) (fun _ => ?_)
        · refine OpX.call queue_Queue_Want_b rfl (Calls.ret (want_c hQa (by omega)) ?_)
          rintro v w4 ⟨rfl, hc4, hQ4⟩
          simp -dsimp (disch := (first | omega | (simp only [go_sem, Nat.reduceAdd]; done) | (simp only [go_sem, Nat.reduceAdd]; omega))) only [go_sem, reduceIte, reduceCtorEq, Nat.reduceAdd, Nat.reduceMul, Nat.reduceSub, Nat.reduceDiv, Nat.reduceMod, Nat.reduceEqDiff, Nat.reduceLT, Nat.reduceLeDiff, Nat.reducePow, Int.reduceNeg, Int.reduceAdd, Int.reduceSub, Int.reduceMul, Int.reduceEq, Int.reduceNe, Int.reduceLT, Int.reduceLE, Int.reduceToNat, Int.reduceTDiv, Int.reduceTMod, Int.reduceFDiv, Int.reducePow]
          exact hn _ _ _ _ ⟨hQ4, ⟨hlt, hlo, fun _ => rfl, fun h => by simp [Qs.want] at h⟩, h0n, by omega, by omega, by omega, by simp [Qs.want]; omega, hcb.trans hc4 (by simp; omega)⟩ (by omega)
        · simp -dsimp (disch := (first | omega | (simp only [go_sem, Nat.reduceAdd]; done) | (simp only [go_sem, Nat.reduceAdd]; omega))) only [go_sem, reduceIte, reduceCtorEq, Nat.reduceAdd, Nat.reduceMul, Nat.reduceSub, Nat.reduceDiv, Nat.reduceMod, Nat.reduceEqDiff, Nat.reduceLT, Nat.reduceLeDiff, Nat.reducePow, Int.reduceNeg, Int.reduceAdd, Int.reduceSub, Int.reduceMul, Int.reduceEq, Int.reduceNe, Int.reduceLT, Int.reduceLE, Int.reduceToNat, Int.reduceTDiv, Int.reduceTMod, Int.reduceFDiv, Int.reducePow, hop]
          refine OpX.call queue_Queue_Push_b rfl (Calls.ret (push_c ⟨0, n, (ops i).key, ⟨#[]⟩⟩ hQa (by omega)) ?_)
          rintro v w4 ⟨rfl, hc4, hQ4⟩
          simp -dsimp (disch := (first | omega | (simp only [go_sem, Nat.reduceAdd]; done) | (simp only [go_sem, Nat.reduceAdd]; omega))) only [go_sem, reduceIte, reduceCtorEq, Nat.reduceAdd, Nat.reduceMul, Nat.reduceSub, Nat.reduceDiv, Nat.reduceMod, Nat.reduceEqDiff, Nat.reduceLT, Nat.reduceLeDiff, Nat.reducePow, Int.reduceNeg, Int.reduceAdd, Int.reduceSub, Int.reduceMul, Int.reduceEq, Int.reduceNe, Int.reduceLT, Int.reduceLE, Int.reduceToNat, Int.reduceTDiv, Int.reduceTMod, Int.reduceFDiv, Int.reducePow]
          have := inv18_push hI (ops i).key h0n (by omega) hQ3.one
          exact hn _ _ _ _ ⟨hQ4, this.1, by omega, by omega, by omega, by omega, by omega, hcb.trans hc4 (by simp; omega)⟩ (by omega)
    · exact hK _ _ ⟨rfl, hc3⟩
  · simp -dsimp (disch := (first | omega | (simp only [go_sem, Nat.reduceAdd]; done) | (simp only [go_sem, Nat.reduceAdd]; omega))) only [go_sem, reduceIte, reduceCtorEq, Nat.reduceAdd, Nat.reduceMul, Nat.reduceSub, Nat.reduceDiv, Nat.reduceMod, Nat.reduceEqDiff, Nat.reduceLT, Nat.reduceLeDiff, Nat.reducePow, Int.reduceNeg, Int.reduceAdd, Int.reduceSub, Int.reduceMul, Int.reduceEq, Int.reduceNe, Int.reduceLT, Int.reduceLE, Int.reduceToNat, Int.reduceTDiv, Int.reduceTMod, Int.reduceFDiv, Int.reducePow]
    exact hK _ _ ⟨rfl, hc3⟩
end Go.Proofs.Ytdjdeahmhenchaa
