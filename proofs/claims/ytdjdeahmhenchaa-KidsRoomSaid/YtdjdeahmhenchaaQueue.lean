/- The contracts of package queue, and of what it calls. -/
import Derived.Test.YtdjdeahmhenchaaW1
import Derived.Test.YtdjdeahmhenchaaLycFrame
set_option linter.unusedSimpArgs false
set_option linter.unusedVariables false
namespace Go.Proofs.Ytdjdeahmhenchaa
open Lyc Go

/-- A frame's values. -/
structure Fr where
  gen : Int
  seq : Int
  key : Bool
  body : ByteArray
def Fr.cells (f : Fr) : List Value := [.int .i64 f.gen, .int .i64 f.seq, .bool f.key, .string f.body]
def Fr.v (f : Fr) : Value := .agg f.cells.toArray

/-- Frames that wait: how many may, which do, is a whole one needed, how many were dropped. -/
structure Qs where
  cap : Nat
  l : List Fr
  needs : Bool
  dropped : Int

structure QAt (w : World) (q c : Nat) (S : Qs) : Prop where
  hq : w.heap[q]? = some (.cells #[.chan (some c), .bool S.needs, .int .i64 S.dropped] 86)
  hc : ∃ s r, w.heap[c]? = some (.chan S.cap (S.l.map Fr.v).toArray false s r false)
  ne : c ≠ q
  one : 1 ≤ S.cap
  eight : S.cap ≤ 8
  room : S.l.length ≤ S.cap
  d0 : 0 ≤ S.dropped

theorem QAt.chg {w w' : World} {q c : Nat} {S : Qs} {F : List Nat} (h : QAt w q c S) (hc : Chg F w w') (hq : q ∉ F) (hcc : c ∉ F) : QAt w' q c S :=
  ⟨hc.keep h.hq hq, let ⟨s, r, e⟩ := h.hc; ⟨s, r, hc.keep e hcc⟩, h.ne, h.one, h.eight, h.room, h.d0⟩

theorem QAt.alloc {w : World} {q c : Nat} {S : Qs} (h : QAt w q c S) (o : Obj) : QAt (w.alloc o) q c S := h.chg ((Chg.refl [] w).alloc o) (by simp) (by simp)

theorem none_nil (w : World) : Calls Try.prog 60 #[.pointer none] w (retK fun v w' => v = .bool true ∧ w = w') := by
  apply queue_Queue_none_link
  intro K hK
  unfold queue_Queue_none
  refine Join1.inl ?_
  simp -dsimp (disch := first | omega | (simp only [go_sem, seval]; first | done | omega)) only [go_sem, seval]
  exact hK _ _ ⟨rfl, rfl⟩

theorem none_some {w : World} {q c : Nat} {S : Qs} (h : QAt w q c S) : Calls Try.prog 60 #[.pointer (some ⟨q, 0, none⟩)] w (retK fun v w' => v = .bool false ∧ w = w') := by
  have hq := h.hq
  apply queue_Queue_none_link
  intro K hK
  unfold queue_Queue_none
  refine Join1.inl ?_
  simp -dsimp (disch := first | omega | (simp only [go_sem, seval]; first | done | omega)) only [go_sem, seval, hq]
  exact hK _ _ ⟨rfl, rfl⟩

theorem drop_c {w : World} {q c : Nat} {S : Qs} (h : QAt w q c S) (hd : S.dropped < 4611686018427387904) :
    Calls Try.prog 61 #[.pointer (some ⟨q, 0, none⟩)] w (retK fun v w' => v = .tuple #[] ∧ Chg [q, c] w w' ∧ QAt w' q c { S with l := [], dropped := S.dropped + S.l.length }) := by
  apply queue_Queue_drop_link
  intro K hK
  unfold queue_Queue_drop
  refine Loop0.by (fun w' => ∃ l' d, QAt w' q c { S with l := l', dropped := d } ∧ d + l'.length = S.dropped + S.l.length ∧ l'.length ≤ S.l.length ∧ Chg [q, c] w w')
    (fun w' => match w'.heap[c]? with | some (.chan _ buf _ _ _ _) => buf.size | _ => 0) ⟨S.l, S.dropped, h, rfl, Nat.le_refl _, Chg.refl _ _⟩ ?_
  rintro w1 ⟨l', d, h1, he, hle, hc1⟩
  have hq := h1.hq
  have hne := h1.ne
  have h8 := h1.eight
  have hrm := h.room
  have h80 := h.eight
  have hd0 := h1.d0
  dsimp only at hq hd0 h8
  have lq := lt_of_heap hq
  obtain ⟨s, r, hc⟩ := h1.hc
  dsimp only at hc
  have lc := lt_of_heap hc
  simp -dsimp (disch := first | omega | (simp only [go_sem, seval]; first | done | omega)) only [go_sem, seval, hq]
  cases l' with
  | nil =>
    refine sel_recv_none ty29z hc ?_
    simp -dsimp (disch := first | omega | (simp only [go_sem, seval]; first | done | omega)) only [go_sem, seval]
    simp at he
    refine hK _ _ ⟨rfl, hc1, ?_⟩
    rw [← he]; exact h1
  | cons f l' =>
    refine sel_recv_some ty29z hc (by simp) ?_
    simp only [List.length_cons] at he hle
    simp -dsimp (disch := first | omega | (simp only [go_sem, seval]; first | done | omega)) only [go_sem, seval, hq]
    refine ⟨⟨l', d + 1, ⟨?_, ⟨s, r + 1, ?_⟩, hne, h1.one, h1.eight, ?_, ?_⟩, ?_, ?_, ?_⟩, ?_⟩
    · simp -dsimp (disch := first | omega | (simp only [go_sem, seval]; first | done | omega)) only [go_sem, seval]
    · simp -dsimp (disch := first | omega | (simp only [go_sem, seval]; first | done | omega)) only [go_sem, seval]
      simp [List.take_of_length_le]
    · show l'.length ≤ S.cap; omega
    · show 0 ≤ d + 1; omega
    · simp at he ⊢; omega
    · omega
    · exact (hc1.set c _ (by simp)).set q _ (by simp)
    · simp -dsimp (disch := first | omega | (simp only [go_sem, seval]; first | done | omega)) only [go_sem, seval, hc]
      simp

/-- A frame that may be. -/
def Fr.ok (f : Fr) : Bool := decide (0 ≤ f.gen) && decide (f.gen ≤ 1073741824) && decide (0 ≤ f.seq) && decide (f.seq ≤ 1073741824)

theorem fcheck_c (w : World) (f : Fr) : Calls Try.prog 62 #[f.v] w (retK fun v w' => v = .bool f.ok ∧ Chg [] w w') := by
  apply frames_Check_link
  intro K hK
  unfold frames_Check
  unfold Fr.v Fr.cells
  simp -dsimp (disch := first | omega | (simp only [go_sem, seval]; first | done | omega)) only [go_sem, seval]
  refine Join1.inl ?_
  simp -dsimp (disch := first | omega | (simp only [go_sem, seval]; first | done | omega)) only [go_sem, seval]
  refine BrW.dec (fun h1 => ?_) (fun h1 => ?_)
  · simp -dsimp (disch := first | omega | (simp only [go_sem, seval]; first | done | omega)) only [go_sem, seval]
    refine BrW.dec (fun h2 => ?_) (fun h2 => ?_)
    · simp -dsimp (disch := first | omega | (simp only [go_sem, seval]; first | done | omega)) only [go_sem, seval]
      refine BrW.dec (fun h3 => ?_) (fun h3 => ?_)
      · simp -dsimp (disch := first | omega | (simp only [go_sem, seval]; first | done | omega)) only [go_sem, seval]
        exact hK _ _ ⟨by simp [Fr.ok, h1, h2, h3], (Chg.refl _ _).alloc _⟩
      · exact hK _ _ ⟨by simp [Fr.ok, h3], (Chg.refl _ _).alloc _⟩
    · exact hK _ _ ⟨by simp [Fr.ok, h2], (Chg.refl _ _).alloc _⟩
  · exact hK _ _ ⟨by simp [Fr.ok, h1], (Chg.refl _ _).alloc _⟩

/-- A push: was it taken; what waits then. -/
def Qs.push (S : Qs) (f : Fr) : Bool × Qs :=
  if f.ok = false then (false, S) else
  if f.key then (true, { S with l := [f], dropped := S.dropped + S.l.length, needs := false })
  else if S.needs then (false, { S with dropped := S.dropped + 1 })
  else if S.l.length < S.cap then (true, { S with l := S.l ++ [f] })
  else (false, { S with l := [], dropped := S.dropped + S.l.length + 1, needs := true })

theorem push_c {w : World} {q c : Nat} {S : Qs} (f : Fr) (h : QAt w q c S) (hd : S.dropped < 2305843009213693952) :
    Calls Try.prog 19 #[.pointer (some ⟨q, 0, none⟩), f.v] w (retK fun v w' => v = .bool (S.push f).1 ∧ Chg [q, c] w w' ∧ QAt w' q c (S.push f).2) := by
  have hne := h.ne
  have h8 := h.eight
  have h1' := h.one
  have hrm := h.room
  have hd0 := h.d0
  have lq := lt_of_heap h.hq
  obtain ⟨s, r, hcc⟩ := h.hc
  have lc := lt_of_heap hcc
  apply queue_Queue_Push_link
  intro K hK
  unfold queue_Queue_Push
  simp -dsimp (disch := first | omega | (simp only [go_sem, seval]; first | done | omega)) only [go_sem, seval]
  refine Join1.inl ?_
  have ha := h.chg ((Chg.refl [] w).alloc (.cells f.v.cells 29)) (by simp) (by simp)
  refine OpX.call queue_Queue_none_b rfl (Calls.ret (none_some ha) ?_)
  rintro v w1 ⟨rfl, rfl⟩
  unfold Fr.v Fr.cells
  simp -dsimp (disch := first | omega | (simp only [go_sem, seval]; first | done | omega)) only [go_sem, seval]
  refine OpX.call frames_Check_b rfl (Calls.ret (fcheck_c _ f) ?_)
  rintro v w2 ⟨rfl, hc2⟩
  have hb2 : w2.heap[w.heap.size]? = some (.cells #[.int .i64 f.gen, .int .i64 f.seq, .bool f.key, .string f.body] 29) := hc2.keep (by simp -dsimp (disch := first | omega | (simp only [go_sem, seval]; first | done | omega)) only [go_sem, seval]) (by simp)
  have hw2 : Chg [q, c] w w2 := (((Chg.refl [] w).alloc _).trans0 hc2).mono (by simp)
  have hQ2 : QAt w2 q c S := h.chg (((Chg.refl [] w).alloc _).trans0 hc2) (by simp) (by simp)
  clear ha hc2
  cases hok : f.ok with
  | false =>
    simp -dsimp (disch := first | omega | (simp only [go_sem, seval]; first | done | omega)) only [go_sem, seval]
    exact hK _ _ ⟨by simp [Qs.push, hok], hw2, by simpa [Qs.push, hok] using hQ2⟩
  | true =>
    simp -dsimp (disch := first | omega | (simp only [go_sem, seval]; first | done | omega)) only [go_sem, seval]
    cases hkey : f.key with
    | true =>
      rw [hkey] at hb2
      refine Join0.inl ?_
      simp -dsimp (disch := first | omega | (simp only [go_sem, seval]; first | done | omega)) only [go_sem, seval, hb2]
      refine OpX.call queue_Queue_drop_b rfl (Calls.ret (drop_c hQ2 (by omega)) ?_)
      rintro v w3 ⟨rfl, hc3, hQ3⟩
      have hq3 := hQ3.hq
      have lq3 := lt_of_heap hq3
      obtain ⟨s3, r3, hcc3⟩ := hQ3.hc
      have lc3 := lt_of_heap hcc3
      dsimp only at hq3 hcc3
      have hb3 := hc3.keep hb2 (by simp; omega)
      simp -dsimp (disch := first | omega | (simp only [go_sem, seval]; first | done | omega)) only [go_sem, seval, hq3, hb3]
      refine sel_send_room ty29z (s := s3) (r := r3) (tm := false) (buf := #[]) (cap := S.cap) ?_ (by simp; omega) ?_
      · simp -dsimp (disch := first | omega | (simp only [go_sem, seval]; first | done | omega)) only [go_sem, seval, hcc3]
      · simp -dsimp (disch := first | omega | (simp only [go_sem, seval]; first | done | omega)) only [go_sem, seval]
        refine hK _ _ ⟨by simp [Qs.push, hok, hkey], ((hw2.trans hc3 (by simp)).set q _ (by simp)).set c _ (by simp), ?_⟩
        simp only [Qs.push, hok, hkey]
        refine ⟨?_, ⟨s3 + 1, r3, ?_⟩, hne, h1', h8, ?_, ?_⟩
        · simp -dsimp (disch := first | omega | (simp only [go_sem, seval]; first | done | omega)) only [go_sem, seval, hq3]
        · simp -dsimp (disch := first | omega | (simp only [go_sem, seval]; first | done | omega)) only [go_sem, seval, hcc3]
          simp [Fr.v, Fr.cells, hkey]
        · simpa using h1'
        · show 0 ≤ S.dropped + S.l.length; omega
    | false =>
      rw [hkey] at hb2
      refine Join0.inl ?_
      have hq2 := hQ2.hq
      have lq2 := lt_of_heap hq2
      obtain ⟨s2, r2, hcc2⟩ := hQ2.hc
      have lc2 := lt_of_heap hcc2
      simp -dsimp (disch := first | omega | (simp only [go_sem, seval]; first | done | omega)) only [go_sem, seval, hb2, hq2]
      cases hn : S.needs with
      | true =>
        rw [hn] at hq2
        simp -dsimp (disch := first | omega | (simp only [go_sem, seval]; first | done | omega)) only [go_sem, seval, hq2]
        refine hK _ _ ⟨by simp [Qs.push, hok, hkey, hn], hw2.set q _ (by simp), ?_⟩
        simp only [Qs.push, hok, hkey, hn]
        refine ⟨?_, ⟨s2, r2, ?_⟩, hne, h1', h8, hrm, ?_⟩
        · simp -dsimp (disch := first | omega | (simp only [go_sem, seval]; first | done | omega)) only [go_sem, seval]
        · simp -dsimp (disch := first | omega | (simp only [go_sem, seval]; first | done | omega)) only [go_sem, seval, hcc2]
        · show 0 ≤ S.dropped + 1; omega
      | false =>
        rw [hn] at hq2
        simp -dsimp (disch := first | omega | (simp only [go_sem, seval]; first | done | omega)) only [go_sem, seval, hb2, hq2]
        by_cases hr : S.l.length < S.cap
        · refine sel_send_room ty29z hcc2 (by simpa using hr) ?_
          simp -dsimp (disch := first | omega | (simp only [go_sem, seval]; first | done | omega)) only [go_sem, seval]
          refine hK _ _ ⟨by simp [Qs.push, hok, hkey, hn, hr], hw2.set c _ (by simp), ?_⟩
          simp only [Qs.push, hok, hkey, hn, hr]
          refine ⟨?_, ⟨s2 + 1, r2, ?_⟩, hne, h1', h8, ?_, hd0⟩
          · simp -dsimp (disch := first | omega | (simp only [go_sem, seval]; first | done | omega)) only [go_sem, seval, hq2]
          · simp -dsimp (disch := first | omega | (simp only [go_sem, seval]; first | done | omega)) only [go_sem, seval, hcc2]
            simp [Fr.v, Fr.cells, hkey]
          · simp; omega
        · refine sel_send_full ty29z hcc2 (by simp; omega) ?_
          simp -dsimp (disch := first | omega | (simp only [go_sem, seval]; first | done | omega)) only [go_sem, seval]
          refine OpX.call queue_Queue_drop_b rfl (Calls.ret (drop_c hQ2 (by omega)) ?_)
          rintro v w3 ⟨rfl, hc3, hQ3⟩
          have hq3 := hQ3.hq
          have lq3 := lt_of_heap hq3
          obtain ⟨s3, r3, hcc3⟩ := hQ3.hc
          have lc3 := lt_of_heap hcc3
          dsimp only at hq3 hcc3
          simp -dsimp (disch := first | omega | (simp only [go_sem, seval]; first | done | omega)) only [go_sem, seval, hq3]
          refine hK _ _ ⟨by simp [Qs.push, hok, hkey, hn, hr], (hw2.trans hc3 (by simp)).set q _ (by simp), ?_⟩
          simp only [Qs.push, hok, hkey, hn, hr]
          refine ⟨?_, ⟨s3, r3, ?_⟩, hne, h1', h8, ?_, ?_⟩
          · simp -dsimp (disch := first | omega | (simp only [go_sem, seval]; first | done | omega)) only [go_sem, seval]
          · simp -dsimp (disch := first | omega | (simp only [go_sem, seval]; first | done | omega)) only [go_sem, seval, hcc3]
          · simp
          · show 0 ≤ S.dropped + S.l.length + 1; omega
def Fr.zero : Fr := ⟨0, 0, false, ⟨#[]⟩⟩
def Qs.pop (S : Qs) : Option Fr × Qs := match S.l with | [] => (none, S) | f :: l => (some f, { S with l })
def popV : Option Fr → Value
  | none => .tuple #[Fr.zero.v, .bool false]
  | some f => .tuple #[f.v, .bool true]

theorem pop_nil (w : World) : Calls Try.prog 17 #[.pointer none] w (retK fun v w' => v = popV none ∧ Chg [] w w') := by
  apply queue_Queue_Pop_link
  intro K hK
  unfold queue_Queue_Pop
  simp -dsimp (disch := first | omega | (simp only [go_sem, seval]; first | done | omega)) only [go_sem, seval]
  refine OpX.call queue_Queue_none_b rfl (Calls.ret (none_nil _) ?_)
  rintro v w1 ⟨rfl, rfl⟩
  simp -dsimp (disch := first | omega | (simp only [go_sem, seval]; first | done | omega)) only [go_sem, seval]
  exact hK _ _ ⟨rfl, (Chg.refl _ _).alloc _⟩

theorem pop_c {w : World} {q c : Nat} {S : Qs} (h : QAt w q c S) :
    Calls Try.prog 17 #[.pointer (some ⟨q, 0, none⟩)] w (retK fun v w' => v = popV S.pop.1 ∧ Chg [q, c] w w' ∧ QAt w' q c S.pop.2) := by
  have hne := h.ne
  have h8 := h.eight
  have hrm := h.room
  have hq := h.hq
  have lq := lt_of_heap hq
  obtain ⟨s, r, hcc⟩ := h.hc
  have lc := lt_of_heap hcc
  apply queue_Queue_Pop_link
  intro K hK
  unfold queue_Queue_Pop
  simp -dsimp (disch := first | omega | (simp only [go_sem, seval]; first | done | omega)) only [go_sem, seval]
  have ha := h.chg ((Chg.refl [] w).alloc (.cells #[.int .i64 0, .int .i64 0, .bool false, .string ⟨#[]⟩] 29)) (by simp) (by simp)
  refine OpX.call queue_Queue_none_b rfl (Calls.ret (none_some ha) ?_)
  rintro v w1 ⟨rfl, rfl⟩
  simp -dsimp (disch := first | omega | (simp only [go_sem, seval]; first | done | omega)) only [go_sem, seval, hq]
  cases hl : S.l with
  | nil =>
    rw [hl] at hcc
    refine sel_recv_none ty29z (by simp -dsimp (disch := first | omega | (simp only [go_sem, seval]; first | done | omega)) only [go_sem, seval, hcc]; rfl) ?_
    simp -dsimp (disch := first | omega | (simp only [go_sem, seval]; first | done | omega)) only [go_sem, seval]
    refine hK _ _ ⟨by simp [Qs.pop, hl, popV, Fr.zero, Fr.v, Fr.cells], (Chg.refl _ _).alloc _, ?_⟩
    rw [show S.pop.2 = S by simp [Qs.pop, hl]]
    exact h.chg ((Chg.refl [] w).alloc _) (by simp) (by simp)
  | cons f l =>
    rw [hl] at hcc hrm
    refine sel_recv_cons ty29z (s := s) (r := r) (tm := false) (closed := false) (cap := S.cap) (x := f.v) (xs := l.map Fr.v) ?_ ?_
    · simp -dsimp (disch := first | omega | (simp only [go_sem, seval]; first | done | omega)) only [go_sem, seval, hcc]
    unfold Fr.v Fr.cells
    simp -dsimp (disch := first | omega | (simp only [go_sem, seval]; first | done | omega)) only [go_sem, seval]
    refine hK _ _ ⟨by simp [Qs.pop, hl, popV, Fr.v, Fr.cells], ((((Chg.refl _ _).set c _ (by simp)).alloc _).alloc _), ?_⟩
    simp only [Qs.pop, hl]
    refine ⟨?_, ⟨s, r + 1, ?_⟩, hne, h.one, h8, ?_, h.d0⟩
    · simp -dsimp (disch := first | omega | (simp only [go_sem, seval]; first | done | omega)) only [go_sem, seval, hq]
    · simp -dsimp (disch := first | omega | (simp only [go_sem, seval]; first | done | omega)) only [go_sem, seval]
      simp [Fr.v, Fr.cells]
    · simp at hrm ⊢; omega

theorem want_nil (w : World) : Calls Try.prog 18 #[.pointer none] w (retK fun v w' => v = .tuple #[] ∧ w = w') := by
  apply queue_Queue_Want_link
  intro K hK
  unfold queue_Queue_Want
  refine OpX.call queue_Queue_none_b rfl (Calls.ret (none_nil _) ?_)
  rintro v w1 ⟨rfl, rfl⟩
  simp -dsimp (disch := first | omega | (simp only [go_sem, seval]; first | done | omega)) only [go_sem, seval]
  exact hK _ _ ⟨rfl, rfl⟩

def Qs.want (S : Qs) : Qs := { S with l := [], dropped := S.dropped + S.l.length, needs := true }
theorem want_c {w : World} {q c : Nat} {S : Qs} (h : QAt w q c S) (hd : S.dropped < 2305843009213693952) :
    Calls Try.prog 18 #[.pointer (some ⟨q, 0, none⟩)] w (retK fun v w' => v = .tuple #[] ∧ Chg [q, c] w w' ∧ QAt w' q c S.want) := by
  apply queue_Queue_Want_link
  intro K hK
  unfold queue_Queue_Want
  refine OpX.call queue_Queue_none_b rfl (Calls.ret (none_some h) ?_)
  rintro v w1 ⟨rfl, rfl⟩
  simp -dsimp (disch := first | omega | (simp only [go_sem, seval]; first | done | omega)) only [go_sem, seval]
  refine OpX.call queue_Queue_drop_b rfl (Calls.ret (drop_c h (by omega)) ?_)
  rintro v w2 ⟨rfl, hc2, hQ⟩
  have hq := hQ.hq
  have lq := lt_of_heap hq
  obtain ⟨s, r, hcc⟩ := hQ.hc
  have lc := lt_of_heap hcc
  have hne := h.ne
  dsimp only at hq hcc
  simp -dsimp (disch := first | omega | (simp only [go_sem, seval]; first | done | omega)) only [go_sem, seval, hq]
  refine hK _ _ ⟨rfl, hc2.set q _ (by simp), ⟨?_, ⟨s, r, ?_⟩, hne, h.one, h.eight, by simp [Qs.want], hQ.d0⟩⟩
  · simp -dsimp (disch := first | omega | (simp only [go_sem, seval]; first | done | omega)) only [go_sem, seval]; rfl
  · simp -dsimp (disch := first | omega | (simp only [go_sem, seval]; first | done | omega)) only [go_sem, seval, hcc]; rfl

theorem needs_nil (w : World) : Calls Try.prog 22 #[.pointer none] w (retK fun v w' => v = .bool false ∧ w = w') := by
  apply queue_Queue_Needs_link
  intro K hK
  unfold queue_Queue_Needs
  refine Join1.inl ?_
  refine OpX.call queue_Queue_none_b rfl (Calls.ret (none_nil _) ?_)
  rintro v w1 ⟨rfl, rfl⟩
  simp -dsimp (disch := first | omega | (simp only [go_sem, seval]; first | done | omega)) only [go_sem, seval]
  exact hK _ _ ⟨rfl, rfl⟩
theorem needs_c {w : World} {q c : Nat} {S : Qs} (h : QAt w q c S) :
    Calls Try.prog 22 #[.pointer (some ⟨q, 0, none⟩)] w (retK fun v w' => v = .bool S.needs ∧ w = w') := by
  have hq := h.hq
  apply queue_Queue_Needs_link
  intro K hK
  unfold queue_Queue_Needs
  refine Join1.inl ?_
  refine OpX.call queue_Queue_none_b rfl (Calls.ret (none_some h) ?_)
  rintro v w1 ⟨rfl, rfl⟩
  simp -dsimp (disch := first | omega | (simp only [go_sem, seval]; first | done | omega)) only [go_sem, seval, hq]
  exact hK _ _ ⟨rfl, rfl⟩

theorem len_nil (w : World) : Calls Try.prog 21 #[.pointer none] w (retK fun v w' => v = .int .i64 0 ∧ w = w') := by
  apply queue_Queue_Len_link
  intro K hK
  unfold queue_Queue_Len
  refine OpX.call queue_Queue_none_b rfl (Calls.ret (none_nil _) ?_)
  rintro v w1 ⟨rfl, rfl⟩
  simp -dsimp (disch := first | omega | (simp only [go_sem, seval]; first | done | omega)) only [go_sem, seval]
  exact hK _ _ ⟨rfl, rfl⟩
theorem len_c {w : World} {q c : Nat} {S : Qs} (h : QAt w q c S) :
    Calls Try.prog 21 #[.pointer (some ⟨q, 0, none⟩)] w (retK fun v w' => v = .int .i64 S.l.length ∧ w = w') := by
  have hq := h.hq
  obtain ⟨s, r, hcc⟩ := h.hc
  apply queue_Queue_Len_link
  intro K hK
  unfold queue_Queue_Len
  refine OpX.call queue_Queue_none_b rfl (Calls.ret (none_some h) ?_)
  rintro v w1 ⟨rfl, rfl⟩
  simp -dsimp (disch := first | omega | (simp only [go_sem, seval]; first | done | omega)) only [go_sem, seval, hq]
  rw [x_len_chan _ _ _ _ _ _ _ _ _ _ ty84.1 hcc]
  exact hK _ _ ⟨by simp, rfl⟩

theorem dropped_nil (w : World) : Calls Try.prog 23 #[.pointer none] w (retK fun v w' => v = .int .i64 0 ∧ w = w') := by
  apply queue_Queue_Dropped_link
  intro K hK
  unfold queue_Queue_Dropped
  refine OpX.call queue_Queue_none_b rfl (Calls.ret (none_nil _) ?_)
  rintro v w1 ⟨rfl, rfl⟩
  simp -dsimp (disch := first | omega | (simp only [go_sem, seval]; first | done | omega)) only [go_sem, seval]
  exact hK _ _ ⟨rfl, rfl⟩
theorem dropped_c {w : World} {q c : Nat} {S : Qs} (h : QAt w q c S) :
    Calls Try.prog 23 #[.pointer (some ⟨q, 0, none⟩)] w (retK fun v w' => v = .int .i64 S.dropped ∧ w = w') := by
  have hq := h.hq
  apply queue_Queue_Dropped_link
  intro K hK
  unfold queue_Queue_Dropped
  refine OpX.call queue_Queue_none_b rfl (Calls.ret (none_some h) ?_)
  rintro v w1 ⟨rfl, rfl⟩
  simp -dsimp (disch := first | omega | (simp only [go_sem, seval]; first | done | omega)) only [go_sem, seval, hq]
  exact hK _ _ ⟨rfl, rfl⟩

def Qs.new (room : Int) : Qs := { cap := (min (max room 1) 8).toNat, l := [], needs := true, dropped := 0 }
theorem new_c (w : World) (room : Int) :
    Calls Try.prog 16 #[.int .i64 room] w (retK fun v w' => ∃ q c, v = .pointer (some ⟨q, 0, none⟩) ∧ w.heap.size ≤ q ∧ w.heap.size ≤ c ∧ Chg [] w w' ∧ QAt w' q c (Qs.new room)) := by
  apply queue_New_link
  intro K hK
  unfold queue_New
  simp -dsimp (disch := first | omega | (simp only [go_sem, seval]; first | done | omega)) only [go_sem, seval]
  refine hK _ _ ⟨w.heap.size + 1, w.heap.size, rfl, by omega, by omega, ((Chg.refl _ _).alloc _).alloc _, ⟨?_, ⟨0, 0, ?_⟩, by omega, ?_, ?_, by simp [Qs.new], by simp [Qs.new]⟩⟩
  · simp -dsimp (disch := first | omega | (simp only [go_sem, seval]; first | done | omega)) only [go_sem, seval]
    rfl
  · simp -dsimp (disch := first | omega | (simp only [go_sem, seval]; first | done | omega)) only [go_sem, seval]
    rfl
  · simp only [Qs.new]; omega
  · simp only [Qs.new]; omega
end Go.Proofs.Ytdjdeahmhenchaa
