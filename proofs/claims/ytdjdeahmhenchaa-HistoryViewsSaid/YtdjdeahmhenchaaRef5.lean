/- The contracts of the document's own functions on characters and cells: width, make, same. -/
import Derived.Test.YtdjdeahmhenchaaCell
set_option linter.unusedSimpArgs false
set_option linter.unusedVariables false
namespace Go.Proofs.Ytdjdeahmhenchaa
open Lyc Go

theorem rem64 (x : BitVec 8) : (x.toNat : Int).tmod 64 = ((x &&& 63#8).toNat : Int) := by
  have h : ∀ x : BitVec 8, x.toNat % 64 = (x &&& 63#8).toNat := by decide +kernel
  rw [show (64 : Int) = ((64 : Nat) : Int) from rfl, ← Int.ofNat_tmod, h]
theorem low_lt (x : BitVec 8) : (x &&& 63#8).toNat < 64 := by
  have h : ∀ x : BitVec 8, (x &&& 63#8).toNat < 64 := by decide +kernel
  exact h x
theorem low64 (x : BitVec 8) : ((x &&& 63#8).toNat : Int) + 64 = (((x &&& 63#8) ||| 64#8).toNat : Int) := by
  have h : ∀ x : BitVec 8, (x &&& 63#8).toNat + 64 = ((x &&& 63#8) ||| 64#8).toNat := by decide +kernel
  have := h x; omega
theorem low128 (x : BitVec 8) : ((x &&& 63#8).toNat : Int) + 128 = (((x &&& 63#8) ||| 128#8).toNat : Int) := by
  have h : ∀ x : BitVec 8, (x &&& 63#8).toNat + 128 = ((x &&& 63#8) ||| 128#8).toNat := by decide +kernel
  have := h x; omega
theorem low_low (x : BitVec 8) : ((x &&& 63#8) ||| 64#8) &&& 63#8 = x &&& 63#8 := by
  have h : ∀ x : BitVec 8, ((x &&& 63#8) ||| 64#8) &&& 63#8 = x &&& 63#8 := by decide +kernel
  exact h x
theorem tail_low (x : BitVec 8) : (((x &&& 63#8) ||| 64#8) &&& ~~~64#8) ||| 128#8 = (x &&& 63#8) ||| 128#8 := by
  have h : ∀ x : BitVec 8, (((x &&& 63#8) ||| 64#8) &&& ~~~64#8) ||| 128#8 = (x &&& 63#8) ||| 128#8 := by decide +kernel
  exact h x

theorem none_c (w : World) (r : Int) : Calls Try.prog 118 #[.int .i32 r] w (retK fun v w' => v = .bool (decide (r < 0 ∨ 1114111 < r ∨ (55296 ≤ r ∧ r ≤ 57343))) ∧ w' = w) := by
  apply lyceumref04_none_link
  intro K hK
  unfold lyceumref04_none
  refine Join1.inl ?_
  simp -dsimp (disch := first | omega | (simp only [go_sem, seval]; first | done | omega)) only [go_sem, seval]
  refine BrW.dec (fun h1 => ?_) (fun h1 => ?_)
  · exact hK _ _ ⟨by simp [h1], rfl⟩
  · simp -dsimp (disch := first | omega | (simp only [go_sem, seval]; first | done | omega)) only [go_sem, seval]
    refine BrW.dec (fun h2 => ?_) (fun h2 => ?_)
    · exact hK _ _ ⟨by simp [h2], rfl⟩
    · simp -dsimp (disch := first | omega | (simp only [go_sem, seval]; first | done | omega)) only [go_sem, seval]
      refine BrW.dec (fun h3 => ?_) (fun h3 => ?_)
      · simp -dsimp (disch := first | omega | (simp only [go_sem, seval]; first | done | omega)) only [go_sem, seval]
        refine hK _ _ ⟨?_, rfl⟩
        congr 1
        simp [h1, h2, h3]
      · simp -dsimp (disch := first | omega | (simp only [go_sem, seval]; first | done | omega)) only [go_sem, seval]
        refine hK _ _ ⟨?_, rfl⟩
        congr 1
        simp [h1, h2, h3]
theorem within_c (w : World) (r a b : Int) (h1 : -2147483648 ≤ r) (h2 : r ≤ 2147483647) : Calls Try.prog 119 #[.int .i32 r, .int .i64 a, .int .i64 b] w (retK fun v w' => v = .bool (decide (a ≤ r ∧ r ≤ b)) ∧ w' = w) := by
  apply lyceumref04_within_link
  intro K hK
  unfold lyceumref04_within
  refine Join1.inl ?_
  simp -dsimp (disch := first | omega | (simp only [go_sem, seval]; first | done | omega)) only [go_sem, seval]
  refine BrW.dec (fun h3 => ?_) (fun h3 => ?_)
  · simp -dsimp (disch := first | omega | (simp only [go_sem, seval]; first | done | omega)) only [go_sem, seval]
    exact hK _ _ ⟨by simp [h3], rfl⟩
  · simp -dsimp (disch := first | omega | (simp only [go_sem, seval]; first | done | omega)) only [go_sem, seval]
    exact hK _ _ ⟨by simp [h3], rfl⟩

def w0 (r : Int) : Prop := (r < 0 ∨ 1114111 < r ∨ (55296 ≤ r ∧ r ≤ 57343)) ∨ r < 32 ∨ (127 ≤ r ∧ r ≤ 159) ∨ (768 ≤ r ∧ r ≤ 879) ∨ (8203 ≤ r ∧ r ≤ 8207) ∨ (65024 ≤ r ∧ r ≤ 65039)
def w2 (r : Int) : Prop := (4352 ≤ r ∧ r ≤ 4447) ∨ (11904 ≤ r ∧ r ≤ 12350) ∨ (12353 ≤ r ∧ r ≤ 42191) ∨ (44032 ≤ r ∧ r ≤ 55203) ∨ (63744 ≤ r ∧ r ≤ 64255) ∨ (65072 ≤ r ∧ r ≤ 65135) ∨ (65281 ≤ r ∧ r ≤ 65376) ∨ (65504 ≤ r ∧ r ≤ 65510) ∨ (127744 ≤ r ∧ r ≤ 128591) ∨ (129280 ≤ r ∧ r ≤ 129535) ∨ (131072 ≤ r ∧ r ≤ 262141)
instance (r : Int) : Decidable (w0 r) := by unfold w0; infer_instance
instance (r : Int) : Decidable (w2 r) := by unfold w2; infer_instance
theorem width_w0 {r : Int} (h : w0 r) : width r = 0 := by
  unfold w0 at h
  simp only [width, spans, spanW]
  repeat' split
  all_goals first | rfl | omega
theorem width_w2 {r : Int} (h0 : ¬ w0 r) (h : w2 r) : width r = 2 := by
  unfold w0 at h0
  unfold w2 at h
  simp only [width, spans, spanW]
  repeat' split
  all_goals first | rfl | omega
theorem width_w1 {r : Int} (h0 : ¬ w0 r) (h : ¬ w2 r) : width r = 1 := by
  unfold w0 at h0
  unfold w2 at h
  simp only [width, spans, spanW]
  repeat' split
  all_goals first | rfl | omega

/-- One test of several, each of which may say yes. -/
theorem or_step {w w' : World} {p q : Prop} [Decidable p] [Decidable q] {k : Value → World → Prop} {M : Prop} (ht : p → k (.bool true) w') (hf : ¬ p → M) : BrW (.bool (decide p)) (k (.bool true) w') M () := BrW.dec ht hf

theorem rwidth_c (w : World) (r : Int) (h1 : -2147483648 ≤ r) (h2 : r ≤ 2147483647) : Calls Try.prog 102 #[.int .i32 r] w (retK fun v w' => v = .int .i64 (width r) ∧ w' = w) := by
  apply lyceumref04_Width_link
  intro K hK
  unfold lyceumref04_Width
  refine Join1.cut (fun v w' => v = .bool (decide (w0 r)) ∧ w' = w) ?_ ?_
  · refine OpX.call lyceumref04_none_b rfl (Calls.ret (none_c w r) ?_)
    rintro v w1 ⟨rfl, rfl⟩
    refine BrW.dec (fun h => ⟨by simp [w0, h], rfl⟩) (fun h3 => ?_)
    simp -dsimp (disch := first | omega | (simp only [go_sem, seval]; first | done | omega)) only [go_sem, seval]
    refine BrW.dec (fun h => ⟨by simp [w0, h], rfl⟩) (fun h4 => ?_)
    refine OpX.call lyceumref04_within_b rfl (Calls.ret (within_c _ r 127 159 h1 h2) ?_)
    rintro v w1 ⟨rfl, rfl⟩
    refine BrW.dec (fun h => ⟨by simp [w0, h], rfl⟩) (fun h5 => ?_)
    refine OpX.call lyceumref04_within_b rfl (Calls.ret (within_c _ r 768 879 h1 h2) ?_)
    rintro v w1 ⟨rfl, rfl⟩
    refine BrW.dec (fun h => ⟨by simp [w0, h], rfl⟩) (fun h6 => ?_)
    refine OpX.call lyceumref04_within_b rfl (Calls.ret (within_c _ r 8203 8207 h1 h2) ?_)
    rintro v w1 ⟨rfl, rfl⟩
    refine BrW.dec (fun h => ⟨by simp [w0, h], rfl⟩) (fun h7 => ?_)
    refine OpX.call lyceumref04_within_b rfl (Calls.ret (within_c _ r 65024 65039 h1 h2) ?_)
    rintro v w1 ⟨rfl, rfl⟩
    refine ⟨?_, rfl⟩
    congr 1
    unfold w0
    simp only [h3, h4, h5, h6, h7, false_or]
  · rintro v w1 ⟨rfl, rfl⟩
    refine BrW.dec (fun h => hK _ _ ⟨by rw [width_w0 h], rfl⟩) (fun h0 => ?_)
    refine Join1.cut (fun v w' => v = .bool (decide (w2 r)) ∧ w' = w1) ?_ ?_
    · refine OpX.call lyceumref04_within_b rfl (Calls.ret (within_c _ r 4352 4447 h1 h2) ?_)
      rintro v w1 ⟨rfl, rfl⟩
      refine BrW.dec (fun h => ⟨by simp [w2, h], rfl⟩) (fun h3 => ?_)
      refine OpX.call lyceumref04_within_b rfl (Calls.ret (within_c _ r 11904 12350 h1 h2) ?_)
      rintro v w1 ⟨rfl, rfl⟩
      refine BrW.dec (fun h => ⟨by simp [w2, h], rfl⟩) (fun h4 => ?_)
      refine OpX.call lyceumref04_within_b rfl (Calls.ret (within_c _ r 12353 42191 h1 h2) ?_)
      rintro v w1 ⟨rfl, rfl⟩
      refine BrW.dec (fun h => ⟨by simp [w2, h], rfl⟩) (fun h5 => ?_)
      refine OpX.call lyceumref04_within_b rfl (Calls.ret (within_c _ r 44032 55203 h1 h2) ?_)
      rintro v w1 ⟨rfl, rfl⟩
      refine BrW.dec (fun h => ⟨by simp [w2, h], rfl⟩) (fun h6 => ?_)
      refine OpX.call lyceumref04_within_b rfl (Calls.ret (within_c _ r 63744 64255 h1 h2) ?_)
      rintro v w1 ⟨rfl, rfl⟩
      refine BrW.dec (fun h => ⟨by simp [w2, h], rfl⟩) (fun h7 => ?_)
      refine OpX.call lyceumref04_within_b rfl (Calls.ret (within_c _ r 65072 65135 h1 h2) ?_)
      rintro v w1 ⟨rfl, rfl⟩
      refine BrW.dec (fun h => ⟨by simp [w2, h], rfl⟩) (fun h8 => ?_)
      refine OpX.call lyceumref04_within_b rfl (Calls.ret (within_c _ r 65281 65376 h1 h2) ?_)
      rintro v w1 ⟨rfl, rfl⟩
      refine BrW.dec (fun h => ⟨by simp [w2, h], rfl⟩) (fun h9 => ?_)
      refine OpX.call lyceumref04_within_b rfl (Calls.ret (within_c _ r 65504 65510 h1 h2) ?_)
      rintro v w1 ⟨rfl, rfl⟩
      refine BrW.dec (fun h => ⟨by simp [w2, h], rfl⟩) (fun h10 => ?_)
      refine OpX.call lyceumref04_within_b rfl (Calls.ret (within_c _ r 127744 128591 h1 h2) ?_)
      rintro v w1 ⟨rfl, rfl⟩
      refine BrW.dec (fun h => ⟨by simp [w2, h], rfl⟩) (fun h11 => ?_)
      refine OpX.call lyceumref04_within_b rfl (Calls.ret (within_c _ r 129280 129535 h1 h2) ?_)
      rintro v w1 ⟨rfl, rfl⟩
      refine BrW.dec (fun h => ⟨by simp [w2, h], rfl⟩) (fun h12 => ?_)
      refine OpX.call lyceumref04_within_b rfl (Calls.ret (within_c _ r 131072 262141 h1 h2) ?_)
      rintro v w1 ⟨rfl, rfl⟩
      refine ⟨?_, rfl⟩
      congr 1
      unfold w2
      simp only [h3, h4, h5, h6, h7, h8, h9, h10, h11, h12, false_or]
    · rintro v w1 ⟨rfl, rfl⟩
      refine BrW.dec (fun h => hK _ _ ⟨by rw [width_w2 h0 h], rfl⟩) (fun h => hK _ _ ⟨by rw [width_w1 h0 h], rfl⟩)

/-- The cells of a character. -/
def mkCel (r : Int) (p : Cel) : List Cel :=
  if width r = 1 then [⟨r, p.fg, p.bg, p.a &&& 63#8⟩] else if width r = 2 then [⟨r, p.fg, p.bg, (p.a &&& 63#8) ||| 64#8⟩, ⟨0, p.fg, p.bg, (p.a &&& 63#8) ||| 128#8⟩] else []
theorem rtail_c (w : World) (c : Cel) : Calls Try.prog 103 #[c.val] w (retK fun v w' => v = (⟨0, c.fg, c.bg, (c.a &&& 63#8) ||| 128#8⟩ : Cel).val ∧ Chg [] w w') := by
  have := low_lt c.a
  apply lyceumref05_Tail_link
  intro K hK
  unfold lyceumref05_Tail
  simp -dsimp (disch := first | omega | (simp only [go_sem, seval]; first | done | omega)) only [go_sem, seval, rem64, low128]
  exact hK _ _ ⟨rfl, ((Chg.refl [] w).alloc _).alloc _⟩
theorem rmake_c (w : World) (r : Int) (p : Cel) (h1 : -2147483648 ≤ r) (h2 : r ≤ 2147483647) : Calls Try.prog 68 #[.int .i32 r, p.val] w (retK fun v w' => Ox w.heap.size w' 44 4 Cel.cells v (mkCel r p) ∧ Chg [] w w') := by
  have h3 := low_lt p.a
  apply lyceumref05_Make_link
  intro K hK
  unfold lyceumref05_Make
  simp -dsimp (disch := first | omega | (simp only [go_sem, seval]; first | done | omega)) only [go_sem, seval]
  have hc1 := (Chg.refl [] w).alloc (.cells p.cells.toArray 44)
  refine OpX.call lyceumref04_Width_b rfl (Calls.ret (rwidth_c _ r h1 h2) ?_)
  rintro v w1 ⟨rfl, rfl⟩
  simp -dsimp (disch := first | omega | (simp only [go_sem, seval]; first | done | omega)) only [go_sem, seval, rem64]
  have hc2 := hc1.alloc (.cells #[.int .i32 r, .int .u8 p.fg.toNat, .int .u8 p.bg.toNat, .int .u8 (p.a &&& 63#8).toNat] 44)
  refine BrW.dec (fun h4 => ?_) (fun h4 => ?_)
  · simp -dsimp (disch := first | omega | (simp only [go_sem, seval]; first | done | omega)) only [go_sem, seval]
    refine hK _ _ ⟨?_, hc2.alloc _⟩
    have e : mkCel r p = [⟨r, p.fg, p.bg, p.a &&& 63#8⟩] := by simp [mkCel, h4]
    rw [e]
    refine Ox.built (c := [.int .i32 r, .int .u8 p.fg.toNat, .int .u8 p.bg.toNat, .int .u8 (p.a &&& 63#8).toNat]) ?_ Cel.len ?_ rfl rfl (by omega) rfl
    · simp -dsimp (disch := first | omega | (simp only [go_sem, seval]; first | done | omega)) only [go_sem, seval]
    · omega
  · simp -dsimp (disch := first | omega | (simp only [go_sem, seval]; first | done | omega)) only [go_sem, seval]
    refine BrW.dec (fun h5 => ?_) (fun h5 => ?_)
    · simp -dsimp (disch := first | omega | (simp only [go_sem, seval]; first | done | omega)) only [go_sem, seval, low64]
      generalize hw2 : (((w.alloc _).alloc _)).drew = w2
      have hc3 : Chg [] w w2 := by rw [← hw2]; exact (((Chg.refl _ _).alloc _).alloc _).drew
      have hh : w2.heap[w.heap.size + 1]? = some (.cells #[.int .i32 r, .int .u8 p.fg.toNat, .int .u8 p.bg.toNat, .int .u8 ((p.a &&& 63#8) ||| 64#8).toNat] 44) := by rw [← hw2]; simp -dsimp (disch := first | omega | (simp only [go_sem, seval]; first | done | omega)) only [go_sem, seval]
      refine OpX.call lyceumref05_Tail_b rfl (Calls.ret (rtail_c _ ⟨r, p.fg, p.bg, (p.a &&& 63#8) ||| 64#8⟩) ?_)
      rintro v w3 ⟨rfl, hc4⟩
      have hh2 := hc4.keep hh (by simp)
      have hc5 := hc3.trans0 hc4
      dsimp only
      simp -dsimp (disch := first | omega | (simp only [go_sem, seval]; first | done | omega)) only [go_sem, seval, hh2, low_low]
      refine hK _ _ ⟨?_, hc5.alloc _⟩
      have e : mkCel r p = [⟨r, p.fg, p.bg, (p.a &&& 63#8) ||| 64#8⟩, ⟨0, p.fg, p.bg, (p.a &&& 63#8) ||| 128#8⟩] := by simp [mkCel, h5]
      rw [e]
      exact Ox.built (c := [.int .i32 r, .int .u8 p.fg.toNat, .int .u8 p.bg.toNat, .int .u8 ((p.a &&& 63#8) ||| 64#8).toNat, .int .i32 0, .int .u8 p.fg.toNat, .int .u8 p.bg.toNat, .int .u8 ((p.a &&& 63#8) ||| 128#8).toNat]) (by simp -dsimp (disch := first | omega | (simp only [go_sem, seval]; first | done | omega)) only [go_sem, seval]) Cel.len hc5.size rfl rfl (by omega) rfl
    · refine hK _ _ ⟨?_, hc2⟩
      have e : mkCel r p = [] := by simp [mkCel, h4, h5]
      rw [e]; exact Ox.nil _ _ _ _ _
theorem rsame_c {w : World} {e e' : Option TypeId} {a a' : Option Addr} {l l' : List Cel} (hs : SxC w e a l) (hs' : SxC w e' a' l') (cap cap' : Nat) (hl : l.length ≤ 1000000000) : Calls Try.prog 35 #[.slice a l.length cap, .slice a' l'.length cap'] w (retK fun v w' => v = .bool (decide (l = l')) ∧ Chg [] w w') := by
  apply lyceumref05_Same_link
  intro K hK
  unfold lyceumref05_Same
  simp -dsimp (disch := first | omega | (simp only [go_sem, seval]; first | done | omega)) only [go_sem, seval]
  refine BrW.dec (fun h1 => ?_) (fun h1 => ?_)
  · refine hK _ _ ⟨?_, Chg.refl _ _⟩
    have : l ≠ l' := by rintro rfl; exact h1 rfl
    simp [this]
  · have hlen : l.length = l'.length := by omega
    refine Loop1.st (fun k : Nat => .int .i64 k) (fun k w' => Chg [] w w' ∧ k ≤ l.length ∧ l.take k = l'.take k) (fun k => l.length - k) 0 rfl ⟨Chg.refl _ _, by omega, rfl⟩ ?_
    rintro next k w' hn ⟨hc, hk, he⟩
    simp -dsimp (disch := first | omega | (simp only [go_sem, seval]; first | done | omega)) only [go_sem, seval]
    refine BrW.dec (fun h2 => ?_) (fun h2 => ?_)
    · have hk1 : k < l.length := by omega
      have hk2 : k < l'.length := by omega
      obtain ⟨b, o, rfl, hb, h3, -⟩ := SxC.cel (hs.chg0 hc) (List.getElem?_eq_getElem hk1)
      obtain ⟨b', o', rfl, hb', h3', -⟩ := SxC.cel (hs'.chg0 hc) (List.getElem?_eq_getElem hk2)
      simp -dsimp (disch := first | omega | (simp only [go_sem, seval]; first | done | omega)) only [go_sem, seval, h3, h3']
      refine BrW.dec (fun h4 => ?_) (fun h4 => ?_)
      · refine hK _ _ ⟨?_, hc.drew⟩
        have : l ≠ l' := by rintro rfl; exact h4 rfl
        simp [this]
      · simp -dsimp (disch := first | omega | (simp only [go_sem, seval]; first | done | omega)) only [go_sem, seval]
        refine hn (k + 1) _ ⟨hc.drew, by omega, ?_⟩ (by omega)
        rw [take_next hk1, take_next hk2, he]
        rw [Decidable.not_not.1 h4]
    · have hk1 : k = l.length := by omega
      subst hk1
      refine hK _ _ ⟨?_, hc⟩
      rw [List.take_length, hlen, List.take_length] at he
      simp [he]
end Go.Proofs.Ytdjdeahmhenchaa
