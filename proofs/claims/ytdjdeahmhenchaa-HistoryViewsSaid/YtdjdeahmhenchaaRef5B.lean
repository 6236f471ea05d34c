/- The contracts of lyceumref05: Check, pairs, Right, Mend. -/
import Derived.Test.YtdjdeahmhenchaaRef5
import Derived.Test.YtdjdeahmhenchaaGrP
import Derived.Test.YtdjdeahmhenchaaLycOps9
set_option linter.unusedSimpArgs false
set_option linter.unusedVariables false
namespace Go.Proofs.Ytdjdeahmhenchaa
open Lyc Go

theorem tail_eq (c : Cel) : (⟨0, c.fg, c.bg, (c.a &&& 63#8) ||| 128#8⟩ : Cel) = c.tailOf := by
  have h : ∀ a : BitVec 8, (a &&& 63#8) ||| 128#8 = (a &&& ~~~64#8) ||| 128#8 := by decide
  simp only [Cel.tailOf, h]
theorem rwide_c (w : World) (c : Cel) : Calls Try.prog 128 #[c.val] w (retK fun v w' => v = .bool c.wide ∧ Chg [] w w') := by
  have h : ∀ a : BitVec 8, decide (a.toNat / 64 % 2 = 1) = decide (¬ a &&& 64#8 = 0#8) := by decide
  have hb := c.a.isLt
  apply lyceumref05_wide_link
  intro K hK
  unfold lyceumref05_wide
  simp -dsimp (disch := first | omega | (simp only [go_sem, seval]; first | done | omega)) only [go_sem, seval]
  refine hK _ _ ⟨?_, chg_a1 _ _⟩
  unfold Cel.wide
  rw [← h c.a]
  congr 1
  apply decide_eq_decide.2
  have e1 : (c.a.toNat : Int).tdiv 64 = ((c.a.toNat / 64 : Nat) : Int) := by rw [Int.tdiv_eq_ediv_of_nonneg (by omega)]; rfl
  rw [e1, wrap_u8 _ (by omega) (by omega)]
  have e2 : ((c.a.toNat / 64 : Nat) : Int).tmod 2 = ((c.a.toNat / 64 % 2 : Nat) : Int) := by rw [Int.tmod_eq_emod_of_nonneg (by omega)]; rfl
  rw [e2]
  omega
theorem rtailq_c (w : World) (c : Cel) : Calls Try.prog 130 #[c.val] w (retK fun v w' => v = .bool c.tail ∧ Chg [] w w') := by
  have h : ∀ a : BitVec 8, decide (a.toNat / 128 = 1) = decide (¬ a &&& 128#8 = 0#8) := by decide
  have hb := c.a.isLt
  apply lyceumref05_tail_link
  intro K hK
  unfold lyceumref05_tail
  simp -dsimp (disch := first | omega | (simp only [go_sem, seval]; first | done | omega)) only [go_sem, seval]
  refine hK _ _ ⟨?_, chg_a1 _ _⟩
  unfold Cel.tail
  rw [← h c.a]
  congr 1
  apply decide_eq_decide.2
  have e1 : (c.a.toNat : Int).tdiv 128 = ((c.a.toNat / 128 : Nat) : Int) := by rw [Int.tdiv_eq_ediv_of_nonneg (by omega)]; rfl
  rw [e1, wrap_u8 _ (by omega) (by omega)]
  omega
theorem rcheck_c (w : World) (c : Cel) (hc : c.fits) : Calls Try.prog 127 #[c.val] w (retK fun v w' => v = .bool c.check ∧ Chg [] w w') := by
  apply lyceumref05_Check_link
  intro K hK
  unfold lyceumref05_Check
  simp -dsimp (disch := first | omega | (simp only [go_sem, seval]; first | done | omega)) only [go_sem, seval]
  have hc0 := chg_a1 w (.cells c.cells.toArray 44)
  have hb0 : (w.alloc (.cells c.cells.toArray 44)).heap[w.heap.size]? = some (.cells c.cells.toArray 44) := by simp -dsimp (disch := first | omega | (simp only [go_sem, seval]; first | done | omega)) only [go_sem, seval]
  refine OpX.call lyceumref04_Width_b rfl (Calls.ret (rwidth_c _ c.r hc.1 hc.2) ?_)
  rintro v w1 ⟨rfl, rfl⟩
  simp -dsimp (disch := first | omega | (simp only [go_sem, seval]; first | done | omega)) only [go_sem, seval]
  refine OpX.call lyceumref05_tail_b rfl (Calls.ret (rtailq_c _ c) ?_)
  rintro v w2 ⟨rfl, hc2⟩
  have hb2 := hc2.keep hb0 (by simp)
  have hc02 := hc0.trans0 hc2
  unfold Cel.check at hK
  refine BrW.by (fun h => ?_) (fun h => ?_)
  · rw [if_pos h] at hK
    refine Join1.inl ?_
    simp -dsimp (disch := first | omega | (simp only [go_sem, seval]; first | done | omega)) only [go_sem, seval, hb2]
    refine OpX.call lyceumref05_wide_b rfl (Calls.ret (rwide_c _ c) ?_)
    rintro v w3 ⟨rfl, hc3⟩
    have hb3 := hc3.keep hb2 (by simp)
    simp -dsimp (disch := first | omega | (simp only [go_sem, seval]; first | done | omega)) only [go_sem, seval]
    refine BrW.by (fun h => ?_) (fun h => ?_)
    · simp -dsimp (disch := first | omega | (simp only [go_sem, seval]; first | done | omega)) only [go_sem, seval, hb3]
      refine hK _ _ ⟨?_, hc02.trans0 hc3⟩
      simp at h; simp [h]
    · refine hK _ _ ⟨?_, hc02.trans0 hc3⟩
      simp at h; simp [h]
  · rw [if_neg (by simp [h])] at hK
    refine Join1.inl ?_
    simp -dsimp (disch := first | omega | (simp only [go_sem, seval]; first | done | omega)) only [go_sem, seval]
    refine BrW.dec (fun h1 => ?_) (fun h1 => ?_)
    · simp -dsimp (disch := first | omega | (simp only [go_sem, seval]; first | done | omega)) only [go_sem, seval, hb2]
      refine OpX.call lyceumref05_wide_b rfl (Calls.ret (rwide_c _ c) ?_)
      rintro v w3 ⟨rfl, hc3⟩
      have hb3 := hc3.keep hb2 (by simp)
      simp -dsimp (disch := first | omega | (simp only [go_sem, seval]; first | done | omega)) only [go_sem, seval]
      refine BrW.by (fun h2 => ?_) (fun h2 => ?_)
      · simp at h2
        refine hK _ _ ⟨?_, hc02.trans0 hc3⟩
        simp [h2, h1]
      · simp at h2
        simp -dsimp (disch := first | omega | (simp only [go_sem, seval]; first | done | omega)) only [go_sem, seval]
        have h3 : ¬ width c.r = 2 := by omega
        refine BrW.dec (fun h4 => absurd h4 h3) (fun h4 => ?_)
        refine hK _ _ ⟨?_, hc02.trans0 hc3⟩
        simp [h2, h3]
    · simp -dsimp (disch := first | omega | (simp only [go_sem, seval]; first | done | omega)) only [go_sem, seval]
      refine BrW.dec (fun h4 => ?_) (fun h4 => ?_)
      · simp -dsimp (disch := first | omega | (simp only [go_sem, seval]; first | done | omega)) only [go_sem, seval, hb2]
        refine OpX.call lyceumref05_wide_b rfl (Calls.ret (rwide_c _ c) ?_)
        rintro v w3 ⟨rfl, hc3⟩
        refine hK _ _ ⟨?_, hc02.trans0 hc3⟩
        cases hw : c.wide <;> simp [h1, h4]
      · refine hK _ _ ⟨?_, hc02⟩
        cases hw : c.wide <;> simp [h1, h4]

theorem rpair_c {w : World} {e : Option TypeId} {a : Option Addr} {l : List Cel} (hs : SxC w e a l) (cap : Nat) (i : Int) (h1 : -1 ≤ i) (h2 : i ≤ l.length) (hl : l.length ≤ 1000000) (hf : ∀ c ∈ l, c.fits) : Calls Try.prog 129 #[.slice a l.length cap, .int .i64 i] w
    (retK fun v w' => v = .bool (decide (0 ≤ i) && pairAt l i.toNat) ∧ Chg [] w w') := by
  apply lyceumref05_pair_link
  intro K hK
  unfold lyceumref05_pair
  refine Join1.cut (fun v w' => v = .bool (decide (0 ≤ i) && pairAt l i.toNat) ∧ Chg [] w w') ?_ ?_
  · simp -dsimp (disch := first | omega | (simp only [go_sem, seval]; first | done | omega)) only [go_sem, seval]
    refine BrW.dec (fun h3 => ?_) (fun h3 => ⟨by simp [h3], (Chg.refl _ _).drew⟩)
    obtain ⟨k, rfl⟩ := Int.eq_ofNat_of_zero_le h3
    simp -dsimp (disch := first | omega | (simp only [go_sem, seval]; first | done | omega)) only [go_sem, seval]
    refine BrW.dec (fun h4 => ?_) (fun h4 => ⟨by have := @pairAt_lt l k; simp; cases hp : pairAt l k <;> simp_all; omega, (Chg.refl _ _).drew⟩)
    have hk : k < l.length := by omega
    have hk1 : k + 1 < l.length := by omega
    have hpa : pairAt l k = pairOK l[k] l[k + 1] := by
      unfold pairAt; rw [List.getElem?_eq_getElem hk, List.getElem?_eq_getElem hk1]
    have hgo : (decide (0 ≤ (k : Int)) && pairAt l (k : Int).toNat) = pairOK l[k] l[k + 1] := by simp [hpa]
    rw [hgo]
    obtain ⟨b, o, rfl, hb, m1, -⟩ := SxC.cel hs (List.getElem?_eq_getElem hk)
    simp -dsimp (disch := first | omega | (simp only [go_sem, seval]; first | done | omega)) only [go_sem, seval, m1]
    refine OpX.call lyceumref05_Check_b rfl (Calls.ret (rcheck_c _ l[k] (hf _ (List.getElem_mem hk))) ?_)
    rintro v w1 ⟨rfl, hc1⟩
    refine BrW.by (fun h5 => ?_) (fun h5 => ⟨by simp [pairOK, h5], hc1.low_drew⟩)
    obtain ⟨b', o', hbo, hb', m1, -⟩ := SxC.cel ((hs.chg0 (Chg.refl _ _).drew).chg0 hc1) (List.getElem?_eq_getElem hk)
    cases hbo
    simp -dsimp (disch := first | omega | (simp only [go_sem, seval]; first | done | omega)) only [go_sem, seval, m1]
    refine OpX.call lyceumref05_wide_b rfl (Calls.ret (rwide_c _ l[k]) ?_)
    rintro v w2 ⟨rfl, hc2⟩
    have hc12 := hc1.trans0 hc2
    refine BrW.by (fun h6 => ?_) (fun h6 => ⟨by simp [pairOK, h6], hc12.low_drew⟩)
    obtain ⟨b', o', hbo, hb', m1, -⟩ := SxC.cel ((hs.chg0 (Chg.refl _ _).drew).chg0 hc12) (List.getElem?_eq_getElem hk)
    cases hbo
    obtain ⟨b', o', hbo, hb', m2, -⟩ := SxC.cel ((hs.chg0 (Chg.refl _ _).drew).chg0 hc12) (List.getElem?_eq_getElem hk1)
    cases hbo
    have ek : (k : Int) + 1 = ((k + 1 : Nat) : Int) := by simp
    simp -dsimp (disch := first | omega | (simp only [go_sem, seval]; first | done | omega)) only [go_sem, seval, m1, m2, ek]
    refine OpX.call lyceumref05_Tail_b rfl (Calls.ret (rtail_c _ l[k]) ?_)
    rintro v w3 ⟨rfl, hc3⟩
    rw [tail_eq]
    obtain ⟨b', o', hbo, hb', m2, -⟩ := SxC.cel (((hs.chg0 (Chg.refl _ _).drew).chg0 hc12).chg0 hc3) (List.getElem?_eq_getElem hk1)
    cases hbo
    simp -dsimp (disch := first | omega | (simp only [go_sem, seval]; first | done | omega)) only [go_sem, seval, m2]
    refine ⟨by simp [pairOK, h5, h6], (hc12.trans0 hc3).low_drew⟩
  · rintro v w1 ⟨rfl, hc⟩
    exact hK _ _ ⟨rfl, hc⟩

theorem near_eq (l : List Cel) (i : Nat) : near l i = (pairAt l i || (decide (0 ≤ (i : Int) - 1) && pairAt l ((i : Int) - 1).toNat)) := by
  cases i with
  | zero => simp [near]
  | succ i =>
    have e1 : (((i + 1 : Nat) : Int) - 1).toNat = i := by omega
    have e2 : decide (0 ≤ ((i + 1 : Nat) : Int) - 1) = true := by apply decide_eq_true; omega
    rw [e1, e2]; simp [near]
theorem single_eq (c : Cel) : c.single = (c.check && (!c.wide && !c.tail)) := by
  have h : ∀ a : BitVec 8, decide (a &&& 192#8 = 0#8) = (!decide (¬ a &&& 64#8 = 0#8) && !decide (¬ a &&& 128#8 = 0#8)) := by decide
  unfold Cel.single Cel.plain Cel.wide Cel.tail
  rw [h, Bool.and_comm]
theorem rmend_c {w : World} {e : Option TypeId} {a : Option Addr} {l : List Cel} (hs : SxC w e a l) (cap : Nat) (hl : l.length ≤ 100000) (hf : ∀ c ∈ l, c.fits) : Calls Try.prog 121 #[.slice a l.length cap] w
    (retK fun v w' => Ox w.heap.size w' 44 4 Cel.cells v (mend l) ∧ Chg [] w w') := by
  apply lyceumref05_Mend_link
  intro K hK
  unfold lyceumref05_Mend
  refine Loop2.st (fun s : Value × Nat => s.1) (fun s : Value × Nat => .int .i64 s.2) (fun s w' => Chg [] w w' ∧ Ox w.heap.size w' 44 4 Cel.cells s.1 ((mend l).take s.2) ∧ s.2 ≤ l.length) (fun s => l.length - s.2) (.slice none 0 0, 0) rfl rfl ⟨Chg.refl _ _, Ox.nil _ _ _ _ _, by simp⟩ ?_
  rintro next ⟨v, k⟩ w1 hn ⟨hc1, ho1, hk1⟩
  dsimp only at ho1 hk1 ⊢
  simp -dsimp (disch := first | omega | (simp only [go_sem, seval]; first | done | omega)) only [go_sem, seval]
  refine BrW.dec (fun h1 => ?_) (fun h1 => ?_)
  · have hk : k < l.length := by omega
    have hs1 := hs.chg0 hc1
    obtain ⟨b, o, rfl, hb, m1, -⟩ := SxC.cel hs1 (List.getElem?_eq_getElem hk)
    simp -dsimp (disch := first | omega | (simp only [go_sem, seval]; first | done | omega)) only [go_sem, seval, m1]
    have hc2 := chg_a1 w1 (.cells l[k].cells.toArray 44)
    have hb2 : (w1.alloc (.cells l[k].cells.toArray 44)).heap[w1.heap.size]? = some (.cells l[k].cells.toArray 44) := by simp -dsimp (disch := first | omega | (simp only [go_sem, seval]; first | done | omega)) only [go_sem, seval]
    refine OpX.call lyceumref05_Check_b rfl (Calls.ret (rcheck_c _ l[k] (hf _ (List.getElem_mem hk))) ?_)
    rintro v3 w3 ⟨rfl, hc3⟩
    have hc23 := hc2.trans0 hc3
    have hb3 := hc3.keep hb2 (by simp)
    refine OpX.call lyceumref05_pair_b rfl (Calls.ret (rpair_c (hs1.chg0 hc23) cap (k : Int) (by omega) (by omega) (by omega) hf) ?_)
    rintro v4 w4 ⟨rfl, hc4⟩
    have hc24 := hc23.trans0 hc4
    have hb4 := hc4.keep hb3 (by simp)
    simp -dsimp (disch := first | omega | (simp only [go_sem, seval]; first | done | omega)) only [go_sem, seval]
    refine OpX.call lyceumref05_pair_b rfl (Calls.ret (rpair_c (hs1.chg0 hc24) cap ((k : Int) - 1) (by omega) (by omega) (by omega) hf) ?_)
    rintro v5 w5 ⟨rfl, hc5⟩
    have hc25 := hc24.trans0 hc5
    have hb5 := hc5.keep hb4 (by simp)
    have hg := mend_get l k _ (List.getElem?_eq_getElem hk)
    have hn0 : near l k = (pairAt l k || (decide (0 ≤ (k : Int) - 1) && pairAt l ((k : Int) - 1).toNat)) := near_eq l k
    have hp0 : (decide (0 ≤ (k : Int)) && pairAt l (k : Int).toNat) = pairAt l k := by simp
    rw [hp0]
    refine Join0.cut (fun w6 => Chg [w1.heap.size] w5 w6 ∧ ∃ c, w6.heap[w1.heap.size]? = some (.cells c.cells.toArray 44) ∧ (mend l)[k]? = some c) ?_ ?_
    · refine Join1.cut (fun v w6 => v = .bool (!(near l k || l[k].single)) ∧ Chg [] w5 w6) ?_ ?_
      · refine BrW.by (fun h2 => ?_) (fun h2 => ?_)
        · simp -dsimp (disch := first | omega | (simp only [go_sem, seval]; first | done | omega)) only [go_sem, seval]
          have hnt : near l k = true := by rw [hn0, h2]; rfl
          exact ⟨by rw [hnt]; rfl, Chg.refl _ _⟩
        · refine BrW.by (fun h3 => ?_) (fun h3 => ?_)
          · simp -dsimp (disch := first | omega | (simp only [go_sem, seval]; first | done | omega)) only [go_sem, seval]
            have hnt : near l k = true := by rw [hn0, h2, h3]; rfl
            exact ⟨by rw [hnt]; rfl, Chg.refl _ _⟩
          · have hnf : near l k = false := by rw [hn0, h2, h3]; rfl
            refine BrW.by (fun h4 => ?_) (fun h4 => ?_)
            · simp -dsimp (disch := first | omega | (simp only [go_sem, seval]; first | done | omega)) only [go_sem, seval, hb5]
              refine OpX.call lyceumref05_wide_b rfl (Calls.ret (rwide_c _ l[k]) ?_)
              rintro v7 w7 ⟨rfl, hc7⟩
              have hb7 := hc7.keep hb5 (by simp)
              simp -dsimp (disch := first | omega | (simp only [go_sem, seval]; first | done | omega)) only [go_sem, seval]
              refine BrW.by (fun h5 => ?_) (fun h5 => ?_)
              · simp -dsimp (disch := first | omega | (simp only [go_sem, seval]; first | done | omega)) only [go_sem, seval, hb7]
                refine OpX.call lyceumref05_tail_b rfl (Calls.ret (rtailq_c _ l[k]) ?_)
                rintro v8 w8 ⟨rfl, hc8⟩
                simp -dsimp (disch := first | omega | (simp only [go_sem, seval]; first | done | omega)) only [go_sem, seval]
                refine ⟨?_, hc7.trans0 hc8⟩
                simp at h5
                simp [hnf, single_eq, h4, h5]
              · simp -dsimp (disch := first | omega | (simp only [go_sem, seval]; first | done | omega)) only [go_sem, seval]
                refine ⟨?_, hc7⟩
                simp at h5
                simp [hnf, single_eq, h5]
            · simp -dsimp (disch := first | omega | (simp only [go_sem, seval]; first | done | omega)) only [go_sem, seval]
              exact ⟨by simp [hnf, single_eq, h4], Chg.refl _ _⟩
      · rintro v6 w6 ⟨rfl, hc6⟩
        have hb6 := hc6.keep hb5 (by simp)
        have hl6 := lt_of_heap hb6
        refine BrW.by (fun h2 => ?_) (fun h2 => ?_)
        · simp -dsimp (disch := first | omega | (simp only [go_sem, seval]; first | done | omega)) only [go_sem, seval, hb6]
          refine ⟨(hc6.mono (by simp)).set _ _ (by simp), ⟨32, l[k].fg, l[k].bg, 0⟩, rfl, ?_⟩
          simp at h2
          rw [hg, h2.1]
          simp [Cel.fix, h2.2]
        · refine ⟨hc6.mono (by simp), l[k], hb6, ?_⟩
          rw [hg]
          cases hn1 : near l k
          · simp [hn1] at h2
            simp [Cel.fix, h2]
          · rfl
    · rintro w6 ⟨hc6, c, hb6, hg6⟩
      have hc16 := hc25.trans hc6 (by simp)
      have ho6 := ho1.chg0 hc16
      simp -dsimp (disch := first | omega | (simp only [go_sem, seval]; first | done | omega)) only [go_sem, seval, hb6]
      refine app_x (l2 := [c]) ty45ap Cel.len Cel.ok (ho6.chg0 (chg_a1 _ _)) (Sx.built (c := c.cells) (by simp -dsimp (disch := first | omega | (simp only [go_sem, seval]; first | done | omega)) only [go_sem, seval]; rfl) (by simp)) rfl (by simp; omega) (by omega) (by simp -dsimp (disch := first | omega | (simp only [go_sem, seval]; first | done | omega)) only [go_sem, seval]; have := hc1.size; have := hc16.size; omega) ?_
      intro v' w' ho' hc' _
      have hca : Chg v.ownBlock.toList w6 w' := ((Chg.refl _ w6).alloc _).trans hc' (fun x hx => .inl hx)
      have hc1' := own_chg ho6 (hc1.trans0 hc16) hca
      simp -dsimp (disch := first | omega | (simp only [go_sem, seval]; first | done | omega)) only [go_sem, seval]
      refine hn (v', k + 1) _ ⟨hc1', ?_, by dsimp only; omega⟩ (by dsimp only; omega)
      dsimp only
      have hkm : k < (mend l).length := by rw [mend_len]; exact hk
      have e1 : (mend l)[k] = c := by have := hg6; rw [List.getElem?_eq_getElem hkm] at this; exact Option.some.inj this
      rw [take_next hkm, e1]
      exact ho'
  · have hk : k = l.length := by omega
    subst hk
    refine hK _ _ ⟨?_, hc1⟩
    rwa [List.take_of_length_le (by rw [mend_len]; omega)] at ho1

theorem prev_eq (l : List Cel) (i : Nat) : (decide (0 ≤ (i : Int) - 1) && pairAt l ((i : Int) - 1).toNat) = prev l i := by
  cases i with
  | zero => simp [prev]
  | succ i =>
    have e1 : (((i + 1 : Nat) : Int) - 1).toNat = i := by omega
    have e2 : decide (0 ≤ ((i + 1 : Nat) : Int) - 1) = true := by apply decide_eq_true; omega
    rw [e1, e2]; simp [prev]
theorem rright_c {w : World} {e : Option TypeId} {a : Option Addr} {l : List Cel} (hs : SxC w e a l) (cap : Nat) (hl : l.length ≤ 100000) (hf : ∀ c ∈ l, c.fits) : Calls Try.prog 120 #[.slice a l.length cap] w
    (retK fun v w' => v = .bool (right l) ∧ Chg [] w w') := by
  apply lyceumref05_Right_link
  intro K hK
  unfold lyceumref05_Right
  refine Loop1.st (fun k : Nat => .int .i64 k) (fun k w' => Chg [] w w' ∧ k ≤ l.length ∧ ∀ i c, i < k → l[i]? = some c → near l i = true ∨ c.single = true) (fun k => l.length - k) 0 rfl ⟨Chg.refl _ _, by omega, by simp⟩ ?_
  rintro next k w1 hn ⟨hc1, hk1, hi1⟩
  simp -dsimp (disch := first | omega | (simp only [go_sem, seval]; first | done | omega)) only [go_sem, seval]
  refine BrW.dec (fun h1 => ?_) (fun h1 => ?_)
  · have hk : k < l.length := by omega
    have hs1 := hs.chg0 hc1
    have hgk := List.getElem?_eq_getElem hk
    have hiff := ok_iff hgk
    refine Join1.cut (fun v w' => v = .bool (!decide (near l k = true ∨ l[k].single = true)) ∧ Chg [] w1 w') ?_ ?_
    · obtain ⟨b, o, rfl, hb, m1, -⟩ := SxC.cel hs1 hgk
      simp -dsimp (disch := first | omega | (simp only [go_sem, seval]; first | done | omega)) only [go_sem, seval, m1]
      refine OpX.call lyceumref05_Check_b rfl (Calls.ret (rcheck_c _ l[k] (hf _ (List.getElem_mem hk))) ?_)
      rintro v2 w2 ⟨rfl, hc2⟩
      simp -dsimp (disch := first | omega | (simp only [go_sem, seval]; first | done | omega)) only [go_sem, seval]
      refine BrW.by (fun h2 => ⟨?_, hc2⟩) (fun h2 => ?_)
      · simp at h2; simp [hiff, h2]
      · simp at h2
        obtain ⟨b', o', hbo, hb', m2, -⟩ := SxC.cel (hs1.chg0 hc2) hgk
        cases hbo
        simp -dsimp (disch := first | omega | (simp only [go_sem, seval]; first | done | omega)) only [go_sem, seval, m2]
        refine OpX.call lyceumref05_wide_b rfl (Calls.ret (rwide_c _ l[k]) ?_)
        rintro v3 w3 ⟨rfl, hc3⟩
        have hc13 := hc2.trans0 hc3
        obtain ⟨b', o', hbo, hb', m3, -⟩ := SxC.cel (hs1.chg0 hc13) hgk
        cases hbo
        refine BrW.by (fun h3 => ?_) (fun h3 => ?_)
        · refine OpX.call lyceumref05_pair_b rfl (Calls.ret (rpair_c (hs1.chg0 hc13) cap (k : Int) (by omega) (by omega) (by omega) hf) ?_)
          rintro v4 w4 ⟨rfl, hc4⟩
          have hc14 := hc13.trans0 hc4
          have hp0 : (decide (0 ≤ (k : Int)) && pairAt l (k : Int).toNat) = pairAt l k := by simp
          rw [hp0]
          simp -dsimp (disch := first | omega | (simp only [go_sem, seval]; first | done | omega)) only [go_sem, seval]
          refine BrW.by (fun h4 => ⟨?_, hc14⟩) (fun h4 => ?_)
          · simp at h4; simp [hiff, h3, h4]
          · simp at h4
            obtain ⟨b', o', hbo, hb', m4, -⟩ := SxC.cel (hs1.chg0 hc14) hgk
            cases hbo
            simp -dsimp (disch := first | omega | (simp only [go_sem, seval]; first | done | omega)) only [go_sem, seval, m4]
            refine OpX.call lyceumref05_tail_b rfl (Calls.ret (rtailq_c _ l[k]) ?_)
            rintro v5 w5 ⟨rfl, hc5⟩
            have hc15 := hc14.trans0 hc5
            refine BrW.by (fun h5 => ?_) (fun h5 => ?_)
            · simp -dsimp (disch := first | omega | (simp only [go_sem, seval]; first | done | omega)) only [go_sem, seval]
              refine OpX.call lyceumref05_pair_b rfl (Calls.ret (rpair_c (hs1.chg0 hc15) cap ((k : Int) - 1) (by omega) (by omega) (by omega) hf) ?_)
              rintro v6 w6 ⟨rfl, hc6⟩
              rw [prev_eq]
              simp -dsimp (disch := first | omega | (simp only [go_sem, seval]; first | done | omega)) only [go_sem, seval]
              refine ⟨?_, hc15.trans0 hc6⟩
              simp [hiff, h2, h4, h5]
            · refine ⟨?_, hc15⟩
              simp [hiff, h2, h4, h5]
        · simp -dsimp (disch := first | omega | (simp only [go_sem, seval]; first | done | omega)) only [go_sem, seval, m3]
          refine OpX.call lyceumref05_tail_b rfl (Calls.ret (rtailq_c _ l[k]) ?_)
          rintro v5 w5 ⟨rfl, hc5⟩
          have hc15 := hc13.trans0 hc5
          refine BrW.by (fun h5 => ?_) (fun h5 => ?_)
          · simp -dsimp (disch := first | omega | (simp only [go_sem, seval]; first | done | omega)) only [go_sem, seval]
            refine OpX.call lyceumref05_pair_b rfl (Calls.ret (rpair_c (hs1.chg0 hc15) cap ((k : Int) - 1) (by omega) (by omega) (by omega) hf) ?_)
            rintro v6 w6 ⟨rfl, hc6⟩
            rw [prev_eq]
            simp -dsimp (disch := first | omega | (simp only [go_sem, seval]; first | done | omega)) only [go_sem, seval]
            refine ⟨?_, hc15.trans0 hc6⟩
            simp [hiff, h2, h3, h5]
          · refine ⟨?_, hc15⟩
            simp [hiff, h2, h3, h5]
    · rintro v w2 ⟨rfl, hc2⟩
      refine BrW.by (fun h2 => ?_) (fun h2 => ?_)
      · have hnr : right l = false := by
          cases hr : right l
          · rfl
          · simp at h2
            rcases right_get l hr k _ hgk with h | h
            · rw [h] at h2; simp at h2
            · rw [h] at h2; simp at h2
        exact hK _ _ ⟨by rw [hnr], hc1.trans0 hc2⟩
      · simp -dsimp (disch := first | omega | (simp only [go_sem, seval]; first | done | omega)) only [go_sem, seval]
        refine hn (k + 1) _ ⟨hc1.trans0 hc2, by omega, ?_⟩ (by omega)
        intro i c hi hic
        by_cases he : i = k
        · subst he
          rw [hgk] at hic; cases hic
          rw [Bool.not_eq_false'] at h2
          exact of_decide_eq_true h2
        · exact hi1 i c (by omega) hic
  · have hk : k = l.length := by omega
    refine hK _ _ ⟨?_, hc1⟩
    rw [right_of_get l fun i c hic => hi1 i c (by rw [hk]; exact (List.getElem?_eq_some_iff.1 hic).1) hic]
end Go.Proofs.Ytdjdeahmhenchaa
