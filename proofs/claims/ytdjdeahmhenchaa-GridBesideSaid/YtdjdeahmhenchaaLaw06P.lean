/- The plain laws of layer 6: what fills, what lies beside. It names no program. -/
import Derived.Test.YtdjdeahmhenchaaGrP
set_option linter.unusedSimpArgs false
set_option linter.unusedVariables false
namespace Lyc
open Go

theorem Gr.chg_at {g : Gr} (h : g.ok) {top fin : Int} {f : Nat → List Cel} (hf : ∀ y, y < g.h → top ≤ (y : Int) → (y : Int) < fin → (f y).length = g.w) {x y : Nat} (hx : x < g.w) (hy : y < g.h) :
    some ((g.chg top fin f).at x y) = (if top ≤ y ∧ (y : Int) < fin then mend (f y) else g.row y)[x]? := by
  have hok := Gr.chg_ok h hf
  rw [← Gr.chg_row h hf hy, hok.row_get (show x < (g.chg top fin f).w from hx) (show y < (g.chg top fin f).h from hy)]

/-- A place of a row that was mended: it is as it was put, or was half of a pair. -/
theorem mended_at {l : List Cel} {i : Nat} {c d : Cel} (h : l[i]? = some c) (hd : (mend l)[i]? = some d) (hne : d ≠ c) : near l i = false ∧ c.single = false := by
  rw [mend_get l i c h] at hd
  cases hn : near l i with
  | true => rw [hn] at hd; simp at hd; exact absurd hd.symm hne
  | false =>
    rw [hn] at hd
    refine ⟨rfl, ?_⟩
    cases hs : c.single with
    | false => rfl
    | true => simp [fix_of_single hs] at hd; exact absurd hd.symm hne

theorem fill_at {g : Gr} (hg : g.ok) (hr : g.right = true) {X Y W H : Int} {c : Cel} (hu : c.usual = true) {x y : Nat} (hx : x < g.w) (hy : y < g.h) :
    ((X ≤ x ∧ (x : Int) < X + W ∧ Y ≤ y ∧ (y : Int) < Y + H) → (g.fill X Y W H c).at x y = c) ∧
    (¬ (X ≤ x ∧ (x : Int) < X + W ∧ Y ≤ y ∧ (y : Int) < Y + H) → (g.fill X Y W H c).at x y ≠ g.at x y → (Y ≤ y ∧ (y : Int) < Y + H) ∧ 64 ≤ (g.at x y).a.toNat ∧ ((x : Int) = X - 1 ∨ (x : Int) = X + W)) := by
  have hat := Gr.chg_at hg (top := (spanG Y H g.h).1) (fin := (spanG Y H g.h).2) (f := fun y => lineOf g.w fun x => if (spanG X W g.w).1 ≤ (x : Int) ∧ (x : Int) < (spanG X W g.w).2 then c else g.at x y) (fun _ _ _ _ => lineOf_len _ _) hx hy
  have hsy : ((spanG Y H g.h).1 ≤ (y : Int) ∧ (y : Int) < (spanG Y H g.h).2) ↔ (Y ≤ y ∧ (y : Int) < Y + H) := spanG_mem (by omega) (by omega)
  have hsx : ∀ i : Nat, i < g.w → (((spanG X W g.w).1 ≤ (i : Int) ∧ (i : Int) < (spanG X W g.w).2) ↔ (X ≤ i ∧ (i : Int) < X + W)) := fun i hi => spanG_mem (by omega) (by omega)
  have hfl : (g.fill X Y W H c) = g.chg (spanG Y H g.h).1 (spanG Y H g.h).2 (fun y => lineOf g.w fun x => if (spanG X W g.w).1 ≤ (x : Int) ∧ (x : Int) < (spanG X W g.w).2 then c else g.at x y) := rfl
  rw [← hfl] at hat
  generalize (g.fill X Y W H c).at x y = b at hat
  generalize hL : (lineOf g.w fun x => if (spanG X W g.w).1 ≤ (x : Int) ∧ (x : Int) < (spanG X W g.w).2 then c else g.at x y) = L at hat
  have hLg : ∀ i, i < g.w → L[i]? = some (if X ≤ i ∧ (i : Int) < X + W then c else g.at i y) := by
    intro i hi
    rw [← hL, lineOf_get hi]
    simp only [hsx i hi]
  have hLn : ∀ i, ¬ i < g.w → L[i]? = none := by
    intro i hi
    rw [← hL, List.getElem?_eq_none (by rw [lineOf_len]; omega)]
  constructor
  · rintro ⟨h1, h2, h3, h4⟩
    rw [if_pos (hsy.2 ⟨h3, h4⟩), mend_get L x c (by rw [hLg x hx, if_pos ⟨h1, h2⟩])] at hat
    rw [fix_of_single (usual_single hu)] at hat
    simpa using hat
  · intro hni hne
    by_cases hyy : Y ≤ y ∧ (y : Int) < Y + H
    · refine ⟨hyy, ?_⟩
      rw [if_pos (hsy.2 hyy)] at hat
      have hLx : L[x]? = some (g.at x y) := by rw [hLg x hx, if_neg (by omega)]
      obtain ⟨hn, hs⟩ := mended_at hLx hat.symm hne
      have hrow := right_get (g.row y) (Gr.right.at hr hy) x (g.at x y) (hg.row_get hx hy)
      rcases hrow with h | h
      · rw [near_prev] at hn h
        rw [Bool.or_eq_false_iff] at hn
        rw [Bool.or_eq_true] at h
        rcases h with h | h
        · obtain ⟨d, p1, p2, p3, p4⟩ := pairAt_get h
          rw [hg.row_get hx hy] at p1
          cases p1
          refine ⟨wide_64 p3, .inl ?_⟩
          have hx1 : x + 1 < g.w := by have := (List.getElem?_eq_some_iff.1 p2).1; rw [hg.row_len hy] at this; exact this
          by_cases hin : X ≤ ((x + 1 : Nat) : Int) ∧ ((x + 1 : Nat) : Int) < X + W
          · omega
          · have : pairAt L x = true := pairAt_of hLx (by rw [hLg (x + 1) hx1, if_neg hin, ← hg.row_get hx1 hy, p2]) p3 p4
            rw [hn.1] at this; cases this
        · obtain ⟨d, p1, p2, p3, p4, p5⟩ := prev_get h
          rw [hg.row_get hx hy] at p1
          rw [Option.some.injEq] at p1
          refine ⟨by rw [p1]; exact tail_64 (tailOf_tail d), .inr ?_⟩
          obtain ⟨k, rfl⟩ : ∃ k, x = k + 1 := ⟨x - 1, by omega⟩
          have hk : k < g.w := by omega
          by_cases hin : X ≤ ((k : Nat) : Int) ∧ ((k : Nat) : Int) < X + W
          · omega
          · have e1 : k + 1 - 1 = k := by omega
            rw [e1, hg.row_get hk hy] at p3
            rw [Option.some.injEq] at p3
            have : pairAt L k = true := pairAt_of (c := d) (by rw [hLg k hk, if_neg hin, p3]) (by rw [hLx, p1]) p4 p5
            have h9 : pairAt L k = false := hn.2
            rw [h9] at this; cases this
      · rw [hs] at h; cases h
    · rw [if_neg (fun h => hyy (hsy.1 h)), hg.row_get hx hy] at hat
      simp at hat
      exact absurd hat hne
end Lyc
