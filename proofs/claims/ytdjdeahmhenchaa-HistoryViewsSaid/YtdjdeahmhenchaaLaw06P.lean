/- The plain laws of layer 6: what fills, what lies beside. It names no program. -/
import Derived.Test.YtdjdeahmhenchaaGrP
set_option linter.unusedSimpArgs false
set_option linter.unusedVariables false
namespace Lyc
open Go

theorem Gr.chg_at {g : Gr} (h : g.ok) {top fin : Int} {f : Nat → List Cel} (hf : ∀ y, y < g.h → top ≤ (y : Int) → (y : Int) < fin → (f y).length = g.w) {x y : Nat} (hx : x < g.w) (hy : y < g.h) :
    some ((g.chg top fin f).at x y) = (if top ≤ y ∧ (y : Int) < fin then mend (f y) else g.row y)[x]? := by
  have hok := Gr.chg_ok h hf
  rw [← Gr.chg_row h hf hy, hok.row_get (show x < (g.chg top fin f).w from hx) (show y < (g.chg top fin f).h from hy)]

/-- A place of a row that was mended: it is as it was put, or was half of a pair. -/
theorem mended_at {l : List Cel} {i : Nat} {c d : Cel} (h : l[i]? = some c) (hd : (mend l)[i]? = some d) (hne : d ≠ c) : near l i = false ∧ c.single = false := by
  rw [mend_get l i c h] at hd
  cases hn : near l i with
  | true => rw [hn] at hd; simp at hd; exact absurd hd.symm hne
  | false =>
    rw [hn] at hd
    refine ⟨rfl, ?_⟩
    cases hs : c.single with
    | false => rfl
    | true => simp [fix_of_single hs] at hd; exact absurd hd.symm hne

theorem fill_at {g : Gr} (hg : g.ok) (hr : g.right = true) {X Y W H : Int} {c : Cel} (hu : c.usual = true) {x y : Nat} (hx : x < g.w) (hy : y < g.h) :
    ((X ≤ x ∧ (x : Int) < X + W ∧ Y ≤ y ∧ (y : Int) < Y + H) → (g.fill X Y W H c).at x y = c) ∧
    (¬ (X ≤ x ∧ (x : Int) < X + W ∧ Y ≤ y ∧ (y : Int) < Y + H) → (g.fill X Y W H c).at x y ≠ g.at x y → (Y ≤ y ∧ (y : Int) < Y + H) ∧ 64 ≤ (g.at x y).a.toNat ∧ ((x : Int) = X - 1 ∨ (x : Int) = X + W)) := by
  have hat := Gr.chg_at hg (top := (spanG Y H g.h).1) (fin := (spanG Y H g.h).2) (f := fun y => lineOf g.w fun x => if (spanG X W g.w).1 ≤ (x : Int) ∧ (x : Int) < (spanG X W g.w).2 then c else g.at x y) (fun _ _ _ _ => lineOf_len _ _) hx hy
  have hsy : ((spanG Y H g.h).1 ≤ (y : Int) ∧ (y : Int) < (spanG Y H g.h).2) ↔ (Y ≤ y ∧ (y : Int) < Y + H) := spanG_mem (by omega) (by omega)
  have hsx : ∀ i : Nat, i < g.w → (((spanG X W g.w).1 ≤ (i : Int) ∧ (i : Int) < (spanG X W g.w).2) ↔ (X ≤ i ∧ (i : Int) < X + W)) := fun i hi => spanG_mem (by omega) (by omega)
  have hfl : (g.fill X Y W H c) = g.chg (spanG Y H g.h).1 (spanG Y H g.h).2 (fun y => lineOf g.w fun x => if (spanG X W g.w).1 ≤ (x : Int) ∧ (x : Int) < (spanG X W g.w).2 then c else g.at x y) := rfl
  rw [← hfl] at hat
  generalize (g.fill X Y W H c).at x y = b at hat
  generalize hL : (lineOf g.w fun x => if (spanG X W g.w).1 ≤ (x : Int) ∧ (x : Int) < (spanG X W g.w).2 then c else g.at x y) = L at hat
  have hLg : ∀ i, i < g.w → L[i]? = some (if X ≤ i ∧ (i : Int) < X + W then c else g.at i y) := by
    intro i hi
    rw [← hL, lineOf_get hi]
    simp only [hsx i hi]
  have hLn : ∀ i, ¬ i < g.w → L[i]? = none := by
    intro i hi
    rw [← hL, List.getElem?_eq_none (by rw [lineOf_len]; omega)]
  constructor
  · rintro ⟨h1, h2, h3, h4⟩
    rw [if_pos (hsy.2 ⟨h3, h4⟩), mend_get L x c (by rw [hLg x hx, if_pos ⟨h1, h2⟩])] at hat
    rw [fix_of_single (usual_single hu)] at hat
    simpa using hat
  · intro hni hne
    by_cases hyy : Y ≤ y ∧ (y : Int) < Y + H
    · refine ⟨hyy, ?_⟩
      rw [if_pos (hsy.2 hyy)] at hat
      have hLx : L[x]? = some (g.at x y) := by rw [hLg x hx, if_neg (by omega)]
      obtain ⟨hn, hs⟩ := mended_at hLx hat.symm hne
      have hrow := right_get (g.row y) (Gr.right.at hr hy) x (g.at x y) (hg.row_get hx hy)
      rcases hrow with h | h
      · rw [near_prev] at hn h
        rw [Bool.or_eq_false_iff] at hn
        rw [Bool.or_eq_true] at h
        rcases h with h | h
        · obtain ⟨d, p1, p2, p3, p4⟩ := pairAt_get h
          rw [hg.row_get hx hy] at p1
          cases p1
          refine ⟨wide_64 p3, .inl ?_⟩
          have hx1 : x + 1 < g.w := by have := (List.getElem?_eq_some_iff.1 p2).1; rw [hg.row_len hy] at this; exact this
          by_cases hin : X ≤ ((x + 1 : Nat) : Int) ∧ ((x + 1 : Nat) : Int) < X + W
          · omega
          · have : pairAt L x = true := pairAt_of hLx (by rw [hLg (x + 1) hx1, if_neg hin, ← hg.row_get hx1 hy, p2]) p3 p4
            rw [hn.1] at this; cases this
        · obtain ⟨d, p1, p2, p3, p4, p5⟩ := prev_get h
          rw [hg.row_get hx hy] at p1
          rw [Option.some.injEq] at p1
          refine ⟨by rw [p1]; exact tail_64 (tailOf_tail d), .inr ?_⟩
          obtain ⟨k, rfl⟩ : ∃ k, x = k + 1 := ⟨x - 1, by omega⟩
          have hk : k < g.w := by omega
          by_cases hin : X ≤ ((k : Nat) : Int) ∧ ((k : Nat) : Int) < X + W
          · omega
          · have e1 : k + 1 - 1 = k := by omega
            rw [e1, hg.row_get hk hy] at p3
            rw [Option.some.injEq] at p3
            have : pairAt L k = true := pairAt_of (c := d) (by rw [hLg k hk, if_neg hin, p3]) (by rw [hLx, p1]) p4 p5
            have h9 : pairAt L k = false := hn.2
            rw [h9] at this; cases this
      · rw [hs] at h; cases h
    · rw [if_neg (fun h => hyy (hsy.1 h)), hg.row_get hx hy] at hat
      simp at hat
      exact absurd hat hne

theorem scrollF_right {g : Gr} (hr : g.right = true) {T E N : Int} {c : Cel} (hu : c.usual = true) (ht : 0 ≤ T) (he : E ≤ g.h) (y : Nat) : right (g.scrollF T E N c y) = true := by
  unfold Gr.scrollF
  by_cases h : (y : Int) + N < T ∨ E ≤ (y : Int) + N
  · rw [if_pos h]
    refine right_single fun d hd => ?_
    unfold lineOf at hd
    obtain ⟨_, _, rfl⟩ := List.mem_map.1 hd
    exact usual_single hu
  · rw [if_neg h]; exact Gr.right.at hr (by omega)
theorem scroll_at {g : Gr} (hg : g.ok) (hr : g.right = true) {T E N : Int} {c : Cel} (hu : c.usual = true) {x y : Nat} (hx : x < g.w) (hy : y < g.h) :
    (g.scroll T E N c).at x y = if min (max T 0) g.h ≤ (y : Int) ∧ (y : Int) < min (max E 0) g.h then
      (if (y : Int) + min (max N (-g.h)) g.h < min (max T 0) g.h ∨ min (max E 0) g.h ≤ (y : Int) + min (max N (-g.h)) g.h then c else g.at x ((y : Int) + min (max N (-g.h)) g.h).toNat) else g.at x y := by
  have hl := hg.scrollF_len (N := min (max N (-g.h)) g.h) (c := c) (show 0 ≤ min (max T 0) g.h by omega) (show min (max E 0) g.h ≤ g.h by omega)
  have hat := Gr.chg_at hg (top := min (max T 0) g.h) (fin := min (max E 0) g.h) (f := g.scrollF (min (max T 0) g.h) (min (max E 0) g.h) (min (max N (-g.h)) g.h) c) (fun y _ _ _ => hl y) hx hy
  have hsc : g.scroll T E N c = g.chg (min (max T 0) g.h) (min (max E 0) g.h) (g.scrollF (min (max T 0) g.h) (min (max E 0) g.h) (min (max N (-g.h)) g.h) c) := rfl
  rw [← hsc, mend_id (scrollF_right hr hu (by omega) (by omega) y)] at hat
  rw [← Option.some.injEq, hat]
  by_cases h : min (max T 0) g.h ≤ (y : Int) ∧ (y : Int) < min (max E 0) g.h
  · rw [if_pos h, if_pos h]
    unfold Gr.scrollF
    by_cases h2 : (y : Int) + min (max N (-g.h)) g.h < min (max T 0) g.h ∨ min (max E 0) g.h ≤ (y : Int) + min (max N (-g.h)) g.h
    · rw [if_pos h2, if_pos h2, lineOf_get hx]
    · rw [if_neg h2, if_neg h2, hg.row_get hx (by omega)]
  · rw [if_neg h, if_neg h, hg.row_get hx hy]
theorem scroll_ok {g : Gr} (hg : g.ok) {T E N : Int} {c : Cel} : (g.scroll T E N c).ok :=
  Gr.chg_ok hg fun y _ _ _ => hg.scrollF_len (by omega) (by omega) y
theorem scroll_len {g : Gr} (hg : g.ok) {T E N : Int} {c : Cel} : (g.scroll T E N c).cs.length = g.cs.length :=
  Gr.chg_len hg fun y _ _ _ => hg.scrollF_len (by omega) (by omega) y
theorem scroll_right {g : Gr} (hg : g.ok) (hr : g.right = true) {T E N : Int} {c : Cel} : (g.scroll T E N c).right = true :=
  Gr.chg_right hg hr fun y _ _ _ => hg.scrollF_len (by omega) (by omega) y
/-- Scrolled, and scrolled back. -/
theorem scrolled {g : Gr} (hg : g.ok) (hr : g.right = true) {T E k : Int} (h1 : 0 ≤ T) (h2 : 0 ≤ E) (h3 : 0 ≤ k) {c : Cel} (hu : c.usual = true) {x y : Nat} (hx : x < g.w) (hy : y < g.h) :
    ((g.scroll T E k c).scroll T E (-k) c).at x y = (if (T ≤ (y : Int) ∧ (y : Int) < min E g.h) ∧ (y : Int) < T + k then c else g.at x y) ∧
    ((T ≤ (y : Int) ∧ (y : Int) < min E g.h) → (y : Int) + k < min E g.h → (g.scroll T E k c).at x y = g.at x ((y : Int) + k).toNat) ∧
    ((T ≤ (y : Int) ∧ (y : Int) < min E g.h) → min E g.h ≤ (y : Int) + k → (g.scroll T E k c).at x y = c) := by
  have hw : (g.scroll T E k c).w = g.w := rfl
  have hh : (g.scroll T E k c).h = g.h := rfl
  have e1 : max T 0 = T := by omega
  have e2 : max E 0 = E := by omega
  have u := fun (y' : Nat) (hy' : y' < g.h) => scroll_at hg hr (T := T) (E := E) (N := k) hu hx hy'
  have v := scroll_at (scroll_ok (T := T) (E := E) (N := k) (c := c) hg) (scroll_right (T := T) (E := E) (N := k) (c := c) hg hr) (T := T) (E := E) (N := -k) hu (x := x) (y := y) hx hy
  rw [hh] at v
  simp only [e1, e2] at u v
  refine ⟨?_, ?_, ?_⟩
  · rw [v]
    by_cases hin : min T g.h ≤ (y : Int) ∧ (y : Int) < min E g.h
    · rw [if_pos hin]
      by_cases hf : (y : Int) < T + k
      · rw [if_pos (by omega), if_pos (by omega)]
      · rw [if_neg (by omega), if_neg (by omega), u _ (by omega), if_pos (by omega), if_neg (by omega)]
        congr 1; omega
    · rw [if_neg hin, if_neg (by omega), u y hy, if_neg hin]
  · intro hin hk
    rw [u y hy, if_pos (by omega), if_neg (by omega)]
    congr 1; omega
  · intro hin hk
    rw [u y hy, if_pos (by omega), if_pos (by omega)]

theorem Gr.of_rows {g : Gr} (hg : g.ok) {R : Nat → List Cel} (h : ∀ y, y < g.h → R y = g.row y) : Gr.of g.w g.h R = g := by
  unfold Gr.of
  rw [rowsOf_congr h, hg.rows]
/-- A grid laid on another one of its size is there whole. -/
theorem blit_same {g f : Gr} (hf : f.ok) (hr : f.right = true) (hw : g.w = f.w) (hh : g.h = f.h) : g.blit f 0 0 = f := by
  unfold Gr.blit Gr.chg
  rw [hw, hh]
  refine Gr.of_rows hf fun y hy => ?_
  rw [if_pos ((spanG_mem (by omega) (by omega)).2 ⟨by omega, by omega⟩)]
  have : (lineOf f.w fun x => if (spanG 0 f.w f.w).1 ≤ (x : Int) ∧ (x : Int) < (spanG 0 f.w f.w).2 then (if 0 ≤ (y : Int) - 0 ∧ (y : Int) - 0 < f.h ∧ 0 ≤ (x : Int) - 0 ∧ (x : Int) - 0 < f.w then f.at ((x : Int) - 0).toNat ((y : Int) - 0).toNat else Cel.none) else g.at x y) = f.row y := by
    rw [hf.row_line hy]
    refine lineOf_congr fun i hi => ?_
    rw [if_pos ((spanG_mem (by omega) (by omega)).2 ⟨by omega, by omega⟩), if_pos (by omega)]
    congr 1 <;> omega
  dsimp only
  rw [this, mend_id (Gr.right.at hr hy)]
/-- Of the same size nothing changes. -/
theorem resize_same {g : Gr} (hg : g.ok) (hr : g.right = true) (c : Cel) : g.resize g.w g.h c = g := by
  unfold Gr.resize Gr.chg
  show Gr.of g.w g.h _ = g
  refine Gr.of_rows hg fun y hy => ?_
  rw [if_pos (by show (0 : Int) ≤ y ∧ (y : Int) < min (g.h : Int) g.h; omega)]
  have : (lineOf g.w fun x => if x < g.w then g.at x y else (Gr.plain g.w g.h c).at x y) = g.row y := by
    rw [hg.row_line hy]
    exact lineOf_congr fun i hi => if_pos hi
  dsimp only
  rw [this, mend_id (Gr.right.at hr hy)]
theorem resize_rows {g : Gr} {w h : Nat} {c : Cel} : ∀ y, y < (Gr.plain w h c).h → (0 : Int) ≤ (y : Int) → (y : Int) < min (h : Int) g.h → (lineOf w fun x => if x < g.w then g.at x y else (Gr.plain w h c).at x y).length = (Gr.plain w h c).w := fun _ _ _ _ => lineOf_len _ _
theorem resize_ok {g : Gr} {w h : Nat} {c : Cel} (w0 : 0 < w) (w1 : w ≤ 200) (h0 : 0 < h) (h1 : h ≤ 60) : (g.resize w h c).ok := Gr.chg_ok (Gr.plain_ok w0 w1 h0 h1 c) resize_rows
theorem resize_right {g : Gr} {w h : Nat} {c : Cel} (hu : c.usual = true) (w0 : 0 < w) (w1 : w ≤ 200) (h0 : 0 < h) (h1 : h ≤ 60) : (g.resize w h c).right = true := Gr.chg_right (Gr.plain_ok w0 w1 h0 h1 c) (Gr.plain_right (usual_single hu)) resize_rows
/-- What is left of a grid that is cut stays, but for halves. -/
theorem resize_at {g : Gr} (hg : g.ok) (hr : g.right = true) {w h : Nat} {c : Cel} (w0 : 0 < w) (w1 : w ≤ 200) (h0 : 0 < h) (h1 : h ≤ 60) {x y : Nat} (hx : x < w) (hxg : x < g.w) (hy : y < h) (hyg : y < g.h) (hne : (g.resize w h c).at x y ≠ g.at x y) :
    x + 1 = w ∧ 64 ≤ (g.at x y).a.toNat ∧ ((g.resize w h c).at x y).r = 32 := by
  have hat := Gr.chg_at (Gr.plain_ok w0 w1 h0 h1 c) (top := 0) (fin := min (h : Int) g.h) (f := fun y => lineOf w fun x => if x < g.w then g.at x y else (Gr.plain w h c).at x y) resize_rows (x := x) (y := y) hx hy
  have hrs : g.resize w h c = (Gr.plain w h c).chg 0 (min (h : Int) g.h) (fun y => lineOf w fun x => if x < g.w then g.at x y else (Gr.plain w h c).at x y) := rfl
  rw [← hrs, if_pos (by omega)] at hat
  generalize (g.resize w h c).at x y = d at hat hne
  generalize hL : (lineOf w fun x => if x < g.w then g.at x y else (Gr.plain w h c).at x y) = L at hat
  have hLg : ∀ i, i < w → i < g.w → L[i]? = some (g.at i y) := by
    intro i hi hig
    rw [← hL, lineOf_get hi, if_pos hig]
  have hLx := hLg x hx hxg
  obtain ⟨hn, hs⟩ := mended_at hLx hat.symm hne
  rw [mend_get L x _ hLx, hn] at hat
  have hd : d = (g.at x y).fix := by simpa using hat
  have hr32 : d.r = 32 := by
    rw [hd]
    unfold Cel.fix
    rw [hs]; rfl
  rcases right_get (g.row y) (Gr.right.at hr hyg) x (g.at x y) (hg.row_get hxg hyg) with h | h
  · rw [near_prev] at hn h
    rw [Bool.or_eq_false_iff] at hn
    rw [Bool.or_eq_true] at h
    rcases h with h | h
    · obtain ⟨e, p1, p2, p3, p4⟩ := pairAt_get h
      rw [hg.row_get hxg hyg] at p1
      cases p1
      have hx1 : x + 1 < g.w := by have := (List.getElem?_eq_some_iff.1 p2).1; rw [hg.row_len hyg] at this; exact this
      refine ⟨?_, wide_64 p3, hr32⟩
      by_cases hw : x + 1 < w
      · have : pairAt L x = true := pairAt_of hLx (by rw [hLg (x + 1) hw hx1, ← hg.row_get hx1 hyg, p2]) p3 p4
        rw [hn.1] at this; cases this
      · omega
    · obtain ⟨e, p1, p2, p3, p4, p5⟩ := prev_get h
      rw [hg.row_get hxg hyg, Option.some.injEq] at p1
      obtain ⟨k, rfl⟩ : ∃ k, x = k + 1 := ⟨x - 1, by omega⟩
      have e1 : k + 1 - 1 = k := by omega
      rw [e1, hg.row_get (show k < g.w by omega) hyg, Option.some.injEq] at p3
      have : pairAt L k = true := pairAt_of (c := e) (by rw [hLg k (by omega) (by omega), p3]) (by rw [hLx, p1]) p4 p5
      have h9 : pairAt L k = false := hn.2
      rw [h9] at this; cases this
  · rw [hs] at h; cases h
end Lyc
