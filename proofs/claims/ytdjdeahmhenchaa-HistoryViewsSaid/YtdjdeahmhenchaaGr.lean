/- Grids of cells: what they are in plain terms. It names no program. -/
import Derived.Test.YtdjdeahmhenchaaCel
set_option linter.unusedSimpArgs false
set_option linter.unusedVariables false
namespace Lyc
open Go

/-- May a grid be so wide and high? -/
def fitsG (w h : Int) : Bool := decide (1 ≤ w ∧ w ≤ 200 ∧ 1 ≤ h ∧ h ≤ 60)
/-- What of n places from at on lies below size. -/
def spanG (at' n size : Int) : Int × Int :=
  if n ≤ 0 ∨ size ≤ at' ∨ (at' < 0 ∧ at' + n ≤ 0) then (0, 0) else if at' < 0 then (0, min (at' + n) size) else (at', at' + min n (size - at'))
/-- May a cell fill places? -/
def Cel.usual (c : Cel) : Bool := c.check && c.plain
/-- A grid: how wide and high; its cells, row by row. -/
structure Gr where
  w : Nat
  h : Nat
  cs : List Cel
  deriving DecidableEq
def Gr.val (g : Gr) (a : Option Addr) (cap : Nat) : Value := .agg #[.int .i64 g.w, .int .i64 g.h, .slice a g.cs.length cap]
def Gr.row (g : Gr) (y : Nat) : List Cel := (g.cs.drop (y * g.w)).take g.w
/-- It has its rows, and is not too great. -/
structure Gr.ok (g : Gr) : Prop where
  w0 : 0 < g.w
  w1 : g.w ≤ 200
  h0 : 0 < g.h
  h1 : g.h ≤ 60
  len : g.cs.length = g.w * g.h
theorem Gr.ok.le {g : Gr} (h : g.ok) : g.cs.length ≤ 12000 := by
  rw [h.len]
  have := Nat.mul_le_mul h.w1 h.h1
  omega
theorem Gr.ok.row_lt {g : Gr} (h : g.ok) {y : Nat} (hy : y < g.h) : y * g.w + g.w ≤ g.cs.length := by
  rw [h.len, Nat.mul_comm g.w g.h]
  have := Nat.mul_le_mul_right g.w (show y + 1 ≤ g.h by omega)
  rw [Nat.add_mul] at this
  omega
theorem Gr.ok.row_len {g : Gr} (h : g.ok) {y : Nat} (hy : y < g.h) : (g.row y).length = g.w := by
  have := h.row_lt hy
  simp [Gr.row]; omega

def Gr.right (g : Gr) : Bool := (List.range g.h).all fun y => Lyc.right (g.row y)
theorem Gr.right_of {g : Gr} (h : ∀ y, y < g.h → Lyc.right (g.row y) = true) : g.right = true := by
  unfold Gr.right; rw [List.all_eq_true]; intro y hy; exact h y (List.mem_range.1 hy)
theorem Gr.right_not {g : Gr} {y : Nat} (hy : y < g.h) (h : Lyc.right (g.row y) = false) : g.right = false := by
  unfold Gr.right; rw [List.all_eq_false]; exact ⟨y, List.mem_range.2 hy, by simp [h]⟩
theorem Gr.right.at {g : Gr} (h : g.right = true) {y : Nat} (hy : y < g.h) : Lyc.right (g.row y) = true := by
  unfold Gr.right at h; rw [List.all_eq_true] at h; exact h y (List.mem_range.2 hy)
theorem Gr.ok.fits {g : Gr} (h : g.ok) : fitsG g.w g.h = true := by
  have := h.w0; have := h.w1; have := h.h0; have := h.h1
  unfold fitsG; apply decide_eq_true; omega
theorem Gr.ok.ne {g : Gr} (h : g.ok) : g.cs ≠ [] := by
  intro hn
  have := h.len; rw [hn] at this
  have h1 := h.w0; have h2 := h.h0
  have := Nat.mul_pos h1 h2
  simp at *
  omega

/-! ### Rows, one behind the other -/
variable {α : Type}
def rowsOf (R : Nat → List α) : Nat → List α
  | 0 => []
  | h + 1 => rowsOf R h ++ R h
theorem rowsOf_len {R : Nat → List α} {w : Nat} : ∀ {h : Nat}, (∀ y, y < h → (R y).length = w) → (rowsOf R h).length = h * w
  | 0, _ => by simp [rowsOf]
  | h + 1, hR => by simp [rowsOf, rowsOf_len (h := h) (fun y hy => hR y (by omega)), hR h (by omega), Nat.add_mul]
theorem rowsOf_congr {R S : Nat → List α} : ∀ {h : Nat}, (∀ y, y < h → R y = S y) → rowsOf R h = rowsOf S h
  | 0, _ => rfl
  | h + 1, hR => by simp [rowsOf, rowsOf_congr (h := h) (fun y hy => hR y (by omega)), hR h (by omega)]
/-- One row stands between what is above and below. -/
theorem rowsOf_split (R : Nat → List α) (y : Nat) : ∀ d : Nat, ∃ post, ∀ S : Nat → List α, (∀ k, k ≠ y → S k = R k) → rowsOf S (y + 1 + d) = rowsOf R y ++ S y ++ post
  | 0 => ⟨[], fun S hS => by simp [rowsOf, rowsOf_congr (h := y) (fun k hk => hS k (by omega))]⟩
  | d + 1 => by
    obtain ⟨post, h⟩ := rowsOf_split R y d
    refine ⟨post ++ R (y + 1 + d), fun S hS => ?_⟩
    rw [← Nat.add_assoc]
    simp only [rowsOf]
    rw [h S hS, hS (y + 1 + d) (by omega)]
    simp
theorem rowsOf_row {R : Nat → List α} {w h : Nat} (hR : ∀ y, y < h → (R y).length = w) {y : Nat} (hy : y < h) : ((rowsOf R h).drop (y * w)).take w = R y := by
  obtain ⟨d, rfl⟩ : ∃ d, h = y + 1 + d := ⟨h - (y + 1), by omega⟩
  obtain ⟨post, hp⟩ := rowsOf_split R y d
  rw [hp R (fun _ _ => rfl)]
  have h1 := rowsOf_len (R := R) (w := w) (h := y) (fun k hk => hR k (by omega))
  rw [List.append_assoc, List.drop_append, h1]
  have h2 := hR y (by omega)
  simp [List.drop_eq_nil_of_le, h1, h2]
theorem rowsOf_of {w : Nat} : ∀ {h : Nat} (l : List α), l.length = h * w → rowsOf (fun y => (l.drop (y * w)).take w) h = l
  | 0, l, hl => by simp at hl; subst hl; rfl
  | h + 1, l, hl => by
    rw [Nat.add_mul] at hl
    have ih := rowsOf_of (w := w) (h := h) (l.take (h * w)) (by simp; omega)
    have hc : rowsOf (fun y => (l.drop (y * w)).take w) h = rowsOf (fun y => ((l.take (h * w)).drop (y * w)).take w) h := by
      refine rowsOf_congr fun y hy => ?_
      have := Nat.mul_le_mul_right w (show y + 1 ≤ h by omega)
      rw [Nat.add_mul] at this
      rw [List.drop_take, List.take_take, Nat.min_eq_left (by omega)]
    show rowsOf _ h ++ (l.drop (h * w)).take w = l
    rw [hc, ih, List.take_of_length_le (l := l.drop (h * w)) (by simp; omega), List.take_append_drop]
theorem Gr.ok.rows {g : Gr} (h : g.ok) : rowsOf g.row g.h = g.cs := by
  have := rowsOf_of (w := g.w) (h := g.h) g.cs (by rw [h.len, Nat.mul_comm])
  exact this
/-- A grid by its rows. -/
def Gr.of (w h : Nat) (R : Nat → List Cel) : Gr := ⟨w, h, rowsOf R h⟩
theorem Gr.of_ok {w h : Nat} {R : Nat → List Cel} (w0 : 0 < w) (w1 : w ≤ 200) (h0 : 0 < h) (h1 : h ≤ 60) (hR : ∀ y, y < h → (R y).length = w) : (Gr.of w h R).ok :=
  ⟨w0, w1, h0, h1, by simp [Gr.of, rowsOf_len hR, Nat.mul_comm]⟩
theorem Gr.of_row {w h : Nat} {R : Nat → List Cel} (hR : ∀ y, y < h → (R y).length = w) {y : Nat} (hy : y < h) : (Gr.of w h R).row y = R y := rowsOf_row hR hy
/-- A grid, rows of which from top on, below fin, are changed, and mended. -/
def Gr.chg (g : Gr) (top fin : Int) (f : Nat → List Cel) : Gr := Gr.of g.w g.h fun y => if top ≤ y ∧ (y : Int) < fin then mend (f y) else g.row y
theorem Gr.chg_rows {g : Gr} (h : g.ok) {top fin : Int} {f : Nat → List Cel} (hf : ∀ y, y < g.h → top ≤ (y : Int) → (y : Int) < fin → (f y).length = g.w) (y : Nat) (hy : y < g.h) : (if top ≤ y ∧ (y : Int) < fin then mend (f y) else g.row y).length = g.w := by
  split
  · rename_i h1; rw [mend_len, hf y hy h1.1 h1.2]
  · exact h.row_len hy
theorem Gr.chg_ok {g : Gr} (h : g.ok) {top fin : Int} {f : Nat → List Cel} (hf : ∀ y, y < g.h → top ≤ (y : Int) → (y : Int) < fin → (f y).length = g.w) : (g.chg top fin f).ok :=
  Gr.of_ok h.w0 h.w1 h.h0 h.h1 (Gr.chg_rows h hf)
theorem Gr.chg_len {g : Gr} (h : g.ok) {top fin : Int} {f : Nat → List Cel} (hf : ∀ y, y < g.h → top ≤ (y : Int) → (y : Int) < fin → (f y).length = g.w) : (g.chg top fin f).cs.length = g.cs.length := by
  rw [(Gr.chg_ok h hf).len, h.len]; rfl
theorem Gr.chg_row {g : Gr} (h : g.ok) {top fin : Int} {f : Nat → List Cel} (hf : ∀ y, y < g.h → top ≤ (y : Int) → (y : Int) < fin → (f y).length = g.w) {y : Nat} (hy : y < g.h) : (g.chg top fin f).row y = if top ≤ y ∧ (y : Int) < fin then mend (f y) else g.row y :=
  Gr.of_row (Gr.chg_rows h hf) hy

/-! ### Rows as functions of places -/
def lineOf (n : Nat) (c : Nat → α) : List α := (List.range n).map c
theorem lineOf_len (n : Nat) (c : Nat → α) : (lineOf n c).length = n := by simp [lineOf]
theorem lineOf_get {n : Nat} {c : Nat → α} {i : Nat} (h : i < n) : (lineOf n c)[i]? = some (c i) := by simp [lineOf, h]
theorem lineOf_congr {n : Nat} {c d : Nat → α} (h : ∀ i, i < n → c i = d i) : lineOf n c = lineOf n d := List.map_congr_left fun i hi => h i (List.mem_range.1 hi)
theorem lineOf_set {n : Nat} {c d : Nat → α} {i : Nat} {v : α} (hi : i < n) (hd : d i = v) (h : ∀ k, k < n → k ≠ i → d k = c k) : (lineOf n c).set i v = lineOf n d := by
  apply List.ext_getElem?
  intro k
  by_cases hk : k < n
  · rw [lineOf_get hk, List.getElem?_set]
    by_cases he : i = k
    · subst he; rw [if_pos rfl, if_pos (by rw [lineOf_len]; exact hi), hd]
    · rw [if_neg he, lineOf_get hk, h k hk (Ne.symm he)]
  · rw [List.getElem?_eq_none (by rw [List.length_set, lineOf_len]; omega), List.getElem?_eq_none (by rw [lineOf_len]; omega)]
theorem lineOf_of {l : List α} {n : Nat} (h : l.length = n) {c : Nat → α} (hc : ∀ i, i < n → l[i]? = some (c i)) : l = lineOf n c := by
  apply List.ext_getElem?
  intro k
  by_cases hk : k < n
  · rw [lineOf_get hk, hc k hk]
  · rw [List.getElem?_eq_none (by omega), List.getElem?_eq_none (by rw [lineOf_len]; omega)]
def Cel.none : Cel := ⟨0, 0, 0, 0⟩
def Gr.at (g : Gr) (x y : Nat) : Cel := g.cs.getD (y * g.w + x) Cel.none
theorem Gr.ok.at_some {g : Gr} (h : g.ok) {x y : Nat} (hx : x < g.w) (hy : y < g.h) : g.cs[y * g.w + x]? = some (g.at x y) := by
  have := h.row_lt hy
  unfold Gr.at
  rw [List.getD_eq_getElem?_getD, List.getElem?_eq_getElem (by omega)]; rfl
theorem Gr.ok.row_get {g : Gr} (h : g.ok) {x y : Nat} (hx : x < g.w) (hy : y < g.h) : (g.row y)[x]? = some (g.at x y) := by
  unfold Gr.row
  rw [List.getElem?_take_of_lt hx, List.getElem?_drop, h.at_some hx hy]
theorem Gr.ok.row_line {g : Gr} (h : g.ok) {y : Nat} (hy : y < g.h) : g.row y = lineOf g.w fun x => g.at x y :=
  lineOf_of (h.row_len hy) fun _ hx => h.row_get hx hy
theorem spanG_b {x n size : Int} (h : 0 ≤ size) : 0 ≤ (spanG x n size).1 ∧ (spanG x n size).1 ≤ (spanG x n size).2 ∧ (spanG x n size).2 ≤ size := by
  unfold spanG
  split
  · simp; omega
  · split <;> simp <;> omega
theorem spanG_mem {x n size : Int} {i : Int} (h0 : 0 ≤ i) (h1 : i < size) : ((spanG x n size).1 ≤ i ∧ i < (spanG x n size).2) ↔ (x ≤ i ∧ i < x + n) := by
  unfold spanG
  split
  · simp; omega
  · split <;> simp <;> omega
def Gr.fill (g : Gr) (X Y W H : Int) (c : Cel) : Gr :=
  g.chg (spanG Y H g.h).1 (spanG Y H g.h).2 fun y => lineOf g.w fun x => if (spanG X W g.w).1 ≤ (x : Int) ∧ (x : Int) < (spanG X W g.w).2 then c else g.at x y
/-- A grid of one cell. -/
def Gr.plain (w h : Nat) (c : Cel) : Gr := ⟨w, h, List.replicate (w * h) c⟩
theorem Gr.plain_ok {w h : Nat} (w0 : 0 < w) (w1 : w ≤ 200) (h0 : 0 < h) (h1 : h ≤ 60) (c : Cel) : (Gr.plain w h c).ok := ⟨w0, w1, h0, h1, by simp [Gr.plain]⟩
theorem Gr.ok.at_lt {g : Gr} (h : g.ok) {x y : Nat} (hx : x < g.w) (hy : y < g.h) : y * g.w + x < g.cs.length := by
  have := h.row_lt hy; omega
theorem Gr.plain_at {w h : Nat} (w0 : 0 < w) (w1 : w ≤ 200) (h0 : 0 < h) (h1 : h ≤ 60) (c : Cel) {x y : Nat} (hx : x < w) (hy : y < h) : (Gr.plain w h c).at x y = c := by
  have h2 := (Gr.plain_ok w0 w1 h0 h1 c).at_some (x := x) (y := y) hx hy
  have h3 : (List.replicate (w * h) c)[y * w + x]? = some ((Gr.plain w h c).at x y) := h2
  rw [List.getElem?_replicate] at h3
  split at h3
  · exact (Option.some.inj h3).symm
  · exact absurd h3 (by simp)
theorem Gr.of_at {w h : Nat} {R : Nat → List Cel} (w0 : 0 < w) (w1 : w ≤ 200) (h0 : 0 < h) (h1 : h ≤ 60) (hR : ∀ y, y < h → (R y).length = w) {x y : Nat} (hx : x < w) (hy : y < h) : some ((Gr.of w h R).at x y) = (R y)[x]? := by
  rw [← Gr.of_row hR hy, (Gr.of_ok w0 w1 h0 h1 hR).row_get hx hy]
def Gr.put (g : Gr) (X Y : Int) (l : List Cel) : Gr :=
  g.chg (spanG Y 1 g.h).1 (spanG Y 1 g.h).2 fun y => lineOf g.w fun x => if (spanG X l.length g.w).1 ≤ (x : Int) ∧ (x : Int) < (spanG X l.length g.w).2 then l.getD ((x : Int) - X).toNat Cel.none else g.at x y
def Gr.scrollF (g : Gr) (top fin n : Int) (c : Cel) (y : Nat) : List Cel := if (y : Int) + n < top ∨ fin ≤ (y : Int) + n then lineOf g.w fun _ => c else g.row ((y : Int) + n).toNat
def Gr.scroll (g : Gr) (top fin n : Int) (c : Cel) : Gr :=
  g.chg (min (max top 0) g.h) (min (max fin 0) g.h) (g.scrollF (min (max top 0) g.h) (min (max fin 0) g.h) (min (max n (-g.h)) g.h) c)
def Gr.shiftF (g : Gr) (X n : Int) (c : Cel) (y : Nat) : List Cel :=
  lineOf g.w fun x => if X ≤ (x : Int) then (if X ≤ (x : Int) - n ∧ (x : Int) - n < g.w then g.at ((x : Int) - n).toNat y else c) else g.at x y
def Gr.shift (g : Gr) (X Y n : Int) (c : Cel) : Gr :=
  g.chg (spanG Y 1 g.h).1 (spanG Y 1 g.h).2 (g.shiftF (max X 0) (min (max n (-g.w)) g.w) c)
def Gr.blit (g f : Gr) (X Y : Int) : Gr :=
  g.chg (spanG Y f.h g.h).1 (spanG Y f.h g.h).2 fun y => lineOf g.w fun x => if (spanG X f.w g.w).1 ≤ (x : Int) ∧ (x : Int) < (spanG X f.w g.w).2 then (if 0 ≤ (y : Int) - Y ∧ (y : Int) - Y < f.h ∧ 0 ≤ (x : Int) - X ∧ (x : Int) - X < f.w then f.at ((x : Int) - X).toNat ((y : Int) - Y).toNat else Cel.none) else g.at x y
def Gr.resize (g : Gr) (w h : Nat) (c : Cel) : Gr :=
  (Gr.plain w h c).chg 0 (min (h : Int) g.h) fun y => lineOf w fun x => if x < g.w then g.at x y else (Gr.plain w h c).at x y
theorem Gr.ok.scrollF_len {g : Gr} (hg : g.ok) {T E N : Int} {c : Cel} (ht : 0 ≤ T) (he : E ≤ g.h) (y : Nat) : (g.scrollF T E N c y).length = g.w := by
  unfold Gr.scrollF
  by_cases h : (y : Int) + N < T ∨ E ≤ (y : Int) + N
  · rw [if_pos h]; exact lineOf_len _ _
  · rw [if_neg h]; exact hg.row_len (by omega)
end Lyc
