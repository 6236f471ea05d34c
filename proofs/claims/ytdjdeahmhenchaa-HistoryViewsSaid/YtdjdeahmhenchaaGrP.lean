/- Rows that are mended, and right ones: in plain terms. It names no program. -/
import Derived.Test.YtdjdeahmhenchaaGr
set_option linter.unusedSimpArgs false
set_option linter.unusedVariables false
namespace Lyc
open Go

theorem tailOf_wide (c : Cel) : c.tailOf.wide = false := by
  have h : ∀ a : BitVec 8, ((a &&& ~~~64#8) ||| 128#8) &&& 64#8 = 0#8 := by decide
  simp only [Cel.wide, Cel.tailOf, h]; rfl
theorem tailOf_tail (c : Cel) : c.tailOf.tail = true := by
  have h : ∀ a : BitVec 8, ¬ ((a &&& ~~~64#8) ||| 128#8) &&& 128#8 = 0#8 := by decide
  simp only [Cel.tail, Cel.tailOf, h]; rfl
theorem plain_wide {c : Cel} (h : c.plain = true) : c.wide = false := by
  have h1 : ∀ a : BitVec 8, a &&& 192#8 = 0#8 → a &&& 64#8 = 0#8 := by decide
  simp only [Cel.plain, decide_eq_true_eq] at h
  simp [Cel.wide, h1 _ h]
theorem plain_tail {c : Cel} (h : c.plain = true) : c.tail = false := by
  have h1 : ∀ a : BitVec 8, a &&& 192#8 = 0#8 → a &&& 128#8 = 0#8 := by decide
  simp only [Cel.plain, decide_eq_true_eq] at h
  simp [Cel.tail, h1 _ h]
theorem wide_64 {c : Cel} (h : c.wide = true) : 64 ≤ c.a.toNat := by
  have h1 : ∀ a : BitVec 8, ¬ a &&& 64#8 = 0#8 → 64#8 ≤ a := by decide
  simp only [Cel.wide, decide_eq_true_eq] at h
  exact BitVec.le_def.1 (h1 _ h)
theorem tail_64 {c : Cel} (h : c.tail = true) : 64 ≤ c.a.toNat := by
  have h1 : ∀ a : BitVec 8, ¬ a &&& 128#8 = 0#8 → 64#8 ≤ a := by decide
  simp only [Cel.tail, decide_eq_true_eq] at h
  exact BitVec.le_def.1 (h1 _ h)
theorem pairOK_fst {c d : Cel} (h : pairOK c d = true) : c.wide = true ∧ c.check = true ∧ d = c.tailOf := by
  simpa [pairOK, and_assoc] using h
theorem pairOK_wide {c d : Cel} (h : c.wide = false) : pairOK c d = false := by simp [pairOK, h]
theorem pairAt_cons (c : Cel) (l : List Cel) (i : Nat) : pairAt (c :: l) (i + 1) = pairAt l i := rfl
theorem pairAt_zero (c d : Cel) (l : List Cel) : pairAt (c :: d :: l) 0 = pairOK c d := rfl
/-- A cell stands in a pair. -/
def near (l : List Cel) : Nat → Bool
  | 0 => pairAt l 0
  | i + 1 => pairAt l (i + 1) || pairAt l i
theorem near_shift {c : Cel} {l : List Cel} (h : pairAt (c :: l) 0 = false) (i : Nat) : near (c :: l) (i + 1) = near l i := by
  cases i with
  | zero => show (pairAt l 0 || pairAt (c :: l) 0) = pairAt l 0; rw [h]; simp
  | succ i => rfl
theorem pairAt_tail {c d : Cel} {l : List Cel} (h : pairOK c d = true) : pairAt (d :: l) 0 = false := by
  cases l with
  | nil => rfl
  | cons e l => rw [pairAt_zero]; exact pairOK_wide (by rw [(pairOK_fst h).2.2]; exact tailOf_wide c)
theorem near_shift2 {c d : Cel} {l : List Cel} (h : pairOK c d = true) (i : Nat) : near (c :: d :: l) (i + 2) = near l i := by
  rw [← near_shift (pairAt_tail h) i]
  rfl
theorem mend_get : ∀ (l : List Cel) (i : Nat) (c : Cel), l[i]? = some c → (mend l)[i]? = some (if near l i then c else c.fix)
  | [], i, c, h => by simp at h
  | [d], 0, c, h => by simp at h; subst h; rfl
  | [d], i + 1, c, h => by simp at h
  | c :: d :: l, i, x, h => by
    unfold mend
    by_cases hp : pairOK c d = true
    · rw [if_pos hp]
      match i with
      | 0 => simp at h; subst h; simp [near, pairAt_zero, hp]
      | 1 => simp at h; subst h; simp [near, pairAt_zero, hp]
      | i + 2 => rw [near_shift2 hp]; exact mend_get l i x h
    · rw [if_neg hp]
      have hp' : pairAt (c :: d :: l) 0 = false := by rw [pairAt_zero]; simpa using hp
      match i with
      | 0 => simp at h; subst h; simp [near, hp']
      | i + 1 => rw [near_shift hp']; exact mend_get (d :: l) i x h
theorem right_get : ∀ (l : List Cel) (_ : right l = true) (i : Nat) (c : Cel), l[i]? = some c → near l i = true ∨ c.single = true
  | [], _, i, c, h => by simp at h
  | [d], hr, 0, c, h => by simp at h; subst h; exact .inr hr
  | [d], hr, i + 1, c, h => by simp at h
  | c :: d :: l, hr, i, x, h => by
    unfold right at hr
    by_cases hp : pairOK c d = true
    · rw [if_pos hp] at hr
      match i with
      | 0 => exact .inl (by simp [near, pairAt_zero, hp])
      | 1 => exact .inl (by simp [near, pairAt_zero, hp])
      | i + 2 => rw [near_shift2 hp]; exact right_get l hr i x h
    · rw [if_neg hp, Bool.and_eq_true] at hr
      have hp' : pairAt (c :: d :: l) 0 = false := by rw [pairAt_zero]; simpa using hp
      match i with
      | 0 => simp at h; subst h; exact .inr hr.1
      | i + 1 => rw [near_shift hp']; exact right_get (d :: l) hr.2 i x h
theorem right_of_get : ∀ (l : List Cel) (_ : ∀ i c, l[i]? = some c → near l i = true ∨ c.single = true), right l = true
  | [], _ => rfl
  | [d], h => by
    rcases h 0 d rfl with h | h
    · exact absurd h (by simp [near, pairAt])
    · exact h
  | c :: d :: l, h => by
    unfold right
    by_cases hp : pairOK c d = true
    · rw [if_pos hp]
      exact right_of_get l fun i x hx => by have := h (i + 2) x hx; rwa [near_shift2 hp] at this
    · rw [if_neg hp, Bool.and_eq_true]
      have hp' : pairAt (c :: d :: l) 0 = false := by rw [pairAt_zero]; simpa using hp
      refine ⟨?_, right_of_get (d :: l) fun i x hx => by have := h (i + 1) x hx; rwa [near_shift hp'] at this⟩
      rcases h 0 c rfl with h | h
      · exact absurd h (by simp [near, hp'])
      · exact h
theorem fix_single (c : Cel) : c.fix.single = true := by
  unfold Cel.fix
  split
  · assumption
  · have : width 32 = 1 := by decide
    simp [Cel.single, Cel.plain, Cel.check, Cel.tail, Cel.wide, this]
theorem fix_of_single {c : Cel} (h : c.single = true) : c.fix = c := by unfold Cel.fix; rw [if_pos h]
theorem single_plain {c : Cel} (h : c.single = true) : c.plain = true := by unfold Cel.single at h; rw [Bool.and_eq_true] at h; exact h.1
theorem mend_id {l : List Cel} (h : right l = true) : mend l = l := by
  apply List.ext_getElem?
  intro i
  by_cases hi : i < l.length
  · rw [mend_get l i _ (List.getElem?_eq_getElem hi), List.getElem?_eq_getElem hi]
    rcases right_get l h i _ (List.getElem?_eq_getElem hi) with h1 | h1
    · rw [if_pos h1]
    · rw [fix_of_single h1]; simp
  · rw [List.getElem?_eq_none (by rw [mend_len]; omega), List.getElem?_eq_none (by omega)]
theorem right_mend : ∀ l : List Cel, right (mend l) = true
  | [] => rfl
  | [c] => fix_single c
  | c :: d :: l => by
    unfold mend
    by_cases hp : pairOK c d = true
    · rw [if_pos hp]; unfold right; rw [if_pos hp]; exact right_mend l
    · rw [if_neg hp]
      have ih := right_mend (d :: l)
      generalize mend (d :: l) = m at ih
      cases m with
      | nil => exact fix_single c
      | cons e m =>
        unfold right
        rw [pairOK_wide (plain_wide (single_plain (fix_single c)))]
        simp [fix_single, ih]
theorem right_single {l : List Cel} (h : ∀ c ∈ l, c.single = true) : right l = true :=
  right_of_get l fun _ _ hi => .inr (h _ (List.mem_of_getElem? hi))
theorem usual_single {c : Cel} (h : c.usual = true) : c.single = true := by simpa [Cel.usual, Cel.single, Bool.and_comm] using h
theorem near_at {l : List Cel} {i : Nat} (h : near l i = true) : pairAt l i = true ∨ (0 < i ∧ pairAt l (i - 1) = true) := by
  cases i with
  | zero => exact .inl h
  | succ i => simp only [near, Bool.or_eq_true] at h; exact h.elim .inl fun h => .inr ⟨by omega, h⟩
theorem pairAt_get {l : List Cel} {i : Nat} (h : pairAt l i = true) : ∃ c, l[i]? = some c ∧ l[i + 1]? = some c.tailOf ∧ c.wide = true ∧ c.check = true := by
  have hl := pairAt_lt h
  unfold pairAt at h
  rw [List.getElem?_eq_getElem hl, List.getElem?_eq_getElem (show i < l.length by omega)] at h
  have := pairOK_fst h
  exact ⟨l[i], List.getElem?_eq_getElem (by omega), by rw [List.getElem?_eq_getElem hl, this.2.2], this.1, this.2.1⟩
theorem pairAt_of {l : List Cel} {i : Nat} {c : Cel} (h1 : l[i]? = some c) (h2 : l[i + 1]? = some c.tailOf) (h3 : c.wide = true) (h4 : c.check = true) : pairAt l i = true := by
  unfold pairAt; rw [h1, h2]; simp [pairOK, h3, h4]

/-- Changed grids are right. -/
theorem Gr.right_of_at {g : Gr} (h : g.right = true) (y : Nat) (hy : y < g.h) : Lyc.right (g.row y) = true := Gr.right.at h hy
theorem Gr.chg_right {g : Gr} (hg : g.ok) (hr : g.right = true) {top fin : Int} {f : Nat → List Cel} (hf : ∀ y, y < g.h → top ≤ (y : Int) → (y : Int) < fin → (f y).length = g.w) : (g.chg top fin f).right = true :=
  (g.chg top fin f).right_of fun y hy => by
    rw [Gr.chg_row hg hf hy]
    split
    · exact right_mend _
    · exact Gr.right.at hr hy
theorem Gr.plain_row {w h : Nat} {c : Cel} {y : Nat} (hy : y < h) : (Gr.plain w h c).row y = List.replicate w c := by
  have h1 := Nat.mul_le_mul_right w (show y + 1 ≤ h by omega)
  rw [Nat.add_mul, Nat.mul_comm h w] at h1
  simp [Gr.row, Gr.plain]
  omega
theorem Gr.plain_right {w h : Nat} {c : Cel} (hc : c.single = true) : (Gr.plain w h c).right = true :=
  Gr.right_of fun y hy => by rw [Gr.plain_row (w := w) (h := h) (c := c) hy]; exact right_single fun x hx => by rw [List.eq_of_mem_replicate hx]; exact hc
theorem blank_single : Cel.blank.single = true := by have := fix_single ⟨32, 0, 0, 1⟩; decide
/-- A cell's character is a rune. -/
def Cel.fits (c : Cel) : Prop := -2147483648 ≤ c.r ∧ c.r ≤ 2147483647
theorem tailOf_check (c : Cel) : c.tailOf.check = true := by
  unfold Cel.check
  rw [tailOf_tail, tailOf_wide]
  simp [Cel.tailOf]
/-- What stands before a cell. -/
def prev (l : List Cel) : Nat → Bool
  | 0 => false
  | i + 1 => pairAt l i
theorem near_prev (l : List Cel) (i : Nat) : near l i = (pairAt l i || prev l i) := by cases i <;> simp [near, prev]
theorem prev_get {l : List Cel} {i : Nat} (h : prev l i = true) : ∃ c, l[i]? = some c.tailOf ∧ 0 < i ∧ l[i - 1]? = some c ∧ c.wide = true ∧ c.check = true := by
  cases i with
  | zero => exact absurd h (by simp [prev])
  | succ i =>
    obtain ⟨c, h1, h2, h3, h4⟩ := pairAt_get (show pairAt l i = true from h)
    exact ⟨c, h2, by omega, h1, h3, h4⟩
theorem ok_iff {l : List Cel} {i : Nat} {c : Cel} (h : l[i]? = some c) : (near l i = true ∨ c.single = true) ↔ (c.check = true ∧ (c.wide = true → pairAt l i = true) ∧ (c.tail = true → prev l i = true)) := by
  rw [near_prev, Bool.or_eq_true]
  constructor
  · rintro ((h1 | h1) | h1)
    · obtain ⟨d, h2, h3, h4, h5⟩ := pairAt_get h1
      rw [h] at h2; cases h2
      refine ⟨h5, fun _ => h1, fun ht => ?_⟩
      unfold Cel.check at h5
      rw [if_pos ht, h4] at h5
      simp at h5
    · obtain ⟨d, h2, h3, h4, h5, h6⟩ := prev_get h1
      rw [h] at h2; cases h2
      exact ⟨tailOf_check d, fun hw => absurd hw (by rw [tailOf_wide]; simp), fun _ => h1⟩
    · have hp := single_plain h1
      refine ⟨?_, fun hw => absurd hw (by rw [plain_wide hp]; simp), fun ht => absurd ht (by rw [plain_tail hp]; simp)⟩
      unfold Cel.single at h1
      rw [Bool.and_eq_true] at h1; exact h1.2
  · rintro ⟨h1, h2, h3⟩
    by_cases hw : c.wide = true
    · exact .inl (.inl (h2 hw))
    · by_cases ht : c.tail = true
      · exact .inl (.inr (h3 ht))
      · right
        have h4 : ∀ a : BitVec 8, a &&& 64#8 = 0#8 → a &&& 128#8 = 0#8 → a &&& 192#8 = 0#8 := by decide
        simp only [Cel.wide, Cel.tail, decide_eq_true_eq, Classical.not_not] at hw ht
        simp [Cel.single, Cel.plain, h4 _ hw ht, h1]
theorem right_check {l : List Cel} (h : right l = true) {c : Cel} (hc : c ∈ l) : c.check = true := by
  obtain ⟨i, hi⟩ := List.mem_iff_getElem?.1 hc
  exact ((ok_iff hi).1 (right_get l h i c hi)).1
theorem width_bd {r : Int} (h : ¬ width r = 0) : 32 ≤ r ∧ r ≤ 1114111 := by
  unfold width at h
  by_cases h1 : r < 32 ∨ 1114111 < r
  · rw [if_pos h1] at h; exact absurd rfl h
  · omega
theorem check_fits {c : Cel} (h : c.check = true) : c.fits := by
  unfold Cel.check at h
  unfold Cel.fits
  by_cases ht : c.tail = true
  · rw [if_pos ht] at h; simp at h; omega
  · rw [if_neg ht] at h
    by_cases hw : c.wide = true
    · rw [if_pos hw] at h
      have := width_bd (r := c.r) (by simp at h; omega)
      omega
    · rw [if_neg hw] at h
      have := width_bd (r := c.r) (by simp at h; omega)
      omega
theorem right_fits {l : List Cel} (h : right l = true) : ∀ c ∈ l, c.fits := fun _ hc => check_fits (right_check h hc)

/-- Cells laid over others, from a place on. -/
def lay (cs : List Cel) (p : Nat) (l : List Cel) (k : Nat) : List Cel := cs.take p ++ l.take k ++ cs.drop (p + k)
theorem lay_zero (cs : List Cel) (p : Nat) (l : List Cel) : lay cs p l 0 = cs := by simp [lay]
theorem lay_len {cs : List Cel} {p : Nat} {l : List Cel} {k : Nat} (hk : k ≤ l.length) (hp : p + k ≤ cs.length) : (lay cs p l k).length = cs.length := by simp [lay]; omega
theorem lay_get {cs : List Cel} {p : Nat} {l : List Cel} {k : Nat} (hk : k ≤ l.length) (hp : p + k ≤ cs.length) (i : Nat) : (lay cs p l k)[i]? = if p ≤ i ∧ i < p + k then l[i - p]? else cs[i]? := by
  unfold lay
  by_cases h1 : i < p
  · rw [List.append_assoc, List.getElem?_append_left (by simp; omega), List.getElem?_take_of_lt h1, if_neg (by omega)]
  · by_cases h2 : i < p + k
    · rw [List.getElem?_append_left (by simp; omega), List.getElem?_append_right (by simp; omega), if_pos (by omega)]
      have e : i - (cs.take p).length = i - p := by simp; omega
      rw [e, List.getElem?_take_of_lt (by omega)]
    · rw [List.getElem?_append_right (by simp; omega), List.getElem?_drop, if_neg (by omega)]
      congr 1; simp; omega
theorem lay_set {cs : List Cel} {p : Nat} {l : List Cel} {k : Nat} (hk : k < l.length) (hp : p + k < cs.length) : (lay cs p l k).set (p + k) l[k] = lay cs p l (k + 1) := by
  apply List.ext_getElem?
  intro i
  rw [List.getElem?_set, lay_get (by omega) (by omega), lay_get (by omega) (by omega), lay_len (by omega) (by omega)]
  by_cases h : p + k = i
  · subst h
    rw [if_pos rfl, if_pos hp, if_pos (by omega), List.getElem?_eq_getElem (by omega)]
    simp
  · rw [if_neg h]
    by_cases h2 : p ≤ i ∧ i < p + k
    · rw [if_pos h2, if_pos (by omega)]
    · rw [if_neg h2, if_neg (by omega)]
theorem lay_mem {cs : List Cel} {p : Nat} {l : List Cel} {k : Nat} {c : Cel} (h : c ∈ lay cs p l k) : c ∈ cs ∨ c ∈ l := by
  unfold lay at h
  simp only [List.mem_append] at h
  rcases h with (h | h) | h
  · exact .inl (List.mem_of_mem_take h)
  · exact .inr (List.mem_of_mem_take h)
  · exact .inl (List.mem_of_mem_drop h)
theorem mem_row {g : Gr} (hg : g.ok) {c : Cel} (h : c ∈ g.cs) : ∃ y, y < g.h ∧ c ∈ g.row y := by
  obtain ⟨i, hi⟩ := List.mem_iff_getElem?.1 h
  have hil := (List.getElem?_eq_some_iff.1 hi).1
  have hw := hg.w0
  have hm : i % g.w < g.w := Nat.mod_lt _ hw
  have hd : i / g.w < g.h := by
    apply Nat.div_lt_of_lt_mul
    rw [← hg.len]; exact hil
  have he : i / g.w * g.w + i % g.w = i := by rw [Nat.mul_comm]; exact Nat.div_add_mod i g.w
  refine ⟨i / g.w, hd, ?_⟩
  apply List.mem_of_getElem? (i := i % g.w)
  rw [Gr.row, List.getElem?_take_of_lt hm, List.getElem?_drop, he, hi]
theorem Gr.ok.fits_all {g : Gr} (hg : g.ok) (hr : g.right = true) : ∀ c ∈ g.cs, c.fits := by
  intro c hc
  obtain ⟨y, hy, h⟩ := mem_row hg hc
  exact right_fits (Gr.right.at hr hy) c h
/-- A row of a grid is laid over by cells, from its beginning on. -/
def layRow (g : Gr) (Y : Nat) (l : List Cel) (y : Nat) : List Cel := if y = Y then mend (l ++ (g.row y).drop l.length) else g.row y
theorem lay_row {g : Gr} (hg : g.ok) {Y : Nat} (hY : Y < g.h) {l : List Cel} (hl : l.length ≤ g.w) {y : Nat} (hy : y < g.h) :
    (⟨g.w, g.h, lay g.cs (Y * g.w) l l.length⟩ : Gr).row y = if y = Y then l ++ (g.row y).drop l.length else g.row y := by
  have hrt := hg.row_lt hY
  have hrt' := hg.row_lt hy
  apply List.ext_getElem?
  intro i
  by_cases hi : i < g.w
  · rw [Gr.row, List.getElem?_take_of_lt hi, List.getElem?_drop]
    show (lay g.cs (Y * g.w) l l.length)[y * g.w + i]? = _
    rw [lay_get (Nat.le_refl _) (by omega)]
    by_cases he : y = Y
    · subst he
      rw [if_pos rfl]
      by_cases h2 : i < l.length
      · rw [if_pos (by omega), List.getElem?_append_left h2]; congr 1; omega
      · rw [if_neg (by omega), List.getElem?_append_right (by omega), List.getElem?_drop, hg.at_some hi hy]
        have : l.length + (i - l.length) = i := by omega
        rw [this, hg.row_get hi hy]
    · rw [if_neg he, hg.row_get hi hy, ← hg.at_some hi hy, if_neg]
      intro hh
      rcases Nat.lt_or_gt_of_ne he with h | h
      · have := Nat.mul_le_mul_right g.w (show y + 1 ≤ Y by omega); rw [Nat.add_mul] at this; omega
      · have := Nat.mul_le_mul_right g.w (show Y + 1 ≤ y by omega); rw [Nat.add_mul] at this; omega
  · have hrl := hg.row_len hy
    rw [Gr.row, List.getElem?_eq_none (by simp; omega)]
    split
    · rw [List.getElem?_eq_none (by simp; omega)]
    · rw [List.getElem?_eq_none (by omega)]
theorem layRow_len {g : Gr} (hg : g.ok) {Y : Nat} {l : List Cel} (hl : l.length ≤ g.w) {y : Nat} (hy : y < g.h) : (layRow g Y l y).length = g.w := by
  have hrl := hg.row_len hy
  unfold layRow
  split
  · rw [mend_len]; simp; omega
  · exact hrl
theorem layRow_right {g : Gr} (hr : g.right = true) {Y : Nat} {l : List Cel} {y : Nat} (hy : y < g.h) : right (layRow g Y l y) = true := by
  unfold layRow
  split
  · exact right_mend _
  · exact Gr.right.at hr hy
end Lyc
