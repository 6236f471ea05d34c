/- Helpers of this claim, part 2: engine, translated functions, contracts, plain laws. -/
import Derived.Test.YtjfembffjjijaaaGreatB1
set_option linter.unusedSimpArgs false
set_option linter.unusedVariables false
namespace Lyc
open Go
@[go_sem] theorem not_dec (p : Prop) [Decidable p] : (!decide p) = decide (¬ p) := by by_cases h : p <;> simp [h]
attribute [go_sem] Decidable.not_not
structure Cel where
  r : Int
  fg : BitVec 8
  bg : BitVec 8
  a : BitVec 8
deriving DecidableEq
@[go_sem] def Cel.cells (c : Cel) : List Value := [.int .i32 c.r, .int .u8 c.fg.toNat, .int .u8 c.bg.toNat, .int .u8 c.a.toNat]
@[go_sem] def Cel.val (c : Cel) : Value := .agg #[.int .i32 c.r, .int .u8 c.fg.toNat, .int .u8 c.bg.toNat, .int .u8 c.a.toNat]
theorem Cel.len (c : Cel) : c.cells.length = 4 := rfl
theorem Cel.ok (c : Cel) : okCells c.cells = true := rfl
theorem Cel.val_eq (c : Cel) : c.val = .agg c.cells.toArray := rfl
def spans : List (Int × Int × Int) := [(0x7f, 0x9f, 0), (0x300, 0x36f, 0), (0x200b, 0x200f, 0), (0xd800, 0xdfff, 0), (0xfe00, 0xfe0f, 0), (0x1100, 0x115f, 2), (0x2e80, 0x303e, 2), (0x3041, 0xa4cf, 2), (0xac00, 0xd7a3, 2), (0xf900, 0xfaff, 2), (0xfe30, 0xfe6f, 2), (0xff01, 0xff60, 2), (0xffe0, 0xffe6, 2), (0x1f300, 0x1f64f, 2), (0x1f900, 0x1f9ff, 2), (0x20000, 0x3fffd, 2)]
def spanW : List (Int × Int × Int) → Int → Int
  | [], _ => 1
  | s :: l, r => if s.1 ≤ r ∧ r ≤ s.2.1 then s.2.2 else spanW l r
def width (r : Int) : Int := if r < 32 ∨ 1114111 < r then 0 else if r < 127 then 1 else spanW spans r
def Cel.wide (c : Cel) : Bool := decide (¬ c.a &&& 64#8 = 0#8)
def Cel.tail (c : Cel) : Bool := decide (¬ c.a &&& 128#8 = 0#8)
def Cel.plain (c : Cel) : Bool := decide (c.a &&& 192#8 = 0#8)
def Cel.check (c : Cel) : Bool := if c.tail then !c.wide && decide (c.r = 0) else if c.wide then decide (width c.r = 2) else decide (width c.r = 1)
def Cel.tailOf (c : Cel) : Cel := ⟨0, c.fg, c.bg, (c.a &&& ~~~64#8) ||| 128#8⟩
def Cel.single (c : Cel) : Bool := c.plain && c.check
def pairOK (c d : Cel) : Bool := c.wide && c.check && decide (d = c.tailOf)
def pairAt (l : List Cel) (x : Nat) : Bool := match l[x]?, l[x + 1]? with | some c, some d => pairOK c d | _, _ => false
def Cel.blank : Cel := ⟨32, 0, 0, 0⟩
def Cel.fix (c : Cel) : Cel := if c.single then c else ⟨32, c.fg, c.bg, 0⟩
def mkCel (r : Int) (p : Cel) : List Cel :=
  if width r = 1 then [⟨r, p.fg, p.bg, p.a &&& 63#8⟩] else if width r = 2 then [⟨r, p.fg, p.bg, (p.a &&& 63#8) ||| 64#8⟩, ⟨0, p.fg, p.bg, (p.a &&& 63#8) ||| 128#8⟩] else []
def right : List Cel → Bool
  | [] => true
  | [c] => c.single
  | c :: d :: l => if pairOK c d then right l else c.single && right (d :: l)
def mend : List Cel → List Cel
  | [] => []
  | [c] => [c.fix]
  | c :: d :: l => if pairOK c d then c :: d :: mend l else c.fix :: mend (d :: l)
theorem mend_len : ∀ l : List Cel, (mend l).length = l.length
  | [] => rfl
  | [c] => rfl
  | c :: d :: l => by
    unfold mend
    split
    · simp [mend_len l]
    · simp [mend_len (d :: l)]
theorem bits_u8 (x y : BitVec 8) : IntKind.u8.wrap (((x &&& y).toNat : Nat) : Int) = ((x &&& y).toNat : Int) := wrap_u8 _ (by omega) (by have := (x &&& y).isLt; omega)
theorem bitV_and_u8 (x : BitVec 8) (k : Int) : bitV .and .u8 (x.toNat : Int) k = ((x &&& BitVec.ofInt 8 k).toNat : Int) := by
  show IntKind.u8.wrap ((BitVec.ofInt 8 (x.toNat : Int) &&& BitVec.ofInt 8 k).toNat : Int) = _
  rw [show BitVec.ofInt 8 (x.toNat : Int) = x by simp]
  exact bits_u8 _ _
theorem bitV_or_u8 (x : BitVec 8) (k : Int) : bitV .or .u8 (x.toNat : Int) k = ((x ||| BitVec.ofInt 8 k).toNat : Int) := by
  show IntKind.u8.wrap ((BitVec.ofInt 8 (x.toNat : Int) ||| BitVec.ofInt 8 k).toNat : Int) = _
  rw [show BitVec.ofInt 8 (x.toNat : Int) = x by simp]
  exact wrap_u8 _ (by omega) (by have := (x ||| BitVec.ofInt 8 k).isLt; omega)
theorem bitV_andNot_u8 (x : BitVec 8) (k : Int) : bitV .andNot .u8 (x.toNat : Int) k = ((x &&& ~~~BitVec.ofInt 8 k).toNat : Int) := by
  show IntKind.u8.wrap ((BitVec.ofInt 8 (x.toNat : Int) &&& ~~~BitVec.ofInt 8 k).toNat : Int) = _
  rw [show BitVec.ofInt 8 (x.toNat : Int) = x by simp]
  exact bits_u8 _ _
theorem bv0 (x : BitVec 8) : ((x.toNat : Int) = 0) = (x = 0#8) := by
  apply propext
  constructor
  · intro h; apply BitVec.eq_of_toNat_eq; simp; omega
  · rintro rfl; rfl
@[go_sem] theorem and64 (x : BitVec 8) : (bitV .and .u8 (x.toNat : Int) 64 = 0) = (x &&& 64#8 = 0#8) := by rw [bitV_and_u8, bv0]; rfl
@[go_sem] theorem and128 (x : BitVec 8) : (bitV .and .u8 (x.toNat : Int) 128 = 0) = (x &&& 128#8 = 0#8) := by rw [bitV_and_u8, bv0]; rfl
@[go_sem] theorem and192 (x : BitVec 8) : (bitV .and .u8 (x.toNat : Int) 192 = 0) = (x &&& 192#8 = 0#8) := by rw [bitV_and_u8, bv0]; rfl
@[go_sem] theorem andNot64 (x : BitVec 8) : bitV .andNot .u8 (x.toNat : Int) 64 = ((x &&& ~~~64#8).toNat : Int) := bitV_andNot_u8 x 64
@[go_sem] theorem andNot192 (x : BitVec 8) : bitV .andNot .u8 (x.toNat : Int) 192 = ((x &&& ~~~192#8).toNat : Int) := bitV_andNot_u8 x 192
@[go_sem] theorem or128 (x : BitVec 8) : bitV .or .u8 (x.toNat : Int) 128 = ((x ||| 128#8).toNat : Int) := bitV_or_u8 x 128
@[go_sem] theorem or64 (x : BitVec 8) : bitV .or .u8 (x.toNat : Int) 64 = ((x ||| 64#8).toNat : Int) := bitV_or_u8 x 64
theorem bv_inj (x y : BitVec 8) : ((x.toNat : Int) = y.toNat) = (x = y) := propext ⟨fun h => BitVec.eq_of_toNat_eq (by omega), fun h => by rw [h]⟩
theorem celEq (c d : Cel) : decide (c = d) = (decide (c.r = d.r) && (decide ((c.fg.toNat : Int) = d.fg.toNat) && (decide ((c.bg.toNat : Int) = d.bg.toNat) && (decide ((c.a.toNat : Int) = d.a.toNat) && true)))) := by
  obtain ⟨r, f, b, a⟩ := c
  obtain ⟨r', f', b', a'⟩ := d
  simp only [Cel.mk.injEq, bv_inj, Bool.decide_and, Bool.and_true]
@[go_sem] theorem celEq' (c d : Cel) : (decide (c.r = d.r) && (decide ((c.fg.toNat : Int) = d.fg.toNat) && (decide ((c.bg.toNat : Int) = d.bg.toNat) && decide ((c.a.toNat : Int) = d.a.toNat)))) = decide (c = d) := by rw [celEq]; simp only [Bool.and_true]
abbrev SxC (w : World) (e : Option TypeId) (a : Option Addr) (l : List Cel) : Prop := Sx w e Cel.cells a l
theorem SxC.cel {w : World} {e : Option TypeId} {a : Option Addr} {l : List Cel} (h : Sx w e Cel.cells a l) {i : Nat} {c : Cel} (hi : l[i]? = some c) :
    ∃ b o, a = some ⟨b, o, none⟩ ∧ b < w.heap.size ∧ aggAt w.heap[b]? (o + i * 4) 4 = some #[.int .i32 c.r, .int .u8 c.fg.toNat, .int .u8 c.bg.toNat, .int .u8 c.a.toNat] ∧
      cellAt w.heap[b]? (o + i * 4) = some (.int .i32 c.r) ∧ cellAt w.heap[b]? (o + i * 4 + 1) = some (.int .u8 c.fg.toNat) ∧ cellAt w.heap[b]? (o + i * 4 + 2) = some (.int .u8 c.bg.toNat) ∧ cellAt w.heap[b]? (o + i * 4 + 3) = some (.int .u8 c.a.toNat) := by
  obtain ⟨b, o, h1, h2, h3⟩ := h.get (m := 4) Cel.len hi
  exact ⟨b, o, h1, h2, h3, aggAt_cell h3 0 (by omega), aggAt_cell h3 1 (by omega), aggAt_cell h3 2 (by omega), aggAt_cell h3 3 (by omega)⟩
theorem mend_step {l : List Cel} {k : Nat} (hk : k < l.length) : mend (l.drop k) = if pairAt l k then (l.drop k).take 2 ++ mend (l.drop (k + 2)) else (l[k].fix :: mend (l.drop (k + 1))) := by
  have e1 : l.drop k = l[k] :: l.drop (k + 1) := List.drop_eq_getElem_cons hk
  unfold pairAt
  rw [List.getElem?_eq_getElem hk]
  by_cases h2 : k + 1 < l.length
  · have e2 : l.drop (k + 1) = l[k + 1] :: l.drop (k + 2) := List.drop_eq_getElem_cons h2
    rw [List.getElem?_eq_getElem h2, e1, e2]
    simp only [mend]
    split <;> rfl
  · rw [List.getElem?_eq_none (by omega), e1, List.drop_eq_nil_of_le (by omega)]
    simp [mend]
theorem right_step {l : List Cel} {k : Nat} (hk : k < l.length) : right (l.drop k) = if pairAt l k then right (l.drop (k + 2)) else (l[k].single && right (l.drop (k + 1))) := by
  have e1 : l.drop k = l[k] :: l.drop (k + 1) := List.drop_eq_getElem_cons hk
  unfold pairAt
  rw [List.getElem?_eq_getElem hk]
  by_cases h2 : k + 1 < l.length
  · have e2 : l.drop (k + 1) = l[k + 1] :: l.drop (k + 2) := List.drop_eq_getElem_cons h2
    rw [List.getElem?_eq_getElem h2, e1, e2]
    simp only [right]
  · rw [List.getElem?_eq_none (by omega), e1, List.drop_eq_nil_of_le (by omega)]
    simp [right]
theorem pairAt_lt {l : List Cel} {k : Nat} (h : pairAt l k = true) : k + 1 < l.length := by
  unfold pairAt at h
  by_cases h2 : k + 1 < l.length
  · exact h2
  · rw [List.getElem?_eq_none (l := l) (i := k + 1) (by omega)] at h
    cases l[k]? <;> simp at h
end Lyc
namespace Lyc
open Go
def fitsG (w h : Int) : Bool := decide (1 ≤ w ∧ w ≤ 200 ∧ 1 ≤ h ∧ h ≤ 60)
def spanG (at' n size : Int) : Int × Int :=
  if n ≤ 0 ∨ size ≤ at' ∨ (at' < 0 ∧ at' + n ≤ 0) then (0, 0) else if at' < 0 then (0, min (at' + n) size) else (at', at' + min n (size - at'))
def Cel.usual (c : Cel) : Bool := c.check && c.plain
structure Gr where
  w : Nat
  h : Nat
  cs : List Cel
  deriving DecidableEq
def Gr.val (g : Gr) (a : Option Addr) (cap : Nat) : Value := .agg #[.int .i64 g.w, .int .i64 g.h, .slice a g.cs.length cap]
def Gr.row (g : Gr) (y : Nat) : List Cel := (g.cs.drop (y * g.w)).take g.w
structure Gr.ok (g : Gr) : Prop where
  w0 : 0 < g.w
  w1 : g.w ≤ 200
  h0 : 0 < g.h
  h1 : g.h ≤ 60
  len : g.cs.length = g.w * g.h
theorem Gr.ok.le {g : Gr} (h : g.ok) : g.cs.length ≤ 12000 := by
  rw [h.len]
  have := Nat.mul_le_mul h.w1 h.h1
  omega
theorem Gr.ok.row_lt {g : Gr} (h : g.ok) {y : Nat} (hy : y < g.h) : y * g.w + g.w ≤ g.cs.length := by
  rw [h.len, Nat.mul_comm g.w g.h]
  have := Nat.mul_le_mul_right g.w (show y + 1 ≤ g.h by omega)
  rw [Nat.add_mul] at this
  omega
theorem Gr.ok.row_len {g : Gr} (h : g.ok) {y : Nat} (hy : y < g.h) : (g.row y).length = g.w := by
  have := h.row_lt hy
  simp [Gr.row]; omega
def Gr.right (g : Gr) : Bool := (List.range g.h).all fun y => Lyc.right (g.row y)
theorem Gr.right_of {g : Gr} (h : ∀ y, y < g.h → Lyc.right (g.row y) = true) : g.right = true := by
  unfold Gr.right; rw [List.all_eq_true]; intro y hy; exact h y (List.mem_range.1 hy)
theorem Gr.right_not {g : Gr} {y : Nat} (hy : y < g.h) (h : Lyc.right (g.row y) = false) : g.right = false := by
  unfold Gr.right; rw [List.all_eq_false]; exact ⟨y, List.mem_range.2 hy, by simp [h]⟩
theorem Gr.right.at {g : Gr} (h : g.right = true) {y : Nat} (hy : y < g.h) : Lyc.right (g.row y) = true := by
  unfold Gr.right at h; rw [List.all_eq_true] at h; exact h y (List.mem_range.2 hy)
theorem Gr.ok.fits {g : Gr} (h : g.ok) : fitsG g.w g.h = true := by
  have := h.w0; have := h.w1; have := h.h0; have := h.h1
  unfold fitsG; apply decide_eq_true; omega
theorem Gr.ok.ne {g : Gr} (h : g.ok) : g.cs ≠ [] := by
  intro hn
  have := h.len; rw [hn] at this
  have h1 := h.w0; have h2 := h.h0
  have := Nat.mul_pos h1 h2
  simp at *
  omega
variable {α : Type}
def rowsOf (R : Nat → List α) : Nat → List α
  | 0 => []
  | h + 1 => rowsOf R h ++ R h
theorem rowsOf_len {R : Nat → List α} {w : Nat} : ∀ {h : Nat}, (∀ y, y < h → (R y).length = w) → (rowsOf R h).length = h * w
  | 0, _ => by simp [rowsOf]
  | h + 1, hR => by simp [rowsOf, rowsOf_len (h := h) (fun y hy => hR y (by omega)), hR h (by omega), Nat.add_mul]
theorem rowsOf_congr {R S : Nat → List α} : ∀ {h : Nat}, (∀ y, y < h → R y = S y) → rowsOf R h = rowsOf S h
  | 0, _ => rfl
  | h + 1, hR => by simp [rowsOf, rowsOf_congr (h := h) (fun y hy => hR y (by omega)), hR h (by omega)]
theorem rowsOf_split (R : Nat → List α) (y : Nat) : ∀ d : Nat, ∃ post, ∀ S : Nat → List α, (∀ k, k ≠ y → S k = R k) → rowsOf S (y + 1 + d) = rowsOf R y ++ S y ++ post
  | 0 => ⟨[], fun S hS => by simp [rowsOf, rowsOf_congr (h := y) (fun k hk => hS k (by omega))]⟩
  | d + 1 => by
    obtain ⟨post, h⟩ := rowsOf_split R y d
    refine ⟨post ++ R (y + 1 + d), fun S hS => ?_⟩
    rw [← Nat.add_assoc]
    simp only [rowsOf]
    rw [h S hS, hS (y + 1 + d) (by omega)]
    simp
theorem rowsOf_row {R : Nat → List α} {w h : Nat} (hR : ∀ y, y < h → (R y).length = w) {y : Nat} (hy : y < h) : ((rowsOf R h).drop (y * w)).take w = R y := by
  obtain ⟨d, rfl⟩ : ∃ d, h = y + 1 + d := ⟨h - (y + 1), by omega⟩
  obtain ⟨post, hp⟩ := rowsOf_split R y d
  rw [hp R (fun _ _ => rfl)]
  have h1 := rowsOf_len (R := R) (w := w) (h := y) (fun k hk => hR k (by omega))
  rw [List.append_assoc, List.drop_append, h1]
  have h2 := hR y (by omega)
  simp [List.drop_eq_nil_of_le, h1, h2]
theorem rowsOf_of {w : Nat} : ∀ {h : Nat} (l : List α), l.length = h * w → rowsOf (fun y => (l.drop (y * w)).take w) h = l
  | 0, l, hl => by simp at hl; subst hl; rfl
  | h + 1, l, hl => by
    rw [Nat.add_mul] at hl
    have ih := rowsOf_of (w := w) (h := h) (l.take (h * w)) (by simp; omega)
    have hc : rowsOf (fun y => (l.drop (y * w)).take w) h = rowsOf (fun y => ((l.take (h * w)).drop (y * w)).take w) h := by
      refine rowsOf_congr fun y hy => ?_
      have := Nat.mul_le_mul_right w (show y + 1 ≤ h by omega)
      rw [Nat.add_mul] at this
      rw [List.drop_take, List.take_take, Nat.min_eq_left (by omega)]
    show rowsOf _ h ++ (l.drop (h * w)).take w = l
    rw [hc, ih, List.take_of_length_le (l := l.drop (h * w)) (by simp; omega), List.take_append_drop]
theorem Gr.ok.rows {g : Gr} (h : g.ok) : rowsOf g.row g.h = g.cs := by
  have := rowsOf_of (w := g.w) (h := g.h) g.cs (by rw [h.len, Nat.mul_comm])
  exact this
def Gr.of (w h : Nat) (R : Nat → List Cel) : Gr := ⟨w, h, rowsOf R h⟩
theorem Gr.of_ok {w h : Nat} {R : Nat → List Cel} (w0 : 0 < w) (w1 : w ≤ 200) (h0 : 0 < h) (h1 : h ≤ 60) (hR : ∀ y, y < h → (R y).length = w) : (Gr.of w h R).ok :=
  ⟨w0, w1, h0, h1, by simp [Gr.of, rowsOf_len hR, Nat.mul_comm]⟩
theorem Gr.of_row {w h : Nat} {R : Nat → List Cel} (hR : ∀ y, y < h → (R y).length = w) {y : Nat} (hy : y < h) : (Gr.of w h R).row y = R y := rowsOf_row hR hy
def Gr.chg (g : Gr) (top fin : Int) (f : Nat → List Cel) : Gr := Gr.of g.w g.h fun y => if top ≤ y ∧ (y : Int) < fin then mend (f y) else g.row y
theorem Gr.chg_rows {g : Gr} (h : g.ok) {top fin : Int} {f : Nat → List Cel} (hf : ∀ y, y < g.h → top ≤ (y : Int) → (y : Int) < fin → (f y).length = g.w) (y : Nat) (hy : y < g.h) : (if top ≤ y ∧ (y : Int) < fin then mend (f y) else g.row y).length = g.w := by
  split
  · rename_i h1; rw [mend_len, hf y hy h1.1 h1.2]
  · exact h.row_len hy
theorem Gr.chg_ok {g : Gr} (h : g.ok) {top fin : Int} {f : Nat → List Cel} (hf : ∀ y, y < g.h → top ≤ (y : Int) → (y : Int) < fin → (f y).length = g.w) : (g.chg top fin f).ok :=
  Gr.of_ok h.w0 h.w1 h.h0 h.h1 (Gr.chg_rows h hf)
theorem Gr.chg_len {g : Gr} (h : g.ok) {top fin : Int} {f : Nat → List Cel} (hf : ∀ y, y < g.h → top ≤ (y : Int) → (y : Int) < fin → (f y).length = g.w) : (g.chg top fin f).cs.length = g.cs.length := by
  rw [(Gr.chg_ok h hf).len, h.len]; rfl
theorem Gr.chg_row {g : Gr} (h : g.ok) {top fin : Int} {f : Nat → List Cel} (hf : ∀ y, y < g.h → top ≤ (y : Int) → (y : Int) < fin → (f y).length = g.w) {y : Nat} (hy : y < g.h) : (g.chg top fin f).row y = if top ≤ y ∧ (y : Int) < fin then mend (f y) else g.row y :=
  Gr.of_row (Gr.chg_rows h hf) hy
def lineOf (n : Nat) (c : Nat → α) : List α := (List.range n).map c
theorem lineOf_len (n : Nat) (c : Nat → α) : (lineOf n c).length = n := by simp [lineOf]
theorem lineOf_get {n : Nat} {c : Nat → α} {i : Nat} (h : i < n) : (lineOf n c)[i]? = some (c i) := by simp [lineOf, h]
theorem lineOf_congr {n : Nat} {c d : Nat → α} (h : ∀ i, i < n → c i = d i) : lineOf n c = lineOf n d := List.map_congr_left fun i hi => h i (List.mem_range.1 hi)
theorem lineOf_set {n : Nat} {c d : Nat → α} {i : Nat} {v : α} (hi : i < n) (hd : d i = v) (h : ∀ k, k < n → k ≠ i → d k = c k) : (lineOf n c).set i v = lineOf n d := by
  apply List.ext_getElem?
  intro k
  by_cases hk : k < n
  · rw [lineOf_get hk, List.getElem?_set]
    by_cases he : i = k
    · subst he; rw [if_pos rfl, if_pos (by rw [lineOf_len]; exact hi), hd]
    · rw [if_neg he, lineOf_get hk, h k hk (Ne.symm he)]
  · rw [List.getElem?_eq_none (by rw [List.length_set, lineOf_len]; omega), List.getElem?_eq_none (by rw [lineOf_len]; omega)]
theorem lineOf_of {l : List α} {n : Nat} (h : l.length = n) {c : Nat → α} (hc : ∀ i, i < n → l[i]? = some (c i)) : l = lineOf n c := by
  apply List.ext_getElem?
  intro k
  by_cases hk : k < n
  · rw [lineOf_get hk, hc k hk]
  · rw [List.getElem?_eq_none (by omega), List.getElem?_eq_none (by rw [lineOf_len]; omega)]
def Cel.none : Cel := ⟨0, 0, 0, 0⟩
def Gr.at (g : Gr) (x y : Nat) : Cel := g.cs.getD (y * g.w + x) Cel.none
theorem Gr.ok.at_some {g : Gr} (h : g.ok) {x y : Nat} (hx : x < g.w) (hy : y < g.h) : g.cs[y * g.w + x]? = some (g.at x y) := by
  have := h.row_lt hy
  unfold Gr.at
  rw [List.getD_eq_getElem?_getD, List.getElem?_eq_getElem (by omega)]; rfl
theorem Gr.ok.row_get {g : Gr} (h : g.ok) {x y : Nat} (hx : x < g.w) (hy : y < g.h) : (g.row y)[x]? = some (g.at x y) := by
  unfold Gr.row
  rw [List.getElem?_take_of_lt hx, List.getElem?_drop, h.at_some hx hy]
theorem Gr.ok.row_line {g : Gr} (h : g.ok) {y : Nat} (hy : y < g.h) : g.row y = lineOf g.w fun x => g.at x y :=
  lineOf_of (h.row_len hy) fun _ hx => h.row_get hx hy
theorem spanG_b {x n size : Int} (h : 0 ≤ size) : 0 ≤ (spanG x n size).1 ∧ (spanG x n size).1 ≤ (spanG x n size).2 ∧ (spanG x n size).2 ≤ size := by
  unfold spanG
  split
  · simp; omega
  · split <;> simp <;> omega
theorem spanG_mem {x n size : Int} {i : Int} (h0 : 0 ≤ i) (h1 : i < size) : ((spanG x n size).1 ≤ i ∧ i < (spanG x n size).2) ↔ (x ≤ i ∧ i < x + n) := by
  unfold spanG
  split
  · simp; omega
  · split <;> simp <;> omega
def Gr.fill (g : Gr) (X Y W H : Int) (c : Cel) : Gr :=
  g.chg (spanG Y H g.h).1 (spanG Y H g.h).2 fun y => lineOf g.w fun x => if (spanG X W g.w).1 ≤ (x : Int) ∧ (x : Int) < (spanG X W g.w).2 then c else g.at x y
def Gr.plain (w h : Nat) (c : Cel) : Gr := ⟨w, h, List.replicate (w * h) c⟩
theorem Gr.plain_ok {w h : Nat} (w0 : 0 < w) (w1 : w ≤ 200) (h0 : 0 < h) (h1 : h ≤ 60) (c : Cel) : (Gr.plain w h c).ok := ⟨w0, w1, h0, h1, by simp [Gr.plain]⟩
theorem Gr.ok.at_lt {g : Gr} (h : g.ok) {x y : Nat} (hx : x < g.w) (hy : y < g.h) : y * g.w + x < g.cs.length := by
  have := h.row_lt hy; omega
theorem Gr.plain_at {w h : Nat} (w0 : 0 < w) (w1 : w ≤ 200) (h0 : 0 < h) (h1 : h ≤ 60) (c : Cel) {x y : Nat} (hx : x < w) (hy : y < h) : (Gr.plain w h c).at x y = c := by
  have h2 := (Gr.plain_ok w0 w1 h0 h1 c).at_some (x := x) (y := y) hx hy
  have h3 : (List.replicate (w * h) c)[y * w + x]? = some ((Gr.plain w h c).at x y) := h2
  rw [List.getElem?_replicate] at h3
  split at h3
  · exact (Option.some.inj h3).symm
  · exact absurd h3 (by simp)
theorem Gr.of_at {w h : Nat} {R : Nat → List Cel} (w0 : 0 < w) (w1 : w ≤ 200) (h0 : 0 < h) (h1 : h ≤ 60) (hR : ∀ y, y < h → (R y).length = w) {x y : Nat} (hx : x < w) (hy : y < h) : some ((Gr.of w h R).at x y) = (R y)[x]? := by
  rw [← Gr.of_row hR hy, (Gr.of_ok w0 w1 h0 h1 hR).row_get hx hy]
def Gr.put (g : Gr) (X Y : Int) (l : List Cel) : Gr :=
  g.chg (spanG Y 1 g.h).1 (spanG Y 1 g.h).2 fun y => lineOf g.w fun x => if (spanG X l.length g.w).1 ≤ (x : Int) ∧ (x : Int) < (spanG X l.length g.w).2 then l.getD ((x : Int) - X).toNat Cel.none else g.at x y
def Gr.scrollF (g : Gr) (top fin n : Int) (c : Cel) (y : Nat) : List Cel := if (y : Int) + n < top ∨ fin ≤ (y : Int) + n then lineOf g.w fun _ => c else g.row ((y : Int) + n).toNat
def Gr.scroll (g : Gr) (top fin n : Int) (c : Cel) : Gr :=
  g.chg (min (max top 0) g.h) (min (max fin 0) g.h) (g.scrollF (min (max top 0) g.h) (min (max fin 0) g.h) (min (max n (-g.h)) g.h) c)
def Gr.shiftF (g : Gr) (X n : Int) (c : Cel) (y : Nat) : List Cel :=
  lineOf g.w fun x => if X ≤ (x : Int) then (if X ≤ (x : Int) - n ∧ (x : Int) - n < g.w then g.at ((x : Int) - n).toNat y else c) else g.at x y
def Gr.shift (g : Gr) (X Y n : Int) (c : Cel) : Gr :=
  g.chg (spanG Y 1 g.h).1 (spanG Y 1 g.h).2 (g.shiftF (max X 0) (min (max n (-g.w)) g.w) c)
def Gr.blit (g f : Gr) (X Y : Int) : Gr :=
  g.chg (spanG Y f.h g.h).1 (spanG Y f.h g.h).2 fun y => lineOf g.w fun x => if (spanG X f.w g.w).1 ≤ (x : Int) ∧ (x : Int) < (spanG X f.w g.w).2 then (if 0 ≤ (y : Int) - Y ∧ (y : Int) - Y < f.h ∧ 0 ≤ (x : Int) - X ∧ (x : Int) - X < f.w then f.at ((x : Int) - X).toNat ((y : Int) - Y).toNat else Cel.none) else g.at x y
def Gr.resize (g : Gr) (w h : Nat) (c : Cel) : Gr :=
  (Gr.plain w h c).chg 0 (min (h : Int) g.h) fun y => lineOf w fun x => if x < g.w then g.at x y else (Gr.plain w h c).at x y
theorem Gr.ok.scrollF_len {g : Gr} (hg : g.ok) {T E N : Int} {c : Cel} (ht : 0 ≤ T) (he : E ≤ g.h) (y : Nat) : (g.scrollF T E N c y).length = g.w := by
  unfold Gr.scrollF
  by_cases h : (y : Int) + N < T ∨ E ≤ (y : Int) + N
  · rw [if_pos h]; exact lineOf_len _ _
  · rw [if_neg h]; exact hg.row_len (by omega)
end Lyc
namespace Lyc
open Go
structure Act' where
  kind : Int
  r : Int
  priv : Int
  mid : Int
  n : Int
  n0 : Int
  n1 : Int
  n2 : Int
  n3 : Int
  n4 : Int
  n5 : Int
  n6 : Int
  n7 : Int
deriving DecidableEq
def Act'.nums (a : Act') : List Int := [a.n0, a.n1, a.n2, a.n3, a.n4, a.n5, a.n6, a.n7]
@[go_sem] def Act'.cells (a : Act') : List Value := [.int .i64 a.kind, .int .i32 a.r, .int .u8 a.priv, .int .u8 a.mid, .int .i64 a.n, .int .i64 a.n0, .int .i64 a.n1, .int .i64 a.n2, .int .i64 a.n3, .int .i64 a.n4, .int .i64 a.n5, .int .i64 a.n6, .int .i64 a.n7]
@[go_sem] def Act'.val (a : Act') : Value := .agg #[.int .i64 a.kind, .int .i32 a.r, .int .u8 a.priv, .int .u8 a.mid, .int .i64 a.n, .int .i64 a.n0, .int .i64 a.n1, .int .i64 a.n2, .int .i64 a.n3, .int .i64 a.n4, .int .i64 a.n5, .int .i64 a.n6, .int .i64 a.n7]
theorem Act'.len (a : Act') : a.cells.length = 13 := rfl
theorem Act'.ok (a : Act') : okCells a.cells = true := rfl
def i64ok (n : Int) : Prop := -9223372036854775808 ≤ n ∧ n ≤ 9223372036854775807
structure Act'.fits (a : Act') : Prop where
  r0 : -2147483648 ≤ a.r
  r1 : a.r ≤ 2147483647
  n : i64ok a.n
  nums : ∀ x ∈ a.nums, i64ok x
def Act'.num (a : Act') (i : Nat) (least : Int) : Int := if 8 ≤ i ∨ a.n ≤ i then least else max (a.nums.getD i 0) least
structure Sav where
  x : Nat
  y : Nat
  pen : Cel
deriving DecidableEq
@[go_sem] def Sav.cells (s : Sav) : List Value := [.int .i64 s.x, .int .i64 s.y, .int .i32 s.pen.r, .int .u8 s.pen.fg.toNat, .int .u8 s.pen.bg.toNat, .int .u8 s.pen.a.toNat]
def Sav.zero : Sav := ⟨0, 0, Cel.none⟩
structure Scr where
  w : Nat
  h : Nat
  g0 : Gr
  g1 : Gr
  s0 : Sav
  s1 : Sav
  alt : Bool
  now : Sav
  top : Nat
  fin : Nat
  tabs : List Bool
  wraps : Bool
  waits : Bool
  shown : Bool
  gone : List (List Cel)
def tabs0 : List Bool := (List.range 200).map fun x => decide (x % 8 = 0 ∧ 8 ≤ x)
def Scr.renew (S : Scr) : Scr := ⟨S.w, S.h, Gr.plain S.w S.h Cel.blank, Gr.plain S.w S.h Cel.blank, .zero, .zero, false, .zero, 0, S.h, tabs0, true, false, true, S.gone⟩
def Scr.new (w h : Nat) : Scr := ⟨w, h, Gr.plain w h Cel.blank, Gr.plain w h Cel.blank, .zero, .zero, false, .zero, 0, h, tabs0, true, false, true, []⟩
def Scr.cur (S : Scr) : Gr := bif S.alt then S.g1 else S.g0
def Scr.setCur (S : Scr) (g : Gr) : Scr := bif S.alt then { S with g1 := g } else { S with g0 := g }
def Scr.free (S : Scr) : Cel := ⟨32, 0, S.now.pen.bg, 0⟩
def clampN (x : Int) (n : Nat) : Nat := (min (max x 0) ((n : Int) - 1)).toNat
def Scr.at (S : Scr) (x y : Nat) : Scr := { S with now := { S.now with x := x, y := y } }
def Scr.move (S : Scr) (x y : Int) : Scr := S.at (clampN x S.w) (clampN y S.h)
def Scr.save (S : Scr) : Scr := bif S.alt then { S with s1 := S.now } else { S with s0 := S.now }
def Scr.restore (S : Scr) : Scr := { S with now := bif S.alt then S.s1 else S.s0, waits := false }
def Scr.line (S : Scr) (f : Gr → Gr) : Scr := S.setCur (Gr.of S.w S.h fun y => if y = S.now.y then (f ⟨S.w, 1, S.cur.row y⟩).cs else S.cur.row y)
def Scr.erase (S : Scr) (x n : Int) : Scr := S.line fun g => g.fill x 0 n 1 S.free
def Scr.clear (S : Scr) (y n : Int) : Scr := S.setCur (S.cur.fill 0 y S.w n S.free)
def Scr.scroll (S : Scr) (top n : Int) : Scr := S.setCur (S.cur.scroll top S.fin n S.free)
def latest (l : List (List Cel)) : List (List Cel) := l.drop (l.length - 500)
def Scr.keep (S : Scr) (n : Int) : Scr := if S.top = 0 ∧ S.alt = false then { S with gone := latest (S.gone ++ (List.range (min n S.fin).toNat).map S.g0.row) } else S
def Scr.up (S : Scr) (n : Int) : Scr := (S.keep n).scroll S.top n
def Scr.below (S : Scr) : Scr := if S.now.y + 1 = S.fin then S.up 1 else if S.now.y + 1 < S.h then S.at S.now.x (S.now.y + 1) else S
def Scr.above (S : Scr) : Scr := if S.now.y = S.top then S.scroll S.top (-1) else if 0 < S.now.y then S.at S.now.x (S.now.y - 1) else S
def Scr.wrapped (S : Scr) : Scr := if S.waits then (S.at 0 S.now.y).below else S
def Scr.roomFor (S : Scr) (n : Nat) : Scr := if S.w < S.now.x + n then (if S.wraps then (S.at 0 S.now.y).below else S.at (S.w - n) S.now.y) else S
def Scr.lay (S : Scr) (r : Int) (n : Nat) : Scr :=
  let T := (S.line fun g => g.put S.now.x 0 (mkCel r S.now.pen))
  if S.now.x + n = S.w then { T.at (S.w - 1) S.now.y with waits := S.wraps } else { T.at (S.now.x + n) S.now.y with waits := false }
def Scr.print (S : Scr) (r : Int) : Scr :=
  if width r = 0 ∨ (S.w : Int) < width r then S else ((S.wrapped).roomFor (width r).toNat).lay r (width r).toNat
def tabGo (tabs : List Bool) (w : Nat) : Nat → Nat → Nat
  | 0, x => x
  | k + 1, x => if x < w ∧ tabs.getD x false = false then tabGo tabs w k (x + 1) else x
def Scr.tab (S : Scr) : Scr := S.at (min (tabGo S.tabs S.w (S.w - (S.now.x + 1)) (S.now.x + 1)) (S.w - 1)) S.now.y
def Scr.calm (S : Scr) : Scr := { S with waits := false }
def Scr.ctl (S : Scr) (r : Int) : Scr :=
  if r = 8 then (S.at (S.now.x - 1) S.now.y).calm
  else if r = 9 then S.tab.calm
  else if r = 10 ∨ r = 11 ∨ r = 12 then S.below.calm
  else if r = 13 then (S.at 0 S.now.y).calm
  else S
def Scr.esc (S : Scr) (r : Int) : Scr :=
  if r = 55 then S.save
  else if r = 72 then { S with tabs := S.tabs.set S.now.x true }
  else if r = 69 then (S.at 0 S.now.y).below.calm
  else if r = 68 then S.below.calm
  else if r = 77 then S.above.calm
  else if r = 56 then S.restore.calm
  else if r = 99 then S.renew.calm
  else S
def Scr.mode (S : Scr) (n : Int) (on : Bool) : Scr :=
  if n = 7 then { S with wraps := on, waits := S.waits && on }
  else if n = 25 then { S with shown := on }
  else if n = 47 ∨ n = 1047 ∨ n = 1049 then
    (if on = true ∧ S.alt = false then { S.save with alt := true, g1 := Gr.plain S.w S.h Cel.blank, waits := false }
     else if on = false ∧ S.alt = true then { S with alt := false }.restore
     else S)
  else S
def Scr.modes (S : Scr) (l : List Int) (on : Bool) : Scr := l.foldl (fun S n => S.mode n on) S
def Scr.moved (S : Scr) (a : Act') : Option Scr :=
  let n := min (a.num 0 1) 9999
  let up := fun (S : Scr) => S.at S.now.x (max ((S.now.y : Int) - n) (if S.top ≤ S.now.y then S.top else 0)).toNat
  let dn := fun (S : Scr) => S.at S.now.x (min ((S.now.y : Int) + n) (if S.now.y + 1 ≤ S.fin then S.fin - 1 else S.h - 1)).toNat
  if a.r = 70 then some (up (S.at 0 S.now.y))
  else if a.r = 65 then some (up S)
  else if a.r = 69 then some (dn (S.at 0 S.now.y))
  else if a.r = 66 then some (dn S)
  else if a.r = 67 then some (S.move (S.now.x + n) S.now.y)
  else if a.r = 68 then some (S.move (S.now.x - n) S.now.y)
  else if a.r = 71 ∨ a.r = 96 then some (S.move (n - 1) S.now.y)
  else if a.r = 100 then some (S.move S.now.x (n - 1))
  else if a.r = 72 ∨ a.r = 102 then some (S.move (a.num 1 1 - 1) (n - 1))
  else if a.r = 117 then some S.restore
  else none
def Scr.region (S : Scr) (top fin : Int) : Scr :=
  let f := if fin = 0 ∨ (S.h : Int) < fin then (S.h : Int) else fin
  if top < f - 1 then { S with top := top.toNat, fin := f.toNat }.move 0 0 else S
def Scr.wipeRows (S : Scr) (k : Int) : Scr := if k = 0 then S.clear ((S.now.y : Int) + 1) S.h else if k = 1 then S.clear 0 S.now.y else if k = 2 then S.clear 0 S.h else S
def Scr.wipeLine (S : Scr) (k : Int) : Scr := if k = 0 then S.erase S.now.x S.w else if k = 1 then S.erase 0 ((S.now.x : Int) + 1) else if k = 2 then S.erase 0 S.w else S
def Scr.shiftRows (S : Scr) (n : Int) : Scr := if S.top ≤ S.now.y ∧ S.now.y < S.fin then (S.scroll S.now.y (-n)).at 0 S.now.y else S
def Scr.changed (S : Scr) (a : Act') : Option Scr :=
  let n := min (a.num 0 1) 9999
  if a.r = 74 then some ((S.wipeRows (a.num 0 0)).wipeLine (a.num 0 0))
  else if a.r = 75 then some (S.wipeLine (a.num 0 0))
  else if a.r = 77 then some (S.shiftRows (-n))
  else if a.r = 76 then some (S.shiftRows n)
  else if a.r = 80 then some (S.line fun g => g.shift S.now.x 0 (-n) S.free)
  else if a.r = 64 then some (S.line fun g => g.shift S.now.x 0 n S.free)
  else if a.r = 88 then some (S.erase S.now.x n)
  else if a.r = 83 then some (S.up n)
  else if a.r = 84 then some (S.scroll S.top (-n))
  else if a.r = 114 then some (S.region (n - 1) (a.num 1 0))
  else none
def way (n : Nat) : BitVec 8 := [0#8, 1#8, 2#8, 4#8, 8#8, 16#8, 0#8, 32#8].getD n 0#8
def hue (n : Int) : BitVec 8 := BitVec.ofInt 8 (max n 1)
def obeyP (c : Cel) (n : Int) : Cel :=
  if n = 0 then { c with fg := 0, bg := 0, a := 0 }
  else if 0 < n ∧ n < 8 then { c with a := c.a ||| way n.toNat }
  else if n = 22 then { c with a := c.a &&& ~~~3#8 }
  else if 23 ≤ n ∧ n ≤ 27 then { c with a := c.a &&& ~~~(way (n - 20).toNat) }
  else if 30 ≤ n ∧ n ≤ 37 then { c with fg := hue (n - 30) }
  else if n = 39 then { c with fg := 0 }
  else if 40 ≤ n ∧ n ≤ 47 then { c with bg := hue (n - 40) }
  else if n = 49 then { c with bg := 0 }
  else if 90 ≤ n ∧ n ≤ 97 then { c with fg := hue (n - 82) }
  else if 100 ≤ n ∧ n ≤ 107 then { c with bg := hue (n - 92) }
  else c
def part43 (n : Int) : Int := (min (max n 0) 255) / 43
def rgb (r g b : Int) : BitVec 8 := BitVec.ofInt 8 (16 + 36 * part43 r + 6 * part43 g + part43 b)
def chosenP : List Int → Option (BitVec 8) × List Int
  | 5 :: n :: l => (if 0 ≤ n ∧ n ≤ 255 then some (hue n) else none, l)
  | 2 :: r :: g :: b :: l => (some (rgb r g b), l)
  | _ => (none, [])
theorem chosenP_len (l : List Int) : (chosenP l).2.length ≤ l.length := by
  unfold chosenP
  split <;> simp <;> omega
def penGo : Nat → List Int → Cel → Cel
  | 0, _, c => c
  | _ + 1, [], c => c
  | k + 1, n :: l, c =>
    if n = 38 then penGo k (chosenP l).2 (match (chosenP l).1 with | some x => { c with fg := x } | none => c)
    else if n = 48 then penGo k (chosenP l).2 (match (chosenP l).1 with | some x => { c with bg := x } | none => c)
    else penGo k l (obeyP c n)
def Act'.left (a : Act') : List Int := let l := a.nums.take (min (max a.n 0) 8).toNat; if l = [] then [0] else l
def penP (c : Cel) (a : Act') : Cel := if a.kind ≠ 4 ∨ a.r ≠ 109 ∨ a.priv ≠ 0 ∨ a.mid ≠ 0 then c else penGo 9 a.left c
def Scr.set (S : Scr) (a : Act') : Option Scr :=
  if a.r = 109 then some { S with now := { S.now with pen := penP S.now.pen a } }
  else if a.r = 103 then some (if a.num 0 0 = 0 then { S with tabs := S.tabs.set S.now.x false } else if a.num 0 0 = 3 then { S with tabs := List.replicate 200 false } else S)
  else if a.r = 115 then some S.save
  else none
def Scr.csi (S : Scr) (a : Act') : Scr :=
  if a.priv = 63 ∧ a.mid = 0 ∧ (a.r = 104 ∨ a.r = 108) then S.modes (a.nums.take (min (max a.n 0) 8).toNat) (decide (a.r = 104))
  else if a.priv ≠ 0 ∨ a.mid ≠ 0 then S
  else match S.set a with
    | some T => T
    | none => match S.moved a with
      | some T => T.calm
      | none => match S.changed a with
        | some T => T.calm
        | none => S
def Scr.act (S : Scr) (a : Act') : Scr :=
  if a.kind = 1 then S.print a.r
  else if a.kind = 2 then S.ctl a.r
  else if a.kind = 3 then (if a.mid = 0 then S.esc a.r else S)
  else if a.kind = 4 then S.csi a
  else S
def Scr.acts (S : Scr) (l : List Act') : Scr := l.foldl Scr.act S
def Scr.resize (S : Scr) (w h : Nat) : Scr :=
  { (⟨w, h, S.g0.resize w h Cel.blank, S.g1.resize w h Cel.blank, ⟨clampN S.s0.x w, clampN S.s0.y h, S.s0.pen⟩, ⟨clampN S.s1.x w, clampN S.s1.y h, S.s1.pen⟩, S.alt, S.now, 0, h, S.tabs, S.wraps, false, S.shown, S.gone⟩ : Scr).move S.now.x S.now.y with waits := false }
end Lyc
namespace Lyc
open Go
def nextR (r : Int) (b : UInt8) : Int := bitV .or .i32 (IntKind.i32.wrap (r * 64)) (IntKind.i32.wrap (bitV .and .u8 b.toNat 63))
def firstGo (s : List UInt8) : Nat → Int → Nat → Nat → Nat → Int × Nat × Bool
  | 0, r, n, _, _ => (r, n, false)
  | k + 1, r, n, lo, hi =>
    match s[n]? with
    | none => (65533, n, true)
    | some b => if b.toNat < lo ∨ hi < b.toNat then (65533, n, false) else firstGo s k (nextR r b) (n + 1) 128 191
def lowB (h : Nat) : Nat := if h = 224 then 160 else if h = 240 then 144 else 128
def highB (h : Nat) : Nat := if h = 237 then 159 else if h = 244 then 143 else 191
def moreB (h : Nat) : Nat := if 194 ≤ h ∧ h ≤ 223 then 1 else if 224 ≤ h ∧ h ≤ 239 then 2 else if 240 ≤ h ∧ h ≤ 244 then 3 else 0
def headR (h : Nat) : Int := IntKind.i32.wrap (bitV .and .u8 h (if moreB h = 1 then 31 else if moreB h = 2 then 15 else 7))
def first (s : List UInt8) : Int × Nat × Bool :=
  match s[0]? with
  | none => (0, 0, false)
  | some b =>
    if b.toNat ≤ 127 then ((b.toNat : Int), 1, false)
    else if moreB b.toNat = 0 then (65533, 1, false)
    else firstGo s (moreB b.toNat) (headR b.toNat) 1 (lowB b.toNat) (highB b.toNat)
def i32ok (r : Int) : Prop := -2147483648 ≤ r ∧ r ≤ 2147483647
theorem wrap_i32_ok (r : Int) : i32ok (IntKind.i32.wrap r) := by
  unfold i32ok IntKind.wrap
  simp [IntKind.bits, IntKind.signed]
  omega
theorem nextR_ok (r : Int) (b : UInt8) : i32ok (nextR r b) := wrap_i32_ok _
theorem headR_ok (h : Nat) : i32ok (headR h) := wrap_i32_ok _
theorem firstGo_ok (s : List UInt8) : ∀ (k : Nat) (r : Int) (n lo hi : Nat), i32ok r → n ≤ s.length →
    i32ok (firstGo s k r n lo hi).1 ∧ n ≤ (firstGo s k r n lo hi).2.1 ∧ (firstGo s k r n lo hi).2.1 ≤ s.length ∧ (firstGo s k r n lo hi).2.1 ≤ n + k ∧ ((firstGo s k r n lo hi).2.2 = true → s.length ≤ n + k)
  | 0, r, n, lo, hi, h, hn => ⟨h, Nat.le_refl _, hn, by simp [firstGo], by simp [firstGo]⟩
  | k + 1, r, n, lo, hi, h, hn => by
    unfold firstGo
    cases hb : s[n]? with
    | none =>
      have := List.getElem?_eq_none_iff.1 hb
      exact ⟨by show i32ok 65533; unfold i32ok; omega, Nat.le_refl _, hn, by dsimp only; omega, fun _ => by omega⟩
    | some b =>
      have hlt := (List.getElem?_eq_some_iff.1 hb).1
      dsimp only
      split
      · exact ⟨by show i32ok 65533; unfold i32ok; omega, Nat.le_refl _, hn, by dsimp only; omega, by simp⟩
      · obtain ⟨a, b', c, d, e⟩ := firstGo_ok s k (nextR r b) (n + 1) 128 191 (nextR_ok r b) hlt
        exact ⟨a, by omega, c, by omega, fun h => by have := e h; omega⟩
theorem first_ok (s : List UInt8) (h : s ≠ []) : i32ok (first s).1 ∧ 1 ≤ (first s).2.1 ∧ (first s).2.1 ≤ s.length ∧ ((first s).2.2 = true → s.length ≤ 4) := by
  cases s with
  | nil => exact absurd rfl h
  | cons b l =>
    have hb := b.toNat_lt
    unfold first
    show i32ok (if b.toNat ≤ 127 then ((b.toNat : Int), 1, false) else _).1 ∧ _
    simp only [List.getElem?_cons_zero]
    split
    · exact ⟨by show i32ok (b.toNat : Int); unfold i32ok; omega, Nat.le_refl _, by simp, by simp⟩
    split
    · exact ⟨by show i32ok 65533; unfold i32ok; omega, Nat.le_refl _, by simp, by simp⟩
    · have hm : moreB b.toNat ≤ 3 := by unfold moreB; split <;> (try split) <;> (try split) <;> omega
      obtain ⟨a, b', c, d, e⟩ := firstGo_ok (b :: l) (moreB b.toNat) (headR b.toNat) 1 (lowB b.toNat) (highB b.toNat) (headR_ok _) (by simp)
      exact ⟨a, b', c, fun h => by have := e h; omega⟩
theorem firstGo_more (s t : List UInt8) : ∀ (k : Nat) (r : Int) (n lo hi : Nat), (firstGo s k r n lo hi).2.2 = false → firstGo (s ++ t) k r n lo hi = firstGo s k r n lo hi
  | 0, _, _, _, _, _ => rfl
  | k + 1, r, n, lo, hi, h => by
    unfold firstGo at h ⊢
    cases hb : s[n]? with
    | none => rw [hb] at h; simp at h
    | some b =>
      have hlt := (List.getElem?_eq_some_iff.1 hb).1
      rw [List.getElem?_append_left hlt, hb]
      rw [hb] at h
      dsimp only at h ⊢
      split
      · rfl
      · rename_i hc
        rw [if_neg hc] at h
        exact firstGo_more s t k _ _ _ _ h
theorem first_more (s t : List UInt8) (h : s ≠ []) (ho : (first s).2.2 = false) : first (s ++ t) = first s := by
  cases s with
  | nil => exact absurd rfl h
  | cons b l =>
    unfold first at ho ⊢
    rw [List.cons_append]
    simp only [List.getElem?_cons_zero] at ho ⊢
    split
    · rfl
    split
    · rfl
    · rename_i h1 h2
      rw [if_neg h1, if_neg h2] at ho
      exact firstGo_more (b :: l) t _ _ _ _ _ ho
def decGo : Nat → List UInt8 → List Int × List UInt8
  | 0, s => ([], s)
  | k + 1, s => match s with
    | [] => ([], [])
    | b :: l => if (first (b :: l)).2.2 then ([], b :: l) else ((first (b :: l)).1 :: (decGo k ((b :: l).drop (first (b :: l)).2.1)).1, (decGo k ((b :: l).drop (first (b :: l)).2.1)).2)
def dec (s : List UInt8) : List Int × List UInt8 := decGo s.length s
theorem decGo_eq : ∀ (k : Nat) (s : List UInt8), s.length ≤ k → decGo k s = dec s := by
  have key : ∀ (n : Nat) (s : List UInt8), s.length = n → ∀ k, n ≤ k → decGo k s = decGo n s := by
    intro n
    induction n using Nat.strongRecOn with
    | ind n ih =>
      intro s hs k hk
      cases n with
      | zero =>
        have : s = [] := List.eq_nil_of_length_eq_zero hs
        subst this
        cases k <;> rfl
      | succ n =>
        cases k with
        | zero => omega
        | succ k =>
          cases s with
          | nil => rfl
          | cons b l =>
            have hf := first_ok (b :: l) (by simp)
            have hd : ((b :: l).drop (first (b :: l)).2.1).length ≤ n := by rw [List.length_drop]; omega
            unfold decGo
            dsimp only
            rw [ih _ (by omega) _ rfl k (by omega), ih _ (by omega) _ rfl n (by omega)]
  intro k s h
  exact key s.length s rfl k h
theorem dec_nil : dec [] = ([], []) := rfl
theorem dec_open {s : List UInt8} (h : s ≠ []) (ho : (first s).2.2 = true) : dec s = ([], s) := by
  cases s with
  | nil => exact absurd rfl h
  | cons b l => unfold dec; rw [List.length_cons]; unfold decGo; dsimp only; rw [if_pos ho]
theorem dec_step {s : List UInt8} (h : s ≠ []) (ho : (first s).2.2 = false) : dec s = ((first s).1 :: (dec (s.drop (first s).2.1)).1, (dec (s.drop (first s).2.1)).2) := by
  cases s with
  | nil => exact absurd rfl h
  | cons b l =>
    have hf := first_ok (b :: l) (by simp)
    have hd : ((b :: l).drop (first (b :: l)).2.1).length ≤ l.length := by rw [List.length_drop]; simp; omega
    show decGo (b :: l).length (b :: l) = _
    rw [List.length_cons]
    unfold decGo
    dsimp only
    rw [if_neg (by simp [ho]), decGo_eq _ _ hd]
theorem dec_ok (s : List UInt8) : (∀ r ∈ (dec s).1, i32ok r) ∧ (dec s).1.length ≤ s.length ∧ (dec s).2.length ≤ 4 := by
  have key : ∀ (n : Nat) (s : List UInt8), s.length = n → (∀ r ∈ (dec s).1, i32ok r) ∧ (dec s).1.length ≤ s.length ∧ (dec s).2.length ≤ 4 := by
    intro n
    induction n using Nat.strongRecOn with
    | ind n ih =>
      intro s hs
      by_cases h : s = []
      · subst h; simp [dec_nil]
      have hf := first_ok s h
      cases ho : (first s).2.2 with
      | true => rw [dec_open h ho]; exact ⟨by simp, by simp, hf.2.2.2 ho⟩
      | false =>
        obtain ⟨a, b, c⟩ := ih _ (show (s.drop (first s).2.1).length < n by rw [List.length_drop]; omega) _ rfl
        rw [dec_step h ho]
        refine ⟨fun r hr => ?_, ?_, c⟩
        · rcases List.mem_cons.1 hr with rfl | hr
          · exact hf.1
          · exact a r hr
        · rw [List.length_drop] at b
          simp
          omega
  exact key _ s rfl
theorem dec_append (s t : List UInt8) : dec (s ++ t) = ((dec s).1 ++ (dec ((dec s).2 ++ t)).1, (dec ((dec s).2 ++ t)).2) := by
  have key : ∀ (n : Nat) (s : List UInt8), s.length = n → dec (s ++ t) = ((dec s).1 ++ (dec ((dec s).2 ++ t)).1, (dec ((dec s).2 ++ t)).2) := by
    intro n
    induction n using Nat.strongRecOn with
    | ind n ih =>
      intro s hs
      by_cases h : s = []
      · subst h; simp [dec_nil]
      have hf := first_ok s h
      cases ho : (first s).2.2 with
      | true => rw [dec_open h ho]; simp
      | false =>
        have hne : s ++ t ≠ [] := by simp [h]
        have hm := first_more s t h ho
        rw [dec_step hne (by rw [hm]; exact ho), hm, dec_step h ho, List.drop_append_of_le_length hf.2.2.1, ih _ (by rw [List.length_drop]; omega) _ rfl]
        rfl
  exact key _ s rfl
theorem dec_kept (s : List UInt8) : dec (dec s).2 = ([], (dec s).2) := by
  have key : ∀ (n : Nat) (s : List UInt8), s.length = n → dec (dec s).2 = ([], (dec s).2) := by
    intro n
    induction n using Nat.strongRecOn with
    | ind n ih =>
      intro s hs
      by_cases h : s = []
      · subst h; rfl
      have hf := first_ok s h
      cases ho : (first s).2.2 with
      | true => rw [dec_open h ho]; exact dec_open h ho
      | false =>
        rw [dec_step h ho]
        exact ih _ (by rw [List.length_drop]; omega) _ rfl
  exact key _ s rfl
structure Esc where
  inn : Int
  priv : Int
  mid : Int
  n : Int
  nums : List Int
def Esc.new : Esc := ⟨0, 0, 0, 0, [0, 0, 0, 0, 0, 0, 0, 0]⟩
structure Esc.ok (E : Esc) : Prop where
  len : E.nums.length = 8
  n0 : 0 ≤ E.n
  n9 : E.n ≤ 9
  k : ∀ x ∈ E.nums, 0 ≤ x ∧ x ≤ 9999
theorem Esc.new_ok : Esc.new.ok := ⟨rfl, by decide, by decide, by decide⟩
def actOf (kind r priv mid n : Int) (l : List Int) : Act' := ⟨kind, r, priv, mid, n, l.getD 0 0, l.getD 1 0, l.getD 2 0, l.getD 3 0, l.getD 4 0, l.getD 5 0, l.getD 6 0, l.getD 7 0⟩
def zeros8 : List Int := [0, 0, 0, 0, 0, 0, 0, 0]
def noA : Act' := ⟨0, 0, 0, 0, 0, 0, 0, 0, 0, 0, 0, 0, 0⟩
def Esc.escape (E : Esc) (r : Int) : Esc × Option Act' :=
  if r ≤ 47 ∧ E.mid = 0 then ({ E with mid := IntKind.u8.wrap r }, none)
  else if r ≤ 47 then ({ E with mid := 255 }, none)
  else if r = 91 ∧ E.mid = 0 then ({ Esc.new with inn := 2 }, none)
  else if (r = 80 ∨ r = 88 ∨ 93 ≤ r ∧ r ≤ 95) ∧ E.mid = 0 then ({ Esc.new with inn := 4 }, none)
  else if r ≤ 126 ∧ E.mid ≠ 255 then (Esc.new, some (actOf 3 r 0 E.mid 0 zeros8))
  else (Esc.new, none)
def Esc.control (E : Esc) (r : Int) : Esc × Option Act' :=
  if 48 ≤ r ∧ r ≤ 57 ∧ E.mid = 0 then
    (if max E.n 1 ≤ 8 then { E with n := max E.n 1, nums := E.nums.set (max E.n 1 - 1).toNat (min (E.nums.getD (max E.n 1 - 1).toNat 0 * 10 + (r - 48)) 9999) } else { E with n := max E.n 1 }, none)
  else if (r = 58 ∨ r = 59) ∧ E.mid = 0 then ({ E with n := min (max E.n 1 + 1) 9 }, none)
  else if 60 ≤ r ∧ r ≤ 63 ∧ E.priv = 0 ∧ E.mid = 0 ∧ E.n = 0 then ({ E with priv := IntKind.u8.wrap r }, none)
  else if r ≤ 47 ∧ E.mid = 0 then ({ E with mid := IntKind.u8.wrap r }, none)
  else if 64 ≤ r ∧ r ≤ 126 then (Esc.new, some (actOf 4 r E.priv E.mid (min E.n 8) E.nums))
  else ({ Esc.new with inn := 3 }, none)
def Esc.step (E : Esc) (r : Int) : Esc × Option Act' :=
  if r = 27 then ({ Esc.new with inn := 1 }, none)
  else if r = 24 ∨ r = 26 then (Esc.new, none)
  else if r < 0 ∨ 127 ≤ r ∧ r ≤ 159 ∨ 1114111 < r then (E, none)
  else if r < 32 ∧ E.inn = 4 then (if r = 7 then Esc.new else E, none)
  else if r < 32 then (E, some (actOf 2 r 0 0 0 zeros8))
  else if E.inn = 0 then (E, some (actOf 1 r 0 0 0 zeros8))
  else if E.inn = 1 then E.escape r
  else if E.inn = 2 then E.control r
  else if E.inn = 3 then (if 64 ≤ r ∧ r ≤ 126 then Esc.new else E, none)
  else (E, none)
def Esc.feed (E : Esc) : List Int → Esc × List Act'
  | [] => (E, [])
  | r :: l => ((Esc.feed (E.step r).1 l).1, (E.step r).2.toList ++ (Esc.feed (E.step r).1 l).2)
theorem Esc.feed_append (E : Esc) (l m : List Int) : E.feed (l ++ m) = (((E.feed l).1.feed m).1, (E.feed l).2 ++ ((E.feed l).1.feed m).2) := by
  induction l generalizing E with
  | nil => rfl
  | cons r l ih => simp only [List.cons_append, Esc.feed]; rw [ih]; simp
theorem act_fits {kind r priv mid n : Int} {l : List Int} (hr : i32ok r) (n0 : 0 ≤ n) (n1 : n ≤ 9) (hk : ∀ x ∈ l, 0 ≤ x ∧ x ≤ 9999) : (actOf kind r priv mid n l).fits := by
  have g : ∀ i, 0 ≤ l.getD i 0 ∧ l.getD i 0 ≤ 9999 := fun i => by
    rw [List.getD_eq_getElem?_getD]
    cases h : l[i]? with
    | none => simp
    | some x => exact hk x (List.mem_of_getElem? h)
  refine ⟨hr.1, hr.2, by unfold i64ok; show -9223372036854775808 ≤ n ∧ n ≤ 9223372036854775807; omega, fun x hx => ?_⟩
  have : ∃ i, x = l.getD i 0 := by
    simp only [Act'.nums, actOf, List.mem_cons, List.not_mem_nil, or_false] at hx
    rcases hx with rfl | rfl | rfl | rfl | rfl | rfl | rfl | rfl <;> exact ⟨_, rfl⟩
  obtain ⟨i, rfl⟩ := this
  have := g i
  unfold i64ok
  omega
theorem zeros8_ok : ∀ x ∈ zeros8, 0 ≤ x ∧ x ≤ 9999 := by decide
theorem Esc.step_ok {E : Esc} (h : E.ok) {r : Int} (hr : i32ok r) : (E.step r).1.ok ∧ ∀ a ∈ (E.step r).2.toList, a.fits := by
  have hn : ∀ i : Int, ({ Esc.new with inn := i } : Esc).ok := fun i => ⟨rfl, by show (0 : Int) ≤ 0; decide, by show (0 : Int) ≤ 9; decide, Esc.new_ok.k⟩
  unfold Esc.step
  split
  · exact ⟨hn 1, by simp⟩
  split
  · exact ⟨Esc.new_ok, by simp⟩
  split
  · exact ⟨h, by simp⟩
  split
  · refine ⟨?_, by simp⟩
    split
    · exact Esc.new_ok
    · exact h
  split
  · exact ⟨h, by simp; exact act_fits hr (by decide) (by decide) zeros8_ok⟩
  split
  · exact ⟨h, by simp; exact act_fits hr (by decide) (by decide) zeros8_ok⟩
  split
  · unfold Esc.escape
    split
    · exact ⟨⟨h.len, h.n0, h.n9, h.k⟩, by simp⟩
    split
    · exact ⟨⟨h.len, h.n0, h.n9, h.k⟩, by simp⟩
    split
    · exact ⟨hn 2, by simp⟩
    split
    · exact ⟨hn 4, by simp⟩
    split
    · exact ⟨Esc.new_ok, by simp; exact act_fits hr (by decide) (by decide) zeros8_ok⟩
    · exact ⟨Esc.new_ok, by simp⟩
  split
  · have n0 := h.n0
    have n9 := h.n9
    unfold Esc.control
    split
    · refine ⟨?_, by simp⟩
      split
      · rename_i hd h8
        refine ⟨by simp [h.len], by show 0 ≤ max E.n 1; omega, by show max E.n 1 ≤ 9; omega, fun x hx => ?_⟩
        rcases List.mem_or_eq_of_mem_set hx with hx | rfl
        · exact h.k x hx
        · have : 0 ≤ E.nums.getD (max E.n 1 - 1).toNat 0 := by
            rw [List.getD_eq_getElem?_getD]
            cases hg : E.nums[(max E.n 1 - 1).toNat]? with
            | none => simp
            | some y => exact (h.k y (List.mem_of_getElem? hg)).1
          omega
      · exact ⟨h.len, by show 0 ≤ max E.n 1; omega, by show max E.n 1 ≤ 9; omega, h.k⟩
    split
    · exact ⟨⟨h.len, by show 0 ≤ min (max E.n 1 + 1) 9; omega, by show min (max E.n 1 + 1) 9 ≤ 9; omega, h.k⟩, by simp⟩
    split
    · exact ⟨⟨h.len, h.n0, h.n9, h.k⟩, by simp⟩
    split
    · exact ⟨⟨h.len, h.n0, h.n9, h.k⟩, by simp⟩
    split
    · exact ⟨Esc.new_ok, by simp; exact act_fits hr (by omega) (by omega) h.k⟩
    · exact ⟨hn 3, by simp⟩
  split
  · refine ⟨?_, by simp⟩
    split
    · exact Esc.new_ok
    · exact h
  · exact ⟨h, by simp⟩
theorem Esc.feed_ok {E : Esc} (h : E.ok) : ∀ {l : List Int}, (∀ r ∈ l, i32ok r) → (E.feed l).1.ok ∧ (∀ a ∈ (E.feed l).2, a.fits) ∧ (E.feed l).2.length ≤ l.length := by
  intro l
  induction l generalizing E with
  | nil => intro _; exact ⟨h, by simp [Esc.feed], by simp [Esc.feed]⟩
  | cons r l ih =>
    intro hl
    have hs := Esc.step_ok h (hl r (by simp))
    obtain ⟨a, b, c⟩ := ih hs.1 (fun x hx => hl x (by simp [hx]))
    refine ⟨a, fun x hx => ?_, ?_⟩
    · rcases List.mem_append.1 hx with hx | hx
      · exact hs.2 x hx
      · exact b x hx
    · simp only [Esc.feed, List.length_append, List.length_cons]
      have : (E.step r).2.toList.length ≤ 1 := by cases (E.step r).2 <;> simp
      omega
end Lyc
namespace Go.Proofs.YtjfembffjjijaaaGreat
open Lyc Go
set_option maxRecDepth 100000
def screen_New (p0 p1 : Value) (K : Value → World → Prop) : World → Prop :=
  xC 32 [.const p0, .const p1] [3, 3] 38 fun t9 =>
  xA 38 fun t5 =>
  xS 38 t5 t9 <|
  xL 38 t5 fun t10 =>
  xC 33 [.const t10] [38] 4 fun t11 =>
  xN 4 t11 fun t12 =>
  xW t12
  (K (.pointer none)) <|
  OpX Tryz.prog (.build 76 #[(0, .const p0), (1, .const p1)]) 76 fun t15 =>
  OpX Tryz.prog (.box 76 (.const t15)) 29 fun t16 =>
  xC 34 [.const t16] [29] 0 fun _ =>
  K t16
theorem screen_New_link (p0 p1 : Value) : Lk 10 #[p0, p1] (screen_New p0 p1) := lk [p0, p1] [] Tryz.func10 (by kernel_rfl) fun _ _ => by kernel_rfl
theorem screen_New_b : Bodied Tryz.prog 10 := bd Tryz.func10 (by kernel_rfl)
def screen_Screen_Do (p0 p1 : Value) (K : Value → World → Prop) : World → Prop :=
  xC 36 [.const p0] [29] 4 fun t7 =>
  xW t7
  (K (.tuple #[])) <|
  xU p1 25 fun t9 =>
  Loop1 (.int .i64 0) fun t10 next1 =>
  xO .lss 3 t10 t9 fun t11 =>
  xW t11
  (Join0 (fun k2 =>
  xI 25 p1 t10 fun t12 =>
  xL 34 t12 fun t13 =>
  xA 34 fun t5 =>
  xS 34 t5 t13 <|
  xF 34 t5 0 fun t14 =>
  xL 3 t14 fun t15 =>
  xO .eql 3 t15 (.int .i64 1) fun t17 =>
  xW t17
  (xF 34 t5 1 fun t19 =>
  xL 21 t19 fun t20 =>
  xC 37 [.const p0, .const t20] [29, 21] 0 fun _ =>
  k2) <|
  xO .eql 3 t15 (.int .i64 2) fun t23 =>
  xW t23
  (xF 34 t5 1 fun t25 =>
  xL 21 t25 fun t26 =>
  xC 38 [.const p0, .const t26] [29, 21] 0 fun _ =>
  k2) <|
  xO .eql 3 t15 (.int .i64 3) fun t29 =>
  xW t29
  (xF 34 t5 3 fun t30 =>
  xL 5 t30 fun t31 =>
  xO .eql 5 t31 (.int .u8 0) fun t32 =>
  xW t32
  (xF 34 t5 1 fun t34 =>
  xL 21 t34 fun t35 =>
  xC 39 [.const p0, .const t35] [29, 21] 0 fun _ =>
  k2) <|
  k2) <|
  xO .eql 3 t15 (.int .i64 4) fun t38 =>
  xW t38
  (xL 34 t5 fun t40 =>
  xC 40 [.const p0, .const t40] [29, 34] 0 fun _ =>
  k2) <|
  k2) <|
  xO .add 3 t10 (.int .i64 1) fun t42 =>
  next1 t42) <|
  K (.tuple #[])
theorem screen_Screen_Do_link (p0 p1 : Value) : Lk 12 #[p0, p1] (screen_Screen_Do p0 p1) := lk [p0, p1] [(9, [10]), (16, [])] Tryz.func12 (by kernel_rfl) fun _ _ => by kernel_rfl
theorem screen_Screen_Do_b : Bodied Tryz.prog 12 := bd Tryz.func12 (by kernel_rfl)
def screen_Screen_Grid (p0 : Value) (K : Value → World → Prop) : World → Prop :=
  xA 38 fun t2 =>
  xC 36 [.const p0] [29] 4 fun t5 =>
  xW t5
  (OpX Tryz.prog (.build 38 #[]) 38 fun t6 =>
  xS 38 t2 t6 <|
  xD 38 t2 fun t2_1 =>
  K t2_1) <|
  DrewW <|
  xP (.nilCheck (.const p0)) 0 fun t9 =>
  qF 76 t9 4 fun t10 =>
  qL 3 t10 fun t11 =>
  xP (.nilCheck (.const p0)) 0 fun t12 =>
  qF 76 t12 2 fun t13 =>
  xP (.indexAddr 68 (.const t13) (.const t11)) 0 fun t14 =>
  qL 38 t14 fun t15 =>
  xA 38 fun t3 =>
  xT (qZ 38 t14 t15) <|
  xT (qZ 3 t10 t11) <|
  xS 38 t3 t15 <|
  xF 38 t3 2 fun t16 =>
  xL 36 t16 fun t17 =>
  xC 41 [.const t17] [36] 36 fun t18 =>
  xF 38 t3 2 fun t19 =>
  xS 36 t19 t18 <|
  xL 38 t3 fun t20 =>
  xS 38 t2 t20 <|
  xD 38 t2 fun t2_2 =>
  K t2_2
theorem screen_Screen_Grid_link (p0 : Value) : Lk 13 #[p0] (screen_Screen_Grid p0) := lk [p0] [] Tryz.func13 (by kernel_rfl) fun _ _ => by kernel_rfl
theorem screen_Screen_Grid_b : Bodied Tryz.prog 13 := bd Tryz.func13 (by kernel_rfl)
def screen_Screen_Cursor (p0 : Value) (K : Value → World → Prop) : World → Prop :=
  xC 36 [.const p0] [29] 4 fun t6 =>
  xW t6
  (K (.tuple #[(.int .i64 0), (.int .i64 0), (.bool false)])) <|
  DrewW <|
  xP (.nilCheck (.const p0)) 0 fun t8 =>
  qF 76 t8 5 fun t9 =>
  qF 72 t9 0 fun t10 =>
  qL 3 t10 fun t11 =>
  xP (.nilCheck (.const p0)) 0 fun t13 =>
  qF 76 t13 5 fun t14 =>
  qF 72 t14 1 fun t15 =>
  qL 3 t15 fun t16 =>
  xP (.nilCheck (.const p0)) 0 fun t18 =>
  qF 76 t18 11 fun t19 =>
  qL 4 t19 fun t20 =>
  K (.tuple #[t11, t16, t20])
theorem screen_Screen_Cursor_link (p0 : Value) : Lk 14 #[p0] (screen_Screen_Cursor p0) := lk [p0] [] Tryz.func14 (by kernel_rfl) fun _ _ => by kernel_rfl
theorem screen_Screen_Cursor_b : Bodied Tryz.prog 14 := bd Tryz.func14 (by kernel_rfl)
def screen_Screen_Gone (p0 : Value) (K : Value → World → Prop) : World → Prop :=
  xC 36 [.const p0] [29] 4 fun t5 =>
  xW t5
  (K (.slice none 0 0)) <|
  OpX Tryz.prog (.nilCheck (.const p0)) 0 fun t7 =>
  xF 76 t7 12 fun t8 =>
  xL 43 t8 fun t9 =>
  OpX Tryz.prog (.nilCheck (.const p0)) 0 fun t11 =>
  xF 76 t11 12 fun t12 =>
  xS 43 t12 (.slice none 0 0) <|
  K t9
theorem screen_Screen_Gone_link (p0 : Value) : Lk 16 #[p0] (screen_Screen_Gone p0) := lk [p0] [] Tryz.func16 (by kernel_rfl) fun _ _ => by kernel_rfl
theorem screen_Screen_Gone_b : Bodied Tryz.prog 16 := bd Tryz.func16 (by kernel_rfl)
def screen_Screen_renew (p0 : Value) (K : Value → World → Prop) : World → Prop :=
  DrewW <|
  xP (.nilCheck (.const p0)) 0 fun t6 =>
  qF 76 t6 0 fun t7 =>
  qL 3 t7 fun t8 =>
  xP (.nilCheck (.const p0)) 0 fun t10 =>
  qF 76 t10 1 fun t11 =>
  qL 3 t11 fun t12 =>
  xP (.nilCheck (.const p0)) 0 fun t14 =>
  qF 76 t14 1 fun t15 =>
  qL 3 t15 fun t16 =>
  xP (.nilCheck (.const p0)) 0 fun t18 =>
  qF 76 t18 12 fun t19 =>
  qL 43 t19 fun t20 =>
  OpX Tryz.prog (.build 76 #[(0, .const t8), (1, .const t12), (7, .const t16), (9, .const (.bool true)), (11, .const (.bool true)), (12, .const t20)]) 76 fun t21 =>
  xP (.nilCheck (.const p0)) 0 fun t22 =>
  xS 76 t22 t21 <|
  Loop1 (.int .i64 0) fun t23 next1 =>
  xO .lss 3 t23 (.int .i64 2) fun t24 =>
  xW t24
  (DrewW <|
  xP (.nilCheck (.const p0)) 0 fun t29 =>
  qF 76 t29 0 fun t30 =>
  qL 3 t30 fun t31 =>
  xP (.nilCheck (.const p0)) 0 fun t33 =>
  qF 76 t33 1 fun t34 =>
  qL 3 t34 fun t35 =>
  xP (.nilCheck (.const p0)) 0 fun t37 =>
  qF 76 t37 2 fun t38 =>
  xC 32 [.const t31, .const t35] [3, 3] 38 fun t36 =>
  xP (.indexAddr 68 (.const t38) (.const t23)) 0 fun t39 =>
  xS 38 t39 t36 <|
  xO .add 3 t23 (.int .i64 1) fun t40 =>
  next1 t40) <|
  Loop1 (.int .i64 8) fun t3 next2 =>
  xO .lss 3 t3 (.int .i64 200) fun t42 =>
  xW t42
  (OpX Tryz.prog (.nilCheck (.const p0)) 0 fun t47 =>
  xF 76 t47 8 fun t48 =>
  xI 74 t48 t3 fun t49 =>
  xS 4 t49 (.bool true) <|
  xO .add 3 t3 (.int .i64 8) fun t44 =>
  next2 t44) <|
  K (.tuple #[])
theorem screen_Screen_renew_link (p0 : Value) : Lk 34 #[p0] (screen_Screen_renew p0) := lk [p0] [(6, [23]), (22, [3])] Tryz.func34 (by kernel_rfl) fun _ _ => by kernel_rfl
theorem screen_Screen_renew_b : Bodied Tryz.prog 34 := bd Tryz.func34 (by kernel_rfl)
def screen_Screen_none (p0 : Value) (K : Value → World → Prop) : World → Prop :=
  Join1 (fun k1 =>
  xO .eql 29 p0 (.pointer none) fun t4 =>
  xW t4
  (k1 (.bool true)) <|
  OpX Tryz.prog (.nilCheck (.const p0)) 0 fun t7 =>
  xF 76 t7 0 fun t8 =>
  xL 3 t8 fun t9 =>
  xO .eql 3 t9 (.int .i64 0) fun t10 =>
  k1 t10) fun t2 =>
  K t2
theorem screen_Screen_none_link (p0 : Value) : Lk 36 #[p0] (screen_Screen_none p0) := lk [p0] [(3, [2])] Tryz.func36 (by kernel_rfl) fun _ _ => by kernel_rfl
theorem screen_Screen_none_b : Bodied Tryz.prog 36 := bd Tryz.func36 (by kernel_rfl)
def screen_Screen_print (p0 p1 : Value) (K : Value → World → Prop) : World → Prop :=
  xB 29 p0 fun t2 =>
  xB 21 p1 fun t3 =>
  xL 21 t3 fun t5 =>
  xC 67 [.const t5] [21] 3 fun t6 =>
  Join1 (fun k1 =>
  xO .eql 3 t6 (.int .i64 0) fun t8 =>
  xW t8
  (k1 (.bool true)) <|
  xL 29 t2 fun t11 =>
  OpX Tryz.prog (.nilCheck (.const t11)) 0 fun t12 =>
  xF 76 t12 0 fun t13 =>
  xL 3 t13 fun t14 =>
  xO .gtr 3 t6 t14 fun t15 =>
  k1 t15) fun t16 =>
  xW t16
  (K (.tuple #[])) <|
  Join0 (fun k2 =>
  xL 29 t2 fun t17 =>
  OpX Tryz.prog (.nilCheck (.const t17)) 0 fun t18 =>
  xF 76 t18 10 fun t19 =>
  xL 4 t19 fun t20 =>
  xW t20
  (xL 29 t2 fun t21 =>
  OpX Tryz.prog (.nilCheck (.const t21)) 0 fun t22 =>
  xF 76 t22 5 fun t23 =>
  xF 72 t23 0 fun t24 =>
  xS 3 t24 (.int .i64 0) <|
  xL 29 t2 fun t25 =>
  xC 68 [.const t25] [29] 0 fun _ =>
  k2) <|
  k2) <|
  Join0 (fun k3 =>
  DrewW <|
  qL 29 t2 fun t27 =>
  xP (.nilCheck (.const t27)) 0 fun t28 =>
  qF 76 t28 5 fun t29 =>
  qF 72 t29 0 fun t30 =>
  qL 3 t30 fun t31 =>
  qP .add 3 t31 t6 fun t33 =>
  qL 29 t2 fun t34 =>
  xP (.nilCheck (.const t34)) 0 fun t35 =>
  qF 76 t35 0 fun t36 =>
  qL 3 t36 fun t37 =>
  qP .gtr 3 t33 t37 fun t38 =>
  xW t38
  (xL 29 t2 fun t39 =>
  OpX Tryz.prog (.nilCheck (.const t39)) 0 fun t40 =>
  xF 76 t40 9 fun t41 =>
  xL 4 t41 fun t42 =>
  xW t42
  (xL 29 t2 fun t43 =>
  OpX Tryz.prog (.nilCheck (.const t43)) 0 fun t44 =>
  xF 76 t44 5 fun t45 =>
  xF 72 t45 0 fun t46 =>
  xS 3 t46 (.int .i64 0) <|
  xL 29 t2 fun t47 =>
  xC 68 [.const t47] [29] 0 fun _ =>
  k3) <|
  DrewW <|
  qL 29 t2 fun t49 =>
  qL 29 t2 fun t50 =>
  xP (.nilCheck (.const t50)) 0 fun t51 =>
  qF 76 t51 0 fun t52 =>
  qL 3 t52 fun t53 =>
  qP .sub 3 t53 t6 fun t55 =>
  xP (.nilCheck (.const t49)) 0 fun t56 =>
  qF 76 t56 5 fun t57 =>
  qF 72 t57 0 fun t58 =>
  xS 3 t58 t55 <|
  k3) <|
  k3) <|
  xL 29 t2 fun t59 =>
  OpX Tryz.prog (.makeFunc (.func 70) #[] #[.const t2, .const t3]) 111 fun t60 =>
  xC 69 [.const t59, .const t60] [29, 111] 0 fun _ =>
  xL 29 t2 fun t62 =>
  OpX Tryz.prog (.nilCheck (.const t62)) 0 fun t63 =>
  xF 76 t63 5 fun t64 =>
  xF 72 t64 0 fun t65 =>
  xL 3 t65 fun t66 =>
  xO .add 3 t66 t6 fun t68 =>
  OpX Tryz.prog (.nilCheck (.const t62)) 0 fun t69 =>
  xF 76 t69 5 fun t70 =>
  xF 72 t70 0 fun t71 =>
  xS 3 t71 t68 <|
  xL 29 t2 fun t72 =>
  OpX Tryz.prog (.nilCheck (.const t72)) 0 fun t73 =>
  xF 76 t73 10 fun t74 =>
  xS 4 t74 (.bool false) <|
  DrewW <|
  qL 29 t2 fun t75 =>
  xP (.nilCheck (.const t75)) 0 fun t76 =>
  qF 76 t76 5 fun t77 =>
  qF 72 t77 0 fun t78 =>
  qL 3 t78 fun t79 =>
  qL 29 t2 fun t80 =>
  xP (.nilCheck (.const t80)) 0 fun t81 =>
  qF 76 t81 0 fun t82 =>
  qL 3 t82 fun t83 =>
  qR .eql 3 t79 t83 fun t84 =>
  xW t84
  (DrewW <|
  qL 29 t2 fun t85 =>
  qL 29 t2 fun t86 =>
  xP (.nilCheck (.const t86)) 0 fun t87 =>
  qF 76 t87 0 fun t88 =>
  qL 3 t88 fun t89 =>
  qP .sub 3 t89 (.int .i64 1) fun t90 =>
  xP (.nilCheck (.const t85)) 0 fun t91 =>
  qF 76 t91 5 fun t92 =>
  qF 72 t92 0 fun t93 =>
  xS 3 t93 t90 <|
  DrewW <|
  qL 29 t2 fun t94 =>
  qL 29 t2 fun t95 =>
  xP (.nilCheck (.const t95)) 0 fun t96 =>
  qF 76 t96 9 fun t97 =>
  qL 4 t97 fun t98 =>
  xP (.nilCheck (.const t94)) 0 fun t99 =>
  qF 76 t99 10 fun t100 =>
  xS 4 t100 t98 <|
  K (.tuple #[])) <|
  K (.tuple #[])
theorem screen_Screen_print_link (p0 p1 : Value) : Lk 37 #[p0, p1] (screen_Screen_print p0 p1) := lk [p0, p1] [(6, [16]), (10, []), (18, [])] Tryz.func37 (by kernel_rfl) fun _ _ => by kernel_rfl
theorem screen_Screen_print_b : Bodied Tryz.prog 37 := bd Tryz.func37 (by kernel_rfl)
def screen_Screen_ctl (p0 p1 : Value) (K : Value → World → Prop) : World → Prop :=
  Join0 (fun k1 =>
  xO .eql 21 p1 (.int .i32 8) fun t7 =>
  xW t7
  (OpX Tryz.prog (.nilCheck (.const p0)) 0 fun t10 =>
  xF 76 t10 5 fun t11 =>
  xF 72 t11 0 fun t12 =>
  xL 3 t12 fun t13 =>
  xO .sub 3 t13 (.int .i64 1) fun t14 =>
  OpX Tryz.prog (.call { callee := .builtin .max, args := #[.const t14, .const (.int .i64 0)], argTypes := #[3, 3] }) 3 fun t15 =>
  OpX Tryz.prog (.nilCheck (.const p0)) 0 fun t16 =>
  xF 76 t16 5 fun t17 =>
  xF 72 t17 0 fun t18 =>
  xS 3 t18 t15 <|
  k1) <|
  xO .eql 21 p1 (.int .i32 9) fun t20 =>
  xW t20
  (OpX Tryz.prog (.nilCheck (.const p0)) 0 fun t22 =>
  xF 76 t22 5 fun t23 =>
  xF 72 t23 0 fun t24 =>
  xL 3 t24 fun t25 =>
  xO .add 3 t25 (.int .i64 1) fun t26 =>
  Loop1 t26 fun t4 next2 =>
  Join1 (fun k3 =>
  OpX Tryz.prog (.nilCheck (.const p0)) 0 fun t29 =>
  xF 76 t29 0 fun t30 =>
  xL 3 t30 fun t31 =>
  xO .lss 3 t4 t31 fun t32 =>
  xW t32
  (OpX Tryz.prog (.nilCheck (.const p0)) 0 fun t36 =>
  xF 76 t36 8 fun t37 =>
  xI 74 t37 t4 fun t38 =>
  xL 4 t38 fun t39 =>
  xN 4 t39 fun t40 =>
  k3 t40) <|
  k3 (.bool false)) fun t41 =>
  xW t41
  (xO .add 3 t4 (.int .i64 1) fun t43 =>
  next2 t43) <|
  OpX Tryz.prog (.nilCheck (.const p0)) 0 fun t47 =>
  xF 76 t47 0 fun t48 =>
  xL 3 t48 fun t49 =>
  xO .sub 3 t49 (.int .i64 1) fun t50 =>
  OpX Tryz.prog (.call { callee := .builtin .min, args := #[.const t4, .const t50], argTypes := #[3, 3] }) 3 fun t51 =>
  OpX Tryz.prog (.nilCheck (.const p0)) 0 fun t52 =>
  xF 76 t52 5 fun t53 =>
  xF 72 t53 0 fun t54 =>
  xS 3 t54 t51 <|
  k1) <|
  Join1 (fun k4 =>
  xO .eql 21 p1 (.int .i32 10) fun t56 =>
  xW t56
  (k4 (.bool true)) <|
  xO .eql 21 p1 (.int .i32 11) fun t57 =>
  xW t57
  (k4 (.bool true)) <|
  xO .eql 21 p1 (.int .i32 12) fun t58 =>
  k4 t58) fun t55 =>
  xW t55
  (xC 68 [.const p0] [29] 0 fun _ =>
  k1) <|
  xO .eql 21 p1 (.int .i32 13) fun t62 =>
  xW t62
  (OpX Tryz.prog (.nilCheck (.const p0)) 0 fun t64 =>
  xF 76 t64 5 fun t65 =>
  xF 72 t65 0 fun t66 =>
  xS 3 t66 (.int .i64 0) <|
  k1) <|
  K (.tuple #[])) <|
  OpX Tryz.prog (.nilCheck (.const p0)) 0 fun t68 =>
  xF 76 t68 10 fun t69 =>
  xS 4 t69 (.bool false) <|
  K (.tuple #[])
theorem screen_Screen_ctl_link (p0 p1 : Value) : Lk 38 #[p0, p1] (screen_Screen_ctl p0 p1) := lk [p0, p1] [(0, []), (15, [4]), (18, [41]), (25, [55])] Tryz.func38 (by kernel_rfl) fun _ _ => by kernel_rfl
theorem screen_Screen_ctl_b : Bodied Tryz.prog 38 := bd Tryz.func38 (by kernel_rfl)
def screen_Screen_esc (p0 p1 : Value) (K : Value → World → Prop) : World → Prop :=
  Join0 (fun k1 =>
  Join0 (fun k2 =>
  xO .eql 21 p1 (.int .i32 55) fun t6 =>
  xW t6
  (xC 73 [.const p0] [29] 0 fun _ =>
  K (.tuple #[])) <|
  xO .eql 21 p1 (.int .i32 72) fun t8 =>
  xW t8
  (DrewW <|
  xP (.nilCheck (.const p0)) 0 fun t23 =>
  qF 76 t23 5 fun t24 =>
  qF 72 t24 0 fun t25 =>
  qL 3 t25 fun t26 =>
  xP (.nilCheck (.const p0)) 0 fun t27 =>
  qF 76 t27 8 fun t28 =>
  xP (.indexAddr 74 (.const t28) (.const t26)) 0 fun t29 =>
  xS 4 t29 (.bool true) <|
  K (.tuple #[])) <|
  xO .eql 21 p1 (.int .i32 69) fun t10 =>
  xW t10
  (OpX Tryz.prog (.nilCheck (.const p0)) 0 fun t31 =>
  xF 76 t31 5 fun t32 =>
  xF 72 t32 0 fun t33 =>
  xS 3 t33 (.int .i64 0) <|
  k2) <|
  xO .eql 21 p1 (.int .i32 68) fun t12 =>
  xW t12
  (k2) <|
  xO .eql 21 p1 (.int .i32 77) fun t14 =>
  xW t14
  (xC 74 [.const p0] [29] 0 fun _ =>
  k1) <|
  xO .eql 21 p1 (.int .i32 56) fun t16 =>
  xW t16
  (xC 75 [.const p0] [29] 0 fun _ =>
  k1) <|
  xO .eql 21 p1 (.int .i32 99) fun t18 =>
  xW t18
  (xC 34 [.const p0] [29] 0 fun _ =>
  k1) <|
  K (.tuple #[])) <|
  xC 68 [.const p0] [29] 0 fun _ =>
  k1) <|
  OpX Tryz.prog (.nilCheck (.const p0)) 0 fun t43 =>
  xF 76 t43 10 fun t44 =>
  xS 4 t44 (.bool false) <|
  K (.tuple #[])
theorem screen_Screen_esc_link (p0 p1 : Value) : Lk 39 #[p0, p1] (screen_Screen_esc p0 p1) := lk [p0, p1] [(3, []), (13, [])] Tryz.func39 (by kernel_rfl) fun _ _ => by kernel_rfl
theorem screen_Screen_esc_b : Bodied Tryz.prog 39 := bd Tryz.func39 (by kernel_rfl)
def screen_Screen_csi (p0 p1 : Value) (K : Value → World → Prop) : World → Prop :=
  xB 34 p1 fun t3 =>
  Join1 (fun k1 =>
  xF 34 t3 2 fun t7 =>
  xL 5 t7 fun t8 =>
  xO .eql 5 t8 (.int .u8 63) fun t9 =>
  xW t9
  (xF 34 t3 3 fun t11 =>
  xL 5 t11 fun t12 =>
  xO .eql 5 t12 (.int .u8 0) fun t13 =>
  xW t13
  (xF 34 t3 1 fun t16 =>
  xL 21 t16 fun t17 =>
  xO .eql 21 t17 (.int .i32 104) fun t18 =>
  xW t18
  (k1 (.bool true)) <|
  xF 34 t3 1 fun t20 =>
  xL 21 t20 fun t21 =>
  xO .eql 21 t21 (.int .i32 108) fun t22 =>
  k1 t22) <|
  k1 (.bool false)) <|
  k1 (.bool false)) fun t6 =>
  xW t6
  (xF 34 t3 5 fun t25 =>
  xF 34 t3 4 fun t26 =>
  xL 3 t26 fun t27 =>
  OpX Tryz.prog (.call { callee := .builtin .max, args := #[.const t27, .const (.int .i64 0)], argTypes := #[3, 3] }) 3 fun t28 =>
  OpX Tryz.prog (.call { callee := .builtin .min, args := #[.const t28, .const (.int .i64 8)], argTypes := #[3, 3] }) 3 fun t29 =>
  OpX Tryz.prog (.slice 32 (.const t25) none (some (.const t29)) none) 52 fun t30 =>
  xU t30 52 fun t31 =>
  Loop1 (.int .i64 0) fun t32 next2 =>
  xO .lss 3 t32 t31 fun t33 =>
  xW t33
  (xI 52 t30 t32 fun t34 =>
  xL 3 t34 fun t35 =>
  xF 34 t3 1 fun t38 =>
  xL 21 t38 fun t39 =>
  xO .eql 21 t39 (.int .i32 104) fun t40 =>
  xC 76 [.const p0, .const t35, .const t40] [29, 3, 4] 0 fun _ =>
  xO .add 3 t32 (.int .i64 1) fun t42 =>
  next2 t42) <|
  K (.tuple #[])) <|
  Join1 (fun k3 =>
  xF 34 t3 2 fun t44 =>
  xL 5 t44 fun t45 =>
  xO .neq 5 t45 (.int .u8 0) fun t46 =>
  xW t46
  (k3 (.bool true)) <|
  xF 34 t3 3 fun t48 =>
  xL 5 t48 fun t49 =>
  xO .neq 5 t49 (.int .u8 0) fun t50 =>
  k3 t50) fun t43 =>
  xW t43
  (K (.tuple #[])) <|
  xL 34 t3 fun t54 =>
  xC 77 [.const p0, .const t54] [29, 34] 4 fun t55 =>
  xW t55
  (K (.tuple #[])) <|
  Join1 (fun k4 =>
  xL 34 t3 fun t58 =>
  xC 78 [.const p0, .const t58] [29, 34] 4 fun t59 =>
  xW t59
  (k4 (.bool true)) <|
  xL 34 t3 fun t62 =>
  xC 79 [.const p0, .const t62] [29, 34] 4 fun t63 =>
  k4 t63) fun t56 =>
  xW t56
  (OpX Tryz.prog (.nilCheck (.const p0)) 0 fun t66 =>
  xF 76 t66 10 fun t67 =>
  xS 4 t67 (.bool false) <|
  K (.tuple #[])) <|
  K (.tuple #[])
theorem screen_Screen_csi_link (p0 p1 : Value) : Lk 40 #[p0, p1] (screen_Screen_csi p0 p1) := lk [p0, p1] [(4, [6]), (9, [32]), (23, [43]), (31, [56])] Tryz.func40 (by kernel_rfl) fun _ _ => by kernel_rfl
theorem screen_Screen_csi_b : Bodied Tryz.prog 40 := bd Tryz.func40 (by kernel_rfl)
def screen_Screen_Resize (p0 p1 p2 : Value) (K : Value → World → Prop) : World → Prop :=
  Join1 (fun k1 =>
  xC 36 [.const p0] [29] 4 fun t9 =>
  xW t9
  (k1 (.bool true)) <|
  xC 32 [.const p1, .const p2] [3, 3] 38 fun t13 =>
  xC 33 [.const t13] [38] 4 fun t14 =>
  xN 4 t14 fun t15 =>
  k1 t15) fun t16 =>
  xW t16
  (K (.bool false)) <|
  OpX Tryz.prog (.nilCheck (.const p0)) 0 fun t21 =>
  xF 76 t21 0 fun t22 =>
  xS 3 t22 p1 <|
  OpX Tryz.prog (.nilCheck (.const p0)) 0 fun t23 =>
  xF 76 t23 1 fun t24 =>
  xS 3 t24 p2 <|
  OpX Tryz.prog (.nilCheck (.const p0)) 0 fun t28 =>
  xF 76 t28 6 fun t29 =>
  xS 3 t29 (.int .i64 0) <|
  OpX Tryz.prog (.nilCheck (.const p0)) 0 fun t30 =>
  xF 76 t30 7 fun t31 =>
  xS 3 t31 p2 <|
  Loop1 (.int .i64 0) fun t32 next2 =>
  xO .lss 3 t32 (.int .i64 2) fun t33 =>
  xW t33
  (DrewW <|
  xP (.nilCheck (.const p0)) 0 fun t39 =>
  qF 76 t39 2 fun t40 =>
  xP (.indexAddr 68 (.const t40) (.const t32)) 0 fun t41 =>
  qL 38 t41 fun t42 =>
  xP (.nilCheck (.const p0)) 0 fun t47 =>
  qF 76 t47 2 fun t48 =>
  xC 64 [] [] 70 fun t45 =>
  xT (qZ 38 t41 t42) <|
  xC 96 [.const t42, .const p1, .const p2, .const t45] [38, 3, 3, 70] 38 fun t46 =>
  xP (.indexAddr 68 (.const t48) (.const t32)) 0 fun t49 =>
  xS 38 t49 t46 <|
  DrewW <|
  xP (.nilCheck (.const p0)) 0 fun t58 =>
  qF 76 t58 3 fun t59 =>
  xP (.indexAddr 73 (.const t59) (.const t32)) 0 fun t60 =>
  qF 72 t60 0 fun t61 =>
  qL 3 t61 fun t62 =>
  xP (.nilCheck (.const p0)) 0 fun t65 =>
  qF 76 t65 3 fun t66 =>
  xP (.indexAddr 73 (.const t66) (.const t32)) 0 fun t67 =>
  qF 72 t67 1 fun t68 =>
  qL 3 t68 fun t69 =>
  xP (.nilCheck (.const p0)) 0 fun t73 =>
  qF 76 t73 3 fun t74 =>
  xP (.nilCheck (.const p0)) 0 fun t77 =>
  qF 76 t77 3 fun t78 =>
  xC 97 [.const p0, .const t62, .const t69] [29, 3, 3] 27 fun t70 =>
  xP (.extract (.const t70) 0) 3 fun t71 =>
  xP (.extract (.const t70) 1) 3 fun t72 =>
  xP (.indexAddr 73 (.const t74) (.const t32)) 0 fun t75 =>
  qF 72 t75 0 fun t76 =>
  xS 3 t76 t71 <|
  xP (.indexAddr 73 (.const t78) (.const t32)) 0 fun t79 =>
  qF 72 t79 1 fun t80 =>
  xS 3 t80 t72 <|
  xO .add 3 t32 (.int .i64 1) fun t81 =>
  next2 t81) <|
  DrewW <|
  xP (.nilCheck (.const p0)) 0 fun t84 =>
  qF 76 t84 5 fun t85 =>
  qF 72 t85 0 fun t86 =>
  qL 3 t86 fun t87 =>
  xP (.nilCheck (.const p0)) 0 fun t89 =>
  qF 76 t89 5 fun t90 =>
  qF 72 t90 1 fun t91 =>
  qL 3 t91 fun t92 =>
  xC 98 [.const p0, .const t87, .const t92] [29, 3, 3] 0 fun _ =>
  OpX Tryz.prog (.nilCheck (.const p0)) 0 fun t95 =>
  xF 76 t95 10 fun t96 =>
  xS 4 t96 (.bool false) <|
  K (.bool true)
theorem screen_Screen_Resize_link (p0 p1 p2 : Value) : Lk 61 #[p0, p1, p2] (screen_Screen_Resize p0 p1 p2) := lk [p0, p1, p2] [(4, [16]), (18, [32])] Tryz.func61 (by kernel_rfl) fun _ _ => by kernel_rfl
theorem screen_Screen_Resize_b : Bodied Tryz.prog 61 := bd Tryz.func61 (by kernel_rfl)
def screen_Screen_below (p0 : Value) (K : Value → World → Prop) : World → Prop :=
  DrewW <|
  xP (.nilCheck (.const p0)) 0 fun t4 =>
  qF 76 t4 5 fun t5 =>
  qF 72 t5 1 fun t6 =>
  qL 3 t6 fun t7 =>
  xP (.nilCheck (.const p0)) 0 fun t9 =>
  qF 76 t9 7 fun t10 =>
  qL 3 t10 fun t11 =>
  qP .sub 3 t11 (.int .i64 1) fun t12 =>
  qR .eql 3 t7 t12 fun t13 =>
  xW t13
  (xC 104 [.const p0, .const (.int .i64 1)] [29, 3] 0 fun _ =>
  K (.tuple #[])) <|
  DrewW <|
  xP (.nilCheck (.const p0)) 0 fun t18 =>
  qF 76 t18 5 fun t19 =>
  qF 72 t19 1 fun t20 =>
  qL 3 t20 fun t21 =>
  xP (.nilCheck (.const p0)) 0 fun t23 =>
  qF 76 t23 1 fun t24 =>
  qL 3 t24 fun t25 =>
  qP .sub 3 t25 (.int .i64 1) fun t26 =>
  qP .lss 3 t21 t26 fun t27 =>
  xW t27
  (OpX Tryz.prog (.nilCheck (.const p0)) 0 fun t29 =>
  xF 76 t29 5 fun t30 =>
  xF 72 t30 1 fun t31 =>
  xL 3 t31 fun t32 =>
  xO .add 3 t32 (.int .i64 1) fun t33 =>
  OpX Tryz.prog (.nilCheck (.const p0)) 0 fun t34 =>
  xF 76 t34 5 fun t35 =>
  xF 72 t35 1 fun t36 =>
  xS 3 t36 t33 <|
  K (.tuple #[])) <|
  K (.tuple #[])
theorem screen_Screen_below_link (p0 : Value) : Lk 68 #[p0] (screen_Screen_below p0) := lk [p0] [] Tryz.func68 (by kernel_rfl) fun _ _ => by kernel_rfl
theorem screen_Screen_below_b : Bodied Tryz.prog 68 := bd Tryz.func68 (by kernel_rfl)
def screen_Screen_line (p0 p1 : Value) (K : Value → World → Prop) : World → Prop :=
  DrewW <|
  xP (.nilCheck (.const p0)) 0 fun t8 =>
  qF 76 t8 5 fun t9 =>
  qF 72 t9 1 fun t10 =>
  qL 3 t10 fun t11 =>
  xP (.nilCheck (.const p0)) 0 fun t13 =>
  qF 76 t13 0 fun t14 =>
  qL 3 t14 fun t15 =>
  qP .mul 3 t11 t15 fun t16 =>
  DrewW <|
  xP (.nilCheck (.const p0)) 0 fun t19 =>
  qF 76 t19 4 fun t20 =>
  qL 3 t20 fun t21 =>
  xP (.nilCheck (.const p0)) 0 fun t22 =>
  qF 76 t22 2 fun t23 =>
  xP (.indexAddr 68 (.const t23) (.const t21)) 0 fun t24 =>
  qF 38 t24 2 fun t25 =>
  qL 36 t25 fun t26 =>
  xP (.nilCheck (.const p0)) 0 fun t30 =>
  qF 76 t30 0 fun t31 =>
  qL 3 t31 fun t32 =>
  qP .add 3 t16 t32 fun t33 =>
  xP (.nilCheck (.const p0)) 0 fun t36 =>
  qF 76 t36 0 fun t37 =>
  qL 3 t37 fun t38 =>
  qP .add 3 t16 t38 fun t39 =>
  xP (.slice 36 (.const t26) (some (.const t16)) (some (.const t33)) (some (.const t39))) 36 fun t40 =>
  OpX Tryz.prog (.nilCheck (.const p0)) 0 fun t43 =>
  xF 76 t43 0 fun t44 =>
  xL 3 t44 fun t45 =>
  OpX Tryz.prog (.build 38 #[(0, .const t45), (1, .const (.int .i64 1)), (2, .const t40)]) 38 fun t47 =>
  OpX Tryz.prog (.call { callee := .value (.const p1), args := #[.const t47], argTypes := #[38] }) 38 fun t48 =>
  xA 38 fun t6 =>
  xS 38 t6 t48 <|
  xF 38 t6 2 fun t50 =>
  xL 36 t50 fun t51 =>
  OpX Tryz.prog (.call { callee := .builtin .copy, args := #[.const t40, .const t51], argTypes := #[36, 36] }) 3 fun _ =>
  K (.tuple #[])
theorem screen_Screen_line_link (p0 p1 : Value) : Lk 69 #[p0, p1] (screen_Screen_line p0 p1) := lk [p0, p1] [] Tryz.func69 (by kernel_rfl) fun _ _ => by kernel_rfl
theorem screen_Screen_line_b : Bodied Tryz.prog 69 := bd Tryz.func69 (by kernel_rfl)
def screen_Screen_print_1 (p0 p1 p2 : Value) (K : Value → World → Prop) : World → Prop :=
  xB 38 p0 fun t3 =>
  xA 38 fun t4 =>
  DrewW <|
  qL 38 t3 fun t5 =>
  qL 29 p1 fun t6 =>
  xP (.nilCheck (.const t6)) 0 fun t7 =>
  qF 76 t7 5 fun t8 =>
  qF 72 t8 0 fun t9 =>
  qL 3 t9 fun t10 =>
  qL 21 p2 fun t11 =>
  qL 29 p1 fun t12 =>
  xP (.nilCheck (.const t12)) 0 fun t13 =>
  qF 76 t13 5 fun t14 =>
  qF 72 t14 2 fun t15 =>
  qL 70 t15 fun t16 =>
  xC 72 [.const t11, .const t16] [21, 70] 36 fun t17 =>
  xT (qZ 3 t9 t10) <|
  xT (qZ 29 p1 t6) <|
  xT (qZ 38 t3 t5) <|
  xC 71 [.const t5, .const t10, .const (.int .i64 0), .const t17] [38, 3, 3, 36] 38 fun t18 =>
  xS 38 t4 t18 <|
  xD 38 t4 fun t4_1 =>
  K t4_1
theorem screen_Screen_print_1_link (p0 p1 p2 : Value) : Lk 70 #[p0, p1, p2] (screen_Screen_print_1 p0 p1 p2) := lk [p0, p1, p2] [] Tryz.func70 (by kernel_rfl) fun _ _ => by kernel_rfl
theorem screen_Screen_print_1_b : Bodied Tryz.prog 70 := bd Tryz.func70 (by kernel_rfl)
def screen_Screen_save (p0 : Value) (K : Value → World → Prop) : World → Prop :=
  DrewW <|
  xP (.nilCheck (.const p0)) 0 fun t4 =>
  qF 76 t4 4 fun t5 =>
  qL 3 t5 fun t6 =>
  xP (.nilCheck (.const p0)) 0 fun t8 =>
  qF 76 t8 5 fun t9 =>
  qL 72 t9 fun t10 =>
  xP (.nilCheck (.const p0)) 0 fun t11 =>
  qF 76 t11 3 fun t12 =>
  xP (.indexAddr 73 (.const t12) (.const t6)) 0 fun t13 =>
  xS 72 t13 t10 <|
  K (.tuple #[])
theorem screen_Screen_save_link (p0 : Value) : Lk 73 #[p0] (screen_Screen_save p0) := lk [p0] [] Tryz.func73 (by kernel_rfl) fun _ _ => by kernel_rfl
theorem screen_Screen_save_b : Bodied Tryz.prog 73 := bd Tryz.func73 (by kernel_rfl)
def screen_Screen_above (p0 : Value) (K : Value → World → Prop) : World → Prop :=
  DrewW <|
  xP (.nilCheck (.const p0)) 0 fun t4 =>
  qF 76 t4 5 fun t5 =>
  qF 72 t5 1 fun t6 =>
  qL 3 t6 fun t7 =>
  xP (.nilCheck (.const p0)) 0 fun t9 =>
  qF 76 t9 6 fun t10 =>
  qL 3 t10 fun t11 =>
  qR .eql 3 t7 t11 fun t12 =>
  xW t12
  (OpX Tryz.prog (.nilCheck (.const p0)) 0 fun t15 =>
  xF 76 t15 6 fun t16 =>
  xL 3 t16 fun t17 =>
  xC 109 [.const p0, .const t17, .const (.int .i64 (-1))] [29, 3, 3] 0 fun _ =>
  K (.tuple #[])) <|
  OpX Tryz.prog (.nilCheck (.const p0)) 0 fun t21 =>
  xF 76 t21 5 fun t22 =>
  xF 72 t22 1 fun t23 =>
  xL 3 t23 fun t24 =>
  xO .gtr 3 t24 (.int .i64 0) fun t25 =>
  xW t25
  (OpX Tryz.prog (.nilCheck (.const p0)) 0 fun t27 =>
  xF 76 t27 5 fun t28 =>
  xF 72 t28 1 fun t29 =>
  xL 3 t29 fun t30 =>
  xO .sub 3 t30 (.int .i64 1) fun t31 =>
  OpX Tryz.prog (.nilCheck (.const p0)) 0 fun t32 =>
  xF 76 t32 5 fun t33 =>
  xF 72 t33 1 fun t34 =>
  xS 3 t34 t31 <|
  K (.tuple #[])) <|
  K (.tuple #[])
theorem screen_Screen_above_link (p0 : Value) : Lk 74 #[p0] (screen_Screen_above p0) := lk [p0] [] Tryz.func74 (by kernel_rfl) fun _ _ => by kernel_rfl
theorem screen_Screen_above_b : Bodied Tryz.prog 74 := bd Tryz.func74 (by kernel_rfl)
def screen_Screen_restore (p0 : Value) (K : Value → World → Prop) : World → Prop :=
  DrewW <|
  xP (.nilCheck (.const p0)) 0 fun t5 =>
  qF 76 t5 4 fun t6 =>
  qL 3 t6 fun t7 =>
  xP (.nilCheck (.const p0)) 0 fun t8 =>
  qF 76 t8 3 fun t9 =>
  xP (.indexAddr 73 (.const t9) (.const t7)) 0 fun t10 =>
  qL 72 t10 fun t11 =>
  xP (.nilCheck (.const p0)) 0 fun t12 =>
  qF 76 t12 5 fun t13 =>
  xS 72 t13 t11 <|
  OpX Tryz.prog (.nilCheck (.const p0)) 0 fun t15 =>
  xF 76 t15 10 fun t16 =>
  xS 4 t16 (.bool false) <|
  K (.tuple #[])
theorem screen_Screen_restore_link (p0 : Value) : Lk 75 #[p0] (screen_Screen_restore p0) := lk [p0] [] Tryz.func75 (by kernel_rfl) fun _ _ => by kernel_rfl
theorem screen_Screen_restore_b : Bodied Tryz.prog 75 := bd Tryz.func75 (by kernel_rfl)
def screen_Screen_mode (p0 p1 p2 : Value) (K : Value → World → Prop) : World → Prop :=
  xO .eql 3 p1 (.int .i64 7) fun t8 =>
  xW t8
  (OpX Tryz.prog (.nilCheck (.const p0)) 0 fun t11 =>
  xF 76 t11 9 fun t12 =>
  xS 4 t12 p2 <|
  Join0 (fun k1 =>
  OpX Tryz.prog (.nilCheck (.const p0)) 0 fun t15 =>
  xF 76 t15 10 fun t16 =>
  xL 4 t16 fun t17 =>
  xW t17
  (OpX Tryz.prog (.nilCheck (.const p0)) 0 fun t21 =>
  xF 76 t21 10 fun t22 =>
  xS 4 t22 p2 <|
  k1) <|
  OpX Tryz.prog (.nilCheck (.const p0)) 0 fun t21_1 =>
  xF 76 t21_1 10 fun t22_1 =>
  xS 4 t22_1 (.bool false) <|
  k1) <|
  K (.tuple #[])) <|
  xO .eql 3 p1 (.int .i64 25) fun t24 =>
  xW t24
  (OpX Tryz.prog (.nilCheck (.const p0)) 0 fun t27 =>
  xF 76 t27 11 fun t28 =>
  xS 4 t28 p2 <|
  K (.tuple #[])) <|
  Join1 (fun k2 =>
  xO .eql 3 p1 (.int .i64 47) fun t30 =>
  xW t30
  (k2 (.bool true)) <|
  xO .eql 3 p1 (.int .i64 1047) fun t31 =>
  xW t31
  (k2 (.bool true)) <|
  xO .eql 3 p1 (.int .i64 1049) fun t32 =>
  k2 t32) fun t29 =>
  xW t29
  (Join1 (fun k3 =>
  xW p2
  (OpX Tryz.prog (.nilCheck (.const p0)) 0 fun t37 =>
  xF 76 t37 4 fun t38 =>
  xL 3 t38 fun t39 =>
  xO .eql 3 t39 (.int .i64 0) fun t40 =>
  k3 t40) <|
  k3 (.bool false)) fun t33 =>
  xW t33
  (xC 73 [.const p0] [29] 0 fun _ =>
  OpX Tryz.prog (.nilCheck (.const p0)) 0 fun t45 =>
  xF 76 t45 4 fun t46 =>
  xS 3 t46 (.int .i64 1) <|
  DrewW <|
  xP (.nilCheck (.const p0)) 0 fun t49 =>
  qF 76 t49 0 fun t50 =>
  qL 3 t50 fun t51 =>
  xP (.nilCheck (.const p0)) 0 fun t53 =>
  qF 76 t53 1 fun t54 =>
  qL 3 t54 fun t55 =>
  xP (.nilCheck (.const p0)) 0 fun t57 =>
  qF 76 t57 2 fun t58 =>
  xC 32 [.const t51, .const t55] [3, 3] 38 fun t56 =>
  xP (.indexAddr 68 (.const t58) (.const (.int .i64 1))) 0 fun t59 =>
  xS 38 t59 t56 <|
  OpX Tryz.prog (.nilCheck (.const p0)) 0 fun t61 =>
  xF 76 t61 10 fun t62 =>
  xS 4 t62 (.bool false) <|
  K (.tuple #[])) <|
  Join1 (fun k4 =>
  xN 4 p2 fun t65 =>
  xW t65
  (OpX Tryz.prog (.nilCheck (.const p0)) 0 fun t68 =>
  xF 76 t68 4 fun t69 =>
  xL 3 t69 fun t70 =>
  xO .eql 3 t70 (.int .i64 1) fun t71 =>
  k4 t71) <|
  k4 (.bool false)) fun t63 =>
  xW t63
  (OpX Tryz.prog (.nilCheck (.const p0)) 0 fun t74 =>
  xF 76 t74 4 fun t75 =>
  xS 3 t75 (.int .i64 0) <|
  xC 75 [.const p0] [29] 0 fun _ =>
  K (.tuple #[])) <|
  K (.tuple #[])) <|
  K (.tuple #[])
theorem screen_Screen_mode_link (p0 p1 p2 : Value) : Lk 76 #[p0, p1, p2] (screen_Screen_mode p0 p1 p2) := lk [p0, p1, p2] [(8, []), (13, [29]), (26, [33]), (36, [63])] Tryz.func76 (by kernel_rfl) fun _ _ => by kernel_rfl
theorem screen_Screen_mode_b : Bodied Tryz.prog 76 := bd Tryz.func76 (by kernel_rfl)
def screen_Screen_set (p0 p1 : Value) (K : Value → World → Prop) : World → Prop :=
  xB 34 p1 fun t3 =>
  Join0 (fun k1 =>
  xF 34 t3 1 fun t5 =>
  xL 21 t5 fun t6 =>
  xO .eql 21 t6 (.int .i32 109) fun t8 =>
  xW t8
  (DrewW <|
  xP (.nilCheck (.const p0)) 0 fun t11 =>
  qF 76 t11 5 fun t12 =>
  qF 72 t12 2 fun t13 =>
  qL 70 t13 fun t14 =>
  qL 34 t3 fun t15 =>
  xC 110 [.const t14, .const t15] [70, 34] 70 fun t16 =>
  xP (.nilCheck (.const p0)) 0 fun t17 =>
  qF 76 t17 5 fun t18 =>
  qF 72 t18 2 fun t19 =>
  xS 70 t19 t16 <|
  k1) <|
  xO .eql 21 t6 (.int .i32 103) fun t21 =>
  xW t21
  (xL 34 t3 fun t22 =>
  xC 111 [.const t22, .const (.int .i64 0), .const (.int .i64 0)] [34, 3, 3] 3 fun t23 =>
  xO .eql 3 t23 (.int .i64 0) fun t25 =>
  xW t25
  (DrewW <|
  xP (.nilCheck (.const p0)) 0 fun t28 =>
  qF 76 t28 5 fun t29 =>
  qF 72 t29 0 fun t30 =>
  qL 3 t30 fun t31 =>
  xP (.nilCheck (.const p0)) 0 fun t32 =>
  qF 76 t32 8 fun t33 =>
  xP (.indexAddr 74 (.const t33) (.const t31)) 0 fun t34 =>
  xS 4 t34 (.bool false) <|
  k1) <|
  xO .eql 3 t23 (.int .i64 3) fun t36 =>
  xW t36
  (OpX Tryz.prog (.build 74 #[]) 74 fun t38 =>
  OpX Tryz.prog (.nilCheck (.const p0)) 0 fun t39 =>
  xF 76 t39 8 fun t40 =>
  xS 74 t40 t38 <|
  k1) <|
  k1) <|
  xO .eql 21 t6 (.int .i32 115) fun t42 =>
  xW t42
  (xC 73 [.const p0] [29] 0 fun _ =>
  k1) <|
  K (.bool false)) <|
  K (.bool true)
theorem screen_Screen_set_link (p0 p1 : Value) : Lk 77 #[p0, p1] (screen_Screen_set p0 p1) := lk [p0, p1] [(2, [])] Tryz.func77 (by kernel_rfl) fun _ _ => by kernel_rfl
theorem screen_Screen_set_b : Bodied Tryz.prog 77 := bd Tryz.func77 (by kernel_rfl)
def screen_Screen_moved (p0 p1 : Value) (K : Value → World → Prop) : World → Prop :=
  xB 34 p1 fun t3 =>
  xL 34 t3 fun t8 =>
  xC 111 [.const t8, .const (.int .i64 0), .const (.int .i64 1)] [34, 3, 3] 3 fun t9 =>
  OpX Tryz.prog (.call { callee := .builtin .min, args := #[.const t9, .const (.int .i64 9999)], argTypes := #[3, 3] }) 3 fun t10 =>
  xF 34 t3 1 fun t11 =>
  xL 21 t11 fun t12 =>
  Join0 (fun k1 =>
  Join0 (fun k2 =>
  Join0 (fun k3 =>
  xO .eql 21 t12 (.int .i32 70) fun t14 =>
  xW t14
  (OpX Tryz.prog (.nilCheck (.const p0)) 0 fun t36 =>
  xF 76 t36 5 fun t37 =>
  xF 72 t37 0 fun t38 =>
  xS 3 t38 (.int .i64 0) <|
  k3) <|
  xO .eql 21 t12 (.int .i32 65) fun t16 =>
  xW t16
  (k3) <|
  xO .eql 21 t12 (.int .i32 69) fun t18 =>
  xW t18
  (OpX Tryz.prog (.nilCheck (.const p0)) 0 fun t67 =>
  xF 76 t67 5 fun t68 =>
  xF 72 t68 0 fun t69 =>
  xS 3 t69 (.int .i64 0) <|
  k2) <|
  xO .eql 21 t12 (.int .i32 66) fun t20 =>
  xW t20
  (k2) <|
  xO .eql 21 t12 (.int .i32 67) fun t22 =>
  xW t22
  (DrewW <|
  xP (.nilCheck (.const p0)) 0 fun t106 =>
  qF 76 t106 5 fun t107 =>
  qF 72 t107 0 fun t108 =>
  qL 3 t108 fun t109 =>
  qP .add 3 t109 t10 fun t111 =>
  xP (.nilCheck (.const p0)) 0 fun t113 =>
  qF 76 t113 5 fun t114 =>
  qF 72 t114 1 fun t115 =>
  qL 3 t115 fun t116 =>
  xC 98 [.const p0, .const t111, .const t116] [29, 3, 3] 0 fun _ =>
  k1) <|
  xO .eql 21 t12 (.int .i32 68) fun t24 =>
  xW t24
  (DrewW <|
  xP (.nilCheck (.const p0)) 0 fun t120 =>
  qF 76 t120 5 fun t121 =>
  qF 72 t121 0 fun t122 =>
  qL 3 t122 fun t123 =>
  qP .sub 3 t123 t10 fun t125 =>
  xP (.nilCheck (.const p0)) 0 fun t127 =>
  qF 76 t127 5 fun t128 =>
  qF 72 t128 1 fun t129 =>
  qL 3 t129 fun t130 =>
  xC 98 [.const p0, .const t125, .const t130] [29, 3, 3] 0 fun _ =>
  k1) <|
  Join1 (fun k4 =>
  xO .eql 21 t12 (.int .i32 71) fun t26 =>
  xW t26
  (k4 (.bool true)) <|
  xO .eql 21 t12 (.int .i32 96) fun t27 =>
  k4 t27) fun t25 =>
  xW t25
  (xO .sub 3 t10 (.int .i64 1) fun t134 =>
  OpX Tryz.prog (.nilCheck (.const p0)) 0 fun t136 =>
  xF 76 t136 5 fun t137 =>
  xF 72 t137 1 fun t138 =>
  xL 3 t138 fun t139 =>
  xC 98 [.const p0, .const t134, .const t139] [29, 3, 3] 0 fun _ =>
  k1) <|
  xO .eql 21 t12 (.int .i32 100) fun t29 =>
  xW t29
  (OpX Tryz.prog (.nilCheck (.const p0)) 0 fun t143 =>
  xF 76 t143 5 fun t144 =>
  xF 72 t144 0 fun t145 =>
  xL 3 t145 fun t146 =>
  xO .sub 3 t10 (.int .i64 1) fun t148 =>
  xC 98 [.const p0, .const t146, .const t148] [29, 3, 3] 0 fun _ =>
  k1) <|
  Join1 (fun k5 =>
  xO .eql 21 t12 (.int .i32 72) fun t31 =>
  xW t31
  (k5 (.bool true)) <|
  xO .eql 21 t12 (.int .i32 102) fun t32 =>
  k5 t32) fun t30 =>
  xW t30
  (xL 34 t3 fun t151 =>
  xC 111 [.const t151, .const (.int .i64 1), .const (.int .i64 1)] [34, 3, 3] 3 fun t152 =>
  xO .sub 3 t152 (.int .i64 1) fun t153 =>
  xO .sub 3 t10 (.int .i64 1) fun t155 =>
  xC 98 [.const p0, .const t153, .const t155] [29, 3, 3] 0 fun _ =>
  k1) <|
  xO .eql 21 t12 (.int .i32 117) fun t34 =>
  xW t34
  (xC 75 [.const p0] [29] 0 fun _ =>
  k1) <|
  K (.bool false)) <|
  Join1 (fun k6 =>
  DrewW <|
  xP (.nilCheck (.const p0)) 0 fun t40 =>
  qF 76 t40 5 fun t41 =>
  qF 72 t41 1 fun t42 =>
  qL 3 t42 fun t43 =>
  xP (.nilCheck (.const p0)) 0 fun t45 =>
  qF 76 t45 6 fun t46 =>
  qL 3 t46 fun t47 =>
  qP .geq 3 t43 t47 fun t48 =>
  xW t48
  (OpX Tryz.prog (.nilCheck (.const p0)) 0 fun t50 =>
  xF 76 t50 6 fun t51 =>
  xL 3 t51 fun t52 =>
  k6 t52) <|
  k6 (.int .i64 0)) fun t6 =>
  OpX Tryz.prog (.nilCheck (.const p0)) 0 fun t55 =>
  xF 76 t55 5 fun t56 =>
  xF 72 t56 1 fun t57 =>
  xL 3 t57 fun t58 =>
  xO .sub 3 t58 t10 fun t60 =>
  OpX Tryz.prog (.call { callee := .builtin .max, args := #[.const t60, .const t6], argTypes := #[3, 3] }) 3 fun t62 =>
  OpX Tryz.prog (.nilCheck (.const p0)) 0 fun t63 =>
  xF 76 t63 5 fun t64 =>
  xF 72 t64 1 fun t65 =>
  xS 3 t65 t62 <|
  k1) <|
  OpX Tryz.prog (.nilCheck (.const p0)) 0 fun t71 =>
  xF 76 t71 1 fun t72 =>
  xL 3 t72 fun t73 =>
  xO .sub 3 t73 (.int .i64 1) fun t74 =>
  Join1 (fun k7 =>
  DrewW <|
  xP (.nilCheck (.const p0)) 0 fun t76 =>
  qF 76 t76 5 fun t77 =>
  qF 72 t77 1 fun t78 =>
  qL 3 t78 fun t79 =>
  xP (.nilCheck (.const p0)) 0 fun t81 =>
  qF 76 t81 7 fun t82 =>
  qL 3 t82 fun t83 =>
  qP .sub 3 t83 (.int .i64 1) fun t84 =>
  qP .leq 3 t79 t84 fun t85 =>
  xW t85
  (OpX Tryz.prog (.nilCheck (.const p0)) 0 fun t87 =>
  xF 76 t87 7 fun t88 =>
  xL 3 t88 fun t89 =>
  xO .sub 3 t89 (.int .i64 1) fun t90 =>
  k7 t90) <|
  k7 t74) fun t7 =>
  OpX Tryz.prog (.nilCheck (.const p0)) 0 fun t93 =>
  xF 76 t93 5 fun t94 =>
  xF 72 t94 1 fun t95 =>
  xL 3 t95 fun t96 =>
  xO .add 3 t96 t10 fun t98 =>
  OpX Tryz.prog (.call { callee := .builtin .min, args := #[.const t98, .const t7], argTypes := #[3, 3] }) 3 fun t100 =>
  OpX Tryz.prog (.nilCheck (.const p0)) 0 fun t101 =>
  xF 76 t101 5 fun t102 =>
  xF 72 t102 1 fun t103 =>
  xS 3 t103 t100 <|
  k1) <|
  K (.bool true)
theorem screen_Screen_moved_link (p0 p1 : Value) : Lk 78 #[p0, p1] (screen_Screen_moved p0 p1) := lk [p0, p1] [(7, []), (23, []), (27, []), (68, [25]), (84, [30]), (103, [6]), (115, [7])] Tryz.func78 (by kernel_rfl) fun _ _ => by kernel_rfl
theorem screen_Screen_moved_b : Bodied Tryz.prog 78 := bd Tryz.func78 (by kernel_rfl)
def screen_Screen_changed (p0 p1 : Value) (K : Value → World → Prop) : World → Prop :=
  xB 29 p0 fun t2 =>
  xB 34 p1 fun t3 =>
  xL 34 t3 fun t8 =>
  xC 111 [.const t8, .const (.int .i64 0), .const (.int .i64 1)] [34, 3, 3] 3 fun t9 =>
  OpX Tryz.prog (.call { callee := .builtin .min, args := #[.const t9, .const (.int .i64 9999)], argTypes := #[3, 3] }) 3 fun t10 =>
  xA 3 fun t5 =>
  xS 3 t5 t10 <|
  DrewW <|
  qL 29 t2 fun t11 =>
  xP (.nilCheck (.const t11)) 0 fun t12 =>
  qF 76 t12 5 fun t13 =>
  qF 72 t13 0 fun t14 =>
  qL 3 t14 fun t15 =>
  qL 29 t2 fun t16 =>
  xP (.nilCheck (.const t16)) 0 fun t17 =>
  qF 76 t17 5 fun t18 =>
  qF 72 t18 1 fun t19 =>
  qL 3 t19 fun t20 =>
  xA 3 fun t6 =>
  xT (qZ 3 t19 t20) <|
  xT (qZ 29 t2 t16) <|
  xT (qZ 3 t14 t15) <|
  xT (qZ 29 t2 t11) <|
  xS 3 t6 t15 <|
  xT (qZ 3 t19 t20) <|
  xT (qZ 29 t2 t16) <|
  xF 34 t3 1 fun t21 =>
  xL 21 t21 fun t22 =>
  Join0 (fun k1 =>
  Join0 (fun k2 =>
  Join0 (fun k3 =>
  Join0 (fun k4 =>
  xO .eql 21 t22 (.int .i32 74) fun t24 =>
  xW t24
  (xL 34 t3 fun t43 =>
  xC 111 [.const t43, .const (.int .i64 0), .const (.int .i64 0)] [34, 3, 3] 3 fun t44 =>
  xO .eql 3 t44 (.int .i64 0) fun t46 =>
  xW t46
  (DrewW <|
  qL 29 t2 fun t47 =>
  qP .add 3 t20 (.int .i64 1) fun t49 =>
  qL 29 t2 fun t50 =>
  xP (.nilCheck (.const t50)) 0 fun t51 =>
  qF 76 t51 1 fun t52 =>
  qL 3 t52 fun t53 =>
  xC 112 [.const t47, .const t49, .const t53] [29, 3, 3] 0 fun _ =>
  k4) <|
  xO .eql 3 t44 (.int .i64 1) fun t56 =>
  xW t56
  (xL 29 t2 fun t57 =>
  xC 112 [.const t57, .const (.int .i64 0), .const t20] [29, 3, 3] 0 fun _ =>
  k4) <|
  xO .eql 3 t44 (.int .i64 2) fun t61 =>
  xW t61
  (DrewW <|
  qL 29 t2 fun t62 =>
  qL 29 t2 fun t63 =>
  xP (.nilCheck (.const t63)) 0 fun t64 =>
  qF 76 t64 1 fun t65 =>
  qL 3 t65 fun t66 =>
  xC 112 [.const t62, .const (.int .i64 0), .const t66] [29, 3, 3] 0 fun _ =>
  k4) <|
  k4) <|
  xO .eql 21 t22 (.int .i32 75) fun t26 =>
  xW t26
  (k4) <|
  xO .eql 21 t22 (.int .i32 77) fun t28 =>
  xW t28
  (xL 3 t5 fun t93 =>
  OpX Tryz.prog (.unOp .neg 3 (.const t93)) 3 fun t94 =>
  xS 3 t5 t94 <|
  k3) <|
  xO .eql 21 t22 (.int .i32 76) fun t30 =>
  xW t30
  (k3) <|
  xO .eql 21 t22 (.int .i32 80) fun t32 =>
  xW t32
  (xL 3 t5 fun t118 =>
  OpX Tryz.prog (.unOp .neg 3 (.const t118)) 3 fun t119 =>
  xS 3 t5 t119 <|
  k2) <|
  xO .eql 21 t22 (.int .i32 64) fun t34 =>
  xW t34
  (k2) <|
  xO .eql 21 t22 (.int .i32 88) fun t36 =>
  xW t36
  (xL 29 t2 fun t123 =>
  xL 3 t6 fun t124 =>
  xL 3 t5 fun t125 =>
  xC 113 [.const t123, .const t124, .const t125] [29, 3, 3] 0 fun _ =>
  k1) <|
  xO .eql 21 t22 (.int .i32 83) fun t38 =>
  xW t38
  (xL 29 t2 fun t127 =>
  xL 3 t5 fun t128 =>
  xC 104 [.const t127, .const t128] [29, 3] 0 fun _ =>
  k1) <|
  xO .eql 21 t22 (.int .i32 84) fun t40 =>
  xW t40
  (DrewW <|
  qL 29 t2 fun t130 =>
  qL 29 t2 fun t131 =>
  xP (.nilCheck (.const t131)) 0 fun t132 =>
  qF 76 t132 6 fun t133 =>
  qL 3 t133 fun t134 =>
  qL 3 t5 fun t135 =>
  xP (.unOp .neg 3 (.const t135)) 3 fun t136 =>
  xC 109 [.const t130, .const t134, .const t136] [29, 3, 3] 0 fun _ =>
  k1) <|
  xO .eql 21 t22 (.int .i32 114) fun t42 =>
  xW t42
  (DrewW <|
  qL 29 t2 fun t138 =>
  qL 3 t5 fun t139 =>
  qP .sub 3 t139 (.int .i64 1) fun t140 =>
  qL 34 t3 fun t141 =>
  xC 111 [.const t141, .const (.int .i64 1), .const (.int .i64 0)] [34, 3, 3] 3 fun t142 =>
  xT (qZ 3 t5 t139) <|
  xT (qZ 29 t2 t138) <|
  xC 117 [.const t138, .const t140, .const t142] [29, 3, 3] 0 fun _ =>
  k1) <|
  K (.bool false)) <|
  xL 34 t3 fun t68 =>
  xC 111 [.const t68, .const (.int .i64 0), .const (.int .i64 0)] [34, 3, 3] 3 fun t69 =>
  xO .eql 3 t69 (.int .i64 0) fun t71 =>
  xW t71
  (DrewW <|
  qL 29 t2 fun t72 =>
  qL 3 t6 fun t73 =>
  qL 29 t2 fun t74 =>
  xP (.nilCheck (.const t74)) 0 fun t75 =>
  qF 76 t75 0 fun t76 =>
  qL 3 t76 fun t77 =>
  xC 113 [.const t72, .const t73, .const t77] [29, 3, 3] 0 fun _ =>
  k1) <|
  xO .eql 3 t69 (.int .i64 1) fun t80 =>
  xW t80
  (xL 29 t2 fun t81 =>
  xL 3 t6 fun t82 =>
  xO .add 3 t82 (.int .i64 1) fun t83 =>
  xC 113 [.const t81, .const (.int .i64 0), .const t83] [29, 3, 3] 0 fun _ =>
  k1) <|
  xO .eql 3 t69 (.int .i64 2) fun t86 =>
  xW t86
  (DrewW <|
  qL 29 t2 fun t87 =>
  qL 29 t2 fun t88 =>
  xP (.nilCheck (.const t88)) 0 fun t89 =>
  qF 76 t89 0 fun t90 =>
  qL 3 t90 fun t91 =>
  xC 113 [.const t87, .const (.int .i64 0), .const t91] [29, 3, 3] 0 fun _ =>
  k1) <|
  k1) <|
  Join1 (fun k5 =>
  xL 29 t2 fun t96 =>
  OpX Tryz.prog (.nilCheck (.const t96)) 0 fun t97 =>
  xF 76 t97 6 fun t98 =>
  xL 3 t98 fun t99 =>
  xO .geq 3 t20 t99 fun t100 =>
  xW t100
  (xL 29 t2 fun t103 =>
  OpX Tryz.prog (.nilCheck (.const t103)) 0 fun t104 =>
  xF 76 t104 7 fun t105 =>
  xL 3 t105 fun t106 =>
  xO .lss 3 t20 t106 fun t107 =>
  k5 t107) <|
  k5 (.bool false)) fun t108 =>
  xW t108
  (xL 29 t2 fun t109 =>
  xL 3 t5 fun t111 =>
  OpX Tryz.prog (.unOp .neg 3 (.const t111)) 3 fun t112 =>
  xC 109 [.const t109, .const t20, .const t112] [29, 3, 3] 0 fun _ =>
  xL 29 t2 fun t114 =>
  OpX Tryz.prog (.nilCheck (.const t114)) 0 fun t115 =>
  xF 76 t115 5 fun t116 =>
  xF 72 t116 0 fun t117 =>
  xS 3 t117 (.int .i64 0) <|
  k1) <|
  k1) <|
  xL 29 t2 fun t120 =>
  OpX Tryz.prog (.makeFunc (.func 114) #[] #[.const t6, .const t5, .const t2]) 111 fun t121 =>
  xC 69 [.const t120, .const t121] [29, 111] 0 fun _ =>
  k1) <|
  K (.bool true)
theorem screen_Screen_changed_link (p0 p1 : Value) : Lk 79 #[p0, p1] (screen_Screen_changed p0 p1) := lk [p0, p1] [(9, []), (21, []), (25, []), (29, []), (130, [108])] Tryz.func79 (by kernel_rfl) fun _ _ => by kernel_rfl
theorem screen_Screen_changed_b : Bodied Tryz.prog 79 := bd Tryz.func79 (by kernel_rfl)
def screen_Screen_within (p0 p1 p2 : Value) (K : Value → World → Prop) : World → Prop :=
  DrewW <|
  xP (.call { callee := .builtin .max, args := #[.const p1, .const (.int .i64 0)], argTypes := #[3, 3] }) 3 fun t9 =>
  xP (.nilCheck (.const p0)) 0 fun t11 =>
  qF 76 t11 0 fun t12 =>
  qL 3 t12 fun t13 =>
  qP .sub 3 t13 (.int .i64 1) fun t14 =>
  xP (.call { callee := .builtin .min, args := #[.const t9, .const t14], argTypes := #[3, 3] }) 3 fun t15 =>
  xP (.call { callee := .builtin .max, args := #[.const p2, .const (.int .i64 0)], argTypes := #[3, 3] }) 3 fun t17 =>
  xP (.nilCheck (.const p0)) 0 fun t19 =>
  qF 76 t19 1 fun t20 =>
  qL 3 t20 fun t21 =>
  qP .sub 3 t21 (.int .i64 1) fun t22 =>
  xP (.call { callee := .builtin .min, args := #[.const t17, .const t22], argTypes := #[3, 3] }) 3 fun t23 =>
  K (.tuple #[t15, t23])
theorem screen_Screen_within_link (p0 p1 p2 : Value) : Lk 97 #[p0, p1, p2] (screen_Screen_within p0 p1 p2) := lk [p0, p1, p2] [] Tryz.func97 (by kernel_rfl) fun _ _ => by kernel_rfl
theorem screen_Screen_within_b : Bodied Tryz.prog 97 := bd Tryz.func97 (by kernel_rfl)
def screen_Screen_move (p0 p1 p2 : Value) (K : Value → World → Prop) : World → Prop :=
  xC 97 [.const p0, .const p1, .const p2] [29, 3, 3] 27 fun t12 =>
  xE t12 0 3 fun t13 =>
  xE t12 1 3 fun t14 =>
  OpX Tryz.prog (.nilCheck (.const p0)) 0 fun t15 =>
  xF 76 t15 5 fun t16 =>
  xF 72 t16 0 fun t17 =>
  xS 3 t17 t13 <|
  OpX Tryz.prog (.nilCheck (.const p0)) 0 fun t18 =>
  xF 76 t18 5 fun t19 =>
  xF 72 t19 1 fun t20 =>
  xS 3 t20 t14 <|
  K (.tuple #[])
theorem screen_Screen_move_link (p0 p1 p2 : Value) : Lk 98 #[p0, p1, p2] (screen_Screen_move p0 p1 p2) := lk [p0, p1, p2] [] Tryz.func98 (by kernel_rfl) fun _ _ => by kernel_rfl
theorem screen_Screen_move_b : Bodied Tryz.prog 98 := bd Tryz.func98 (by kernel_rfl)
def screen_Screen_up (p0 p1 : Value) (K : Value → World → Prop) : World → Prop :=
  Join0 (fun k1 =>
  Join1 (fun k2 =>
  OpX Tryz.prog (.nilCheck (.const p0)) 0 fun t6 =>
  xF 76 t6 6 fun t7 =>
  xL 3 t7 fun t8 =>
  xO .eql 3 t8 (.int .i64 0) fun t9 =>
  xW t9
  (OpX Tryz.prog (.nilCheck (.const p0)) 0 fun t12 =>
  xF 76 t12 4 fun t13 =>
  xL 3 t13 fun t14 =>
  xO .eql 3 t14 (.int .i64 0) fun t15 =>
  k2 t15) <|
  k2 (.bool false)) fun t16 =>
  xW t16
  (OpX Tryz.prog (.nilCheck (.const p0)) 0 fun t19 =>
  xF 76 t19 7 fun t20 =>
  xL 3 t20 fun t21 =>
  OpX Tryz.prog (.call { callee := .builtin .min, args := #[.const p1, .const t21], argTypes := #[3, 3] }) 3 fun t22 =>
  Loop1 (.int .i64 0) fun t23 next3 =>
  xO .lss 3 t23 t22 fun t24 =>
  xW t24
  (DrewW <|
  xP (.nilCheck (.const p0)) 0 fun t28 =>
  qF 76 t28 12 fun t29 =>
  qL 43 t29 fun t30 =>
  xP (.nilCheck (.const p0)) 0 fun t32 =>
  qF 76 t32 2 fun t33 =>
  xP (.indexAddr 68 (.const t33) (.const (.int .i64 0))) 0 fun t34 =>
  qL 38 t34 fun t35 =>
  xC 92 [.const t35, .const t23] [38, 3] 36 fun t37 =>
  xT (qZ 43 t29 t30) <|
  OpX Tryz.prog (.buildSlice 43 1 #[(0, .const t37)]) 43 fun t38 =>
  xT (qZ 43 t29 t30) <|
  OpX Tryz.prog (.call { callee := .builtin .append, args := #[.const t30, .const t38], argTypes := #[43, 43] }) 43 fun t39 =>
  xP (.nilCheck (.const p0)) 0 fun t40 =>
  qF 76 t40 12 fun t41 =>
  xS 43 t41 t39 <|
  xO .add 3 t23 (.int .i64 1) fun t42 =>
  next3 t42) <|
  DrewW <|
  xP (.nilCheck (.const p0)) 0 fun t45 =>
  qF 76 t45 12 fun t46 =>
  qL 43 t46 fun t47 =>
  xP (.nilCheck (.const p0)) 0 fun t49 =>
  qF 76 t49 12 fun t50 =>
  qL 43 t50 fun t51 =>
  xR (.call { callee := .builtin .len, args := #[.const t51], argTypes := #[43] }) 3 fun t52 =>
  qP .sub 3 t52 (.int .i64 500) fun t53 =>
  xP (.call { callee := .builtin .max, args := #[.const t53, .const (.int .i64 0)], argTypes := #[3, 3] }) 3 fun t54 =>
  xC 131 [.const t47, .const (.int .i64 0), .const t54] [43, 3, 3] 43 fun t55 =>
  xP (.nilCheck (.const p0)) 0 fun t56 =>
  qF 76 t56 12 fun t57 =>
  xS 43 t57 t55 <|
  k1) <|
  k1) <|
  OpX Tryz.prog (.nilCheck (.const p0)) 0 fun t60 =>
  xF 76 t60 6 fun t61 =>
  xL 3 t61 fun t62 =>
  xC 109 [.const p0, .const t62, .const p1] [29, 3, 3] 0 fun _ =>
  K (.tuple #[])
theorem screen_Screen_up_link (p0 p1 : Value) : Lk 104 #[p0, p1] (screen_Screen_up p0 p1) := lk [p0, p1] [(0, []), (2, [16]), (8, [23])] Tryz.func104 (by kernel_rfl) fun _ _ => by kernel_rfl
theorem screen_Screen_up_b : Bodied Tryz.prog 104 := bd Tryz.func104 (by kernel_rfl)
def screen_Screen_scroll (p0 p1 p2 : Value) (K : Value → World → Prop) : World → Prop :=
  DrewW <|
  xP (.nilCheck (.const p0)) 0 fun t9 =>
  qF 76 t9 4 fun t10 =>
  qL 3 t10 fun t11 =>
  xP (.nilCheck (.const p0)) 0 fun t12 =>
  qF 76 t12 2 fun t13 =>
  xP (.indexAddr 68 (.const t13) (.const t11)) 0 fun t14 =>
  DrewW <|
  xP (.nilCheck (.const t14)) 0 fun t17 =>
  qL 38 t17 fun t18 =>
  xP (.nilCheck (.const p0)) 0 fun t21 =>
  qF 76 t21 7 fun t22 =>
  qL 3 t22 fun t23 =>
  xC 116 [.const p0] [29] 70 fun t26 =>
  xT (qZ 3 t22 t23) <|
  xT (qZ 38 t17 t18) <|
  xC 132 [.const t18, .const p1, .const t23, .const p2, .const t26] [38, 3, 3, 3, 70] 38 fun t27 =>
  xP (.nilCheck (.const t14)) 0 fun t28 =>
  xS 38 t28 t27 <|
  K (.tuple #[])
theorem screen_Screen_scroll_link (p0 p1 p2 : Value) : Lk 109 #[p0, p1, p2] (screen_Screen_scroll p0 p1 p2) := lk [p0, p1, p2] [] Tryz.func109 (by kernel_rfl) fun _ _ => by kernel_rfl
theorem screen_Screen_scroll_b : Bodied Tryz.prog 109 := bd Tryz.func109 (by kernel_rfl)
def screen_Screen_clear (p0 p1 p2 : Value) (K : Value → World → Prop) : World → Prop :=
  DrewW <|
  xP (.nilCheck (.const p0)) 0 fun t9 =>
  qF 76 t9 4 fun t10 =>
  qL 3 t10 fun t11 =>
  xP (.nilCheck (.const p0)) 0 fun t12 =>
  qF 76 t12 2 fun t13 =>
  xP (.indexAddr 68 (.const t13) (.const t11)) 0 fun t14 =>
  DrewW <|
  Join0 (fun k1 =>
  xP (.nilCheck (.const t14)) 0 fun t17 =>
  qL 38 t17 fun t18 =>
  xP (.nilCheck (.const p0)) 0 fun t21 =>
  qF 76 t21 0 fun t22 =>
  qL 3 t22 fun t23 =>
  xT (OpX Tryz.prog (.build 164 #[(1, .const p1), (2, .const t23), (3, .const p2)]) 164 fun t25 =>
  xT (qZ 38 t17 t18) <|
  xC 116 [.const p0] [29] 70 fun t27 =>
  xT (qZ 38 t17 t18) <|
  xC 136 [.const t18, .const t25, .const t27] [38, 164, 70] 38 fun t28 =>
  xP (.nilCheck (.const t14)) 0 fun t29 =>
  xS 38 t29 t28 <|
  k1) <|
  xC 116 [.const p0] [29] 70 fun t27_1 =>
  xT (qZ 3 t22 t23) <|
  xT (qZ 38 t17 t18) <|
  OpX Tryz.prog (.build 164 #[(1, .const p1), (2, .const t23), (3, .const p2)]) 164 fun t25_1 =>
  xT (qZ 38 t17 t18) <|
  xC 136 [.const t18, .const t25_1, .const t27_1] [38, 164, 70] 38 fun t28_1 =>
  xP (.nilCheck (.const t14)) 0 fun t29_1 =>
  xS 38 t29_1 t28_1 <|
  k1) <|
  K (.tuple #[])
theorem screen_Screen_clear_link (p0 p1 p2 : Value) : Lk 112 #[p0, p1, p2] (screen_Screen_clear p0 p1 p2) := lk [p0, p1, p2] [(2, [])] Tryz.func112 (by kernel_rfl) fun _ _ => by kernel_rfl
theorem screen_Screen_clear_b : Bodied Tryz.prog 112 := bd Tryz.func112 (by kernel_rfl)
def screen_Screen_erase (p0 p1 p2 : Value) (K : Value → World → Prop) : World → Prop :=
  xB 29 p0 fun t3 =>
  xB 3 p1 fun t4 =>
  xB 3 p2 fun t5 =>
  xL 29 t3 fun t6 =>
  OpX Tryz.prog (.makeFunc (.func 137) #[] #[.const t4, .const t5, .const t3]) 111 fun t7 =>
  xC 69 [.const t6, .const t7] [29, 111] 0 fun _ =>
  K (.tuple #[])
theorem screen_Screen_erase_link (p0 p1 p2 : Value) : Lk 113 #[p0, p1, p2] (screen_Screen_erase p0 p1 p2) := lk [p0, p1, p2] [] Tryz.func113 (by kernel_rfl) fun _ _ => by kernel_rfl
theorem screen_Screen_erase_b : Bodied Tryz.prog 113 := bd Tryz.func113 (by kernel_rfl)
def screen_Screen_changed_1 (p0 p1 p2 p3 : Value) (K : Value → World → Prop) : World → Prop :=
  xB 38 p0 fun t4 =>
  xA 38 fun t5 =>
  DrewW <|
  qL 38 t4 fun t6 =>
  qL 3 p1 fun t7 =>
  qL 3 p2 fun t8 =>
  qL 29 p3 fun t9 =>
  xC 116 [.const t9] [29] 70 fun t10 =>
  xT (qZ 3 p2 t8) <|
  xT (qZ 3 p1 t7) <|
  xT (qZ 38 t4 t6) <|
  xC 115 [.const t6, .const t7, .const (.int .i64 0), .const t8, .const t10] [38, 3, 3, 3, 70] 38 fun t11 =>
  xS 38 t5 t11 <|
  xD 38 t5 fun t5_1 =>
  K t5_1
theorem screen_Screen_changed_1_link (p0 p1 p2 p3 : Value) : Lk 114 #[p0, p1, p2, p3] (screen_Screen_changed_1 p0 p1 p2 p3) := lk [p0, p1, p2, p3] [] Tryz.func114 (by kernel_rfl) fun _ _ => by kernel_rfl
theorem screen_Screen_changed_1_b : Bodied Tryz.prog 114 := bd Tryz.func114 (by kernel_rfl)
def screen_Screen_free (p0 : Value) (K : Value → World → Prop) : World → Prop :=
  xA 70 fun t2 =>
  xC 64 [] [] 70 fun t4 =>
  xA 70 fun t3 =>
  xS 70 t3 t4 <|
  OpX Tryz.prog (.nilCheck (.const p0)) 0 fun t6 =>
  xF 76 t6 5 fun t7 =>
  xF 72 t7 2 fun t8 =>
  xF 70 t8 2 fun t9 =>
  xL 5 t9 fun t10 =>
  xF 70 t3 2 fun t11 =>
  xS 5 t11 t10 <|
  xL 70 t3 fun t12 =>
  xS 70 t2 t12 <|
  xD 70 t2 fun t2_1 =>
  K t2_1
theorem screen_Screen_free_link (p0 : Value) : Lk 116 #[p0] (screen_Screen_free p0) := lk [p0] [] Tryz.func116 (by kernel_rfl) fun _ _ => by kernel_rfl
theorem screen_Screen_free_b : Bodied Tryz.prog 116 := bd Tryz.func116 (by kernel_rfl)
def screen_Screen_region (p0 p1 p2 : Value) (K : Value → World → Prop) : World → Prop :=
  Join1 (fun k1 =>
  Join1 (fun k2 =>
  xO .eql 3 p2 (.int .i64 0) fun t7 =>
  xW t7
  (k2 (.bool true)) <|
  OpX Tryz.prog (.nilCheck (.const p0)) 0 fun t11 =>
  xF 76 t11 1 fun t12 =>
  xL 3 t12 fun t13 =>
  xO .gtr 3 p2 t13 fun t14 =>
  k2 t14) fun t15 =>
  xW t15
  (OpX Tryz.prog (.nilCheck (.const p0)) 0 fun t17 =>
  xF 76 t17 1 fun t18 =>
  xL 3 t18 fun t19 =>
  k1 t19) <|
  k1 p2) fun t2 =>
  xO .sub 3 t2 (.int .i64 1) fun t22 =>
  xO .lss 3 p1 t22 fun t23 =>
  xW t23
  (OpX Tryz.prog (.nilCheck (.const p0)) 0 fun t28 =>
  xF 76 t28 6 fun t29 =>
  xS 3 t29 p1 <|
  OpX Tryz.prog (.nilCheck (.const p0)) 0 fun t30 =>
  xF 76 t30 7 fun t31 =>
  xS 3 t31 t2 <|
  xC 98 [.const p0, .const (.int .i64 0), .const (.int .i64 0)] [29, 3, 3] 0 fun _ =>
  K (.tuple #[])) <|
  K (.tuple #[])
theorem screen_Screen_region_link (p0 p1 p2 : Value) : Lk 117 #[p0, p1, p2] (screen_Screen_region p0 p1 p2) := lk [p0, p1, p2] [(0, [2]), (2, [15])] Tryz.func117 (by kernel_rfl) fun _ _ => by kernel_rfl
theorem screen_Screen_region_b : Bodied Tryz.prog 117 := bd Tryz.func117 (by kernel_rfl)
def screen_Screen_erase_1 (p0 p1 p2 p3 : Value) (K : Value → World → Prop) : World → Prop :=
  xB 38 p0 fun t4 =>
  xA 38 fun t5 =>
  DrewW <|
  Join0 (fun k1 =>
  qL 38 t4 fun t6 =>
  qL 3 p1 fun t7 =>
  qL 3 p2 fun t8 =>
  qL 29 p3 fun t10 =>
  xT (OpX Tryz.prog (.build 164 #[(0, .const t7), (2, .const t8), (3, .const (.int .i64 1))]) 164 fun t9 =>
  xT (qZ 29 p3 t10) <|
  xT (qZ 38 t4 t6) <|
  xC 116 [.const t10] [29] 70 fun t11 =>
  xT (qZ 38 t4 t6) <|
  xC 136 [.const t6, .const t9, .const t11] [38, 164, 70] 38 fun t12 =>
  xS 38 t5 t12 <|
  k1) <|
  xC 116 [.const t10] [29] 70 fun t11_1 =>
  xT (qZ 3 p2 t8) <|
  xT (qZ 3 p1 t7) <|
  xT (qZ 38 t4 t6) <|
  OpX Tryz.prog (.build 164 #[(0, .const t7), (2, .const t8), (3, .const (.int .i64 1))]) 164 fun t9_1 =>
  xT (qZ 38 t4 t6) <|
  xC 136 [.const t6, .const t9_1, .const t11_1] [38, 164, 70] 38 fun t12_1 =>
  xS 38 t5 t12_1 <|
  k1) <|
  xD 38 t5 fun t5_1 =>
  K t5_1
theorem screen_Screen_erase_1_link (p0 p1 p2 p3 : Value) : Lk 137 #[p0, p1, p2, p3] (screen_Screen_erase_1 p0 p1 p2 p3) := lk [p0, p1, p2, p3] [(3, [])] Tryz.func137 (by kernel_rfl) fun _ _ => by kernel_rfl
theorem screen_Screen_erase_1_b : Bodied Tryz.prog 137 := bd Tryz.func137 (by kernel_rfl)
def pen_Apply (p0 p1 : Value) (K : Value → World → Prop) : World → Prop :=
  xB 70 p0 fun t2 =>
  xB 34 p1 fun t3 =>
  xA 70 fun t4 =>
  Join1 (fun k1 =>
  xF 34 t3 0 fun t10 =>
  xL 3 t10 fun t11 =>
  xO .neq 3 t11 (.int .i64 4) fun t12 =>
  xW t12
  (k1 (.bool true)) <|
  xF 34 t3 1 fun t14 =>
  xL 21 t14 fun t15 =>
  xO .neq 21 t15 (.int .i32 109) fun t16 =>
  xW t16
  (k1 (.bool true)) <|
  xF 34 t3 2 fun t19 =>
  xL 5 t19 fun t20 =>
  xO .neq 5 t20 (.int .u8 0) fun t21 =>
  xW t21
  (k1 (.bool true)) <|
  xF 34 t3 3 fun t24 =>
  xL 5 t24 fun t25 =>
  xO .neq 5 t25 (.int .u8 0) fun t26 =>
  k1 t26) fun t27 =>
  xW t27
  (xL 70 t2 fun t28 =>
  xS 70 t4 t28 <|
  xD 70 t4 fun t4_1 =>
  K t4_1) <|
  xF 34 t3 5 fun t29 =>
  xF 34 t3 4 fun t30 =>
  xL 3 t30 fun t31 =>
  OpX Tryz.prog (.call { callee := .builtin .max, args := #[.const t31, .const (.int .i64 0)], argTypes := #[3, 3] }) 3 fun t32 =>
  OpX Tryz.prog (.call { callee := .builtin .min, args := #[.const t32, .const (.int .i64 8)], argTypes := #[3, 3] }) 3 fun t33 =>
  OpX Tryz.prog (.slice 32 (.const t29) none (some (.const t33)) none) 52 fun t34 =>
  xA 52 fun t5 =>
  xS 52 t5 t34 <|
  Join0 (fun k2 =>
  xL 52 t5 fun t35 =>
  xU t35 52 fun t36 =>
  xO .eql 3 t36 (.int .i64 0) fun t37 =>
  xW t37
  (OpX Tryz.prog (.buildSlice 52 1 #[(0, .const (.int .i64 0))]) 52 fun t38 =>
  xS 52 t5 t38 <|
  k2) <|
  k2) <|
  OpX Tryz.prog (.makeFunc (.func 133) #[] #[.const t5]) 158 fun t39 =>
  Loop0 fun next3 =>
  xL 52 t5 fun t40 =>
  xU t40 52 fun t41 =>
  xO .gtr 3 t41 (.int .i64 0) fun t42 =>
  xW t42
  (OpX Tryz.prog (.call { callee := .value (.const t39), args := #[.const (.int .i64 1)], argTypes := #[3] }) 52 fun t44 =>
  xI 52 t44 (.int .i64 0) fun t45 =>
  xL 3 t45 fun t46 =>
  Join1 (fun k4 =>
  xO .eql 3 t46 (.int .i64 38) fun t52 =>
  xW t52
  (k4 (.bool true)) <|
  xO .eql 3 t46 (.int .i64 48) fun t53 =>
  k4 t53) fun t51 =>
  xW t51
  (xC 134 [.const t39] [158] 159 fun t56 =>
  xE t56 0 5 fun t57 =>
  xE t56 1 4 fun t58 =>
  Join1 (fun k5 =>
  xW t58
  (xO .eql 3 t46 (.int .i64 38) fun t63 =>
  k5 t63) <|
  k5 (.bool false)) fun t59 =>
  xW t59
  (xF 70 t2 1 fun t66 =>
  xS 5 t66 t57 <|
  next3) <|
  xW t58
  (xF 70 t2 2 fun t70 =>
  xS 5 t70 t57 <|
  next3) <|
  next3) <|
  xL 70 t2 fun t48 =>
  xC 135 [.const t48, .const t46] [70, 3] 70 fun t50 =>
  xS 70 t2 t50 <|
  next3) <|
  xL 70 t2 fun t71 =>
  xS 70 t4 t71 <|
  xD 70 t4 fun t4_2 =>
  K t4_2
theorem pen_Apply_link (p0 p1 : Value) : Lk 110 #[p0, p1] (pen_Apply p0 p1) := lk [p0, p1] [(4, [27]), (12, []), (22, []), (35, [51]), (46, [59])] Tryz.func110 (by kernel_rfl) fun _ _ => by kernel_rfl
theorem pen_Apply_b : Bodied Tryz.prog 110 := bd Tryz.func110 (by kernel_rfl)
def pen_Apply_1 (p0 p1 : Value) (K : Value → World → Prop) : World → Prop :=
  xL 52 p1 fun t6 =>
  xU t6 52 fun t7 =>
  OpX Tryz.prog (.call { callee := .builtin .min, args := #[.const p0, .const t7], argTypes := #[3, 3] }) 3 fun t8 =>
  xL 52 p1 fun t9 =>
  OpX Tryz.prog (.slice 52 (.const t9) none (some (.const t8)) (some (.const t8))) 52 fun t12 =>
  xL 52 p1 fun t13 =>
  OpX Tryz.prog (.slice 52 (.const t13) (some (.const t8)) none none) 52 fun t15 =>
  xS 52 p1 t15 <|
  K t12
theorem pen_Apply_1_link (p0 p1 : Value) : Lk 133 #[p0, p1] (pen_Apply_1 p0 p1) := lk [p0, p1] [] Tryz.func133 (by kernel_rfl) fun _ _ => by kernel_rfl
theorem pen_Apply_1_b : Bodied Tryz.prog 133 := bd Tryz.func133 (by kernel_rfl)
def pen_chosen (p0 : Value) (K : Value → World → Prop) : World → Prop :=
  OpX Tryz.prog (.call { callee := .value (.const p0), args := #[.const (.int .i64 1)], argTypes := #[3] }) 52 fun t9 =>
  Join0 (fun k1 =>
  Join1 (fun k2 =>
  xU t9 52 fun t11 =>
  xO .eql 3 t11 (.int .i64 1) fun t12 =>
  xW t12
  (xI 52 t9 (.int .i64 0) fun t15 =>
  xL 3 t15 fun t16 =>
  xO .eql 3 t16 (.int .i64 5) fun t17 =>
  k2 t17) <|
  k2 (.bool false)) fun t18 =>
  xW t18
  (OpX Tryz.prog (.call { callee := .value (.const p0), args := #[.const (.int .i64 1)], argTypes := #[3] }) 52 fun t20 =>
  xU t20 52 fun t22 =>
  xO .eql 3 t22 (.int .i64 1) fun t23 =>
  xW t23
  (xI 52 t20 (.int .i64 0) fun t25 =>
  xL 3 t25 fun t26 =>
  Join1 (fun k3 =>
  xO .lss 3 t26 (.int .i64 0) fun t28 =>
  xW t28
  (k3 (.bool true)) <|
  xO .gtr 3 t26 (.int .i64 255) fun t31 =>
  k3 t31) fun t32 =>
  xW t32
  (K (.tuple #[(.int .u8 0), (.bool false)])) <|
  xC 145 [.const t26] [3] 5 fun t34 =>
  K (.tuple #[t34, (.bool true)])) <|
  k1) <|
  k1) <|
  Join0 (fun k4 =>
  Join1 (fun k5 =>
  xU t9 52 fun t36 =>
  xO .eql 3 t36 (.int .i64 1) fun t37 =>
  xW t37
  (xI 52 t9 (.int .i64 0) fun t40 =>
  xL 3 t40 fun t41 =>
  xO .eql 3 t41 (.int .i64 2) fun t42 =>
  k5 t42) <|
  k5 (.bool false)) fun t43 =>
  xW t43
  (OpX Tryz.prog (.call { callee := .value (.const p0), args := #[.const (.int .i64 3)], argTypes := #[3] }) 52 fun t45 =>
  xU t45 52 fun t47 =>
  xO .eql 3 t47 (.int .i64 3) fun t48 =>
  xW t48
  (DrewW <|
  xP (.indexAddr 52 (.const t45) (.const (.int .i64 0))) 0 fun t50 =>
  qL 3 t50 fun t51 =>
  xP (.indexAddr 52 (.const t45) (.const (.int .i64 1))) 0 fun t53 =>
  qL 3 t53 fun t54 =>
  xP (.indexAddr 52 (.const t45) (.const (.int .i64 2))) 0 fun t56 =>
  qL 3 t56 fun t57 =>
  xC 146 [.const t51, .const t54, .const t57] [3, 3, 3] 5 fun t58 =>
  K (.tuple #[t58, (.bool true)])) <|
  k4) <|
  k4) <|
  OpX Tryz.prog (.call { callee := .value (.const p0), args := #[.const (.int .i64 8)], argTypes := #[3] }) 52 fun _ =>
  K (.tuple #[(.int .u8 0), (.bool false)])
theorem pen_chosen_link (p0 : Value) : Lk 134 #[p0] (pen_chosen p0) := lk [p0] [(4, []), (6, [18]), (17, [32]), (28, []), (30, [43])] Tryz.func134 (by kernel_rfl) fun _ _ => by kernel_rfl
theorem pen_chosen_b : Bodied Tryz.prog 134 := bd Tryz.func134 (by kernel_rfl)
def pen_obey (p0 p1 : Value) (K : Value → World → Prop) : World → Prop :=
  xB 70 p0 fun t2 =>
  xA 70 fun t4 =>
  xC 147 [] [] 175 fun t6 =>
  xA 175 fun t5 =>
  xS 175 t5 t6 <|
  Join0 (fun k1 =>
  xO .eql 3 p1 (.int .i64 0) fun t9 =>
  xW t9
  (xF 70 t2 1 fun t10 =>
  xS 5 t10 (.int .u8 0) <|
  xF 70 t2 2 fun t11 =>
  xS 5 t11 (.int .u8 0) <|
  xF 70 t2 3 fun t12 =>
  xS 5 t12 (.int .u8 0) <|
  k1) <|
  Join1 (fun k2 =>
  xO .gtr 3 p1 (.int .i64 0) fun t15 =>
  xW t15
  (xO .lss 3 p1 (.int .i64 8) fun t18 =>
  k2 t18) <|
  k2 (.bool false)) fun t13 =>
  xW t13
  (DrewW <|
  qF 70 t2 3 fun t20 =>
  qL 5 t20 fun t21 =>
  xP (.indexAddr 175 (.const t5) (.const p1)) 0 fun t23 =>
  qL 5 t23 fun t24 =>
  qP .or 5 t21 t24 fun t25 =>
  qF 70 t2 3 fun t26 =>
  xS 5 t26 t25 <|
  k1) <|
  xO .eql 3 p1 (.int .i64 22) fun t29 =>
  xW t29
  (xF 70 t2 3 fun t30 =>
  xL 5 t30 fun t31 =>
  xO .andNot 5 t31 (.int .u8 3) fun t32 =>
  xF 70 t2 3 fun t33 =>
  xS 5 t33 t32 <|
  k1) <|
  Join1 (fun k3 =>
  xO .geq 3 p1 (.int .i64 23) fun t36 =>
  xW t36
  (xO .leq 3 p1 (.int .i64 27) fun t39 =>
  k3 t39) <|
  k3 (.bool false)) fun t34 =>
  xW t34
  (DrewW <|
  qF 70 t2 3 fun t41 =>
  qL 5 t41 fun t42 =>
  qP .sub 3 p1 (.int .i64 20) fun t44 =>
  xP (.indexAddr 175 (.const t5) (.const t44)) 0 fun t45 =>
  qL 5 t45 fun t46 =>
  qP .andNot 5 t42 t46 fun t47 =>
  qF 70 t2 3 fun t48 =>
  xS 5 t48 t47 <|
  k1) <|
  Join1 (fun k4 =>
  xO .geq 3 p1 (.int .i64 30) fun t51 =>
  xW t51
  (xO .leq 3 p1 (.int .i64 37) fun t54 =>
  k4 t54) <|
  k4 (.bool false)) fun t49 =>
  xW t49
  (xO .sub 3 p1 (.int .i64 30) fun t57 =>
  xC 145 [.const t57] [3] 5 fun t58 =>
  xF 70 t2 1 fun t59 =>
  xS 5 t59 t58 <|
  k1) <|
  xO .eql 3 p1 (.int .i64 39) fun t62 =>
  xW t62
  (xF 70 t2 1 fun t63 =>
  xS 5 t63 (.int .u8 0) <|
  k1) <|
  Join1 (fun k5 =>
  xO .geq 3 p1 (.int .i64 40) fun t66 =>
  xW t66
  (xO .leq 3 p1 (.int .i64 47) fun t69 =>
  k5 t69) <|
  k5 (.bool false)) fun t64 =>
  xW t64
  (xO .sub 3 p1 (.int .i64 40) fun t72 =>
  xC 145 [.const t72] [3] 5 fun t73 =>
  xF 70 t2 2 fun t74 =>
  xS 5 t74 t73 <|
  k1) <|
  xO .eql 3 p1 (.int .i64 49) fun t77 =>
  xW t77
  (xF 70 t2 2 fun t78 =>
  xS 5 t78 (.int .u8 0) <|
  k1) <|
  Join1 (fun k6 =>
  xO .geq 3 p1 (.int .i64 90) fun t81 =>
  xW t81
  (xO .leq 3 p1 (.int .i64 97) fun t84 =>
  k6 t84) <|
  k6 (.bool false)) fun t79 =>
  xW t79
  (xO .sub 3 p1 (.int .i64 82) fun t87 =>
  xC 145 [.const t87] [3] 5 fun t88 =>
  xF 70 t2 1 fun t89 =>
  xS 5 t89 t88 <|
  k1) <|
  Join1 (fun k7 =>
  xO .geq 3 p1 (.int .i64 100) fun t92 =>
  xW t92
  (xO .leq 3 p1 (.int .i64 107) fun t95 =>
  k7 t95) <|
  k7 (.bool false)) fun t90 =>
  xW t90
  (xO .sub 3 p1 (.int .i64 92) fun t98 =>
  xC 145 [.const t98] [3] 5 fun t99 =>
  xF 70 t2 2 fun t100 =>
  xS 5 t100 t99 <|
  k1) <|
  k1) <|
  xL 70 t2 fun t101 =>
  xS 70 t4 t101 <|
  xD 70 t4 fun t4_1 =>
  K t4_1
theorem pen_obey_link (p0 p1 : Value) : Lk 135 #[p0, p1] (pen_obey p0 p1) := lk [p0, p1] [(4, []), (11, [13]), (19, [34]), (23, [49]), (31, [64]), (39, [79]), (43, [90])] Tryz.func135 (by kernel_rfl) fun _ _ => by kernel_rfl
theorem pen_obey_b : Bodied Tryz.prog 135 := bd Tryz.func135 (by kernel_rfl)
def pen_colour (p0 : Value) (K : Value → World → Prop) : World → Prop :=
  OpX Tryz.prog (.call { callee := .builtin .max, args := #[.const p0, .const (.int .i64 1)], argTypes := #[3, 3] }) 3 fun t4 =>
  OpX Tryz.prog (.convert 3 5 (.const t4)) 5 fun t5 =>
  K t5
theorem pen_colour_link (p0 : Value) : Lk 145 #[p0] (pen_colour p0) := lk [p0] [] Tryz.func145 (by kernel_rfl) fun _ _ => by kernel_rfl
theorem pen_colour_b : Bodied Tryz.prog 145 := bd Tryz.func145 (by kernel_rfl)
def pen_Colour (p0 p1 p2 : Value) (K : Value → World → Prop) : World → Prop :=
  OpX Tryz.prog (.call { callee := .value (.const (.func (.func 153) #[] #[])), args := #[.const p0], argTypes := #[3] }) 3 fun t10 =>
  xO .mul 3 (.int .i64 36) t10 fun t11 =>
  xO .add 3 (.int .i64 16) t11 fun t12 =>
  OpX Tryz.prog (.call { callee := .value (.const (.func (.func 153) #[] #[])), args := #[.const p1], argTypes := #[3] }) 3 fun t15 =>
  xO .mul 3 (.int .i64 6) t15 fun t16 =>
  xO .add 3 t12 t16 fun t17 =>
  OpX Tryz.prog (.call { callee := .value (.const (.func (.func 153) #[] #[])), args := #[.const p2], argTypes := #[3] }) 3 fun t20 =>
  xO .add 3 t17 t20 fun t21 =>
  OpX Tryz.prog (.convert 3 5 (.const t21)) 5 fun t22 =>
  K t22
theorem pen_Colour_link (p0 p1 p2 : Value) : Lk 146 #[p0, p1, p2] (pen_Colour p0 p1 p2) := lk [p0, p1, p2] [] Tryz.func146 (by kernel_rfl) fun _ _ => by kernel_rfl
theorem pen_Colour_b : Bodied Tryz.prog 146 := bd Tryz.func146 (by kernel_rfl)
def pen_ways (K : Value → World → Prop) : World → Prop :=
  xA 175 fun t0 =>
  OpX Tryz.prog (.build 175 #[(0, .const (.int .u8 0)), (1, .const (.int .u8 1)), (2, .const (.int .u8 2)), (3, .const (.int .u8 4)), (4, .const (.int .u8 8)), (5, .const (.int .u8 16)), (6, .const (.int .u8 0)), (7, .const (.int .u8 32))]) 175 fun t1 =>
  xS 175 t0 t1 <|
  xD 175 t0 fun t0_1 =>
  K t0_1
theorem pen_ways_link : Lk 147 #[] (pen_ways) := lk [] [] Tryz.func147 (by kernel_rfl) fun _ _ => by kernel_rfl
theorem pen_ways_b : Bodied Tryz.prog 147 := bd Tryz.func147 (by kernel_rfl)
def pen_Colour_1 (p0 : Value) (K : Value → World → Prop) : World → Prop :=
  OpX Tryz.prog (.call { callee := .builtin .max, args := #[.const p0, .const (.int .i64 0)], argTypes := #[3, 3] }) 3 fun t4 =>
  OpX Tryz.prog (.call { callee := .builtin .min, args := #[.const t4, .const (.int .i64 255)], argTypes := #[3, 3] }) 3 fun t5 =>
  xO .quo 3 t5 (.int .i64 43) fun t6 =>
  K t6
theorem pen_Colour_1_link (p0 : Value) : Lk 153 #[p0] (pen_Colour_1 p0) := lk [p0] [] Tryz.func153 (by kernel_rfl) fun _ _ => by kernel_rfl
theorem pen_Colour_1_b : Bodied Tryz.prog 153 := bd Tryz.func153 (by kernel_rfl)
def escape_Num (p0 p1 p2 : Value) (K : Value → World → Prop) : World → Prop :=
  xB 34 p0 fun t3 =>
  Join1 (fun k1 =>
  xO .lss 3 p1 (.int .i64 0) fun t8 =>
  xW t8
  (k1 (.bool true)) <|
  xO .geq 3 p1 (.int .i64 8) fun t11 =>
  xW t11
  (k1 (.bool true)) <|
  xF 34 t3 4 fun t15 =>
  xL 3 t15 fun t16 =>
  xO .geq 3 p1 t16 fun t17 =>
  k1 t17) fun t18 =>
  xW t18
  (K p2) <|
  xF 34 t3 5 fun t21 =>
  xI 32 t21 p1 fun t22 =>
  xL 3 t22 fun t23 =>
  OpX Tryz.prog (.call { callee := .builtin .max, args := #[.const t23, .const p2], argTypes := #[3, 3] }) 3 fun t25 =>
  K t25
theorem escape_Num_link (p0 p1 p2 : Value) : Lk 111 #[p0, p1, p2] (escape_Num p0 p1 p2) := lk [p0, p1, p2] [(4, [18])] Tryz.func111 (by kernel_rfl) fun _ _ => by kernel_rfl
theorem escape_Num_b : Bodied Tryz.prog 111 := bd Tryz.func111 (by kernel_rfl)
def slices_Delete_api_Cell_api_Cell (p0 p1 p2 : Value) (K : Value → World → Prop) : World → Prop :=
  xU p0 43 fun t12 =>
  OpX Tryz.prog (.slice 43 (.const p0) (some (.const p1)) (some (.const p2)) (some (.const t12))) 43 fun _ =>
  xO .eql 3 p1 p2 fun t16 =>
  xW t16
  (K p0) <|
  xU p0 43 fun t19 =>
  DrewW <|
  xP (.slice 43 (.const p0) none (some (.const p1)) none) 43 fun t22 =>
  xP (.slice 43 (.const p0) (some (.const p2)) none none) 43 fun t25 =>
  OpX Tryz.prog (.call { callee := .builtin .append, args := #[.const t22, .const t25], argTypes := #[43, 43] }) 43 fun t26 =>
  xU t26 43 fun t29 =>
  OpX Tryz.prog (.slice 43 (.const t26) (some (.const t29)) (some (.const t19)) none) 43 fun t31 =>
  OpX Tryz.prog (.call { callee := .builtin .clear, args := #[.const t31], argTypes := #[43] }) 0 fun _ =>
  K t26
theorem slices_Delete_api_Cell_api_Cell_link (p0 p1 p2 : Value) : Lk 131 #[p0, p1, p2] (slices_Delete_api_Cell_api_Cell p0 p1 p2) := lk [p0, p1, p2] [] Tryz.func131 (by kernel_rfl) fun _ _ => by kernel_rfl
theorem slices_Delete_api_Cell_api_Cell_b : Bodied Tryz.prog 131 := bd Tryz.func131 (by kernel_rfl)
end Go.Proofs.YtjfembffjjijaaaGreat
namespace Lyc
open Go
theorem tailOf_wide (c : Cel) : c.tailOf.wide = false := by
  have h : ∀ a : BitVec 8, ((a &&& ~~~64#8) ||| 128#8) &&& 64#8 = 0#8 := by decide
  simp only [Cel.wide, Cel.tailOf, h]; rfl
theorem tailOf_tail (c : Cel) : c.tailOf.tail = true := by
  have h : ∀ a : BitVec 8, ¬ ((a &&& ~~~64#8) ||| 128#8) &&& 128#8 = 0#8 := by decide
  simp only [Cel.tail, Cel.tailOf, h]; rfl
theorem plain_wide {c : Cel} (h : c.plain = true) : c.wide = false := by
  have h1 : ∀ a : BitVec 8, a &&& 192#8 = 0#8 → a &&& 64#8 = 0#8 := by decide
  simp only [Cel.plain, decide_eq_true_eq] at h
  simp [Cel.wide, h1 _ h]
theorem plain_tail {c : Cel} (h : c.plain = true) : c.tail = false := by
  have h1 : ∀ a : BitVec 8, a &&& 192#8 = 0#8 → a &&& 128#8 = 0#8 := by decide
  simp only [Cel.plain, decide_eq_true_eq] at h
  simp [Cel.tail, h1 _ h]
theorem wide_64 {c : Cel} (h : c.wide = true) : 64 ≤ c.a.toNat := by
  have h1 : ∀ a : BitVec 8, ¬ a &&& 64#8 = 0#8 → 64#8 ≤ a := by decide
  simp only [Cel.wide, decide_eq_true_eq] at h
  exact BitVec.le_def.1 (h1 _ h)
theorem tail_64 {c : Cel} (h : c.tail = true) : 64 ≤ c.a.toNat := by
  have h1 : ∀ a : BitVec 8, ¬ a &&& 128#8 = 0#8 → 64#8 ≤ a := by decide
  simp only [Cel.tail, decide_eq_true_eq] at h
  exact BitVec.le_def.1 (h1 _ h)
theorem pairOK_fst {c d : Cel} (h : pairOK c d = true) : c.wide = true ∧ c.check = true ∧ d = c.tailOf := by
  simpa [pairOK, and_assoc] using h
theorem pairOK_wide {c d : Cel} (h : c.wide = false) : pairOK c d = false := by simp [pairOK, h]
theorem pairAt_cons (c : Cel) (l : List Cel) (i : Nat) : pairAt (c :: l) (i + 1) = pairAt l i := rfl
theorem pairAt_zero (c d : Cel) (l : List Cel) : pairAt (c :: d :: l) 0 = pairOK c d := rfl
def near (l : List Cel) : Nat → Bool
  | 0 => pairAt l 0
  | i + 1 => pairAt l (i + 1) || pairAt l i
theorem near_shift {c : Cel} {l : List Cel} (h : pairAt (c :: l) 0 = false) (i : Nat) : near (c :: l) (i + 1) = near l i := by
  cases i with
  | zero => show (pairAt l 0 || pairAt (c :: l) 0) = pairAt l 0; rw [h]; simp
  | succ i => rfl
theorem pairAt_tail {c d : Cel} {l : List Cel} (h : pairOK c d = true) : pairAt (d :: l) 0 = false := by
  cases l with
  | nil => rfl
  | cons e l => rw [pairAt_zero]; exact pairOK_wide (by rw [(pairOK_fst h).2.2]; exact tailOf_wide c)
theorem near_shift2 {c d : Cel} {l : List Cel} (h : pairOK c d = true) (i : Nat) : near (c :: d :: l) (i + 2) = near l i := by
  rw [← near_shift (pairAt_tail h) i]
  rfl
theorem mend_get : ∀ (l : List Cel) (i : Nat) (c : Cel), l[i]? = some c → (mend l)[i]? = some (if near l i then c else c.fix)
  | [], i, c, h => by simp at h
  | [d], 0, c, h => by simp at h; subst h; rfl
  | [d], i + 1, c, h => by simp at h
  | c :: d :: l, i, x, h => by
    unfold mend
    by_cases hp : pairOK c d = true
    · rw [if_pos hp]
      match i with
      | 0 => simp at h; subst h; simp [near, pairAt_zero, hp]
      | 1 => simp at h; subst h; simp [near, pairAt_zero, hp]
      | i + 2 => rw [near_shift2 hp]; exact mend_get l i x h
    · rw [if_neg hp]
      have hp' : pairAt (c :: d :: l) 0 = false := by rw [pairAt_zero]; simpa using hp
      match i with
      | 0 => simp at h; subst h; simp [near, hp']
      | i + 1 => rw [near_shift hp']; exact mend_get (d :: l) i x h
theorem right_get : ∀ (l : List Cel) (_ : right l = true) (i : Nat) (c : Cel), l[i]? = some c → near l i = true ∨ c.single = true
  | [], _, i, c, h => by simp at h
  | [d], hr, 0, c, h => by simp at h; subst h; exact .inr hr
  | [d], hr, i + 1, c, h => by simp at h
  | c :: d :: l, hr, i, x, h => by
    unfold right at hr
    by_cases hp : pairOK c d = true
    · rw [if_pos hp] at hr
      match i with
      | 0 => exact .inl (by simp [near, pairAt_zero, hp])
      | 1 => exact .inl (by simp [near, pairAt_zero, hp])
      | i + 2 => rw [near_shift2 hp]; exact right_get l hr i x h
    · rw [if_neg hp, Bool.and_eq_true] at hr
      have hp' : pairAt (c :: d :: l) 0 = false := by rw [pairAt_zero]; simpa using hp
      match i with
      | 0 => simp at h; subst h; exact .inr hr.1
      | i + 1 => rw [near_shift hp']; exact right_get (d :: l) hr.2 i x h
theorem right_of_get : ∀ (l : List Cel) (_ : ∀ i c, l[i]? = some c → near l i = true ∨ c.single = true), right l = true
  | [], _ => rfl
  | [d], h => by
    rcases h 0 d rfl with h | h
    · exact absurd h (by simp [near, pairAt])
    · exact h
  | c :: d :: l, h => by
    unfold right
    by_cases hp : pairOK c d = true
    · rw [if_pos hp]
      exact right_of_get l fun i x hx => by have := h (i + 2) x hx; rwa [near_shift2 hp] at this
    · rw [if_neg hp, Bool.and_eq_true]
      have hp' : pairAt (c :: d :: l) 0 = false := by rw [pairAt_zero]; simpa using hp
      refine ⟨?_, right_of_get (d :: l) fun i x hx => by have := h (i + 1) x hx; rwa [near_shift hp'] at this⟩
      rcases h 0 c rfl with h | h
      · exact absurd h (by simp [near, hp'])
      · exact h
theorem fix_single (c : Cel) : c.fix.single = true := by
  unfold Cel.fix
  split
  · assumption
  · have : width 32 = 1 := by decide
    simp [Cel.single, Cel.plain, Cel.check, Cel.tail, Cel.wide, this]
theorem fix_of_single {c : Cel} (h : c.single = true) : c.fix = c := by unfold Cel.fix; rw [if_pos h]
theorem single_plain {c : Cel} (h : c.single = true) : c.plain = true := by unfold Cel.single at h; rw [Bool.and_eq_true] at h; exact h.1
theorem mend_id {l : List Cel} (h : right l = true) : mend l = l := by
  apply List.ext_getElem?
  intro i
  by_cases hi : i < l.length
  · rw [mend_get l i _ (List.getElem?_eq_getElem hi), List.getElem?_eq_getElem hi]
    rcases right_get l h i _ (List.getElem?_eq_getElem hi) with h1 | h1
    · rw [if_pos h1]
    · rw [fix_of_single h1]; simp
  · rw [List.getElem?_eq_none (by rw [mend_len]; omega), List.getElem?_eq_none (by omega)]
theorem right_mend : ∀ l : List Cel, right (mend l) = true
  | [] => rfl
  | [c] => fix_single c
  | c :: d :: l => by
    unfold mend
    by_cases hp : pairOK c d = true
    · rw [if_pos hp]; unfold right; rw [if_pos hp]; exact right_mend l
    · rw [if_neg hp]
      have ih := right_mend (d :: l)
      generalize mend (d :: l) = m at ih
      cases m with
      | nil => exact fix_single c
      | cons e m =>
        unfold right
        rw [pairOK_wide (plain_wide (single_plain (fix_single c)))]
        simp [fix_single, ih]
theorem right_single {l : List Cel} (h : ∀ c ∈ l, c.single = true) : right l = true :=
  right_of_get l fun _ _ hi => .inr (h _ (List.mem_of_getElem? hi))
theorem usual_single {c : Cel} (h : c.usual = true) : c.single = true := by simpa [Cel.usual, Cel.single, Bool.and_comm] using h
theorem near_at {l : List Cel} {i : Nat} (h : near l i = true) : pairAt l i = true ∨ (0 < i ∧ pairAt l (i - 1) = true) := by
  cases i with
  | zero => exact .inl h
  | succ i => simp only [near, Bool.or_eq_true] at h; exact h.elim .inl fun h => .inr ⟨by omega, h⟩
theorem pairAt_get {l : List Cel} {i : Nat} (h : pairAt l i = true) : ∃ c, l[i]? = some c ∧ l[i + 1]? = some c.tailOf ∧ c.wide = true ∧ c.check = true := by
  have hl := pairAt_lt h
  unfold pairAt at h
  rw [List.getElem?_eq_getElem hl, List.getElem?_eq_getElem (show i < l.length by omega)] at h
  have := pairOK_fst h
  exact ⟨l[i], List.getElem?_eq_getElem (by omega), by rw [List.getElem?_eq_getElem hl, this.2.2], this.1, this.2.1⟩
theorem pairAt_of {l : List Cel} {i : Nat} {c : Cel} (h1 : l[i]? = some c) (h2 : l[i + 1]? = some c.tailOf) (h3 : c.wide = true) (h4 : c.check = true) : pairAt l i = true := by
  unfold pairAt; rw [h1, h2]; simp [pairOK, h3, h4]
theorem Gr.right_of_at {g : Gr} (h : g.right = true) (y : Nat) (hy : y < g.h) : Lyc.right (g.row y) = true := Gr.right.at h hy
theorem Gr.chg_right {g : Gr} (hg : g.ok) (hr : g.right = true) {top fin : Int} {f : Nat → List Cel} (hf : ∀ y, y < g.h → top ≤ (y : Int) → (y : Int) < fin → (f y).length = g.w) : (g.chg top fin f).right = true :=
  (g.chg top fin f).right_of fun y hy => by
    rw [Gr.chg_row hg hf hy]
    split
    · exact right_mend _
    · exact Gr.right.at hr hy
theorem Gr.plain_row {w h : Nat} {c : Cel} {y : Nat} (hy : y < h) : (Gr.plain w h c).row y = List.replicate w c := by
  have h1 := Nat.mul_le_mul_right w (show y + 1 ≤ h by omega)
  rw [Nat.add_mul, Nat.mul_comm h w] at h1
  simp [Gr.row, Gr.plain]
  omega
theorem Gr.plain_right {w h : Nat} {c : Cel} (hc : c.single = true) : (Gr.plain w h c).right = true :=
  Gr.right_of fun y hy => by rw [Gr.plain_row (w := w) (h := h) (c := c) hy]; exact right_single fun x hx => by rw [List.eq_of_mem_replicate hx]; exact hc
theorem blank_single : Cel.blank.single = true := by have := fix_single ⟨32, 0, 0, 1⟩; decide
def Cel.fits (c : Cel) : Prop := -2147483648 ≤ c.r ∧ c.r ≤ 2147483647
theorem tailOf_check (c : Cel) : c.tailOf.check = true := by
  unfold Cel.check
  rw [tailOf_tail, tailOf_wide]
  simp [Cel.tailOf]
def prev (l : List Cel) : Nat → Bool
  | 0 => false
  | i + 1 => pairAt l i
theorem near_prev (l : List Cel) (i : Nat) : near l i = (pairAt l i || prev l i) := by cases i <;> simp [near, prev]
theorem prev_get {l : List Cel} {i : Nat} (h : prev l i = true) : ∃ c, l[i]? = some c.tailOf ∧ 0 < i ∧ l[i - 1]? = some c ∧ c.wide = true ∧ c.check = true := by
  cases i with
  | zero => exact absurd h (by simp [prev])
  | succ i =>
    obtain ⟨c, h1, h2, h3, h4⟩ := pairAt_get (show pairAt l i = true from h)
    exact ⟨c, h2, by omega, h1, h3, h4⟩
theorem ok_iff {l : List Cel} {i : Nat} {c : Cel} (h : l[i]? = some c) : (near l i = true ∨ c.single = true) ↔ (c.check = true ∧ (c.wide = true → pairAt l i = true) ∧ (c.tail = true → prev l i = true)) := by
  rw [near_prev, Bool.or_eq_true]
  constructor
  · rintro ((h1 | h1) | h1)
    · obtain ⟨d, h2, h3, h4, h5⟩ := pairAt_get h1
      rw [h] at h2; cases h2
      refine ⟨h5, fun _ => h1, fun ht => ?_⟩
      unfold Cel.check at h5
      rw [if_pos ht, h4] at h5
      simp at h5
    · obtain ⟨d, h2, h3, h4, h5, h6⟩ := prev_get h1
      rw [h] at h2; cases h2
      exact ⟨tailOf_check d, fun hw => absurd hw (by rw [tailOf_wide]; simp), fun _ => h1⟩
    · have hp := single_plain h1
      refine ⟨?_, fun hw => absurd hw (by rw [plain_wide hp]; simp), fun ht => absurd ht (by rw [plain_tail hp]; simp)⟩
      unfold Cel.single at h1
      rw [Bool.and_eq_true] at h1; exact h1.2
  · rintro ⟨h1, h2, h3⟩
    by_cases hw : c.wide = true
    · exact .inl (.inl (h2 hw))
    · by_cases ht : c.tail = true
      · exact .inl (.inr (h3 ht))
      · right
        have h4 : ∀ a : BitVec 8, a &&& 64#8 = 0#8 → a &&& 128#8 = 0#8 → a &&& 192#8 = 0#8 := by decide
        simp only [Cel.wide, Cel.tail, decide_eq_true_eq, Classical.not_not] at hw ht
        simp [Cel.single, Cel.plain, h4 _ hw ht, h1]
theorem right_check {l : List Cel} (h : right l = true) {c : Cel} (hc : c ∈ l) : c.check = true := by
  obtain ⟨i, hi⟩ := List.mem_iff_getElem?.1 hc
  exact ((ok_iff hi).1 (right_get l h i c hi)).1
theorem width_bd {r : Int} (h : ¬ width r = 0) : 32 ≤ r ∧ r ≤ 1114111 := by
  unfold width at h
  by_cases h1 : r < 32 ∨ 1114111 < r
  · rw [if_pos h1] at h; exact absurd rfl h
  · omega
theorem check_fits {c : Cel} (h : c.check = true) : c.fits := by
  unfold Cel.check at h
  unfold Cel.fits
  by_cases ht : c.tail = true
  · rw [if_pos ht] at h; simp at h; omega
  · rw [if_neg ht] at h
    by_cases hw : c.wide = true
    · rw [if_pos hw] at h
      have := width_bd (r := c.r) (by simp at h; omega)
      omega
    · rw [if_neg hw] at h
      have := width_bd (r := c.r) (by simp at h; omega)
      omega
theorem right_fits {l : List Cel} (h : right l = true) : ∀ c ∈ l, c.fits := fun _ hc => check_fits (right_check h hc)
def lay (cs : List Cel) (p : Nat) (l : List Cel) (k : Nat) : List Cel := cs.take p ++ l.take k ++ cs.drop (p + k)
theorem lay_zero (cs : List Cel) (p : Nat) (l : List Cel) : lay cs p l 0 = cs := by simp [lay]
theorem lay_len {cs : List Cel} {p : Nat} {l : List Cel} {k : Nat} (hk : k ≤ l.length) (hp : p + k ≤ cs.length) : (lay cs p l k).length = cs.length := by simp [lay]; omega
theorem lay_get {cs : List Cel} {p : Nat} {l : List Cel} {k : Nat} (hk : k ≤ l.length) (hp : p + k ≤ cs.length) (i : Nat) : (lay cs p l k)[i]? = if p ≤ i ∧ i < p + k then l[i - p]? else cs[i]? := by
  unfold lay
  by_cases h1 : i < p
  · rw [List.append_assoc, List.getElem?_append_left (by simp; omega), List.getElem?_take_of_lt h1, if_neg (by omega)]
  · by_cases h2 : i < p + k
    · rw [List.getElem?_append_left (by simp; omega), List.getElem?_append_right (by simp; omega), if_pos (by omega)]
      have e : i - (cs.take p).length = i - p := by simp; omega
      rw [e, List.getElem?_take_of_lt (by omega)]
    · rw [List.getElem?_append_right (by simp; omega), List.getElem?_drop, if_neg (by omega)]
      congr 1; simp; omega
theorem lay_set {cs : List Cel} {p : Nat} {l : List Cel} {k : Nat} (hk : k < l.length) (hp : p + k < cs.length) : (lay cs p l k).set (p + k) l[k] = lay cs p l (k + 1) := by
  apply List.ext_getElem?
  intro i
  rw [List.getElem?_set, lay_get (by omega) (by omega), lay_get (by omega) (by omega), lay_len (by omega) (by omega)]
  by_cases h : p + k = i
  · subst h
    rw [if_pos rfl, if_pos hp, if_pos (by omega), List.getElem?_eq_getElem (by omega)]
    simp
  · rw [if_neg h]
    by_cases h2 : p ≤ i ∧ i < p + k
    · rw [if_pos h2, if_pos (by omega)]
    · rw [if_neg h2, if_neg (by omega)]
theorem lay_mem {cs : List Cel} {p : Nat} {l : List Cel} {k : Nat} {c : Cel} (h : c ∈ lay cs p l k) : c ∈ cs ∨ c ∈ l := by
  unfold lay at h
  simp only [List.mem_append] at h
  rcases h with (h | h) | h
  · exact .inl (List.mem_of_mem_take h)
  · exact .inr (List.mem_of_mem_take h)
  · exact .inl (List.mem_of_mem_drop h)
theorem mem_row {g : Gr} (hg : g.ok) {c : Cel} (h : c ∈ g.cs) : ∃ y, y < g.h ∧ c ∈ g.row y := by
  obtain ⟨i, hi⟩ := List.mem_iff_getElem?.1 h
  have hil := (List.getElem?_eq_some_iff.1 hi).1
  have hw := hg.w0
  have hm : i % g.w < g.w := Nat.mod_lt _ hw
  have hd : i / g.w < g.h := by
    apply Nat.div_lt_of_lt_mul
    rw [← hg.len]; exact hil
  have he : i / g.w * g.w + i % g.w = i := by rw [Nat.mul_comm]; exact Nat.div_add_mod i g.w
  refine ⟨i / g.w, hd, ?_⟩
  apply List.mem_of_getElem? (i := i % g.w)
  rw [Gr.row, List.getElem?_take_of_lt hm, List.getElem?_drop, he, hi]
theorem Gr.ok.fits_all {g : Gr} (hg : g.ok) (hr : g.right = true) : ∀ c ∈ g.cs, c.fits := by
  intro c hc
  obtain ⟨y, hy, h⟩ := mem_row hg hc
  exact right_fits (Gr.right.at hr hy) c h
def layRow (g : Gr) (Y : Nat) (l : List Cel) (y : Nat) : List Cel := if y = Y then mend (l ++ (g.row y).drop l.length) else g.row y
theorem lay_row {g : Gr} (hg : g.ok) {Y : Nat} (hY : Y < g.h) {l : List Cel} (hl : l.length ≤ g.w) {y : Nat} (hy : y < g.h) :
    (⟨g.w, g.h, lay g.cs (Y * g.w) l l.length⟩ : Gr).row y = if y = Y then l ++ (g.row y).drop l.length else g.row y := by
  have hrt := hg.row_lt hY
  have hrt' := hg.row_lt hy
  apply List.ext_getElem?
  intro i
  by_cases hi : i < g.w
  · rw [Gr.row, List.getElem?_take_of_lt hi, List.getElem?_drop]
    show (lay g.cs (Y * g.w) l l.length)[y * g.w + i]? = _
    rw [lay_get (Nat.le_refl _) (by omega)]
    by_cases he : y = Y
    · subst he
      rw [if_pos rfl]
      by_cases h2 : i < l.length
      · rw [if_pos (by omega), List.getElem?_append_left h2]; congr 1; omega
      · rw [if_neg (by omega), List.getElem?_append_right (by omega), List.getElem?_drop, hg.at_some hi hy]
        have : l.length + (i - l.length) = i := by omega
        rw [this, hg.row_get hi hy]
    · rw [if_neg he, hg.row_get hi hy, ← hg.at_some hi hy, if_neg]
      intro hh
      rcases Nat.lt_or_gt_of_ne he with h | h
      · have := Nat.mul_le_mul_right g.w (show y + 1 ≤ Y by omega); rw [Nat.add_mul] at this; omega
      · have := Nat.mul_le_mul_right g.w (show Y + 1 ≤ y by omega); rw [Nat.add_mul] at this; omega
  · have hrl := hg.row_len hy
    rw [Gr.row, List.getElem?_eq_none (by simp; omega)]
    split
    · rw [List.getElem?_eq_none (by simp; omega)]
    · rw [List.getElem?_eq_none (by omega)]
theorem layRow_len {g : Gr} (hg : g.ok) {Y : Nat} {l : List Cel} (hl : l.length ≤ g.w) {y : Nat} (hy : y < g.h) : (layRow g Y l y).length = g.w := by
  have hrl := hg.row_len hy
  unfold layRow
  split
  · rw [mend_len]; simp; omega
  · exact hrl
theorem layRow_right {g : Gr} (hr : g.right = true) {Y : Nat} {l : List Cel} {y : Nat} (hy : y < g.h) : right (layRow g Y l y) = true := by
  unfold layRow
  split
  · exact right_mend _
  · exact Gr.right.at hr hy
end Lyc
namespace Lyc
open Go
theorem Gr.chg_at {g : Gr} (h : g.ok) {top fin : Int} {f : Nat → List Cel} (hf : ∀ y, y < g.h → top ≤ (y : Int) → (y : Int) < fin → (f y).length = g.w) {x y : Nat} (hx : x < g.w) (hy : y < g.h) :
    some ((g.chg top fin f).at x y) = (if top ≤ y ∧ (y : Int) < fin then mend (f y) else g.row y)[x]? := by
  have hok := Gr.chg_ok h hf
  rw [← Gr.chg_row h hf hy, hok.row_get (show x < (g.chg top fin f).w from hx) (show y < (g.chg top fin f).h from hy)]
theorem mended_at {l : List Cel} {i : Nat} {c d : Cel} (h : l[i]? = some c) (hd : (mend l)[i]? = some d) (hne : d ≠ c) : near l i = false ∧ c.single = false := by
  rw [mend_get l i c h] at hd
  cases hn : near l i with
  | true => rw [hn] at hd; simp at hd; exact absurd hd.symm hne
  | false =>
    rw [hn] at hd
    refine ⟨rfl, ?_⟩
    cases hs : c.single with
    | false => rfl
    | true => simp [fix_of_single hs] at hd; exact absurd hd.symm hne
theorem fill_at {g : Gr} (hg : g.ok) (hr : g.right = true) {X Y W H : Int} {c : Cel} (hu : c.usual = true) {x y : Nat} (hx : x < g.w) (hy : y < g.h) :
    ((X ≤ x ∧ (x : Int) < X + W ∧ Y ≤ y ∧ (y : Int) < Y + H) → (g.fill X Y W H c).at x y = c) ∧
    (¬ (X ≤ x ∧ (x : Int) < X + W ∧ Y ≤ y ∧ (y : Int) < Y + H) → (g.fill X Y W H c).at x y ≠ g.at x y → (Y ≤ y ∧ (y : Int) < Y + H) ∧ 64 ≤ (g.at x y).a.toNat ∧ ((x : Int) = X - 1 ∨ (x : Int) = X + W)) := by
  have hat := Gr.chg_at hg (top := (spanG Y H g.h).1) (fin := (spanG Y H g.h).2) (f := fun y => lineOf g.w fun x => if (spanG X W g.w).1 ≤ (x : Int) ∧ (x : Int) < (spanG X W g.w).2 then c else g.at x y) (fun _ _ _ _ => lineOf_len _ _) hx hy
  have hsy : ((spanG Y H g.h).1 ≤ (y : Int) ∧ (y : Int) < (spanG Y H g.h).2) ↔ (Y ≤ y ∧ (y : Int) < Y + H) := spanG_mem (by omega) (by omega)
  have hsx : ∀ i : Nat, i < g.w → (((spanG X W g.w).1 ≤ (i : Int) ∧ (i : Int) < (spanG X W g.w).2) ↔ (X ≤ i ∧ (i : Int) < X + W)) := fun i hi => spanG_mem (by omega) (by omega)
  have hfl : (g.fill X Y W H c) = g.chg (spanG Y H g.h).1 (spanG Y H g.h).2 (fun y => lineOf g.w fun x => if (spanG X W g.w).1 ≤ (x : Int) ∧ (x : Int) < (spanG X W g.w).2 then c else g.at x y) := rfl
  rw [← hfl] at hat
  generalize (g.fill X Y W H c).at x y = b at hat
  generalize hL : (lineOf g.w fun x => if (spanG X W g.w).1 ≤ (x : Int) ∧ (x : Int) < (spanG X W g.w).2 then c else g.at x y) = L at hat
  have hLg : ∀ i, i < g.w → L[i]? = some (if X ≤ i ∧ (i : Int) < X + W then c else g.at i y) := by
    intro i hi
    rw [← hL, lineOf_get hi]
    simp only [hsx i hi]
  have hLn : ∀ i, ¬ i < g.w → L[i]? = none := by
    intro i hi
    rw [← hL, List.getElem?_eq_none (by rw [lineOf_len]; omega)]
  constructor
  · rintro ⟨h1, h2, h3, h4⟩
    rw [if_pos (hsy.2 ⟨h3, h4⟩), mend_get L x c (by rw [hLg x hx, if_pos ⟨h1, h2⟩])] at hat
    rw [fix_of_single (usual_single hu)] at hat
    simpa using hat
  · intro hni hne
    by_cases hyy : Y ≤ y ∧ (y : Int) < Y + H
    · refine ⟨hyy, ?_⟩
      rw [if_pos (hsy.2 hyy)] at hat
      have hLx : L[x]? = some (g.at x y) := by rw [hLg x hx, if_neg (by omega)]
      obtain ⟨hn, hs⟩ := mended_at hLx hat.symm hne
      have hrow := right_get (g.row y) (Gr.right.at hr hy) x (g.at x y) (hg.row_get hx hy)
      rcases hrow with h | h
      · rw [near_prev] at hn h
        rw [Bool.or_eq_false_iff] at hn
        rw [Bool.or_eq_true] at h
        rcases h with h | h
        · obtain ⟨d, p1, p2, p3, p4⟩ := pairAt_get h
          rw [hg.row_get hx hy] at p1
          cases p1
          refine ⟨wide_64 p3, .inl ?_⟩
          have hx1 : x + 1 < g.w := by have := (List.getElem?_eq_some_iff.1 p2).1; rw [hg.row_len hy] at this; exact this
          by_cases hin : X ≤ ((x + 1 : Nat) : Int) ∧ ((x + 1 : Nat) : Int) < X + W
          · omega
          · have : pairAt L x = true := pairAt_of hLx (by rw [hLg (x + 1) hx1, if_neg hin, ← hg.row_get hx1 hy, p2]) p3 p4
            rw [hn.1] at this; cases this
        · obtain ⟨d, p1, p2, p3, p4, p5⟩ := prev_get h
          rw [hg.row_get hx hy] at p1
          rw [Option.some.injEq] at p1
          refine ⟨by rw [p1]; exact tail_64 (tailOf_tail d), .inr ?_⟩
          obtain ⟨k, rfl⟩ : ∃ k, x = k + 1 := ⟨x - 1, by omega⟩
          have hk : k < g.w := by omega
          by_cases hin : X ≤ ((k : Nat) : Int) ∧ ((k : Nat) : Int) < X + W
          · omega
          · have e1 : k + 1 - 1 = k := by omega
            rw [e1, hg.row_get hk hy] at p3
            rw [Option.some.injEq] at p3
            have : pairAt L k = true := pairAt_of (c := d) (by rw [hLg k hk, if_neg hin, p3]) (by rw [hLx, p1]) p4 p5
            have h9 : pairAt L k = false := hn.2
            rw [h9] at this; cases this
      · rw [hs] at h; cases h
    · rw [if_neg (fun h => hyy (hsy.1 h)), hg.row_get hx hy] at hat
      simp at hat
      exact absurd hat hne
theorem scrollF_right {g : Gr} (hr : g.right = true) {T E N : Int} {c : Cel} (hu : c.usual = true) (ht : 0 ≤ T) (he : E ≤ g.h) (y : Nat) : right (g.scrollF T E N c y) = true := by
  unfold Gr.scrollF
  by_cases h : (y : Int) + N < T ∨ E ≤ (y : Int) + N
  · rw [if_pos h]
    refine right_single fun d hd => ?_
    unfold lineOf at hd
    obtain ⟨_, _, rfl⟩ := List.mem_map.1 hd
    exact usual_single hu
  · rw [if_neg h]; exact Gr.right.at hr (by omega)
theorem scroll_at {g : Gr} (hg : g.ok) (hr : g.right = true) {T E N : Int} {c : Cel} (hu : c.usual = true) {x y : Nat} (hx : x < g.w) (hy : y < g.h) :
    (g.scroll T E N c).at x y = if min (max T 0) g.h ≤ (y : Int) ∧ (y : Int) < min (max E 0) g.h then
      (if (y : Int) + min (max N (-g.h)) g.h < min (max T 0) g.h ∨ min (max E 0) g.h ≤ (y : Int) + min (max N (-g.h)) g.h then c else g.at x ((y : Int) + min (max N (-g.h)) g.h).toNat) else g.at x y := by
  have hl := hg.scrollF_len (N := min (max N (-g.h)) g.h) (c := c) (show 0 ≤ min (max T 0) g.h by omega) (show min (max E 0) g.h ≤ g.h by omega)
  have hat := Gr.chg_at hg (top := min (max T 0) g.h) (fin := min (max E 0) g.h) (f := g.scrollF (min (max T 0) g.h) (min (max E 0) g.h) (min (max N (-g.h)) g.h) c) (fun y _ _ _ => hl y) hx hy
  have hsc : g.scroll T E N c = g.chg (min (max T 0) g.h) (min (max E 0) g.h) (g.scrollF (min (max T 0) g.h) (min (max E 0) g.h) (min (max N (-g.h)) g.h) c) := rfl
  rw [← hsc, mend_id (scrollF_right hr hu (by omega) (by omega) y)] at hat
  rw [← Option.some.injEq, hat]
  by_cases h : min (max T 0) g.h ≤ (y : Int) ∧ (y : Int) < min (max E 0) g.h
  · rw [if_pos h, if_pos h]
    unfold Gr.scrollF
    by_cases h2 : (y : Int) + min (max N (-g.h)) g.h < min (max T 0) g.h ∨ min (max E 0) g.h ≤ (y : Int) + min (max N (-g.h)) g.h
    · rw [if_pos h2, if_pos h2, lineOf_get hx]
    · rw [if_neg h2, if_neg h2, hg.row_get hx (by omega)]
  · rw [if_neg h, if_neg h, hg.row_get hx hy]
theorem scroll_ok {g : Gr} (hg : g.ok) {T E N : Int} {c : Cel} : (g.scroll T E N c).ok :=
  Gr.chg_ok hg fun y _ _ _ => hg.scrollF_len (by omega) (by omega) y
theorem scroll_len {g : Gr} (hg : g.ok) {T E N : Int} {c : Cel} : (g.scroll T E N c).cs.length = g.cs.length :=
  Gr.chg_len hg fun y _ _ _ => hg.scrollF_len (by omega) (by omega) y
theorem scroll_right {g : Gr} (hg : g.ok) (hr : g.right = true) {T E N : Int} {c : Cel} : (g.scroll T E N c).right = true :=
  Gr.chg_right hg hr fun y _ _ _ => hg.scrollF_len (by omega) (by omega) y
theorem scrolled {g : Gr} (hg : g.ok) (hr : g.right = true) {T E k : Int} (h1 : 0 ≤ T) (h2 : 0 ≤ E) (h3 : 0 ≤ k) {c : Cel} (hu : c.usual = true) {x y : Nat} (hx : x < g.w) (hy : y < g.h) :
    ((g.scroll T E k c).scroll T E (-k) c).at x y = (if (T ≤ (y : Int) ∧ (y : Int) < min E g.h) ∧ (y : Int) < T + k then c else g.at x y) ∧
    ((T ≤ (y : Int) ∧ (y : Int) < min E g.h) → (y : Int) + k < min E g.h → (g.scroll T E k c).at x y = g.at x ((y : Int) + k).toNat) ∧
    ((T ≤ (y : Int) ∧ (y : Int) < min E g.h) → min E g.h ≤ (y : Int) + k → (g.scroll T E k c).at x y = c) := by
  have hw : (g.scroll T E k c).w = g.w := rfl
  have hh : (g.scroll T E k c).h = g.h := rfl
  have e1 : max T 0 = T := by omega
  have e2 : max E 0 = E := by omega
  have u := fun (y' : Nat) (hy' : y' < g.h) => scroll_at hg hr (T := T) (E := E) (N := k) hu hx hy'
  have v := scroll_at (scroll_ok (T := T) (E := E) (N := k) (c := c) hg) (scroll_right (T := T) (E := E) (N := k) (c := c) hg hr) (T := T) (E := E) (N := -k) hu (x := x) (y := y) hx hy
  rw [hh] at v
  simp only [e1, e2] at u v
  refine ⟨?_, ?_, ?_⟩
  · rw [v]
    by_cases hin : min T g.h ≤ (y : Int) ∧ (y : Int) < min E g.h
    · rw [if_pos hin]
      by_cases hf : (y : Int) < T + k
      · rw [if_pos (by omega), if_pos (by omega)]
      · rw [if_neg (by omega), if_neg (by omega), u _ (by omega), if_pos (by omega), if_neg (by omega)]
        congr 1; omega
    · rw [if_neg hin, if_neg (by omega), u y hy, if_neg hin]
  · intro hin hk
    rw [u y hy, if_pos (by omega), if_neg (by omega)]
    congr 1; omega
  · intro hin hk
    rw [u y hy, if_pos (by omega), if_pos (by omega)]
theorem Gr.of_rows {g : Gr} (hg : g.ok) {R : Nat → List Cel} (h : ∀ y, y < g.h → R y = g.row y) : Gr.of g.w g.h R = g := by
  unfold Gr.of
  rw [rowsOf_congr h, hg.rows]
theorem blit_same {g f : Gr} (hf : f.ok) (hr : f.right = true) (hw : g.w = f.w) (hh : g.h = f.h) : g.blit f 0 0 = f := by
  unfold Gr.blit Gr.chg
  rw [hw, hh]
  refine Gr.of_rows hf fun y hy => ?_
  rw [if_pos ((spanG_mem (by omega) (by omega)).2 ⟨by omega, by omega⟩)]
  have : (lineOf f.w fun x => if (spanG 0 f.w f.w).1 ≤ (x : Int) ∧ (x : Int) < (spanG 0 f.w f.w).2 then (if 0 ≤ (y : Int) - 0 ∧ (y : Int) - 0 < f.h ∧ 0 ≤ (x : Int) - 0 ∧ (x : Int) - 0 < f.w then f.at ((x : Int) - 0).toNat ((y : Int) - 0).toNat else Cel.none) else g.at x y) = f.row y := by
    rw [hf.row_line hy]
    refine lineOf_congr fun i hi => ?_
    rw [if_pos ((spanG_mem (by omega) (by omega)).2 ⟨by omega, by omega⟩), if_pos (by omega)]
    congr 1 <;> omega
  dsimp only
  rw [this, mend_id (Gr.right.at hr hy)]
theorem resize_same {g : Gr} (hg : g.ok) (hr : g.right = true) (c : Cel) : g.resize g.w g.h c = g := by
  unfold Gr.resize Gr.chg
  show Gr.of g.w g.h _ = g
  refine Gr.of_rows hg fun y hy => ?_
  rw [if_pos (by show (0 : Int) ≤ y ∧ (y : Int) < min (g.h : Int) g.h; omega)]
  have : (lineOf g.w fun x => if x < g.w then g.at x y else (Gr.plain g.w g.h c).at x y) = g.row y := by
    rw [hg.row_line hy]
    exact lineOf_congr fun i hi => if_pos hi
  dsimp only
  rw [this, mend_id (Gr.right.at hr hy)]
theorem resize_rows {g : Gr} {w h : Nat} {c : Cel} : ∀ y, y < (Gr.plain w h c).h → (0 : Int) ≤ (y : Int) → (y : Int) < min (h : Int) g.h → (lineOf w fun x => if x < g.w then g.at x y else (Gr.plain w h c).at x y).length = (Gr.plain w h c).w := fun _ _ _ _ => lineOf_len _ _
theorem resize_ok {g : Gr} {w h : Nat} {c : Cel} (w0 : 0 < w) (w1 : w ≤ 200) (h0 : 0 < h) (h1 : h ≤ 60) : (g.resize w h c).ok := Gr.chg_ok (Gr.plain_ok w0 w1 h0 h1 c) resize_rows
theorem resize_right {g : Gr} {w h : Nat} {c : Cel} (hu : c.usual = true) (w0 : 0 < w) (w1 : w ≤ 200) (h0 : 0 < h) (h1 : h ≤ 60) : (g.resize w h c).right = true := Gr.chg_right (Gr.plain_ok w0 w1 h0 h1 c) (Gr.plain_right (usual_single hu)) resize_rows
theorem resize_at {g : Gr} (hg : g.ok) (hr : g.right = true) {w h : Nat} {c : Cel} (w0 : 0 < w) (w1 : w ≤ 200) (h0 : 0 < h) (h1 : h ≤ 60) {x y : Nat} (hx : x < w) (hxg : x < g.w) (hy : y < h) (hyg : y < g.h) (hne : (g.resize w h c).at x y ≠ g.at x y) :
    x + 1 = w ∧ 64 ≤ (g.at x y).a.toNat ∧ ((g.resize w h c).at x y).r = 32 := by
  have hat := Gr.chg_at (Gr.plain_ok w0 w1 h0 h1 c) (top := 0) (fin := min (h : Int) g.h) (f := fun y => lineOf w fun x => if x < g.w then g.at x y else (Gr.plain w h c).at x y) resize_rows (x := x) (y := y) hx hy
  have hrs : g.resize w h c = (Gr.plain w h c).chg 0 (min (h : Int) g.h) (fun y => lineOf w fun x => if x < g.w then g.at x y else (Gr.plain w h c).at x y) := rfl
  rw [← hrs, if_pos (by omega)] at hat
  generalize (g.resize w h c).at x y = d at hat hne
  generalize hL : (lineOf w fun x => if x < g.w then g.at x y else (Gr.plain w h c).at x y) = L at hat
  have hLg : ∀ i, i < w → i < g.w → L[i]? = some (g.at i y) := by
    intro i hi hig
    rw [← hL, lineOf_get hi, if_pos hig]
  have hLx := hLg x hx hxg
  obtain ⟨hn, hs⟩ := mended_at hLx hat.symm hne
  rw [mend_get L x _ hLx, hn] at hat
  have hd : d = (g.at x y).fix := by simpa using hat
  have hr32 : d.r = 32 := by
    rw [hd]
    unfold Cel.fix
    rw [hs]; rfl
  rcases right_get (g.row y) (Gr.right.at hr hyg) x (g.at x y) (hg.row_get hxg hyg) with h | h
  · rw [near_prev] at hn h
    rw [Bool.or_eq_false_iff] at hn
    rw [Bool.or_eq_true] at h
    rcases h with h | h
    · obtain ⟨e, p1, p2, p3, p4⟩ := pairAt_get h
      rw [hg.row_get hxg hyg] at p1
      cases p1
      have hx1 : x + 1 < g.w := by have := (List.getElem?_eq_some_iff.1 p2).1; rw [hg.row_len hyg] at this; exact this
      refine ⟨?_, wide_64 p3, hr32⟩
      by_cases hw : x + 1 < w
      · have : pairAt L x = true := pairAt_of hLx (by rw [hLg (x + 1) hw hx1, ← hg.row_get hx1 hyg, p2]) p3 p4
        rw [hn.1] at this; cases this
      · omega
    · obtain ⟨e, p1, p2, p3, p4, p5⟩ := prev_get h
      rw [hg.row_get hxg hyg, Option.some.injEq] at p1
      obtain ⟨k, rfl⟩ : ∃ k, x = k + 1 := ⟨x - 1, by omega⟩
      have e1 : k + 1 - 1 = k := by omega
      rw [e1, hg.row_get (show k < g.w by omega) hyg, Option.some.injEq] at p3
      have : pairAt L k = true := pairAt_of (c := e) (by rw [hLg k (by omega) (by omega), p3]) (by rw [hLx, p1]) p4 p5
      have h9 : pairAt L k = false := hn.2
      rw [h9] at this; cases this
  · rw [hs] at h; cases h
end Lyc
namespace Lyc
open Go
structure Gr.fit (g : Gr) (w h : Nat) : Prop where
  ok : g.ok
  r : g.right = true
  w : g.w = w
  h : g.h = h
theorem Gr.put_ok {g : Gr} (hg : g.ok) {X Y : Int} {l : List Cel} : (g.put X Y l).ok := Gr.chg_ok hg fun _ _ _ _ => lineOf_len _ _
theorem Gr.put_right {g : Gr} (hg : g.ok) (hr : g.right = true) {X Y : Int} {l : List Cel} : (g.put X Y l).right = true := Gr.chg_right hg hr fun _ _ _ _ => lineOf_len _ _
theorem Gr.fit.put {g : Gr} {w h : Nat} (hg : g.fit w h) {X Y : Int} {l : List Cel} : (g.put X Y l).fit w h := ⟨Gr.put_ok hg.ok, Gr.put_right hg.ok hg.r, hg.w, hg.h⟩
theorem Gr.fit.fill {g : Gr} {w h : Nat} (hg : g.fit w h) {X Y W H : Int} {c : Cel} : (g.fill X Y W H c).fit w h := ⟨Gr.chg_ok hg.ok fun _ _ _ _ => lineOf_len _ _, Gr.chg_right hg.ok hg.r fun _ _ _ _ => lineOf_len _ _, hg.w, hg.h⟩
theorem Gr.fit.scroll {g : Gr} {w h : Nat} (hg : g.fit w h) {T E N : Int} {c : Cel} : (g.scroll T E N c).fit w h := ⟨scroll_ok hg.ok, scroll_right hg.ok hg.r, hg.w, hg.h⟩
theorem Gr.fit.shift {g : Gr} {w h : Nat} (hg : g.fit w h) {X Y N : Int} {c : Cel} : (g.shift X Y N c).fit w h := ⟨Gr.chg_ok hg.ok fun _ _ _ _ => lineOf_len _ _, Gr.chg_right hg.ok hg.r fun _ _ _ _ => lineOf_len _ _, hg.w, hg.h⟩
theorem Gr.fit_plain {w h : Nat} (w0 : 0 < w) (w1 : w ≤ 200) (h0 : 0 < h) (h1 : h ≤ 60) : (Gr.plain w h Cel.blank).fit w h := ⟨Gr.plain_ok w0 w1 h0 h1 _, Gr.plain_right blank_single, rfl, rfl⟩
theorem Gr.fit_resize {g : Gr} {w h : Nat} (w0 : 0 < w) (w1 : w ≤ 200) (h0 : 0 < h) (h1 : h ≤ 60) : (g.resize w h Cel.blank).fit w h := ⟨resize_ok w0 w1 h0 h1, resize_right (by decide) w0 w1 h0 h1, rfl, rfl⟩
theorem Gr.row_one {g : Gr} (hg : g.ok) (h : g.h = 1) : g.row 0 = g.cs := by
  have := hg.len
  rw [h, Nat.mul_one] at this
  simp [Gr.row, ← this]
def RowF (w : Nat) (f : Gr → Gr) : Prop := ∀ g : Gr, g.fit w 1 → (f g).fit w 1
theorem Gr.fit.row1 {g : Gr} {w h : Nat} (hg : g.fit w h) {y : Nat} (hy : y < h) : (⟨w, 1, g.row y⟩ : Gr).fit w 1 := by
  have hl := hg.ok.row_len (y := y) (by rw [hg.h]; exact hy)
  have h0 := hg.ok.w0
  have h1 := hg.ok.w1
  have hw := hg.w
  have hok : (⟨w, 1, g.row y⟩ : Gr).ok := ⟨by show 0 < w; omega, by show w ≤ 200; omega, Nat.one_pos, by show 1 ≤ 60; omega, by show (g.row y).length = w * 1; omega⟩
  refine ⟨hok, Gr.right_of fun y' hy' => ?_, rfl, rfl⟩
  have : y' = 0 := by have : y' < 1 := hy'; omega
  subst this
  rw [Gr.row_one hok rfl]
  exact Gr.right.at hg.r (by rw [hg.h]; exact hy)
theorem Gr.fit.cs1 {g : Gr} {w : Nat} (hg : g.fit w 1) : g.cs.length = w ∧ Lyc.right g.cs = true := by
  have h1 := hg.ok.len
  rw [hg.w, hg.h, Nat.mul_one] at h1
  refine ⟨h1, ?_⟩
  have := Gr.right.at hg.r (y := 0) (by rw [hg.h]; omega)
  rwa [Gr.row_one hg.ok hg.h] at this
theorem Gr.fit.line {g : Gr} {w h : Nat} (hg : g.fit w h) {f : Gr → Gr} (hf : RowF w f) {Y : Nat} : (Gr.of w h fun y => if y = Y then (f ⟨w, 1, g.row y⟩).cs else g.row y).fit w h := by
  have hh := hg.h
  have hw := hg.w
  have hR : ∀ y, y < h → (if y = Y then (f ⟨w, 1, g.row y⟩).cs else g.row y).length = w := by
    intro y hy
    split
    · exact (hf _ (hg.row1 hy)).cs1.1
    · rw [hg.ok.row_len (by omega), hw]
  have w0 := hg.ok.w0
  have w1 := hg.ok.w1
  have h0 := hg.ok.h0
  have h1 := hg.ok.h1
  refine ⟨Gr.of_ok (by omega) (by omega) (by omega) (by omega) hR, Gr.right_of fun y hy => ?_, rfl, rfl⟩
  have hy' : y < h := hy
  rw [Gr.of_row hR hy']
  split
  · exact (hf _ (hg.row1 hy')).cs1.2
  · exact Gr.right.at hg.r (by omega)
structure Scr.ok (S : Scr) : Prop where
  w0 : 0 < S.w
  w1 : S.w ≤ 200
  h0 : 0 < S.h
  h1 : S.h ≤ 60
  g0 : S.g0.fit S.w S.h
  g1 : S.g1.fit S.w S.h
  nx : S.now.x < S.w
  ny : S.now.y < S.h
  s0x : S.s0.x < S.w
  s0y : S.s0.y < S.h
  s1x : S.s1.x < S.w
  s1y : S.s1.y < S.h
  tf : S.top < S.fin
  fh : S.fin ≤ S.h
  tl : S.tabs.length = 200
  gl : S.gone.length ≤ 500
  gr : ∀ r ∈ S.gone, right r = true ∧ r.length ≤ 200
structure Nx (S T : Scr) : Prop where
  ok : T.ok
  w : T.w = S.w
  h : T.h = S.h
  gw : (∀ r ∈ S.gone, r.length = S.w) → ∀ r ∈ T.gone, r.length = T.w
theorem Nx.refl {S : Scr} (h : S.ok) : Nx S S := ⟨h, rfl, rfl, fun g => g⟩
theorem Nx.trans {S T U : Scr} (h : Nx S T) (k : Nx T U) : Nx S U := ⟨k.ok, k.w.trans h.w, k.h.trans h.h, fun g => k.gw (h.gw g)⟩
theorem tabs0_len : tabs0.length = 200 := by unfold tabs0; rw [List.length_map, List.length_range]
theorem Scr.ok_new {w h : Nat} (w0 : 0 < w) (w1 : w ≤ 200) (h0 : 0 < h) (h1 : h ≤ 60) : (Scr.new w h).ok :=
  ⟨w0, w1, h0, h1, Gr.fit_plain w0 w1 h0 h1, Gr.fit_plain w0 w1 h0 h1, w0, h0, w0, h0, w0, h0, h0, Nat.le_refl _, tabs0_len, by simp [Scr.new], by simp [Scr.new]⟩
section
variable {S : Scr} (h : S.ok)
include h
theorem Scr.ok.renew : Nx S S.renew :=
  ⟨⟨h.w0, h.w1, h.h0, h.h1, Gr.fit_plain h.w0 h.w1 h.h0 h.h1, Gr.fit_plain h.w0 h.w1 h.h0 h.h1, h.w0, h.h0, h.w0, h.h0, h.w0, h.h0, h.h0, Nat.le_refl _, tabs0_len, h.gl, h.gr⟩, rfl, rfl, fun g => g⟩
theorem Scr.ok.cur : S.cur.fit S.w S.h := by
  unfold Scr.cur
  cases S.alt
  · exact h.g0
  · exact h.g1
theorem Scr.ok.setCur {g : Gr} (hg : g.fit S.w S.h) : Nx S (S.setCur g) := by
  unfold Scr.setCur
  cases S.alt
  · exact ⟨⟨h.w0, h.w1, h.h0, h.h1, hg, h.g1, h.nx, h.ny, h.s0x, h.s0y, h.s1x, h.s1y, h.tf, h.fh, h.tl, h.gl, h.gr⟩, rfl, rfl, fun g => g⟩
  · exact ⟨⟨h.w0, h.w1, h.h0, h.h1, h.g0, hg, h.nx, h.ny, h.s0x, h.s0y, h.s1x, h.s1y, h.tf, h.fh, h.tl, h.gl, h.gr⟩, rfl, rfl, fun g => g⟩
theorem Scr.ok.at {x y : Nat} (hx : x < S.w) (hy : y < S.h) : Nx S (S.at x y) :=
  ⟨⟨h.w0, h.w1, h.h0, h.h1, h.g0, h.g1, hx, hy, h.s0x, h.s0y, h.s1x, h.s1y, h.tf, h.fh, h.tl, h.gl, h.gr⟩, rfl, rfl, fun g => g⟩
theorem Scr.ok.calm : Nx S S.calm :=
  ⟨⟨h.w0, h.w1, h.h0, h.h1, h.g0, h.g1, h.nx, h.ny, h.s0x, h.s0y, h.s1x, h.s1y, h.tf, h.fh, h.tl, h.gl, h.gr⟩, rfl, rfl, fun g => g⟩
omit h in
theorem clampN_lt {x : Int} {n : Nat} (hn : 0 < n) : clampN x n < n := by unfold clampN; omega
theorem Scr.ok.move {x y : Int} : Nx S (S.move x y) := h.at (clampN_lt h.w0) (clampN_lt h.h0)
theorem Scr.ok.save : Nx S S.save := by
  unfold Scr.save
  cases S.alt
  · exact ⟨⟨h.w0, h.w1, h.h0, h.h1, h.g0, h.g1, h.nx, h.ny, h.nx, h.ny, h.s1x, h.s1y, h.tf, h.fh, h.tl, h.gl, h.gr⟩, rfl, rfl, fun g => g⟩
  · exact ⟨⟨h.w0, h.w1, h.h0, h.h1, h.g0, h.g1, h.nx, h.ny, h.s0x, h.s0y, h.nx, h.ny, h.tf, h.fh, h.tl, h.gl, h.gr⟩, rfl, rfl, fun g => g⟩
theorem Scr.ok.restore : Nx S S.restore := by
  unfold Scr.restore
  cases S.alt
  · exact ⟨⟨h.w0, h.w1, h.h0, h.h1, h.g0, h.g1, h.s0x, h.s0y, h.s0x, h.s0y, h.s1x, h.s1y, h.tf, h.fh, h.tl, h.gl, h.gr⟩, rfl, rfl, fun g => g⟩
  · exact ⟨⟨h.w0, h.w1, h.h0, h.h1, h.g0, h.g1, h.s1x, h.s1y, h.s0x, h.s0y, h.s1x, h.s1y, h.tf, h.fh, h.tl, h.gl, h.gr⟩, rfl, rfl, fun g => g⟩
theorem Scr.ok.line {f : Gr → Gr} (hf : RowF S.w f) : Nx S (S.line f) := h.setCur (h.cur.line hf)
theorem Scr.ok.erase {x n : Int} : Nx S (S.erase x n) := h.line fun _ hg => hg.fill
theorem Scr.ok.clear {y n : Int} : Nx S (S.clear y n) := h.setCur h.cur.fill
theorem Scr.ok.scroll {t n : Int} : Nx S (S.scroll t n) := h.setCur h.cur.scroll
omit h in
theorem latest_len (l : List (List Cel)) : (latest l).length ≤ 500 := by simp [latest]; omega
theorem Scr.ok.keep {n : Int} : Nx S (S.keep n) := by
  unfold Scr.keep
  split
  · have e := latest_len (S.gone ++ (List.range (min n S.fin).toNat).map S.g0.row)
    have e2 : ∀ r ∈ latest (S.gone ++ (List.range (min n S.fin).toNat).map S.g0.row), r ∈ S.gone ++ (List.range (min n S.fin).toNat).map S.g0.row := fun r hr => List.mem_of_mem_drop hr
    generalize latest (S.gone ++ (List.range (min n S.fin).toNat).map S.g0.row) = L at e e2 ⊢
    refine ⟨⟨h.w0, h.w1, h.h0, h.h1, h.g0, h.g1, h.nx, h.ny, h.s0x, h.s0y, h.s1x, h.s1y, h.tf, h.fh, h.tl, e, fun r hr => ?_⟩, rfl, rfl, fun g r hr => ?_⟩
    rotate_left
    · rcases List.mem_append.1 (e2 r hr) with hr' | hr'
      · exact g r hr'
      · obtain ⟨y, hy, rfl⟩ := List.mem_map.1 hr'
        have hy' := List.mem_range.1 hy
        have := h.fh
        have hyh : y < S.g0.h := by rw [h.g0.h]; omega
        show _ = S.w
        rw [h.g0.ok.row_len hyh, h.g0.w]
    have hr' := e2 r hr
    rcases List.mem_append.1 hr' with hr' | hr'
    · exact h.gr r hr'
    · obtain ⟨y, hy, rfl⟩ := List.mem_map.1 hr'
      have hy' := List.mem_range.1 hy
      have := h.fh
      have hyh : y < S.g0.h := by rw [h.g0.h]; omega
      exact ⟨Gr.right.at h.g0.r hyh, by rw [h.g0.ok.row_len hyh]; exact h.g0.ok.w1⟩
  · exact .refl h
theorem Scr.ok.up {n : Int} : Nx S (S.up n) := h.keep.trans h.keep.ok.scroll
theorem Scr.ok.below : Nx S S.below := by
  unfold Scr.below
  split
  · exact h.up
  · split
    · exact h.at h.nx ‹_›
    · exact .refl h
theorem Scr.ok.above : Nx S S.above := by
  unfold Scr.above
  split
  · exact h.scroll
  · split
    · exact h.at h.nx (by have := h.ny; omega)
    · exact .refl h
theorem Scr.ok.wrapped : Nx S S.wrapped := by
  unfold Scr.wrapped
  split
  · exact (h.at h.w0 h.ny).trans (h.at h.w0 h.ny).ok.below
  · exact .refl h
omit h in
theorem setCur_now (g : Gr) : (S.setCur g).now = S.now := by unfold Scr.setCur; cases S.alt <;> rfl
omit h in
theorem keep_now (n : Int) : (S.keep n).now = S.now := by unfold Scr.keep; split <;> rfl
omit h in
theorem up_now (n : Int) : (S.up n).now = S.now := by unfold Scr.up Scr.scroll; rw [setCur_now, keep_now]
omit h in
theorem below_x : S.below.now.x = S.now.x := by
  unfold Scr.below
  split
  · rw [up_now]
  · split <;> rfl
theorem Scr.ok.roomFor {n : Nat} (h0 : 0 < n) (hn : n ≤ S.w) : Nx S (S.roomFor n) ∧ (S.roomFor n).now.x + n ≤ S.w := by
  unfold Scr.roomFor
  split
  · split
    · refine ⟨(h.at h.w0 h.ny).trans (h.at h.w0 h.ny).ok.below, ?_⟩
      rw [below_x]
      show 0 + n ≤ S.w
      omega
    · exact ⟨h.at (by omega) h.ny, by show S.w - n + n ≤ S.w; omega⟩
  · exact ⟨.refl h, by omega⟩
theorem Scr.ok.lay {r : Int} {n : Nat} (hn : S.now.x + n ≤ S.w) : Nx S (S.lay r n) := by
  have h1 : Nx S (S.line fun g => g.put S.now.x 0 (mkCel r S.now.pen)) := h.line fun _ hg => hg.put
  have hw := h1.w
  have hh := h1.h
  have w0 := h.w0
  have hy := h.ny
  unfold Scr.lay
  dsimp only
  split
  · have h2 := h1.ok.at (x := S.w - 1) (y := S.now.y) (by omega) (by omega)
    exact h1.trans (h2.trans ⟨⟨h2.ok.w0, h2.ok.w1, h2.ok.h0, h2.ok.h1, h2.ok.g0, h2.ok.g1, h2.ok.nx, h2.ok.ny, h2.ok.s0x, h2.ok.s0y, h2.ok.s1x, h2.ok.s1y, h2.ok.tf, h2.ok.fh, h2.ok.tl, h2.ok.gl, h2.ok.gr⟩, rfl, rfl, fun g => g⟩)
  · have h2 := h1.ok.at (x := S.now.x + n) (y := S.now.y) (by omega) (by omega)
    exact h1.trans (h2.trans h2.ok.calm)
omit h in
theorem width_nat (r : Int) : width r = 0 ∨ width r = 1 ∨ width r = 2 := by
  have h : ∀ l : List (Int × Int × Int), (∀ s ∈ l, s.2.2 = 0 ∨ s.2.2 = 1 ∨ s.2.2 = 2) → (spanW l r = 0 ∨ spanW l r = 1 ∨ spanW l r = 2) := by
    intro l
    induction l with
    | nil => intro _; exact .inr (.inl rfl)
    | cons s l ih =>
      intro hl
      unfold spanW
      split
      · exact hl s (by simp)
      · exact ih fun x hx => hl x (by simp [hx])
  unfold width
  split
  · exact .inl rfl
  · split
    · exact .inr (.inl rfl)
    · exact h spans (by decide)
theorem Scr.ok.print {r : Int} : Nx S (S.print r) := by
  unfold Scr.print
  split
  · exact .refl h
  · have hw := width_nat r
    have h1 := h.wrapped
    have hn : 0 < (width r).toNat ∧ (width r).toNat ≤ S.wrapped.w := by rw [h1.w]; omega
    have h2 := h1.ok.roomFor hn.1 hn.2
    exact h1.trans (h2.1.trans (h2.1.ok.lay (by rw [h2.1.w]; exact h2.2)))
theorem Scr.ok.tab : Nx S S.tab := h.at (by have := h.w0; omega) h.ny
theorem Scr.ok.ctl {r : Int} : Nx S (S.ctl r) := by
  have w0 := h.w0
  have nx := h.nx
  unfold Scr.ctl
  split
  · exact (h.at (by omega) h.ny).trans (h.at (by omega) h.ny).ok.calm
  · split
    · exact h.tab.trans h.tab.ok.calm
    · split
      · exact h.below.trans h.below.ok.calm
      · split
        · exact (h.at w0 h.ny).trans (h.at w0 h.ny).ok.calm
        · exact .refl h
theorem Scr.ok.setTabs {l : List Bool} (hl : l.length = 200) : Nx S { S with tabs := l } :=
  ⟨⟨h.w0, h.w1, h.h0, h.h1, h.g0, h.g1, h.nx, h.ny, h.s0x, h.s0y, h.s1x, h.s1y, h.tf, h.fh, hl, h.gl, h.gr⟩, rfl, rfl, fun g => g⟩
theorem Scr.ok.esc {r : Int} : Nx S (S.esc r) := by
  unfold Scr.esc
  split
  · exact h.save
  · split
    · exact h.setTabs (by rw [List.length_set]; exact h.tl)
    · split
      · have h1 := h.at (x := 0) (y := S.now.y) h.w0 h.ny
        exact h1.trans (h1.ok.below.trans h1.ok.below.ok.calm)
      · split
        · exact h.below.trans h.below.ok.calm
        · split
          · exact h.above.trans h.above.ok.calm
          · split
            · exact h.restore.trans h.restore.ok.calm
            · split
              · exact h.renew.trans h.renew.ok.calm
              · exact .refl h
theorem Scr.ok.mode {n : Int} {on : Bool} : Nx S (S.mode n on) := by
  unfold Scr.mode
  split
  · exact ⟨⟨h.w0, h.w1, h.h0, h.h1, h.g0, h.g1, h.nx, h.ny, h.s0x, h.s0y, h.s1x, h.s1y, h.tf, h.fh, h.tl, h.gl, h.gr⟩, rfl, rfl, fun g => g⟩
  · split
    · exact ⟨⟨h.w0, h.w1, h.h0, h.h1, h.g0, h.g1, h.nx, h.ny, h.s0x, h.s0y, h.s1x, h.s1y, h.tf, h.fh, h.tl, h.gl, h.gr⟩, rfl, rfl, fun g => g⟩
    · split
      · split
        · have k := h.save.ok
          have hw := h.save.w
          have hh := h.save.h
          refine ⟨⟨k.w0, k.w1, k.h0, k.h1, k.g0, ?_, k.nx, k.ny, k.s0x, k.s0y, k.s1x, k.s1y, k.tf, k.fh, k.tl, k.gl, k.gr⟩, hw, hh, h.save.gw⟩
          show (Gr.plain S.w S.h Cel.blank).fit S.save.w S.save.h
          rw [hw, hh]
          exact Gr.fit_plain h.w0 h.w1 h.h0 h.h1
        · split
          · have k : Nx S { S with alt := false } := ⟨⟨h.w0, h.w1, h.h0, h.h1, h.g0, h.g1, h.nx, h.ny, h.s0x, h.s0y, h.s1x, h.s1y, h.tf, h.fh, h.tl, h.gl, h.gr⟩, rfl, rfl, fun g => g⟩
            exact k.trans k.ok.restore
          · exact .refl h
      · exact .refl h
theorem Scr.ok.modes {l : List Int} {on : Bool} : Nx S (S.modes l on) := by
  unfold Scr.modes
  induction l generalizing S with
  | nil => exact .refl h
  | cons n l ih => exact h.mode.trans (ih h.mode.ok)
omit h in
theorem num_ge (a : Act') (i : Nat) (least : Int) : least ≤ a.num i least := by unfold Act'.num; split <;> omega
theorem Scr.ok.moved {a : Act'} {T : Scr} (ht : S.moved a = some T) : Nx S T := by
  have hn := num_ge a 0 1
  have hx := h.nx
  have hy := h.ny
  have w0 := h.w0
  have tf := h.tf
  have fh := h.fh
  have key : ∀ y : Nat, y < S.h → Nx S ((S.at 0 S.now.y).at (S.at 0 S.now.y).now.x y) := fun y hy' => (h.at w0 hy).trans ((h.at w0 hy).ok.at w0 hy')
  have e1 : (if S.top ≤ S.now.y then (S.top : Int) else 0) ≤ S.now.y := by split <;> omega
  have e2 : (if S.now.y + 1 ≤ S.fin then (S.fin : Int) - 1 else (S.h : Int) - 1) < S.h := by split <;> omega
  unfold Scr.moved at ht
  dsimp only at ht
  split at ht
  · cases ht; refine key _ ?_; simp only [Scr.at]; omega
  · split at ht
    · cases ht; refine h.at hx ?_; omega
    · split at ht
      · cases ht; refine key _ ?_; simp only [Scr.at]; omega
      · split at ht
        · cases ht; refine h.at hx ?_; omega
        · split at ht
          · cases ht; exact h.move
          · split at ht
            · cases ht; exact h.move
            · split at ht
              · cases ht; exact h.move
              · split at ht
                · cases ht; exact h.move
                · split at ht
                  · cases ht; exact h.move
                  · split at ht
                    · cases ht; exact h.restore
                    · cases ht
theorem Scr.ok.region {t f : Int} (h0 : 0 ≤ t) (h1 : 0 ≤ f) : Nx S (S.region t f) := by
  have e1 : (if f = 0 ∨ (S.h : Int) < f then (S.h : Int) else f) ≤ S.h ∧ 0 ≤ (if f = 0 ∨ (S.h : Int) < f then (S.h : Int) else f) := by split <;> omega
  unfold Scr.region
  dsimp only
  generalize (if f = 0 ∨ (S.h : Int) < f then (S.h : Int) else f) = F at e1 ⊢
  split
  · rename_i hlt
    have k : Nx S { S with top := t.toNat, fin := F.toNat } := by
      refine ⟨⟨h.w0, h.w1, h.h0, h.h1, h.g0, h.g1, h.nx, h.ny, h.s0x, h.s0y, h.s1x, h.s1y, ?_, ?_, h.tl, h.gl, h.gr⟩, rfl, rfl, fun g => g⟩
      · show t.toNat < F.toNat
        omega
      · show F.toNat ≤ S.h
        omega
    exact k.trans k.ok.move
  · exact .refl h
theorem Scr.ok.wipeRows {k : Int} : Nx S (S.wipeRows k) := by
  unfold Scr.wipeRows
  split
  · exact h.clear
  · split
    · exact h.clear
    · split
      · exact h.clear
      · exact .refl h
theorem Scr.ok.wipeLine {k : Int} : Nx S (S.wipeLine k) := by
  unfold Scr.wipeLine
  split
  · exact h.erase
  · split
    · exact h.erase
    · split
      · exact h.erase
      · exact .refl h
theorem Scr.ok.shiftRows {n : Int} : Nx S (S.shiftRows n) := by
  unfold Scr.shiftRows
  split
  · have k := h.scroll (t := S.now.y) (n := -n)
    exact k.trans (k.ok.at (by rw [k.w]; exact h.w0) (by rw [k.h]; exact h.ny))
  · exact .refl h
theorem Scr.ok.changed {a : Act'} {T : Scr} (ht : S.changed a = some T) : Nx S T := by
  have hn := num_ge a 0 1
  have hm := num_ge a 1 0
  unfold Scr.changed at ht
  dsimp only at ht
  split at ht
  · cases ht; exact h.wipeRows.trans h.wipeRows.ok.wipeLine
  · split at ht
    · cases ht; exact h.wipeLine
    · split at ht
      · cases ht; exact h.shiftRows
      · split at ht
        · cases ht; exact h.shiftRows
        · split at ht
          · cases ht; exact h.line fun _ hg => hg.shift
          · split at ht
            · cases ht; exact h.line fun _ hg => hg.shift
            · split at ht
              · cases ht; exact h.erase
              · split at ht
                · cases ht; exact h.up
                · split at ht
                  · cases ht; exact h.scroll
                  · split at ht
                    · cases ht; exact h.region (by omega) hm
                    · cases ht
theorem Scr.ok.set {a : Act'} {T : Scr} (ht : S.set a = some T) : Nx S T := by
  unfold Scr.set at ht
  split at ht
  · cases ht; exact ⟨⟨h.w0, h.w1, h.h0, h.h1, h.g0, h.g1, h.nx, h.ny, h.s0x, h.s0y, h.s1x, h.s1y, h.tf, h.fh, h.tl, h.gl, h.gr⟩, rfl, rfl, fun g => g⟩
  · split at ht
    · cases ht
      split
      · exact h.setTabs (by rw [List.length_set]; exact h.tl)
      · split
        · exact h.setTabs (by rw [List.length_replicate])
        · exact .refl h
    · split at ht
      · cases ht; exact h.save
      · cases ht
theorem Scr.ok.csi {a : Act'} : Nx S (S.csi a) := by
  unfold Scr.csi
  split
  · exact h.modes
  · split
    · exact .refl h
    · split
      · exact h.set ‹_›
      · split
        · rename_i T hT
          exact (h.moved hT).trans (h.moved hT).ok.calm
        · split
          · rename_i T hT
            exact (h.changed hT).trans (h.changed hT).ok.calm
          · exact .refl h
theorem Scr.ok.act {a : Act'} : Nx S (S.act a) := by
  unfold Scr.act
  split
  · exact h.print
  · split
    · exact h.ctl
    · split
      · split
        · exact h.esc
        · exact .refl h
      · split
        · exact h.csi
        · exact .refl h
theorem Scr.ok.acts {l : List Act'} : Nx S (S.acts l) := by
  unfold Scr.acts
  induction l generalizing S with
  | nil => exact .refl h
  | cons n l ih => exact h.act.trans (ih h.act.ok)
theorem Scr.ok.resize {w k : Nat} (w0 : 0 < w) (w1 : w ≤ 200) (h0 : 0 < k) (h1 : k ≤ 60) : (S.resize w k).ok ∧ (S.resize w k).w = w ∧ (S.resize w k).h = k :=
  ⟨⟨w0, w1, h0, h1, Gr.fit_resize w0 w1 h0 h1, Gr.fit_resize w0 w1 h0 h1, clampN_lt w0, clampN_lt h0, clampN_lt w0, clampN_lt h0, clampN_lt w0, clampN_lt h0, h0, Nat.le_refl _, h.tl, h.gl, h.gr⟩, rfl, rfl⟩
end
end Lyc
namespace Go.Proofs.YtjfembffjjijaaaGreat
open Lyc Go
set_option maxRecDepth 100000
def history_New (p0 : Value) (K : Value → World → Prop) : World → Prop :=
  OpX Tryz.prog (.build 118 #[]) 118 fun t4 =>
  OpX Tryz.prog (.box 118 (.const t4)) 87 fun t5 =>
  OpX Tryz.prog (.call { callee := .builtin .max, args := #[.const p0, .const (.int .i64 0)], argTypes := #[3, 3] }) 3 fun t8 =>
  OpX Tryz.prog (.call { callee := .builtin .min, args := #[.const t8, .const (.int .i64 500)], argTypes := #[3, 3] }) 3 fun t9 =>
  OpX Tryz.prog (.nilCheck (.const t5)) 0 fun t10 =>
  xF 118 t10 0 fun t11 =>
  xF 116 t11 0 fun t12 =>
  xS 3 t12 t9 <|
  K t5
theorem history_New_link (p0 : Value) : Lk 48 #[p0] (history_New p0) := lk [p0] [] Tryz.func48 (by kernel_rfl) fun _ _ => by kernel_rfl
theorem history_New_b : Bodied Tryz.prog 48 := bd Tryz.func48 (by kernel_rfl)
def history_History_Push (p0 p1 : Value) (K : Value → World → Prop) : World → Prop :=
  xO .eql 87 p0 (.pointer none) fun t7 =>
  xW t7
  (K (.tuple #[])) <|
  xU p1 43 fun t9 =>
  Loop1 (.int .i64 0) fun t10 next1 =>
  xO .lss 3 t10 t9 fun t11 =>
  xW t11
  (xI 43 p1 t10 fun t12 =>
  xL 36 t12 fun t13 =>
  DrewW <|
  xP (.nilCheck (.const p0)) 0 fun t15 =>
  qF 118 t15 0 fun t16 =>
  xC 86 [.const t13] [36] 36 fun t18 =>
  xC 85 [.const t16, .const t18] [116, 36] 0 fun _ =>
  xO .add 3 t10 (.int .i64 1) fun t20 =>
  next1 t20) <|
  K (.tuple #[])
theorem history_History_Push_link (p0 p1 : Value) : Lk 51 #[p0, p1] (history_History_Push p0 p1) := lk [p0, p1] [(9, [10])] Tryz.func51 (by kernel_rfl) fun _ _ => by kernel_rfl
theorem history_History_Push_b : Bodied Tryz.prog 51 := bd Tryz.func51 (by kernel_rfl)
def history_History_Len (p0 : Value) (K : Value → World → Prop) : World → Prop :=
  xO .eql 87 p0 (.pointer none) fun t4 =>
  xW t4
  (K (.int .i64 0)) <|
  OpX Tryz.prog (.nilCheck (.const p0)) 0 fun t6 =>
  xF 118 t6 0 fun t7 =>
  xC 87 [.const t7] [116] 3 fun t8 =>
  K t8
theorem history_History_Len_link (p0 : Value) : Lk 52 #[p0] (history_History_Len p0) := lk [p0] [] Tryz.func52 (by kernel_rfl) fun _ _ => by kernel_rfl
theorem history_History_Len_b : Bodied Tryz.prog 52 := bd Tryz.func52 (by kernel_rfl)
def history_History_View (p0 p1 p2 : Value) (K : Value → World → Prop) : World → Prop :=
  xB 38 p1 fun t4 =>
  xA 38 fun t6 =>
  xL 38 t4 fun t13 =>
  xC 33 [.const t13] [38] 4 fun t14 =>
  xN 4 t14 fun t15 =>
  xW t15
  (OpX Tryz.prog (.build 38 #[]) 38 fun t16 =>
  xS 38 t6 t16 <|
  xD 38 t6 fun t6_1 =>
  K t6_1) <|
  xC 52 [.const p0] [87] 3 fun t18 =>
  OpX Tryz.prog (.call { callee := .builtin .max, args := #[.const p2, .const (.int .i64 0)], argTypes := #[3, 3] }) 3 fun t21 =>
  OpX Tryz.prog (.call { callee := .builtin .min, args := #[.const t21, .const t18], argTypes := #[3, 3] }) 3 fun t23 =>
  xO .sub 3 t18 t23 fun t24 =>
  DrewW <|
  Join1 (fun k1 =>
  qF 38 t4 0 fun t25 =>
  qL 3 t25 fun t26 =>
  qF 38 t4 1 fun t27 =>
  qL 3 t27 fun t28 =>
  qF 38 t4 0 fun t29 =>
  qL 3 t29 fun t30 =>
  qF 38 t4 1 fun t31 =>
  qL 3 t31 fun t32 =>
  qP .mul 3 t30 t32 fun t33 =>
  xT (OpX Tryz.prog (.makeSlice 36 (.const (.int .i64 0)) (.const t33)) 36 fun t34 =>
  xT (qZ 3 t27 t28) <|
  xT (qZ 3 t25 t26) <|
  xT (OpX Tryz.prog (.build 38 #[(0, .const t26), (1, .const t28), (2, .const t34)]) 38 fun t35 =>
  xA 38 fun t9 =>
  xS 38 t9 t35 <|
  k1 t9) <|
  xA 38 fun t9_1 =>
  xT (qZ 3 t27 t28) <|
  xT (qZ 3 t25 t26) <|
  OpX Tryz.prog (.build 38 #[(0, .const t26), (1, .const t28), (2, .const t34)]) 38 fun t35_1 =>
  xS 38 t9_1 t35_1 <|
  k1 t9_1) <|
  xA 38 fun t9_2 =>
  xT (qZ 3 t31 t32) <|
  xT (qZ 3 t29 t30) <|
  xT (qZ 3 t27 t28) <|
  xT (qZ 3 t25 t26) <|
  OpX Tryz.prog (.makeSlice 36 (.const (.int .i64 0)) (.const t33)) 36 fun t34_1 =>
  xT (qZ 3 t27 t28) <|
  xT (qZ 3 t25 t26) <|
  OpX Tryz.prog (.build 38 #[(0, .const t26), (1, .const t28), (2, .const t34_1)]) 38 fun t35_2 =>
  xS 38 t9_2 t35_2 <|
  k1 t9_2) fun t9_3 =>
  Loop1 t24 fun t10 next2 =>
  xF 38 t4 1 fun t39 =>
  xL 3 t39 fun t40 =>
  xO .add 3 t24 t40 fun t41 =>
  xO .lss 3 t10 t41 fun t42 =>
  xW t42
  (Join0 (fun k3 =>
  xO .geq 3 t10 t18 fun t47 =>
  xW t47
  (DrewW <|
  qF 38 t9_3 2 fun t48 =>
  qL 36 t48 fun t49 =>
  qL 38 t4 fun t50 =>
  qP .sub 3 t10 t18 fun t53 =>
  xC 92 [.const t50, .const t53] [38, 3] 36 fun t54 =>
  xT (qZ 36 t48 t49) <|
  OpX Tryz.prog (.call { callee := .builtin .append, args := #[.const t49, .const t54], argTypes := #[36, 36] }) 36 fun t55 =>
  qF 38 t9_3 2 fun t56 =>
  xS 36 t56 t55 <|
  k3) <|
  OpX Tryz.prog (.nilCheck (.const p0)) 0 fun t59 =>
  xF 118 t59 0 fun t60 =>
  xC 93 [.const t60, .const t10] [116, 3] 129 fun t62 =>
  xE t62 0 36 fun t63 =>
  xE t62 1 4 fun _ =>
  DrewW <|
  qF 38 t9_3 2 fun t65 =>
  qL 36 t65 fun t66 =>
  qF 38 t4 0 fun t68 =>
  qL 3 t68 fun t69 =>
  xC 94 [.const t63, .const t69] [36, 3] 36 fun t70 =>
  xT (qZ 36 t65 t66) <|
  OpX Tryz.prog (.call { callee := .builtin .append, args := #[.const t66, .const t70], argTypes := #[36, 36] }) 36 fun t71 =>
  qF 38 t9_3 2 fun t72 =>
  xS 36 t72 t71 <|
  k3) <|
  xO .add 3 t10 (.int .i64 1) fun t44 =>
  next2 t44) <|
  xL 38 t9_3 fun t73 =>
  xS 38 t6 t73 <|
  xD 38 t6 fun t6_2 =>
  K t6_2
theorem history_History_View_link (p0 p1 p2 : Value) : Lk 56 #[p0, p1, p2] (history_History_View p0 p1 p2) := lk [p0, p1, p2] [(15, [9]), (20, [10]), (28, [])] Tryz.func56 (by kernel_rfl) fun _ _ => by kernel_rfl
theorem history_History_View_b : Bodied Tryz.prog 56 := bd Tryz.func56 (by kernel_rfl)
def history_History_Find (p0 p1 p2 : Value) (K : Value → World → Prop) : World → Prop :=
  xC 52 [.const p0] [87] 3 fun t13 =>
  OpX Tryz.prog (.call { callee := .builtin .max, args := #[.const p2, .const (.int .i64 0)], argTypes := #[3, 3] }) 3 fun t15 =>
  OpX Tryz.prog (.call { callee := .builtin .min, args := #[.const t15, .const t13], argTypes := #[3, 3] }) 3 fun t17 =>
  xO .sub 3 t17 (.int .i64 1) fun t18 =>
  Loop1 t18 fun t9 next1 =>
  xO .geq 3 t9 (.int .i64 0) fun t20 =>
  xW t20
  (OpX Tryz.prog (.nilCheck (.const p0)) 0 fun t25 =>
  xF 118 t25 0 fun t26 =>
  xC 93 [.const t26, .const t9] [116, 3] 129 fun t28 =>
  xE t28 0 36 fun t29 =>
  xE t28 1 4 fun _ =>
  xC 55 [.const t29] [36] 9 fun t32 =>
  xC 95 [.const t32, .const p1] [9, 9] 4 fun t34 =>
  xW t34
  (K (.tuple #[t9, (.bool true)])) <|
  xO .sub 3 t9 (.int .i64 1) fun t22 =>
  next1 t22) <|
  K (.tuple #[(.int .i64 0), (.bool false)])
theorem history_History_Find_link (p0 p1 p2 : Value) : Lk 60 #[p0, p1, p2] (history_History_Find p0 p1 p2) := lk [p0, p1, p2] [(8, [9])] Tryz.func60 (by kernel_rfl) fun _ _ => by kernel_rfl
theorem history_History_Find_b : Bodied Tryz.prog 60 := bd Tryz.func60 (by kernel_rfl)
def history_ring_api_Cell_put (p0 p1 : Value) (K : Value → World → Prop) : World → Prop :=
  OpX Tryz.prog (.nilCheck (.const p0)) 0 fun t5 =>
  xF 116 t5 0 fun t6 =>
  xL 3 t6 fun t7 =>
  xO .leq 3 t7 (.int .i64 0) fun t8 =>
  xW t8
  (K (.tuple #[])) <|
  DrewW <|
  xP (.nilCheck (.const p0)) 0 fun t10 =>
  qF 116 t10 2 fun t11 =>
  qL 43 t11 fun t12 =>
  xR (.call { callee := .builtin .len, args := #[.const t12], argTypes := #[43] }) 3 fun t13 =>
  xP (.nilCheck (.const p0)) 0 fun t15 =>
  qF 116 t15 0 fun t16 =>
  qL 3 t16 fun t17 =>
  qP .lss 3 t13 t17 fun t18 =>
  xW t18
  (OpX Tryz.prog (.nilCheck (.const p0)) 0 fun t21 =>
  xF 116 t21 2 fun t22 =>
  xL 43 t22 fun t23 =>
  OpX Tryz.prog (.buildSlice 43 1 #[(0, .const p1)]) 43 fun t25 =>
  OpX Tryz.prog (.call { callee := .builtin .append, args := #[.const t23, .const t25], argTypes := #[43, 43] }) 43 fun t26 =>
  OpX Tryz.prog (.nilCheck (.const p0)) 0 fun t27 =>
  xF 116 t27 2 fun t28 =>
  xS 43 t28 t26 <|
  K (.tuple #[])) <|
  DrewW <|
  xP (.nilCheck (.const p0)) 0 fun t30 =>
  qF 116 t30 2 fun t31 =>
  qL 43 t31 fun t32 =>
  xP (.nilCheck (.const p0)) 0 fun t34 =>
  qF 116 t34 1 fun t35 =>
  qL 3 t35 fun t36 =>
  xP (.indexAddr 43 (.const t32) (.const t36)) 0 fun t38 =>
  xS 36 t38 p1 <|
  DrewW <|
  xP (.nilCheck (.const p0)) 0 fun t41 =>
  qF 116 t41 1 fun t42 =>
  qL 3 t42 fun t43 =>
  qP .add 3 t43 (.int .i64 1) fun t44 =>
  xP (.nilCheck (.const p0)) 0 fun t46 =>
  qF 116 t46 0 fun t47 =>
  qL 3 t47 fun t48 =>
  qP .rem 3 t44 t48 fun t49 =>
  xP (.nilCheck (.const p0)) 0 fun t50 =>
  qF 116 t50 1 fun t51 =>
  xS 3 t51 t49 <|
  K (.tuple #[])
theorem history_ring_api_Cell_put_link (p0 p1 : Value) : Lk 85 #[p0, p1] (history_ring_api_Cell_put p0 p1) := lk [p0, p1] [] Tryz.func85 (by kernel_rfl) fun _ _ => by kernel_rfl
theorem history_ring_api_Cell_put_b : Bodied Tryz.prog 85 := bd Tryz.func85 (by kernel_rfl)
def history_ring_api_Cell_size (p0 : Value) (K : Value → World → Prop) : World → Prop :=
  OpX Tryz.prog (.nilCheck (.const p0)) 0 fun t4 =>
  xF 116 t4 2 fun t5 =>
  xL 43 t5 fun t6 =>
  xU t6 43 fun t7 =>
  K t7
theorem history_ring_api_Cell_size_link (p0 : Value) : Lk 87 #[p0] (history_ring_api_Cell_size p0) := lk [p0] [] Tryz.func87 (by kernel_rfl) fun _ _ => by kernel_rfl
theorem history_ring_api_Cell_size_b : Bodied Tryz.prog 87 := bd Tryz.func87 (by kernel_rfl)
def history_ring_api_Cell_at (p0 p1 : Value) (K : Value → World → Prop) : World → Prop :=
  Join1 (fun k1 =>
  xO .lss 3 p1 (.int .i64 0) fun t8 =>
  xW t8
  (k1 (.bool true)) <|
  OpX Tryz.prog (.nilCheck (.const p0)) 0 fun t12 =>
  xF 116 t12 2 fun t13 =>
  xL 43 t13 fun t14 =>
  xU t14 43 fun t15 =>
  xO .geq 3 p1 t15 fun t16 =>
  k1 t16) fun t17 =>
  xW t17
  (K (.tuple #[(.slice none 0 0), (.bool false)])) <|
  DrewW <|
  xP (.nilCheck (.const p0)) 0 fun t20 =>
  qF 116 t20 2 fun t21 =>
  qL 43 t21 fun t22 =>
  xP (.nilCheck (.const p0)) 0 fun t24 =>
  qF 116 t24 1 fun t25 =>
  qL 3 t25 fun t26 =>
  qP .add 3 t26 p1 fun t28 =>
  xP (.nilCheck (.const p0)) 0 fun t30 =>
  qF 116 t30 2 fun t31 =>
  qL 43 t31 fun t32 =>
  xR (.call { callee := .builtin .len, args := #[.const t32], argTypes := #[43] }) 3 fun t33 =>
  qP .rem 3 t28 t33 fun t34 =>
  xP (.indexAddr 43 (.const t22) (.const t34)) 0 fun t35 =>
  qL 36 t35 fun t36 =>
  K (.tuple #[t36, (.bool true)])
theorem history_ring_api_Cell_at_link (p0 p1 : Value) : Lk 93 #[p0, p1] (history_ring_api_Cell_at p0 p1) := lk [p0, p1] [(4, [17])] Tryz.func93 (by kernel_rfl) fun _ _ => by kernel_rfl
theorem history_ring_api_Cell_at_b : Bodied Tryz.prog 93 := bd Tryz.func93 (by kernel_rfl)
def history_fitted (p0 p1 : Value) (K : Value → World → Prop) : World → Prop :=
  OpX Tryz.prog (.makeSlice 36 (.const p1) (.const p1)) 36 fun t8 =>
  OpX Tryz.prog (.call { callee := .builtin .copy, args := #[.const t8, .const p0], argTypes := #[36, 36] }) 3 fun t11 =>
  Loop1 t11 fun t6 next1 =>
  xO .lss 3 t6 p1 fun t14 =>
  xW t14
  (xC 64 [] [] 70 fun t19 =>
  xI 36 t8 t6 fun t20 =>
  xS 70 t20 t19 <|
  xO .add 3 t6 (.int .i64 1) fun t16 =>
  next1 t16) <|
  xC 86 [.const t8] [36] 36 fun t22 =>
  K t22
theorem history_fitted_link (p0 p1 : Value) : Lk 94 #[p0, p1] (history_fitted p0 p1) := lk [p0, p1] [(8, [6])] Tryz.func94 (by kernel_rfl) fun _ _ => by kernel_rfl
theorem history_fitted_b : Bodied Tryz.prog 94 := bd Tryz.func94 (by kernel_rfl)
end Go.Proofs.YtjfembffjjijaaaGreat
namespace Go.Proofs.YtjfembffjjijaaaGreat
open Lyc Go
set_option maxRecDepth 100000
def cell_Text (p0 : Value) (K : Value → World → Prop) : World → Prop :=
  xU p0 36 fun t7 =>
  Loop2 (.slice none 0 0) (.int .i64 0) fun t3 t8 next1 =>
  xO .lss 3 t8 t7 fun t9 =>
  xW t9
  (xI 36 p0 t8 fun t10 =>
  xL 70 t10 fun t11 =>
  xA 70 fun t5 =>
  xS 70 t5 t11 <|
  xL 70 t5 fun t13 =>
  xC 90 [.const t13] [70] 4 fun t14 =>
  xN 4 t14 fun t15 =>
  xW t15
  (OpX Tryz.prog (.buildSlice 24 1 #[(0, .const (.int .i32 63))]) 24 fun t17 =>
  OpX Tryz.prog (.call { callee := .builtin .append, args := #[.const t3, .const t17], argTypes := #[24, 24] }) 24 fun t18 =>
  xO .add 3 t8 (.int .i64 1) fun t29 =>
  next1 t18 t29) <|
  xF 70 t5 3 fun t20 =>
  xL 5 t20 fun t21 =>
  xO .and 5 t21 (.int .u8 128) fun t22 =>
  xO .eql 5 t22 (.int .u8 0) fun t23 =>
  xW t23
  (xF 70 t5 0 fun t25 =>
  xL 21 t25 fun t26 =>
  OpX Tryz.prog (.buildSlice 24 1 #[(0, .const t26)]) 24 fun t27 =>
  OpX Tryz.prog (.call { callee := .builtin .append, args := #[.const t3, .const t27], argTypes := #[24, 24] }) 24 fun t28 =>
  xO .add 3 t8 (.int .i64 1) fun t29_1 =>
  next1 t28 t29_1) <|
  xO .add 3 t8 (.int .i64 1) fun t29_2 =>
  next1 t3 t29_2) <|
  Loop1 t3 fun t3_1 next2 =>
  Join1 (fun k3 =>
  xU t3_1 24 fun t31 =>
  xO .gtr 3 t31 (.int .i64 0) fun t32 =>
  xW t32
  (xU t3_1 24 fun t36 =>
  xO .sub 3 t36 (.int .i64 1) fun t37 =>
  xI 24 t3_1 t37 fun t38 =>
  xL 21 t38 fun t39 =>
  xO .eql 21 t39 (.int .i32 32) fun t40 =>
  k3 t40) <|
  k3 (.bool false)) fun t41 =>
  xW t41
  (xU t3_1 24 fun t44 =>
  xO .sub 3 t44 (.int .i64 1) fun t45 =>
  OpX Tryz.prog (.slice 24 (.const t3_1) none (some (.const t45)) none) 24 fun t46 =>
  next2 t46) <|
  xC 91 [.const t3_1] [24] 9 fun t48 =>
  K t48
theorem cell_Text_link (p0 : Value) : Lk 55 #[p0] (cell_Text p0) := lk [p0] [(8, [3, 8]), (32, [3]), (35, [41])] Tryz.func55 (by kernel_rfl) fun _ _ => by kernel_rfl
theorem cell_Text_b : Bodied Tryz.prog 55 := bd Tryz.func55 (by kernel_rfl)
def cell_Blank (K : Value → World → Prop) : World → Prop :=
  xA 70 fun t0 =>
  OpX Tryz.prog (.build 70 #[(0, .const (.int .i32 32))]) 70 fun t1 =>
  xS 70 t0 t1 <|
  xD 70 t0 fun t0_1 =>
  K t0_1
theorem cell_Blank_link : Lk 64 #[] (cell_Blank) := lk [] [] Tryz.func64 (by kernel_rfl) fun _ _ => by kernel_rfl
theorem cell_Blank_b : Bodied Tryz.prog 64 := bd Tryz.func64 (by kernel_rfl)
def cell_Right (p0 : Value) (K : Value → World → Prop) : World → Prop :=
  Loop1 (.int .i64 0) fun t3 next1 =>
  xU p0 36 fun t6 =>
  xO .lss 3 t3 t6 fun t7 =>
  xW t7
  (xC 100 [.const p0, .const t3] [36, 3] 4 fun t13 =>
  xW t13
  (xO .add 3 t3 (.int .i64 1) fun t15 =>
  xO .add 3 t15 (.int .i64 1) fun t9 =>
  next1 t9) <|
  xI 36 p0 t3 fun t19 =>
  xL 70 t19 fun t20 =>
  xC 101 [.const t20] [70] 4 fun t21 =>
  xN 4 t21 fun t22 =>
  xW t22
  (K (.bool false)) <|
  xO .add 3 t3 (.int .i64 1) fun t9_1 =>
  next1 t9_1) <|
  K (.bool true)
theorem cell_Right_link (p0 : Value) : Lk 65 #[p0] (cell_Right p0) := lk [p0] [(6, [3])] Tryz.func65 (by kernel_rfl) fun _ _ => by kernel_rfl
theorem cell_Right_b : Bodied Tryz.prog 65 := bd Tryz.func65 (by kernel_rfl)
def cell_Make (p0 p1 : Value) (K : Value → World → Prop) : World → Prop :=
  xB 70 p1 fun t3 =>
  xF 70 t3 1 fun t7 =>
  xL 5 t7 fun t8 =>
  xF 70 t3 2 fun t9 =>
  xL 5 t9 fun t10 =>
  xF 70 t3 3 fun t11 =>
  xL 5 t11 fun t12 =>
  xO .andNot 5 t12 (.int .u8 192) fun t13 =>
  OpX Tryz.prog (.build 70 #[(0, .const p0), (1, .const t8), (2, .const t10), (3, .const t13)]) 70 fun t14 =>
  xA 70 fun t5 =>
  xS 70 t5 t14 <|
  xC 67 [.const p0] [21] 3 fun t16 =>
  xO .eql 3 t16 (.int .i64 1) fun t18 =>
  xW t18
  (xL 70 t5 fun t19 =>
  OpX Tryz.prog (.buildSlice 36 1 #[(0, .const t19)]) 36 fun t20 =>
  K t20) <|
  xO .eql 3 t16 (.int .i64 2) fun t22 =>
  xW t22
  (xF 70 t5 3 fun t23 =>
  xL 5 t23 fun t24 =>
  xO .or 5 t24 (.int .u8 64) fun t25 =>
  xF 70 t5 3 fun t26 =>
  xS 5 t26 t25 <|
  DrewW <|
  qL 70 t5 fun t27 =>
  qL 70 t5 fun t28 =>
  xC 108 [.const t28] [70] 70 fun t29 =>
  xT (qZ 70 t5 t27) <|
  OpX Tryz.prog (.buildSlice 36 2 #[(0, .const t27), (1, .const t29)]) 36 fun t30 =>
  K t30) <|
  K (.slice none 0 0)
theorem cell_Make_link (p0 p1 : Value) : Lk 72 #[p0, p1] (cell_Make p0 p1) := lk [p0, p1] [] Tryz.func72 (by kernel_rfl) fun _ _ => by kernel_rfl
theorem cell_Make_b : Bodied Tryz.prog 72 := bd Tryz.func72 (by kernel_rfl)
def cell_Mend (p0 : Value) (K : Value → World → Prop) : World → Prop :=
  xU p0 36 fun t6 =>
  OpX Tryz.prog (.makeSlice 36 (.const t6) (.const t6)) 36 fun t7 =>
  OpX Tryz.prog (.call { callee := .builtin .copy, args := #[.const t7, .const p0], argTypes := #[36, 36] }) 3 fun _ =>
  Loop1 (.int .i64 0) fun t4 next1 =>
  xU p0 36 fun t13 =>
  xO .lss 3 t4 t13 fun t14 =>
  xW t14
  (xC 100 [.const p0, .const t4] [36, 3] 4 fun t20 =>
  xW t20
  (xO .add 3 t4 (.int .i64 1) fun t22 =>
  xO .add 3 t22 (.int .i64 1) fun t16 =>
  next1 t16) <|
  xI 36 p0 t4 fun t26 =>
  xL 70 t26 fun t27 =>
  xC 101 [.const t27] [70] 4 fun t28 =>
  xN 4 t28 fun t29 =>
  xW t29
  (DrewW <|
  xP (.indexAddr 36 (.const p0) (.const t4)) 0 fun t34 =>
  qF 70 t34 1 fun t35 =>
  qL 5 t35 fun t36 =>
  xP (.indexAddr 36 (.const p0) (.const t4)) 0 fun t39 =>
  qF 70 t39 2 fun t40 =>
  qL 5 t40 fun t41 =>
  OpX Tryz.prog (.build 70 #[(0, .const (.int .i32 32)), (1, .const t36), (2, .const t41)]) 70 fun t42 =>
  xP (.indexAddr 36 (.const t7) (.const t4)) 0 fun t43 =>
  xS 70 t43 t42 <|
  xO .add 3 t4 (.int .i64 1) fun t16_1 =>
  next1 t16_1) <|
  xO .add 3 t4 (.int .i64 1) fun t16_2 =>
  next1 t16_2) <|
  K t7
theorem cell_Mend_link (p0 : Value) : Lk 86 #[p0] (cell_Mend p0) := lk [p0] [(10, [4])] Tryz.func86 (by kernel_rfl) fun _ _ => by kernel_rfl
theorem cell_Mend_b : Bodied Tryz.prog 86 := bd Tryz.func86 (by kernel_rfl)
def cell_Check (p0 : Value) (K : Value → World → Prop) : World → Prop :=
  xB 70 p0 fun t1 =>
  DrewW <|
  qF 70 t1 3 fun t5 =>
  qL 5 t5 fun t6 =>
  qP .and 5 t6 (.int .u8 64) fun t7 =>
  qR .neq 5 t7 (.int .u8 0) fun t8 =>
  qF 70 t1 3 fun t9 =>
  qL 5 t9 fun t10 =>
  qP .and 5 t10 (.int .u8 128) fun t11 =>
  qR .neq 5 t11 (.int .u8 0) fun t12 =>
  xW t12
  (Join1 (fun k1 =>
  xN 4 t8 fun t16 =>
  xW t16
  (xF 70 t1 0 fun t18 =>
  xL 21 t18 fun t19 =>
  xO .eql 21 t19 (.int .i32 0) fun t20 =>
  k1 t20) <|
  k1 (.bool false)) fun t2 =>
  K t2) <|
  xW t8
  (xF 70 t1 0 fun t24 =>
  xL 21 t24 fun t25 =>
  xC 67 [.const t25] [21] 3 fun t26 =>
  xO .eql 3 t26 (.int .i64 2) fun t27 =>
  K t27) <|
  xF 70 t1 0 fun t28 =>
  xL 21 t28 fun t29 =>
  xC 67 [.const t29] [21] 3 fun t30 =>
  xO .eql 3 t30 (.int .i64 1) fun t31 =>
  K t31
theorem cell_Check_link (p0 : Value) : Lk 90 #[p0] (cell_Check p0) := lk [p0] [(10, [2])] Tryz.func90 (by kernel_rfl) fun _ _ => by kernel_rfl
theorem cell_Check_b : Bodied Tryz.prog 90 := bd Tryz.func90 (by kernel_rfl)
def cell_paired (p0 p1 : Value) (K : Value → World → Prop) : World → Prop :=
  xI 36 p0 p1 fun t8 =>
  xL 70 t8 fun t9 =>
  xA 70 fun t5 =>
  xS 70 t5 t9 <|
  DrewW <|
  Join1 (fun k1 =>
  qF 70 t5 3 fun t10 =>
  qL 5 t10 fun t11 =>
  qP .and 5 t11 (.int .u8 64) fun t12 =>
  qR .neq 5 t12 (.int .u8 0) fun t13 =>
  xW t13
  (qL 70 t5 fun t15 =>
  xC 90 [.const t15] [70] 4 fun t16 =>
  xW t16
  (qP .add 3 p1 (.int .i64 1) fun t20 =>
  xR (.call { callee := .builtin .len, args := #[.const p0], argTypes := #[36] }) 3 fun t22 =>
  qP .lss 3 t20 t22 fun t23 =>
  xW t23
  (qP .add 3 p1 (.int .i64 1) fun t28 =>
  xP (.indexAddr 36 (.const p0) (.const t28)) 0 fun t29 =>
  qL 70 t29 fun t30 =>
  qL 70 t5 fun t31 =>
  xC 108 [.const t31] [70] 70 fun t32 =>
  xT (qZ 70 t29 t30) <|
  qR .eql 70 t30 t32 fun t33 =>
  k1 t33) <|
  k1 (.bool false)) <|
  k1 (.bool false)) <|
  k1 (.bool false)) fun t4 =>
  K t4
theorem cell_paired_link (p0 p1 : Value) : Lk 100 #[p0, p1] (cell_paired p0 p1) := lk [p0, p1] [(5, [4])] Tryz.func100 (by kernel_rfl) fun _ _ => by kernel_rfl
theorem cell_paired_b : Bodied Tryz.prog 100 := bd Tryz.func100 (by kernel_rfl)
def cell_single (p0 : Value) (K : Value → World → Prop) : World → Prop :=
  xB 70 p0 fun t1 =>
  Join1 (fun k1 =>
  xF 70 t1 3 fun t3 =>
  xL 5 t3 fun t4 =>
  xO .and 5 t4 (.int .u8 192) fun t5 =>
  xO .eql 5 t5 (.int .u8 0) fun t6 =>
  xW t6
  (xL 70 t1 fun t8 =>
  xC 90 [.const t8] [70] 4 fun t9 =>
  k1 t9) <|
  k1 (.bool false)) fun t2 =>
  K t2
theorem cell_single_link (p0 : Value) : Lk 101 #[p0] (cell_single p0) := lk [p0] [(3, [2])] Tryz.func101 (by kernel_rfl) fun _ _ => by kernel_rfl
theorem cell_single_b : Bodied Tryz.prog 101 := bd Tryz.func101 (by kernel_rfl)
def cell_tailOf (p0 : Value) (K : Value → World → Prop) : World → Prop :=
  xB 70 p0 fun t1 =>
  xA 70 fun t2 =>
  xF 70 t1 1 fun t3 =>
  xL 5 t3 fun t4 =>
  xF 70 t1 2 fun t5 =>
  xL 5 t5 fun t6 =>
  xF 70 t1 3 fun t7 =>
  xL 5 t7 fun t8 =>
  xO .andNot 5 t8 (.int .u8 64) fun t9 =>
  xO .or 5 t9 (.int .u8 128) fun t10 =>
  OpX Tryz.prog (.build 70 #[(1, .const t4), (2, .const t6), (3, .const t10)]) 70 fun t11 =>
  xS 70 t2 t11 <|
  xD 70 t2 fun t2_1 =>
  K t2_1
theorem cell_tailOf_link (p0 : Value) : Lk 108 #[p0] (cell_tailOf p0) := lk [p0] [] Tryz.func108 (by kernel_rfl) fun _ _ => by kernel_rfl
theorem cell_tailOf_b : Bodied Tryz.prog 108 := bd Tryz.func108 (by kernel_rfl)
def runes_Decoder_Feed (p0 p1 : Value) (K : Value → World → Prop) : World → Prop :=
  xO .eql 122 p0 (.pointer none) fun t8 =>
  xW t8
  (K (.slice none 0 0)) <|
  OpX Tryz.prog (.nilCheck (.const p0)) 0 fun t11 =>
  xF 90 t11 0 fun t12 =>
  xL 9 t12 fun t13 =>
  xO .add 9 t13 p1 fun t15 =>
  xC 83 [.const t15] [9] 123 fun t16 =>
  xE t16 0 24 fun t17 =>
  xE t16 1 9 fun t18 =>
  xC 84 [.const t18] [9] 9 fun t21 =>
  OpX Tryz.prog (.nilCheck (.const p0)) 0 fun t22 =>
  xF 90 t22 0 fun t23 =>
  xS 9 t23 t21 <|
  K t17
theorem runes_Decoder_Feed_link (p0 p1 : Value) : Lk 50 #[p0, p1] (runes_Decoder_Feed p0 p1) := lk [p0, p1] [] Tryz.func50 (by kernel_rfl) fun _ _ => by kernel_rfl
theorem runes_Decoder_Feed_b : Bodied Tryz.prog 50 := bd Tryz.func50 (by kernel_rfl)
def runes_Decoder_Pending (p0 : Value) (K : Value → World → Prop) : World → Prop :=
  xO .eql 122 p0 (.pointer none) fun t4 =>
  xW t4
  (K (.int .i64 0)) <|
  OpX Tryz.prog (.nilCheck (.const p0)) 0 fun t6 =>
  xF 90 t6 0 fun t7 =>
  xL 9 t7 fun t8 =>
  xU t8 9 fun t9 =>
  K t9
theorem runes_Decoder_Pending_link (p0 : Value) : Lk 58 #[p0] (runes_Decoder_Pending p0) := lk [p0] [] Tryz.func58 (by kernel_rfl) fun _ _ => by kernel_rfl
theorem runes_Decoder_Pending_b : Bodied Tryz.prog 58 := bd Tryz.func58 (by kernel_rfl)
def runes_Width (p0 : Value) (K : Value → World → Prop) : World → Prop :=
  OpX Tryz.prog (.build 137 #[(0, .const (.int .i32 127)), (1, .const (.int .i32 159)), (2, .const (.int .i64 0))]) 137 fun t6 =>
  OpX Tryz.prog (.build 137 #[(0, .const (.int .i32 768)), (1, .const (.int .i32 879)), (2, .const (.int .i64 0))]) 137 fun t7 =>
  OpX Tryz.prog (.build 137 #[(0, .const (.int .i32 8203)), (1, .const (.int .i32 8207)), (2, .const (.int .i64 0))]) 137 fun t8 =>
  OpX Tryz.prog (.build 137 #[(0, .const (.int .i32 55296)), (1, .const (.int .i32 57343)), (2, .const (.int .i64 0))]) 137 fun t9 =>
  OpX Tryz.prog (.build 137 #[(0, .const (.int .i32 65024)), (1, .const (.int .i32 65039)), (2, .const (.int .i64 0))]) 137 fun t10 =>
  OpX Tryz.prog (.build 137 #[(0, .const (.int .i32 4352)), (1, .const (.int .i32 4447)), (2, .const (.int .i64 2))]) 137 fun t11 =>
  OpX Tryz.prog (.build 137 #[(0, .const (.int .i32 11904)), (1, .const (.int .i32 12350)), (2, .const (.int .i64 2))]) 137 fun t12 =>
  OpX Tryz.prog (.build 137 #[(0, .const (.int .i32 12353)), (1, .const (.int .i32 42191)), (2, .const (.int .i64 2))]) 137 fun t13 =>
  OpX Tryz.prog (.build 137 #[(0, .const (.int .i32 44032)), (1, .const (.int .i32 55203)), (2, .const (.int .i64 2))]) 137 fun t14 =>
  OpX Tryz.prog (.build 137 #[(0, .const (.int .i32 63744)), (1, .const (.int .i32 64255)), (2, .const (.int .i64 2))]) 137 fun t15 =>
  OpX Tryz.prog (.build 137 #[(0, .const (.int .i32 65072)), (1, .const (.int .i32 65135)), (2, .const (.int .i64 2))]) 137 fun t16 =>
  OpX Tryz.prog (.build 137 #[(0, .const (.int .i32 65281)), (1, .const (.int .i32 65376)), (2, .const (.int .i64 2))]) 137 fun t17 =>
  OpX Tryz.prog (.build 137 #[(0, .const (.int .i32 65504)), (1, .const (.int .i32 65510)), (2, .const (.int .i64 2))]) 137 fun t18 =>
  OpX Tryz.prog (.build 137 #[(0, .const (.int .i32 127744)), (1, .const (.int .i32 128591)), (2, .const (.int .i64 2))]) 137 fun t19 =>
  OpX Tryz.prog (.build 137 #[(0, .const (.int .i32 129280)), (1, .const (.int .i32 129535)), (2, .const (.int .i64 2))]) 137 fun t20 =>
  OpX Tryz.prog (.build 137 #[(0, .const (.int .i32 131072)), (1, .const (.int .i32 262141)), (2, .const (.int .i64 2))]) 137 fun t21 =>
  OpX Tryz.prog (.build 138 #[(0, .const t6), (1, .const t7), (2, .const t8), (3, .const t9), (4, .const t10), (5, .const t11), (6, .const t12), (7, .const t13), (8, .const t14), (9, .const t15), (10, .const t16), (11, .const t17), (12, .const t18), (13, .const t19), (14, .const t20), (15, .const t21)]) 138 fun t22 =>
  xA 138 fun t3 =>
  xS 138 t3 t22 <|
  Join1 (fun k1 =>
  xO .lss 21 p0 (.int .i32 32) fun t25 =>
  xW t25
  (k1 (.bool true)) <|
  xO .gtr 21 p0 (.int .i32 1114111) fun t28 =>
  k1 t28) fun t23 =>
  xW t23
  (K (.int .i64 0)) <|
  xO .lss 21 p0 (.int .i32 127) fun t32 =>
  xW t32
  (K (.int .i64 1)) <|
  xL 138 t3 fun t33 =>
  Loop1 (.int .i64 0) fun t34 next2 =>
  xO .lss 3 t34 (.int .i64 16) fun t35 =>
  xW t35
  (OpX Tryz.prog (.index 138 (.const t33) (.const t34)) 137 fun t36 =>
  xA 137 fun t5 =>
  xS 137 t5 t36 <|
  Join1 (fun k3 =>
  xF 137 t5 0 fun t38 =>
  xL 21 t38 fun t39 =>
  xO .geq 21 p0 t39 fun t40 =>
  xW t40
  (xF 137 t5 1 fun t43 =>
  xL 21 t43 fun t44 =>
  xO .leq 21 p0 t44 fun t45 =>
  k3 t45) <|
  k3 (.bool false)) fun t46 =>
  xW t46
  (xF 137 t5 2 fun t47 =>
  xL 3 t47 fun t48 =>
  K t48) <|
  xO .add 3 t34 (.int .i64 1) fun t49 =>
  next2 t49) <|
  K (.int .i64 1)
theorem runes_Width_link (p0 : Value) : Lk 67 #[p0] (runes_Width p0) := lk [p0] [(7, [23]), (23, [34]), (35, [46])] Tryz.func67 (by kernel_rfl) fun _ _ => by kernel_rfl
theorem runes_Width_b : Bodied Tryz.prog 67 := bd Tryz.func67 (by kernel_rfl)
def runes_decode (p0 : Value) (K : Value → World → Prop) : World → Prop :=
  Join2 (fun k1 =>
  Loop2 p0 (.slice none 0 0) fun t0 t4 next2 =>
  xU t0 9 fun t9 =>
  xO .gtr 3 t9 (.int .i64 0) fun t10 =>
  xW t10
  (xC 123 [.const t0] [9] 148 fun t13 =>
  xE t13 0 21 fun t14 =>
  xE t13 1 3 fun t15 =>
  xE t13 2 4 fun t16 =>
  xW t16
  (k1 t0 t4) <|
  OpX Tryz.prog (.buildSlice 24 1 #[(0, .const t14)]) 24 fun t20 =>
  OpX Tryz.prog (.call { callee := .builtin .append, args := #[.const t4, .const t20], argTypes := #[24, 24] }) 24 fun t21 =>
  OpX Tryz.prog (.slice 9 (.const t0) (some (.const t15)) none none) 9 fun t24 =>
  next2 t24 t21) <|
  k1 t0 t4) fun t0_1 t4_1 =>
  K (.tuple #[t4_1, t0_1])
theorem runes_decode_link (p0 : Value) : Lk 83 #[p0] (runes_decode p0) := lk [p0] [(8, [0, 4]), (9, [0, 4])] Tryz.func83 (by kernel_rfl) fun _ _ => by kernel_rfl
theorem runes_decode_b : Bodied Tryz.prog 83 := bd Tryz.func83 (by kernel_rfl)
def runes_Encode (p0 : Value) (K : Value → World → Prop) : World → Prop :=
  xU p0 24 fun t7 =>
  Loop2 (.slice none 0 0) (.int .i64 0) fun t3 t8 next1 =>
  xO .lss 3 t8 t7 fun t9 =>
  xW t9
  (xI 24 p0 t8 fun t10 =>
  xL 21 t10 fun t11 =>
  Join1 (fun k2 =>
  xC 125 [.const t11] [21] 4 fun t13 =>
  xN 4 t13 fun t14 =>
  xW t14
  (k2 (.int .i32 65533)) <|
  k2 t11) fun t5 =>
  xC 126 [.const t3, .const t5] [53, 21] 53 fun t17 =>
  xO .add 3 t8 (.int .i64 1) fun t18 =>
  next1 t17 t18) <|
  OpX Tryz.prog (.convert 53 9 (.const t3)) 9 fun t20 =>
  K t20
theorem runes_Encode_link (p0 : Value) : Lk 91 #[p0] (runes_Encode p0) := lk [p0] [(8, [3, 8]), (19, [5])] Tryz.func91 (by kernel_rfl) fun _ _ => by kernel_rfl
theorem runes_Encode_b : Bodied Tryz.prog 91 := bd Tryz.func91 (by kernel_rfl)
def runes_first (p0 : Value) (K : Value → World → Prop) : World → Prop :=
  OpX Tryz.prog (.index 9 (.const p0) (.const (.int .i64 0))) 5 fun t11 =>
  Join2 (fun k1 =>
  xO .leq 5 t11 (.int .u8 127) fun t14 =>
  xW t14
  (OpX Tryz.prog (.convert 5 21 (.const t11)) 21 fun t16 =>
  K (.tuple #[t16, (.int .i64 1), (.bool false)])) <|
  Join1 (fun k2 =>
  xO .geq 5 t11 (.int .u8 194) fun t19 =>
  xW t19
  (xO .leq 5 t11 (.int .u8 223) fun t22 =>
  k2 t22) <|
  k2 (.bool false)) fun t17 =>
  xW t17
  (xO .and 5 t11 (.int .u8 31) fun t25 =>
  OpX Tryz.prog (.convert 5 21 (.const t25)) 21 fun t26 =>
  k1 t26 (.int .i64 1)) <|
  Join1 (fun k3 =>
  xO .geq 5 t11 (.int .u8 224) fun t29 =>
  xW t29
  (xO .leq 5 t11 (.int .u8 239) fun t32 =>
  k3 t32) <|
  k3 (.bool false)) fun t27 =>
  xW t27
  (xO .and 5 t11 (.int .u8 15) fun t35 =>
  OpX Tryz.prog (.convert 5 21 (.const t35)) 21 fun t36 =>
  k1 t36 (.int .i64 2)) <|
  Join1 (fun k4 =>
  xO .geq 5 t11 (.int .u8 240) fun t39 =>
  xW t39
  (xO .leq 5 t11 (.int .u8 244) fun t42 =>
  k4 t42) <|
  k4 (.bool false)) fun t37 =>
  xW t37
  (xO .and 5 t11 (.int .u8 7) fun t45 =>
  OpX Tryz.prog (.convert 5 21 (.const t45)) 21 fun t46 =>
  k1 t46 (.int .i64 3)) <|
  K (.tuple #[(.int .i32 65533), (.int .i64 1), (.bool false)])) fun t2 t6 =>
  Join2 (fun k5 =>
  xO .eql 5 t11 (.int .u8 224) fun t49 =>
  xW t49
  (k5 (.int .u8 160) (.int .u8 191)) <|
  xO .eql 5 t11 (.int .u8 237) fun t51 =>
  xW t51
  (k5 (.int .u8 128) (.int .u8 159)) <|
  xO .eql 5 t11 (.int .u8 240) fun t53 =>
  xW t53
  (k5 (.int .u8 144) (.int .u8 191)) <|
  xO .eql 5 t11 (.int .u8 244) fun t55 =>
  xW t55
  (k5 (.int .u8 128) (.int .u8 143)) <|
  k5 (.int .u8 128) (.int .u8 191)) fun t7 t8 =>
  Loop4 t2 (.int .i64 1) t7 t8 fun t2_1 t3 t7_1 t8_1 next6 =>
  xO .leq 3 t3 t6 fun t58 =>
  xW t58
  (xU p0 9 fun t63 =>
  xO .eql 3 t3 t63 fun t64 =>
  xW t64
  (K (.tuple #[(.int .i32 65533), t3, (.bool true)])) <|
  OpX Tryz.prog (.index 9 (.const p0) (.const t3)) 5 fun t68 =>
  Join1 (fun k7 =>
  xO .lss 5 t68 t7_1 fun t71 =>
  xW t71
  (k7 (.bool true)) <|
  xO .gtr 5 t68 t8_1 fun t75 =>
  k7 t75) fun t76 =>
  xW t76
  (K (.tuple #[(.int .i32 65533), t3, (.bool false)])) <|
  xO .shl 21 t2_1 (.int .u64 6) fun t79 =>
  xO .and 5 t68 (.int .u8 63) fun t81 =>
  OpX Tryz.prog (.convert 5 21 (.const t81)) 21 fun t82 =>
  xO .or 21 t79 t82 fun t83 =>
  xO .add 3 t3 (.int .i64 1) fun t60 =>
  next6 t83 t60 (.int .u8 128) (.int .u8 191)) <|
  K (.tuple #[t2_1, t3, (.bool false)])
theorem runes_first_link (p0 : Value) : Lk 123 #[p0] (runes_first p0) := lk [p0] [(6, [2, 6]), (15, [17]), (19, [27]), (23, [37]), (29, [7, 8]), (54, [2, 3, 7, 8]), (75, [76])] Tryz.func123 (by kernel_rfl) fun _ _ => by kernel_rfl
theorem runes_first_b : Bodied Tryz.prog 123 := bd Tryz.func123 (by kernel_rfl)
def unicode_utf8_ValidRune (p0 : Value) (K : Value → World → Prop) : World → Prop :=
  Join1 (fun k1 =>
  xO .leq 21 (.int .i32 0) p0 fun t5 =>
  xW t5
  (xO .lss 21 p0 (.int .i32 55296) fun t8 =>
  k1 t8) <|
  k1 (.bool false)) fun t3 =>
  xW t3
  (K (.bool true)) <|
  Join1 (fun k2 =>
  xO .lss 21 (.int .i32 57343) p0 fun t12 =>
  xW t12
  (xO .leq 21 p0 (.int .i32 1114111) fun t15 =>
  k2 t15) <|
  k2 (.bool false)) fun t10 =>
  xW t10
  (K (.bool true)) <|
  K (.bool false)
theorem unicode_utf8_ValidRune_link (p0 : Value) : Lk 125 #[p0] (unicode_utf8_ValidRune p0) := lk [p0] [(5, [3]), (11, [10])] Tryz.func125 (by kernel_rfl) fun _ _ => by kernel_rfl
theorem unicode_utf8_ValidRune_b : Bodied Tryz.prog 125 := bd Tryz.func125 (by kernel_rfl)
def unicode_utf8_AppendRune (p0 p1 : Value) (K : Value → World → Prop) : World → Prop :=
  OpX Tryz.prog (.convert 21 166 (.const p1)) 166 fun t6 =>
  xO .leq 166 t6 (.int .u32 127) fun t7 =>
  xW t7
  (OpX Tryz.prog (.convert 21 5 (.const p1)) 5 fun t10 =>
  OpX Tryz.prog (.buildSlice 53 1 #[(0, .const t10)]) 53 fun t11 =>
  OpX Tryz.prog (.call { callee := .builtin .append, args := #[.const p0, .const t11], argTypes := #[53, 53] }) 53 fun t12 =>
  K t12) <|
  xC 139 [.const p0, .const p1] [53, 21] 53 fun t15 =>
  K t15
theorem unicode_utf8_AppendRune_link (p0 p1 : Value) : Lk 126 #[p0, p1] (unicode_utf8_AppendRune p0 p1) := lk [p0, p1] [] Tryz.func126 (by kernel_rfl) fun _ _ => by kernel_rfl
theorem unicode_utf8_AppendRune_b : Bodied Tryz.prog 126 := bd Tryz.func126 (by kernel_rfl)
def unicode_utf8_appendRuneNonASCII (p0 p1 : Value) (K : Value → World → Prop) : World → Prop :=
  OpX Tryz.prog (.convert 21 166 (.const p1)) 166 fun t7 =>
  xO .leq 166 t7 (.int .u32 2047) fun t13 =>
  xW t13
  (xO .shr 21 p1 (.int .u64 6) fun t16 =>
  OpX Tryz.prog (.convert 21 5 (.const t16)) 5 fun t17 =>
  xO .or 5 (.int .u8 192) t17 fun t18 =>
  OpX Tryz.prog (.convert 21 5 (.const p1)) 5 fun t20 =>
  xO .and 5 t20 (.int .u8 63) fun t21 =>
  xO .or 5 (.int .u8 128) t21 fun t22 =>
  OpX Tryz.prog (.buildSlice 53 2 #[(0, .const t18), (1, .const t22)]) 53 fun t23 =>
  OpX Tryz.prog (.call { callee := .builtin .append, args := #[.const p0, .const t23], argTypes := #[53, 53] }) 53 fun t24 =>
  K t24) <|
  Join1 (fun k1 =>
  xO .lss 166 t7 (.int .u32 55296) fun t27 =>
  xW t27
  (k1 (.bool true)) <|
  Join1 (fun k2 =>
  xO .lss 166 (.int .u32 57343) t7 fun t29 =>
  xW t29
  (xO .leq 166 t7 (.int .u32 65535) fun t32 =>
  k2 t32) <|
  k2 (.bool false)) fun t25 =>
  k1 t25) fun t25_1 =>
  xW t25_1
  (xO .shr 21 p1 (.int .u64 12) fun t36 =>
  OpX Tryz.prog (.convert 21 5 (.const t36)) 5 fun t37 =>
  xO .or 5 (.int .u8 224) t37 fun t38 =>
  xO .shr 21 p1 (.int .u64 6) fun t40 =>
  OpX Tryz.prog (.convert 21 5 (.const t40)) 5 fun t41 =>
  xO .and 5 t41 (.int .u8 63) fun t42 =>
  xO .or 5 (.int .u8 128) t42 fun t43 =>
  OpX Tryz.prog (.convert 21 5 (.const p1)) 5 fun t45 =>
  xO .and 5 t45 (.int .u8 63) fun t46 =>
  xO .or 5 (.int .u8 128) t46 fun t47 =>
  OpX Tryz.prog (.buildSlice 53 3 #[(0, .const t38), (1, .const t43), (2, .const t47)]) 53 fun t48 =>
  OpX Tryz.prog (.call { callee := .builtin .append, args := #[.const p0, .const t48], argTypes := #[53, 53] }) 53 fun t49 =>
  K t49) <|
  Join1 (fun k3 =>
  xO .gtr 166 t7 (.int .u32 65535) fun t52 =>
  xW t52
  (xO .leq 166 t7 (.int .u32 1114111) fun t55 =>
  k3 t55) <|
  k3 (.bool false)) fun t50 =>
  xW t50
  (xO .shr 21 p1 (.int .u64 18) fun t59 =>
  OpX Tryz.prog (.convert 21 5 (.const t59)) 5 fun t60 =>
  xO .or 5 (.int .u8 240) t60 fun t61 =>
  xO .shr 21 p1 (.int .u64 12) fun t63 =>
  OpX Tryz.prog (.convert 21 5 (.const t63)) 5 fun t64 =>
  xO .and 5 t64 (.int .u8 63) fun t65 =>
  xO .or 5 (.int .u8 128) t65 fun t66 =>
  xO .shr 21 p1 (.int .u64 6) fun t68 =>
  OpX Tryz.prog (.convert 21 5 (.const t68)) 5 fun t69 =>
  xO .and 5 t69 (.int .u8 63) fun t70 =>
  xO .or 5 (.int .u8 128) t70 fun t71 =>
  OpX Tryz.prog (.convert 21 5 (.const p1)) 5 fun t73 =>
  xO .and 5 t73 (.int .u8 63) fun t74 =>
  xO .or 5 (.int .u8 128) t74 fun t75 =>
  OpX Tryz.prog (.buildSlice 53 4 #[(0, .const t61), (1, .const t66), (2, .const t71), (3, .const t75)]) 53 fun t76 =>
  OpX Tryz.prog (.call { callee := .builtin .append, args := #[.const p0, .const t76], argTypes := #[53, 53] }) 53 fun t77 =>
  K t77) <|
  OpX Tryz.prog (.buildSlice 53 3 #[(0, .const (.int .u8 239)), (1, .const (.int .u8 191)), (2, .const (.int .u8 189))]) 53 fun t9 =>
  OpX Tryz.prog (.call { callee := .builtin .append, args := #[.const p0, .const t9], argTypes := #[53, 53] }) 53 fun t10 =>
  K t10
theorem unicode_utf8_appendRuneNonASCII_link (p0 p1 : Value) : Lk 139 #[p0, p1] (unicode_utf8_appendRuneNonASCII p0 p1) := lk [p0, p1] [(11, [25]), (16, [25]), (22, [50])] Tryz.func139 (by kernel_rfl) fun _ _ => by kernel_rfl
theorem unicode_utf8_appendRuneNonASCII_b : Bodied Tryz.prog 139 := bd Tryz.func139 (by kernel_rfl)
def lyceumref04_Width (p0 : Value) (K : Value → World → Prop) : World → Prop :=
  Join1 (fun k1 =>
  xC 118 [.const p0] [21] 4 fun t4 =>
  xW t4
  (k1 (.bool true)) <|
  xO .lss 21 p0 (.int .i32 32) fun t7 =>
  xW t7
  (k1 (.bool true)) <|
  xC 119 [.const p0, .const (.int .i64 127), .const (.int .i64 159)] [21, 3, 3] 4 fun t11 =>
  xW t11
  (k1 (.bool true)) <|
  xC 119 [.const p0, .const (.int .i64 768), .const (.int .i64 879)] [21, 3, 3] 4 fun t15 =>
  xW t15
  (k1 (.bool true)) <|
  xC 119 [.const p0, .const (.int .i64 8203), .const (.int .i64 8207)] [21, 3, 3] 4 fun t19 =>
  xW t19
  (k1 (.bool true)) <|
  xC 119 [.const p0, .const (.int .i64 65024), .const (.int .i64 65039)] [21, 3, 3] 4 fun t23 =>
  k1 t23) fun t24 =>
  xW t24
  (K (.int .i64 0)) <|
  Join1 (fun k2 =>
  xC 119 [.const p0, .const (.int .i64 4352), .const (.int .i64 4447)] [21, 3, 3] 4 fun t26 =>
  xW t26
  (k2 (.bool true)) <|
  xC 119 [.const p0, .const (.int .i64 11904), .const (.int .i64 12350)] [21, 3, 3] 4 fun t29 =>
  xW t29
  (k2 (.bool true)) <|
  xC 119 [.const p0, .const (.int .i64 12353), .const (.int .i64 42191)] [21, 3, 3] 4 fun t33 =>
  xW t33
  (k2 (.bool true)) <|
  xC 119 [.const p0, .const (.int .i64 44032), .const (.int .i64 55203)] [21, 3, 3] 4 fun t37 =>
  xW t37
  (k2 (.bool true)) <|
  xC 119 [.const p0, .const (.int .i64 63744), .const (.int .i64 64255)] [21, 3, 3] 4 fun t41 =>
  xW t41
  (k2 (.bool true)) <|
  xC 119 [.const p0, .const (.int .i64 65072), .const (.int .i64 65135)] [21, 3, 3] 4 fun t45 =>
  xW t45
  (k2 (.bool true)) <|
  xC 119 [.const p0, .const (.int .i64 65281), .const (.int .i64 65376)] [21, 3, 3] 4 fun t49 =>
  xW t49
  (k2 (.bool true)) <|
  xC 119 [.const p0, .const (.int .i64 65504), .const (.int .i64 65510)] [21, 3, 3] 4 fun t53 =>
  xW t53
  (k2 (.bool true)) <|
  xC 119 [.const p0, .const (.int .i64 127744), .const (.int .i64 128591)] [21, 3, 3] 4 fun t57 =>
  xW t57
  (k2 (.bool true)) <|
  xC 119 [.const p0, .const (.int .i64 129280), .const (.int .i64 129535)] [21, 3, 3] 4 fun t61 =>
  xW t61
  (k2 (.bool true)) <|
  xC 119 [.const p0, .const (.int .i64 131072), .const (.int .i64 262141)] [21, 3, 3] 4 fun t65 =>
  k2 t65) fun t66 =>
  xW t66
  (K (.int .i64 2)) <|
  K (.int .i64 1)
theorem lyceumref04_Width_link (p0 : Value) : Lk 80 #[p0] (lyceumref04_Width p0) := lk [p0] [(4, [24]), (12, [66])] Tryz.func80 (by kernel_rfl) fun _ _ => by kernel_rfl
theorem lyceumref04_Width_b : Bodied Tryz.prog 80 := bd Tryz.func80 (by kernel_rfl)
def lyceumref04_none (p0 : Value) (K : Value → World → Prop) : World → Prop :=
  Join1 (fun k1 =>
  xO .lss 21 p0 (.int .i32 0) fun t4 =>
  xW t4
  (k1 (.bool true)) <|
  xO .gtr 21 p0 (.int .i32 1114111) fun t7 =>
  xW t7
  (k1 (.bool true)) <|
  xO .geq 21 p0 (.int .i32 55296) fun t11 =>
  xW t11
  (xO .leq 21 p0 (.int .i32 57343) fun t14 =>
  k1 t14) <|
  k1 (.bool false)) fun t2 =>
  K t2
theorem lyceumref04_none_link (p0 : Value) : Lk 118 #[p0] (lyceumref04_none p0) := lk [p0] [(3, [2])] Tryz.func118 (by kernel_rfl) fun _ _ => by kernel_rfl
theorem lyceumref04_none_b : Bodied Tryz.prog 118 := bd Tryz.func118 (by kernel_rfl)
def lyceumref04_within (p0 p1 p2 : Value) (K : Value → World → Prop) : World → Prop :=
  Join1 (fun k1 =>
  OpX Tryz.prog (.convert 21 3 (.const p0)) 3 fun t8 =>
  xO .geq 3 t8 p1 fun t10 =>
  xW t10
  (OpX Tryz.prog (.convert 21 3 (.const p0)) 3 fun t13 =>
  xO .leq 3 t13 p2 fun t15 =>
  k1 t15) <|
  k1 (.bool false)) fun t6 =>
  K t6
theorem lyceumref04_within_link (p0 p1 p2 : Value) : Lk 119 #[p0, p1, p2] (lyceumref04_within p0 p1 p2) := lk [p0, p1, p2] [(3, [6])] Tryz.func119 (by kernel_rfl) fun _ _ => by kernel_rfl
theorem lyceumref04_within_b : Bodied Tryz.prog 119 := bd Tryz.func119 (by kernel_rfl)
def lyceumref05_Right (p0 : Value) (K : Value → World → Prop) : World → Prop :=
  Loop1 (.int .i64 0) fun t3 next1 =>
  xU p0 36 fun t6 =>
  xO .lss 3 t3 t6 fun t7 =>
  xW t7
  (Join1 (fun k2 =>
  xI 36 p0 t3 fun t12 =>
  xL 70 t12 fun t13 =>
  xC 44 [.const t13] [70] 4 fun t14 =>
  xN 4 t14 fun t15 =>
  xW t15
  (k2 (.bool true)) <|
  xI 36 p0 t3 fun t19 =>
  xL 70 t19 fun t20 =>
  xC 45 [.const t20] [70] 4 fun t21 =>
  xW t21
  (xC 46 [.const p0, .const t3] [36, 3] 4 fun t25 =>
  xN 4 t25 fun t26 =>
  xW t26
  (k2 (.bool true)) <|
  xI 36 p0 t3 fun t32 =>
  xL 70 t32 fun t33 =>
  xC 47 [.const t33] [70] 4 fun t34 =>
  xW t34
  (xO .sub 3 t3 (.int .i64 1) fun t38 =>
  xC 46 [.const p0, .const t38] [36, 3] 4 fun t39 =>
  xN 4 t39 fun t40 =>
  k2 t40) <|
  k2 (.bool false)) <|
  xI 36 p0 t3 fun t32_1 =>
  xL 70 t32_1 fun t33_1 =>
  xC 47 [.const t33_1] [70] 4 fun t34_1 =>
  xW t34_1
  (xO .sub 3 t3 (.int .i64 1) fun t38_1 =>
  xC 46 [.const p0, .const t38_1] [36, 3] 4 fun t39_1 =>
  xN 4 t39_1 fun t40_1 =>
  k2 t40_1) <|
  k2 (.bool false)) fun t42 =>
  xW t42
  (K (.bool false)) <|
  xO .add 3 t3 (.int .i64 1) fun t9 =>
  next1 t9) <|
  K (.bool true)
theorem lyceumref05_Right_link (p0 : Value) : Lk 17 #[p0] (lyceumref05_Right p0) := lk [p0] [(6, [3]), (16, [42])] Tryz.func17 (by kernel_rfl) fun _ _ => by kernel_rfl
theorem lyceumref05_Right_b : Bodied Tryz.prog 17 := bd Tryz.func17 (by kernel_rfl)
def lyceumref05_Check (p0 : Value) (K : Value → World → Prop) : World → Prop :=
  xB 70 p0 fun t1 =>
  xF 70 t1 0 fun t4 =>
  xL 21 t4 fun t5 =>
  xC 80 [.const t5] [21] 3 fun t6 =>
  xL 70 t1 fun t7 =>
  xC 47 [.const t7] [70] 4 fun t8 =>
  xW t8
  (Join1 (fun k1 =>
  xL 70 t1 fun t9 =>
  xC 45 [.const t9] [70] 4 fun t10 =>
  xN 4 t10 fun t11 =>
  xW t11
  (xF 70 t1 0 fun t13 =>
  xL 21 t13 fun t14 =>
  xO .eql 21 t14 (.int .i32 0) fun t15 =>
  k1 t15) <|
  k1 (.bool false)) fun t2 =>
  K t2) <|
  Join1 (fun k2 =>
  xO .eql 3 t6 (.int .i64 1) fun t18 =>
  xW t18
  (xL 70 t1 fun t20 =>
  xC 45 [.const t20] [70] 4 fun t21 =>
  xN 4 t21 fun t22 =>
  xW t22
  (k2 (.bool true)) <|
  xO .eql 3 t6 (.int .i64 2) fun t26 =>
  xW t26
  (xL 70 t1 fun t28 =>
  xC 45 [.const t28] [70] 4 fun t29 =>
  k2 t29) <|
  k2 (.bool false)) <|
  xO .eql 3 t6 (.int .i64 2) fun t26_1 =>
  xW t26_1
  (xL 70 t1 fun t28_1 =>
  xC 45 [.const t28_1] [70] 4 fun t29_1 =>
  k2 t29_1) <|
  k2 (.bool false)) fun t2_1 =>
  K t2_1
theorem lyceumref05_Check_link (p0 : Value) : Lk 44 #[p0] (lyceumref05_Check p0) := lk [p0] [(9, [2]), (13, [2])] Tryz.func44 (by kernel_rfl) fun _ _ => by kernel_rfl
theorem lyceumref05_Check_b : Bodied Tryz.prog 44 := bd Tryz.func44 (by kernel_rfl)
def lyceumref05_wide (p0 : Value) (K : Value → World → Prop) : World → Prop :=
  xB 70 p0 fun t1 =>
  xF 70 t1 3 fun t3 =>
  xL 5 t3 fun t4 =>
  xO .quo 5 t4 (.int .u8 64) fun t5 =>
  xO .rem 5 t5 (.int .u8 2) fun t6 =>
  xO .eql 5 t6 (.int .u8 1) fun t7 =>
  K t7
theorem lyceumref05_wide_link (p0 : Value) : Lk 45 #[p0] (lyceumref05_wide p0) := lk [p0] [] Tryz.func45 (by kernel_rfl) fun _ _ => by kernel_rfl
theorem lyceumref05_wide_b : Bodied Tryz.prog 45 := bd Tryz.func45 (by kernel_rfl)
def lyceumref05_pair (p0 p1 : Value) (K : Value → World → Prop) : World → Prop :=
  DrewW <|
  Join1 (fun k1 =>
  qP .geq 3 p1 (.int .i64 0) fun t6 =>
  xW t6
  (qP .add 3 p1 (.int .i64 1) fun t9 =>
  xR (.call { callee := .builtin .len, args := #[.const p0], argTypes := #[36] }) 3 fun t11 =>
  qP .lss 3 t9 t11 fun t12 =>
  xW t12
  (xP (.indexAddr 36 (.const p0) (.const p1)) 0 fun t17 =>
  qL 70 t17 fun t18 =>
  xC 44 [.const t18] [70] 4 fun t19 =>
  xW t19
  (xP (.indexAddr 36 (.const p0) (.const p1)) 0 fun t24 =>
  qL 70 t24 fun t25 =>
  xC 45 [.const t25] [70] 4 fun t26 =>
  xW t26
  (qP .add 3 p1 (.int .i64 1) fun t31 =>
  xP (.indexAddr 36 (.const p0) (.const t31)) 0 fun t32 =>
  qL 70 t32 fun t33 =>
  xP (.indexAddr 36 (.const p0) (.const p1)) 0 fun t36 =>
  qL 70 t36 fun t37 =>
  xC 81 [.const t37] [70] 70 fun t38 =>
  xT (qZ 70 t32 t33) <|
  qR .eql 70 t33 t38 fun t39 =>
  k1 t39) <|
  k1 (.bool false)) <|
  k1 (.bool false)) <|
  k1 (.bool false)) <|
  k1 (.bool false)) fun t4 =>
  K t4
theorem lyceumref05_pair_link (p0 p1 : Value) : Lk 46 #[p0, p1] (lyceumref05_pair p0 p1) := lk [p0, p1] [(3, [4])] Tryz.func46 (by kernel_rfl) fun _ _ => by kernel_rfl
theorem lyceumref05_pair_b : Bodied Tryz.prog 46 := bd Tryz.func46 (by kernel_rfl)
def lyceumref05_tail (p0 : Value) (K : Value → World → Prop) : World → Prop :=
  xB 70 p0 fun t1 =>
  xF 70 t1 3 fun t3 =>
  xL 5 t3 fun t4 =>
  xO .quo 5 t4 (.int .u8 128) fun t5 =>
  xO .eql 5 t5 (.int .u8 1) fun t6 =>
  K t6
theorem lyceumref05_tail_link (p0 : Value) : Lk 47 #[p0] (lyceumref05_tail p0) := lk [p0] [] Tryz.func47 (by kernel_rfl) fun _ _ => by kernel_rfl
theorem lyceumref05_tail_b : Bodied Tryz.prog 47 := bd Tryz.func47 (by kernel_rfl)
def lyceumref05_Same (p0 p1 : Value) (K : Value → World → Prop) : World → Prop :=
  xU p0 36 fun t7 =>
  xU p1 36 fun t9 =>
  xO .neq 3 t7 t9 fun t10 =>
  xW t10
  (K (.bool false)) <|
  Loop1 (.int .i64 0) fun t5 next1 =>
  xU p0 36 fun t13 =>
  xO .lss 3 t5 t13 fun t14 =>
  xW t14
  (DrewW <|
  xP (.indexAddr 36 (.const p0) (.const t5)) 0 fun t19 =>
  qL 70 t19 fun t20 =>
  xP (.indexAddr 36 (.const p1) (.const t5)) 0 fun t23 =>
  qL 70 t23 fun t24 =>
  qR .neq 70 t20 t24 fun t25 =>
  xW t25
  (K (.bool false)) <|
  xO .add 3 t5 (.int .i64 1) fun t16 =>
  next1 t16) <|
  K (.bool true)
theorem lyceumref05_Same_link (p0 p1 : Value) : Lk 57 #[p0, p1] (lyceumref05_Same p0 p1) := lk [p0, p1] [(14, [5])] Tryz.func57 (by kernel_rfl) fun _ _ => by kernel_rfl
theorem lyceumref05_Same_b : Bodied Tryz.prog 57 := bd Tryz.func57 (by kernel_rfl)
def lyceumref05_Tail (p0 : Value) (K : Value → World → Prop) : World → Prop :=
  xB 70 p0 fun t1 =>
  xA 70 fun t2 =>
  xF 70 t1 1 fun t3 =>
  xL 5 t3 fun t4 =>
  xF 70 t1 2 fun t5 =>
  xL 5 t5 fun t6 =>
  xF 70 t1 3 fun t7 =>
  xL 5 t7 fun t8 =>
  xO .rem 5 t8 (.int .u8 64) fun t9 =>
  xO .add 5 t9 (.int .u8 128) fun t10 =>
  OpX Tryz.prog (.build 70 #[(1, .const t4), (2, .const t6), (3, .const t10)]) 70 fun t11 =>
  xS 70 t2 t11 <|
  xD 70 t2 fun t2_1 =>
  K t2_1
theorem lyceumref05_Tail_link (p0 : Value) : Lk 81 #[p0] (lyceumref05_Tail p0) := lk [p0] [] Tryz.func81 (by kernel_rfl) fun _ _ => by kernel_rfl
theorem lyceumref05_Tail_b : Bodied Tryz.prog 81 := bd Tryz.func81 (by kernel_rfl)
end Go.Proofs.YtjfembffjjijaaaGreat
namespace Go.Proofs.YtjfembffjjijaaaGreat
open Lyc Go
def spanCells (l : List (Int × Int × Int)) : List Value := l.flatMap fun s => [.int .i32 s.1, .int .i32 s.2.1, .int .i64 s.2.2]
theorem span_get (l : List (Int × Int × Int)) (i : Nat) (s : Int × Int × Int) (h : l[i]? = some s) : ((spanCells l).toArray).extract (i * 3) (i * 3 + 3) = #[.int .i32 s.1, .int .i32 s.2.1, .int .i64 s.2.2] := by
  obtain ⟨pre, post, h1, h2⟩ := flat_get (f := fun s : Int × Int × Int => [Value.int .i32 s.1, .int .i32 s.2.1, .int .i64 s.2.2]) (m := 3) (fun _ => rfl) l i s h
  have := aggAt_mid pre [Value.int .i32 s.1, .int .i32 s.2.1, .int .i64 s.2.2] post 0 (0, 0) (i * 3) 3 h2 rfl
  rw [aggAt_cells] at this
  have hs : spanCells l = pre ++ [Value.int .i32 s.1, .int .i32 s.2.1, .int .i64 s.2.2] ++ post := h1
  rw [hs]
  split at this
  · simpa using this
  · simp at this
theorem width_c (w : World) (r : Int) : Calls Tryz.prog 67 #[.int .i32 r] w (retK fun v w' => v = .int .i64 (width r) ∧ Chg [] w w') := by
  apply runes_Width_link
  intro K hK
  unfold runes_Width
  refine OpX.build (c := #[.int .i32 127, .int .i32 159, .int .i64 0]) (by kernel_rfl) ?_
  refine OpX.build (c := #[.int .i32 768, .int .i32 879, .int .i64 0]) (by kernel_rfl) ?_
  refine OpX.build (c := #[.int .i32 8203, .int .i32 8207, .int .i64 0]) (by kernel_rfl) ?_
  refine OpX.build (c := #[.int .i32 55296, .int .i32 57343, .int .i64 0]) (by kernel_rfl) ?_
  refine OpX.build (c := #[.int .i32 65024, .int .i32 65039, .int .i64 0]) (by kernel_rfl) ?_
  refine OpX.build (c := #[.int .i32 4352, .int .i32 4447, .int .i64 2]) (by kernel_rfl) ?_
  refine OpX.build (c := #[.int .i32 11904, .int .i32 12350, .int .i64 2]) (by kernel_rfl) ?_
  refine OpX.build (c := #[.int .i32 12353, .int .i32 42191, .int .i64 2]) (by kernel_rfl) ?_
  refine OpX.build (c := #[.int .i32 44032, .int .i32 55203, .int .i64 2]) (by kernel_rfl) ?_
  refine OpX.build (c := #[.int .i32 63744, .int .i32 64255, .int .i64 2]) (by kernel_rfl) ?_
  refine OpX.build (c := #[.int .i32 65072, .int .i32 65135, .int .i64 2]) (by kernel_rfl) ?_
  refine OpX.build (c := #[.int .i32 65281, .int .i32 65376, .int .i64 2]) (by kernel_rfl) ?_
  refine OpX.build (c := #[.int .i32 65504, .int .i32 65510, .int .i64 2]) (by kernel_rfl) ?_
  refine OpX.build (c := #[.int .i32 127744, .int .i32 128591, .int .i64 2]) (by kernel_rfl) ?_
  refine OpX.build (c := #[.int .i32 129280, .int .i32 129535, .int .i64 2]) (by kernel_rfl) ?_
  refine OpX.build (c := #[.int .i32 131072, .int .i32 262141, .int .i64 2]) (by kernel_rfl) ?_
  refine OpX.build (c := (spanCells spans).toArray) (by kernel_rfl) ?_
  refine OpX.fresh (z := _) ty138z (by kernel_rfl) (by kernel_rfl) (by kernel_rfl) ?_
  refine Join1.inl ?_
  simp -dsimp (disch := first | omega | (simp only [go_sem, seval]; first | done | omega)) only [go_sem, seval]
  have hc0 := (Chg.refl [] w).alloc (.cells (Value.agg (spanCells spans).toArray).cells 138)
  refine BrW.dec (fun h => ?_) (fun h => ?_)
  · simp -dsimp (disch := first | omega | (simp only [go_sem, seval]; first | done | omega)) only [go_sem, seval]
    exact hK _ _ ⟨by simp [width, h], hc0⟩
  · simp -dsimp (disch := first | omega | (simp only [go_sem, seval]; first | done | omega)) only [go_sem, seval]
    refine BrW.dec (fun h2 => ?_) (fun h2 => ?_)
    · exact hK _ _ ⟨by simp [width, h2], hc0⟩
    · simp -dsimp (disch := first | omega | (simp only [go_sem, seval]; first | done | omega)) only [go_sem, seval]
      refine BrW.dec (fun h3 => ?_) (fun h3 => ?_)
      · exact hK _ _ ⟨by simp [width, h, h2, h3], hc0⟩
      · have hld : aggAt ((w.alloc (.cells (spanCells spans).toArray 138)).heap[w.heap.size]?) 0 48 = some (spanCells spans).toArray := by
          rw [Lyc.heap_alloc_new _ _ _ rfl]
          exact aggAt_mid [] (spanCells spans) [] _ _ 0 48 rfl (by kernel_rfl)
        rw [xL, x_loadA _ _ _ _ _ _ ty138.2.2.2.1, ty138.2.2.2.2.2.1, Option.bind_some, hld, OrK_some]
        refine Loop1.st (fun k : Nat => .int .i64 k) (fun k w' => Chg [] w w' ∧ k ≤ 16 ∧ spanW spans r = spanW (spans.drop k) r) (fun k => 16 - k) 0 rfl ⟨hc0, by omega, rfl⟩ ?_
        rintro next k w' hn ⟨hc, hk, he⟩
        simp -dsimp (disch := first | omega | (simp only [go_sem, seval]; first | done | omega)) only [go_sem, seval]
        refine BrW.dec (fun h4 => ?_) (fun h4 => ?_)
        · have hk' : k < 16 := by omega
          have hs : spans[k]? = some (spans[k]'hk') := List.getElem?_eq_getElem hk'
          have hd : spans.drop k = spans[k]'hk' :: spans.drop (k + 1) := List.drop_eq_getElem_cons hk'
          rw [hd] at he
          generalize spans[k]'hk' = s at hs he
          have hi : idxL Tryz.prog 138 (spanCells spans).toArray k = some (.agg #[.int .i32 s.1, .int .i32 s.2.1, .int .i64 s.2.2]) := by
            have := span_get _ _ _ hs
            simp [idxL, partL, ty138.2.2.2.2.2.2.1, ty138.2.2.2.2.1, ty137.2.2.2.1, ty137.2.1, h4]
            exact ⟨hk', by simpa using this⟩
          simp -dsimp (disch := first | omega | (simp only [go_sem, seval]; first | done | omega)) only [go_sem, seval, hi]
          have hc1 := hc.alloc (.cells #[.int .i32 s.1, .int .i32 s.2.1, .int .i64 s.2.2] 137)
          refine Join1.inl ?_
          simp -dsimp (disch := first | omega | (simp only [go_sem, seval]; first | done | omega)) only [go_sem, seval]
          refine BrW.dec (fun h5 => ?_) (fun h5 => ?_)
          · simp -dsimp (disch := first | omega | (simp only [go_sem, seval]; first | done | omega)) only [go_sem, seval]
            refine BrW.dec (fun h6 => ?_) (fun h6 => ?_)
            · simp -dsimp (disch := first | omega | (simp only [go_sem, seval]; first | done | omega)) only [go_sem, seval]
              refine hK _ _ ⟨?_, hc1⟩
              simp [width, h, h2, h3, he, spanW, h5, h6]
            · simp -dsimp (disch := first | omega | (simp only [go_sem, seval]; first | done | omega)) only [go_sem, seval]
              refine hn (k + 1) _ ⟨hc1, by omega, ?_⟩ (by omega)
              rw [he]; simp [spanW, h6]
          · simp -dsimp (disch := first | omega | (simp only [go_sem, seval]; first | done | omega)) only [go_sem, seval]
            refine hn (k + 1) _ ⟨hc1, by omega, ?_⟩ (by omega)
            rw [he]; simp [spanW, h5]
        · have hk' : k = 16 := by omega
          subst hk'
          refine hK _ _ ⟨?_, hc⟩
          simp [width, h, h2, h3, he]
          simp [spans, spanW]
theorem check_c (w : World) (c : Cel) : Calls Tryz.prog 90 #[c.val] w (retK fun v w' => v = .bool c.check ∧ Chg [] w w') := by
  apply cell_Check_link
  intro K hK
  unfold cell_Check
  simp -dsimp (disch := first | omega | (simp only [go_sem, seval]; first | done | omega)) only [go_sem, seval]
  have hc1 := ((Chg.refl [] w).alloc (.cells c.cells.toArray 70)).drew
  refine BrW.dec (fun h => ?_) (fun h => ?_)
  · refine Join1.inl ?_
    simp -dsimp (disch := first | omega | (simp only [go_sem, seval]; first | done | omega)) only [go_sem, seval]
    refine BrW.dec (fun h2 => ?_) (fun h2 => ?_)
    · simp -dsimp (disch := first | omega | (simp only [go_sem, seval]; first | done | omega)) only [go_sem, seval]
      refine hK _ _ ⟨?_, hc1⟩
      simp [Cel.check, Cel.tail, Cel.wide, h, h2]
    · simp -dsimp (disch := first | omega | (simp only [go_sem, seval]; first | done | omega)) only [go_sem, seval]
      refine hK _ _ ⟨?_, hc1⟩
      simp [Cel.check, Cel.tail, Cel.wide, h, h2]
  · simp -dsimp (disch := first | omega | (simp only [go_sem, seval]; first | done | omega)) only [go_sem, seval]
    refine BrW.dec (fun h2 => ?_) (fun h2 => ?_)
    · simp -dsimp (disch := first | omega | (simp only [go_sem, seval]; first | done | omega)) only [go_sem, seval]
      refine OpX.call runes_Width_b rfl (Calls.ret (width_c _ c.r) ?_)
      rintro v w1 ⟨rfl, hc2⟩
      simp -dsimp (disch := first | omega | (simp only [go_sem, seval]; first | done | omega)) only [go_sem, seval]
      refine hK _ _ ⟨?_, hc1.trans0 hc2⟩
      simp [Cel.check, Cel.tail, Cel.wide, h, h2]
    · simp -dsimp (disch := first | omega | (simp only [go_sem, seval]; first | done | omega)) only [go_sem, seval]
      refine OpX.call runes_Width_b rfl (Calls.ret (width_c _ c.r) ?_)
      rintro v w1 ⟨rfl, hc2⟩
      simp -dsimp (disch := first | omega | (simp only [go_sem, seval]; first | done | omega)) only [go_sem, seval]
      refine hK _ _ ⟨?_, hc1.trans0 hc2⟩
      simp [Cel.check, Cel.tail, Cel.wide, h, h2]
theorem tailOf_c (w : World) (c : Cel) : Calls Tryz.prog 108 #[c.val] w (retK fun v w' => v = c.tailOf.val ∧ Chg [] w w') := by
  apply cell_tailOf_link
  intro K hK
  unfold cell_tailOf
  simp -dsimp (disch := first | omega | (simp only [go_sem, seval]; first | done | omega)) only [go_sem, seval]
  exact hK _ _ ⟨rfl, ((Chg.refl [] w).alloc _).alloc _⟩
theorem single_c (w : World) (c : Cel) : Calls Tryz.prog 101 #[c.val] w (retK fun v w' => v = .bool c.single ∧ Chg [] w w') := by
  apply cell_single_link
  intro K hK
  unfold cell_single
  simp -dsimp (disch := first | omega | (simp only [go_sem, seval]; first | done | omega)) only [go_sem, seval]
  have hc1 := (Chg.refl [] w).alloc (.cells c.cells.toArray 70)
  refine Join1.inl ?_
  simp -dsimp (disch := first | omega | (simp only [go_sem, seval]; first | done | omega)) only [go_sem, seval]
  refine BrW.dec (fun h => ?_) (fun h => ?_)
  · simp -dsimp (disch := first | omega | (simp only [go_sem, seval]; first | done | omega)) only [go_sem, seval]
    refine OpX.call cell_Check_b rfl (Calls.ret (check_c _ c) ?_)
    rintro v w1 ⟨rfl, hc2⟩
    refine hK _ _ ⟨?_, hc1.trans0 hc2⟩
    simp [Cel.single, Cel.plain, h]
  · simp -dsimp (disch := first | omega | (simp only [go_sem, seval]; first | done | omega)) only [go_sem, seval]
    refine hK _ _ ⟨?_, hc1⟩
    simp [Cel.single, Cel.plain, h]
theorem cblank_c (w : World) : Calls Tryz.prog 64 #[] w (retK fun v w' => v = Cel.blank.val ∧ Chg [] w w') := by
  apply cell_Blank_link
  intro K hK
  unfold cell_Blank
  simp -dsimp (disch := first | omega | (simp only [go_sem, seval]; first | done | omega)) only [go_sem, seval]
  exact hK _ _ ⟨rfl, (Chg.refl [] w).alloc _⟩
theorem paired_c {w : World} {e : Option TypeId} {a : Option Addr} {l : List Cel} (hs : SxC w e a l) (cap x : Nat) (hx : x < l.length) (hl : l.length ≤ 1000000000) : Calls Tryz.prog 100 #[.slice a l.length cap, .int .i64 x] w (retK fun v w' => v = .bool (pairAt l x) ∧ Chg [] w w') := by
  obtain ⟨b, o, rfl, hb, h1, -⟩ := SxC.cel hs (List.getElem?_eq_getElem hx)
  have hp : pairAt l x = match l[x + 1]? with | some d => pairOK l[x] d | none => false := by
    unfold pairAt; rw [List.getElem?_eq_getElem hx]; cases l[x + 1]? <;> rfl
  rw [hp]
  generalize l[x] = c at h1 ⊢
  apply cell_paired_link
  intro K hK
  unfold cell_paired
  simp -dsimp (disch := first | omega | (simp only [go_sem, seval]; first | done | omega)) only [go_sem, seval, h1]
  have hc1 := ((Chg.refl [] w).alloc (.cells c.cells.toArray 70)).drew
  refine Join1.inl ?_
  simp -dsimp (disch := first | omega | (simp only [go_sem, seval]; first | done | omega)) only [go_sem, seval]
  refine BrW.dec (fun h => ?_) (fun h => ?_)
  · simp -dsimp (disch := first | omega | (simp only [go_sem, seval]; first | done | omega)) only [go_sem, seval]
    refine OpX.call cell_Check_b rfl (Calls.ret (check_c _ c) ?_)
    rintro v w1 ⟨rfl, hc2⟩
    have hc3 := hc1.trans0 hc2
    refine BrW.by (fun h2 => ?_) (fun h2 => ?_)
    · simp -dsimp (disch := first | omega | (simp only [go_sem, seval]; first | done | omega)) only [go_sem, seval]
      refine BrW.dec (fun h3 => ?_) (fun h3 => ?_)
      · have hx' : x + 1 < l.length := by omega
        have hs1 := hs.chg0 hc3
        obtain ⟨b', o', he, hb', h4, -⟩ := SxC.cel hs1 (List.getElem?_eq_getElem hx')
        cases he
        have h1' := hc2.keep (b := w.heap.size) (o := .cells c.cells.toArray 70) (by simp -dsimp (disch := first | omega | (simp only [go_sem, seval]; first | done | omega)) only [go_sem, seval]) (by simp)
        rw [List.getElem?_eq_getElem hx'] at hK
        dsimp only at hK
        generalize l[x + 1] = d at h4 hK
        have h4' : aggAt w1.heap[b]? (o + ((x : Int) + 1).toNat * 4) 4 = some #[.int .i32 d.r, .int .u8 d.fg.toNat, .int .u8 d.bg.toNat, .int .u8 d.a.toNat] := h4
        simp -dsimp (disch := first | omega | (simp only [go_sem, seval]; first | done | omega)) only [go_sem, seval, h4', h1']
        refine OpX.call cell_tailOf_b rfl (Calls.ret (tailOf_c _ c) ?_)
        rintro v w2 ⟨rfl, hc4⟩
        have h5 : aggAt w2.heap[b]? (o + ((x : Int) + 1).toNat * 4) 4 = some #[.int .i32 d.r, .int .u8 d.fg.toNat, .int .u8 d.bg.toNat, .int .u8 d.a.toNat] := by rw [hc4.same b hb' (by simp)]; exact h4'
        simp -dsimp (disch := first | omega | (simp only [go_sem, seval]; first | done | omega)) only [go_sem, seval, h5, Cel.tailOf]
        refine hK _ _ ⟨?_, hc3.trans0 hc4⟩
        rw [pairOK, h2, Cel.wide, celEq]
        simp [h, Cel.tailOf]
        rfl
      · simp -dsimp (disch := first | omega | (simp only [go_sem, seval]; first | done | omega)) only [go_sem, seval]
        refine hK _ _ ⟨?_, hc3⟩
        rw [List.getElem?_eq_none (by omega)]
    · simp -dsimp (disch := first | omega | (simp only [go_sem, seval]; first | done | omega)) only [go_sem, seval]
      refine hK _ _ ⟨?_, hc3⟩
      cases l[x + 1]? <;> simp [pairOK, h2]
  · simp -dsimp (disch := first | omega | (simp only [go_sem, seval]; first | done | omega)) only [go_sem, seval]
    refine hK _ _ ⟨?_, hc1⟩
    cases l[x + 1]? <;> simp [pairOK, Cel.wide, h]
theorem right_c {w : World} {e : Option TypeId} {a : Option Addr} {l : List Cel} (hs : SxC w e a l) (cap : Nat) (hl : l.length ≤ 1000000000) : Calls Tryz.prog 65 #[.slice a l.length cap] w (retK fun v w' => v = .bool (right l) ∧ Chg [] w w') := by
  apply cell_Right_link
  intro K hK
  unfold cell_Right
  refine Loop1.st (fun k : Nat => .int .i64 k) (fun k w' => Chg [] w w' ∧ k ≤ l.length ∧ right l = right (l.drop k)) (fun k => l.length - k) 0 rfl ⟨Chg.refl _ _, by omega, rfl⟩ ?_
  rintro next k w' hn ⟨hc, hk, he⟩
  simp -dsimp (disch := first | omega | (simp only [go_sem, seval]; first | done | omega)) only [go_sem, seval]
  refine BrW.dec (fun h1 => ?_) (fun h1 => ?_)
  · have hk' : k < l.length := by omega
    have hst := right_step hk'
    have hs' := hs.chg0 hc
    refine OpX.call cell_paired_b rfl (Calls.ret (paired_c hs' cap k hk' hl) ?_)
    rintro v w1 ⟨rfl, hc1⟩
    refine BrW.by (fun h2 => ?_) (fun h2 => ?_)
    · have := pairAt_lt h2
      simp -dsimp (disch := first | omega | (simp only [go_sem, seval]; first | done | omega)) only [go_sem, seval]
      refine hn (k + 2) _ ⟨hc.trans0 hc1, by omega, ?_⟩ (by omega)
      rw [he, hst, h2]; rfl
    · obtain ⟨b, o, rfl, hb, h3, -⟩ := SxC.cel (hs.chg0 (hc.trans0 hc1)) (List.getElem?_eq_getElem hk')
      simp -dsimp (disch := first | omega | (simp only [go_sem, seval]; first | done | omega)) only [go_sem, seval, h3]
      refine OpX.call cell_single_b rfl (Calls.ret (single_c _ l[k]) ?_)
      rintro v w2 ⟨rfl, hc2⟩
      rw [h2] at hst
      simp only [Bool.false_eq_true, if_false] at hst
      simp -dsimp (disch := first | omega | (simp only [go_sem, seval]; first | done | omega)) only [go_sem, seval]
      refine BrW.by (fun h4 => ?_) (fun h4 => ?_)
      · refine hK _ _ ⟨?_, (hc.trans0 hc1).trans0 hc2⟩
        rw [he, hst]; simp at h4; simp [h4]
      · simp -dsimp (disch := first | omega | (simp only [go_sem, seval]; first | done | omega)) only [go_sem, seval]
        refine hn (k + 1) _ ⟨(hc.trans0 hc1).trans0 hc2, by omega, ?_⟩ (by omega)
        rw [he, hst]; simp at h4; simp [h4]
  · have hk' : k = l.length := by omega
    refine hK _ _ ⟨?_, hc⟩
    rw [he, hk']; simp [right]
theorem mend_c {w : World} {e : Option TypeId} {a : Option Addr} {l : List Cel} (hs : SxC w e a l) (cap : Nat) (hl : l.length ≤ 100000) : Calls Tryz.prog 86 #[.slice a l.length cap] w (retK fun v w' => Ox w.heap.size w' 70 4 Cel.cells v (mend l) ∧ Chg [] w w') := by
  apply cell_Mend_link
  intro K hK
  unfold cell_Mend
  simp -dsimp (disch := first | omega | (simp only [go_sem, seval]; first | done | omega)) only [go_sem, seval]
  refine make_x (f := Cel.cells) ⟨0, 0, 0, 0⟩ ty36mk Cel.len rfl hl (by omega) (by omega) (Nat.le_refl _) ?_
  intro w1 hw1 ho1
  have hc1 : Chg [] w w1 := by rw [hw1]; exact (Chg.refl _ _).alloc _
  refine copy_x (t := 36) ty36sl Cel.len Cel.ok ho1 (hs.chg0 hc1) rfl (by simp) ?_
  intro w2 ho2 hc3
  have hc2 := own_chg ho1 hc1 hc3
  clear hw1 ho1 hc1 hc3 w1
  refine Loop1.st (fun s : Nat × List Cel => .int .i64 s.1) (fun s w' => Chg [] w w' ∧ Ox w.heap.size w' 70 4 Cel.cells (.slice (some ⟨w.heap.size, 0, none⟩) l.length l.length) s.2 ∧ s.1 ≤ l.length ∧ mend l = s.2.take s.1 ++ mend (l.drop s.1) ∧ s.2.drop s.1 = l.drop s.1 ∧ s.2.length = l.length) (fun s => l.length - s.1) (0, l) rfl ⟨hc2, ho2, by simp, rfl, rfl, rfl⟩ ?_
  rintro next ⟨k, out⟩ w' hn ⟨hc, ho, hk, he, hd, hlen⟩
  dsimp only at ho hk he hd hlen ⊢
  simp -dsimp (disch := first | omega | (simp only [go_sem, seval]; first | done | omega)) only [go_sem, seval]
  refine BrW.dec (fun h1 => ?_) (fun h1 => ?_)
  · have hk' : k < l.length := by omega
    have hst := mend_step hk'
    refine OpX.call cell_paired_b rfl (Calls.ret (paired_c (hs.chg0 hc) cap k hk' (by omega)) ?_)
    rintro v w1 ⟨rfl, hc1⟩
    have hc1' := hc.trans0 hc1
    have ho1 := ho.chg0 hc1
    refine BrW.by (fun h2 => ?_) (fun h2 => ?_)
    · have := pairAt_lt h2
      simp -dsimp (disch := first | omega | (simp only [go_sem, seval]; first | done | omega)) only [go_sem, seval]
      refine hn (k + 2, out) _ ⟨hc1', ho1, by dsimp only; omega, ?_, ?_, hlen⟩ (by dsimp only; omega)
      · dsimp only
        rw [he, hst, h2, ← hd, if_pos rfl, ← List.append_assoc, ← List.take_add]
      · have := congrArg (List.drop 2) hd
        simpa [List.drop_drop] using this
    · rw [h2] at hst
      simp only [Bool.false_eq_true, if_false] at hst
      obtain ⟨b, o, rfl, hb, h3, h4, h5, h6, h7⟩ := SxC.cel (hs.chg0 hc1') (List.getElem?_eq_getElem hk')
      simp -dsimp (disch := first | omega | (simp only [go_sem, seval]; first | done | omega)) only [go_sem, seval, h3]
      refine OpX.call cell_single_b rfl (Calls.ret (single_c _ l[k]) ?_)
      rintro v w2 ⟨rfl, hc2⟩
      have hc2' := hc1'.trans0 hc2
      have ho2 := ho1.chg0 hc2
      simp -dsimp (disch := first | omega | (simp only [go_sem, seval]; first | done | omega)) only [go_sem, seval]
      have hout : out[k]? = some l[k] := by
        have := congrArg (·[0]?) hd
        simpa [List.getElem?_drop, hk'] using this
      refine BrW.by (fun h8 => ?_) (fun h8 => ?_)
      · obtain ⟨b', o', he', hb', h3, h4, h5, h6, h7⟩ := SxC.cel (hs.chg0 hc2') (List.getElem?_eq_getElem hk')
        cases he'
        have hko : k < out.length := by omega
        obtain ⟨g, cp, x', hv, hg, hgl, hput, ho3⟩ := ho2.put Cel.len hko ⟨32, l[k].fg, l[k].bg, 0⟩
        have hv' := hv
        rw [Value.slice.injEq] at hv'
        obtain ⟨hv1, -, -⟩ := hv'
        cases hv1
        have hput' : putAt w2.heap[w.heap.size]? (k * 4) [.int .i32 32, .int .u8 l[k].fg.toNat, .int .u8 l[k].bg.toNat, .int .u8 0] = some x' := hput
        simp -dsimp (disch := first | omega | (simp only [go_sem, seval]; first | done | omega)) only [go_sem, seval, h5, h6, hput']
        refine hn (k + 1, out.set k ⟨32, l[k].fg, l[k].bg, 0⟩) _ ⟨(hc2'.set w.heap.size x' (.inr (Nat.le_refl _))).drew, ho3.chg0 (Chg.refl _ _).drew, by dsimp only; omega, ?_, ?_, by simpa using hlen⟩ (by dsimp only; omega)
        · dsimp only
          rw [he, hst, List.take_add_one, List.take_set_of_le (Nat.le_refl _), List.getElem?_set_self hko]
          simp at h8
          simp [Cel.fix, h8]
        · dsimp only
          rw [List.drop_set_of_lt (by omega)]
          have := congrArg (List.drop 1) hd
          simpa [List.drop_drop] using this
      · simp -dsimp (disch := first | omega | (simp only [go_sem, seval]; first | done | omega)) only [go_sem, seval]
        refine hn (k + 1, out) _ ⟨hc2', ho2, by dsimp only; omega, ?_, ?_, hlen⟩ (by dsimp only; omega)
        · dsimp only
          rw [he, hst, List.take_add_one, hout]
          simp at h8
          simp [Cel.fix, h8]
        · have := congrArg (List.drop 1) hd
          simpa [List.drop_drop] using this
  · have hk' : k = l.length := by omega
    subst hk'
    refine hK _ _ ⟨?_, hc⟩
    rw [he]
    simpa [mend, List.take_of_length_le (Nat.le_of_eq hlen)] using ho
end Go.Proofs.YtjfembffjjijaaaGreat
namespace Go.Proofs.YtjfembffjjijaaaGreat
open Lyc Go
structure Rw where
  a : Option Addr
  cap : Nat
  cs : List Cel
def Rw.f (r : Rw) : List Value := [.slice r.a r.cs.length r.cap]
def Rw.val (r : Rw) : Value := .slice r.a r.cs.length r.cap
theorem Rw.len (r : Rw) : r.f.length = 1 := rfl
theorem Rw.ok (r : Rw) : okCells r.f = true := rfl
structure Hs where
  room : Nat
  first : Nat
  a : Option Addr
  cap : Nat
  all : List Rw
def Hs.v (H : Hs) : Value := .slice H.a H.all.length H.cap
def rot {α : Type} (n : Nat) (l : List α) : List α := l.drop n ++ l.take n
def Hs.list (H : Hs) : List (List Cel) := (rot H.first H.all).map Rw.cs
def Hs.blk (H : Hs) : List Nat := H.v.ownBlock.toList
structure HAt (w : World) (h : Nat) (H : Hs) : Prop where
  hb : w.heap[h]? = some (.cells #[.int .i64 H.room, .int .i64 H.first, H.v] 118)
  own : Ox 0 w 36 1 Rw.f H.v H.all
  rows : ∀ r ∈ H.all, SxC w (some 70) r.a r.cs
  room1 : H.room ≤ 500
  fit : H.all.length ≤ H.room
  first1 : H.first = 0 ∨ H.first < H.room
  first0 : H.all.length < H.room → H.first = 0
theorem rot_len {α : Type} (n : Nat) (l : List α) : (rot n l).length = l.length := by
  unfold rot; simp; omega
theorem Hs.list_len (H : Hs) : H.list.length = H.all.length := by simp [Hs.list, rot_len]
theorem rot_get {α : Type} {n : Nat} {l : List α} (hn : n < l.length) (i : Nat) (hi : i < l.length) : (rot n l)[i]? = l[(n + i) % l.length]? := by
  unfold rot
  by_cases h : n + i < l.length
  · rw [Nat.mod_eq_of_lt h, List.getElem?_append_left (by simp; omega), List.getElem?_drop]
  · rw [List.getElem?_append_right (by simp; omega), List.getElem?_take, if_pos (by simp; omega)]
    congr 1
    simp
    rw [Nat.mod_eq_sub_mod (by omega), Nat.mod_eq_of_lt (by omega)]
    omega
theorem rot_set {α : Type} {n : Nat} {l : List α} (hn : n < l.length) (x : α) : rot ((n + 1) % l.length) (l.set n x) = (rot n l).tail ++ [x] := by
  have hd : l.drop n = l[n] :: l.drop (n + 1) := List.drop_eq_getElem_cons hn
  have ht : (rot n l).tail = l.drop (n + 1) ++ l.take n := by unfold rot; rw [hd]; rfl
  rw [ht]
  unfold rot
  by_cases h : n + 1 < l.length
  · rw [Nat.mod_eq_of_lt h, List.drop_set_of_lt (by omega), List.take_add_one, List.take_set_of_le (Nat.le_refl _), List.getElem?_set_self hn]
    simp
  · have : n + 1 = l.length := by omega
    rw [this, Nat.mod_self, List.drop_eq_nil_of_le (Nat.le_refl _)]
    simp only [List.drop_zero, List.take_zero, List.append_nil, List.nil_append]
    have e : l = l.take n ++ [l[n]] := by
      have := List.take_append_drop n l
      rw [hd, List.drop_eq_nil_of_le (by omega : l.length ≤ n + 1)] at this
      exact this.symm
    conv => lhs; rw [e]
    rw [List.set_append_right _ _ (by simp; omega)]
    have h0 : n - (l.take n).length = 0 := by simp; omega
    rw [h0]; simp
def pushed (room : Nat) (l : List (List Cel)) (x : List Cel) : List (List Cel) := if room = 0 then l else if l.length < room then l ++ [x] else l.tail ++ [x]
theorem HAt.tags {w : World} {h : Nat} {H : Hs} (hh : HAt w h H) : ∀ x ∈ h :: H.blk, ∃ c e' fr, w.heap[x]? = some (.cells c e' fr) ∧ Nat.beq e' 70 = false := by
  intro x hx
  rcases List.mem_cons.1 hx with rfl | hx
  · exact ⟨_, _, _, hh.hb, rfl⟩
  · obtain ⟨hl, ho⟩ := hh.own
    rcases ho with ⟨hv, -⟩ | ⟨g, cap, cur, hv, -, hg, -⟩
    · rw [Hs.blk, hv] at hx; simp [Value.ownBlock] at hx
    · rw [Hs.blk, hv] at hx; simp [Value.ownBlock] at hx
      subst hx
      exact ⟨_, _, _, hg, rfl⟩
theorem HAt.blk_lt {w : World} {h : Nat} {H : Hs} (hh : HAt w h H) : ∀ x ∈ h :: H.blk, x < w.heap.size := by
  intro x hx
  obtain ⟨c, e, fr, h1, -⟩ := hh.tags x hx
  exact lt_of_heap h1
theorem HAt.keeps {w w' : World} {h : Nat} {H : Hs} (hh : HAt w h H) (hc : Chg (h :: H.blk) w w') {a : Option Addr} {l : List Cel} (hs : SxC w (some 70) a l) : SxC w' (some 70) a l := by
  refine hs.chg hc fun b o ha hl hm => ?_
  obtain ⟨c, e, fr, h1, h2⟩ := hh.tags b hm
  exact hs.ne ha hl h1 h2 rfl
theorem HAt.ne {w : World} {h : Nat} {H : Hs} (hh : HAt w h H) : h ∉ H.blk := by
  intro hx
  obtain ⟨hl, ho⟩ := hh.own
  rcases ho with ⟨hv, -⟩ | ⟨g, cap, cur, hv, -, hg, -⟩
  · rw [Hs.blk, hv] at hx; simp [Value.ownBlock] at hx
  · rw [Hs.blk, hv] at hx; simp [Value.ownBlock] at hx
    subst hx
    rw [hh.hb] at hg
    simp at hg
theorem HAt.chg {w w' : World} {h : Nat} {H : Hs} {F : List Nat} (hh : HAt w h H) (hc : Chg F w w') (hF : ∀ x ∈ h :: H.blk, x ∉ F) (hr : ∀ r ∈ H.all, ∀ b o, r.a = some ⟨b, o, none⟩ → r.cs ≠ [] → b ∉ F) : HAt w' h H :=
  ⟨hc.keep hh.hb (hF h (by simp)), hh.own.chg hc fun b hb => hF b (by simp [Hs.blk, ← hb]), fun r hr' => (hh.rows r hr').chg hc (hr r hr'), hh.room1, hh.fit, hh.first1, hh.first0⟩
theorem HAt.chg0 {w w' : World} {h : Nat} {H : Hs} (hh : HAt w h H) (hc : Chg [] w w') : HAt w' h H := hh.chg hc (by simp) (by simp)
theorem hnew_c (w : World) (room : Int) : Calls Tryz.prog 48 #[.int .i64 room] w (retK fun v w' => ∃ H, v = .pointer (some ⟨w.heap.size, 0, none⟩) ∧ HAt w' w.heap.size H ∧ H.blk = [] ∧ H.list = [] ∧ H.room = (min (max room 0) 500).toNat ∧ Chg [] w w') := by
  apply history_New_link
  intro K hK
  unfold history_New
  simp -dsimp (disch := first | omega | (simp only [go_sem, seval]; first | done | omega)) only [go_sem, seval]
  refine hK _ _ ⟨⟨(min (max room 0) 500).toNat, 0, none, 0, []⟩, rfl, ⟨?_, Ox.nil _ _ _ _ _, by simp, by dsimp only; omega, by simp, .inl rfl, fun _ => rfl⟩, rfl, rfl, rfl, ?_⟩
  · have : (((min (max room 0) 500).toNat : Nat) : Int) = min (max room 0) 500 := by omega
    simp -dsimp (disch := first | omega | (simp only [go_sem, seval]; first | done | omega)) only [go_sem, seval, this]
    rfl
  · exact (Chg.refl [] w).alloc _
theorem size_c {w : World} {h : Nat} {H : Hs} (hh : HAt w h H) : Calls Tryz.prog 87 #[.pointer (some ⟨h, 0, none⟩)] w (retK fun v w' => v = .int .i64 H.list.length ∧ w' = w) := by
  have hb := hh.hb
  apply history_ring_api_Cell_size_link
  intro K hK
  unfold history_ring_api_Cell_size
  simp -dsimp (disch := first | omega | (simp only [go_sem, seval]; first | done | omega)) only [go_sem, seval, hb, Hs.v]
  exact hK _ _ ⟨by rw [H.list_len], rfl⟩
theorem hlen_c {w : World} {h : Nat} {H : Hs} (hh : HAt w h H) : Calls Tryz.prog 52 #[.pointer (some ⟨h, 0, none⟩)] w (retK fun v w' => v = .int .i64 H.list.length ∧ w' = w) := by
  apply history_History_Len_link
  intro K hK
  unfold history_History_Len
  simp -dsimp (disch := first | omega | (simp only [go_sem, seval]; first | done | omega)) only [go_sem, seval]
  refine OpX.call history_ring_api_Cell_size_b rfl (Calls.ret (size_c hh) ?_)
  rintro v w1 ⟨rfl, rfl⟩
  exact hK _ _ ⟨rfl, rfl⟩
theorem hlen_nil (w : World) : Calls Tryz.prog 52 #[.pointer none] w (retK fun v w' => v = .int .i64 0 ∧ w' = w) := by
  apply history_History_Len_link
  intro K hK
  unfold history_History_Len
  simp -dsimp (disch := first | omega | (simp only [go_sem, seval]; first | done | omega)) only [go_sem, seval]
  exact hK _ _ ⟨rfl, rfl⟩
theorem hat_none {w : World} {h : Nat} {H : Hs} (hh : HAt w h H) (i : Int) (hi : i < 0 ∨ H.list.length ≤ i) : Calls Tryz.prog 93 #[.pointer (some ⟨h, 0, none⟩), .int .i64 i] w (retK fun v w' => v = .tuple #[.slice none 0 0, .bool false] ∧ Chg [] w w') := by
  have hb := hh.hb
  rw [H.list_len] at hi
  apply history_ring_api_Cell_at_link
  intro K hK
  unfold history_ring_api_Cell_at
  refine Join1.inl ?_
  simp -dsimp (disch := first | omega | (simp only [go_sem, seval]; first | done | omega)) only [go_sem, seval]
  refine BrW.dec (fun h1 => ?_) (fun h1 => ?_)
  · simp -dsimp (disch := first | omega | (simp only [go_sem, seval]; first | done | omega)) only [go_sem, seval]
    exact hK _ _ ⟨rfl, Chg.refl _ _⟩
  · simp -dsimp (disch := first | omega | (simp only [go_sem, seval]; first | done | omega)) only [go_sem, seval, hb, Hs.v]
    refine BrW.dec (fun h2 => ?_) (fun h2 => absurd hi (by omega))
    exact hK _ _ ⟨rfl, Chg.refl _ _⟩
theorem tmod_nat (a b : Nat) (x : Int) (hx : x = a) : x.tmod b = ((a % b : Nat) : Int) := by subst hx; rfl
theorem hat_some {w : World} {h : Nat} {H : Hs} (hh : HAt w h H) (i : Nat) (hi : i < H.list.length) : Calls Tryz.prog 93 #[.pointer (some ⟨h, 0, none⟩), .int .i64 i] w
    (retK fun v w' => ∃ r : Rw, v = .tuple #[r.val, .bool true] ∧ H.list[i]? = some r.cs ∧ SxC w' (some 70) r.a r.cs ∧ r ∈ H.all ∧ Chg [] w w') := by
  have hb := hh.hb
  rw [H.list_len] at hi
  have hfit := hh.fit
  have hroom := hh.room1
  have hf : H.first < H.all.length := by
    rcases hh.first1 with h1 | h1
    · omega
    · by_cases hl : H.all.length < H.room
      · have := hh.first0 hl; omega
      · omega
  have hj : (H.first + i) % H.all.length < H.all.length := Nat.mod_lt _ (by omega)
  obtain ⟨a, cap, hv, -, hsx, -⟩ := hh.own.form
  obtain ⟨b, o, ha, hb2, hcell⟩ := hsx.get1 (g := Rw.val) (fun _ => rfl) (List.getElem?_eq_getElem hj)
  have hv2 : H.v = .slice (some ⟨b, o, none⟩) H.all.length cap := by rw [hv, ha]
  rw [hv2] at hb
  apply history_ring_api_Cell_at_link
  intro K hK
  unfold history_ring_api_Cell_at
  refine Join1.inl ?_
  simp -dsimp (disch := first | omega | (simp only [go_sem, seval]; first | done | omega)) only [go_sem, seval]
  refine BrW.dec (fun h1 => absurd h1 (by omega)) (fun h1 => ?_)
  simp -dsimp (disch := first | omega | (simp only [go_sem, seval]; first | done | omega)) only [go_sem, seval, hb]
  refine BrW.dec (fun h1 => absurd h1 (by omega)) (fun h1 => ?_)
  have hmod : ((H.first : Int) + (i : Int)).tmod (H.all.length : Int) = (((H.first + i) % H.all.length : Nat) : Int) := tmod_nat _ _ _ (by omega)
  simp -dsimp (disch := first | omega | (simp only [go_sem, seval]; first | done | omega)) only [go_sem, seval, hb, hmod, hcell]
  refine hK _ _ ⟨H.all[(H.first + i) % H.all.length], rfl, ?_, (hh.rows _ (List.getElem_mem _)).chg0 (Chg.refl _ _).drew, List.getElem_mem _, (Chg.refl _ _).drew⟩
  rw [Hs.list, List.getElem?_map, rot_get hf i hi, List.getElem?_eq_getElem hj]
  rfl
theorem put2_c {w : World} {h : Nat} {H : Hs} (hh : HAt w h H) (r : Rw) (hr : SxC w (some 70) r.a r.cs) : Calls Tryz.prog 85 #[.pointer (some ⟨h, 0, none⟩), r.val] w
    (retK fun v w' => ∃ H', HAt w' h H' ∧ H'.room = H.room ∧ H'.list = pushed H.room H.list r.cs ∧ Chg (h :: H.blk) w w' ∧ (∀ b ∈ H'.blk, b ∈ H.blk ∨ w.heap.size ≤ b) ∧ ∀ x ∈ H'.all, x ∈ H.all ∨ x = r) := by
  have hb := hh.hb
  have hlt := lt_of_heap hb
  have hfit := hh.fit
  have hroom := hh.room1
  have hne := hh.ne
  apply history_ring_api_Cell_put_link
  intro K hK
  unfold history_ring_api_Cell_put
  simp -dsimp (disch := first | omega | (simp only [go_sem, seval]; first | done | omega)) only [go_sem, seval, hb]
  refine BrW.dec (fun h1 => ?_) (fun h1 => ?_)
  · refine hK _ _ ⟨H, hh, rfl, ?_, Chg.refl _ _, fun b hb => .inl hb, fun x hx => .inl hx⟩
    simp [pushed, show H.room = 0 by omega]
  · simp -dsimp (disch := first | omega | (simp only [go_sem, seval]; first | done | omega)) only [go_sem, seval, hb, Hs.v]
    refine BrW.dec (fun h2 => ?_) (fun h2 => ?_)
    · have hc0 := ((Chg.refl [] w).drew).alloc (.cells #[r.val] 36)
      have ho0 := hh.own.chg0 hc0
      simp -dsimp (disch := first | omega | (simp only [go_sem, seval]; first | done | omega)) only [go_sem, seval, hb, Hs.v, Rw.val]
      refine app_x (f := Rw.f) (l2 := [r]) ty43ap Rw.len Rw.ok ho0 (e' := some 36) (Sx.built (c := r.f) (by simp -dsimp (disch := first | omega | (simp only [go_sem, seval]; first | done | omega)) only [go_sem, seval]; rfl) (by simp)) rfl (by simp; omega) (by omega) (by omega) ?_
      intro v' w' ho hc hat
      have hc2 : Chg H.blk w w' := (hc0.mono (by simp)).trans hc (by intro x hx; exact .inl hx)
      have hb2 := hc2.keep hb hne
      have hlt2 := lt_of_heap hb2
      obtain ⟨a', cap', hv', -, -, hblk, -⟩ := ho.form
      subst hv'
      simp -dsimp (disch := first | omega | (simp only [go_sem, seval]; first | done | omega)) only [go_sem, seval, hb2]
      have hla : (H.all ++ [r]).length = H.all.length + 1 := by simp
      have hf0 := hh.first0 (by omega)
      generalize hw2 : setBlk w' h _ = w2
      have hc3 : Chg [h] w' w2 := by rw [← hw2]; exact (Chg.refl _ _).set _ _ (by simp)
      have hc4 : Chg (h :: H.blk) w w2 := (hc2.mono (by simp; intro x hx; exact .inl (.inr hx))).trans hc3 (by simp)
      have hb3 : w2.heap[h]? = some (.cells #[.int .i64 H.room, .int .i64 H.first, .slice a' (H.all ++ [r]).length cap'] 118) := by rw [← hw2]; simp -dsimp (disch := first | omega | (simp only [go_sem, seval]; first | done | omega)) only [go_sem, seval]
      refine hK _ _ ⟨⟨H.room, H.first, a', cap', H.all ++ [r]⟩, ⟨hb3, ho.chg hc3 (fun b hbb => ?_), ?_, hroom, by dsimp only; omega, hh.first1, fun h => hf0⟩, rfl, ?_, hc4, ?_, fun x hx => by rcases List.mem_append.1 hx with h | h <;> simp_all⟩
      · intro hm
        simp at hm
        subst hm
        rcases hat with h7 | h7
        · exact hne (by rw [Hs.blk, Hs.v, ← h7, ← hbb]; simp)
        · rw [← hbb] at h7; simp at h7; omega
      · intro x hx
        rcases List.mem_append.1 hx with hx | hx
        · exact hh.keeps hc4 (hh.rows x hx)
        · simp at hx; subst hx
          exact hh.keeps hc4 hr
      · have e1 : pushed H.room H.list r.cs = H.list ++ [r.cs] := by rw [pushed, if_neg (by omega), if_pos (by rw [H.list_len]; omega)]
        rw [e1]
        simp [Hs.list, hf0, rot]
      · intro b hb
        simp only [Hs.blk, Hs.v] at hb
        rcases hat with h7 | h7
        · left; rw [Hs.blk, Hs.v, ← h7]; exact hb
        · right; rw [h7] at hb; simp at hb; omega
    · have hfull : H.all.length = H.room := by omega
      have hf : H.first < H.all.length := by have := hh.first1; omega
      obtain ⟨g, cp, x', hv, hg, hgl, hput, ho2⟩ := hh.own.put Rw.len hf r
      have hv1 : H.a = some ⟨g, 0, none⟩ := by have := hv; simp [Hs.v] at this; exact this.1
      have hput' : putAt w.heap[g]? H.first [.slice r.a r.cs.length r.cap] = some x' := by simpa [Rw.f] using hput
      have hgb : g ∈ H.blk := by rw [Hs.blk, hv]; simp [Value.ownBlock]
      have hgh : h ≠ g := fun e => hne (e ▸ hgb)
      have hmod : ((H.first : Int) + 1).tmod (H.room : Int) = (((H.first + 1) % H.room : Nat) : Int) := tmod_nat _ _ _ (by omega)
      simp -dsimp (disch := first | omega | (simp only [go_sem, seval]; first | done | omega)) only [go_sem, seval, hb, Hs.v, hv1, Rw.val, hput', hmod]
      generalize hw2 : (setBlk (setBlk w g x') h _).drew.drew.drew = w2
      have hc2 : Chg (h :: H.blk) w w2 := by rw [← hw2]; exact ((((Chg.refl _ _).set _ _ (by simp [hgb])).set _ _ (by simp)).drew).drew.drew
      have hc3 : Chg [h] (setBlk w g x') w2 := by rw [← hw2]; exact (((Chg.refl _ _).set _ _ (by simp)).drew).drew.drew
      have hmlt := Nat.mod_lt (H.first + 1) (show 0 < H.room by omega)
      refine hK _ _ ⟨⟨H.room, (H.first + 1) % H.room, H.a, H.cap, H.all.set H.first r⟩, ⟨?_, ?_, ?_, hroom, by simpa using hfit, .inr hmlt, fun h9 => ?_⟩, rfl, ?_, hc2, ?_, fun x hx => List.mem_or_eq_of_mem_set hx⟩
      · rw [← hw2]
        simp only [heap_drew]
        rw [heap_set_same _ _ _ _ rfl (by rw [size_setBlk]; exact hlt), Hs.v, hv1]
        simp
      · refine Ox.chg (w := setBlk w g x') ?_ hc3 fun b hbb => ?_
        · have e : (⟨H.room, (H.first + 1) % H.room, H.a, H.cap, H.all.set H.first r⟩ : Hs).v = H.v := by simp [Hs.v]
          rw [e]; exact ho2
        · intro hm
          simp at hm; subst hm
          apply hne
          have e : (⟨H.room, (H.first + 1) % H.room, H.a, H.cap, H.all.set H.first r⟩ : Hs).v = H.v := by simp [Hs.v]
          rw [e] at hbb
          rw [Hs.blk, ← hbb]; simp
      · intro x hx
        rcases List.mem_or_eq_of_mem_set hx with hx | rfl
        · exact hh.keeps hc2 (hh.rows x hx)
        · exact hh.keeps hc2 hr
      · simp at h9; omega
      · have e1 : pushed H.room H.list r.cs = H.list.tail ++ [r.cs] := by rw [pushed, if_neg (by omega), if_neg (by rw [H.list_len]; omega)]
        rw [e1]
        have := rot_set hf r
        rw [hfull] at this
        simp only [Hs.list]
        rw [this]
        simp [List.map_tail]
      · intro b hbb
        left
        have e : (⟨H.room, (H.first + 1) % H.room, H.a, H.cap, H.all.set H.first r⟩ : Hs).v = H.v := by simp [Hs.v]
        rw [Hs.blk, e] at hbb
        exact hbb
def pushAll (room : Nat) (l : List (List Cel)) (xs : List (List Cel)) : List (List Cel) := xs.foldl (fun l x => pushed room l (mend x)) l
theorem push2_c {w : World} {h : Nat} {H : Hs} (hh : HAt w h H) {e : Option TypeId} {a : Option Addr} {rs : List Rw} (ha : Sx w e Rw.f a rs) (hab : ∀ b o, a = some ⟨b, o, none⟩ → b ∉ h :: H.blk) (hr : ∀ r ∈ rs, SxC w (some 70) r.a r.cs) (hl : ∀ r ∈ rs, r.cs.length ≤ 100000) (hlr : rs.length ≤ 1000000) (cap : Nat) :
    Calls Tryz.prog 51 #[.pointer (some ⟨h, 0, none⟩), .slice a rs.length cap] w
    (retK fun v w' => ∃ H', HAt w' h H' ∧ H'.room = H.room ∧ H'.list = pushAll H.room H.list (rs.map Rw.cs) ∧ Chg (h :: H.blk) w w' ∧ (∀ b ∈ H'.blk, b ∈ H.blk ∨ w.heap.size ≤ b) ∧ ∀ x ∈ H'.all, x ∈ H.all ∨ ∀ b o, x.a = some ⟨b, o, none⟩ → x.cs ≠ [] → w.heap.size ≤ b) := by
  apply history_History_Push_link
  intro K hK
  unfold history_History_Push
  simp -dsimp (disch := first | omega | (simp only [go_sem, seval]; first | done | omega)) only [go_sem, seval]
  refine Loop1.st (fun s : Nat × Hs => .int .i64 s.1) (fun s w' => s.1 ≤ rs.length ∧ HAt w' h s.2 ∧ s.2.room = H.room ∧ s.2.list = pushAll H.room H.list ((rs.take s.1).map Rw.cs) ∧ Chg (h :: H.blk) w w' ∧ (∀ b ∈ s.2.blk, b ∈ H.blk ∨ w.heap.size ≤ b) ∧ ∀ x ∈ s.2.all, x ∈ H.all ∨ ∀ b o, x.a = some ⟨b, o, none⟩ → x.cs ≠ [] → w.heap.size ≤ b) (fun s => rs.length - s.1) (0, H) rfl ⟨by simp, hh, rfl, rfl, Chg.refl _ _, fun b hb => .inl hb, fun x hx => .inl hx⟩ ?_
  rintro next ⟨k, G⟩ w' hn ⟨hk, hG, hroom, hlist, hc, hblk, hall⟩
  dsimp only at hk hG hroom hlist hblk hall ⊢
  simp -dsimp (disch := first | omega | (simp only [go_sem, seval]; first | done | omega)) only [go_sem, seval]
  refine BrW.dec (fun h1 => ?_) (fun h1 => ?_)
  · have hk' : k < rs.length := by omega
    have hgl := hh.blk_lt
    have ha' : Sx w' e Rw.f a rs := ha.chg hc fun b o hb _ => hab b o hb
    obtain ⟨b, o, rfl, hb, hcell⟩ := ha'.get1 (g := Rw.val) (fun _ => rfl) (List.getElem?_eq_getElem hk')
    have hrk : SxC w' (some 70) rs[k].a rs[k].cs := hh.keeps hc (hr _ (List.getElem_mem _))
    simp -dsimp (disch := first | omega | (simp only [go_sem, seval]; first | done | omega)) only [go_sem, seval, hcell, Rw.val]
    refine OpX.call cell_Mend_b rfl (Calls.ret (mend_c (hrk.chg0 (Chg.refl _ _).drew) rs[k].cap (hl _ (List.getElem_mem _))) ?_)
    rintro v w1 ⟨ho, hc1⟩
    have hc1' : Chg [] w' w1 := (Chg.refl _ _).drew.trans0 hc1
    obtain ⟨a1, cap1, rfl, hcp, hs1, -, hnew⟩ := ho.form
    have hc2 : Chg (h :: H.blk) w w1 := hc.trans0 hc1'
    refine OpX.call history_ring_api_Cell_put_b rfl (Calls.ret (put2_c (hG.chg0 hc1') ⟨a1, cap1, mend rs[k].cs⟩ hs1) ?_)
    rintro v w2 ⟨G', hG', hroom', hlist', hc3, hblk', hall'⟩
    simp -dsimp (disch := first | omega | (simp only [go_sem, seval]; first | done | omega)) only [go_sem, seval]
    refine hn (k + 1, G') _ ⟨by dsimp only; omega, hG', hroom'.trans hroom, ?_, ?_, ?_, ?_⟩ (by dsimp only; omega)
    · dsimp only
      rw [hlist', hlist, hroom, List.take_add_one, List.getElem?_eq_getElem hk']
      simp only [Option.toList, List.map_append, List.map_cons, List.map_nil, pushAll, List.foldl_append, List.foldl_cons, List.foldl_nil]
    · refine hc2.trans hc3 fun x hx => ?_
      rcases List.mem_cons.1 hx with rfl | hx
      · exact .inl (by simp)
      · rcases hblk x hx with h7 | h7
        · exact .inl (by simp [h7])
        · exact .inr h7
    · intro b hb
      dsimp only at hb
      rcases hblk' b hb with h7 | h7
      · exact hblk b h7
      · right; have := hc2.size; omega
    · intro x hx
      rcases hall' x hx with h7 | rfl
      · exact hall x h7
      · right
        intro b o hb hne
        obtain ⟨g, hg, hge, -⟩ := hnew hne
        dsimp only at hb
        rw [hg] at hb
        cases hb
        have h8 : w'.heap.size ≤ b := hge
        have := hc.size
        omega
  · have hk' : k = rs.length := by omega
    subst hk'
    rw [List.take_length] at hlist
    exact hK _ _ ⟨G, hG, hroom, hlist, hc, hblk, hall⟩
theorem push_c {w : World} {h : Nat} {H : Hs} (hh : HAt w h H) {e : Option TypeId} {a : Option Addr} {rs : List Rw} (ha : Sx w e Rw.f a rs) (hab : ∀ b o, a = some ⟨b, o, none⟩ → b ∉ h :: H.blk) (hr : ∀ r ∈ rs, SxC w (some 70) r.a r.cs) (hl : ∀ r ∈ rs, r.cs.length ≤ 100000) (hlr : rs.length ≤ 1000000) (cap : Nat) :
    Calls Tryz.prog 51 #[.pointer (some ⟨h, 0, none⟩), .slice a rs.length cap] w
    (retK fun v w' => ∃ H', HAt w' h H' ∧ H'.room = H.room ∧ H'.list = pushAll H.room H.list (rs.map Rw.cs) ∧ Chg (h :: H.blk) w w' ∧ ∀ b ∈ H'.blk, b ∈ H.blk ∨ w.heap.size ≤ b) := by
  refine (push2_c hh ha hab hr hl hlr cap).mono fun e w' h => ?_
  cases e with
  | returned v => obtain ⟨H', h1, h2, h3, h4, h5, -⟩ := h; exact ⟨H', h1, h2, h3, h4, h5⟩
  | _ => exact h.elim
theorem push_nil (w : World) (v : Value) : Calls Tryz.prog 51 #[.pointer none, v] w (retK fun v w' => w' = w) := by
  apply history_History_Push_link
  intro K hK
  unfold history_History_Push
  simp -dsimp (disch := first | omega | (simp only [go_sem, seval]; first | done | omega)) only [go_sem, seval]
  exact hK _ _ rfl
end Go.Proofs.YtjfembffjjijaaaGreat
