/- Cells, rows of cells: what they are in plain terms. It names no program. -/
import Derived.Test.YtdjdeahmhenchaaLycOps8
set_option linter.unusedSimpArgs false
set_option linter.unusedVariables false
namespace Lyc
open Go

@[go_sem] theorem not_dec (p : Prop) [Decidable p] : (!decide p) = decide (¬ p) := by by_cases h : p <;> simp [h]
attribute [go_sem] Decidable.not_not
/-- A cell: its character, its colours, how it is drawn. -/
structure Cel where
  r : Int
  fg : BitVec 8
  bg : BitVec 8
  a : BitVec 8
deriving DecidableEq

@[go_sem] def Cel.cells (c : Cel) : List Value := [.int .i32 c.r, .int .u8 c.fg.toNat, .int .u8 c.bg.toNat, .int .u8 c.a.toNat]
@[go_sem] def Cel.val (c : Cel) : Value := .agg #[.int .i32 c.r, .int .u8 c.fg.toNat, .int .u8 c.bg.toNat, .int .u8 c.a.toNat]
theorem Cel.len (c : Cel) : c.cells.length = 4 := rfl
theorem Cel.ok (c : Cel) : okCells c.cells = true := rfl
theorem Cel.val_eq (c : Cel) : c.val = .agg c.cells.toArray := rfl

def spans : List (Int × Int × Int) := [(0x7f, 0x9f, 0), (0x300, 0x36f, 0), (0x200b, 0x200f, 0), (0xd800, 0xdfff, 0), (0xfe00, 0xfe0f, 0), (0x1100, 0x115f, 2), (0x2e80, 0x303e, 2), (0x3041, 0xa4cf, 2), (0xac00, 0xd7a3, 2), (0xf900, 0xfaff, 2), (0xfe30, 0xfe6f, 2), (0xff01, 0xff60, 2), (0xffe0, 0xffe6, 2), (0x1f300, 0x1f64f, 2), (0x1f900, 0x1f9ff, 2), (0x20000, 0x3fffd, 2)]
def spanW : List (Int × Int × Int) → Int → Int
  | [], _ => 1
  | s :: l, r => if s.1 ≤ r ∧ r ≤ s.2.1 then s.2.2 else spanW l r
/-- How wide a character is. -/
def width (r : Int) : Int := if r < 32 ∨ 1114111 < r then 0 else if r < 127 then 1 else spanW spans r

def Cel.wide (c : Cel) : Bool := decide (¬ c.a &&& 64#8 = 0#8)
def Cel.tail (c : Cel) : Bool := decide (¬ c.a &&& 128#8 = 0#8)
def Cel.plain (c : Cel) : Bool := decide (c.a &&& 192#8 = 0#8)
/-- May the cell be? -/
def Cel.check (c : Cel) : Bool := if c.tail then !c.wide && decide (c.r = 0) else if c.wide then decide (width c.r = 2) else decide (width c.r = 1)
def Cel.tailOf (c : Cel) : Cel := ⟨0, c.fg, c.bg, (c.a &&& ~~~64#8) ||| 128#8⟩
def Cel.single (c : Cel) : Bool := c.plain && c.check
/-- A Wide cell with its Tail behind it. -/
def pairOK (c d : Cel) : Bool := c.wide && c.check && decide (d = c.tailOf)
def pairAt (l : List Cel) (x : Nat) : Bool := match l[x]?, l[x + 1]? with | some c, some d => pairOK c d | _, _ => false
def Cel.blank : Cel := ⟨32, 0, 0, 0⟩
def Cel.fix (c : Cel) : Cel := if c.single then c else ⟨32, c.fg, c.bg, 0⟩
def right : List Cel → Bool
  | [] => true
  | [c] => c.single
  | c :: d :: l => if pairOK c d then right l else c.single && right (d :: l)
def mend : List Cel → List Cel
  | [] => []
  | [c] => [c.fix]
  | c :: d :: l => if pairOK c d then c :: d :: mend l else c.fix :: mend (d :: l)

theorem mend_len : ∀ l : List Cel, (mend l).length = l.length
  | [] => rfl
  | [c] => rfl
  | c :: d :: l => by
    unfold mend
    split
    · simp [mend_len l]
    · simp [mend_len (d :: l)]

theorem bits_u8 (x y : BitVec 8) : IntKind.u8.wrap (((x &&& y).toNat : Nat) : Int) = ((x &&& y).toNat : Int) := wrap_u8 _ (by omega) (by have := (x &&& y).isLt; omega)
theorem bitV_and_u8 (x : BitVec 8) (k : Int) : bitV .and .u8 (x.toNat : Int) k = ((x &&& BitVec.ofInt 8 k).toNat : Int) := by
  show IntKind.u8.wrap ((BitVec.ofInt 8 (x.toNat : Int) &&& BitVec.ofInt 8 k).toNat : Int) = _
  rw [show BitVec.ofInt 8 (x.toNat : Int) = x by simp]
  exact bits_u8 _ _
theorem bitV_or_u8 (x : BitVec 8) (k : Int) : bitV .or .u8 (x.toNat : Int) k = ((x ||| BitVec.ofInt 8 k).toNat : Int) := by
  show IntKind.u8.wrap ((BitVec.ofInt 8 (x.toNat : Int) ||| BitVec.ofInt 8 k).toNat : Int) = _
  rw [show BitVec.ofInt 8 (x.toNat : Int) = x by simp]
  exact wrap_u8 _ (by omega) (by have := (x ||| BitVec.ofInt 8 k).isLt; omega)
theorem bitV_andNot_u8 (x : BitVec 8) (k : Int) : bitV .andNot .u8 (x.toNat : Int) k = ((x &&& ~~~BitVec.ofInt 8 k).toNat : Int) := by
  show IntKind.u8.wrap ((BitVec.ofInt 8 (x.toNat : Int) &&& ~~~BitVec.ofInt 8 k).toNat : Int) = _
  rw [show BitVec.ofInt 8 (x.toNat : Int) = x by simp]
  exact bits_u8 _ _
theorem bv0 (x : BitVec 8) : ((x.toNat : Int) = 0) = (x = 0#8) := by
  apply propext
  constructor
  · intro h; apply BitVec.eq_of_toNat_eq; simp; omega
  · rintro rfl; rfl
@[go_sem] theorem and64 (x : BitVec 8) : (bitV .and .u8 (x.toNat : Int) 64 = 0) = (x &&& 64#8 = 0#8) := by rw [bitV_and_u8, bv0]; rfl
@[go_sem] theorem and128 (x : BitVec 8) : (bitV .and .u8 (x.toNat : Int) 128 = 0) = (x &&& 128#8 = 0#8) := by rw [bitV_and_u8, bv0]; rfl
@[go_sem] theorem and192 (x : BitVec 8) : (bitV .and .u8 (x.toNat : Int) 192 = 0) = (x &&& 192#8 = 0#8) := by rw [bitV_and_u8, bv0]; rfl
@[go_sem] theorem andNot64 (x : BitVec 8) : bitV .andNot .u8 (x.toNat : Int) 64 = ((x &&& ~~~64#8).toNat : Int) := bitV_andNot_u8 x 64
@[go_sem] theorem andNot192 (x : BitVec 8) : bitV .andNot .u8 (x.toNat : Int) 192 = ((x &&& ~~~192#8).toNat : Int) := bitV_andNot_u8 x 192
@[go_sem] theorem or128 (x : BitVec 8) : bitV .or .u8 (x.toNat : Int) 128 = ((x ||| 128#8).toNat : Int) := bitV_or_u8 x 128
@[go_sem] theorem or64 (x : BitVec 8) : bitV .or .u8 (x.toNat : Int) 64 = ((x ||| 64#8).toNat : Int) := bitV_or_u8 x 64

theorem bv_inj (x y : BitVec 8) : ((x.toNat : Int) = y.toNat) = (x = y) := propext ⟨fun h => BitVec.eq_of_toNat_eq (by omega), fun h => by rw [h]⟩
theorem celEq (c d : Cel) : decide (c = d) = (decide (c.r = d.r) && (decide ((c.fg.toNat : Int) = d.fg.toNat) && (decide ((c.bg.toNat : Int) = d.bg.toNat) && (decide ((c.a.toNat : Int) = d.a.toNat) && true)))) := by
  obtain ⟨r, f, b, a⟩ := c
  obtain ⟨r', f', b', a'⟩ := d
  simp only [Cel.mk.injEq, bv_inj, Bool.decide_and, Bool.and_true]

@[go_sem] theorem celEq' (c d : Cel) : (decide (c.r = d.r) && (decide ((c.fg.toNat : Int) = d.fg.toNat) && (decide ((c.bg.toNat : Int) = d.bg.toNat) && decide ((c.a.toNat : Int) = d.a.toNat)))) = decide (c = d) := by rw [celEq]; simp only [Bool.and_true]
/-- A row of cells in memory. -/
abbrev SxC (w : World) (e : Option TypeId) (a : Option Addr) (l : List Cel) : Prop := Sx w e Cel.cells a l

/-- A cell of a row, and its parts. -/
theorem SxC.cel {w : World} {e : Option TypeId} {a : Option Addr} {l : List Cel} (h : Sx w e Cel.cells a l) {i : Nat} {c : Cel} (hi : l[i]? = some c) :
    ∃ b o, a = some ⟨b, o, none⟩ ∧ b < w.heap.size ∧ aggAt w.heap[b]? (o + i * 4) 4 = some #[.int .i32 c.r, .int .u8 c.fg.toNat, .int .u8 c.bg.toNat, .int .u8 c.a.toNat] ∧
      cellAt w.heap[b]? (o + i * 4) = some (.int .i32 c.r) ∧ cellAt w.heap[b]? (o + i * 4 + 1) = some (.int .u8 c.fg.toNat) ∧ cellAt w.heap[b]? (o + i * 4 + 2) = some (.int .u8 c.bg.toNat) ∧ cellAt w.heap[b]? (o + i * 4 + 3) = some (.int .u8 c.a.toNat) := by
  obtain ⟨b, o, h1, h2, h3⟩ := h.get (m := 4) Cel.len hi
  exact ⟨b, o, h1, h2, h3, aggAt_cell h3 0 (by omega), aggAt_cell h3 1 (by omega), aggAt_cell h3 2 (by omega), aggAt_cell h3 3 (by omega)⟩

theorem mend_step {l : List Cel} {k : Nat} (hk : k < l.length) : mend (l.drop k) = if pairAt l k then (l.drop k).take 2 ++ mend (l.drop (k + 2)) else (l[k].fix :: mend (l.drop (k + 1))) := by
  have e1 : l.drop k = l[k] :: l.drop (k + 1) := List.drop_eq_getElem_cons hk
  unfold pairAt
  rw [List.getElem?_eq_getElem hk]
  by_cases h2 : k + 1 < l.length
  · have e2 : l.drop (k + 1) = l[k + 1] :: l.drop (k + 2) := List.drop_eq_getElem_cons h2
    rw [List.getElem?_eq_getElem h2, e1, e2]
    simp only [mend]
    split <;> rfl
  · rw [List.getElem?_eq_none (by omega), e1, List.drop_eq_nil_of_le (by omega)]
    simp [mend]
theorem right_step {l : List Cel} {k : Nat} (hk : k < l.length) : right (l.drop k) = if pairAt l k then right (l.drop (k + 2)) else (l[k].single && right (l.drop (k + 1))) := by
  have e1 : l.drop k = l[k] :: l.drop (k + 1) := List.drop_eq_getElem_cons hk
  unfold pairAt
  rw [List.getElem?_eq_getElem hk]
  by_cases h2 : k + 1 < l.length
  · have e2 : l.drop (k + 1) = l[k + 1] :: l.drop (k + 2) := List.drop_eq_getElem_cons h2
    rw [List.getElem?_eq_getElem h2, e1, e2]
    simp only [right]
  · rw [List.getElem?_eq_none (by omega), e1, List.drop_eq_nil_of_le (by omega)]
    simp [right]
theorem pairAt_lt {l : List Cel} {k : Nat} (h : pairAt l k = true) : k + 1 < l.length := by
  unfold pairAt at h
  by_cases h2 : k + 1 < l.length
  · exact h2
  · rw [List.getElem?_eq_none (l := l) (i := k + 1) (by omega)] at h
    cases l[k]? <;> simp at h
end Lyc
