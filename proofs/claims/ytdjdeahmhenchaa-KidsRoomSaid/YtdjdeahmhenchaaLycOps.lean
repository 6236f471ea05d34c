/-
  What single operations come to, for whatever program: rules by which 'simp only' walks a transformer. The heap is told block by block.
-/
import Derived.Test.YtdjdeahmhenchaaLycSound
import Derived.WalkSpells
import Derived.WalkLawsBesides
set_option linter.unusedSimpArgs false
set_option linter.unusedVariables false
namespace Lyc
open Go

/-! ### The heap, block by block -/

def cellAt (x : Option Obj) (o : Nat) : Option Value := match x with | some (.cells c _ _) => c[o]? | _ => none
def aggAt (x : Option Obj) (o n : Nat) : Option (Array Value) := match x with | some (.cells c _ _) => if o + n ≤ c.size then some (c.extract o (o + n)) else none | _ => none
/-- The cells of a row, some of them written. -/
def spl (c : Array Value) (o : Nat) (vs : List Value) : Array Value := (c.toList.take o ++ vs ++ c.toList.drop (o + vs.length)).toArray
def putAt (x : Option Obj) (o : Nat) (vs : List Value) : Option Obj :=
  match x with
  | some (.cells c e (0, 0)) => if o + vs.length ≤ c.size then some (.cells (spl c o vs) e) else none
  | _ => none

@[go_sem] theorem cellAt_cells (c : Array Value) (e : TypeId) (fr : Nat × Nat) (o : Nat) : cellAt (some (.cells c e fr)) o = c[o]? := rfl
@[go_sem] theorem aggAt_cells (c : Array Value) (e : TypeId) (fr : Nat × Nat) (o n : Nat) : aggAt (some (.cells c e fr)) o n = if o + n ≤ c.size then some (c.extract o (o + n)) else none := rfl
@[go_sem] theorem putAt_cells (c : Array Value) (e : TypeId) (o : Nat) (vs : List Value) : putAt (some (.cells c e (0, 0))) o vs = if o + vs.length ≤ c.size then some (.cells (spl c o vs) e) else none := rfl
@[go_sem] theorem spl_list (l : List Value) (o : Nat) (vs : List Value) : spl l.toArray o vs = (l.take o ++ vs ++ l.drop (o + vs.length)).toArray := rfl

@[go_sem] theorem heap_alloc_new (w : World) (o : Obj) (b : Nat) (h : b = w.heap.size) : (w.alloc o).heap[b]? = some o := by subst h; unfold World.alloc; simp
@[go_sem] theorem heap_alloc_old (w : World) (o : Obj) (b : Nat) (h : b < w.heap.size) : (w.alloc o).heap[b]? = w.heap[b]? := by
  simp only [World.alloc, Array.getElem?_push]; rw [if_neg (by omega)]
attribute [go_sem] World.size_alloc World.size_drew
@[go_sem] theorem heap_drew (w : World) (b : Nat) : w.drew.heap[b]? = w.heap[b]? := rfl
@[go_sem] theorem heap_set_same (w : World) (b : Nat) (o : Obj) (c : Nat) (h : c = b) (hb : b < w.heap.size) : (setBlk w b o).heap[c]? = some o := by subst h; simp [setBlk, hb]
@[go_sem] theorem heap_set_other (w : World) (b : Nat) (o : Obj) (c : Nat) (h : c ≠ b) : (setBlk w b o).heap[c]? = w.heap[c]? := by
  simp only [setBlk]; rw [Array.getElem?_setIfInBounds_ne (Ne.symm h)]
@[go_sem] theorem size_setBlk (w : World) (b : Nat) (o : Obj) : (setBlk w b o).heap.size = w.heap.size := by simp [setBlk]
@[go_sem] theorem setBlk_drew (w : World) (b : Nat) (o : Obj) : setBlk w.drew b o = (setBlk w b o).drew := rfl
theorem alloc_drew (w : World) (o : Obj) : w.drew.alloc o = (w.alloc o).drew := rfl
@[go_sem] theorem setBlk_setBlk (w : World) (b : Nat) (o o' : Obj) : setBlk (setBlk w b o) b o' = setBlk w b o' := by simp [setBlk]
@[go_sem] theorem setBlk_alloc_new (w : World) (o o' : Obj) (b : Nat) (h : b = w.heap.size) : setBlk (w.alloc o) b o' = w.alloc o' := by
  subst h; simp only [setBlk, World.alloc]
  congr 1
  apply Array.ext_getElem?
  intro i
  simp only [Array.getElem?_setIfInBounds, Array.getElem?_push, Array.size_push]
  by_cases hi : w.heap.size = i
  · subst hi; simp
  · have : ¬ i = w.heap.size := fun e => hi e.symm
    simp [hi, this]
@[go_sem] theorem setBlk_alloc_old (w : World) (o o' : Obj) (b : Nat) (h : b < w.heap.size) : setBlk (w.alloc o) b o' = (setBlk w b o').alloc o := by
  simp only [setBlk, World.alloc]
  congr 1
  apply Array.ext_getElem?
  intro i
  simp only [Array.getElem?_setIfInBounds, Array.getElem?_push, Array.size_push, Array.size_setIfInBounds]
  by_cases hi : b = i
  · subst hi; simp [h, Nat.ne_of_lt h, Nat.lt_succ_of_lt h]
  · simp [hi]
theorem lt_of_heap {w : World} {b : Nat} {o : Obj} (h : w.heap[b]? = some o) : b < w.heap.size := (Array.getElem?_eq_some_iff.1 h).1

@[go_sem] theorem cell?_at (w : World) (b o : Nat) : w.cell? ⟨b, o, none⟩ = cellAt w.heap[b]? o := by
  unfold World.cell? cellAt
  cases w.heap[b]? with
  | none => rfl
  | some x => cases x <;> rfl

/-! ### Types, as numbers -/

def tsize (P : Program) (t : TypeId) : Option Nat := (P.info? t).map (·.size)
def tbytes (P : Program) (t : TypeId) : Option Nat := (P.info? t).map (·.bytes)
def tzero (P : Program) (t : TypeId) : Option Value := (P.info? t).bind (·.zero)
def tagg (P : Program) (t : TypeId) : Option Bool := (P.underlying t).map fun | .struct _ => true | .array _ _ => true | _ => false
/-- 1: a slice · 2: an array · 3: a string · 4: a pointer · 5: a map · 6: a channel · 7: a struct · 8: an integer · 9: a bool · 10: an interface · 11: a function. -/
def tkind (P : Program) (t : TypeId) : Option Nat := (P.underlying t).map fun | .slice _ => 1 | .array _ _ => 2 | .string => 3 | .pointer _ => 4 | .map _ _ => 5 | .chan _ _ => 6 | .struct _ => 7 | .int _ => 8 | .bool => 9 | .interface _ => 10 | .func _ _ _ => 11 | _ => 0
def telem (P : Program) (t : TypeId) : Option Nat := (P.underlying t).bind fun | .slice e => some e | .array _ e => some e | .pointer e => some e | .chan _ e => some e | .map _ e => some e | _ => none
def tlen (P : Program) (t : TypeId) : Option Nat := (P.underlying t).bind fun | .array n _ => some n | _ => none
def tint (P : Program) (t : TypeId) : Option IntKind := (P.underlying t).bind fun | .int k => some k | _ => none
/-- A field's place and how many cells it has. -/
def tfield (P : Program) (t : TypeId) (i : Nat) : Option (Nat × Nat) := (P.underlying t).bind fun | .struct fs => (fs[i]?).bind fun f => (P.info? f.type).map fun j => (f.offset, j.size) | _ => none
def tfields (P : Program) (t : TypeId) : Option (List (Nat × Nat)) := (P.underlying t).bind fun | .struct fs => fs.toList.mapM fun f => (P.info? f.type).map fun j => (f.offset, j.size) | _ => none
def tftype (P : Program) (t : TypeId) (i : Nat) : Option TypeId := (P.underlying t).bind fun | .struct fs => (fs[i]?).map (·.type) | _ => none

/-- A field that has cells: its place. -/
def tfo (P : Program) (t : TypeId) (i : Nat) : Option Nat := (tfield P t i).bind fun p => if p.2 = 0 then none else some p.1
/-- A slice's elements: how many cells each has. -/
def tslice (P : Program) (t : TypeId) : Option Nat := (P.underlying t).bind fun | .slice e => tsize P e | _ => none
/-- An array: how many elements, of how many cells. -/
def tarr (P : Program) (t : TypeId) : Option (Nat × Nat) := (P.underlying t).bind fun | .array n e => (tsize P e).map fun m => (n, m) | _ => none
def tsizeA (P : Program) (t : TypeId) : Option Nat := (tagg P t).bind fun b => bif b then tsize P t else none
/-- A channel whose elements are not great. -/
def tchan (P : Program) (t : TypeId) : Option Unit := (P.underlying t).bind fun | .chan _ e => (tbytes P e).bind fun n => if n ≤ 1000000 then some () else none | _ => none
def tconv (P : Program) (s t : TypeId) : Option IntKind := (tkind P s).bind fun _ => tint P t

/-- If x is known: f of it; else d. 'simp' looks into x alone. -/
def OrK {α : Type} (x : Option α) (f : α → Prop) (d : Prop) (_ : UK2 f d) : Prop := match x with | some a => f a | none => d
@[go_sem] theorem OrK_some {α : Type} (a : α) (f : α → Prop) (d : Prop) : OrK (some a) f d () = f a := rfl
theorem OrK_by {α : Type} {x : Option α} {f : α → Prop} {d : Prop} {X : Prop} (h : ∀ a, x = some a → X = f a) (hd : d = X) : X = OrK x f d () := by
  cases x with
  | none => exact hd.symm
  | some a => exact h a rfl

section
variable {P : Program}

theorem run_isAgg {t : TypeId} {b : Bool} (h : tagg P t = some b) (w : World) : (isAgg t).run P w = .ok b w := by
  unfold tagg at h
  cases hu : P.underlying t with
  | none => rw [hu] at h; simp at h
  | some d =>
    rw [hu] at h
    simp only [Option.map_some, Option.some.injEq] at h
    unfold isAgg
    simp only [Sem.run_bind, run_underlying hu, Result.andThen_ok]
    cases d <;> simp at h ⊢ <;> exact h
theorem run_size {t : TypeId} {n : Nat} (h : tsize P t = some n) (w : World) : (Go.sizeOf t).run P w = .ok n w := by
  unfold tsize at h
  cases hi : P.info? t with
  | none => rw [hi] at h; simp at h
  | some i => rw [hi] at h; simp at h; rw [run_sizeOf w hi]; simp [Program.cellsOf, hi, h]
theorem run_info {t : TypeId} {n : Nat} (h : tbytes P t = some n) (w : World) : ∃ i, (typeInfo t).run P w = .ok i w ∧ i.bytes = n := by
  unfold tbytes at h
  cases hi : P.info? t with
  | none => rw [hi] at h; simp at h
  | some i => rw [hi] at h; simp at h; exact ⟨i, run_typeInfo w hi, h⟩
theorem run_zero {t : TypeId} {z : Value} (h : tzero P t = some z) (w : World) : (zeroValue t).run P w = .ok z w := by
  unfold tzero at h
  cases hi : P.info? t with
  | none => rw [hi] at h; simp at h
  | some i =>
    rw [hi] at h; simp at h
    unfold zeroValue
    simp only [Sem.run_bind, run_typeInfo w hi, Result.andThen_ok, h]
    rfl

/-! ### From a run to a rule -/

theorem OpX_ok {op : Op} {ty : TypeId} {K : Value → World → Prop} {w w' : World} {v : Value} (h : ∀ ρ, Good ρ → (execOp ρ (mkOper op ty)).run P w = .ok (.value v) w') : OpX P op ty K w = K v w' := by
  apply propext
  constructor
  · rintro ⟨hx⟩
    have := hx (fun | .const v => v | .global g => .pointer (some ⟨g, 0, none⟩) | .func f => .func (.func f) #[] #[] | .tmp _ => undef) ⟨fun _ => rfl, fun _ => rfl, fun _ => rfl⟩
    rw [h _ ⟨fun _ => rfl, fun _ => rfl, fun _ => rfl⟩] at this
    exact this
  · exact fun hk => ⟨fun ρ hg => by rw [h ρ hg]; exact hk⟩
theorem OpX_skip {op : Op} {ty : TypeId} {K : Value → World → Prop} {w w' : World} (h : ∀ ρ, Good ρ → (execOp ρ (mkOper op ty)).run P w = .ok .skip w') : OpX P op ty K w = K undef w' := by
  apply propext
  constructor
  · rintro ⟨hx⟩
    have := hx (fun | .const v => v | .global g => .pointer (some ⟨g, 0, none⟩) | .func f => .func (.func f) #[] #[] | .tmp _ => undef) ⟨fun _ => rfl, fun _ => rfl, fun _ => rfl⟩
    rw [h _ ⟨fun _ => rfl, fun _ => rfl, fun _ => rfl⟩] at this
    exact this
  · exact fun hk => ⟨fun ρ hg => by rw [h ρ hg]; exact hk⟩
theorem PurX_ok {op : Op} {ty : TypeId} {K : Value → Prop} {v : Value} (h : ∀ ρ, Good ρ → ∀ w, (execOp ρ (mkOper op ty)).run P w = .ok (.value v) w) : PurX P op ty K () = K v := by
  apply propext
  constructor
  · rintro ⟨u, hu, hk⟩
    have hg : Good (fun | .const v => v | .global g => .pointer (some ⟨g, 0, none⟩) | .func f => .func (.func f) #[] #[] | .tmp _ => undef) := ⟨fun _ => rfl, fun _ => rfl, fun _ => rfl⟩
    have := hu _ hg default
    rw [h _ hg] at this
    cases this
    exact hk
  · exact fun hk => ⟨v, h, hk⟩
theorem Yld_ok {op : Op} {ty : TypeId} {u v : Value} {w : World} (h : ∀ ρ, Good ρ → (execOp ρ (mkOper op ty)).run P w = .ok (.value v) w) : Yld P op ty u w = (u = v) := by
  apply propext
  constructor
  · rintro ⟨hu⟩
    have hg : Good (fun | .const v => v | .global g => .pointer (some ⟨g, 0, none⟩) | .func f => .func (.func f) #[] #[] | .tmp _ => undef) := ⟨fun _ => rfl, fun _ => rfl, fun _ => rfl⟩
    have := hu _ hg
    rw [h _ hg] at this
    cases this; rfl
  · rintro rfl; exact ⟨h⟩
theorem RdX_ok {op : Op} {ty : TypeId} {K : Value → Prop} {v : Value} {w : World} (h : ∀ ρ, Good ρ → (execOp ρ (mkOper op ty)).run P w = .ok (.value v) w) : RdX P op ty K w = K v := by
  apply propext
  constructor
  · rintro ⟨u, hu, hk⟩
    rw [Yld_ok h] at hu; subst hu; exact hk
  · exact fun hk => ⟨v, ⟨h⟩, hk⟩
theorem BinX_ok {op : BinOp} {t : TypeId} {a b v : Value} {K : Value → World → Prop} {w w' : World} (h : ∀ x y, (binS op t a b x y).run P w = .ok (.value v) w') : BinX P op t a b K w = K v w' := by
  apply propext
  constructor
  · rintro ⟨hx⟩
    have := hx (.const undef) (.const undef)
    have e := h (.const undef) (.const undef)
    unfold binS at e
    rw [e] at this
    exact this
  · exact fun hk => ⟨fun x y => by have e := h x y; unfold binS at e; rw [e]; exact hk⟩
theorem PurB_ok {op : BinOp} {t : TypeId} {a b v : Value} {K : Value → Prop} (h : ∀ x y w, (binS op t a b x y).run P w = .ok (.value v) w) : PurB P op t a b K () = K v := by
  apply propext
  constructor
  · rintro ⟨u, hu, hk⟩
    have := hu (.const undef) (.const undef) default
    rw [h] at this
    cases this
    exact hk
  · exact fun hk => ⟨v, h, hk⟩
theorem YldB_ok {op : BinOp} {t : TypeId} {a b u v : Value} {w : World} (h : ∀ x y, (binS op t a b x y).run P w = .ok (.value v) w) : YldB P op t a b u w = (u = v) := by
  apply propext
  constructor
  · rintro ⟨hu⟩
    have := hu (.const undef) (.const undef)
    rw [h] at this
    cases this; rfl
  · rintro rfl; exact ⟨h⟩
theorem RdB_ok {op : BinOp} {t : TypeId} {a b v : Value} {K : Value → Prop} {w : World} (h : ∀ x y, (binS op t a b x y).run P w = .ok (.value v) w) : RdB P op t a b K w = K v := by
  apply propext
  constructor
  · rintro ⟨u, hu, hk⟩
    rw [YldB_ok h] at hu; subst hu; exact hk
  · exact fun hk => ⟨v, ⟨h⟩, hk⟩



@[go_sem] theorem BrW_true (A B : Prop) : BrW (.bool true) A B () = A := propext ⟨fun ⟨_, hv, ht, _⟩ => by cases hv; exact ht rfl, fun h => ⟨true, rfl, fun _ => h, (fun h => by cases h)⟩⟩
@[go_sem] theorem BrW_false (A B : Prop) : BrW (.bool false) A B () = B := propext ⟨fun ⟨_, hv, _, hf⟩ => by cases hv; exact hf rfl, fun h => ⟨false, rfl, (fun h => by cases h), fun _ => h⟩⟩
theorem BrW.by {b : Bool} {A B : Prop} (ht : b = true → A) (hf : b = false → B) : BrW (.bool b) A B () := ⟨b, rfl, ht, hf⟩
/-- The two ways, the test as a proposition. -/
theorem BrW.dec {p : Prop} [Decidable p] {A B : Prop} (ht : p → A) (hf : ¬ p → B) : BrW (.bool (decide p)) A B () := ⟨decide p, rfl, fun h => ht (of_decide_eq_true h), fun h => hf (of_decide_eq_false h)⟩
theorem BrW.beq {α : Type} [BEq α] [LawfulBEq α] {x y : α} {A B : Prop} (ht : x = y → A) (hf : x ≠ y → B) : BrW (.bool (x == y)) A B () := ⟨x == y, rfl, fun h => ht (eq_of_beq h), fun h => hf (by simpa using h)⟩
theorem BrW.bne {α : Type} [BEq α] [LawfulBEq α] {x y : α} {A B : Prop} (ht : x ≠ y → A) (hf : x = y → B) : BrW (.bool (!(x == y))) A B () := ⟨!(x == y), rfl, fun h => ht (by simpa using h), fun h => hf (by simpa using h)⟩

/-! ### Joins -/
theorem Join0.inl {M : (World → Prop) → World → Prop} {K : World → Prop} {w : World} (h : M K w) : Join0 M K w := ⟨K, h, fun _ h => h⟩
theorem Join0.cut {M : (World → Prop) → World → Prop} {K : World → Prop} {w : World} (R : World → Prop) (h : M R w) (hk : ∀ w', R w' → K w') : Join0 M K w := ⟨R, h, hk⟩
theorem Join1.inl {M : (Value → World → Prop) → World → Prop} {K : Value → World → Prop} {w : World} (h : M K w) : Join1 M K w := ⟨K, h, fun _ _ h => h⟩
theorem Join1.cut {M : (Value → World → Prop) → World → Prop} {K : Value → World → Prop} {w : World} (R : Value → World → Prop) (h : M R w) (hk : ∀ u0 w', R u0 w' → K u0 w') : Join1 M K w := ⟨R, h, hk⟩
theorem Join2.inl {M : (Value → Value → World → Prop) → World → Prop} {K : Value → Value → World → Prop} {w : World} (h : M K w) : Join2 M K w := ⟨K, h, fun _ _ _ h => h⟩
theorem Join2.cut {M : (Value → Value → World → Prop) → World → Prop} {K : Value → Value → World → Prop} {w : World} (R : Value → Value → World → Prop) (h : M R w) (hk : ∀ u0 u1 w', R u0 u1 w' → K u0 u1 w') : Join2 M K w := ⟨R, h, hk⟩
theorem Join3.inl {M : (Value → Value → Value → World → Prop) → World → Prop} {K : Value → Value → Value → World → Prop} {w : World} (h : M K w) : Join3 M K w := ⟨K, h, fun _ _ _ _ h => h⟩
theorem Join3.cut {M : (Value → Value → Value → World → Prop) → World → Prop} {K : Value → Value → Value → World → Prop} {w : World} (R : Value → Value → Value → World → Prop) (h : M R w) (hk : ∀ u0 u1 u2 w', R u0 u1 u2 w' → K u0 u1 u2 w') : Join3 M K w := ⟨R, h, hk⟩
theorem Join4.inl {M : (Value → Value → Value → Value → World → Prop) → World → Prop} {K : Value → Value → Value → Value → World → Prop} {w : World} (h : M K w) : Join4 M K w := ⟨K, h, fun _ _ _ _ _ h => h⟩
theorem Join4.cut {M : (Value → Value → Value → Value → World → Prop) → World → Prop} {K : Value → Value → Value → Value → World → Prop} {w : World} (R : Value → Value → Value → Value → World → Prop) (h : M R w) (hk : ∀ u0 u1 u2 u3 w', R u0 u1 u2 u3 w' → K u0 u1 u2 u3 w') : Join4 M K w := ⟨R, h, hk⟩
theorem Join5.inl {M : (Value → Value → Value → Value → Value → World → Prop) → World → Prop} {K : Value → Value → Value → Value → Value → World → Prop} {w : World} (h : M K w) : Join5 M K w := ⟨K, h, fun _ _ _ _ _ _ h => h⟩
theorem Join5.cut {M : (Value → Value → Value → Value → Value → World → Prop) → World → Prop} {K : Value → Value → Value → Value → Value → World → Prop} {w : World} (R : Value → Value → Value → Value → Value → World → Prop) (h : M R w) (hk : ∀ u0 u1 u2 u3 u4 w', R u0 u1 u2 u3 u4 w' → K u0 u1 u2 u3 u4 w') : Join5 M K w := ⟨R, h, hk⟩
theorem Join6.inl {M : (Value → Value → Value → Value → Value → Value → World → Prop) → World → Prop} {K : Value → Value → Value → Value → Value → Value → World → Prop} {w : World} (h : M K w) : Join6 M K w := ⟨K, h, fun _ _ _ _ _ _ _ h => h⟩
theorem Join6.cut {M : (Value → Value → Value → Value → Value → Value → World → Prop) → World → Prop} {K : Value → Value → Value → Value → Value → Value → World → Prop} {w : World} (R : Value → Value → Value → Value → Value → Value → World → Prop) (h : M R w) (hk : ∀ u0 u1 u2 u3 u4 u5 w', R u0 u1 u2 u3 u4 u5 w' → K u0 u1 u2 u3 u4 u5 w') : Join6 M K w := ⟨R, h, hk⟩
theorem Join7.inl {M : (Value → Value → Value → Value → Value → Value → Value → World → Prop) → World → Prop} {K : Value → Value → Value → Value → Value → Value → Value → World → Prop} {w : World} (h : M K w) : Join7 M K w := ⟨K, h, fun _ _ _ _ _ _ _ _ h => h⟩
theorem Join7.cut {M : (Value → Value → Value → Value → Value → Value → Value → World → Prop) → World → Prop} {K : Value → Value → Value → Value → Value → Value → Value → World → Prop} {w : World} (R : Value → Value → Value → Value → Value → Value → Value → World → Prop) (h : M R w) (hk : ∀ u0 u1 u2 u3 u4 u5 u6 w', R u0 u1 u2 u3 u4 u5 u6 w' → K u0 u1 u2 u3 u4 u5 u6 w') : Join7 M K w := ⟨R, h, hk⟩
theorem Join8.inl {M : (Value → Value → Value → Value → Value → Value → Value → Value → World → Prop) → World → Prop} {K : Value → Value → Value → Value → Value → Value → Value → Value → World → Prop} {w : World} (h : M K w) : Join8 M K w := ⟨K, h, fun _ _ _ _ _ _ _ _ _ h => h⟩
theorem Join8.cut {M : (Value → Value → Value → Value → Value → Value → Value → Value → World → Prop) → World → Prop} {K : Value → Value → Value → Value → Value → Value → Value → Value → World → Prop} {w : World} (R : Value → Value → Value → Value → Value → Value → Value → Value → World → Prop) (h : M R w) (hk : ∀ u0 u1 u2 u3 u4 u5 u6 u7 w', R u0 u1 u2 u3 u4 u5 u6 u7 w' → K u0 u1 u2 u3 u4 u5 u6 u7 w') : Join8 M K w := ⟨R, h, hk⟩

/-! ### Loops -/
theorem Loop0.by {body : (World → Prop) → World → Prop} {w : World} (I : World → Prop) (μ : World → Nat) (h0 : I w)
    (round : ∀ w, I w → body (fun w' => I w' ∧ μ w' < μ w) w) : Loop0 body w := ⟨I, μ, h0, round⟩
theorem Loop1.by {s0 : Value} {body : Value → (Value → World → Prop) → World → Prop} {w : World} (I : Value → World → Prop) (μ : Value → World → Nat) (h0 : I s0 w)
    (round : ∀ v0 w, I v0 w → body v0 (fun u0 w' => I u0 w' ∧ μ u0 w' < μ v0 w) w) : Loop1 s0 body w := ⟨I, μ, h0, round⟩
theorem Loop2.by {s0 s1 : Value} {body : Value → Value → (Value → Value → World → Prop) → World → Prop} {w : World} (I : Value → Value → World → Prop) (μ : Value → Value → World → Nat) (h0 : I s0 s1 w)
    (round : ∀ v0 v1 w, I v0 v1 w → body v0 v1 (fun u0 u1 w' => I u0 u1 w' ∧ μ u0 u1 w' < μ v0 v1 w) w) : Loop2 s0 s1 body w := ⟨I, μ, h0, round⟩
theorem Loop3.by {s0 s1 s2 : Value} {body : Value → Value → Value → (Value → Value → Value → World → Prop) → World → Prop} {w : World} (I : Value → Value → Value → World → Prop) (μ : Value → Value → Value → World → Nat) (h0 : I s0 s1 s2 w)
    (round : ∀ v0 v1 v2 w, I v0 v1 v2 w → body v0 v1 v2 (fun u0 u1 u2 w' => I u0 u1 u2 w' ∧ μ u0 u1 u2 w' < μ v0 v1 v2 w) w) : Loop3 s0 s1 s2 body w := ⟨I, μ, h0, round⟩
theorem Loop4.by {s0 s1 s2 s3 : Value} {body : Value → Value → Value → Value → (Value → Value → Value → Value → World → Prop) → World → Prop} {w : World} (I : Value → Value → Value → Value → World → Prop) (μ : Value → Value → Value → Value → World → Nat) (h0 : I s0 s1 s2 s3 w)
    (round : ∀ v0 v1 v2 v3 w, I v0 v1 v2 v3 w → body v0 v1 v2 v3 (fun u0 u1 u2 u3 w' => I u0 u1 u2 u3 w' ∧ μ u0 u1 u2 u3 w' < μ v0 v1 v2 v3 w) w) : Loop4 s0 s1 s2 s3 body w := ⟨I, μ, h0, round⟩
theorem Loop5.by {s0 s1 s2 s3 s4 : Value} {body : Value → Value → Value → Value → Value → (Value → Value → Value → Value → Value → World → Prop) → World → Prop} {w : World} (I : Value → Value → Value → Value → Value → World → Prop) (μ : Value → Value → Value → Value → Value → World → Nat) (h0 : I s0 s1 s2 s3 s4 w)
    (round : ∀ v0 v1 v2 v3 v4 w, I v0 v1 v2 v3 v4 w → body v0 v1 v2 v3 v4 (fun u0 u1 u2 u3 u4 w' => I u0 u1 u2 u3 u4 w' ∧ μ u0 u1 u2 u3 u4 w' < μ v0 v1 v2 v3 v4 w) w) : Loop5 s0 s1 s2 s3 s4 body w := ⟨I, μ, h0, round⟩
theorem Loop6.by {s0 s1 s2 s3 s4 s5 : Value} {body : Value → Value → Value → Value → Value → Value → (Value → Value → Value → Value → Value → Value → World → Prop) → World → Prop} {w : World} (I : Value → Value → Value → Value → Value → Value → World → Prop) (μ : Value → Value → Value → Value → Value → Value → World → Nat) (h0 : I s0 s1 s2 s3 s4 s5 w)
    (round : ∀ v0 v1 v2 v3 v4 v5 w, I v0 v1 v2 v3 v4 v5 w → body v0 v1 v2 v3 v4 v5 (fun u0 u1 u2 u3 u4 u5 w' => I u0 u1 u2 u3 u4 u5 w' ∧ μ u0 u1 u2 u3 u4 u5 w' < μ v0 v1 v2 v3 v4 v5 w) w) : Loop6 s0 s1 s2 s3 s4 s5 body w := ⟨I, μ, h0, round⟩
theorem Loop7.by {s0 s1 s2 s3 s4 s5 s6 : Value} {body : Value → Value → Value → Value → Value → Value → Value → (Value → Value → Value → Value → Value → Value → Value → World → Prop) → World → Prop} {w : World} (I : Value → Value → Value → Value → Value → Value → Value → World → Prop) (μ : Value → Value → Value → Value → Value → Value → Value → World → Nat) (h0 : I s0 s1 s2 s3 s4 s5 s6 w)
    (round : ∀ v0 v1 v2 v3 v4 v5 v6 w, I v0 v1 v2 v3 v4 v5 v6 w → body v0 v1 v2 v3 v4 v5 v6 (fun u0 u1 u2 u3 u4 u5 u6 w' => I u0 u1 u2 u3 u4 u5 u6 w' ∧ μ u0 u1 u2 u3 u4 u5 u6 w' < μ v0 v1 v2 v3 v4 v5 v6 w) w) : Loop7 s0 s1 s2 s3 s4 s5 s6 body w := ⟨I, μ, h0, round⟩
theorem Loop8.by {s0 s1 s2 s3 s4 s5 s6 s7 : Value} {body : Value → Value → Value → Value → Value → Value → Value → Value → (Value → Value → Value → Value → Value → Value → Value → Value → World → Prop) → World → Prop} {w : World} (I : Value → Value → Value → Value → Value → Value → Value → Value → World → Prop) (μ : Value → Value → Value → Value → Value → Value → Value → Value → World → Nat) (h0 : I s0 s1 s2 s3 s4 s5 s6 s7 w)
    (round : ∀ v0 v1 v2 v3 v4 v5 v6 v7 w, I v0 v1 v2 v3 v4 v5 v6 v7 w → body v0 v1 v2 v3 v4 v5 v6 v7 (fun u0 u1 u2 u3 u4 u5 u6 u7 w' => I u0 u1 u2 u3 u4 u5 u6 u7 w' ∧ μ u0 u1 u2 u3 u4 u5 u6 u7 w' < μ v0 v1 v2 v3 v4 v5 v6 v7 w) w) : Loop8 s0 s1 s2 s3 s4 s5 s6 s7 body w := ⟨I, μ, h0, round⟩
theorem Loop9.by {s0 s1 s2 s3 s4 s5 s6 s7 s8 : Value} {body : Value → Value → Value → Value → Value → Value → Value → Value → Value → (Value → Value → Value → Value → Value → Value → Value → Value → Value → World → Prop) → World → Prop} {w : World} (I : Value → Value → Value → Value → Value → Value → Value → Value → Value → World → Prop) (μ : Value → Value → Value → Value → Value → Value → Value → Value → Value → World → Nat) (h0 : I s0 s1 s2 s3 s4 s5 s6 s7 s8 w)
    (round : ∀ v0 v1 v2 v3 v4 v5 v6 v7 v8 w, I v0 v1 v2 v3 v4 v5 v6 v7 v8 w → body v0 v1 v2 v3 v4 v5 v6 v7 v8 (fun u0 u1 u2 u3 u4 u5 u6 u7 u8 w' => I u0 u1 u2 u3 u4 u5 u6 u7 u8 w' ∧ μ u0 u1 u2 u3 u4 u5 u6 u7 u8 w' < μ v0 v1 v2 v3 v4 v5 v6 v7 v8 w) w) : Loop9 s0 s1 s2 s3 s4 s5 s6 s7 s8 body w := ⟨I, μ, h0, round⟩
theorem Loop10.by {s0 s1 s2 s3 s4 s5 s6 s7 s8 s9 : Value} {body : Value → Value → Value → Value → Value → Value → Value → Value → Value → Value → (Value → Value → Value → Value → Value → Value → Value → Value → Value → Value → World → Prop) → World → Prop} {w : World} (I : Value → Value → Value → Value → Value → Value → Value → Value → Value → Value → World → Prop) (μ : Value → Value → Value → Value → Value → Value → Value → Value → Value → Value → World → Nat) (h0 : I s0 s1 s2 s3 s4 s5 s6 s7 s8 s9 w)
    (round : ∀ v0 v1 v2 v3 v4 v5 v6 v7 v8 v9 w, I v0 v1 v2 v3 v4 v5 v6 v7 v8 v9 w → body v0 v1 v2 v3 v4 v5 v6 v7 v8 v9 (fun u0 u1 u2 u3 u4 u5 u6 u7 u8 u9 w' => I u0 u1 u2 u3 u4 u5 u6 u7 u8 u9 w' ∧ μ u0 u1 u2 u3 u4 u5 u6 u7 u8 u9 w' < μ v0 v1 v2 v3 v4 v5 v6 v7 v8 v9 w) w) : Loop10 s0 s1 s2 s3 s4 s5 s6 s7 s8 s9 body w := ⟨I, μ, h0, round⟩
end
end Lyc
