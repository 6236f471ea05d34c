/-
  Rows of like things in memory: read, made, grown, written, copied. It names no program.
-/
import Derived.Test.YtdjdeahmhenchaaLycOps7
import Derived.Laws.AppendOwnNone
import Derived.Maps.AppendAt
set_option linter.unusedSimpArgs false
set_option linter.unusedVariables false
namespace Lyc
open Go
section
variable {P : Program} {α : Type}

attribute [go_sem] Nat.mul_one
def tagOk : Option TypeId → TypeId → Bool
  | none, _ => true
  | some e, e' => Nat.beq e e'
theorem tagOk_some {e e' : TypeId} (h : tagOk (some e) e' = true) : e' = e := (Nat.eq_of_beq_eq_true h).symm

/-- The things of l lie one behind the other, from a on, each as its cells. -/
structure Sx (w : World) (e : Option TypeId) (f : α → List Value) (a : Option Addr) (l : List α) : Prop where
  at_ : l ≠ [] → ∃ b o c e' fr pre post, a = some ⟨b, o, none⟩ ∧ w.heap[b]? = some (.cells c e' fr) ∧ tagOk e e' = true ∧ c = (pre ++ l.flatMap f ++ post).toArray ∧ pre.length = o

theorem Sx.nil (w : World) (e : Option TypeId) (f : α → List Value) (a : Option Addr) : Sx w e f a [] := ⟨fun h => absurd rfl h⟩
theorem Sx.untag {w : World} {e : Option TypeId} {f : α → List Value} {a : Option Addr} {l : List α} (h : Sx w e f a l) : Sx w none f a l :=
  ⟨fun hl => let ⟨b, o, c, e', fr, pre, post, h1, h2, _, h4⟩ := h.at_ hl; ⟨b, o, c, e', fr, pre, post, h1, h2, rfl, h4⟩⟩
theorem Sx.chg {w w' : World} {e : Option TypeId} {f : α → List Value} {a : Option Addr} {l : List α} {F : List Nat} (h : Sx w e f a l) (hc : Chg F w w') (hF : ∀ b o, a = some ⟨b, o, none⟩ → l ≠ [] → b ∉ F) : Sx w' e f a l :=
  ⟨fun hl => let ⟨b, o, c, e', fr, pre, post, h1, h2, h3, h4⟩ := h.at_ hl; ⟨b, o, c, e', fr, pre, post, h1, hc.keep h2 (hF b o h1 hl), h3, h4⟩⟩
theorem Sx.chg0 {w w' : World} {e : Option TypeId} {f : α → List Value} {a : Option Addr} {l : List α} (h : Sx w e f a l) (hc : Chg [] w w') : Sx w' e f a l := h.chg hc (by simp)
theorem Sx.lt {w : World} {e : Option TypeId} {f : α → List Value} {a : Option Addr} {l : List α} (h : Sx w e f a l) (hl : l ≠ []) {b o : Nat} (ha : a = some ⟨b, o, none⟩) : b < w.heap.size := by
  obtain ⟨b', o', c, e', fr, pre, post, h1, h2, _⟩ := h.at_ hl
  rw [ha] at h1; cases h1
  exact lt_of_heap h2
/-- What lies below stays, if what changes lies behind. -/
theorem Sx.low {w w' : World} {e : Option TypeId} {f : α → List Value} {a : Option Addr} {l : List α} {F : List Nat} (h : Sx w e f a l) (hc : Chg F w w') (hF : ∀ x ∈ F, w.heap.size ≤ x) : Sx w' e f a l :=
  h.chg hc fun b o ha hl hm => absurd (hF b hm) (by have := h.lt hl ha; omega)
/-- A block of another kind of elements is another block. -/
theorem Sx.ne {w : World} {e : TypeId} {f : α → List Value} {a : Option Addr} {l : List α} (h : Sx w (some e) f a l) {b o : Nat} (ha : a = some ⟨b, o, none⟩) (hl : l ≠ []) {b' : Nat} {c : Array Value} {e' : TypeId} {fr : Nat × Nat} (hb : w.heap[b']? = some (.cells c e' fr)) (hne : Nat.beq e' e = false) : b ≠ b' := by
  obtain ⟨b2, o2, c2, e2, fr2, pre, post, h1, h2, h3, _⟩ := h.at_ hl
  rw [ha] at h1; cases h1
  rintro rfl
  rw [hb] at h2; cases h2
  rw [tagOk_some h3] at hne
  simp at hne

theorem flat_get {f : α → List Value} {m : Nat} (hf : ∀ x, (f x).length = m) : ∀ (l : List α) (i : Nat) (x : α), l[i]? = some x → ∃ pre post, l.flatMap f = pre ++ f x ++ post ∧ pre.length = i * m
  | [], i, x, h => by simp at h
  | y :: l, 0, x, h => by simp at h; subst h; exact ⟨[], l.flatMap f, by simp, by simp⟩
  | y :: l, i + 1, x, h => by
    obtain ⟨pre, post, h1, h2⟩ := flat_get hf l i x (by simpa using h)
    exact ⟨f y ++ pre, post, by simp [h1], by rw [List.length_append, hf, h2, Nat.add_mul]; omega⟩
theorem flat_len {f : α → List Value} {m : Nat} (hf : ∀ x, (f x).length = m) (l : List α) : (l.flatMap f).length = l.length * m := by
  induction l with
  | nil => simp
  | cons x l ih => simp [hf, ih, Nat.add_mul]; omega
theorem aggAt_mid (pre xs post : List Value) (e : TypeId) (fr : Nat × Nat) (o n : Nat) (ho : pre.length = o) (hn : xs.length = n) : aggAt (some (.cells (pre ++ xs ++ post).toArray e fr)) o n = some xs.toArray := by
  subst ho; subst hn
  rw [aggAt_cells, if_pos (by simp)]
  simp [List.extract_toArray]
theorem aggAt_cell {x : Option Obj} {o n : Nat} {c : Array Value} (h : aggAt x o n = some c) (j : Nat) (hj : j < n) : cellAt x (o + j) = c[j]? := by
  cases x with
  | none => simp [aggAt] at h
  | some x =>
    cases x with
    | cells cs e fr =>
      rw [aggAt_cells] at h
      split at h
      · rename_i hle
        cases h
        rw [cellAt_cells, Array.getElem?_extract_of_lt (by omega)]
        simp [show o + j < cs.size by omega]
      · simp at h
    | _ => simp [aggAt] at h

theorem Sx.get {w : World} {e : Option TypeId} {f : α → List Value} {a : Option Addr} {l : List α} {m : Nat} (h : Sx w e f a l) (hf : ∀ x, (f x).length = m) {i : Nat} {x : α} (hi : l[i]? = some x) :
    ∃ b o, a = some ⟨b, o, none⟩ ∧ b < w.heap.size ∧ aggAt w.heap[b]? (o + i * m) m = some (f x).toArray := by
  have hl : l ≠ [] := by rintro rfl; simp at hi
  obtain ⟨b, o, c, e', fr, pre, post, h1, h2, h3, h4, h5⟩ := h.at_ hl
  refine ⟨b, o, h1, lt_of_heap h2, ?_⟩
  obtain ⟨p, q, h6, h7⟩ := flat_get hf l i x hi
  rw [h2, h4, h6]
  have : pre ++ (p ++ f x ++ q) ++ post = (pre ++ p) ++ f x ++ (q ++ post) := by simp
  rw [this]
  exact aggAt_mid _ _ _ _ _ _ _ (by simp [h5, h7]) (hf x)
/-- Things of one cell. -/
theorem Sx.get1 {w : World} {e : Option TypeId} {f : α → List Value} {g : α → Value} {a : Option Addr} {l : List α} (h : Sx w e f a l) (hf : ∀ x, f x = [g x]) {i : Nat} {x : α} (hi : l[i]? = some x) :
    ∃ b o, a = some ⟨b, o, none⟩ ∧ b < w.heap.size ∧ cellAt w.heap[b]? (o + i) = some (g x) := by
  obtain ⟨b, o, h1, h2, h3⟩ := h.get (m := 1) (fun x => by simp [hf]) hi
  refine ⟨b, o, h1, h2, ?_⟩
  have := aggAt_cell h3 0 (by omega)
  simp only [Nat.mul_one, Nat.add_zero] at this
  rw [this, hf]; rfl

/-- A part of a row. -/
theorem Sx.sub {w : World} {e : Option TypeId} {f : α → List Value} {b o : Nat} {l : List α} {m : Nat} (h : Sx w e f (some ⟨b, o, none⟩) l) (hf : ∀ x, (f x).length = m) (i n : Nat) (a : Option Addr) (ha : n = 0 ∨ l.length ≤ i ∨ a = some ⟨b, o + i * m, none⟩) : Sx w e f a ((l.drop i).take n) := by
  refine ⟨fun hl => ?_⟩
  have hi : i < l.length ∧ n ≠ 0 := by
    constructor
    · apply Nat.lt_of_not_le; intro hle; apply hl; rw [List.drop_eq_nil_of_le hle]; simp
    · rintro rfl; simp at hl
  have ha : a = some ⟨b, o + i * m, none⟩ := by rcases ha with h | h | h <;> first | exact h | omega
  subst ha
  have hl' : l ≠ [] := by rintro rfl; simp at hi
  obtain ⟨b', o', c, e', fr, pre, post, h1, h2, h3, h4, h5⟩ := h.at_ hl'
  cases h1
  refine ⟨b, o + i * m, c, e', fr, pre ++ (l.take i).flatMap f, ((l.drop i).drop n).flatMap f ++ post, rfl, h2, h3, ?_, ?_⟩
  · rw [h4]
    congr 1
    have e1 : l.flatMap f = (l.take i).flatMap f ++ ((l.drop i).take n).flatMap f ++ ((l.drop i).drop n).flatMap f := by
      rw [← List.flatMap_append, ← List.flatMap_append, List.append_assoc, List.take_append_drop, List.take_append_drop]
    rw [e1]; simp
  · simp only [List.length_append, h5, flat_len hf, List.length_take]
    rw [Nat.min_eq_left (by omega)]

/-- The cells of things that lie in a row, one by one. -/
theorem Sx.cell {w : World} {e : Option TypeId} {f : α → List Value} {b o : Nat} {l : List α} (h : Sx w e f (some ⟨b, o, none⟩) l) : ∀ j u, (l.flatMap f)[j]? = some u → cellAt w.heap[b]? (o + j) = some u := by
  intro j u hj
  have hl : l ≠ [] := by rintro rfl; simp at hj
  obtain ⟨b', o', c, e', fr, pre, post, h1, h2, h3, h4, h5⟩ := h.at_ hl
  cases h1
  rw [h2, h4, cellAt_cells]
  have hj' := (List.getElem?_eq_some_iff.1 hj).1
  rw [List.getElem?_toArray, List.append_assoc, List.getElem?_append_right (by omega), List.getElem?_append_left (by omega)]
  rw [← hj]; congr 1; omega

/-! ### Rows of one's own -/
/-- A row that was made behind base: l, with room behind it perhaps. -/
def Ox (base : Nat) (w : World) (e : TypeId) (m : Nat) (f : α → List Value) (v : Value) (l : List α) : Prop := w.ownsRow base e m v l.length (l.flatMap f)

section
variable {base : Nat} {w w' : World} {e : TypeId} {m : Nat} {f : α → List Value} {v : Value} {l : List α}
theorem Ox.nil (base : Nat) (w : World) (e : TypeId) (m : Nat) (f : α → List Value) : Ox base w e m f (.slice none 0 0) [] := World.ownsRow_nil w base e m
theorem Ox.form (h : Ox base w e m f v l) : ∃ a cap, v = .slice a l.length cap ∧ l.length ≤ cap ∧ Sx w (some e) f a l ∧ (∀ b, some b = v.ownBlock → base ≤ b ∧ b < w.heap.size) ∧ (l ≠ [] → ∃ g, a = some ⟨g, 0, none⟩ ∧ base ≤ g ∧ g < w.heap.size) := by
  have hlt : ∀ b, some b = v.ownBlock → base ≤ b ∧ b < w.heap.size := fun b hb => h.lt b hb.symm
  obtain ⟨hl, h⟩ := h
  rcases h with ⟨rfl, h0⟩ | ⟨g, cap, cur, rfl, hb, hg, hn, hm, hs, ht⟩
  · have : l = [] := List.eq_nil_of_length_eq_zero h0
    subst this
    exact ⟨none, 0, rfl, Nat.le_refl _, Sx.nil .., by simp [Value.ownBlock], by simp⟩
  · refine ⟨some ⟨g, 0, none⟩, cap, rfl, hn, ⟨fun _ => ⟨g, 0, cur, e, (0, 0), [], cur.toList.drop (l.length * m), rfl, hg, by simp [tagOk], ?_, rfl⟩⟩, hlt, fun _ => ⟨g, rfl, hb, lt_of_heap hg⟩⟩
    rw [← ht]; simp
theorem Ox.addr {a : Option Addr} {n c : Nat} (h : Ox base w e m f (.slice a n c) l) : a = none ∨ ∃ b o, a = some ⟨b, o, none⟩ := by
  obtain ⟨hl1, h⟩ := h
  rcases h with ⟨hv, h0⟩ | ⟨g, cap, cur, hv, hb, hg, hn, hm, hs, ht⟩
  · rw [Value.slice.injEq] at hv; exact .inl hv.1
  · rw [Value.slice.injEq] at hv; exact .inr ⟨g, 0, hv.1⟩
theorem Ox.blk (h : Ox base w e m f v l) (hl : l ≠ []) : ∃ nb cap sp, v = .slice (some ⟨nb, 0, none⟩) l.length cap ∧ l.length ≤ cap ∧ base ≤ nb ∧ w.heap[nb]? = some (.cells (l.flatMap f ++ sp).toArray e) := by
  obtain ⟨hl1, h⟩ := h
  rcases h with ⟨rfl, h0⟩ | ⟨g, cap, cur, rfl, hb, hg, hn, hm, hs, ht⟩
  · exact absurd (List.eq_nil_of_length_eq_zero h0) hl
  · refine ⟨g, cap, cur.toList.drop (l.length * m), rfl, hn, hb, ?_⟩
    rw [hg, ← ht]; simp
theorem Ox.chg {F : List Nat} (h : Ox base w e m f v l) (hc : Chg F w w') (hF : ∀ b, some b = v.ownBlock → b ∉ F) : Ox base w' e m f v l := by
  obtain ⟨hl, h⟩ := h
  refine ⟨hl, ?_⟩
  rcases h with h | ⟨g, cap, cur, rfl, hb, hg, hn, hm, hs, ht⟩
  · exact .inl h
  · exact .inr ⟨g, cap, cur, rfl, hb, hc.keep hg (hF g rfl), hn, hm, hs, ht⟩
theorem Ox.off (h : Ox base w e m f v l) {t : Nat} {c : Array Value} {e' : TypeId} {fr : Nat × Nat} (ht : w.heap[t]? = some (.cells c e' fr)) (hne : Nat.beq e' e = false) : v.ownBlock ≠ some t := by
  obtain ⟨hl, ho⟩ := h
  rcases ho with ⟨hv, -⟩ | ⟨g, cap, cur, hv, -, hg, -⟩
  · rw [hv]; simp [Value.ownBlock]
  · rw [hv]
    simp only [Value.ownBlock, ne_eq, Option.some.injEq]
    rintro rfl
    rw [ht] at hg
    simp only [Option.some.injEq, Obj.cells.injEq] at hg
    rw [hg.2.1, Nat.beq_refl] at hne
    simp at hne
theorem Ox.own_ge (h : Ox base w e m f v l) : ∀ x ∈ v.ownBlock.toList, base ≤ x := by
  obtain ⟨a, cap, hv, -, -, hb, -⟩ := h.form
  intro x hx
  exact (hb x (by cases hv' : v.ownBlock with | none => rw [hv'] at hx; simp at hx | some y => rw [hv'] at hx; simp at hx; rw [hx])).1
theorem Ox.chg0 (h : Ox base w e m f v l) (hc : Chg [] w w') : Ox base w' e m f v l := h.chg hc (by simp)
theorem Ox.low {F : List Nat} (h : Ox base w e m f v l) (hc : Chg F w w') (hF : ∀ x ∈ F, x < base) : Ox base w' e m f v l :=
  h.chg hc fun b hb hm => absurd (hF b hm) (by have := h.lt b hb.symm; omega)
theorem Ox.base_le (h : Ox base w e m f v l) {base' : Nat} (hb : base' ≤ base) : Ox base' w e m f v l := by
  obtain ⟨hl, h⟩ := h
  refine ⟨hl, ?_⟩
  rcases h with h | ⟨g, cap, cur, h1, h2, h3⟩
  · exact .inl h
  · exact .inr ⟨g, cap, cur, h1, by omega, h3⟩
/-- A change of one's own row is no change of what lay before. -/
theorem own_chg {w0 : World} {F : List Nat} (h : Ox w0.heap.size w e m f v l) (hc : Chg F w0 w) (hc' : Chg v.ownBlock.toList w w') : Chg F w0 w' :=
  hc.trans hc' fun x hx => .inr (h.lt x (by cases hv : v.ownBlock <;> simp_all)).1
theorem own_chg' {w0 : World} {F : List Nat} {b0 : Nat} (h : Ox b0 w e m f v l) (h0 : w0.heap.size ≤ b0) (hc : Chg F w0 w) (hc' : Chg v.ownBlock.toList w w') : Chg F w0 w' :=
  own_chg (h.base_le h0) hc hc'
end

theorem okCells_flat {f : α → List Value} (hok : ∀ x, okCells (f x) = true) (l : List α) : okCells (l.flatMap f) = true := by
  induction l with
  | nil => rfl
  | cons x l ih => rw [List.flatMap_cons]; simp only [okCells, List.all_append, Bool.and_eq_true]; exact ⟨hok x, ih⟩

/-- A row is laid behind one's own. -/
theorem app_x {t ty e : TypeId} {m by_ base : Nat} {f : α → List Value} {v : Value} {l l2 : List α} {a : Option Addr} {k c : Nat} {e' : Option TypeId} {K : Value → World → Prop} {w : World}
    (ht : tapp P t = some (e, m, by_)) (hf : ∀ x, (f x).length = m) (hok : ∀ x, okCells (f x) = true) (h : Ox base w e m f v l) (hs : Sx w e' f a l2) (hk : k = l2.length)
    (hb : l.length + l2.length ≤ 1000000000) (hby : by_ ≤ 100000) (hbase : base ≤ w.heap.size)
    (hK : ∀ v' w', Ox base w' e m f v' (l ++ l2) → Chg v.ownBlock.toList w w' → (v'.ownBlock = v.ownBlock ∨ v'.ownBlock = some w.heap.size) → K v' w') :
    OpX P (.call { callee := .builtin .append, args := #[.const v, .const (.slice a k c)], argTypes := #[t, t] }) ty K w := by
  subst hk
  have hml : (1000000000 : Nat) ≤ maxLen := by simp [maxLen]
  by_cases hl : l2 = []
  · subst hl
    rw [List.append_nil] at hK
    cases a with
    | some a =>
      obtain ⟨hu, i, z, hi, hz, hs', hby', hzs, hsz⟩ := tapp_spec ht
      have hr := run_append_own_at (P := P) w base t ty e i z m by_ hu hi hz hs' hby' hzs hsz v l.length _ h a 0 c [] (by simp) (by simp) (by simp) (by omega) (by
        have := Nat.mul_le_mul (show l.length + 0 ≤ 1000000000 by simp at hb; omega) hby; omega) hbase
      obtain ⟨v', w', hr, h2, h3, _, h4⟩ := hr
      rw [OpX_ok (v := v') (w' := w') fun ρ hg => by simp [execOp, mkOper, resolve, invoke, builtin, hg.1, hr]]
      exact hK _ _ (by unfold Ox; rw [List.append_nil] at h2; exact h2) (chg_of_grown h3) h4
    | none =>
      obtain ⟨hu, i, z, hi, hz, hs', hby', hzs, hsz⟩ := tapp_spec ht
      have hr : (Builtin.append_ #[t, t] ty #[v, .slice none 0 c]).run P w = .ok v w := by
        rcases h.2 with ⟨rfl, hn⟩ | ⟨g, cap, cur, rfl, hb', hg, hn, hm, hs'', htk⟩
        · have : l = [] := List.eq_nil_of_length_eq_zero hn
          subst this
          simp [Builtin.append_, run_underlying hu, Go.sizeOf, typeInfo, hi, Builtin.lenOf, Builtin.firstCells]
        · have hst : ∀ a : Addr, (storeCells a []).run P w = .ok () w := fun a => by simp [storeCells]
          simp [Builtin.append_, run_underlying hu, Go.sizeOf, typeInfo, hi, Builtin.lenOf, Builtin.firstCells, hn, hst]
      rw [OpX_ok (v := v) (w' := w) fun ρ hg => by simp [execOp, mkOper, resolve, invoke, builtin, hg.1, hr]]
      exact hK _ _ h (Chg.refl _ _) (.inl rfl)
  · obtain ⟨b, o, c', e2, fr, pre, post, h1, h2, h3, h4, h5⟩ := hs.at_ hl
    subst h1
    obtain ⟨hu, i, z, hi, hz, hs', hby', hzs, hsz⟩ := tapp_spec ht
    have hnews : ∀ j u, (l2.flatMap f)[j]? = some u → w.cell? ((⟨b, o, none⟩ : Addr).add j) = some u := by
      intro j u hj
      rw [add_mk, cell?_at, h2, h4, cellAt_cells]
      have hj' := (List.getElem?_eq_some_iff.1 hj).1
      rw [List.getElem?_toArray, List.append_assoc, List.getElem?_append_right (by omega), List.getElem?_append_left (by omega)]
      rw [← hj]; congr 1; omega
    obtain ⟨v', w', hr, h6, h7, _, h8⟩ := run_append_own_at (P := P) w base t ty e i z m by_ hu hi hz hs' hby' hzs hsz v l.length _ h ⟨b, o, none⟩ l2.length c (l2.flatMap f) (flat_len hf l2) hnews (fun u hu => List.all_eq_true.1 (okCells_flat hok l2) u hu) (by omega) (Nat.le_trans (Nat.mul_le_mul hb hby) (by omega)) hbase
    rw [OpX_ok (v := v') (w' := w') fun ρ hg => by simp [execOp, mkOper, resolve, invoke, builtin, hg.1, hr]]
    refine hK v' w' ?_ (chg_of_grown h7) h8
    unfold Ox
    rw [List.flatMap_append, List.length_append]
    exact h6

/-- .. a row of things of one cell, and of cells that were just built. -/
theorem Sx.built {w : World} {e : TypeId} {f : α → List Value} {l : List α} {c : List Value} {b : Nat} (h : w.heap[b]? = some (.cells c.toArray e)) (hc : c = l.flatMap f) : Sx w (some e) f (some ⟨b, 0, none⟩) l :=
  ⟨fun _ => ⟨b, 0, _, e, (0, 0), [], [], rfl, h, by simp [tagOk], by simp [hc], rfl⟩⟩
theorem Ox.built {w : World} {base : Nat} {e : TypeId} {m : Nat} {f : α → List Value} {l : List α} {c : List Value} {b n cap : Nat} (h : w.heap[b]? = some (.cells c.toArray e (0, 0))) (hf : ∀ x, (f x).length = m) (hb : base ≤ b) (hn : n = l.length) (hcap : cap = n) (hml : n ≤ 1000000000) (hc : c = l.flatMap f) : Ox base w e m f (.slice (some ⟨b, 0, none⟩) n cap) l := by
  subst hn; subst hcap; subst hc
  have h9 : (1000000000 : Nat) ≤ maxLen := by simp [maxLen]
  exact ⟨flat_len hf l, .inr ⟨b, l.length, _, rfl, hb, h, Nat.le_refl _, by omega, by simp [flat_len hf], List.take_of_length_le (by rw [flat_len hf]; exact Nat.le_refl _)⟩⟩

theorem take_next {β : Type} {l : List β} {k : Nat} (h : k < l.length) : l.take (k + 1) = l.take k ++ [l[k]] := by rw [List.take_add_one, List.getElem?_eq_getElem h]; rfl

/-! ### Writing into one's own row -/
theorem spl_mid (pre xs ys post : List Value) (o : Nat) (ho : pre.length = o) (hl : ys.length = xs.length) : spl (pre ++ xs ++ post).toArray o ys = (pre ++ ys ++ post).toArray := by
  subst ho
  unfold spl
  simp [hl]
theorem putAt_mid (pre xs ys post : List Value) (e : TypeId) (o : Nat) (ho : pre.length = o) (hl : ys.length = xs.length) : putAt (some (.cells (pre ++ xs ++ post).toArray e (0, 0))) o ys = some (.cells (pre ++ ys ++ post).toArray e) := by
  rw [putAt_cells, if_pos (by simp; omega), spl_mid pre xs ys post o ho hl]

theorem flat_set {f : α → List Value} {m : Nat} (hf : ∀ x, (f x).length = m) : ∀ (l : List α) (i : Nat) (x y : α), l[i]? = some x → ∃ pre post, l.flatMap f = pre ++ f x ++ post ∧ pre.length = i * m ∧ (l.set i y).flatMap f = pre ++ f y ++ post
  | [], i, x, y, h => by simp at h
  | z :: l, 0, x, y, h => by simp at h; subst h; exact ⟨[], l.flatMap f, by simp, by simp, by simp⟩
  | z :: l, i + 1, x, y, h => by
    obtain ⟨pre, post, h1, h2, h3⟩ := flat_set hf l i x y (by simpa using h)
    exact ⟨f z ++ pre, post, by simp [h1], by rw [List.length_append, hf, h2, Nat.add_mul]; omega, by simp [h3]⟩

theorem Ox.put {base : Nat} {w : World} {e : TypeId} {m : Nat} {f : α → List Value} {v : Value} {l : List α} (h : Ox base w e m f v l) (hf : ∀ x, (f x).length = m) {i : Nat} (hi : i < l.length) (y : α) :
    ∃ g cap x', v = .slice (some ⟨g, 0, none⟩) l.length cap ∧ base ≤ g ∧ g < w.heap.size ∧ putAt w.heap[g]? (i * m) (f y) = some x' ∧ Ox base (setBlk w g x') e m f v (l.set i y) := by
  obtain ⟨hl, h⟩ := h
  rcases h with ⟨rfl, h0⟩ | ⟨g, cap, cur, rfl, hb, hg, hn, hm, hs, ht⟩
  · omega
  · obtain ⟨pre, post, h1, h2, h3⟩ := flat_set hf l i l[i] y (by simp [hi])
    have hcur : cur = (pre ++ f l[i] ++ (post ++ cur.toList.drop (l.length * m))).toArray := by
      have e1 : cur.toList = l.flatMap f ++ cur.toList.drop (l.length * m) := by rw [← ht]; simp
      apply Array.ext'
      rw [h1] at e1
      simpa using e1
    have hp := putAt_mid pre (f l[i]) (f y) (post ++ cur.toList.drop (l.length * m)) e (i * m) h2 (by simp [hf])
    rw [← hcur] at hp
    refine ⟨g, cap, _, rfl, hb, lt_of_heap hg, (by rw [hg]; exact hp), ?_⟩
    refine ⟨by simp [flat_len hf], .inr ⟨g, cap, _, by simp, hb, heap_set_same _ _ _ _ rfl (lt_of_heap hg), by simpa using hn, hm, ?_, ?_⟩⟩
    · have := congrArg Array.size hcur
      simp [hf] at this
      simp [hf]
      omega
    · have hlen : (pre ++ f y ++ post).length = (l.set i y).length * m := by rw [← h3, flat_len hf]
      show (pre ++ f y ++ (post ++ cur.toList.drop (l.length * m))).take _ = _
      rw [h3, ← List.append_assoc, List.take_append_of_le_length (by omega), List.take_of_length_le (by omega)]

/-! ### Made and copied rows -/
theorem zrow_flat {f : α → List Value} {z : α} {zs : List Value} (hz : f z = zs) (n : Nat) : zrow zs n = (List.replicate n z).flatMap f := by
  induction n with
  | zero => rfl
  | succ n ih => rw [zrow_succ, List.replicate_succ, List.flatMap_cons, hz, ih]
theorem make_x {t ty e : TypeId} {m by_ base : Nat} {zs : List Value} {f : α → List Value} (z : α) {n : Nat} {K : Value → World → Prop} {w : World} (ht : tmk P t = some (e, m, zs, by_)) (hf : ∀ x, (f x).length = m) (hz : f z = zs)
    (hn : n ≤ 100000) (hm : m ≤ 100) (hby : by_ ≤ 100000) (hbase : base ≤ w.heap.size)
    (hK : ∀ w', w' = w.alloc (.cells (zrow zs n).toArray e) → Ox base w' e m f (.slice (some ⟨w.heap.size, 0, none⟩) n n) (List.replicate n z) → K (.slice (some ⟨w.heap.size, 0, none⟩) n n) w') :
    OpX P (.makeSlice t (.const (.int .i64 n)) (.const (.int .i64 n))) ty K w := by
  have h1 : n * m ≤ 100000 * 100 := Nat.mul_le_mul hn hm
  have h2 : (by_ : Int) * (n : Int) ≤ 100000 * 100000 := by
    have := Nat.mul_le_mul hby hn
    rw [← Int.natCast_mul]; omega
  rw [make_ok ht (by omega) (Int.le_refl _) (by simpa using Nat.le_trans h1 (by omega)) (by omega) (by omega)]
  simp only [Int.toNat_natCast]
  refine hK _ rfl (Ox.built (c := zrow zs n) (heap_alloc_new _ _ _ rfl) hf hbase (by simp) rfl (by omega) (zrow_flat hz n))
theorem make_0 {t ty e : TypeId} {m by_ base : Nat} {zs : List Value} {f : α → List Value} {n : Int} {K : Value → World → Prop} {w : World} (ht : tmk P t = some (e, m, zs, by_)) (hzs : zs.length = m)
    (h0 : 0 ≤ n) (hn : n ≤ 100000) (hm : m ≤ 100) (hby : by_ ≤ 100000) (hbase : base ≤ w.heap.size)
    (hK : ∀ w', w' = w.alloc (.cells (zrow zs n.toNat).toArray e) → Ox base w' e m f (.slice (some ⟨w.heap.size, 0, none⟩) 0 n.toNat) [] → K (.slice (some ⟨w.heap.size, 0, none⟩) 0 n.toNat) w') :
    OpX P (.makeSlice t (.const (.int .i64 0)) (.const (.int .i64 n))) ty K w := by
  obtain ⟨k, rfl⟩ := Int.eq_ofNat_of_zero_le h0
  have h1 : k * m ≤ 100000 * 100 := Nat.mul_le_mul (by omega) hm
  have h2 : (by_ : Int) * (k : Int) ≤ 100000 * 100000 := by
    have := Nat.mul_le_mul hby (show k ≤ 100000 by omega)
    rw [← Int.natCast_mul]; omega
  have hml : (1000000000 : Nat) ≤ maxLen := by simp [maxLen]
  rw [make_ok ht (Int.le_refl _) (by omega) (by simpa using Nat.le_trans h1 (by omega)) (by omega) (by omega)]
  exact hK _ rfl (World.ownsRow_made w _ _ hbase (by simp; omega) (by simp [length_zrow, hzs]))

theorem copy_x {t t' ty e : TypeId} {m base : Nat} {f : α → List Value} {v : Value} {l l2 : List α} {a : Option Addr} {k c : Nat} {e' : Option TypeId} {K : Value → World → Prop} {w : World}
    (ht : tslice P t = some m) (hf : ∀ x, (f x).length = m) (hok : ∀ x, okCells (f x) = true) (h : Ox base w e m f v l) (hs : Sx w e' f a l2) (hk : k = l2.length) (hlen : l2.length = l.length)
    (hK : ∀ w', Ox base w' e m f v l2 → Chg v.ownBlock.toList w w' → K (.int .i64 l2.length) w') :
    OpX P (.call { callee := .builtin .copy, args := #[.const v, .const (.slice a k c)], argTypes := #[t, t'] }) ty K w := by
  subst hk
  obtain ⟨e0, hu, hsz⟩ := tslice_u ht
  by_cases hl : l2 = []
  · subst hl
    have hl0 : l = [] := List.eq_nil_of_length_eq_zero hlen.symm
    subst hl0
    obtain ⟨a', cap, rfl, _⟩ := h.form
    have hst : ∀ a : Addr, (storeCells a []).run P w = .ok () w := fun a => by simp [storeCells]
    have hr : ((execOp (fun | .const v => v | .global g => .pointer (some ⟨g, 0, none⟩) | .func f => .func (.func f) #[] #[] | .tmp _ => undef) (mkOper (.call { callee := .builtin .copy, args := #[.const (.slice a' 0 cap), .const (.slice a 0 c)], argTypes := #[t, t'] }) ty)).run P w) = .ok (.value (.int .i64 0)) w := by
      have hlc : ∀ a : Addr, (loadCells a 0).run P w = .ok #[] w := fun a => by simp [loadCells, loadCellsFrom]
      cases a <;> cases a' <;> simp [execOp, mkOper, resolve, invoke, builtin, Builtin.copy_, run_underlying hu, run_size hsz, Builtin.lenOf, goInt, Builtin.firstCells, hst, hlc]
    rw [OpX_ok (v := .int .i64 0) (w' := w) fun ρ hg => by
      have hlc : ∀ a : Addr, (loadCells a 0).run P w = .ok #[] w := fun a => by simp [loadCells, loadCellsFrom]
      cases a <;> cases a' <;> simp [execOp, mkOper, resolve, invoke, builtin, hg.1, Builtin.copy_, run_underlying hu, run_size hsz, Builtin.lenOf, goInt, Builtin.firstCells, hst, hlc]]
    exact hK w h (Chg.refl _ _)
  · obtain ⟨b, o, c', e2, fr, pre, post, h1, h2, h3, h4, h5⟩ := hs.at_ hl
    subst h1
    have h0 := h
    obtain ⟨hl1, h⟩ := h
    rcases h with ⟨rfl, h9⟩ | ⟨g, cap, cur, rfl, hb, hg, hn, hm, hsz', htk⟩
    · exact absurd (List.eq_nil_of_length_eq_zero (by omega)) hl
    · have hcur : cur.toList = l.flatMap f ++ cur.toList.drop (l.length * m) := by rw [← htk]; simp
      have hp := putAt_mid [] (l.flatMap f) (l2.flatMap f) (cur.toList.drop (l.length * m)) e 0 rfl (by rw [flat_len hf, flat_len hf, hlen])
      rw [List.nil_append, ← hcur] at hp
      have hmin : min l2.length l.length = l2.length := by omega
      rw [copy_ok (cs := l2.flatMap f) (x' := _) ht (by rw [flat_len hf, hmin]) ?_ (okCells_flat hok l2) (by rw [hg]; exact hp)]
      · rw [hmin]
        refine hK _ ⟨flat_len hf l2, .inr ⟨g, cap, _, by rw [hlen], hb, heap_set_same _ _ _ _ rfl (lt_of_heap hg), by omega, hm, ?_, ?_⟩⟩ ((Chg.refl _ _).set _ _ (by simp [Value.ownBlock]))
        · have := congrArg List.length hcur
          simp [flat_len hf] at this
          simp [flat_len hf, hlen]
          omega
        · simp [flat_len hf]
      · intro j u hj
        rw [h2, h4, cellAt_cells]
        have hj' := (List.getElem?_eq_some_iff.1 hj).1
        rw [List.getElem?_toArray, List.append_assoc, List.getElem?_append_right (by omega), List.getElem?_append_left (by omega)]
        rw [← hj]; congr 1; omega
end
end Lyc
