/-
  What a call may have changed: some blocks, told by a list; whatever lies behind the heap's end. It names no program.
-/
import Derived.Test.YtdjdeahmhenchaaLycOps4
set_option linter.unusedSimpArgs false
set_option linter.unusedVariables false
namespace Lyc
open Go

structure Chg (F : List Nat) (w w' : World) : Prop where
  os : w'.os = w.os
  tape : w'.tape = w.tape
  output : w'.output = w.output
  size : w.heap.size ≤ w'.heap.size
  same : ∀ b, b < w.heap.size → b ∉ F → w'.heap[b]? = w.heap[b]?

theorem Chg.refl (F : List Nat) (w : World) : Chg F w w := ⟨rfl, rfl, rfl, Nat.le_refl _, fun _ _ _ => rfl⟩
theorem Chg.trans {F F' : List Nat} {a b c : World} (h : Chg F a b) (k : Chg F' b c) (hf : ∀ x ∈ F', x ∈ F ∨ a.heap.size ≤ x) : Chg F a c :=
  ⟨k.os.trans h.os, k.tape.trans h.tape, k.output.trans h.output, Nat.le_trans h.size k.size, fun x hx hn => by
    rw [k.same x (Nat.lt_of_lt_of_le hx h.size) fun hm => (hf x hm).elim hn (fun hle => absurd hx (by omega)), h.same x hx hn]⟩
theorem Chg.trans0 {F : List Nat} {a b c : World} (h : Chg F a b) (k : Chg [] b c) : Chg F a c := h.trans k (by simp)
theorem Chg.mono {F F' : List Nat} {a b : World} (h : Chg F a b) (hf : ∀ x ∈ F, x ∈ F' ∨ a.heap.size ≤ x) : Chg F' a b := (Chg.refl F' a).trans h hf
theorem Chg.alloc {F : List Nat} {a b : World} (h : Chg F a b) (o : Obj) : Chg F a (b.alloc o) :=
  h.trans (F' := []) ⟨rfl, rfl, rfl, by simp, fun x hx _ => heap_alloc_old b o x hx⟩ (by simp)
theorem Chg.drew {F : List Nat} {a b : World} (h : Chg F a b) : Chg F a b.drew := ⟨h.os, h.tape, h.output, h.size, h.same⟩
theorem Chg.set {F : List Nat} {a b : World} (h : Chg F a b) (x : Nat) (o : Obj) (hx : x ∈ F ∨ a.heap.size ≤ x) : Chg F a (setBlk b x o) :=
  h.trans (F' := [x]) ⟨rfl, rfl, rfl, by rw [size_setBlk]; exact Nat.le_refl _, fun y _ hn => heap_set_other b x o y (by simpa using hn)⟩ (by simpa using hx)
theorem Chg.below {w w' : World} (h : Chg [] w w') : Go.RowKit.Below w.heap.size w w' := ⟨h.os, h.tape, h.output, h.size, fun k hk => h.same k hk (by simp)⟩
theorem Chg.lt {F : List Nat} {w w' : World} (h : Chg F w w') {b : Nat} (hb : b < w.heap.size) : b < w'.heap.size := Nat.lt_of_lt_of_le hb h.size
theorem Chg.keep {F : List Nat} {w w' : World} (h : Chg F w w') {b : Nat} {o : Obj} (hb : w.heap[b]? = some o) (hn : b ∉ F) : w'.heap[b]? = some o := (h.same b (lt_of_heap hb) hn).trans hb

/-- A slice whose elements are rows of m cells, as it lies in memory. -/
def SlA (w : World) (v : Value) (len m : Nat) (g : Nat → List Value) : Prop :=
  ∃ a cap, v = .slice a len cap ∧ ∀ i, i < len → ∃ b o, a = some ⟨b, o, none⟩ ∧ b < w.heap.size ∧ aggAt w.heap[b]? (o + i * m) m = some (g i).toArray

theorem aggAt_of {x : Option Obj} {o n : Nat} {l : List Value} (hl : l.length = n) (h0 : 0 < n) (h : ∀ j, j < n → cellAt x (o + j) = l[j]?) : aggAt x o n = some l.toArray := by
  have h1 := h 0 h0
  have hl0 : ∃ v, l[0]? = some v := ⟨l[0]'(by omega), by simp⟩
  obtain ⟨v0, hl0⟩ := hl0
  rw [hl0] at h1
  cases x with
  | none => simp [cellAt] at h1
  | some x =>
    cases x with
    | cells c e fr =>
      rw [aggAt_cells]
      have hle : o + n ≤ c.size := by
        have := h (n - 1) (by omega)
        rw [cellAt_cells] at this
        rcases Nat.lt_or_ge (o + (n - 1)) c.size with h' | h'
        · omega
        · rw [Array.getElem?_eq_none h'] at this
          have : n - 1 < l.length := by omega
          simp [this] at *
      rw [if_pos hle]
      congr 1
      apply Array.ext_getElem?
      intro i
      rcases Nat.lt_or_ge i n with hi | hi
      · have := h i hi
        rw [cellAt_cells] at this
        rw [Array.getElem?_extract_of_lt (by omega), List.getElem?_toArray, ← this]
        simp [show o + i < c.size by omega]
      · rw [Array.getElem?_eq_none (by simp; omega), Array.getElem?_eq_none (by simp; omega)]
    | _ => simp [cellAt] at h1
theorem SlA.at {w w' : World} {v : Value} {len m : Nat} {g : Nat → List Value} (h : SlA w v len m g) {F : List Nat} (hc : Chg F w w') (hF : ∀ x ∈ F, w.heap.size ≤ x) (i : Nat) (hi : i < len) :
    ∃ a cap b o, v = .slice a len cap ∧ a = some ⟨b, o, none⟩ ∧ b < w.heap.size ∧ aggAt w'.heap[b]? (o + i * m) m = some (g i).toArray := by
  obtain ⟨a, cap, hv, h⟩ := h
  obtain ⟨b, o, ha, hb, he⟩ := h i hi
  exact ⟨a, cap, b, o, hv, ha, hb, by rw [hc.same b hb fun hm => absurd (hF b hm) (by omega)]; exact he⟩
/-! ### Loops by a state, joins by an unknown way on -/
noncomputable def least (p : Nat → Prop) : Nat := open Classical in if h : ∃ n, p n ∧ ∀ m, p m → n ≤ m then Classical.choose h else 0
theorem least_spec {p : Nat → Prop} {n : Nat} (h : p n) : p (least p) ∧ ∀ m, p m → least p ≤ m := by
  have : ∃ n, p n ∧ ∀ m, p m → n ≤ m := by
    induction n using Nat.strongRecOn with
    | ind n ih =>
      by_cases hh : ∃ m, m < n ∧ p m
      · obtain ⟨m, hm, hp⟩ := hh; exact ih m hm hp
      · exact ⟨n, h, fun m hm => Nat.not_lt.mp fun hl => hh ⟨m, hl, hm⟩⟩
  unfold least
  rw [dif_pos this]
  exact Classical.choose_spec this
theorem Join0.cutK {M : (World → Prop) → World → Prop} {K : World → Prop} {w : World} (R : World → Prop) (h : ∀ k : World → Prop, (∀ w', R w' → k w') → M k w) (hk : ∀ w', R w' → K w') : Join0 M K w := ⟨R, h R (fun _ h => h), hk⟩
theorem Join1.cutK {M : (Value → World → Prop) → World → Prop} {K : Value → World → Prop} {w : World} (R : Value → World → Prop) (h : ∀ k : Value → World → Prop, (∀ u0 w', R u0 w' → k u0 w') → M k w) (hk : ∀ u0 w', R u0 w' → K u0 w') : Join1 M K w := ⟨R, h R (fun _ _ h => h), hk⟩
theorem Join2.cutK {M : (Value → Value → World → Prop) → World → Prop} {K : Value → Value → World → Prop} {w : World} (R : Value → Value → World → Prop) (h : ∀ k : Value → Value → World → Prop, (∀ u0 u1 w', R u0 u1 w' → k u0 u1 w') → M k w) (hk : ∀ u0 u1 w', R u0 u1 w' → K u0 u1 w') : Join2 M K w := ⟨R, h R (fun _ _ _ h => h), hk⟩
theorem Join3.cutK {M : (Value → Value → Value → World → Prop) → World → Prop} {K : Value → Value → Value → World → Prop} {w : World} (R : Value → Value → Value → World → Prop) (h : ∀ k : Value → Value → Value → World → Prop, (∀ u0 u1 u2 w', R u0 u1 u2 w' → k u0 u1 u2 w') → M k w) (hk : ∀ u0 u1 u2 w', R u0 u1 u2 w' → K u0 u1 u2 w') : Join3 M K w := ⟨R, h R (fun _ _ _ _ h => h), hk⟩
theorem Join4.cutK {M : (Value → Value → Value → Value → World → Prop) → World → Prop} {K : Value → Value → Value → Value → World → Prop} {w : World} (R : Value → Value → Value → Value → World → Prop) (h : ∀ k : Value → Value → Value → Value → World → Prop, (∀ u0 u1 u2 u3 w', R u0 u1 u2 u3 w' → k u0 u1 u2 u3 w') → M k w) (hk : ∀ u0 u1 u2 u3 w', R u0 u1 u2 u3 w' → K u0 u1 u2 u3 w') : Join4 M K w := ⟨R, h R (fun _ _ _ _ _ h => h), hk⟩
theorem Join5.cutK {M : (Value → Value → Value → Value → Value → World → Prop) → World → Prop} {K : Value → Value → Value → Value → Value → World → Prop} {w : World} (R : Value → Value → Value → Value → Value → World → Prop) (h : ∀ k : Value → Value → Value → Value → Value → World → Prop, (∀ u0 u1 u2 u3 u4 w', R u0 u1 u2 u3 u4 w' → k u0 u1 u2 u3 u4 w') → M k w) (hk : ∀ u0 u1 u2 u3 u4 w', R u0 u1 u2 u3 u4 w' → K u0 u1 u2 u3 u4 w') : Join5 M K w := ⟨R, h R (fun _ _ _ _ _ _ h => h), hk⟩
theorem Join6.cutK {M : (Value → Value → Value → Value → Value → Value → World → Prop) → World → Prop} {K : Value → Value → Value → Value → Value → Value → World → Prop} {w : World} (R : Value → Value → Value → Value → Value → Value → World → Prop) (h : ∀ k : Value → Value → Value → Value → Value → Value → World → Prop, (∀ u0 u1 u2 u3 u4 u5 w', R u0 u1 u2 u3 u4 u5 w' → k u0 u1 u2 u3 u4 u5 w') → M k w) (hk : ∀ u0 u1 u2 u3 u4 u5 w', R u0 u1 u2 u3 u4 u5 w' → K u0 u1 u2 u3 u4 u5 w') : Join6 M K w := ⟨R, h R (fun _ _ _ _ _ _ _ h => h), hk⟩
theorem Join7.cutK {M : (Value → Value → Value → Value → Value → Value → Value → World → Prop) → World → Prop} {K : Value → Value → Value → Value → Value → Value → Value → World → Prop} {w : World} (R : Value → Value → Value → Value → Value → Value → Value → World → Prop) (h : ∀ k : Value → Value → Value → Value → Value → Value → Value → World → Prop, (∀ u0 u1 u2 u3 u4 u5 u6 w', R u0 u1 u2 u3 u4 u5 u6 w' → k u0 u1 u2 u3 u4 u5 u6 w') → M k w) (hk : ∀ u0 u1 u2 u3 u4 u5 u6 w', R u0 u1 u2 u3 u4 u5 u6 w' → K u0 u1 u2 u3 u4 u5 u6 w') : Join7 M K w := ⟨R, h R (fun _ _ _ _ _ _ _ _ h => h), hk⟩
theorem Join8.cutK {M : (Value → Value → Value → Value → Value → Value → Value → Value → World → Prop) → World → Prop} {K : Value → Value → Value → Value → Value → Value → Value → Value → World → Prop} {w : World} (R : Value → Value → Value → Value → Value → Value → Value → Value → World → Prop) (h : ∀ k : Value → Value → Value → Value → Value → Value → Value → Value → World → Prop, (∀ u0 u1 u2 u3 u4 u5 u6 u7 w', R u0 u1 u2 u3 u4 u5 u6 u7 w' → k u0 u1 u2 u3 u4 u5 u6 u7 w') → M k w) (hk : ∀ u0 u1 u2 u3 u4 u5 u6 u7 w', R u0 u1 u2 u3 u4 u5 u6 u7 w' → K u0 u1 u2 u3 u4 u5 u6 u7 w') : Join8 M K w := ⟨R, h R (fun _ _ _ _ _ _ _ _ _ h => h), hk⟩
theorem Loop0.st {body : (World → Prop) → World → Prop} {w : World} {St : Type} (I : St → World → Prop) (μ : St → Nat) (s : St) (h0 : I s w)
    (round : ∀ (next : World → Prop) (s : St) (w : World), (∀ s' w', I s' w' → μ s' < μ s → next w') → I s w → body next w) : Loop0 body w := by
  refine ⟨fun w' => ∃ s, (True) ∧ I s w', fun w' => least fun n => ∃ s, (True) ∧ I s w' ∧ μ s = n, ⟨s, trivial, h0⟩, ?_⟩
  rintro w ⟨sa, ha, hIa⟩
  obtain ⟨⟨s, hs, hI, hm⟩, -⟩ := least_spec (p := fun n => ∃ s, (True) ∧ I s w ∧ μ s = n) ⟨sa, ha, hIa, rfl⟩
  obtain - := hs
  refine round _ s w (fun s' w' hI' hlt => ⟨⟨s', trivial, hI'⟩, ?_⟩) hI
  rw [← hm]
  exact Nat.lt_of_le_of_lt ((least_spec (p := fun n => ∃ s, _ ∧ I s w' ∧ μ s = n) ⟨s', trivial, hI', rfl⟩).2 _ ⟨s', trivial, hI', rfl⟩) hlt
theorem Loop1.st {s0 : Value} {body : Value → (Value → World → Prop) → World → Prop} {w : World} {St : Type} (f0 : St → Value) (I : St → World → Prop) (μ : St → Nat) (s : St) (e0 : s0 = f0 s) (h0 : I s w)
    (round : ∀ (next : Value → World → Prop) (s : St) (w : World), (∀ s' w', I s' w' → μ s' < μ s → next (f0 s') w') → I s w → body (f0 s) next w) : Loop1 s0 body w := by
  refine ⟨fun v0 w' => ∃ s, (v0 = f0 s ∧ True) ∧ I s w', fun v0 w' => least fun n => ∃ s, (v0 = f0 s ∧ True) ∧ I s w' ∧ μ s = n, ⟨s, ⟨e0, trivial⟩, h0⟩, ?_⟩
  rintro v0 w ⟨sa, ha, hIa⟩
  obtain ⟨⟨s, hs, hI, hm⟩, -⟩ := least_spec (p := fun n => ∃ s, (v0 = f0 s ∧ True) ∧ I s w ∧ μ s = n) ⟨sa, ha, hIa, rfl⟩
  obtain ⟨rfl, -⟩ := hs
  refine round _ s w (fun s' w' hI' hlt => ⟨⟨s', ⟨rfl, trivial⟩, hI'⟩, ?_⟩) hI
  rw [← hm]
  exact Nat.lt_of_le_of_lt ((least_spec (p := fun n => ∃ s, _ ∧ I s w' ∧ μ s = n) ⟨s', ⟨rfl, trivial⟩, hI', rfl⟩).2 _ ⟨s', ⟨rfl, trivial⟩, hI', rfl⟩) hlt
theorem Loop2.st {s0 s1 : Value} {body : Value → Value → (Value → Value → World → Prop) → World → Prop} {w : World} {St : Type} (f0 f1 : St → Value) (I : St → World → Prop) (μ : St → Nat) (s : St) (e0 : s0 = f0 s) (e1 : s1 = f1 s) (h0 : I s w)
    (round : ∀ (next : Value → Value → World → Prop) (s : St) (w : World), (∀ s' w', I s' w' → μ s' < μ s → next (f0 s') (f1 s') w') → I s w → body (f0 s) (f1 s) next w) : Loop2 s0 s1 body w := by
  refine ⟨fun v0 v1 w' => ∃ s, (v0 = f0 s ∧ v1 = f1 s ∧ True) ∧ I s w', fun v0 v1 w' => least fun n => ∃ s, (v0 = f0 s ∧ v1 = f1 s ∧ True) ∧ I s w' ∧ μ s = n, ⟨s, ⟨e0, e1, trivial⟩, h0⟩, ?_⟩
  rintro v0 v1 w ⟨sa, ha, hIa⟩
  obtain ⟨⟨s, hs, hI, hm⟩, -⟩ := least_spec (p := fun n => ∃ s, (v0 = f0 s ∧ v1 = f1 s ∧ True) ∧ I s w ∧ μ s = n) ⟨sa, ha, hIa, rfl⟩
  obtain ⟨rfl, rfl, -⟩ := hs
  refine round _ s w (fun s' w' hI' hlt => ⟨⟨s', ⟨rfl, rfl, trivial⟩, hI'⟩, ?_⟩) hI
  rw [← hm]
  exact Nat.lt_of_le_of_lt ((least_spec (p := fun n => ∃ s, _ ∧ I s w' ∧ μ s = n) ⟨s', ⟨rfl, rfl, trivial⟩, hI', rfl⟩).2 _ ⟨s', ⟨rfl, rfl, trivial⟩, hI', rfl⟩) hlt
theorem Loop3.st {s0 s1 s2 : Value} {body : Value → Value → Value → (Value → Value → Value → World → Prop) → World → Prop} {w : World} {St : Type} (f0 f1 f2 : St → Value) (I : St → World → Prop) (μ : St → Nat) (s : St) (e0 : s0 = f0 s) (e1 : s1 = f1 s) (e2 : s2 = f2 s) (h0 : I s w)
    (round : ∀ (next : Value → Value → Value → World → Prop) (s : St) (w : World), (∀ s' w', I s' w' → μ s' < μ s → next (f0 s') (f1 s') (f2 s') w') → I s w → body (f0 s) (f1 s) (f2 s) next w) : Loop3 s0 s1 s2 body w := by
  refine ⟨fun v0 v1 v2 w' => ∃ s, (v0 = f0 s ∧ v1 = f1 s ∧ v2 = f2 s ∧ True) ∧ I s w', fun v0 v1 v2 w' => least fun n => ∃ s, (v0 = f0 s ∧ v1 = f1 s ∧ v2 = f2 s ∧ True) ∧ I s w' ∧ μ s = n, ⟨s, ⟨e0, e1, e2, trivial⟩, h0⟩, ?_⟩
  rintro v0 v1 v2 w ⟨sa, ha, hIa⟩
  obtain ⟨⟨s, hs, hI, hm⟩, -⟩ := least_spec (p := fun n => ∃ s, (v0 = f0 s ∧ v1 = f1 s ∧ v2 = f2 s ∧ True) ∧ I s w ∧ μ s = n) ⟨sa, ha, hIa, rfl⟩
  obtain ⟨rfl, rfl, rfl, -⟩ := hs
  refine round _ s w (fun s' w' hI' hlt => ⟨⟨s', ⟨rfl, rfl, rfl, trivial⟩, hI'⟩, ?_⟩) hI
  rw [← hm]
  exact Nat.lt_of_le_of_lt ((least_spec (p := fun n => ∃ s, _ ∧ I s w' ∧ μ s = n) ⟨s', ⟨rfl, rfl, rfl, trivial⟩, hI', rfl⟩).2 _ ⟨s', ⟨rfl, rfl, rfl, trivial⟩, hI', rfl⟩) hlt
theorem Loop4.st {s0 s1 s2 s3 : Value} {body : Value → Value → Value → Value → (Value → Value → Value → Value → World → Prop) → World → Prop} {w : World} {St : Type} (f0 f1 f2 f3 : St → Value) (I : St → World → Prop) (μ : St → Nat) (s : St) (e0 : s0 = f0 s) (e1 : s1 = f1 s) (e2 : s2 = f2 s) (e3 : s3 = f3 s) (h0 : I s w)
    (round : ∀ (next : Value → Value → Value → Value → World → Prop) (s : St) (w : World), (∀ s' w', I s' w' → μ s' < μ s → next (f0 s') (f1 s') (f2 s') (f3 s') w') → I s w → body (f0 s) (f1 s) (f2 s) (f3 s) next w) : Loop4 s0 s1 s2 s3 body w := by
  refine ⟨fun v0 v1 v2 v3 w' => ∃ s, (v0 = f0 s ∧ v1 = f1 s ∧ v2 = f2 s ∧ v3 = f3 s ∧ True) ∧ I s w', fun v0 v1 v2 v3 w' => least fun n => ∃ s, (v0 = f0 s ∧ v1 = f1 s ∧ v2 = f2 s ∧ v3 = f3 s ∧ True) ∧ I s w' ∧ μ s = n, ⟨s, ⟨e0, e1, e2, e3, trivial⟩, h0⟩, ?_⟩
  rintro v0 v1 v2 v3 w ⟨sa, ha, hIa⟩
  obtain ⟨⟨s, hs, hI, hm⟩, -⟩ := least_spec (p := fun n => ∃ s, (v0 = f0 s ∧ v1 = f1 s ∧ v2 = f2 s ∧ v3 = f3 s ∧ True) ∧ I s w ∧ μ s = n) ⟨sa, ha, hIa, rfl⟩
  obtain ⟨rfl, rfl, rfl, rfl, -⟩ := hs
  refine round _ s w (fun s' w' hI' hlt => ⟨⟨s', ⟨rfl, rfl, rfl, rfl, trivial⟩, hI'⟩, ?_⟩) hI
  rw [← hm]
  exact Nat.lt_of_le_of_lt ((least_spec (p := fun n => ∃ s, _ ∧ I s w' ∧ μ s = n) ⟨s', ⟨rfl, rfl, rfl, rfl, trivial⟩, hI', rfl⟩).2 _ ⟨s', ⟨rfl, rfl, rfl, rfl, trivial⟩, hI', rfl⟩) hlt
theorem Loop5.st {s0 s1 s2 s3 s4 : Value} {body : Value → Value → Value → Value → Value → (Value → Value → Value → Value → Value → World → Prop) → World → Prop} {w : World} {St : Type} (f0 f1 f2 f3 f4 : St → Value) (I : St → World → Prop) (μ : St → Nat) (s : St) (e0 : s0 = f0 s) (e1 : s1 = f1 s) (e2 : s2 = f2 s) (e3 : s3 = f3 s) (e4 : s4 = f4 s) (h0 : I s w)
    (round : ∀ (next : Value → Value → Value → Value → Value → World → Prop) (s : St) (w : World), (∀ s' w', I s' w' → μ s' < μ s → next (f0 s') (f1 s') (f2 s') (f3 s') (f4 s') w') → I s w → body (f0 s) (f1 s) (f2 s) (f3 s) (f4 s) next w) : Loop5 s0 s1 s2 s3 s4 body w := by
  refine ⟨fun v0 v1 v2 v3 v4 w' => ∃ s, (v0 = f0 s ∧ v1 = f1 s ∧ v2 = f2 s ∧ v3 = f3 s ∧ v4 = f4 s ∧ True) ∧ I s w', fun v0 v1 v2 v3 v4 w' => least fun n => ∃ s, (v0 = f0 s ∧ v1 = f1 s ∧ v2 = f2 s ∧ v3 = f3 s ∧ v4 = f4 s ∧ True) ∧ I s w' ∧ μ s = n, ⟨s, ⟨e0, e1, e2, e3, e4, trivial⟩, h0⟩, ?_⟩
  rintro v0 v1 v2 v3 v4 w ⟨sa, ha, hIa⟩
  obtain ⟨⟨s, hs, hI, hm⟩, -⟩ := least_spec (p := fun n => ∃ s, (v0 = f0 s ∧ v1 = f1 s ∧ v2 = f2 s ∧ v3 = f3 s ∧ v4 = f4 s ∧ True) ∧ I s w ∧ μ s = n) ⟨sa, ha, hIa, rfl⟩
  obtain ⟨rfl, rfl, rfl, rfl, rfl, -⟩ := hs
  refine round _ s w (fun s' w' hI' hlt => ⟨⟨s', ⟨rfl, rfl, rfl, rfl, rfl, trivial⟩, hI'⟩, ?_⟩) hI
  rw [← hm]
  exact Nat.lt_of_le_of_lt ((least_spec (p := fun n => ∃ s, _ ∧ I s w' ∧ μ s = n) ⟨s', ⟨rfl, rfl, rfl, rfl, rfl, trivial⟩, hI', rfl⟩).2 _ ⟨s', ⟨rfl, rfl, rfl, rfl, rfl, trivial⟩, hI', rfl⟩) hlt
theorem Loop6.st {s0 s1 s2 s3 s4 s5 : Value} {body : Value → Value → Value → Value → Value → Value → (Value → Value → Value → Value → Value → Value → World → Prop) → World → Prop} {w : World} {St : Type} (f0 f1 f2 f3 f4 f5 : St → Value) (I : St → World → Prop) (μ : St → Nat) (s : St) (e0 : s0 = f0 s) (e1 : s1 = f1 s) (e2 : s2 = f2 s) (e3 : s3 = f3 s) (e4 : s4 = f4 s) (e5 : s5 = f5 s) (h0 : I s w)
    (round : ∀ (next : Value → Value → Value → Value → Value → Value → World → Prop) (s : St) (w : World), (∀ s' w', I s' w' → μ s' < μ s → next (f0 s') (f1 s') (f2 s') (f3 s') (f4 s') (f5 s') w') → I s w → body (f0 s) (f1 s) (f2 s) (f3 s) (f4 s) (f5 s) next w) : Loop6 s0 s1 s2 s3 s4 s5 body w := by
  refine ⟨fun v0 v1 v2 v3 v4 v5 w' => ∃ s, (v0 = f0 s ∧ v1 = f1 s ∧ v2 = f2 s ∧ v3 = f3 s ∧ v4 = f4 s ∧ v5 = f5 s ∧ True) ∧ I s w', fun v0 v1 v2 v3 v4 v5 w' => least fun n => ∃ s, (v0 = f0 s ∧ v1 = f1 s ∧ v2 = f2 s ∧ v3 = f3 s ∧ v4 = f4 s ∧ v5 = f5 s ∧ True) ∧ I s w' ∧ μ s = n, ⟨s, ⟨e0, e1, e2, e3, e4, e5, trivial⟩, h0⟩, ?_⟩
  rintro v0 v1 v2 v3 v4 v5 w ⟨sa, ha, hIa⟩
  obtain ⟨⟨s, hs, hI, hm⟩, -⟩ := least_spec (p := fun n => ∃ s, (v0 = f0 s ∧ v1 = f1 s ∧ v2 = f2 s ∧ v3 = f3 s ∧ v4 = f4 s ∧ v5 = f5 s ∧ True) ∧ I s w ∧ μ s = n) ⟨sa, ha, hIa, rfl⟩
  obtain ⟨rfl, rfl, rfl, rfl, rfl, rfl, -⟩ := hs
  refine round _ s w (fun s' w' hI' hlt => ⟨⟨s', ⟨rfl, rfl, rfl, rfl, rfl, rfl, trivial⟩, hI'⟩, ?_⟩) hI
  rw [← hm]
  exact Nat.lt_of_le_of_lt ((least_spec (p := fun n => ∃ s, _ ∧ I s w' ∧ μ s = n) ⟨s', ⟨rfl, rfl, rfl, rfl, rfl, rfl, trivial⟩, hI', rfl⟩).2 _ ⟨s', ⟨rfl, rfl, rfl, rfl, rfl, rfl, trivial⟩, hI', rfl⟩) hlt
theorem Loop7.st {s0 s1 s2 s3 s4 s5 s6 : Value} {body : Value → Value → Value → Value → Value → Value → Value → (Value → Value → Value → Value → Value → Value → Value → World → Prop) → World → Prop} {w : World} {St : Type} (f0 f1 f2 f3 f4 f5 f6 : St → Value) (I : St → World → Prop) (μ : St → Nat) (s : St) (e0 : s0 = f0 s) (e1 : s1 = f1 s) (e2 : s2 = f2 s) (e3 : s3 = f3 s) (e4 : s4 = f4 s) (e5 : s5 = f5 s) (e6 : s6 = f6 s) (h0 : I s w)
    (round : ∀ (next : Value → Value → Value → Value → Value → Value → Value → World → Prop) (s : St) (w : World), (∀ s' w', I s' w' → μ s' < μ s → next (f0 s') (f1 s') (f2 s') (f3 s') (f4 s') (f5 s') (f6 s') w') → I s w → body (f0 s) (f1 s) (f2 s) (f3 s) (f4 s) (f5 s) (f6 s) next w) : Loop7 s0 s1 s2 s3 s4 s5 s6 body w := by
  refine ⟨fun v0 v1 v2 v3 v4 v5 v6 w' => ∃ s, (v0 = f0 s ∧ v1 = f1 s ∧ v2 = f2 s ∧ v3 = f3 s ∧ v4 = f4 s ∧ v5 = f5 s ∧ v6 = f6 s ∧ True) ∧ I s w', fun v0 v1 v2 v3 v4 v5 v6 w' => least fun n => ∃ s, (v0 = f0 s ∧ v1 = f1 s ∧ v2 = f2 s ∧ v3 = f3 s ∧ v4 = f4 s ∧ v5 = f5 s ∧ v6 = f6 s ∧ True) ∧ I s w' ∧ μ s = n, ⟨s, ⟨e0, e1, e2, e3, e4, e5, e6, trivial⟩, h0⟩, ?_⟩
  rintro v0 v1 v2 v3 v4 v5 v6 w ⟨sa, ha, hIa⟩
  obtain ⟨⟨s, hs, hI, hm⟩, -⟩ := least_spec (p := fun n => ∃ s, (v0 = f0 s ∧ v1 = f1 s ∧ v2 = f2 s ∧ v3 = f3 s ∧ v4 = f4 s ∧ v5 = f5 s ∧ v6 = f6 s ∧ True) ∧ I s w ∧ μ s = n) ⟨sa, ha, hIa, rfl⟩
  obtain ⟨rfl, rfl, rfl, rfl, rfl, rfl, rfl, -⟩ := hs
  refine round _ s w (fun s' w' hI' hlt => ⟨⟨s', ⟨rfl, rfl, rfl, rfl, rfl, rfl, rfl, trivial⟩, hI'⟩, ?_⟩) hI
  rw [← hm]
  exact Nat.lt_of_le_of_lt ((least_spec (p := fun n => ∃ s, _ ∧ I s w' ∧ μ s = n) ⟨s', ⟨rfl, rfl, rfl, rfl, rfl, rfl, rfl, trivial⟩, hI', rfl⟩).2 _ ⟨s', ⟨rfl, rfl, rfl, rfl, rfl, rfl, rfl, trivial⟩, hI', rfl⟩) hlt
theorem Loop8.st {s0 s1 s2 s3 s4 s5 s6 s7 : Value} {body : Value → Value → Value → Value → Value → Value → Value → Value → (Value → Value → Value → Value → Value → Value → Value → Value → World → Prop) → World → Prop} {w : World} {St : Type} (f0 f1 f2 f3 f4 f5 f6 f7 : St → Value) (I : St → World → Prop) (μ : St → Nat) (s : St) (e0 : s0 = f0 s) (e1 : s1 = f1 s) (e2 : s2 = f2 s) (e3 : s3 = f3 s) (e4 : s4 = f4 s) (e5 : s5 = f5 s) (e6 : s6 = f6 s) (e7 : s7 = f7 s) (h0 : I s w)
    (round : ∀ (next : Value → Value → Value → Value → Value → Value → Value → Value → World → Prop) (s : St) (w : World), (∀ s' w', I s' w' → μ s' < μ s → next (f0 s') (f1 s') (f2 s') (f3 s') (f4 s') (f5 s') (f6 s') (f7 s') w') → I s w → body (f0 s) (f1 s) (f2 s) (f3 s) (f4 s) (f5 s) (f6 s) (f7 s) next w) : Loop8 s0 s1 s2 s3 s4 s5 s6 s7 body w := by
  refine ⟨fun v0 v1 v2 v3 v4 v5 v6 v7 w' => ∃ s, (v0 = f0 s ∧ v1 = f1 s ∧ v2 = f2 s ∧ v3 = f3 s ∧ v4 = f4 s ∧ v5 = f5 s ∧ v6 = f6 s ∧ v7 = f7 s ∧ True) ∧ I s w', fun v0 v1 v2 v3 v4 v5 v6 v7 w' => least fun n => ∃ s, (v0 = f0 s ∧ v1 = f1 s ∧ v2 = f2 s ∧ v3 = f3 s ∧ v4 = f4 s ∧ v5 = f5 s ∧ v6 = f6 s ∧ v7 = f7 s ∧ True) ∧ I s w' ∧ μ s = n, ⟨s, ⟨e0, e1, e2, e3, e4, e5, e6, e7, trivial⟩, h0⟩, ?_⟩
  rintro v0 v1 v2 v3 v4 v5 v6 v7 w ⟨sa, ha, hIa⟩
  obtain ⟨⟨s, hs, hI, hm⟩, -⟩ := least_spec (p := fun n => ∃ s, (v0 = f0 s ∧ v1 = f1 s ∧ v2 = f2 s ∧ v3 = f3 s ∧ v4 = f4 s ∧ v5 = f5 s ∧ v6 = f6 s ∧ v7 = f7 s ∧ True) ∧ I s w ∧ μ s = n) ⟨sa, ha, hIa, rfl⟩
  obtain ⟨rfl, rfl, rfl, rfl, rfl, rfl, rfl, rfl, -⟩ := hs
  refine round _ s w (fun s' w' hI' hlt => ⟨⟨s', ⟨rfl, rfl, rfl, rfl, rfl, rfl, rfl, rfl, trivial⟩, hI'⟩, ?_⟩) hI
  rw [← hm]
  exact Nat.lt_of_le_of_lt ((least_spec (p := fun n => ∃ s, _ ∧ I s w' ∧ μ s = n) ⟨s', ⟨rfl, rfl, rfl, rfl, rfl, rfl, rfl, rfl, trivial⟩, hI', rfl⟩).2 _ ⟨s', ⟨rfl, rfl, rfl, rfl, rfl, rfl, rfl, rfl, trivial⟩, hI', rfl⟩) hlt
theorem Loop9.st {s0 s1 s2 s3 s4 s5 s6 s7 s8 : Value} {body : Value → Value → Value → Value → Value → Value → Value → Value → Value → (Value → Value → Value → Value → Value → Value → Value → Value → Value → World → Prop) → World → Prop} {w : World} {St : Type} (f0 f1 f2 f3 f4 f5 f6 f7 f8 : St → Value) (I : St → World → Prop) (μ : St → Nat) (s : St) (e0 : s0 = f0 s) (e1 : s1 = f1 s) (e2 : s2 = f2 s) (e3 : s3 = f3 s) (e4 : s4 = f4 s) (e5 : s5 = f5 s) (e6 : s6 = f6 s) (e7 : s7 = f7 s) (e8 : s8 = f8 s) (h0 : I s w)
    (round : ∀ (next : Value → Value → Value → Value → Value → Value → Value → Value → Value → World → Prop) (s : St) (w : World), (∀ s' w', I s' w' → μ s' < μ s → next (f0 s') (f1 s') (f2 s') (f3 s') (f4 s') (f5 s') (f6 s') (f7 s') (f8 s') w') → I s w → body (f0 s) (f1 s) (f2 s) (f3 s) (f4 s) (f5 s) (f6 s) (f7 s) (f8 s) next w) : Loop9 s0 s1 s2 s3 s4 s5 s6 s7 s8 body w := by
  refine ⟨fun v0 v1 v2 v3 v4 v5 v6 v7 v8 w' => ∃ s, (v0 = f0 s ∧ v1 = f1 s ∧ v2 = f2 s ∧ v3 = f3 s ∧ v4 = f4 s ∧ v5 = f5 s ∧ v6 = f6 s ∧ v7 = f7 s ∧ v8 = f8 s ∧ True) ∧ I s w', fun v0 v1 v2 v3 v4 v5 v6 v7 v8 w' => least fun n => ∃ s, (v0 = f0 s ∧ v1 = f1 s ∧ v2 = f2 s ∧ v3 = f3 s ∧ v4 = f4 s ∧ v5 = f5 s ∧ v6 = f6 s ∧ v7 = f7 s ∧ v8 = f8 s ∧ True) ∧ I s w' ∧ μ s = n, ⟨s, ⟨e0, e1, e2, e3, e4, e5, e6, e7, e8, trivial⟩, h0⟩, ?_⟩
  rintro v0 v1 v2 v3 v4 v5 v6 v7 v8 w ⟨sa, ha, hIa⟩
  obtain ⟨⟨s, hs, hI, hm⟩, -⟩ := least_spec (p := fun n => ∃ s, (v0 = f0 s ∧ v1 = f1 s ∧ v2 = f2 s ∧ v3 = f3 s ∧ v4 = f4 s ∧ v5 = f5 s ∧ v6 = f6 s ∧ v7 = f7 s ∧ v8 = f8 s ∧ True) ∧ I s w ∧ μ s = n) ⟨sa, ha, hIa, rfl⟩
  obtain ⟨rfl, rfl, rfl, rfl, rfl, rfl, rfl, rfl, rfl, -⟩ := hs
  refine round _ s w (fun s' w' hI' hlt => ⟨⟨s', ⟨rfl, rfl, rfl, rfl, rfl, rfl, rfl, rfl, rfl, trivial⟩, hI'⟩, ?_⟩) hI
  rw [← hm]
  exact Nat.lt_of_le_of_lt ((least_spec (p := fun n => ∃ s, _ ∧ I s w' ∧ μ s = n) ⟨s', ⟨rfl, rfl, rfl, rfl, rfl, rfl, rfl, rfl, rfl, trivial⟩, hI', rfl⟩).2 _ ⟨s', ⟨rfl, rfl, rfl, rfl, rfl, rfl, rfl, rfl, rfl, trivial⟩, hI', rfl⟩) hlt
theorem Loop10.st {s0 s1 s2 s3 s4 s5 s6 s7 s8 s9 : Value} {body : Value → Value → Value → Value → Value → Value → Value → Value → Value → Value → (Value → Value → Value → Value → Value → Value → Value → Value → Value → Value → World → Prop) → World → Prop} {w : World} {St : Type} (f0 f1 f2 f3 f4 f5 f6 f7 f8 f9 : St → Value) (I : St → World → Prop) (μ : St → Nat) (s : St) (e0 : s0 = f0 s) (e1 : s1 = f1 s) (e2 : s2 = f2 s) (e3 : s3 = f3 s) (e4 : s4 = f4 s) (e5 : s5 = f5 s) (e6 : s6 = f6 s) (e7 : s7 = f7 s) (e8 : s8 = f8 s) (e9 : s9 = f9 s) (h0 : I s w)
    (round : ∀ (next : Value → Value → Value → Value → Value → Value → Value → Value → Value → Value → World → Prop) (s : St) (w : World), (∀ s' w', I s' w' → μ s' < μ s → next (f0 s') (f1 s') (f2 s') (f3 s') (f4 s') (f5 s') (f6 s') (f7 s') (f8 s') (f9 s') w') → I s w → body (f0 s) (f1 s) (f2 s) (f3 s) (f4 s) (f5 s) (f6 s) (f7 s) (f8 s) (f9 s) next w) : Loop10 s0 s1 s2 s3 s4 s5 s6 s7 s8 s9 body w := by
  refine ⟨fun v0 v1 v2 v3 v4 v5 v6 v7 v8 v9 w' => ∃ s, (v0 = f0 s ∧ v1 = f1 s ∧ v2 = f2 s ∧ v3 = f3 s ∧ v4 = f4 s ∧ v5 = f5 s ∧ v6 = f6 s ∧ v7 = f7 s ∧ v8 = f8 s ∧ v9 = f9 s ∧ True) ∧ I s w', fun v0 v1 v2 v3 v4 v5 v6 v7 v8 v9 w' => least fun n => ∃ s, (v0 = f0 s ∧ v1 = f1 s ∧ v2 = f2 s ∧ v3 = f3 s ∧ v4 = f4 s ∧ v5 = f5 s ∧ v6 = f6 s ∧ v7 = f7 s ∧ v8 = f8 s ∧ v9 = f9 s ∧ True) ∧ I s w' ∧ μ s = n, ⟨s, ⟨e0, e1, e2, e3, e4, e5, e6, e7, e8, e9, trivial⟩, h0⟩, ?_⟩
  rintro v0 v1 v2 v3 v4 v5 v6 v7 v8 v9 w ⟨sa, ha, hIa⟩
  obtain ⟨⟨s, hs, hI, hm⟩, -⟩ := least_spec (p := fun n => ∃ s, (v0 = f0 s ∧ v1 = f1 s ∧ v2 = f2 s ∧ v3 = f3 s ∧ v4 = f4 s ∧ v5 = f5 s ∧ v6 = f6 s ∧ v7 = f7 s ∧ v8 = f8 s ∧ v9 = f9 s ∧ True) ∧ I s w ∧ μ s = n) ⟨sa, ha, hIa, rfl⟩
  obtain ⟨rfl, rfl, rfl, rfl, rfl, rfl, rfl, rfl, rfl, rfl, -⟩ := hs
  refine round _ s w (fun s' w' hI' hlt => ⟨⟨s', ⟨rfl, rfl, rfl, rfl, rfl, rfl, rfl, rfl, rfl, rfl, trivial⟩, hI'⟩, ?_⟩) hI
  rw [← hm]
  exact Nat.lt_of_le_of_lt ((least_spec (p := fun n => ∃ s, _ ∧ I s w' ∧ μ s = n) ⟨s', ⟨rfl, rfl, rfl, rfl, rfl, rfl, rfl, rfl, rfl, rfl, trivial⟩, hI', rfl⟩).2 _ ⟨s', ⟨rfl, rfl, rfl, rfl, rfl, rfl, rfl, rfl, rfl, rfl, trivial⟩, hI', rfl⟩) hlt
end Lyc
